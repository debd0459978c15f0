/-
  SetupStarts: the walk.
-/
import Derived.Test.YtpldpkdlloolkaaVh
import Derived.Test.YtpldpkdlloolkaaTx
namespace Go.Proofs.Ytpldpkdlloolkaa
open Go.J Go.RowKit
set_option linter.unusedVariables false
set_option linter.unusedSimpArgs false
set_option maxRecDepth 8000
theorem zP_ : zeroT Try.prog 25 = some (.agg (cP zP).toArray) := by kernel_rfl
/-- a slice of the call's own that holds integers -/
def IBlk (v : Value) (n : Nat) (lj : List (Nat × Obj)) : Prop := n = 0 ∨ ∃ (q c : Nat) (ys : List Int) (sp : List Value), v = .slice (some ⟨q, 0, none⟩) n c ∧ lj = [(q, cb (ys.map iV ++ sp) 3)] ∧ ys.length = n ∧ n ≤ c
theorem iblk_of {v : Value} {xs : List Int} {lp : List (Nat × Obj)} (h : Vec 3 1 v xs.length (xs.map iV) lp) : IBlk v xs.length lp := by
  rcases h.2 with ⟨_, h2, _⟩ | ⟨b, c, sp, h1, h2, h3, h4⟩
  · exact .inl h2
  · exact .inr ⟨b, c, xs, sp, h1, h2, rfl, h4⟩
theorem iblk_pos {a : Option Addr} {n c : Nat} {lp : List (Nat × Obj)} (h : IBlk (.slice a n c) n lp) (h0 : 0 < n) : ∃ (q : Nat) (ys : List Int) (sp : List Value), a = some ⟨q, 0, none⟩ ∧ lp = [(q, cb (ys.map iV ++ sp) 3)] ∧ ys.length = n ∧ n ≤ c := by
  rcases h with h | ⟨q, c', ys, sp, h1, h2, h3, h4⟩
  · omega
  · simp only [Value.slice.injEq] at h1
    obtain ⟨rfl, _, rfl⟩ := h1
    exact ⟨q, ys, sp, rfl, h2, h3, h4⟩
theorem set_int {ys : List Int} {sp : List Value} {i o : Nat} {z : Int} (h : i < ys.length) (ho : o = i) : setMany (ys.map iV ++ sp) o [iV z] = (ys.set i z).map iV ++ sp := by
  subst ho
  rw [setMany_eq _ _ _ (by simp; omega)]
  simp only [List.length_singleton]
  rw [List.take_append_of_le_length (by simp; omega), List.drop_append_of_le_length (by simp; omega), List.set_eq_take_append_cons_drop, if_pos h]
  simp [List.map_take, List.map_drop]

set_option maxHeartbeats 2000000 in
theorem setupStarts_spec (ev tv ov : Value) (xs : List EV) (way : List Int) (os : List Bool) (most n : Int) (me b : IDV) (p : PV) (w : World) (hre : Row w ev xs.length (fE xs)) (hok : ∀ x, x ∈ xs → okE x) (hxl : xs.length ≤ 1954687338213) (hr : Row w tv way.length (way.map iV)) (hlw2 : way.length ≤ 17592186043904) (hro : Row w ov os.length (os.map bV)) (hlo2 : os.length ≤ 140737488351232) (hkp : okN p.n) (cc cy : List Value) (hcc : cc = [ev, iV most] ++ cW n me ++ [ov]) (hcy : cy = cP p ++ cI b ++ [tv]) :
    Calls Try.prog 12 [.agg cc.toArray, .agg cy.toArray].toArray w fun r w' => r = .returned (.bool true) ∧ Bel w w' := by
  obtain ⟨ae, ce, rfl, hce, _⟩ := id hre
  obtain ⟨aw, cw, rfl, hcw, _⟩ := id hr
  obtain ⟨ao, co_, rfl, hco, _⟩ := id hro
  obtain ⟨mo, hmo⟩ : ∃ mo, min (max most 0) 128 = mo := ⟨_, rfl⟩
  have hmb : mo ≤ 128 := by omega
  refine calls_of_J (args := [.agg cc.toArray, .agg cy.toArray]) (e := [(0, .agg cc.toArray), (1, .agg cy.toArray)]) Try.func12 rfl rfl ⟨rfl, rfl, trivial⟩ (St.start w) ?_
  refine JC.seq (fun K0 hK0 => ?_)
  refine JC.region ?_
  refine J.box rfl rfl rfl (fun b2 => ?_)
  refine J.box rfl rfl rfl (fun b3 => ?_)
  refine J.assign rfl rfl ?_
  refine J.nil ?_
  refine JX.thenN (hK0 _ _ ?_)
  refine JC.seq (fun K1 hK1 => ?_)
  subst hcc
  subst hcy
  apply JC.drawX (α := Nat × Nat) 11 (fun x => match x with | ⟨x5, x6⟩ => [.pointer (some ⟨b3, 0 + 0, none⟩), .agg (cP p).toArray, .pointer (some ⟨b3, 0 + 17, none⟩), .agg (cI b).toArray, .pointer (some ⟨b3, 0 + 33, none⟩), .slice aw way.length cw, .pointer (some ⟨x5, 0, none⟩), .pointer (some ⟨x6, 0, none⟩), undef, undef, .slice aw way.length cw]) (fun m x => match x with | ⟨x5, x6⟩ => fun w1 => ((m 8 = true → m 6 = true) ∧ (m 9 = true → m 7 = true)) ∧ St w [] ((b3, cb (cP p ++ cI b ++ [.slice aw way.length cw]) 87) :: (b2, cb ([.slice ae xs.length ce, iV most] ++ cW n me ++ [.slice ao os.length co_]) 85) :: ((bif m 6 then [(x5, cb (bif m 8 then cP p else cP zP) 25)] else []) ++ (bif m 7 then [(x6, cb (bif m 9 then cI b else cI zI) 23)] else []))) w1) Ty.mixed rfl rfl rfl (by kernel_rfl) rfl rfl ?hinit ?hstep ?htail
  case hinit => exact fun w1 hw => ⟨(0, 0), ⟨fun h => (by cases h), fun h => (by cases h)⟩, hw.drew⟩
  case hstep =>
    refine ⟨fun m x hm hp => ?_, fun m x hm hp => ?_, fun m x hm hp => ?_, fun m x hm hp => ?_, fun m x hm hp => ?_, fun m x hm hp => ?_, fun m x hm hp => ?_, fun m x hm hp => ?_, fun m x hm hp => ?_, fun m x hm hp => ?_, fun m x hm hp => ?_, trivial⟩
    · skip
      obtain ⟨x5, x6⟩ := x
      show J _ _ _ _ _ (_) _
      refine J.pr (fun hF => ?_)
      refine J.fieldAddr Ty.fd87_0 rfl rfl ?_
      exact J.finX rfl (fun _ hw => ⟨⟨x5, x6⟩, rfl, fun _ _ _ => rfl, hF, hw⟩)
    · skip
      obtain ⟨x5, x6⟩ := x
      show J _ _ _ _ _ ((16, .pointer (some ⟨b3, 0 + 0, none⟩)) :: _) _
      refine J.pr (fun hF => ?_)
      refine J.loadA (vs := cP p) Ty.a25 Ty.s25 rfl rfl (fun w1 hw => Cells.of_block (hw.own _ (.head _)) rfl) rfl ?_
      exact J.finX rfl (fun _ hw => ⟨⟨x5, x6⟩, rfl, fun _ _ _ => rfl, hF, hw⟩)
    · skip
      obtain ⟨x5, x6⟩ := x
      show J _ _ _ _ _ (_) _
      refine J.pr (fun hF => ?_)
      refine J.fieldAddr Ty.fd87_1 rfl rfl ?_
      exact J.finX rfl (fun _ hw => ⟨⟨x5, x6⟩, rfl, fun _ _ _ => rfl, hF, hw⟩)
    · skip
      obtain ⟨x5, x6⟩ := x
      show J _ _ _ _ _ ((18, .pointer (some ⟨b3, 0 + 17, none⟩)) :: _) _
      refine J.pr (fun hF => ?_)
      refine J.loadA (vs := cI b) Ty.a23 Ty.s23 rfl rfl (fun w1 hw => Cells.of_block (hw.own _ (.head _)) rfl) rfl ?_
      exact J.finX rfl (fun _ hw => ⟨⟨x5, x6⟩, rfl, fun _ _ _ => rfl, hF, hw⟩)
    · skip
      obtain ⟨x5, x6⟩ := x
      show J _ _ _ _ _ (_) _
      refine J.pr (fun hF => ?_)
      refine J.fieldAddr Ty.fd87_2 rfl rfl ?_
      exact J.finX rfl (fun _ hw => ⟨⟨x5, x6⟩, rfl, fun _ _ _ => rfl, hF, hw⟩)
    · skip
      obtain ⟨x5, x6⟩ := x
      show J _ _ _ _ _ ((20, .pointer (some ⟨b3, 0 + 33, none⟩)) :: _) _
      refine J.pr (fun hF => ?_)
      refine J.load1 (v := .slice aw way.length cw) Ty.a26 rfl (fun w1 hw => by rw [cell_of (hw.own _ (.head _))]; rfl) rfl ?_
      exact J.finX rfl (fun _ hw => ⟨⟨x5, x6⟩, rfl, fun _ _ _ => rfl, hF, hw⟩)
    · skip
      obtain ⟨x5, x6⟩ := x
      show J _ _ _ _ _ (_) _
      refine J.pr (fun hF => ?_)
      have h8 : m 8 = false := by cases h : m 8 with
        | false => rfl
        | true => rw [hF.1 h] at hm; cases hm
      refine J.alloc zP_ rfl rfl (fun b5 => ?_)
      refine J.nil (JX.finB rfl (fun w1 hw => ⟨⟨⟨b5, x6⟩, rfl, fun j h1 h2 => ?_, ?_⟩, trivial⟩))
      · match j, h1 with
        | 0, _ => (first | rfl | trivial)
        | 1, _ => (first | rfl | trivial)
        | 2, _ => (first | rfl | trivial)
        | 3, _ => (first | rfl | trivial)
        | 4, _ => (first | rfl | trivial)
        | 5, _ => (first | rfl | trivial)
        | 6, _ => exact absurd (h2.symm.trans hm) (by decide)
        | 7, _ => (first | rfl | trivial)
        | 8, _ => (first | rfl | trivial)
        | 9, _ => (first | rfl | trivial)
        | 10, _ => (first | rfl | trivial)
        | j + 11, h1 => omega
      show ((m 8 = true → true = true) ∧ (m 9 = true → m 7 = true)) ∧ St w [] ((b3, cb (cP p ++ cI b ++ [.slice aw way.length cw]) 87) :: (b2, cb ([.slice ae xs.length ce, iV most] ++ cW n me ++ [.slice ao os.length co_]) 85) :: ((bif true then [(b5, cb (bif m 8 then cP p else cP zP) 25)] else []) ++ (bif m 7 then [(x6, cb (bif m 9 then cI b else cI zI) 23)] else []))) w1
      simp only [hm, h8, cond_true, cond_false] at hw ⊢
      exact ⟨⟨fun _ => (by first | trivial | rfl), hF.2⟩, hw.perm (by (refine perm_cnt (fun _ => ?_)); simp only [cntB_append, cntB_cons, cntB_nil, Nat.add_zero, Nat.zero_add]; try ac_rfl)⟩
    · skip
      obtain ⟨x5, x6⟩ := x
      show J _ _ _ _ _ (_) _
      refine J.pr (fun hF => ?_)
      have h9 : m 9 = false := by cases h : m 9 with
        | false => rfl
        | true => rw [hF.2 h] at hm; cases hm
      refine J.alloc Ty.zID rfl rfl (fun b6 => ?_)
      refine J.nil (JX.finB rfl (fun w1 hw => ⟨⟨⟨x5, b6⟩, rfl, fun j h1 h2 => ?_, ?_⟩, trivial⟩))
      · match j, h1 with
        | 0, _ => (first | rfl | trivial)
        | 1, _ => (first | rfl | trivial)
        | 2, _ => (first | rfl | trivial)
        | 3, _ => (first | rfl | trivial)
        | 4, _ => (first | rfl | trivial)
        | 5, _ => (first | rfl | trivial)
        | 6, _ => (first | rfl | trivial)
        | 7, _ => exact absurd (h2.symm.trans hm) (by decide)
        | 8, _ => (first | rfl | trivial)
        | 9, _ => (first | rfl | trivial)
        | 10, _ => (first | rfl | trivial)
        | j + 11, h1 => omega
      show ((m 8 = true → m 6 = true) ∧ (m 9 = true → true = true)) ∧ St w [] ((b3, cb (cP p ++ cI b ++ [.slice aw way.length cw]) 87) :: (b2, cb ([.slice ae xs.length ce, iV most] ++ cW n me ++ [.slice ao os.length co_]) 85) :: ((bif m 6 then [(x5, cb (bif m 8 then cP p else cP zP) 25)] else []) ++ (bif true then [(b6, cb (bif m 9 then cI b else cI zI) 23)] else []))) w1
      simp only [hm, h9, cond_true, cond_false] at hw ⊢
      exact ⟨⟨hF.1, fun _ => (by first | trivial | rfl)⟩, hw.perm (by (refine perm_cnt (fun _ => ?_)); simp only [cntB_append, cntB_cons, cntB_nil, Nat.add_zero, Nat.zero_add]; try ac_rfl)⟩
    · skip
      obtain ⟨x5, x6⟩ := x
      show J _ _ _ _ _ ((6, .pointer (some ⟨x6, 0, none⟩)) :: (5, .pointer (some ⟨x5, 0, none⟩)) :: (17, .agg (cP p).toArray) :: (16, .pointer (some ⟨b3, 0 + 0, none⟩)) :: (17, .agg (cP p).toArray) :: (5, .pointer (some ⟨x5, 0, none⟩)) :: _) _
      have hp6 : m 6 = true := predsT hp (by kernel_rfl)
      have hp6 : m 6 = true := predsT hp (by kernel_rfl)
      have hp7 : m 7 = true := predsT hp (by kernel_rfl)
      refine J.pr (fun hF => ?_)
      refine J.conseq (I' := St w [] ((b3, cb (cP p ++ cI b ++ [.slice aw way.length cw]) 87) :: (b2, cb ([.slice ae xs.length ce, iV most] ++ cW n me ++ [.slice ao os.length co_]) 85) :: (x5, cb (cP zP) 25) :: (bif m 7 then [(x6, cb (bif m 9 then cI b else cI zI) 23)] else []))) ?_ (fun w1 hw => by simp only [hm, hp6, cond_true, cond_false] at hw; exact hw)
      refine J.storeW (cs := cP zP) (vs := cP p) Ty.s25 rfl rfl rfl rfl rfl (one_cP _) (.there (.there .here)) ?_
      refine J.nil (JX.finN undef (fun w1 hw => ⟨⟨x5, x6⟩, rfl, fun j h1 h2 => ?_, ?_⟩))
      · match j, h1 with
        | 0, _ => (first | rfl | trivial)
        | 1, _ => (first | rfl | trivial)
        | 2, _ => (first | rfl | trivial)
        | 3, _ => (first | rfl | trivial)
        | 4, _ => (first | rfl | trivial)
        | 5, _ => (first | rfl | trivial)
        | 6, _ => (first | rfl | trivial)
        | 7, _ => (first | rfl | trivial)
        | 8, _ => (first | rfl | trivial)
        | 9, _ => (first | rfl | trivial)
        | 10, _ => (first | rfl | trivial)
        | j + 11, h1 => omega
      show ((true = true → m 6 = true) ∧ (m 9 = true → m 7 = true)) ∧ St w [] ((b3, cb (cP p ++ cI b ++ [.slice aw way.length cw]) 87) :: (b2, cb ([.slice ae xs.length ce, iV most] ++ cW n me ++ [.slice ao os.length co_]) 85) :: ((bif m 6 then [(x5, cb (bif true then cP p else cP zP) 25)] else []) ++ (bif m 7 then [(x6, cb (bif m 9 then cI b else cI zI) 23)] else []))) w1
      simp only [hm, hp6, cond_true, cond_false] at hw ⊢
      exact ⟨⟨fun _ => (by first | trivial | rfl), hF.2⟩, hw⟩
    · skip
      obtain ⟨x5, x6⟩ := x
      show J _ _ _ _ _ ((6, .pointer (some ⟨x6, 0, none⟩)) :: (5, .pointer (some ⟨x5, 0, none⟩)) :: (19, .agg (cI b).toArray) :: (18, .pointer (some ⟨b3, 0 + 17, none⟩)) :: (17, .agg (cP p).toArray) :: (16, .pointer (some ⟨b3, 0 + 0, none⟩)) :: (19, .agg (cI b).toArray) :: (6, .pointer (some ⟨x6, 0, none⟩)) :: _) _
      have hp7 : m 7 = true := predsT hp (by kernel_rfl)
      have hp8 : m 8 = true := predsT hp (by kernel_rfl)
      have hp6 : m 6 = true := predsT hp (by kernel_rfl)
      have hp7 : m 7 = true := predsT hp (by kernel_rfl)
      have hp8 : m 8 = true := predsT hp (by kernel_rfl)
      refine J.pr (fun hF => ?_)
      refine J.conseq (I' := St w [] ((x6, cb (cI zI) 23) :: (b3, cb (cP p ++ cI b ++ [.slice aw way.length cw]) 87) :: (b2, cb ([.slice ae xs.length ce, iV most] ++ cW n me ++ [.slice ao os.length co_]) 85) :: (bif m 6 then [(x5, cb (bif m 8 then cP p else cP zP) 25)] else []))) ?_ (fun w1 hw => by simp only [hm, hp7, cond_true, cond_false] at hw; exact hw.perm (by (refine perm_cnt (fun _ => ?_)); simp only [cntB_append, cntB_cons, cntB_nil, Nat.add_zero, Nat.zero_add]; try ac_rfl))
      refine J.storeW (cs := cI zI) (vs := cI b) Ty.s23 rfl rfl rfl rfl rfl (one_cI _) .here ?_
      refine J.nil (JX.finN undef (fun w1 hw => ⟨⟨x5, x6⟩, rfl, fun j h1 h2 => ?_, ?_⟩))
      · match j, h1 with
        | 0, _ => (first | rfl | trivial)
        | 1, _ => (first | rfl | trivial)
        | 2, _ => (first | rfl | trivial)
        | 3, _ => (first | rfl | trivial)
        | 4, _ => (first | rfl | trivial)
        | 5, _ => (first | rfl | trivial)
        | 6, _ => (first | rfl | trivial)
        | 7, _ => (first | rfl | trivial)
        | 8, _ => (first | rfl | trivial)
        | 9, _ => (first | rfl | trivial)
        | 10, _ => (first | rfl | trivial)
        | j + 11, h1 => omega
      show ((m 8 = true → m 6 = true) ∧ (true = true → m 7 = true)) ∧ St w [] ((b3, cb (cP p ++ cI b ++ [.slice aw way.length cw]) 87) :: (b2, cb ([.slice ae xs.length ce, iV most] ++ cW n me ++ [.slice ao os.length co_]) 85) :: ((bif m 6 then [(x5, cb (bif m 8 then cP p else cP zP) 25)] else []) ++ (bif m 7 then [(x6, cb (bif true then cI b else cI zI) 23)] else []))) w1
      simp only [hm, hp7, cond_true, cond_false] at hw ⊢
      exact ⟨⟨hF.1, fun _ => (by first | trivial | rfl)⟩, hw.perm (by (refine perm_cnt (fun _ => ?_)); simp only [cntB_append, cntB_cons, cntB_nil, Nat.add_zero, Nat.zero_add]; try ac_rfl)⟩
    · skip
      obtain ⟨x5, x6⟩ := x
      show J _ _ _ _ _ ((6, .pointer (some ⟨x6, 0, none⟩)) :: (5, .pointer (some ⟨x5, 0, none⟩)) :: (21, .slice aw way.length cw) :: (20, .pointer (some ⟨b3, 0 + 33, none⟩)) :: (19, .agg (cI b).toArray) :: (18, .pointer (some ⟨b3, 0 + 17, none⟩)) :: (17, .agg (cP p).toArray) :: (16, .pointer (some ⟨b3, 0 + 0, none⟩)) :: (21, .slice aw way.length cw) :: _) _
      have hp9 : m 9 = true := predsT hp (by kernel_rfl)
      have hp6 : m 6 = true := predsT hp (by kernel_rfl)
      have hp7 : m 7 = true := predsT hp (by kernel_rfl)
      have hp8 : m 8 = true := predsT hp (by kernel_rfl)
      have hp9 : m 9 = true := predsT hp (by kernel_rfl)
      refine J.pr (fun hF => ?_)
      refine J.assign rfl rfl ?_
      exact J.finX rfl (fun _ hw => ⟨⟨x5, x6⟩, rfl, fun _ _ _ => rfl, hF, hw⟩)
  case htail =>
    intro x
    obtain ⟨x5, x6⟩ := x
    show J _ _ _ _ _ ((7, .slice aw way.length cw) :: (6, .pointer (some ⟨x6, 0, none⟩)) :: (5, .pointer (some ⟨x5, 0, none⟩)) :: (21, .slice aw way.length cw) :: (20, .pointer (some ⟨b3, 0 + 33, none⟩)) :: (19, .agg (cI b).toArray) :: (18, .pointer (some ⟨b3, 0 + 17, none⟩)) :: (17, .agg (cP p).toArray) :: (16, .pointer (some ⟨b3, 0 + 0, none⟩)) :: _) (fun w1 => ((true = true → true = true) ∧ (true = true → true = true)) ∧ St w [] ((b3, cb (cP p ++ cI b ++ [.slice aw way.length cw]) 87) :: (b2, cb ([.slice ae xs.length ce, iV most] ++ cW n me ++ [.slice ao os.length co_]) 85) :: ((bif true then [(x5, cb (bif true then cP p else cP zP) 25)] else []) ++ (bif true then [(x6, cb (bif true then cI b else cI zI) 23)] else []))) w1)
    refine J.pr (fun hF => ?_)
    refine J.conseq (I' := St w [] ((b3, cb (cP p ++ cI b ++ [.slice aw way.length cw]) 87) :: (b2, cb ([.slice ae xs.length ce, iV most] ++ cW n me ++ [.slice ao os.length co_]) 85) :: (x5, cb (cP p) 25) :: (x6, cb (cI b) 23) :: [])) ?_ (fun w1 hw => by simp only [cond_true] at hw; exact hw)
    refine J.nil ?_
    refine JX.thenN (hK1 _ _ ?_)
    refine JC.seq (fun K2 hK2 => ?_)
    refine JC.region ?_
    refine J.fieldAddr Ty.fd85_0 rfl rfl ?_
    refine J.load1 (v := .slice ae xs.length ce) Ty.a62 rfl (fun w1 hw => by rw [cell_of (hw.own _ (.tail _ (.head _)))]; rfl) rfl ?_
    refine J.fieldAddr Ty.fd85_1 rfl rfl ?_
    refine J.load1 (v := iV most) Ty.a3 rfl (fun w1 hw => by rw [cell_of (hw.own _ (.tail _ (.head _)))]; rfl) rfl ?_
    refine J.perm ([] ++ ((b3, cb (cP p ++ cI b ++ [.slice aw way.length cw]) 87) :: (b2, cb ([.slice ae xs.length ce, iV most] ++ cW n me ++ [.slice ao os.length co_]) 85) :: (x5, cb (cP p) 25) :: (x6, cb (cI b) 23) :: [])) (.refl _) ?_
    refine J.callS (α := LaidS) (V := fun x => .tuple #[.pointer (some ⟨x.t1, 0, none⟩), .pointer (some ⟨x.rt, 0, none⟩)]) (Pr := fun x => Tab (laidL mo xs) x.es x.ck ∧ Vec 34 51 x.vr (ordE (laidL mo xs)).length (fE (ordE (laidL mo xs))) x.lr) (L := fun x => x.blk mo) (l1 := []) Ty.bd45 rfl rfl (fun w1 hw => laid_spec _ xs most w1 (hre.below (hw.drop (List.nil_sublist _)).below) hok hxl hmo) (fun q hq => ?_)
    obtain ⟨t1, m1, rt, es, ck, vr, lr⟩ := q
    obtain ⟨hT, hvr⟩ := hq
    simp only [LaidS.blk, List.cons_append] at hT hvr ⊢
    obtain ⟨L, hLe⟩ : ∃ L, laidL mo xs = L := ⟨_, rfl⟩
    have hG := laidL_good mo xs
    rw [hLe] at hT hvr hG
    obtain ⟨ar, cr, rfl, hcr⟩ := hvr.form
    have hlen := hG.len
    have hol := (ordE_perm L).length_eq
    have hl128 : L.length ≤ 128 := by omega
    have ho128 : (ordE L).length ≤ 128 := by omega
    refine J.perm ((t1, tabO mo m1) :: (m1, .map es ck) :: (b3, cb (cP p ++ cI b ++ [.slice aw way.length cw]) 87) :: (b2, cb ([.slice ae xs.length ce, iV most] ++ cW n me ++ [.slice ao os.length co_]) 85) :: (x5, cb (cP p) 25) :: (x6, cb (cI b) 23) :: (rt, rtabO (.slice ar (ordE L).length cr) mo) :: lr) (by (refine perm_cnt (fun _ => ?_)); simp only [cntB_append, cntB_cons, cntB_nil, Nat.add_zero, Nat.zero_add]; try ac_rfl) ?_
    refine J.move rfl rfl ?_
    refine J.extract rfl rfl rfl ?_
    refine J.extract rfl rfl rfl ?_
    refine J.assign rfl rfl ?_
    refine J.assign rfl rfl ?_
    refine J.nil ?_
    refine JX.thenN (hK2 _ _ ?_)
    refine JC.seq (fun K3 hK3 => ?_)
    refine JC.region ?_
    refine J.buildSl (cs := []) Ty.el26 Ty.s3 Ty.z3 rfl rfl rfl rfl rfl rfl rfl (fun b30 => ?_)
    refine J.move rfl rfl ?_
    refine J.perm ([(b30, cb [] 3)] ++ ((t1, tabO mo m1) :: (m1, .map es ck) :: (b3, cb (cP p ++ cI b ++ [.slice aw way.length cw]) 87) :: (b2, cb ([.slice ae xs.length ce, iV most] ++ cW n me ++ [.slice ao os.length co_]) 85) :: (x5, cb (cP p) 25) :: (x6, cb (cI b) 23) :: (rt, rtabO (.slice ar (ordE L).length cr) mo) :: lr)) (.refl _) ?_
    refine J.append (lp := [(b30, cb [] 3)]) (xs := []) (ys := way.map iV) (k := 0) (m := way.length) Ty.el26 Ty.s3 Ty.b3 Ty.z3 rfl (.inl ⟨3, Ty.u26⟩) rfl rfl ⟨rfl, .inr ⟨b30, 0, [], rfl, rfl, rfl, Nat.le_refl _⟩⟩ (fun w3 hw3 => .inl (hr.below (hw3.drop (List.nil_sublist _)).below)) (by simp) (by simp [Value.oneCell']) (by omega) (by omega) rfl (fun vw lw hvw => ?_)
    rw [Nat.zero_add, List.nil_append] at hvw
    obtain ⟨av, cv, rfl, hcv⟩ := hvw.form
    refine J.perm ((t1, tabO mo m1) :: (m1, .map es ck) :: (b3, cb (cP p ++ cI b ++ [.slice aw way.length cw]) 87) :: (b2, cb ([.slice ae xs.length ce, iV most] ++ cW n me ++ [.slice ao os.length co_]) 85) :: (x5, cb (cP p) 25) :: (x6, cb (cI b) 23) :: (rt, rtabO (.slice ar (ordE L).length cr) mo) :: (lr ++ lw)) (by (refine perm_cnt (fun _ => ?_)); simp only [cntB_append, cntB_cons, cntB_nil, Nat.add_zero, Nat.zero_add]; try ac_rfl) ?_
    refine J.assign rfl rfl ?_
    refine J.nil ?_
    refine JX.thenN (hK3 _ _ ?_)
    refine JC.seq (fun K4 hK4 => ?_)
    by_cases hbad : badW n me b way
    · skip
      refine JC.region ?_
      refine J.move rfl rfl ?_
      refine J.fieldAddr Ty.fd85_2 rfl rfl ?_
      refine J.loadOA (vs := cW n me) Ty.a41 Ty.s41 rfl (.tail _ (.tail _ (.tail _ (.head _)))) rfl rfl rfl ?_
      refine J.loadOA (vs := cP p) Ty.a25 Ty.s25 rfl (.tail _ (.tail _ (.tail _ (.tail _ (.head _))))) rfl rfl rfl ?_
      refine J.loadOA (vs := cI b) Ty.a23 Ty.s23 rfl (.tail _ (.tail _ (.tail _ (.tail _ (.tail _ (.head _)))))) rfl rfl rfl ?_
      refine J.move rfl rfl ?_
      refine J.fieldAddr Ty.fd85_3 rfl rfl ?_
      refine J.loadO Ty.a28 rfl (.tail _ (.tail _ (.tail _ (.head _)))) rfl rfl ?_
      refine J.callB (v := .tuple #[.agg (cD nilV false false).toArray, .int .i64 1]) (fun w1 w2 hw hb => hw.step hb) Ty.bd18 rfl rfl (fun w1 hw => start_arg t1 n me b p _ way _ os w1 (vec_rowM hvw hw (fun q hq => by first | (simp [hq]; done) | (simp at hq; simp [hq]; done) | (simp at hq; subst hq; simp))) (by omega) (hro.below (hw.drop (List.nil_sublist _)).below) (by omega) hbad) ?_
      refine J.move rfl rfl ?_
      refine J.extract rfl rfl rfl ?_
      refine J.extract rfl rfl rfl ?_
      refine J.alloc zN rfl rfl (fun b11 => ?_)
      refine J.storeW Ty.s37 rfl rfl rfl rfl rfl (by simp [Value.oneCell']) (by repeat first | exact .here | apply Up.there) ?_
      refine J.assign rfl rfl ?_
      refine J.nil ?_
      refine JX.thenN (hK4 _ _ ?_)
      refine JC.seq (fun K5 hK5 => ?_)
      refine JC.region ?_
      refine J.move rfl rfl ?_
      refine J.fieldAddr Ty.fd85_2 rfl rfl ?_
      refine J.fieldAddr Ty.fd41_0 rfl rfl ?_
      refine J.loadO Ty.a3 rfl (by repeat first | exact .head _ | apply List.Mem.tail | apply List.mem_append_right) (by exact rfl) rfl ?_
      refine J.fieldAddr Ty.fd85_2 rfl rfl ?_
      refine J.fieldAddr Ty.fd41_1 rfl rfl ?_
      refine J.loadOA Ty.a23 Ty.s23 rfl (by repeat first | exact .head _ | apply List.Mem.tail | apply List.mem_append_right) (by exact rfl) rfl rfl ?_
      refine J.loadOA Ty.a25 Ty.s25 rfl (by repeat first | exact .head _ | apply List.Mem.tail | apply List.mem_append_right) (by exact rfl) rfl rfl ?_
      refine J.loadOA Ty.a23 Ty.s23 rfl (by repeat first | exact .head _ | apply List.Mem.tail | apply List.mem_append_right) (by exact rfl) rfl rfl ?_
      refine J.move rfl rfl ?_
      refine J.fieldAddr Ty.fd85_3 rfl rfl ?_
      refine J.loadO Ty.a28 rfl (by repeat first | exact .head _ | apply List.Mem.tail | apply List.mem_append_right) (by exact rfl) rfl ?_
      refine J.callB (v := .tuple #[.agg (cD nilV false false).toArray, .int .i64 1]) (fun w1 w2 hw hb => hw.step hb) Ty.bd46 rfl rfl (fun w1 hw => rstart_arg rt n me b p _ way _ os w1 (hr.below (hw.drop (List.nil_sublist _)).below) (by omega) (hro.below (hw.drop (List.nil_sublist _)).below) (by omega) hbad) ?_
      refine J.move rfl rfl ?_
      refine J.extract rfl rfl rfl ?_
      refine J.extract rfl rfl rfl ?_
      refine J.alloc zN_ rfl rfl (fun b13 => ?_)
      refine J.storeW Ty.s90 rfl rfl rfl rfl rfl (by simp [Value.oneCell']) (by repeat first | exact .here | apply Up.there) ?_
      refine J.assign rfl rfl ?_
      refine J.nil ?_
      refine JX.thenN (hK5 _ _ ?_)
      refine JC.seq (fun K6 hK6 => ?_)
      refine JC.seq (fun K7 hK7 => ?_)
      refine JC.region ?_
      refine J.move rfl rfl ?_
      refine J.lenS rfl Ty.u26 rfl rfl ?_
      refine J.move rfl rfl ?_
      refine J.nil ?_
      refine JX.thenN (hK7 _ _ ?_)
      refine JC.block ?_
      refine JC.conseq (JC.cov (f := (fun st => [(8, .pointer (some ⟨t1, 0, none⟩)), (9, .pointer (some ⟨rt, 0, none⟩)), (11, .pointer (some ⟨b11, 0, none⟩)), (12, .int .i64 1), (13, .pointer (some ⟨b13, 0, none⟩)), (14, .int .i64 1), (10, .slice av way.length cv), (62, .int .i64 ((way.length : Nat) : Int)), (63, .int .i64 ((st.1 : Nat) : Int))]) ((0, lw) : Nat × List (Nat × Obj))) ⟨rfl, rfl, rfl, rfl, rfl, rfl, rfl, rfl, rfl, trivial⟩ (JC.loop (α := Nat × List (Nat × Obj)) (fun st => [(8, .pointer (some ⟨t1, 0, none⟩)), (9, .pointer (some ⟨rt, 0, none⟩)), (11, .pointer (some ⟨b11, 0, none⟩)), (12, .int .i64 1), (13, .pointer (some ⟨b13, 0, none⟩)), (14, .int .i64 1), (10, .slice av way.length cv), (62, .int .i64 ((way.length : Nat) : Int)), (63, .int .i64 ((st.1 : Nat) : Int))]) (fun st w' => (st.1 ≤ way.length ∧ IBlk (.slice av way.length cv) way.length st.2) ∧ St w [] (st.2 ++ ((b13, cb (cD nilV false false) 90) :: (b11, cb (cD nilV false false) 37) :: (t1, tabO mo m1) :: (m1, .map es ck) :: (b3, cb (cP p ++ cI b ++ [.slice aw way.length cw]) 87) :: (b2, cb ([.slice ae xs.length ce, iV most] ++ cW n me ++ [.slice ao os.length co_]) 85) :: (x5, cb (cP p) 25) :: (x6, cb (cI b) 23) :: (rt, rtabO (.slice ar (ordE L).length cr) mo) :: lr)) w') (fun st => way.length - st.1) ((0, lw) : Nat × List (Nat × Obj)) (fun st => ?_))) (fun w hw => ⟨⟨Nat.zero_le _, iblk_of hvw⟩, hw.perm (by (refine perm_cnt (fun _ => ?_)); simp only [cntB_append, cntB_cons, cntB_nil, Nat.add_zero, Nat.zero_add]; try ac_rfl)⟩)
      obtain ⟨i, lj⟩ := st
      refine JC.pr (fun hx1 => ?_)
      obtain ⟨hi, hbl⟩ := hx1
      simp only at hi hbl ⊢
      refine JC.seq (fun K8 hK8 => ?_)
      refine JC.region ?_
      refine J.bin rfl rfl rfl rfl ?_
      refine J.nil ?_
      refine JX.thenN (hK8 _ _ ?_)
      refine JC.seq (fun K9 hK9 => ?_)
      refine JC.cond rfl (fun h0 => ?_) (fun h0 => ?_)
      · skip
        have hlt : i < way.length := by simp at h0; omega
        obtain ⟨qv, ys, sp, rfl, rfl, hys, hyc⟩ := iblk_pos hbl (by omega)
        obtain ⟨yi, hyi⟩ : ∃ y, ys[i]? = some y := ⟨_, List.getElem?_eq_getElem (by omega)⟩
        refine JC.skip ?_
        refine JX.thenN (hK9 _ _ ?_)
        refine JC.seq (fun K10 hK10 => ?_)
        refine JC.block ?_
        refine JC.seq (fun K11 hK11 => ?_)
        refine JC.region ?_
        refine J.move rfl rfl ?_
        refine J.assign rfl rfl ?_
        refine J.nil ?_
        refine JX.thenN (hK11 _ _ ?_)
        refine JC.region ?_
        refine J.move rfl rfl ?_
        refine J.move rfl rfl ?_
        refine J.indexAddrS Ty.el26 Ty.s3 rfl rfl (by omega) (by omega) rfl ?_
        refine J.load1 (v := iV yi) Ty.a3 rfl (fun w1 hw => rowI_at2 (i := i) (Row.own (cs := ys.map iV ++ sp) (tb := 3) (fr := (0, 0)) hw (.head _) (by simp) hyc : Row w1 (.slice (some ⟨qv, 0, none⟩) way.length cv) way.length (ys.map iV)) hyi (by simp)) rfl ?_
        refine J.bin rfl rfl rfl rfl ?_
        refine J.name 70 rfl (show _ = iV (IntKind.wrap .i64 (yi + 1)) from rfl) ?_
        refine J.indexAddrS Ty.el26 Ty.s3 rfl rfl (by omega) (by omega) rfl ?_
        refine J.storeO (cs := ys.map iV ++ sp) (vs := [iV (IntKind.wrap .i64 (yi + 1))]) Ty.s3 rfl rfl rfl rfl (by simp [Value.oneCell']) .here (by simp; omega) ?_
        refine J.nil ?_
        refine JX.blockN ?_
        refine JX.thenN (hK10 _ _ ?_)
        refine JC.region ?_
        (first | refine J.addN rfl rfl (by omega) (by omega) rfl ?_ | refine J.bin rfl rfl rfl rfl ?_)
        refine J.move rfl rfl ?_
        refine J.nil ?_
        refine JX.thenN ?_
        refine JX.again ((i + 1, [(qv, cb ((ys.set i (IntKind.wrap .i64 (yi + 1))).map iV ++ sp) 3)]) : Nat × List (Nat × Obj)) ?_ ?_ ?_
        · simp only; omega
        · exact ⟨rfl, rfl, rfl, rfl, rfl, rfl, rfl, rfl, rfl, trivial⟩
        · exact fun w1 hw => ⟨⟨hlt, .inr ⟨qv, _, _, sp, rfl, rfl, by rw [List.length_set]; exact hys, hyc⟩⟩, by rw [set_int (i := i) (by omega) (by simp)] at hw; exact hw⟩
      · skip
        refine JC.conseq (I' := St w [] ((b13, cb (cD nilV false false) 90) :: (b11, cb (cD nilV false false) 37) :: (t1, tabO mo m1) :: (m1, .map es ck) :: (b3, cb (cP p ++ cI b ++ [.slice aw way.length cw]) 87) :: (b2, cb ([.slice ae xs.length ce, iV most] ++ cW n me ++ [.slice ao os.length co_]) 85) :: (x5, cb (cP p) 25) :: (x6, cb (cI b) 23) :: (rt, rtabO (.slice ar (ordE L).length cr) mo) :: lr)) ?_ (fun w1 hw => hw.drop (List.sublist_append_right _ _))
        refine JC.exit ?_
        refine JX.thenE ?_
        refine JX.thenE ?_
        refine JX.blockE ?_
        refine JX.thenN (hK6 _ _ ?_)
        refine JC.seq (fun K12 hK12 => ?_)
        apply JC.drawX (α := Value × List (Nat × Obj)) 24 (fun x => match x with | ⟨vz, lz⟩ => [.bool true, .bool true, .pointer (some ⟨t1, 0, none⟩), .bool true, .bool true, .bool true, .agg (cD nilV false false).toArray, .agg (cD nilV false false).toArray, .bool true, .bool true, .bool true, .int .i64 1, .int .i64 1, .bool true, .bool true, .bool true, .pointer (some ⟨t1, 0, none⟩), vz, .pointer (some ⟨rt, 0, none⟩), .pointer (some ⟨rt, 0, none⟩), .pointer (some ⟨rt, 0 + 0, none⟩), .slice ar (ordE L).length cr, .bool true, .bool true]) (fun m x => match x with | ⟨vz, lz⟩ => fun w1 => (m 17 = true → Vec 34 51 vz ((ordE L)).length (fE ((ordE L))) lz) ∧ St w [] ((b13, cb (cD nilV false false) 90) :: (b11, cb (cD nilV false false) 37) :: (t1, tabO mo m1) :: (m1, .map es ck) :: (b3, cb (cP p ++ cI b ++ [.slice aw way.length cw]) 87) :: (b2, cb ([.slice ae xs.length ce, iV most] ++ cW n me ++ [.slice ao os.length co_]) 85) :: (x5, cb (cP p) 25) :: (x6, cb (cI b) 23) :: (rt, rtabO (.slice ar (ordE L).length cr) mo) :: ((bif m 17 then lz else []) ++ lr)) w1) Ty.mixed rfl rfl rfl (by kernel_rfl) rfl rfl ?hinit ?hstep ?htail
        case hinit => exact fun w1 hw => ⟨(.slice none 0 0, []), fun h => (by cases h), hw.drew⟩
        case hstep =>
          refine ⟨fun m x hm hp => ?_, fun m x hm hp => ?_, fun m x hm hp => ?_, fun m x hm hp => ?_, fun m x hm hp => ?_, fun m x hm hp => ?_, fun m x hm hp => ?_, fun m x hm hp => ?_, fun m x hm hp => ?_, fun m x hm hp => ?_, fun m x hm hp => ?_, fun m x hm hp => ?_, fun m x hm hp => ?_, fun m x hm hp => ?_, fun m x hm hp => ?_, fun m x hm hp => ?_, fun m x hm hp => ?_, fun m x hm hp => ?_, fun m x hm hp => ?_, fun m x hm hp => ?_, fun m x hm hp => ?_, fun m x hm hp => ?_, fun m x hm hp => ?_, fun m x hm hp => ?_, trivial⟩
          · skip
            obtain ⟨vz, lz⟩ := x
            show J _ _ _ _ _ (_) _
            refine J.pr (fun hF => ?_)
            refine J.callB (v := .bool true) (fun w1 w2 hw hb => hw.step hb) Ty.bd15 rfl rfl (fun w1 hw => fixed14_spec w1) ?_
            exact J.finX rfl (fun _ hw => ⟨⟨vz, lz⟩, rfl, fun _ _ _ => rfl, hF, hw⟩)
          · skip
            obtain ⟨vz, lz⟩ := x
            show J _ _ _ _ _ ((73, .bool true) :: (73, .bool true) :: _) _
            refine J.pr (fun hF => ?_)
            refine J.move rfl rfl ?_
            exact J.finX rfl (fun _ hw => ⟨⟨vz, lz⟩, rfl, fun _ _ _ => rfl, hF, hw⟩)
          · skip
            obtain ⟨vz, lz⟩ := x
            show J _ _ _ _ _ ((74, .bool true) :: _) _
            refine J.pr (fun hF => ?_)
            first | refine J.skip rfl rfl rfl rfl rfl ?_ | refine J.skipU rfl rfl rfl rfl ?_ | (refine J.unguard rfl rfl rfl ?_; refine J.move rfl rfl ?_)
            exact J.finX rfl (fun _ hw => ⟨⟨vz, lz⟩, rfl, fun _ _ _ => rfl, hF, hw⟩)
          · skip
            obtain ⟨vz, lz⟩ := x
            show J _ _ _ _ _ ((74, .bool true) :: (75, .pointer (some ⟨t1, 0, none⟩)) :: _) _
            refine J.pr (fun hF => ?_)
            first | refine J.skip rfl rfl rfl rfl rfl ?_ | refine J.skipU rfl rfl rfl rfl ?_ | (refine J.unguard rfl rfl rfl ?_; refine J.neNil Ty.u29 rfl rfl rfl ?_)
            exact J.finX rfl (fun _ hw => ⟨⟨vz, lz⟩, rfl, fun _ _ _ => rfl, hF, hw⟩)
          · skip
            obtain ⟨vz, lz⟩ := x
            show J _ _ _ _ _ ((76, .bool true) :: (74, .bool true) :: _) _
            refine J.pr (fun hF => ?_)
            (first | refine J.pickT rfl rfl rfl ?_ | refine J.pickF rfl rfl rfl ?_)
            exact J.finX rfl (fun _ hw => ⟨⟨vz, lz⟩, rfl, fun _ _ _ => rfl, hF, hw⟩)
          · skip
            obtain ⟨vz, lz⟩ := x
            show J _ _ _ _ _ ((74, .bool true) :: (77, .bool true) :: _) _
            refine J.pr (fun hF => ?_)
            refine J.move rfl rfl ?_
            exact J.finX rfl (fun _ hw => ⟨⟨vz, lz⟩, rfl, fun _ _ _ => rfl, hF, hw⟩)
          · skip
            obtain ⟨vz, lz⟩ := x
            show J _ _ _ _ _ ((78, .bool true) :: _) _
            refine J.pr (fun hF => ?_)
            refine J.unguard rfl rfl rfl ?_
            refine J.loadA (vs := cD nilV false false) Ty.a37 Ty.s37 rfl rfl (fun w1 hw => Cells.of_block (hw.own _ (.tail _ (.head _))) rfl) rfl ?_
            exact J.finX rfl (fun _ hw => ⟨⟨vz, lz⟩, rfl, fun _ _ _ => rfl, hF, hw⟩)
          · skip
            obtain ⟨vz, lz⟩ := x
            show J _ _ _ _ _ ((78, .bool true) :: _) _
            refine J.pr (fun hF => ?_)
            refine J.unguard rfl rfl rfl ?_
            refine J.loadA (vs := cD nilV false false) Ty.a90 Ty.s90 rfl rfl (fun w1 hw => Cells.of_block (hw.own _ (.head _)) rfl) rfl ?_
            exact J.finX rfl (fun _ hw => ⟨⟨vz, lz⟩, rfl, fun _ _ _ => rfl, hF, hw⟩)
          · skip
            obtain ⟨vz, lz⟩ := x
            show J _ _ _ _ _ ((78, .bool true) :: (78, .bool true) :: (80, .agg (cD nilV false false).toArray) :: (79, .agg (cD nilV false false).toArray) :: _) _
            refine J.pr (fun hF => ?_)
            refine J.unguard rfl rfl rfl ?_
            refine J.callB (v := .bool true) (fun w1 w2 hw hb => hw.step hb) Ty.bd47 rfl rfl (fun w1 hw => same_nil false false w1) ?_
            exact J.finX rfl (fun _ hw => ⟨⟨vz, lz⟩, rfl, fun _ _ _ => rfl, hF, hw⟩)
          · skip
            obtain ⟨vz, lz⟩ := x
            show J _ _ _ _ _ ((81, .bool true) :: (78, .bool true) :: _) _
            refine J.pr (fun hF => ?_)
            (first | refine J.pickT rfl rfl rfl ?_ | refine J.pickF rfl rfl rfl ?_)
            exact J.finX rfl (fun _ hw => ⟨⟨vz, lz⟩, rfl, fun _ _ _ => rfl, hF, hw⟩)
          · skip
            obtain ⟨vz, lz⟩ := x
            show J _ _ _ _ _ ((81, .bool true) :: (82, .bool true) :: _) _
            refine J.pr (fun hF => ?_)
            refine J.move rfl rfl ?_
            exact J.finX rfl (fun _ hw => ⟨⟨vz, lz⟩, rfl, fun _ _ _ => rfl, hF, hw⟩)
          · skip
            obtain ⟨vz, lz⟩ := x
            show J _ _ _ _ _ ((83, .bool true) :: _) _
            refine J.pr (fun hF => ?_)
            first | refine J.skip rfl rfl rfl rfl rfl ?_ | refine J.skipU rfl rfl rfl rfl ?_ | (refine J.unguard rfl rfl rfl ?_; refine J.move rfl rfl ?_)
            exact J.finX rfl (fun _ hw => ⟨⟨vz, lz⟩, rfl, fun _ _ _ => rfl, hF, hw⟩)
          · skip
            obtain ⟨vz, lz⟩ := x
            show J _ _ _ _ _ ((83, .bool true) :: _) _
            refine J.pr (fun hF => ?_)
            first | refine J.skip rfl rfl rfl rfl rfl ?_ | refine J.skipU rfl rfl rfl rfl ?_ | (refine J.unguard rfl rfl rfl ?_; refine J.move rfl rfl ?_)
            exact J.finX rfl (fun _ hw => ⟨⟨vz, lz⟩, rfl, fun _ _ _ => rfl, hF, hw⟩)
          · skip
            obtain ⟨vz, lz⟩ := x
            show J _ _ _ _ _ ((83, .bool true) :: (85, .int .i64 1) :: (84, .int .i64 1) :: _) _
            refine J.pr (fun hF => ?_)
            refine J.unguard rfl rfl rfl ?_
            refine J.bin rfl rfl rfl rfl ?_
            refine J.name 86 rfl (show _ = Value.bool true by simp) ?_
            exact J.finX rfl (fun _ hw => ⟨⟨vz, lz⟩, rfl, fun _ _ _ => rfl, hF, hw⟩)
          · skip
            obtain ⟨vz, lz⟩ := x
            show J _ _ _ _ _ ((86, .bool true) :: (83, .bool true) :: _) _
            refine J.pr (fun hF => ?_)
            (first | refine J.pickT rfl rfl rfl ?_ | refine J.pickF rfl rfl rfl ?_)
            exact J.finX rfl (fun _ hw => ⟨⟨vz, lz⟩, rfl, fun _ _ _ => rfl, hF, hw⟩)
          · skip
            obtain ⟨vz, lz⟩ := x
            show J _ _ _ _ _ ((83, .bool true) :: (87, .bool true) :: _) _
            refine J.pr (fun hF => ?_)
            refine J.move rfl rfl ?_
            exact J.finX rfl (fun _ hw => ⟨⟨vz, lz⟩, rfl, fun _ _ _ => rfl, hF, hw⟩)
          · skip
            obtain ⟨vz, lz⟩ := x
            show J _ _ _ _ _ ((88, .bool true) :: _) _
            refine J.pr (fun hF => ?_)
            first | refine J.skip rfl rfl rfl rfl rfl ?_ | refine J.skipU rfl rfl rfl rfl ?_ | (refine J.unguard rfl rfl rfl ?_; refine J.move rfl rfl ?_)
            exact J.finX rfl (fun _ hw => ⟨⟨vz, lz⟩, rfl, fun _ _ _ => rfl, hF, hw⟩)
          · skip
            obtain ⟨vz, lz⟩ := x
            show J _ _ _ _ _ ((88, .bool true) :: (88, .bool true) :: (89, .pointer (some ⟨t1, 0, none⟩)) :: _) _
            refine J.pr (fun hF => ?_)
            refine J.conseq (I' := St w [] ((b13, cb (cD nilV false false) 90) :: (b11, cb (cD nilV false false) 37) :: (t1, tabO mo m1) :: (m1, .map es ck) :: (b3, cb (cP p ++ cI b ++ [.slice aw way.length cw]) 87) :: (b2, cb ([.slice ae xs.length ce, iV most] ++ cW n me ++ [.slice ao os.length co_]) 85) :: (x5, cb (cP p) 25) :: (x6, cb (cI b) 23) :: (rt, rtabO (.slice ar (ordE L).length cr) mo) :: lr)) ?_ (fun w1 hw => by simp only [hm, cond_false] at hw; exact hw)
            refine J.unguard rfl rfl rfl ?_
            refine J.perm ([] ++ ((b13, cb (cD nilV false false) 90) :: (b11, cb (cD nilV false false) 37) :: (t1, tabO mo m1) :: (m1, .map es ck) :: (b3, cb (cP p ++ cI b ++ [.slice aw way.length cw]) 87) :: (b2, cb ([.slice ae xs.length ce, iV most] ++ cW n me ++ [.slice ao os.length co_]) 85) :: (x5, cb (cP p) 25) :: (x6, cb (cI b) 23) :: (rt, rtabO (.slice ar (ordE L).length cr) mo) :: lr)) (.refl _) ?_
            refine J.callS (α := Value × List (Nat × Obj)) (V := (·.1)) (Pr := fun x => Vec 34 51 x.1 (ordE L).length (fE (ordE L)) x.2) (L := (·.2)) (l1 := []) Ty.bd25 rfl rfl (fun w1 hw => all_spec t1 m1 mo (L) es ck w1 (hw.own _ (.tail _ (.tail _ (.head _)))) (hw.own _ (.tail _ (.tail _ (.tail _ (.head _))))) hT (by omega)) (fun x hvn => ?_)
            obtain ⟨vn, ln⟩ := x
            simp only at hvn ⊢
            refine J.nil (JX.finB rfl (fun w1 hw => ⟨⟨⟨vn, ln⟩, rfl, fun j h1 h2 => ?_, ?_⟩, trivial⟩))
            · match j, h1 with
              | 0, _ => (first | rfl | trivial)
              | 1, _ => (first | rfl | trivial)
              | 2, _ => (first | rfl | trivial)
              | 3, _ => (first | rfl | trivial)
              | 4, _ => (first | rfl | trivial)
              | 5, _ => (first | rfl | trivial)
              | 6, _ => (first | rfl | trivial)
              | 7, _ => (first | rfl | trivial)
              | 8, _ => (first | rfl | trivial)
              | 9, _ => (first | rfl | trivial)
              | 10, _ => (first | rfl | trivial)
              | 11, _ => (first | rfl | trivial)
              | 12, _ => (first | rfl | trivial)
              | 13, _ => (first | rfl | trivial)
              | 14, _ => (first | rfl | trivial)
              | 15, _ => (first | rfl | trivial)
              | 16, _ => (first | rfl | trivial)
              | 17, _ => exact absurd (h2.symm.trans hm) (by decide)
              | 18, _ => (first | rfl | trivial)
              | 19, _ => (first | rfl | trivial)
              | 20, _ => (first | rfl | trivial)
              | 21, _ => (first | rfl | trivial)
              | 22, _ => (first | rfl | trivial)
              | 23, _ => (first | rfl | trivial)
              | j + 24, h1 => omega
            show (true = true → Vec 34 51 vn ((ordE L)).length (fE ((ordE L))) ln) ∧ St w [] ((b13, cb (cD nilV false false) 90) :: (b11, cb (cD nilV false false) 37) :: (t1, tabO mo m1) :: (m1, .map es ck) :: (b3, cb (cP p ++ cI b ++ [.slice aw way.length cw]) 87) :: (b2, cb ([.slice ae xs.length ce, iV most] ++ cW n me ++ [.slice ao os.length co_]) 85) :: (x5, cb (cP p) 25) :: (x6, cb (cI b) 23) :: (rt, rtabO (.slice ar (ordE L).length cr) mo) :: ((bif true then ln else []) ++ lr)) w1
            simp only [hm, cond_true, cond_false] at hw ⊢
            exact ⟨fun _ => hvn, hw.perm (by (refine perm_cnt (fun _ => ?_)); simp only [cntB_append, cntB_cons, cntB_nil, Nat.add_zero, Nat.zero_add]; try ac_rfl)⟩
          · skip
            obtain ⟨vz, lz⟩ := x
            show J _ _ _ _ _ ((88, .bool true) :: _) _
            refine J.pr (fun hF => ?_)
            first | refine J.skip rfl rfl rfl rfl rfl ?_ | refine J.skipU rfl rfl rfl rfl ?_ | (refine J.unguard rfl rfl rfl ?_; refine J.move rfl rfl ?_)
            exact J.finX rfl (fun _ hw => ⟨⟨vz, lz⟩, rfl, fun _ _ _ => rfl, hF, hw⟩)
          · skip
            obtain ⟨vz, lz⟩ := x
            show J _ _ _ _ _ ((88, .bool true) :: (91, .pointer (some ⟨rt, 0, none⟩)) :: _) _
            refine J.pr (fun hF => ?_)
            first | refine J.skip rfl rfl rfl rfl rfl ?_ | refine J.skipU rfl rfl rfl rfl ?_ | (refine J.unguard rfl rfl rfl ?_; refine J.nilCheck rfl rfl ?_)
            exact J.finX rfl (fun _ hw => ⟨⟨vz, lz⟩, rfl, fun _ _ _ => rfl, hF, hw⟩)
          · skip
            obtain ⟨vz, lz⟩ := x
            show J _ _ _ _ _ ((88, .bool true) :: (92, .pointer (some ⟨rt, 0, none⟩)) :: _) _
            refine J.pr (fun hF => ?_)
            first | refine J.skip rfl rfl rfl rfl rfl ?_ | refine J.skipU rfl rfl rfl rfl ?_ | (refine J.unguard rfl rfl rfl ?_; refine J.fieldAddr Ty.fd82_0 rfl rfl ?_)
            exact J.finX rfl (fun _ hw => ⟨⟨vz, lz⟩, rfl, fun _ _ _ => rfl, hF, hw⟩)
          · skip
            obtain ⟨vz, lz⟩ := x
            show J _ _ _ _ _ ((88, .bool true) :: (93, .pointer (some ⟨rt, 0 + 0, none⟩)) :: _) _
            refine J.pr (fun hF => ?_)
            refine J.unguard rfl rfl rfl ?_
            refine J.load1 (v := .slice ar (ordE L).length cr) Ty.a62 rfl (fun w1 hw => by rw [cell_of (hw.own _ (.tail _ (.tail _ (.tail _ (.tail _ (.tail _ (.tail _ (.tail _ (.tail _ (.head _))))))))))]; rfl) rfl ?_
            exact J.finX rfl (fun _ hw => ⟨⟨vz, lz⟩, rfl, fun _ _ _ => rfl, hF, hw⟩)
          · skip
            obtain ⟨vz, lz⟩ := x
            show J _ _ _ _ _ ((88, .bool true) :: (90, vz) :: (94, .slice ar (ordE L).length cr) :: (90, vz) :: _) _
            have hp17 : m 17 = true := predsT hp (by kernel_rfl)
            have hp17 : m 17 = true := predsT hp (by kernel_rfl)
            refine J.pr (fun hF => ?_)
            refine J.unguard rfl rfl rfl ?_
            refine J.callB (v := .bool true) (fun w1 w2 hw hb => hw.step hb) Ty.bd26 rfl rfl (fun w1 hw => (by have h := rsame_spec _ _ ((ordE L)) ((ordE L)) w1 (vec_rowM (l := (b13, cb (cD nilV false false) 90) :: (b11, cb (cD nilV false false) 37) :: (t1, tabO mo m1) :: (m1, .map es ck) :: (b3, cb (cP p ++ cI b ++ [.slice aw way.length cw]) 87) :: (b2, cb ([.slice ae xs.length ce, iV most] ++ cW n me ++ [.slice ao os.length co_]) 85) :: (x5, cb (cP p) 25) :: (x6, cb (cI b) 23) :: (rt, rtabO (.slice ar (ordE L).length cr) mo) :: (lz ++ lr)) (hF hp17) (by simp only [hp17, cond_true] at hw; exact hw) (fun q hq => by first | (simp [hq]; done) | (simp at hq; simp [hq]; done) | (simp at hq; subst hq; simp))) (vec_rowM (l := (b13, cb (cD nilV false false) 90) :: (b11, cb (cD nilV false false) 37) :: (t1, tabO mo m1) :: (m1, .map es ck) :: (b3, cb (cP p ++ cI b ++ [.slice aw way.length cw]) 87) :: (b2, cb ([.slice ae xs.length ce, iV most] ++ cW n me ++ [.slice ao os.length co_]) 85) :: (x5, cb (cP p) 25) :: (x6, cb (cI b) 23) :: (rt, rtabO (.slice ar (ordE L).length cr) mo) :: (lz ++ lr)) hvr (by simp only [hp17, cond_true] at hw; exact hw) (fun q hq => by first | (simp [hq]; done) | (simp at hq; simp [hq]; done) | (simp at hq; subst hq; simp))) (ordE_ok hT) (ordE_ok hT) (by omega) (by omega); simpa using h)) ?_
            exact J.finX rfl (fun _ hw => ⟨⟨vz, lz⟩, rfl, fun _ _ _ => rfl, hF, hw⟩)
          · skip
            obtain ⟨vz, lz⟩ := x
            show J _ _ _ _ _ ((95, .bool true) :: (88, .bool true) :: _) _
            refine J.pr (fun hF => ?_)
            (first | refine J.pickT rfl rfl rfl ?_ | refine J.pickF rfl rfl rfl ?_)
            exact J.finX rfl (fun _ hw => ⟨⟨vz, lz⟩, rfl, fun _ _ _ => rfl, hF, hw⟩)
        case htail =>
          intro x
          obtain ⟨vz, lz⟩ := x
          show J _ _ _ _ _ ((96, .bool true) :: (95, .bool true) :: (94, .slice ar (ordE L).length cr) :: (93, .pointer (some ⟨rt, 0 + 0, none⟩)) :: (92, .pointer (some ⟨rt, 0, none⟩)) :: (91, .pointer (some ⟨rt, 0, none⟩)) :: (90, vz) :: (89, .pointer (some ⟨t1, 0, none⟩)) :: (88, .bool true) :: (87, .bool true) :: (86, .bool true) :: (85, .int .i64 1) :: (84, .int .i64 1) :: (83, .bool true) :: (82, .bool true) :: (81, .bool true) :: (80, .agg (cD nilV false false).toArray) :: (79, .agg (cD nilV false false).toArray) :: (78, .bool true) :: (77, .bool true) :: (76, .bool true) :: (75, .pointer (some ⟨t1, 0, none⟩)) :: (74, .bool true) :: (73, .bool true) :: _) (fun w1 => (true = true → Vec 34 51 vz ((ordE L)).length (fE ((ordE L))) lz) ∧ St w [] ((b13, cb (cD nilV false false) 90) :: (b11, cb (cD nilV false false) 37) :: (t1, tabO mo m1) :: (m1, .map es ck) :: (b3, cb (cP p ++ cI b ++ [.slice aw way.length cw]) 87) :: (b2, cb ([.slice ae xs.length ce, iV most] ++ cW n me ++ [.slice ao os.length co_]) 85) :: (x5, cb (cP p) 25) :: (x6, cb (cI b) 23) :: (rt, rtabO (.slice ar (ordE L).length cr) mo) :: ((bif true then lz else []) ++ lr)) w1)
          refine J.pr (fun hF => ?_)
          refine J.assign rfl rfl ?_
          refine J.nil ?_
          refine JX.thenN (hK12 _ _ ?_)
          refine JC.ret ?_
          refine JX.ret1 rfl rfl (fun w hw => ?_)
          exact ⟨rfl, (hw.drop (List.nil_sublist _)).below⟩
    · skip
      obtain ⟨n1, hn1⟩ : ∃ y, way[1]? = some y := ⟨_, List.getElem?_eq_getElem (by have : ¬ way.length < 2 := fun h => hbad (.inl h); omega)⟩
      have hl64 : way.length ≤ 64 := by have : ¬ 64 < way.length := fun h => hbad (.inr (.inl h)); omega
      cases hop : openQ os n1 with
      | false =>
        refine JC.region ?_
        refine J.move rfl rfl ?_
        refine J.fieldAddr Ty.fd85_2 rfl rfl ?_
        refine J.loadOA (vs := cW n me) Ty.a41 Ty.s41 rfl (.tail _ (.tail _ (.tail _ (.head _)))) rfl rfl rfl ?_
        refine J.loadOA (vs := cP p) Ty.a25 Ty.s25 rfl (.tail _ (.tail _ (.tail _ (.tail _ (.head _))))) rfl rfl rfl ?_
        refine J.loadOA (vs := cI b) Ty.a23 Ty.s23 rfl (.tail _ (.tail _ (.tail _ (.tail _ (.tail _ (.head _)))))) rfl rfl rfl ?_
        refine J.move rfl rfl ?_
        refine J.fieldAddr Ty.fd85_3 rfl rfl ?_
        refine J.loadO Ty.a28 rfl (.tail _ (.tail _ (.tail _ (.head _)))) rfl rfl ?_
        refine J.callB (v := .tuple #[.agg (cD nilV false false).toArray, .int .i64 10]) (fun w1 w2 hw hb => hw.step hb) Ty.bd18 rfl rfl (fun w1 hw => start_shut t1 n me b p _ way _ os w1 (vec_rowM hvw hw (fun q hq => by first | (simp [hq]; done) | (simp at hq; simp [hq]; done) | (simp at hq; subst hq; simp))) (by omega) (hro.below (hw.drop (List.nil_sublist _)).below) (by omega) hbad n1 hn1 hop) ?_
        refine J.move rfl rfl ?_
        refine J.extract rfl rfl rfl ?_
        refine J.extract rfl rfl rfl ?_
        refine J.alloc zN rfl rfl (fun b11 => ?_)
        refine J.storeW Ty.s37 rfl rfl rfl rfl rfl (by simp [Value.oneCell']) (by repeat first | exact .here | apply Up.there) ?_
        refine J.assign rfl rfl ?_
        refine J.nil ?_
        refine JX.thenN (hK4 _ _ ?_)
        refine JC.seq (fun K13 hK13 => ?_)
        refine JC.region ?_
        refine J.move rfl rfl ?_
        refine J.fieldAddr Ty.fd85_2 rfl rfl ?_
        refine J.fieldAddr Ty.fd41_0 rfl rfl ?_
        refine J.loadO Ty.a3 rfl (by repeat first | exact .head _ | apply List.Mem.tail | apply List.mem_append_right) (by exact rfl) rfl ?_
        refine J.fieldAddr Ty.fd85_2 rfl rfl ?_
        refine J.fieldAddr Ty.fd41_1 rfl rfl ?_
        refine J.loadOA Ty.a23 Ty.s23 rfl (by repeat first | exact .head _ | apply List.Mem.tail | apply List.mem_append_right) (by exact rfl) rfl rfl ?_
        refine J.loadOA Ty.a25 Ty.s25 rfl (by repeat first | exact .head _ | apply List.Mem.tail | apply List.mem_append_right) (by exact rfl) rfl rfl ?_
        refine J.loadOA Ty.a23 Ty.s23 rfl (by repeat first | exact .head _ | apply List.Mem.tail | apply List.mem_append_right) (by exact rfl) rfl rfl ?_
        refine J.move rfl rfl ?_
        refine J.fieldAddr Ty.fd85_3 rfl rfl ?_
        refine J.loadO Ty.a28 rfl (by repeat first | exact .head _ | apply List.Mem.tail | apply List.mem_append_right) (by exact rfl) rfl ?_
        refine J.callB (v := .tuple #[.agg (cD nilV false false).toArray, .int .i64 10]) (fun w1 w2 hw hb => hw.step hb) Ty.bd46 rfl rfl (fun w1 hw => rstart_shut rt n me b p _ way _ os w1 (hr.below (hw.drop (List.nil_sublist _)).below) (by omega) (hro.below (hw.drop (List.nil_sublist _)).below) (by omega) hbad n1 hn1 hop) ?_
        refine J.move rfl rfl ?_
        refine J.extract rfl rfl rfl ?_
        refine J.extract rfl rfl rfl ?_
        refine J.alloc zN_ rfl rfl (fun b13 => ?_)
        refine J.storeW Ty.s90 rfl rfl rfl rfl rfl (by simp [Value.oneCell']) (by repeat first | exact .here | apply Up.there) ?_
        refine J.assign rfl rfl ?_
        refine J.nil ?_
        refine JX.thenN (hK13 _ _ ?_)
        refine JC.seq (fun K14 hK14 => ?_)
        refine JC.seq (fun K15 hK15 => ?_)
        refine JC.region ?_
        refine J.move rfl rfl ?_
        refine J.lenS rfl Ty.u26 rfl rfl ?_
        refine J.move rfl rfl ?_
        refine J.nil ?_
        refine JX.thenN (hK15 _ _ ?_)
        refine JC.block ?_
        refine JC.conseq (JC.cov (f := (fun st => [(8, .pointer (some ⟨t1, 0, none⟩)), (9, .pointer (some ⟨rt, 0, none⟩)), (11, .pointer (some ⟨b11, 0, none⟩)), (12, .int .i64 10), (13, .pointer (some ⟨b13, 0, none⟩)), (14, .int .i64 10), (10, .slice av way.length cv), (62, .int .i64 ((way.length : Nat) : Int)), (63, .int .i64 ((st.1 : Nat) : Int))]) ((0, lw) : Nat × List (Nat × Obj))) ⟨rfl, rfl, rfl, rfl, rfl, rfl, rfl, rfl, rfl, trivial⟩ (JC.loop (α := Nat × List (Nat × Obj)) (fun st => [(8, .pointer (some ⟨t1, 0, none⟩)), (9, .pointer (some ⟨rt, 0, none⟩)), (11, .pointer (some ⟨b11, 0, none⟩)), (12, .int .i64 10), (13, .pointer (some ⟨b13, 0, none⟩)), (14, .int .i64 10), (10, .slice av way.length cv), (62, .int .i64 ((way.length : Nat) : Int)), (63, .int .i64 ((st.1 : Nat) : Int))]) (fun st w' => (st.1 ≤ way.length ∧ IBlk (.slice av way.length cv) way.length st.2) ∧ St w [] (st.2 ++ ((b13, cb (cD nilV false false) 90) :: (b11, cb (cD nilV false false) 37) :: (t1, tabO mo m1) :: (m1, .map es ck) :: (b3, cb (cP p ++ cI b ++ [.slice aw way.length cw]) 87) :: (b2, cb ([.slice ae xs.length ce, iV most] ++ cW n me ++ [.slice ao os.length co_]) 85) :: (x5, cb (cP p) 25) :: (x6, cb (cI b) 23) :: (rt, rtabO (.slice ar (ordE L).length cr) mo) :: lr)) w') (fun st => way.length - st.1) ((0, lw) : Nat × List (Nat × Obj)) (fun st => ?_))) (fun w hw => ⟨⟨Nat.zero_le _, iblk_of hvw⟩, hw.perm (by (refine perm_cnt (fun _ => ?_)); simp only [cntB_append, cntB_cons, cntB_nil, Nat.add_zero, Nat.zero_add]; try ac_rfl)⟩)
        obtain ⟨i, lj⟩ := st
        refine JC.pr (fun hx1 => ?_)
        obtain ⟨hi, hbl⟩ := hx1
        simp only at hi hbl ⊢
        refine JC.seq (fun K16 hK16 => ?_)
        refine JC.region ?_
        refine J.bin rfl rfl rfl rfl ?_
        refine J.nil ?_
        refine JX.thenN (hK16 _ _ ?_)
        refine JC.seq (fun K17 hK17 => ?_)
        refine JC.cond rfl (fun h0 => ?_) (fun h0 => ?_)
        · skip
          have hlt : i < way.length := by simp at h0; omega
          obtain ⟨qv, ys, sp, rfl, rfl, hys, hyc⟩ := iblk_pos hbl (by omega)
          obtain ⟨yi, hyi⟩ : ∃ y, ys[i]? = some y := ⟨_, List.getElem?_eq_getElem (by omega)⟩
          refine JC.skip ?_
          refine JX.thenN (hK17 _ _ ?_)
          refine JC.seq (fun K18 hK18 => ?_)
          refine JC.block ?_
          refine JC.seq (fun K19 hK19 => ?_)
          refine JC.region ?_
          refine J.move rfl rfl ?_
          refine J.assign rfl rfl ?_
          refine J.nil ?_
          refine JX.thenN (hK19 _ _ ?_)
          refine JC.region ?_
          refine J.move rfl rfl ?_
          refine J.move rfl rfl ?_
          refine J.indexAddrS Ty.el26 Ty.s3 rfl rfl (by omega) (by omega) rfl ?_
          refine J.load1 (v := iV yi) Ty.a3 rfl (fun w1 hw => rowI_at2 (i := i) (Row.own (cs := ys.map iV ++ sp) (tb := 3) (fr := (0, 0)) hw (.head _) (by simp) hyc : Row w1 (.slice (some ⟨qv, 0, none⟩) way.length cv) way.length (ys.map iV)) hyi (by simp)) rfl ?_
          refine J.bin rfl rfl rfl rfl ?_
          refine J.name 70 rfl (show _ = iV (IntKind.wrap .i64 (yi + 1)) from rfl) ?_
          refine J.indexAddrS Ty.el26 Ty.s3 rfl rfl (by omega) (by omega) rfl ?_
          refine J.storeO (cs := ys.map iV ++ sp) (vs := [iV (IntKind.wrap .i64 (yi + 1))]) Ty.s3 rfl rfl rfl rfl (by simp [Value.oneCell']) .here (by simp; omega) ?_
          refine J.nil ?_
          refine JX.blockN ?_
          refine JX.thenN (hK18 _ _ ?_)
          refine JC.region ?_
          (first | refine J.addN rfl rfl (by omega) (by omega) rfl ?_ | refine J.bin rfl rfl rfl rfl ?_)
          refine J.move rfl rfl ?_
          refine J.nil ?_
          refine JX.thenN ?_
          refine JX.again ((i + 1, [(qv, cb ((ys.set i (IntKind.wrap .i64 (yi + 1))).map iV ++ sp) 3)]) : Nat × List (Nat × Obj)) ?_ ?_ ?_
          · simp only; omega
          · exact ⟨rfl, rfl, rfl, rfl, rfl, rfl, rfl, rfl, rfl, trivial⟩
          · exact fun w1 hw => ⟨⟨hlt, .inr ⟨qv, _, _, sp, rfl, rfl, by rw [List.length_set]; exact hys, hyc⟩⟩, by rw [set_int (i := i) (by omega) (by simp)] at hw; exact hw⟩
        · skip
          refine JC.conseq (I' := St w [] ((b13, cb (cD nilV false false) 90) :: (b11, cb (cD nilV false false) 37) :: (t1, tabO mo m1) :: (m1, .map es ck) :: (b3, cb (cP p ++ cI b ++ [.slice aw way.length cw]) 87) :: (b2, cb ([.slice ae xs.length ce, iV most] ++ cW n me ++ [.slice ao os.length co_]) 85) :: (x5, cb (cP p) 25) :: (x6, cb (cI b) 23) :: (rt, rtabO (.slice ar (ordE L).length cr) mo) :: lr)) ?_ (fun w1 hw => hw.drop (List.sublist_append_right _ _))
          refine JC.exit ?_
          refine JX.thenE ?_
          refine JX.thenE ?_
          refine JX.blockE ?_
          refine JX.thenN (hK14 _ _ ?_)
          refine JC.seq (fun K20 hK20 => ?_)
          apply JC.drawX (α := Value × List (Nat × Obj)) 24 (fun x => match x with | ⟨vz, lz⟩ => [.bool true, .bool true, .pointer (some ⟨t1, 0, none⟩), .bool true, .bool true, .bool true, .agg (cD nilV false false).toArray, .agg (cD nilV false false).toArray, .bool true, .bool true, .bool true, .int .i64 10, .int .i64 10, .bool true, .bool true, .bool true, .pointer (some ⟨t1, 0, none⟩), vz, .pointer (some ⟨rt, 0, none⟩), .pointer (some ⟨rt, 0, none⟩), .pointer (some ⟨rt, 0 + 0, none⟩), .slice ar (ordE L).length cr, .bool true, .bool true]) (fun m x => match x with | ⟨vz, lz⟩ => fun w1 => (m 17 = true → Vec 34 51 vz ((ordE L)).length (fE ((ordE L))) lz) ∧ St w [] ((b13, cb (cD nilV false false) 90) :: (b11, cb (cD nilV false false) 37) :: (t1, tabO mo m1) :: (m1, .map es ck) :: (b3, cb (cP p ++ cI b ++ [.slice aw way.length cw]) 87) :: (b2, cb ([.slice ae xs.length ce, iV most] ++ cW n me ++ [.slice ao os.length co_]) 85) :: (x5, cb (cP p) 25) :: (x6, cb (cI b) 23) :: (rt, rtabO (.slice ar (ordE L).length cr) mo) :: ((bif m 17 then lz else []) ++ lr)) w1) Ty.mixed rfl rfl rfl (by kernel_rfl) rfl rfl ?hinit ?hstep ?htail
          case hinit => exact fun w1 hw => ⟨(.slice none 0 0, []), fun h => (by cases h), hw.drew⟩
          case hstep =>
            refine ⟨fun m x hm hp => ?_, fun m x hm hp => ?_, fun m x hm hp => ?_, fun m x hm hp => ?_, fun m x hm hp => ?_, fun m x hm hp => ?_, fun m x hm hp => ?_, fun m x hm hp => ?_, fun m x hm hp => ?_, fun m x hm hp => ?_, fun m x hm hp => ?_, fun m x hm hp => ?_, fun m x hm hp => ?_, fun m x hm hp => ?_, fun m x hm hp => ?_, fun m x hm hp => ?_, fun m x hm hp => ?_, fun m x hm hp => ?_, fun m x hm hp => ?_, fun m x hm hp => ?_, fun m x hm hp => ?_, fun m x hm hp => ?_, fun m x hm hp => ?_, fun m x hm hp => ?_, trivial⟩
            · skip
              obtain ⟨vz, lz⟩ := x
              show J _ _ _ _ _ (_) _
              refine J.pr (fun hF => ?_)
              refine J.callB (v := .bool true) (fun w1 w2 hw hb => hw.step hb) Ty.bd15 rfl rfl (fun w1 hw => fixed14_spec w1) ?_
              exact J.finX rfl (fun _ hw => ⟨⟨vz, lz⟩, rfl, fun _ _ _ => rfl, hF, hw⟩)
            · skip
              obtain ⟨vz, lz⟩ := x
              show J _ _ _ _ _ ((73, .bool true) :: (73, .bool true) :: _) _
              refine J.pr (fun hF => ?_)
              refine J.move rfl rfl ?_
              exact J.finX rfl (fun _ hw => ⟨⟨vz, lz⟩, rfl, fun _ _ _ => rfl, hF, hw⟩)
            · skip
              obtain ⟨vz, lz⟩ := x
              show J _ _ _ _ _ ((74, .bool true) :: _) _
              refine J.pr (fun hF => ?_)
              first | refine J.skip rfl rfl rfl rfl rfl ?_ | refine J.skipU rfl rfl rfl rfl ?_ | (refine J.unguard rfl rfl rfl ?_; refine J.move rfl rfl ?_)
              exact J.finX rfl (fun _ hw => ⟨⟨vz, lz⟩, rfl, fun _ _ _ => rfl, hF, hw⟩)
            · skip
              obtain ⟨vz, lz⟩ := x
              show J _ _ _ _ _ ((74, .bool true) :: (75, .pointer (some ⟨t1, 0, none⟩)) :: _) _
              refine J.pr (fun hF => ?_)
              first | refine J.skip rfl rfl rfl rfl rfl ?_ | refine J.skipU rfl rfl rfl rfl ?_ | (refine J.unguard rfl rfl rfl ?_; refine J.neNil Ty.u29 rfl rfl rfl ?_)
              exact J.finX rfl (fun _ hw => ⟨⟨vz, lz⟩, rfl, fun _ _ _ => rfl, hF, hw⟩)
            · skip
              obtain ⟨vz, lz⟩ := x
              show J _ _ _ _ _ ((76, .bool true) :: (74, .bool true) :: _) _
              refine J.pr (fun hF => ?_)
              (first | refine J.pickT rfl rfl rfl ?_ | refine J.pickF rfl rfl rfl ?_)
              exact J.finX rfl (fun _ hw => ⟨⟨vz, lz⟩, rfl, fun _ _ _ => rfl, hF, hw⟩)
            · skip
              obtain ⟨vz, lz⟩ := x
              show J _ _ _ _ _ ((74, .bool true) :: (77, .bool true) :: _) _
              refine J.pr (fun hF => ?_)
              refine J.move rfl rfl ?_
              exact J.finX rfl (fun _ hw => ⟨⟨vz, lz⟩, rfl, fun _ _ _ => rfl, hF, hw⟩)
            · skip
              obtain ⟨vz, lz⟩ := x
              show J _ _ _ _ _ ((78, .bool true) :: _) _
              refine J.pr (fun hF => ?_)
              refine J.unguard rfl rfl rfl ?_
              refine J.loadA (vs := cD nilV false false) Ty.a37 Ty.s37 rfl rfl (fun w1 hw => Cells.of_block (hw.own _ (.tail _ (.head _))) rfl) rfl ?_
              exact J.finX rfl (fun _ hw => ⟨⟨vz, lz⟩, rfl, fun _ _ _ => rfl, hF, hw⟩)
            · skip
              obtain ⟨vz, lz⟩ := x
              show J _ _ _ _ _ ((78, .bool true) :: _) _
              refine J.pr (fun hF => ?_)
              refine J.unguard rfl rfl rfl ?_
              refine J.loadA (vs := cD nilV false false) Ty.a90 Ty.s90 rfl rfl (fun w1 hw => Cells.of_block (hw.own _ (.head _)) rfl) rfl ?_
              exact J.finX rfl (fun _ hw => ⟨⟨vz, lz⟩, rfl, fun _ _ _ => rfl, hF, hw⟩)
            · skip
              obtain ⟨vz, lz⟩ := x
              show J _ _ _ _ _ ((78, .bool true) :: (78, .bool true) :: (80, .agg (cD nilV false false).toArray) :: (79, .agg (cD nilV false false).toArray) :: _) _
              refine J.pr (fun hF => ?_)
              refine J.unguard rfl rfl rfl ?_
              refine J.callB (v := .bool true) (fun w1 w2 hw hb => hw.step hb) Ty.bd47 rfl rfl (fun w1 hw => same_nil false false w1) ?_
              exact J.finX rfl (fun _ hw => ⟨⟨vz, lz⟩, rfl, fun _ _ _ => rfl, hF, hw⟩)
            · skip
              obtain ⟨vz, lz⟩ := x
              show J _ _ _ _ _ ((81, .bool true) :: (78, .bool true) :: _) _
              refine J.pr (fun hF => ?_)
              (first | refine J.pickT rfl rfl rfl ?_ | refine J.pickF rfl rfl rfl ?_)
              exact J.finX rfl (fun _ hw => ⟨⟨vz, lz⟩, rfl, fun _ _ _ => rfl, hF, hw⟩)
            · skip
              obtain ⟨vz, lz⟩ := x
              show J _ _ _ _ _ ((81, .bool true) :: (82, .bool true) :: _) _
              refine J.pr (fun hF => ?_)
              refine J.move rfl rfl ?_
              exact J.finX rfl (fun _ hw => ⟨⟨vz, lz⟩, rfl, fun _ _ _ => rfl, hF, hw⟩)
            · skip
              obtain ⟨vz, lz⟩ := x
              show J _ _ _ _ _ ((83, .bool true) :: _) _
              refine J.pr (fun hF => ?_)
              first | refine J.skip rfl rfl rfl rfl rfl ?_ | refine J.skipU rfl rfl rfl rfl ?_ | (refine J.unguard rfl rfl rfl ?_; refine J.move rfl rfl ?_)
              exact J.finX rfl (fun _ hw => ⟨⟨vz, lz⟩, rfl, fun _ _ _ => rfl, hF, hw⟩)
            · skip
              obtain ⟨vz, lz⟩ := x
              show J _ _ _ _ _ ((83, .bool true) :: _) _
              refine J.pr (fun hF => ?_)
              first | refine J.skip rfl rfl rfl rfl rfl ?_ | refine J.skipU rfl rfl rfl rfl ?_ | (refine J.unguard rfl rfl rfl ?_; refine J.move rfl rfl ?_)
              exact J.finX rfl (fun _ hw => ⟨⟨vz, lz⟩, rfl, fun _ _ _ => rfl, hF, hw⟩)
            · skip
              obtain ⟨vz, lz⟩ := x
              show J _ _ _ _ _ ((83, .bool true) :: (85, .int .i64 10) :: (84, .int .i64 10) :: _) _
              refine J.pr (fun hF => ?_)
              refine J.unguard rfl rfl rfl ?_
              refine J.bin rfl rfl rfl rfl ?_
              refine J.name 86 rfl (show _ = Value.bool true by simp) ?_
              exact J.finX rfl (fun _ hw => ⟨⟨vz, lz⟩, rfl, fun _ _ _ => rfl, hF, hw⟩)
            · skip
              obtain ⟨vz, lz⟩ := x
              show J _ _ _ _ _ ((86, .bool true) :: (83, .bool true) :: _) _
              refine J.pr (fun hF => ?_)
              (first | refine J.pickT rfl rfl rfl ?_ | refine J.pickF rfl rfl rfl ?_)
              exact J.finX rfl (fun _ hw => ⟨⟨vz, lz⟩, rfl, fun _ _ _ => rfl, hF, hw⟩)
            · skip
              obtain ⟨vz, lz⟩ := x
              show J _ _ _ _ _ ((83, .bool true) :: (87, .bool true) :: _) _
              refine J.pr (fun hF => ?_)
              refine J.move rfl rfl ?_
              exact J.finX rfl (fun _ hw => ⟨⟨vz, lz⟩, rfl, fun _ _ _ => rfl, hF, hw⟩)
            · skip
              obtain ⟨vz, lz⟩ := x
              show J _ _ _ _ _ ((88, .bool true) :: _) _
              refine J.pr (fun hF => ?_)
              first | refine J.skip rfl rfl rfl rfl rfl ?_ | refine J.skipU rfl rfl rfl rfl ?_ | (refine J.unguard rfl rfl rfl ?_; refine J.move rfl rfl ?_)
              exact J.finX rfl (fun _ hw => ⟨⟨vz, lz⟩, rfl, fun _ _ _ => rfl, hF, hw⟩)
            · skip
              obtain ⟨vz, lz⟩ := x
              show J _ _ _ _ _ ((88, .bool true) :: (88, .bool true) :: (89, .pointer (some ⟨t1, 0, none⟩)) :: _) _
              refine J.pr (fun hF => ?_)
              refine J.conseq (I' := St w [] ((b13, cb (cD nilV false false) 90) :: (b11, cb (cD nilV false false) 37) :: (t1, tabO mo m1) :: (m1, .map es ck) :: (b3, cb (cP p ++ cI b ++ [.slice aw way.length cw]) 87) :: (b2, cb ([.slice ae xs.length ce, iV most] ++ cW n me ++ [.slice ao os.length co_]) 85) :: (x5, cb (cP p) 25) :: (x6, cb (cI b) 23) :: (rt, rtabO (.slice ar (ordE L).length cr) mo) :: lr)) ?_ (fun w1 hw => by simp only [hm, cond_false] at hw; exact hw)
              refine J.unguard rfl rfl rfl ?_
              refine J.perm ([] ++ ((b13, cb (cD nilV false false) 90) :: (b11, cb (cD nilV false false) 37) :: (t1, tabO mo m1) :: (m1, .map es ck) :: (b3, cb (cP p ++ cI b ++ [.slice aw way.length cw]) 87) :: (b2, cb ([.slice ae xs.length ce, iV most] ++ cW n me ++ [.slice ao os.length co_]) 85) :: (x5, cb (cP p) 25) :: (x6, cb (cI b) 23) :: (rt, rtabO (.slice ar (ordE L).length cr) mo) :: lr)) (.refl _) ?_
              refine J.callS (α := Value × List (Nat × Obj)) (V := (·.1)) (Pr := fun x => Vec 34 51 x.1 (ordE L).length (fE (ordE L)) x.2) (L := (·.2)) (l1 := []) Ty.bd25 rfl rfl (fun w1 hw => all_spec t1 m1 mo (L) es ck w1 (hw.own _ (.tail _ (.tail _ (.head _)))) (hw.own _ (.tail _ (.tail _ (.tail _ (.head _))))) hT (by omega)) (fun x hvn => ?_)
              obtain ⟨vn, ln⟩ := x
              simp only at hvn ⊢
              refine J.nil (JX.finB rfl (fun w1 hw => ⟨⟨⟨vn, ln⟩, rfl, fun j h1 h2 => ?_, ?_⟩, trivial⟩))
              · match j, h1 with
                | 0, _ => (first | rfl | trivial)
                | 1, _ => (first | rfl | trivial)
                | 2, _ => (first | rfl | trivial)
                | 3, _ => (first | rfl | trivial)
                | 4, _ => (first | rfl | trivial)
                | 5, _ => (first | rfl | trivial)
                | 6, _ => (first | rfl | trivial)
                | 7, _ => (first | rfl | trivial)
                | 8, _ => (first | rfl | trivial)
                | 9, _ => (first | rfl | trivial)
                | 10, _ => (first | rfl | trivial)
                | 11, _ => (first | rfl | trivial)
                | 12, _ => (first | rfl | trivial)
                | 13, _ => (first | rfl | trivial)
                | 14, _ => (first | rfl | trivial)
                | 15, _ => (first | rfl | trivial)
                | 16, _ => (first | rfl | trivial)
                | 17, _ => exact absurd (h2.symm.trans hm) (by decide)
                | 18, _ => (first | rfl | trivial)
                | 19, _ => (first | rfl | trivial)
                | 20, _ => (first | rfl | trivial)
                | 21, _ => (first | rfl | trivial)
                | 22, _ => (first | rfl | trivial)
                | 23, _ => (first | rfl | trivial)
                | j + 24, h1 => omega
              show (true = true → Vec 34 51 vn ((ordE L)).length (fE ((ordE L))) ln) ∧ St w [] ((b13, cb (cD nilV false false) 90) :: (b11, cb (cD nilV false false) 37) :: (t1, tabO mo m1) :: (m1, .map es ck) :: (b3, cb (cP p ++ cI b ++ [.slice aw way.length cw]) 87) :: (b2, cb ([.slice ae xs.length ce, iV most] ++ cW n me ++ [.slice ao os.length co_]) 85) :: (x5, cb (cP p) 25) :: (x6, cb (cI b) 23) :: (rt, rtabO (.slice ar (ordE L).length cr) mo) :: ((bif true then ln else []) ++ lr)) w1
              simp only [hm, cond_true, cond_false] at hw ⊢
              exact ⟨fun _ => hvn, hw.perm (by (refine perm_cnt (fun _ => ?_)); simp only [cntB_append, cntB_cons, cntB_nil, Nat.add_zero, Nat.zero_add]; try ac_rfl)⟩
            · skip
              obtain ⟨vz, lz⟩ := x
              show J _ _ _ _ _ ((88, .bool true) :: _) _
              refine J.pr (fun hF => ?_)
              first | refine J.skip rfl rfl rfl rfl rfl ?_ | refine J.skipU rfl rfl rfl rfl ?_ | (refine J.unguard rfl rfl rfl ?_; refine J.move rfl rfl ?_)
              exact J.finX rfl (fun _ hw => ⟨⟨vz, lz⟩, rfl, fun _ _ _ => rfl, hF, hw⟩)
            · skip
              obtain ⟨vz, lz⟩ := x
              show J _ _ _ _ _ ((88, .bool true) :: (91, .pointer (some ⟨rt, 0, none⟩)) :: _) _
              refine J.pr (fun hF => ?_)
              first | refine J.skip rfl rfl rfl rfl rfl ?_ | refine J.skipU rfl rfl rfl rfl ?_ | (refine J.unguard rfl rfl rfl ?_; refine J.nilCheck rfl rfl ?_)
              exact J.finX rfl (fun _ hw => ⟨⟨vz, lz⟩, rfl, fun _ _ _ => rfl, hF, hw⟩)
            · skip
              obtain ⟨vz, lz⟩ := x
              show J _ _ _ _ _ ((88, .bool true) :: (92, .pointer (some ⟨rt, 0, none⟩)) :: _) _
              refine J.pr (fun hF => ?_)
              first | refine J.skip rfl rfl rfl rfl rfl ?_ | refine J.skipU rfl rfl rfl rfl ?_ | (refine J.unguard rfl rfl rfl ?_; refine J.fieldAddr Ty.fd82_0 rfl rfl ?_)
              exact J.finX rfl (fun _ hw => ⟨⟨vz, lz⟩, rfl, fun _ _ _ => rfl, hF, hw⟩)
            · skip
              obtain ⟨vz, lz⟩ := x
              show J _ _ _ _ _ ((88, .bool true) :: (93, .pointer (some ⟨rt, 0 + 0, none⟩)) :: _) _
              refine J.pr (fun hF => ?_)
              refine J.unguard rfl rfl rfl ?_
              refine J.load1 (v := .slice ar (ordE L).length cr) Ty.a62 rfl (fun w1 hw => by rw [cell_of (hw.own _ (.tail _ (.tail _ (.tail _ (.tail _ (.tail _ (.tail _ (.tail _ (.tail _ (.head _))))))))))]; rfl) rfl ?_
              exact J.finX rfl (fun _ hw => ⟨⟨vz, lz⟩, rfl, fun _ _ _ => rfl, hF, hw⟩)
            · skip
              obtain ⟨vz, lz⟩ := x
              show J _ _ _ _ _ ((88, .bool true) :: (90, vz) :: (94, .slice ar (ordE L).length cr) :: (90, vz) :: _) _
              have hp17 : m 17 = true := predsT hp (by kernel_rfl)
              have hp17 : m 17 = true := predsT hp (by kernel_rfl)
              refine J.pr (fun hF => ?_)
              refine J.unguard rfl rfl rfl ?_
              refine J.callB (v := .bool true) (fun w1 w2 hw hb => hw.step hb) Ty.bd26 rfl rfl (fun w1 hw => (by have h := rsame_spec _ _ ((ordE L)) ((ordE L)) w1 (vec_rowM (l := (b13, cb (cD nilV false false) 90) :: (b11, cb (cD nilV false false) 37) :: (t1, tabO mo m1) :: (m1, .map es ck) :: (b3, cb (cP p ++ cI b ++ [.slice aw way.length cw]) 87) :: (b2, cb ([.slice ae xs.length ce, iV most] ++ cW n me ++ [.slice ao os.length co_]) 85) :: (x5, cb (cP p) 25) :: (x6, cb (cI b) 23) :: (rt, rtabO (.slice ar (ordE L).length cr) mo) :: (lz ++ lr)) (hF hp17) (by simp only [hp17, cond_true] at hw; exact hw) (fun q hq => by first | (simp [hq]; done) | (simp at hq; simp [hq]; done) | (simp at hq; subst hq; simp))) (vec_rowM (l := (b13, cb (cD nilV false false) 90) :: (b11, cb (cD nilV false false) 37) :: (t1, tabO mo m1) :: (m1, .map es ck) :: (b3, cb (cP p ++ cI b ++ [.slice aw way.length cw]) 87) :: (b2, cb ([.slice ae xs.length ce, iV most] ++ cW n me ++ [.slice ao os.length co_]) 85) :: (x5, cb (cP p) 25) :: (x6, cb (cI b) 23) :: (rt, rtabO (.slice ar (ordE L).length cr) mo) :: (lz ++ lr)) hvr (by simp only [hp17, cond_true] at hw; exact hw) (fun q hq => by first | (simp [hq]; done) | (simp at hq; simp [hq]; done) | (simp at hq; subst hq; simp))) (ordE_ok hT) (ordE_ok hT) (by omega) (by omega); simpa using h)) ?_
              exact J.finX rfl (fun _ hw => ⟨⟨vz, lz⟩, rfl, fun _ _ _ => rfl, hF, hw⟩)
            · skip
              obtain ⟨vz, lz⟩ := x
              show J _ _ _ _ _ ((95, .bool true) :: (88, .bool true) :: _) _
              refine J.pr (fun hF => ?_)
              (first | refine J.pickT rfl rfl rfl ?_ | refine J.pickF rfl rfl rfl ?_)
              exact J.finX rfl (fun _ hw => ⟨⟨vz, lz⟩, rfl, fun _ _ _ => rfl, hF, hw⟩)
          case htail =>
            intro x
            obtain ⟨vz, lz⟩ := x
            show J _ _ _ _ _ ((96, .bool true) :: (95, .bool true) :: (94, .slice ar (ordE L).length cr) :: (93, .pointer (some ⟨rt, 0 + 0, none⟩)) :: (92, .pointer (some ⟨rt, 0, none⟩)) :: (91, .pointer (some ⟨rt, 0, none⟩)) :: (90, vz) :: (89, .pointer (some ⟨t1, 0, none⟩)) :: (88, .bool true) :: (87, .bool true) :: (86, .bool true) :: (85, .int .i64 10) :: (84, .int .i64 10) :: (83, .bool true) :: (82, .bool true) :: (81, .bool true) :: (80, .agg (cD nilV false false).toArray) :: (79, .agg (cD nilV false false).toArray) :: (78, .bool true) :: (77, .bool true) :: (76, .bool true) :: (75, .pointer (some ⟨t1, 0, none⟩)) :: (74, .bool true) :: (73, .bool true) :: _) (fun w1 => (true = true → Vec 34 51 vz ((ordE L)).length (fE ((ordE L))) lz) ∧ St w [] ((b13, cb (cD nilV false false) 90) :: (b11, cb (cD nilV false false) 37) :: (t1, tabO mo m1) :: (m1, .map es ck) :: (b3, cb (cP p ++ cI b ++ [.slice aw way.length cw]) 87) :: (b2, cb ([.slice ae xs.length ce, iV most] ++ cW n me ++ [.slice ao os.length co_]) 85) :: (x5, cb (cP p) 25) :: (x6, cb (cI b) 23) :: (rt, rtabO (.slice ar (ordE L).length cr) mo) :: ((bif true then lz else []) ++ lr)) w1)
            refine J.pr (fun hF => ?_)
            refine J.assign rfl rfl ?_
            refine J.nil ?_
            refine JX.thenN (hK20 _ _ ?_)
            refine JC.ret ?_
            refine JX.ret1 rfl rfl (fun w hw => ?_)
            exact ⟨rfl, (hw.drop (List.nil_sublist _)).below⟩
      | true =>
        obtain ⟨⟨e, L2⟩, hadd⟩ : ∃ q : Int × List EV, tadd L mo (⟨p, me, b, -1, n1⟩ : EV) = q := ⟨_, rfl⟩
        have hG2 := (hG.add (⟨p, me, b, -1, n1⟩ : EV)).len
        rw [hadd] at hG2
        simp only at hG2
        have ho2 := (ordE_perm L2).length_eq
        have hl2 : L2.length ≤ 128 := by omega
        have ho22 : (ordE L2).length ≤ 128 := by omega
        by_cases he : e = 0
        · skip
          subst he
          refine JC.region ?_
          refine J.move rfl rfl ?_
          refine J.fieldAddr Ty.fd85_2 rfl rfl ?_
          refine J.loadOA (vs := cW n me) Ty.a41 Ty.s41 rfl (.tail _ (.tail _ (.tail _ (.head _)))) rfl rfl rfl ?_
          refine J.loadOA (vs := cP p) Ty.a25 Ty.s25 rfl (.tail _ (.tail _ (.tail _ (.tail _ (.head _))))) rfl rfl rfl ?_
          refine J.loadOA (vs := cI b) Ty.a23 Ty.s23 rfl (.tail _ (.tail _ (.tail _ (.tail _ (.tail _ (.head _)))))) rfl rfl rfl ?_
          refine J.move rfl rfl ?_
          refine J.fieldAddr Ty.fd85_3 rfl rfl ?_
          refine J.loadO Ty.a28 rfl (.tail _ (.tail _ (.tail _ (.head _)))) rfl rfl ?_
          refine J.perm ([(t1, tabO mo m1), (m1, .map es ck)] ++ ((b3, cb (cP p ++ cI b ++ [.slice aw way.length cw]) 87) :: (b2, cb ([.slice ae xs.length ce, iV most] ++ cW n me ++ [.slice ao os.length co_]) 85) :: (x5, cb (cP p) 25) :: (x6, cb (cI b) 23) :: (rt, rtabO (.slice ar (ordE L).length cr) mo) :: (lr ++ lw))) (.refl _) ?_
          refine J.callS (α := OutS) (V := fun x => .tuple #[.agg (cD (.slice (some ⟨x.h, 0, none⟩) 1 1) true false).toArray, .int .i64 0]) (Pr := fun x => Vec 3 1 (.slice x.a way.length x.c) way.length (way.map iV) x.lp ∧ Tab L2 x.es x.ck) (L := fun x => (x.h, cb (cH n1 (cF 4 p me b (.slice x.a way.length x.c))) 54) :: (x.lp ++ [(t1, tabO mo m1), (m1, .map x.es x.ck)])) (l1 := [(t1, tabO mo m1), (m1, .map es ck)]) Ty.bd18 rfl rfl (fun w1 hw => start_ok2 t1 m1 mo L es ck w1 hw.owns hT n me b p hkp _ way (vec_rowM hvw hw (fun q hq => by first | (simp [hq]; done) | (simp at hq; simp [hq]; done) | (simp at hq; subst hq; simp))) (hvw.off (hw.perm (l' := [(t1, tabO mo m1), (m1, .map es ck)] ++ (lw ++ ((b3, cb (cP p ++ cI b ++ [.slice aw way.length cw]) 87) :: (b2, cb ([.slice ae xs.length ce, iV most] ++ cW n me ++ [.slice ao os.length co_]) 85) :: (x5, cb (cP p) 25) :: (x6, cb (cI b) 23) :: (rt, rtabO (.slice ar (ordE L).length cr) mo) :: lr))) (by (refine perm_cnt (fun _ => ?_)); simp only [cntB_append, cntB_cons, cntB_nil, Nat.add_zero, Nat.zero_add]; try ac_rfl))) hbad n1 hn1 _ os (hro.below (hw.drop (List.nil_sublist _)).below) (hro.offNew hw (fun x hx => List.mem_append_left _ hx)) (by omega) hop hadd) (fun y hy9 => ?_)
          obtain ⟨hz, az, cz1, lz1, es2, ck2⟩ := y
          obtain ⟨hvz1, hT2⟩ := hy9
          simp only [List.cons_append, List.nil_append] at hvz1 hT2 ⊢
          refine J.perm ((t1, tabO mo m1) :: (m1, .map es2 ck2) :: (b3, cb (cP p ++ cI b ++ [.slice aw way.length cw]) 87) :: (b2, cb ([.slice ae xs.length ce, iV most] ++ cW n me ++ [.slice ao os.length co_]) 85) :: (x5, cb (cP p) 25) :: (x6, cb (cI b) 23) :: (rt, rtabO (.slice ar (ordE L).length cr) mo) :: (lr ++ (lw ++ ((hz, cb (cH n1 (cF 4 p me b (.slice az way.length cz1))) 54) :: lz1)))) (by (refine perm_cnt (fun _ => ?_)); simp only [cntB_append, cntB_cons, cntB_nil, Nat.add_zero, Nat.zero_add]; try ac_rfl) ?_
          refine J.move rfl rfl ?_
          refine J.extract rfl rfl rfl ?_
          refine J.extract rfl rfl rfl ?_
          refine J.alloc zN rfl rfl (fun b11 => ?_)
          refine J.storeW Ty.s37 rfl rfl rfl rfl rfl (by simp [Value.oneCell']) (by repeat first | exact .here | apply Up.there) ?_
          refine J.assign rfl rfl ?_
          refine J.nil ?_
          refine JX.thenN (hK4 _ _ ?_)
          refine JC.seq (fun K21 hK21 => ?_)
          refine JC.region ?_
          refine J.move rfl rfl ?_
          refine J.fieldAddr Ty.fd85_2 rfl rfl ?_
          refine J.fieldAddr Ty.fd41_0 rfl rfl ?_
          refine J.loadO Ty.a3 rfl (by repeat first | exact .head _ | apply List.Mem.tail | apply List.mem_append_right) (by exact rfl) rfl ?_
          refine J.fieldAddr Ty.fd85_2 rfl rfl ?_
          refine J.fieldAddr Ty.fd41_1 rfl rfl ?_
          refine J.loadOA Ty.a23 Ty.s23 rfl (by repeat first | exact .head _ | apply List.Mem.tail | apply List.mem_append_right) (by exact rfl) rfl rfl ?_
          refine J.loadOA Ty.a25 Ty.s25 rfl (by repeat first | exact .head _ | apply List.Mem.tail | apply List.mem_append_right) (by exact rfl) rfl rfl ?_
          refine J.loadOA Ty.a23 Ty.s23 rfl (by repeat first | exact .head _ | apply List.Mem.tail | apply List.mem_append_right) (by exact rfl) rfl rfl ?_
          refine J.move rfl rfl ?_
          refine J.fieldAddr Ty.fd85_3 rfl rfl ?_
          refine J.loadO Ty.a28 rfl (by repeat first | exact .head _ | apply List.Mem.tail | apply List.mem_append_right) (by exact rfl) rfl ?_
          refine J.perm (((rt, rtabO (.slice ar (ordE L).length cr) mo) :: lr) ++ ((b11, cb (cD (.slice (some ⟨hz, 0, none⟩) 1 1) true false) 37) :: (t1, tabO mo m1) :: (m1, .map es2 ck2) :: (b3, cb (cP p ++ cI b ++ [.slice aw way.length cw]) 87) :: (b2, cb ([.slice ae xs.length ce, iV most] ++ cW n me ++ [.slice ao os.length co_]) 85) :: (x5, cb (cP p) 25) :: (x6, cb (cI b) 23) :: (lw ++ ((hz, cb (cH n1 (cF 4 p me b (.slice az way.length cz1))) 54) :: lz1)))) (by (refine perm_cnt (fun _ => ?_)); simp only [cntB_append, cntB_cons, cntB_nil, Nat.add_zero, Nat.zero_add]; try ac_rfl) ?_
          refine J.callS (α := OutR) (V := fun x => .tuple #[.agg (cD (.slice (some ⟨x.h, 0, none⟩) 1 1) true false).toArray, .int .i64 0]) (Pr := fun x => Vec 3 1 (.slice x.a way.length x.c) way.length (way.map iV) x.lp ∧ Vec 34 51 x.v (ordE L2).length (fE (ordE L2)) x.lr) (L := fun x => (x.h, cb (cH n1 (cF 4 p me b (.slice x.a way.length x.c))) 54) :: (x.lp ++ (rt, rtabO x.v mo) :: x.lr)) (l1 := ((rt, rtabO (.slice ar (ordE L).length cr) mo) :: lr)) Ty.bd46 rfl rfl (fun w1 hw => rstart_ok rt _ mo L lr es ck n me b p _ way _ os w1 (hr.below (hw.drop (List.nil_sublist _)).below) (by omega) (hro.below (hw.drop (List.nil_sublist _)).below) (by omega) hkp hbad n1 hn1 hop hw.owns hT hl128 hvr (hr.offNew hw (fun x hx => List.mem_append_left _ hx)) (hro.offNew hw (fun x hx => List.mem_append_left _ hx)) hadd) (fun y hy9 => ?_)
          obtain ⟨hy, ay, cy1, ly1, v2, l2⟩ := y
          obtain ⟨hvy1, hv2⟩ := hy9
          simp only [List.cons_append, List.nil_append] at hvy1 hv2 ⊢
          obtain ⟨a2, c2, rfl, hc2⟩ := hv2.form
          refine J.perm ((b11, cb (cD (.slice (some ⟨hz, 0, none⟩) 1 1) true false) 37) :: (t1, tabO mo m1) :: (m1, .map es2 ck2) :: (b3, cb (cP p ++ cI b ++ [.slice aw way.length cw]) 87) :: (b2, cb ([.slice ae xs.length ce, iV most] ++ cW n me ++ [.slice ao os.length co_]) 85) :: (x5, cb (cP p) 25) :: (x6, cb (cI b) 23) :: (rt, rtabO (.slice a2 (ordE L2).length c2) mo) :: (l2 ++ (lw ++ ((hz, cb (cH n1 (cF 4 p me b (.slice az way.length cz1))) 54) :: (lz1 ++ ((hy, cb (cH n1 (cF 4 p me b (.slice ay way.length cy1))) 54) :: ly1)))))) (by (refine perm_cnt (fun _ => ?_)); simp only [cntB_append, cntB_cons, cntB_nil, Nat.add_zero, Nat.zero_add]; try ac_rfl) ?_
          refine J.move rfl rfl ?_
          refine J.extract rfl rfl rfl ?_
          refine J.extract rfl rfl rfl ?_
          refine J.alloc zN_ rfl rfl (fun b13 => ?_)
          refine J.storeW Ty.s90 rfl rfl rfl rfl rfl (by simp [Value.oneCell']) (by repeat first | exact .here | apply Up.there) ?_
          refine J.assign rfl rfl ?_
          refine J.nil ?_
          refine JX.thenN (hK21 _ _ ?_)
          refine JC.seq (fun K22 hK22 => ?_)
          refine JC.seq (fun K23 hK23 => ?_)
          refine JC.region ?_
          refine J.move rfl rfl ?_
          refine J.lenS rfl Ty.u26 rfl rfl ?_
          refine J.move rfl rfl ?_
          refine J.nil ?_
          refine JX.thenN (hK23 _ _ ?_)
          refine JC.block ?_
          refine JC.conseq (JC.cov (f := (fun st => [(8, .pointer (some ⟨t1, 0, none⟩)), (9, .pointer (some ⟨rt, 0, none⟩)), (11, .pointer (some ⟨b11, 0, none⟩)), (12, .int .i64 0), (13, .pointer (some ⟨b13, 0, none⟩)), (14, .int .i64 0), (10, .slice av way.length cv), (62, .int .i64 ((way.length : Nat) : Int)), (63, .int .i64 ((st.1 : Nat) : Int))]) ((0, lw) : Nat × List (Nat × Obj))) ⟨rfl, rfl, rfl, rfl, rfl, rfl, rfl, rfl, rfl, trivial⟩ (JC.loop (α := Nat × List (Nat × Obj)) (fun st => [(8, .pointer (some ⟨t1, 0, none⟩)), (9, .pointer (some ⟨rt, 0, none⟩)), (11, .pointer (some ⟨b11, 0, none⟩)), (12, .int .i64 0), (13, .pointer (some ⟨b13, 0, none⟩)), (14, .int .i64 0), (10, .slice av way.length cv), (62, .int .i64 ((way.length : Nat) : Int)), (63, .int .i64 ((st.1 : Nat) : Int))]) (fun st w' => (st.1 ≤ way.length ∧ IBlk (.slice av way.length cv) way.length st.2) ∧ St w [] (st.2 ++ ((b13, cb (cD (.slice (some ⟨hy, 0, none⟩) 1 1) true false) 90) :: (b11, cb (cD (.slice (some ⟨hz, 0, none⟩) 1 1) true false) 37) :: (t1, tabO mo m1) :: (m1, .map es2 ck2) :: (b3, cb (cP p ++ cI b ++ [.slice aw way.length cw]) 87) :: (b2, cb ([.slice ae xs.length ce, iV most] ++ cW n me ++ [.slice ao os.length co_]) 85) :: (x5, cb (cP p) 25) :: (x6, cb (cI b) 23) :: (rt, rtabO (.slice a2 (ordE L2).length c2) mo) :: (l2 ++ ((hz, cb (cH n1 (cF 4 p me b (.slice az way.length cz1))) 54) :: (lz1 ++ ((hy, cb (cH n1 (cF 4 p me b (.slice ay way.length cy1))) 54) :: ly1)))))) w') (fun st => way.length - st.1) ((0, lw) : Nat × List (Nat × Obj)) (fun st => ?_))) (fun w hw => ⟨⟨Nat.zero_le _, iblk_of hvw⟩, hw.perm (by (refine perm_cnt (fun _ => ?_)); simp only [cntB_append, cntB_cons, cntB_nil, Nat.add_zero, Nat.zero_add]; try ac_rfl)⟩)
          obtain ⟨i, lj⟩ := st
          refine JC.pr (fun hx1 => ?_)
          obtain ⟨hi, hbl⟩ := hx1
          simp only at hi hbl ⊢
          refine JC.seq (fun K24 hK24 => ?_)
          refine JC.region ?_
          refine J.bin rfl rfl rfl rfl ?_
          refine J.nil ?_
          refine JX.thenN (hK24 _ _ ?_)
          refine JC.seq (fun K25 hK25 => ?_)
          refine JC.cond rfl (fun h0 => ?_) (fun h0 => ?_)
          · skip
            have hlt : i < way.length := by simp at h0; omega
            obtain ⟨qv, ys, sp, rfl, rfl, hys, hyc⟩ := iblk_pos hbl (by omega)
            obtain ⟨yi, hyi⟩ : ∃ y, ys[i]? = some y := ⟨_, List.getElem?_eq_getElem (by omega)⟩
            refine JC.skip ?_
            refine JX.thenN (hK25 _ _ ?_)
            refine JC.seq (fun K26 hK26 => ?_)
            refine JC.block ?_
            refine JC.seq (fun K27 hK27 => ?_)
            refine JC.region ?_
            refine J.move rfl rfl ?_
            refine J.assign rfl rfl ?_
            refine J.nil ?_
            refine JX.thenN (hK27 _ _ ?_)
            refine JC.region ?_
            refine J.move rfl rfl ?_
            refine J.move rfl rfl ?_
            refine J.indexAddrS Ty.el26 Ty.s3 rfl rfl (by omega) (by omega) rfl ?_
            refine J.load1 (v := iV yi) Ty.a3 rfl (fun w1 hw => rowI_at2 (i := i) (Row.own (cs := ys.map iV ++ sp) (tb := 3) (fr := (0, 0)) hw (.head _) (by simp) hyc : Row w1 (.slice (some ⟨qv, 0, none⟩) way.length cv) way.length (ys.map iV)) hyi (by simp)) rfl ?_
            refine J.bin rfl rfl rfl rfl ?_
            refine J.name 70 rfl (show _ = iV (IntKind.wrap .i64 (yi + 1)) from rfl) ?_
            refine J.indexAddrS Ty.el26 Ty.s3 rfl rfl (by omega) (by omega) rfl ?_
            refine J.storeO (cs := ys.map iV ++ sp) (vs := [iV (IntKind.wrap .i64 (yi + 1))]) Ty.s3 rfl rfl rfl rfl (by simp [Value.oneCell']) .here (by simp; omega) ?_
            refine J.nil ?_
            refine JX.blockN ?_
            refine JX.thenN (hK26 _ _ ?_)
            refine JC.region ?_
            (first | refine J.addN rfl rfl (by omega) (by omega) rfl ?_ | refine J.bin rfl rfl rfl rfl ?_)
            refine J.move rfl rfl ?_
            refine J.nil ?_
            refine JX.thenN ?_
            refine JX.again ((i + 1, [(qv, cb ((ys.set i (IntKind.wrap .i64 (yi + 1))).map iV ++ sp) 3)]) : Nat × List (Nat × Obj)) ?_ ?_ ?_
            · simp only; omega
            · exact ⟨rfl, rfl, rfl, rfl, rfl, rfl, rfl, rfl, rfl, trivial⟩
            · exact fun w1 hw => ⟨⟨hlt, .inr ⟨qv, _, _, sp, rfl, rfl, by rw [List.length_set]; exact hys, hyc⟩⟩, by rw [set_int (i := i) (by omega) (by simp)] at hw; exact hw⟩
          · skip
            refine JC.conseq (I' := St w [] ((b13, cb (cD (.slice (some ⟨hy, 0, none⟩) 1 1) true false) 90) :: (b11, cb (cD (.slice (some ⟨hz, 0, none⟩) 1 1) true false) 37) :: (t1, tabO mo m1) :: (m1, .map es2 ck2) :: (b3, cb (cP p ++ cI b ++ [.slice aw way.length cw]) 87) :: (b2, cb ([.slice ae xs.length ce, iV most] ++ cW n me ++ [.slice ao os.length co_]) 85) :: (x5, cb (cP p) 25) :: (x6, cb (cI b) 23) :: (rt, rtabO (.slice a2 (ordE L2).length c2) mo) :: (l2 ++ ((hz, cb (cH n1 (cF 4 p me b (.slice az way.length cz1))) 54) :: (lz1 ++ ((hy, cb (cH n1 (cF 4 p me b (.slice ay way.length cy1))) 54) :: ly1)))))) ?_ (fun w1 hw => hw.drop (List.sublist_append_right _ _))
            refine JC.exit ?_
            refine JX.thenE ?_
            refine JX.thenE ?_
            refine JX.blockE ?_
            refine JX.thenN (hK22 _ _ ?_)
            refine JC.seq (fun K28 hK28 => ?_)
            apply JC.drawX (α := Value × List (Nat × Obj)) 24 (fun x => match x with | ⟨vz, lz⟩ => [.bool true, .bool true, .pointer (some ⟨t1, 0, none⟩), .bool true, .bool true, .bool true, .agg (cD (.slice (some ⟨hz, 0, none⟩) 1 1) true false).toArray, .agg (cD (.slice (some ⟨hy, 0, none⟩) 1 1) true false).toArray, .bool true, .bool true, .bool true, .int .i64 0, .int .i64 0, .bool true, .bool true, .bool true, .pointer (some ⟨t1, 0, none⟩), vz, .pointer (some ⟨rt, 0, none⟩), .pointer (some ⟨rt, 0, none⟩), .pointer (some ⟨rt, 0 + 0, none⟩), .slice a2 (ordE L2).length c2, .bool true, .bool true]) (fun m x => match x with | ⟨vz, lz⟩ => fun w1 => (m 17 = true → Vec 34 51 vz ((ordE L2)).length (fE ((ordE L2))) lz) ∧ St w [] ((b13, cb (cD (.slice (some ⟨hy, 0, none⟩) 1 1) true false) 90) :: (b11, cb (cD (.slice (some ⟨hz, 0, none⟩) 1 1) true false) 37) :: (t1, tabO mo m1) :: (m1, .map es2 ck2) :: (b3, cb (cP p ++ cI b ++ [.slice aw way.length cw]) 87) :: (b2, cb ([.slice ae xs.length ce, iV most] ++ cW n me ++ [.slice ao os.length co_]) 85) :: (x5, cb (cP p) 25) :: (x6, cb (cI b) 23) :: (rt, rtabO (.slice a2 (ordE L2).length c2) mo) :: ((bif m 17 then lz else []) ++ (l2 ++ ((hz, cb (cH n1 (cF 4 p me b (.slice az way.length cz1))) 54) :: (lz1 ++ ((hy, cb (cH n1 (cF 4 p me b (.slice ay way.length cy1))) 54) :: ly1)))))) w1) Ty.mixed rfl rfl rfl (by kernel_rfl) rfl rfl ?hinit ?hstep ?htail
            case hinit => exact fun w1 hw => ⟨(.slice none 0 0, []), fun h => (by cases h), hw.drew⟩
            case hstep =>
              refine ⟨fun m x hm hp => ?_, fun m x hm hp => ?_, fun m x hm hp => ?_, fun m x hm hp => ?_, fun m x hm hp => ?_, fun m x hm hp => ?_, fun m x hm hp => ?_, fun m x hm hp => ?_, fun m x hm hp => ?_, fun m x hm hp => ?_, fun m x hm hp => ?_, fun m x hm hp => ?_, fun m x hm hp => ?_, fun m x hm hp => ?_, fun m x hm hp => ?_, fun m x hm hp => ?_, fun m x hm hp => ?_, fun m x hm hp => ?_, fun m x hm hp => ?_, fun m x hm hp => ?_, fun m x hm hp => ?_, fun m x hm hp => ?_, fun m x hm hp => ?_, fun m x hm hp => ?_, trivial⟩
              · skip
                obtain ⟨vz, lz⟩ := x
                show J _ _ _ _ _ (_) _
                refine J.pr (fun hF => ?_)
                refine J.callB (v := .bool true) (fun w1 w2 hw hb => hw.step hb) Ty.bd15 rfl rfl (fun w1 hw => fixed14_spec w1) ?_
                exact J.finX rfl (fun _ hw => ⟨⟨vz, lz⟩, rfl, fun _ _ _ => rfl, hF, hw⟩)
              · skip
                obtain ⟨vz, lz⟩ := x
                show J _ _ _ _ _ ((73, .bool true) :: (73, .bool true) :: _) _
                refine J.pr (fun hF => ?_)
                refine J.move rfl rfl ?_
                exact J.finX rfl (fun _ hw => ⟨⟨vz, lz⟩, rfl, fun _ _ _ => rfl, hF, hw⟩)
              · skip
                obtain ⟨vz, lz⟩ := x
                show J _ _ _ _ _ ((74, .bool true) :: _) _
                refine J.pr (fun hF => ?_)
                first | refine J.skip rfl rfl rfl rfl rfl ?_ | refine J.skipU rfl rfl rfl rfl ?_ | (refine J.unguard rfl rfl rfl ?_; refine J.move rfl rfl ?_)
                exact J.finX rfl (fun _ hw => ⟨⟨vz, lz⟩, rfl, fun _ _ _ => rfl, hF, hw⟩)
              · skip
                obtain ⟨vz, lz⟩ := x
                show J _ _ _ _ _ ((74, .bool true) :: (75, .pointer (some ⟨t1, 0, none⟩)) :: _) _
                refine J.pr (fun hF => ?_)
                first | refine J.skip rfl rfl rfl rfl rfl ?_ | refine J.skipU rfl rfl rfl rfl ?_ | (refine J.unguard rfl rfl rfl ?_; refine J.neNil Ty.u29 rfl rfl rfl ?_)
                exact J.finX rfl (fun _ hw => ⟨⟨vz, lz⟩, rfl, fun _ _ _ => rfl, hF, hw⟩)
              · skip
                obtain ⟨vz, lz⟩ := x
                show J _ _ _ _ _ ((76, .bool true) :: (74, .bool true) :: _) _
                refine J.pr (fun hF => ?_)
                (first | refine J.pickT rfl rfl rfl ?_ | refine J.pickF rfl rfl rfl ?_)
                exact J.finX rfl (fun _ hw => ⟨⟨vz, lz⟩, rfl, fun _ _ _ => rfl, hF, hw⟩)
              · skip
                obtain ⟨vz, lz⟩ := x
                show J _ _ _ _ _ ((74, .bool true) :: (77, .bool true) :: _) _
                refine J.pr (fun hF => ?_)
                refine J.move rfl rfl ?_
                exact J.finX rfl (fun _ hw => ⟨⟨vz, lz⟩, rfl, fun _ _ _ => rfl, hF, hw⟩)
              · skip
                obtain ⟨vz, lz⟩ := x
                show J _ _ _ _ _ ((78, .bool true) :: _) _
                refine J.pr (fun hF => ?_)
                refine J.unguard rfl rfl rfl ?_
                refine J.loadA (vs := cD (.slice (some ⟨hz, 0, none⟩) 1 1) true false) Ty.a37 Ty.s37 rfl rfl (fun w1 hw => Cells.of_block (hw.own _ (.tail _ (.head _))) rfl) rfl ?_
                exact J.finX rfl (fun _ hw => ⟨⟨vz, lz⟩, rfl, fun _ _ _ => rfl, hF, hw⟩)
              · skip
                obtain ⟨vz, lz⟩ := x
                show J _ _ _ _ _ ((78, .bool true) :: _) _
                refine J.pr (fun hF => ?_)
                refine J.unguard rfl rfl rfl ?_
                refine J.loadA (vs := cD (.slice (some ⟨hy, 0, none⟩) 1 1) true false) Ty.a90 Ty.s90 rfl rfl (fun w1 hw => Cells.of_block (hw.own _ (.head _)) rfl) rfl ?_
                exact J.finX rfl (fun _ hw => ⟨⟨vz, lz⟩, rfl, fun _ _ _ => rfl, hF, hw⟩)
              · skip
                obtain ⟨vz, lz⟩ := x
                show J _ _ _ _ _ ((78, .bool true) :: (78, .bool true) :: (80, .agg (cD (.slice (some ⟨hy, 0, none⟩) 1 1) true false).toArray) :: (79, .agg (cD (.slice (some ⟨hz, 0, none⟩) 1 1) true false).toArray) :: _) _
                refine J.pr (fun hF => ?_)
                refine J.unguard rfl rfl rfl ?_
                refine J.callB (v := .bool true) (fun w1 w2 hw hb => hw.step hb) Ty.bd47 rfl rfl (fun w1 hw => same_beg (me := me) (b := b) (n1 := n1) hw hkp hl64 hvz1 hvy1 (by simp) (by simp) (fun q hq => by simp [hq]) (fun q hq => by simp [hq])) ?_
                exact J.finX rfl (fun _ hw => ⟨⟨vz, lz⟩, rfl, fun _ _ _ => rfl, hF, hw⟩)
              · skip
                obtain ⟨vz, lz⟩ := x
                show J _ _ _ _ _ ((81, .bool true) :: (78, .bool true) :: _) _
                refine J.pr (fun hF => ?_)
                (first | refine J.pickT rfl rfl rfl ?_ | refine J.pickF rfl rfl rfl ?_)
                exact J.finX rfl (fun _ hw => ⟨⟨vz, lz⟩, rfl, fun _ _ _ => rfl, hF, hw⟩)
              · skip
                obtain ⟨vz, lz⟩ := x
                show J _ _ _ _ _ ((81, .bool true) :: (82, .bool true) :: _) _
                refine J.pr (fun hF => ?_)
                refine J.move rfl rfl ?_
                exact J.finX rfl (fun _ hw => ⟨⟨vz, lz⟩, rfl, fun _ _ _ => rfl, hF, hw⟩)
              · skip
                obtain ⟨vz, lz⟩ := x
                show J _ _ _ _ _ ((83, .bool true) :: _) _
                refine J.pr (fun hF => ?_)
                first | refine J.skip rfl rfl rfl rfl rfl ?_ | refine J.skipU rfl rfl rfl rfl ?_ | (refine J.unguard rfl rfl rfl ?_; refine J.move rfl rfl ?_)
                exact J.finX rfl (fun _ hw => ⟨⟨vz, lz⟩, rfl, fun _ _ _ => rfl, hF, hw⟩)
              · skip
                obtain ⟨vz, lz⟩ := x
                show J _ _ _ _ _ ((83, .bool true) :: _) _
                refine J.pr (fun hF => ?_)
                first | refine J.skip rfl rfl rfl rfl rfl ?_ | refine J.skipU rfl rfl rfl rfl ?_ | (refine J.unguard rfl rfl rfl ?_; refine J.move rfl rfl ?_)
                exact J.finX rfl (fun _ hw => ⟨⟨vz, lz⟩, rfl, fun _ _ _ => rfl, hF, hw⟩)
              · skip
                obtain ⟨vz, lz⟩ := x
                show J _ _ _ _ _ ((83, .bool true) :: (85, .int .i64 0) :: (84, .int .i64 0) :: _) _
                refine J.pr (fun hF => ?_)
                refine J.unguard rfl rfl rfl ?_
                refine J.bin rfl rfl rfl rfl ?_
                refine J.name 86 rfl (show _ = Value.bool true by simp) ?_
                exact J.finX rfl (fun _ hw => ⟨⟨vz, lz⟩, rfl, fun _ _ _ => rfl, hF, hw⟩)
              · skip
                obtain ⟨vz, lz⟩ := x
                show J _ _ _ _ _ ((86, .bool true) :: (83, .bool true) :: _) _
                refine J.pr (fun hF => ?_)
                (first | refine J.pickT rfl rfl rfl ?_ | refine J.pickF rfl rfl rfl ?_)
                exact J.finX rfl (fun _ hw => ⟨⟨vz, lz⟩, rfl, fun _ _ _ => rfl, hF, hw⟩)
              · skip
                obtain ⟨vz, lz⟩ := x
                show J _ _ _ _ _ ((83, .bool true) :: (87, .bool true) :: _) _
                refine J.pr (fun hF => ?_)
                refine J.move rfl rfl ?_
                exact J.finX rfl (fun _ hw => ⟨⟨vz, lz⟩, rfl, fun _ _ _ => rfl, hF, hw⟩)
              · skip
                obtain ⟨vz, lz⟩ := x
                show J _ _ _ _ _ ((88, .bool true) :: _) _
                refine J.pr (fun hF => ?_)
                first | refine J.skip rfl rfl rfl rfl rfl ?_ | refine J.skipU rfl rfl rfl rfl ?_ | (refine J.unguard rfl rfl rfl ?_; refine J.move rfl rfl ?_)
                exact J.finX rfl (fun _ hw => ⟨⟨vz, lz⟩, rfl, fun _ _ _ => rfl, hF, hw⟩)
              · skip
                obtain ⟨vz, lz⟩ := x
                show J _ _ _ _ _ ((88, .bool true) :: (88, .bool true) :: (89, .pointer (some ⟨t1, 0, none⟩)) :: _) _
                refine J.pr (fun hF => ?_)
                refine J.conseq (I' := St w [] ((b13, cb (cD (.slice (some ⟨hy, 0, none⟩) 1 1) true false) 90) :: (b11, cb (cD (.slice (some ⟨hz, 0, none⟩) 1 1) true false) 37) :: (t1, tabO mo m1) :: (m1, .map es2 ck2) :: (b3, cb (cP p ++ cI b ++ [.slice aw way.length cw]) 87) :: (b2, cb ([.slice ae xs.length ce, iV most] ++ cW n me ++ [.slice ao os.length co_]) 85) :: (x5, cb (cP p) 25) :: (x6, cb (cI b) 23) :: (rt, rtabO (.slice a2 (ordE L2).length c2) mo) :: (l2 ++ ((hz, cb (cH n1 (cF 4 p me b (.slice az way.length cz1))) 54) :: (lz1 ++ ((hy, cb (cH n1 (cF 4 p me b (.slice ay way.length cy1))) 54) :: ly1)))))) ?_ (fun w1 hw => by simp only [hm, cond_false] at hw; exact hw)
                refine J.unguard rfl rfl rfl ?_
                refine J.perm ([] ++ ((b13, cb (cD (.slice (some ⟨hy, 0, none⟩) 1 1) true false) 90) :: (b11, cb (cD (.slice (some ⟨hz, 0, none⟩) 1 1) true false) 37) :: (t1, tabO mo m1) :: (m1, .map es2 ck2) :: (b3, cb (cP p ++ cI b ++ [.slice aw way.length cw]) 87) :: (b2, cb ([.slice ae xs.length ce, iV most] ++ cW n me ++ [.slice ao os.length co_]) 85) :: (x5, cb (cP p) 25) :: (x6, cb (cI b) 23) :: (rt, rtabO (.slice a2 (ordE L2).length c2) mo) :: (l2 ++ ((hz, cb (cH n1 (cF 4 p me b (.slice az way.length cz1))) 54) :: (lz1 ++ ((hy, cb (cH n1 (cF 4 p me b (.slice ay way.length cy1))) 54) :: ly1)))))) (.refl _) ?_
                refine J.callS (α := Value × List (Nat × Obj)) (V := (·.1)) (Pr := fun x => Vec 34 51 x.1 (ordE L2).length (fE (ordE L2)) x.2) (L := (·.2)) (l1 := []) Ty.bd25 rfl rfl (fun w1 hw => all_spec t1 m1 mo (L2) es2 ck2 w1 (hw.own _ (.tail _ (.tail _ (.head _)))) (hw.own _ (.tail _ (.tail _ (.tail _ (.head _))))) hT2 (by omega)) (fun x hvn => ?_)
                obtain ⟨vn, ln⟩ := x
                simp only at hvn ⊢
                refine J.nil (JX.finB rfl (fun w1 hw => ⟨⟨⟨vn, ln⟩, rfl, fun j h1 h2 => ?_, ?_⟩, trivial⟩))
                · match j, h1 with
                  | 0, _ => (first | rfl | trivial)
                  | 1, _ => (first | rfl | trivial)
                  | 2, _ => (first | rfl | trivial)
                  | 3, _ => (first | rfl | trivial)
                  | 4, _ => (first | rfl | trivial)
                  | 5, _ => (first | rfl | trivial)
                  | 6, _ => (first | rfl | trivial)
                  | 7, _ => (first | rfl | trivial)
                  | 8, _ => (first | rfl | trivial)
                  | 9, _ => (first | rfl | trivial)
                  | 10, _ => (first | rfl | trivial)
                  | 11, _ => (first | rfl | trivial)
                  | 12, _ => (first | rfl | trivial)
                  | 13, _ => (first | rfl | trivial)
                  | 14, _ => (first | rfl | trivial)
                  | 15, _ => (first | rfl | trivial)
                  | 16, _ => (first | rfl | trivial)
                  | 17, _ => exact absurd (h2.symm.trans hm) (by decide)
                  | 18, _ => (first | rfl | trivial)
                  | 19, _ => (first | rfl | trivial)
                  | 20, _ => (first | rfl | trivial)
                  | 21, _ => (first | rfl | trivial)
                  | 22, _ => (first | rfl | trivial)
                  | 23, _ => (first | rfl | trivial)
                  | j + 24, h1 => omega
                show (true = true → Vec 34 51 vn ((ordE L2)).length (fE ((ordE L2))) ln) ∧ St w [] ((b13, cb (cD (.slice (some ⟨hy, 0, none⟩) 1 1) true false) 90) :: (b11, cb (cD (.slice (some ⟨hz, 0, none⟩) 1 1) true false) 37) :: (t1, tabO mo m1) :: (m1, .map es2 ck2) :: (b3, cb (cP p ++ cI b ++ [.slice aw way.length cw]) 87) :: (b2, cb ([.slice ae xs.length ce, iV most] ++ cW n me ++ [.slice ao os.length co_]) 85) :: (x5, cb (cP p) 25) :: (x6, cb (cI b) 23) :: (rt, rtabO (.slice a2 (ordE L2).length c2) mo) :: ((bif true then ln else []) ++ (l2 ++ ((hz, cb (cH n1 (cF 4 p me b (.slice az way.length cz1))) 54) :: (lz1 ++ ((hy, cb (cH n1 (cF 4 p me b (.slice ay way.length cy1))) 54) :: ly1)))))) w1
                simp only [hm, cond_true, cond_false] at hw ⊢
                exact ⟨fun _ => hvn, hw.perm (by (refine perm_cnt (fun _ => ?_)); simp only [cntB_append, cntB_cons, cntB_nil, Nat.add_zero, Nat.zero_add]; try ac_rfl)⟩
              · skip
                obtain ⟨vz, lz⟩ := x
                show J _ _ _ _ _ ((88, .bool true) :: _) _
                refine J.pr (fun hF => ?_)
                first | refine J.skip rfl rfl rfl rfl rfl ?_ | refine J.skipU rfl rfl rfl rfl ?_ | (refine J.unguard rfl rfl rfl ?_; refine J.move rfl rfl ?_)
                exact J.finX rfl (fun _ hw => ⟨⟨vz, lz⟩, rfl, fun _ _ _ => rfl, hF, hw⟩)
              · skip
                obtain ⟨vz, lz⟩ := x
                show J _ _ _ _ _ ((88, .bool true) :: (91, .pointer (some ⟨rt, 0, none⟩)) :: _) _
                refine J.pr (fun hF => ?_)
                first | refine J.skip rfl rfl rfl rfl rfl ?_ | refine J.skipU rfl rfl rfl rfl ?_ | (refine J.unguard rfl rfl rfl ?_; refine J.nilCheck rfl rfl ?_)
                exact J.finX rfl (fun _ hw => ⟨⟨vz, lz⟩, rfl, fun _ _ _ => rfl, hF, hw⟩)
              · skip
                obtain ⟨vz, lz⟩ := x
                show J _ _ _ _ _ ((88, .bool true) :: (92, .pointer (some ⟨rt, 0, none⟩)) :: _) _
                refine J.pr (fun hF => ?_)
                first | refine J.skip rfl rfl rfl rfl rfl ?_ | refine J.skipU rfl rfl rfl rfl ?_ | (refine J.unguard rfl rfl rfl ?_; refine J.fieldAddr Ty.fd82_0 rfl rfl ?_)
                exact J.finX rfl (fun _ hw => ⟨⟨vz, lz⟩, rfl, fun _ _ _ => rfl, hF, hw⟩)
              · skip
                obtain ⟨vz, lz⟩ := x
                show J _ _ _ _ _ ((88, .bool true) :: (93, .pointer (some ⟨rt, 0 + 0, none⟩)) :: _) _
                refine J.pr (fun hF => ?_)
                refine J.unguard rfl rfl rfl ?_
                refine J.load1 (v := .slice a2 (ordE L2).length c2) Ty.a62 rfl (fun w1 hw => by rw [cell_of (hw.own _ (.tail _ (.tail _ (.tail _ (.tail _ (.tail _ (.tail _ (.tail _ (.tail _ (.head _))))))))))]; rfl) rfl ?_
                exact J.finX rfl (fun _ hw => ⟨⟨vz, lz⟩, rfl, fun _ _ _ => rfl, hF, hw⟩)
              · skip
                obtain ⟨vz, lz⟩ := x
                show J _ _ _ _ _ ((88, .bool true) :: (90, vz) :: (94, .slice a2 (ordE L2).length c2) :: (90, vz) :: _) _
                have hp17 : m 17 = true := predsT hp (by kernel_rfl)
                have hp17 : m 17 = true := predsT hp (by kernel_rfl)
                refine J.pr (fun hF => ?_)
                refine J.unguard rfl rfl rfl ?_
                refine J.callB (v := .bool true) (fun w1 w2 hw hb => hw.step hb) Ty.bd26 rfl rfl (fun w1 hw => (by have h := rsame_spec _ _ ((ordE L2)) ((ordE L2)) w1 (vec_rowM (l := (b13, cb (cD (.slice (some ⟨hy, 0, none⟩) 1 1) true false) 90) :: (b11, cb (cD (.slice (some ⟨hz, 0, none⟩) 1 1) true false) 37) :: (t1, tabO mo m1) :: (m1, .map es2 ck2) :: (b3, cb (cP p ++ cI b ++ [.slice aw way.length cw]) 87) :: (b2, cb ([.slice ae xs.length ce, iV most] ++ cW n me ++ [.slice ao os.length co_]) 85) :: (x5, cb (cP p) 25) :: (x6, cb (cI b) 23) :: (rt, rtabO (.slice a2 (ordE L2).length c2) mo) :: (lz ++ (l2 ++ ((hz, cb (cH n1 (cF 4 p me b (.slice az way.length cz1))) 54) :: (lz1 ++ ((hy, cb (cH n1 (cF 4 p me b (.slice ay way.length cy1))) 54) :: ly1)))))) (hF hp17) (by simp only [hp17, cond_true] at hw; exact hw) (fun q hq => by first | (simp [hq]; done) | (simp at hq; simp [hq]; done) | (simp at hq; subst hq; simp))) (vec_rowM (l := (b13, cb (cD (.slice (some ⟨hy, 0, none⟩) 1 1) true false) 90) :: (b11, cb (cD (.slice (some ⟨hz, 0, none⟩) 1 1) true false) 37) :: (t1, tabO mo m1) :: (m1, .map es2 ck2) :: (b3, cb (cP p ++ cI b ++ [.slice aw way.length cw]) 87) :: (b2, cb ([.slice ae xs.length ce, iV most] ++ cW n me ++ [.slice ao os.length co_]) 85) :: (x5, cb (cP p) 25) :: (x6, cb (cI b) 23) :: (rt, rtabO (.slice a2 (ordE L2).length c2) mo) :: (lz ++ (l2 ++ ((hz, cb (cH n1 (cF 4 p me b (.slice az way.length cz1))) 54) :: (lz1 ++ ((hy, cb (cH n1 (cF 4 p me b (.slice ay way.length cy1))) 54) :: ly1)))))) hv2 (by simp only [hp17, cond_true] at hw; exact hw) (fun q hq => by first | (simp [hq]; done) | (simp at hq; simp [hq]; done) | (simp at hq; subst hq; simp))) (ordE_ok hT2) (ordE_ok hT2) (by omega) (by omega); simpa using h)) ?_
                exact J.finX rfl (fun _ hw => ⟨⟨vz, lz⟩, rfl, fun _ _ _ => rfl, hF, hw⟩)
              · skip
                obtain ⟨vz, lz⟩ := x
                show J _ _ _ _ _ ((95, .bool true) :: (88, .bool true) :: _) _
                refine J.pr (fun hF => ?_)
                (first | refine J.pickT rfl rfl rfl ?_ | refine J.pickF rfl rfl rfl ?_)
                exact J.finX rfl (fun _ hw => ⟨⟨vz, lz⟩, rfl, fun _ _ _ => rfl, hF, hw⟩)
            case htail =>
              intro x
              obtain ⟨vz, lz⟩ := x
              show J _ _ _ _ _ ((96, .bool true) :: (95, .bool true) :: (94, .slice a2 (ordE L2).length c2) :: (93, .pointer (some ⟨rt, 0 + 0, none⟩)) :: (92, .pointer (some ⟨rt, 0, none⟩)) :: (91, .pointer (some ⟨rt, 0, none⟩)) :: (90, vz) :: (89, .pointer (some ⟨t1, 0, none⟩)) :: (88, .bool true) :: (87, .bool true) :: (86, .bool true) :: (85, .int .i64 0) :: (84, .int .i64 0) :: (83, .bool true) :: (82, .bool true) :: (81, .bool true) :: (80, .agg (cD (.slice (some ⟨hy, 0, none⟩) 1 1) true false).toArray) :: (79, .agg (cD (.slice (some ⟨hz, 0, none⟩) 1 1) true false).toArray) :: (78, .bool true) :: (77, .bool true) :: (76, .bool true) :: (75, .pointer (some ⟨t1, 0, none⟩)) :: (74, .bool true) :: (73, .bool true) :: _) (fun w1 => (true = true → Vec 34 51 vz ((ordE L2)).length (fE ((ordE L2))) lz) ∧ St w [] ((b13, cb (cD (.slice (some ⟨hy, 0, none⟩) 1 1) true false) 90) :: (b11, cb (cD (.slice (some ⟨hz, 0, none⟩) 1 1) true false) 37) :: (t1, tabO mo m1) :: (m1, .map es2 ck2) :: (b3, cb (cP p ++ cI b ++ [.slice aw way.length cw]) 87) :: (b2, cb ([.slice ae xs.length ce, iV most] ++ cW n me ++ [.slice ao os.length co_]) 85) :: (x5, cb (cP p) 25) :: (x6, cb (cI b) 23) :: (rt, rtabO (.slice a2 (ordE L2).length c2) mo) :: ((bif true then lz else []) ++ (l2 ++ ((hz, cb (cH n1 (cF 4 p me b (.slice az way.length cz1))) 54) :: (lz1 ++ ((hy, cb (cH n1 (cF 4 p me b (.slice ay way.length cy1))) 54) :: ly1)))))) w1)
              refine J.pr (fun hF => ?_)
              refine J.assign rfl rfl ?_
              refine J.nil ?_
              refine JX.thenN (hK28 _ _ ?_)
              refine JC.ret ?_
              refine JX.ret1 rfl rfl (fun w hw => ?_)
              exact ⟨rfl, (hw.drop (List.nil_sublist _)).below⟩
        · skip
          refine JC.region ?_
          refine J.move rfl rfl ?_
          refine J.fieldAddr Ty.fd85_2 rfl rfl ?_
          refine J.loadOA (vs := cW n me) Ty.a41 Ty.s41 rfl (.tail _ (.tail _ (.tail _ (.head _)))) rfl rfl rfl ?_
          refine J.loadOA (vs := cP p) Ty.a25 Ty.s25 rfl (.tail _ (.tail _ (.tail _ (.tail _ (.head _))))) rfl rfl rfl ?_
          refine J.loadOA (vs := cI b) Ty.a23 Ty.s23 rfl (.tail _ (.tail _ (.tail _ (.tail _ (.tail _ (.head _)))))) rfl rfl rfl ?_
          refine J.move rfl rfl ?_
          refine J.fieldAddr Ty.fd85_3 rfl rfl ?_
          refine J.loadO Ty.a28 rfl (.tail _ (.tail _ (.tail _ (.head _)))) rfl rfl ?_
          refine J.perm ([(t1, tabO mo m1), (m1, .map es ck)] ++ ((b3, cb (cP p ++ cI b ++ [.slice aw way.length cw]) 87) :: (b2, cb ([.slice ae xs.length ce, iV most] ++ cW n me ++ [.slice ao os.length co_]) 85) :: (x5, cb (cP p) 25) :: (x6, cb (cI b) 23) :: (rt, rtabO (.slice ar (ordE L).length cr) mo) :: (lr ++ lw))) (.refl _) ?_
          refine J.callS (α := Array MapEntry × Nat) (V := fun _ => .tuple #[.agg (cD nilV false (e == 5)).toArray, .int .i64 e]) (Pr := fun y => Tab L2 y.1 y.2) (L := fun y => [(t1, tabO mo m1), (m1, .map y.1 y.2)]) (l1 := [(t1, tabO mo m1), (m1, .map es ck)]) Ty.bd18 rfl rfl (fun w1 hw => start_full2 t1 m1 mo L es ck w1 hw.owns hT n me b p hkp _ way (vec_rowM hvw hw (fun q hq => by first | (simp [hq]; done) | (simp at hq; simp [hq]; done) | (simp at hq; subst hq; simp))) (hvw.off (hw.perm (l' := [(t1, tabO mo m1), (m1, .map es ck)] ++ (lw ++ ((b3, cb (cP p ++ cI b ++ [.slice aw way.length cw]) 87) :: (b2, cb ([.slice ae xs.length ce, iV most] ++ cW n me ++ [.slice ao os.length co_]) 85) :: (x5, cb (cP p) 25) :: (x6, cb (cI b) 23) :: (rt, rtabO (.slice ar (ordE L).length cr) mo) :: lr))) (by (refine perm_cnt (fun _ => ?_)); simp only [cntB_append, cntB_cons, cntB_nil, Nat.add_zero, Nat.zero_add]; try ac_rfl))) hbad n1 hn1 _ os (hro.below (hw.drop (List.nil_sublist _)).below) (hro.offNew hw (fun x hx => List.mem_append_left _ hx)) (by omega) hop hadd he) (fun y hT2 => ?_)
          obtain ⟨es2, ck2⟩ := y
          simp only [List.cons_append, List.nil_append] at hT2 ⊢
          refine J.move rfl rfl ?_
          refine J.extract rfl rfl rfl ?_
          refine J.extract rfl rfl rfl ?_
          refine J.alloc zN rfl rfl (fun b11 => ?_)
          refine J.storeW Ty.s37 rfl rfl rfl rfl rfl (by simp [Value.oneCell']) (by repeat first | exact .here | apply Up.there) ?_
          refine J.assign rfl rfl ?_
          refine J.nil ?_
          refine JX.thenN (hK4 _ _ ?_)
          refine JC.seq (fun K29 hK29 => ?_)
          refine JC.region ?_
          refine J.move rfl rfl ?_
          refine J.fieldAddr Ty.fd85_2 rfl rfl ?_
          refine J.fieldAddr Ty.fd41_0 rfl rfl ?_
          refine J.loadO Ty.a3 rfl (by repeat first | exact .head _ | apply List.Mem.tail | apply List.mem_append_right) (by exact rfl) rfl ?_
          refine J.fieldAddr Ty.fd85_2 rfl rfl ?_
          refine J.fieldAddr Ty.fd41_1 rfl rfl ?_
          refine J.loadOA Ty.a23 Ty.s23 rfl (by repeat first | exact .head _ | apply List.Mem.tail | apply List.mem_append_right) (by exact rfl) rfl rfl ?_
          refine J.loadOA Ty.a25 Ty.s25 rfl (by repeat first | exact .head _ | apply List.Mem.tail | apply List.mem_append_right) (by exact rfl) rfl rfl ?_
          refine J.loadOA Ty.a23 Ty.s23 rfl (by repeat first | exact .head _ | apply List.Mem.tail | apply List.mem_append_right) (by exact rfl) rfl rfl ?_
          refine J.move rfl rfl ?_
          refine J.fieldAddr Ty.fd85_3 rfl rfl ?_
          refine J.loadO Ty.a28 rfl (by repeat first | exact .head _ | apply List.Mem.tail | apply List.mem_append_right) (by exact rfl) rfl ?_
          refine J.perm (((rt, rtabO (.slice ar (ordE L).length cr) mo) :: lr) ++ ((b11, cb (cD nilV false (e == 5)) 37) :: (t1, tabO mo m1) :: (m1, .map es2 ck2) :: (b3, cb (cP p ++ cI b ++ [.slice aw way.length cw]) 87) :: (b2, cb ([.slice ae xs.length ce, iV most] ++ cW n me ++ [.slice ao os.length co_]) 85) :: (x5, cb (cP p) 25) :: (x6, cb (cI b) 23) :: lw)) (by (refine perm_cnt (fun _ => ?_)); simp only [cntB_append, cntB_cons, cntB_nil, Nat.add_zero, Nat.zero_add]; try ac_rfl) ?_
          refine J.callS (α := Value × List (Nat × Obj)) (V := fun _ => .tuple #[.agg (cD nilV false (e == 5)).toArray, .int .i64 e]) (Pr := fun y => Vec 34 51 y.1 (ordE L2).length (fE (ordE L2)) y.2) (L := fun y => (rt, rtabO y.1 mo) :: y.2) (l1 := ((rt, rtabO (.slice ar (ordE L).length cr) mo) :: lr)) Ty.bd46 rfl rfl (fun w1 hw => rstart_full rt _ mo L lr es ck n me b p _ way _ os w1 (hr.below (hw.drop (List.nil_sublist _)).below) (by omega) (hro.below (hw.drop (List.nil_sublist _)).below) (by omega) hkp hbad n1 hn1 hop hw.owns hT hl128 hvr (hr.offNew hw (fun x hx => List.mem_append_left _ hx)) (hro.offNew hw (fun x hx => List.mem_append_left _ hx)) hadd he) (fun y hv2 => ?_)
          obtain ⟨v2, l2⟩ := y
          simp only [List.cons_append, List.nil_append] at hv2 ⊢
          obtain ⟨a2, c2, rfl, hc2⟩ := hv2.form
          refine J.perm ((b11, cb (cD nilV false (e == 5)) 37) :: (t1, tabO mo m1) :: (m1, .map es2 ck2) :: (b3, cb (cP p ++ cI b ++ [.slice aw way.length cw]) 87) :: (b2, cb ([.slice ae xs.length ce, iV most] ++ cW n me ++ [.slice ao os.length co_]) 85) :: (x5, cb (cP p) 25) :: (x6, cb (cI b) 23) :: (rt, rtabO (.slice a2 (ordE L2).length c2) mo) :: (l2 ++ lw)) (by (refine perm_cnt (fun _ => ?_)); simp only [cntB_append, cntB_cons, cntB_nil, Nat.add_zero, Nat.zero_add]; try ac_rfl) ?_
          refine J.move rfl rfl ?_
          refine J.extract rfl rfl rfl ?_
          refine J.extract rfl rfl rfl ?_
          refine J.alloc zN_ rfl rfl (fun b13 => ?_)
          refine J.storeW Ty.s90 rfl rfl rfl rfl rfl (by simp [Value.oneCell']) (by repeat first | exact .here | apply Up.there) ?_
          refine J.assign rfl rfl ?_
          refine J.nil ?_
          refine JX.thenN (hK29 _ _ ?_)
          refine JC.seq (fun K30 hK30 => ?_)
          refine JC.seq (fun K31 hK31 => ?_)
          refine JC.region ?_
          refine J.move rfl rfl ?_
          refine J.lenS rfl Ty.u26 rfl rfl ?_
          refine J.move rfl rfl ?_
          refine J.nil ?_
          refine JX.thenN (hK31 _ _ ?_)
          refine JC.block ?_
          refine JC.conseq (JC.cov (f := (fun st => [(8, .pointer (some ⟨t1, 0, none⟩)), (9, .pointer (some ⟨rt, 0, none⟩)), (11, .pointer (some ⟨b11, 0, none⟩)), (12, .int .i64 e), (13, .pointer (some ⟨b13, 0, none⟩)), (14, .int .i64 e), (10, .slice av way.length cv), (62, .int .i64 ((way.length : Nat) : Int)), (63, .int .i64 ((st.1 : Nat) : Int))]) ((0, lw) : Nat × List (Nat × Obj))) ⟨rfl, rfl, rfl, rfl, rfl, rfl, rfl, rfl, rfl, trivial⟩ (JC.loop (α := Nat × List (Nat × Obj)) (fun st => [(8, .pointer (some ⟨t1, 0, none⟩)), (9, .pointer (some ⟨rt, 0, none⟩)), (11, .pointer (some ⟨b11, 0, none⟩)), (12, .int .i64 e), (13, .pointer (some ⟨b13, 0, none⟩)), (14, .int .i64 e), (10, .slice av way.length cv), (62, .int .i64 ((way.length : Nat) : Int)), (63, .int .i64 ((st.1 : Nat) : Int))]) (fun st w' => (st.1 ≤ way.length ∧ IBlk (.slice av way.length cv) way.length st.2) ∧ St w [] (st.2 ++ ((b13, cb (cD nilV false (e == 5)) 90) :: (b11, cb (cD nilV false (e == 5)) 37) :: (t1, tabO mo m1) :: (m1, .map es2 ck2) :: (b3, cb (cP p ++ cI b ++ [.slice aw way.length cw]) 87) :: (b2, cb ([.slice ae xs.length ce, iV most] ++ cW n me ++ [.slice ao os.length co_]) 85) :: (x5, cb (cP p) 25) :: (x6, cb (cI b) 23) :: (rt, rtabO (.slice a2 (ordE L2).length c2) mo) :: l2)) w') (fun st => way.length - st.1) ((0, lw) : Nat × List (Nat × Obj)) (fun st => ?_))) (fun w hw => ⟨⟨Nat.zero_le _, iblk_of hvw⟩, hw.perm (by (refine perm_cnt (fun _ => ?_)); simp only [cntB_append, cntB_cons, cntB_nil, Nat.add_zero, Nat.zero_add]; try ac_rfl)⟩)
          obtain ⟨i, lj⟩ := st
          refine JC.pr (fun hx1 => ?_)
          obtain ⟨hi, hbl⟩ := hx1
          simp only at hi hbl ⊢
          refine JC.seq (fun K32 hK32 => ?_)
          refine JC.region ?_
          refine J.bin rfl rfl rfl rfl ?_
          refine J.nil ?_
          refine JX.thenN (hK32 _ _ ?_)
          refine JC.seq (fun K33 hK33 => ?_)
          refine JC.cond rfl (fun h0 => ?_) (fun h0 => ?_)
          · skip
            have hlt : i < way.length := by simp at h0; omega
            obtain ⟨qv, ys, sp, rfl, rfl, hys, hyc⟩ := iblk_pos hbl (by omega)
            obtain ⟨yi, hyi⟩ : ∃ y, ys[i]? = some y := ⟨_, List.getElem?_eq_getElem (by omega)⟩
            refine JC.skip ?_
            refine JX.thenN (hK33 _ _ ?_)
            refine JC.seq (fun K34 hK34 => ?_)
            refine JC.block ?_
            refine JC.seq (fun K35 hK35 => ?_)
            refine JC.region ?_
            refine J.move rfl rfl ?_
            refine J.assign rfl rfl ?_
            refine J.nil ?_
            refine JX.thenN (hK35 _ _ ?_)
            refine JC.region ?_
            refine J.move rfl rfl ?_
            refine J.move rfl rfl ?_
            refine J.indexAddrS Ty.el26 Ty.s3 rfl rfl (by omega) (by omega) rfl ?_
            refine J.load1 (v := iV yi) Ty.a3 rfl (fun w1 hw => rowI_at2 (i := i) (Row.own (cs := ys.map iV ++ sp) (tb := 3) (fr := (0, 0)) hw (.head _) (by simp) hyc : Row w1 (.slice (some ⟨qv, 0, none⟩) way.length cv) way.length (ys.map iV)) hyi (by simp)) rfl ?_
            refine J.bin rfl rfl rfl rfl ?_
            refine J.name 70 rfl (show _ = iV (IntKind.wrap .i64 (yi + 1)) from rfl) ?_
            refine J.indexAddrS Ty.el26 Ty.s3 rfl rfl (by omega) (by omega) rfl ?_
            refine J.storeO (cs := ys.map iV ++ sp) (vs := [iV (IntKind.wrap .i64 (yi + 1))]) Ty.s3 rfl rfl rfl rfl (by simp [Value.oneCell']) .here (by simp; omega) ?_
            refine J.nil ?_
            refine JX.blockN ?_
            refine JX.thenN (hK34 _ _ ?_)
            refine JC.region ?_
            (first | refine J.addN rfl rfl (by omega) (by omega) rfl ?_ | refine J.bin rfl rfl rfl rfl ?_)
            refine J.move rfl rfl ?_
            refine J.nil ?_
            refine JX.thenN ?_
            refine JX.again ((i + 1, [(qv, cb ((ys.set i (IntKind.wrap .i64 (yi + 1))).map iV ++ sp) 3)]) : Nat × List (Nat × Obj)) ?_ ?_ ?_
            · simp only; omega
            · exact ⟨rfl, rfl, rfl, rfl, rfl, rfl, rfl, rfl, rfl, trivial⟩
            · exact fun w1 hw => ⟨⟨hlt, .inr ⟨qv, _, _, sp, rfl, rfl, by rw [List.length_set]; exact hys, hyc⟩⟩, by rw [set_int (i := i) (by omega) (by simp)] at hw; exact hw⟩
          · skip
            refine JC.conseq (I' := St w [] ((b13, cb (cD nilV false (e == 5)) 90) :: (b11, cb (cD nilV false (e == 5)) 37) :: (t1, tabO mo m1) :: (m1, .map es2 ck2) :: (b3, cb (cP p ++ cI b ++ [.slice aw way.length cw]) 87) :: (b2, cb ([.slice ae xs.length ce, iV most] ++ cW n me ++ [.slice ao os.length co_]) 85) :: (x5, cb (cP p) 25) :: (x6, cb (cI b) 23) :: (rt, rtabO (.slice a2 (ordE L2).length c2) mo) :: l2)) ?_ (fun w1 hw => hw.drop (List.sublist_append_right _ _))
            refine JC.exit ?_
            refine JX.thenE ?_
            refine JX.thenE ?_
            refine JX.blockE ?_
            refine JX.thenN (hK30 _ _ ?_)
            refine JC.seq (fun K36 hK36 => ?_)
            apply JC.drawX (α := Value × List (Nat × Obj)) 24 (fun x => match x with | ⟨vz, lz⟩ => [.bool true, .bool true, .pointer (some ⟨t1, 0, none⟩), .bool true, .bool true, .bool true, .agg (cD nilV false (e == 5)).toArray, .agg (cD nilV false (e == 5)).toArray, .bool true, .bool true, .bool true, .int .i64 e, .int .i64 e, .bool true, .bool true, .bool true, .pointer (some ⟨t1, 0, none⟩), vz, .pointer (some ⟨rt, 0, none⟩), .pointer (some ⟨rt, 0, none⟩), .pointer (some ⟨rt, 0 + 0, none⟩), .slice a2 (ordE L2).length c2, .bool true, .bool true]) (fun m x => match x with | ⟨vz, lz⟩ => fun w1 => (m 17 = true → Vec 34 51 vz ((ordE L2)).length (fE ((ordE L2))) lz) ∧ St w [] ((b13, cb (cD nilV false (e == 5)) 90) :: (b11, cb (cD nilV false (e == 5)) 37) :: (t1, tabO mo m1) :: (m1, .map es2 ck2) :: (b3, cb (cP p ++ cI b ++ [.slice aw way.length cw]) 87) :: (b2, cb ([.slice ae xs.length ce, iV most] ++ cW n me ++ [.slice ao os.length co_]) 85) :: (x5, cb (cP p) 25) :: (x6, cb (cI b) 23) :: (rt, rtabO (.slice a2 (ordE L2).length c2) mo) :: ((bif m 17 then lz else []) ++ l2)) w1) Ty.mixed rfl rfl rfl (by kernel_rfl) rfl rfl ?hinit ?hstep ?htail
            case hinit => exact fun w1 hw => ⟨(.slice none 0 0, []), fun h => (by cases h), hw.drew⟩
            case hstep =>
              refine ⟨fun m x hm hp => ?_, fun m x hm hp => ?_, fun m x hm hp => ?_, fun m x hm hp => ?_, fun m x hm hp => ?_, fun m x hm hp => ?_, fun m x hm hp => ?_, fun m x hm hp => ?_, fun m x hm hp => ?_, fun m x hm hp => ?_, fun m x hm hp => ?_, fun m x hm hp => ?_, fun m x hm hp => ?_, fun m x hm hp => ?_, fun m x hm hp => ?_, fun m x hm hp => ?_, fun m x hm hp => ?_, fun m x hm hp => ?_, fun m x hm hp => ?_, fun m x hm hp => ?_, fun m x hm hp => ?_, fun m x hm hp => ?_, fun m x hm hp => ?_, fun m x hm hp => ?_, trivial⟩
              · skip
                obtain ⟨vz, lz⟩ := x
                show J _ _ _ _ _ (_) _
                refine J.pr (fun hF => ?_)
                refine J.callB (v := .bool true) (fun w1 w2 hw hb => hw.step hb) Ty.bd15 rfl rfl (fun w1 hw => fixed14_spec w1) ?_
                exact J.finX rfl (fun _ hw => ⟨⟨vz, lz⟩, rfl, fun _ _ _ => rfl, hF, hw⟩)
              · skip
                obtain ⟨vz, lz⟩ := x
                show J _ _ _ _ _ ((73, .bool true) :: (73, .bool true) :: _) _
                refine J.pr (fun hF => ?_)
                refine J.move rfl rfl ?_
                exact J.finX rfl (fun _ hw => ⟨⟨vz, lz⟩, rfl, fun _ _ _ => rfl, hF, hw⟩)
              · skip
                obtain ⟨vz, lz⟩ := x
                show J _ _ _ _ _ ((74, .bool true) :: _) _
                refine J.pr (fun hF => ?_)
                first | refine J.skip rfl rfl rfl rfl rfl ?_ | refine J.skipU rfl rfl rfl rfl ?_ | (refine J.unguard rfl rfl rfl ?_; refine J.move rfl rfl ?_)
                exact J.finX rfl (fun _ hw => ⟨⟨vz, lz⟩, rfl, fun _ _ _ => rfl, hF, hw⟩)
              · skip
                obtain ⟨vz, lz⟩ := x
                show J _ _ _ _ _ ((74, .bool true) :: (75, .pointer (some ⟨t1, 0, none⟩)) :: _) _
                refine J.pr (fun hF => ?_)
                first | refine J.skip rfl rfl rfl rfl rfl ?_ | refine J.skipU rfl rfl rfl rfl ?_ | (refine J.unguard rfl rfl rfl ?_; refine J.neNil Ty.u29 rfl rfl rfl ?_)
                exact J.finX rfl (fun _ hw => ⟨⟨vz, lz⟩, rfl, fun _ _ _ => rfl, hF, hw⟩)
              · skip
                obtain ⟨vz, lz⟩ := x
                show J _ _ _ _ _ ((76, .bool true) :: (74, .bool true) :: _) _
                refine J.pr (fun hF => ?_)
                (first | refine J.pickT rfl rfl rfl ?_ | refine J.pickF rfl rfl rfl ?_)
                exact J.finX rfl (fun _ hw => ⟨⟨vz, lz⟩, rfl, fun _ _ _ => rfl, hF, hw⟩)
              · skip
                obtain ⟨vz, lz⟩ := x
                show J _ _ _ _ _ ((74, .bool true) :: (77, .bool true) :: _) _
                refine J.pr (fun hF => ?_)
                refine J.move rfl rfl ?_
                exact J.finX rfl (fun _ hw => ⟨⟨vz, lz⟩, rfl, fun _ _ _ => rfl, hF, hw⟩)
              · skip
                obtain ⟨vz, lz⟩ := x
                show J _ _ _ _ _ ((78, .bool true) :: _) _
                refine J.pr (fun hF => ?_)
                refine J.unguard rfl rfl rfl ?_
                refine J.loadA (vs := cD nilV false (e == 5)) Ty.a37 Ty.s37 rfl rfl (fun w1 hw => Cells.of_block (hw.own _ (.tail _ (.head _))) rfl) rfl ?_
                exact J.finX rfl (fun _ hw => ⟨⟨vz, lz⟩, rfl, fun _ _ _ => rfl, hF, hw⟩)
              · skip
                obtain ⟨vz, lz⟩ := x
                show J _ _ _ _ _ ((78, .bool true) :: _) _
                refine J.pr (fun hF => ?_)
                refine J.unguard rfl rfl rfl ?_
                refine J.loadA (vs := cD nilV false (e == 5)) Ty.a90 Ty.s90 rfl rfl (fun w1 hw => Cells.of_block (hw.own _ (.head _)) rfl) rfl ?_
                exact J.finX rfl (fun _ hw => ⟨⟨vz, lz⟩, rfl, fun _ _ _ => rfl, hF, hw⟩)
              · skip
                obtain ⟨vz, lz⟩ := x
                show J _ _ _ _ _ ((78, .bool true) :: (78, .bool true) :: (80, .agg (cD nilV false (e == 5)).toArray) :: (79, .agg (cD nilV false (e == 5)).toArray) :: _) _
                refine J.pr (fun hF => ?_)
                refine J.unguard rfl rfl rfl ?_
                refine J.callB (v := .bool true) (fun w1 w2 hw hb => hw.step hb) Ty.bd47 rfl rfl (fun w1 hw => same_nil false (e == 5) w1) ?_
                exact J.finX rfl (fun _ hw => ⟨⟨vz, lz⟩, rfl, fun _ _ _ => rfl, hF, hw⟩)
              · skip
                obtain ⟨vz, lz⟩ := x
                show J _ _ _ _ _ ((81, .bool true) :: (78, .bool true) :: _) _
                refine J.pr (fun hF => ?_)
                (first | refine J.pickT rfl rfl rfl ?_ | refine J.pickF rfl rfl rfl ?_)
                exact J.finX rfl (fun _ hw => ⟨⟨vz, lz⟩, rfl, fun _ _ _ => rfl, hF, hw⟩)
              · skip
                obtain ⟨vz, lz⟩ := x
                show J _ _ _ _ _ ((81, .bool true) :: (82, .bool true) :: _) _
                refine J.pr (fun hF => ?_)
                refine J.move rfl rfl ?_
                exact J.finX rfl (fun _ hw => ⟨⟨vz, lz⟩, rfl, fun _ _ _ => rfl, hF, hw⟩)
              · skip
                obtain ⟨vz, lz⟩ := x
                show J _ _ _ _ _ ((83, .bool true) :: _) _
                refine J.pr (fun hF => ?_)
                first | refine J.skip rfl rfl rfl rfl rfl ?_ | refine J.skipU rfl rfl rfl rfl ?_ | (refine J.unguard rfl rfl rfl ?_; refine J.move rfl rfl ?_)
                exact J.finX rfl (fun _ hw => ⟨⟨vz, lz⟩, rfl, fun _ _ _ => rfl, hF, hw⟩)
              · skip
                obtain ⟨vz, lz⟩ := x
                show J _ _ _ _ _ ((83, .bool true) :: _) _
                refine J.pr (fun hF => ?_)
                first | refine J.skip rfl rfl rfl rfl rfl ?_ | refine J.skipU rfl rfl rfl rfl ?_ | (refine J.unguard rfl rfl rfl ?_; refine J.move rfl rfl ?_)
                exact J.finX rfl (fun _ hw => ⟨⟨vz, lz⟩, rfl, fun _ _ _ => rfl, hF, hw⟩)
              · skip
                obtain ⟨vz, lz⟩ := x
                show J _ _ _ _ _ ((83, .bool true) :: (85, .int .i64 e) :: (84, .int .i64 e) :: _) _
                refine J.pr (fun hF => ?_)
                refine J.unguard rfl rfl rfl ?_
                refine J.bin rfl rfl rfl rfl ?_
                refine J.name 86 rfl (show _ = Value.bool true by simp) ?_
                exact J.finX rfl (fun _ hw => ⟨⟨vz, lz⟩, rfl, fun _ _ _ => rfl, hF, hw⟩)
              · skip
                obtain ⟨vz, lz⟩ := x
                show J _ _ _ _ _ ((86, .bool true) :: (83, .bool true) :: _) _
                refine J.pr (fun hF => ?_)
                (first | refine J.pickT rfl rfl rfl ?_ | refine J.pickF rfl rfl rfl ?_)
                exact J.finX rfl (fun _ hw => ⟨⟨vz, lz⟩, rfl, fun _ _ _ => rfl, hF, hw⟩)
              · skip
                obtain ⟨vz, lz⟩ := x
                show J _ _ _ _ _ ((83, .bool true) :: (87, .bool true) :: _) _
                refine J.pr (fun hF => ?_)
                refine J.move rfl rfl ?_
                exact J.finX rfl (fun _ hw => ⟨⟨vz, lz⟩, rfl, fun _ _ _ => rfl, hF, hw⟩)
              · skip
                obtain ⟨vz, lz⟩ := x
                show J _ _ _ _ _ ((88, .bool true) :: _) _
                refine J.pr (fun hF => ?_)
                first | refine J.skip rfl rfl rfl rfl rfl ?_ | refine J.skipU rfl rfl rfl rfl ?_ | (refine J.unguard rfl rfl rfl ?_; refine J.move rfl rfl ?_)
                exact J.finX rfl (fun _ hw => ⟨⟨vz, lz⟩, rfl, fun _ _ _ => rfl, hF, hw⟩)
              · skip
                obtain ⟨vz, lz⟩ := x
                show J _ _ _ _ _ ((88, .bool true) :: (88, .bool true) :: (89, .pointer (some ⟨t1, 0, none⟩)) :: _) _
                refine J.pr (fun hF => ?_)
                refine J.conseq (I' := St w [] ((b13, cb (cD nilV false (e == 5)) 90) :: (b11, cb (cD nilV false (e == 5)) 37) :: (t1, tabO mo m1) :: (m1, .map es2 ck2) :: (b3, cb (cP p ++ cI b ++ [.slice aw way.length cw]) 87) :: (b2, cb ([.slice ae xs.length ce, iV most] ++ cW n me ++ [.slice ao os.length co_]) 85) :: (x5, cb (cP p) 25) :: (x6, cb (cI b) 23) :: (rt, rtabO (.slice a2 (ordE L2).length c2) mo) :: l2)) ?_ (fun w1 hw => by simp only [hm, cond_false] at hw; exact hw)
                refine J.unguard rfl rfl rfl ?_
                refine J.perm ([] ++ ((b13, cb (cD nilV false (e == 5)) 90) :: (b11, cb (cD nilV false (e == 5)) 37) :: (t1, tabO mo m1) :: (m1, .map es2 ck2) :: (b3, cb (cP p ++ cI b ++ [.slice aw way.length cw]) 87) :: (b2, cb ([.slice ae xs.length ce, iV most] ++ cW n me ++ [.slice ao os.length co_]) 85) :: (x5, cb (cP p) 25) :: (x6, cb (cI b) 23) :: (rt, rtabO (.slice a2 (ordE L2).length c2) mo) :: l2)) (.refl _) ?_
                refine J.callS (α := Value × List (Nat × Obj)) (V := (·.1)) (Pr := fun x => Vec 34 51 x.1 (ordE L2).length (fE (ordE L2)) x.2) (L := (·.2)) (l1 := []) Ty.bd25 rfl rfl (fun w1 hw => all_spec t1 m1 mo (L2) es2 ck2 w1 (hw.own _ (.tail _ (.tail _ (.head _)))) (hw.own _ (.tail _ (.tail _ (.tail _ (.head _))))) hT2 (by omega)) (fun x hvn => ?_)
                obtain ⟨vn, ln⟩ := x
                simp only at hvn ⊢
                refine J.nil (JX.finB rfl (fun w1 hw => ⟨⟨⟨vn, ln⟩, rfl, fun j h1 h2 => ?_, ?_⟩, trivial⟩))
                · match j, h1 with
                  | 0, _ => (first | rfl | trivial)
                  | 1, _ => (first | rfl | trivial)
                  | 2, _ => (first | rfl | trivial)
                  | 3, _ => (first | rfl | trivial)
                  | 4, _ => (first | rfl | trivial)
                  | 5, _ => (first | rfl | trivial)
                  | 6, _ => (first | rfl | trivial)
                  | 7, _ => (first | rfl | trivial)
                  | 8, _ => (first | rfl | trivial)
                  | 9, _ => (first | rfl | trivial)
                  | 10, _ => (first | rfl | trivial)
                  | 11, _ => (first | rfl | trivial)
                  | 12, _ => (first | rfl | trivial)
                  | 13, _ => (first | rfl | trivial)
                  | 14, _ => (first | rfl | trivial)
                  | 15, _ => (first | rfl | trivial)
                  | 16, _ => (first | rfl | trivial)
                  | 17, _ => exact absurd (h2.symm.trans hm) (by decide)
                  | 18, _ => (first | rfl | trivial)
                  | 19, _ => (first | rfl | trivial)
                  | 20, _ => (first | rfl | trivial)
                  | 21, _ => (first | rfl | trivial)
                  | 22, _ => (first | rfl | trivial)
                  | 23, _ => (first | rfl | trivial)
                  | j + 24, h1 => omega
                show (true = true → Vec 34 51 vn ((ordE L2)).length (fE ((ordE L2))) ln) ∧ St w [] ((b13, cb (cD nilV false (e == 5)) 90) :: (b11, cb (cD nilV false (e == 5)) 37) :: (t1, tabO mo m1) :: (m1, .map es2 ck2) :: (b3, cb (cP p ++ cI b ++ [.slice aw way.length cw]) 87) :: (b2, cb ([.slice ae xs.length ce, iV most] ++ cW n me ++ [.slice ao os.length co_]) 85) :: (x5, cb (cP p) 25) :: (x6, cb (cI b) 23) :: (rt, rtabO (.slice a2 (ordE L2).length c2) mo) :: ((bif true then ln else []) ++ l2)) w1
                simp only [hm, cond_true, cond_false] at hw ⊢
                exact ⟨fun _ => hvn, hw.perm (by (refine perm_cnt (fun _ => ?_)); simp only [cntB_append, cntB_cons, cntB_nil, Nat.add_zero, Nat.zero_add]; try ac_rfl)⟩
              · skip
                obtain ⟨vz, lz⟩ := x
                show J _ _ _ _ _ ((88, .bool true) :: _) _
                refine J.pr (fun hF => ?_)
                first | refine J.skip rfl rfl rfl rfl rfl ?_ | refine J.skipU rfl rfl rfl rfl ?_ | (refine J.unguard rfl rfl rfl ?_; refine J.move rfl rfl ?_)
                exact J.finX rfl (fun _ hw => ⟨⟨vz, lz⟩, rfl, fun _ _ _ => rfl, hF, hw⟩)
              · skip
                obtain ⟨vz, lz⟩ := x
                show J _ _ _ _ _ ((88, .bool true) :: (91, .pointer (some ⟨rt, 0, none⟩)) :: _) _
                refine J.pr (fun hF => ?_)
                first | refine J.skip rfl rfl rfl rfl rfl ?_ | refine J.skipU rfl rfl rfl rfl ?_ | (refine J.unguard rfl rfl rfl ?_; refine J.nilCheck rfl rfl ?_)
                exact J.finX rfl (fun _ hw => ⟨⟨vz, lz⟩, rfl, fun _ _ _ => rfl, hF, hw⟩)
              · skip
                obtain ⟨vz, lz⟩ := x
                show J _ _ _ _ _ ((88, .bool true) :: (92, .pointer (some ⟨rt, 0, none⟩)) :: _) _
                refine J.pr (fun hF => ?_)
                first | refine J.skip rfl rfl rfl rfl rfl ?_ | refine J.skipU rfl rfl rfl rfl ?_ | (refine J.unguard rfl rfl rfl ?_; refine J.fieldAddr Ty.fd82_0 rfl rfl ?_)
                exact J.finX rfl (fun _ hw => ⟨⟨vz, lz⟩, rfl, fun _ _ _ => rfl, hF, hw⟩)
              · skip
                obtain ⟨vz, lz⟩ := x
                show J _ _ _ _ _ ((88, .bool true) :: (93, .pointer (some ⟨rt, 0 + 0, none⟩)) :: _) _
                refine J.pr (fun hF => ?_)
                refine J.unguard rfl rfl rfl ?_
                refine J.load1 (v := .slice a2 (ordE L2).length c2) Ty.a62 rfl (fun w1 hw => by rw [cell_of (hw.own _ (.tail _ (.tail _ (.tail _ (.tail _ (.tail _ (.tail _ (.tail _ (.tail _ (.head _))))))))))]; rfl) rfl ?_
                exact J.finX rfl (fun _ hw => ⟨⟨vz, lz⟩, rfl, fun _ _ _ => rfl, hF, hw⟩)
              · skip
                obtain ⟨vz, lz⟩ := x
                show J _ _ _ _ _ ((88, .bool true) :: (90, vz) :: (94, .slice a2 (ordE L2).length c2) :: (90, vz) :: _) _
                have hp17 : m 17 = true := predsT hp (by kernel_rfl)
                have hp17 : m 17 = true := predsT hp (by kernel_rfl)
                refine J.pr (fun hF => ?_)
                refine J.unguard rfl rfl rfl ?_
                refine J.callB (v := .bool true) (fun w1 w2 hw hb => hw.step hb) Ty.bd26 rfl rfl (fun w1 hw => (by have h := rsame_spec _ _ ((ordE L2)) ((ordE L2)) w1 (vec_rowM (l := (b13, cb (cD nilV false (e == 5)) 90) :: (b11, cb (cD nilV false (e == 5)) 37) :: (t1, tabO mo m1) :: (m1, .map es2 ck2) :: (b3, cb (cP p ++ cI b ++ [.slice aw way.length cw]) 87) :: (b2, cb ([.slice ae xs.length ce, iV most] ++ cW n me ++ [.slice ao os.length co_]) 85) :: (x5, cb (cP p) 25) :: (x6, cb (cI b) 23) :: (rt, rtabO (.slice a2 (ordE L2).length c2) mo) :: (lz ++ l2)) (hF hp17) (by simp only [hp17, cond_true] at hw; exact hw) (fun q hq => by first | (simp [hq]; done) | (simp at hq; simp [hq]; done) | (simp at hq; subst hq; simp))) (vec_rowM (l := (b13, cb (cD nilV false (e == 5)) 90) :: (b11, cb (cD nilV false (e == 5)) 37) :: (t1, tabO mo m1) :: (m1, .map es2 ck2) :: (b3, cb (cP p ++ cI b ++ [.slice aw way.length cw]) 87) :: (b2, cb ([.slice ae xs.length ce, iV most] ++ cW n me ++ [.slice ao os.length co_]) 85) :: (x5, cb (cP p) 25) :: (x6, cb (cI b) 23) :: (rt, rtabO (.slice a2 (ordE L2).length c2) mo) :: (lz ++ l2)) hv2 (by simp only [hp17, cond_true] at hw; exact hw) (fun q hq => by first | (simp [hq]; done) | (simp at hq; simp [hq]; done) | (simp at hq; subst hq; simp))) (ordE_ok hT2) (ordE_ok hT2) (by omega) (by omega); simpa using h)) ?_
                exact J.finX rfl (fun _ hw => ⟨⟨vz, lz⟩, rfl, fun _ _ _ => rfl, hF, hw⟩)
              · skip
                obtain ⟨vz, lz⟩ := x
                show J _ _ _ _ _ ((95, .bool true) :: (88, .bool true) :: _) _
                refine J.pr (fun hF => ?_)
                (first | refine J.pickT rfl rfl rfl ?_ | refine J.pickF rfl rfl rfl ?_)
                exact J.finX rfl (fun _ hw => ⟨⟨vz, lz⟩, rfl, fun _ _ _ => rfl, hF, hw⟩)
            case htail =>
              intro x
              obtain ⟨vz, lz⟩ := x
              show J _ _ _ _ _ ((96, .bool true) :: (95, .bool true) :: (94, .slice a2 (ordE L2).length c2) :: (93, .pointer (some ⟨rt, 0 + 0, none⟩)) :: (92, .pointer (some ⟨rt, 0, none⟩)) :: (91, .pointer (some ⟨rt, 0, none⟩)) :: (90, vz) :: (89, .pointer (some ⟨t1, 0, none⟩)) :: (88, .bool true) :: (87, .bool true) :: (86, .bool true) :: (85, .int .i64 e) :: (84, .int .i64 e) :: (83, .bool true) :: (82, .bool true) :: (81, .bool true) :: (80, .agg (cD nilV false (e == 5)).toArray) :: (79, .agg (cD nilV false (e == 5)).toArray) :: (78, .bool true) :: (77, .bool true) :: (76, .bool true) :: (75, .pointer (some ⟨t1, 0, none⟩)) :: (74, .bool true) :: (73, .bool true) :: _) (fun w1 => (true = true → Vec 34 51 vz ((ordE L2)).length (fE ((ordE L2))) lz) ∧ St w [] ((b13, cb (cD nilV false (e == 5)) 90) :: (b11, cb (cD nilV false (e == 5)) 37) :: (t1, tabO mo m1) :: (m1, .map es2 ck2) :: (b3, cb (cP p ++ cI b ++ [.slice aw way.length cw]) 87) :: (b2, cb ([.slice ae xs.length ce, iV most] ++ cW n me ++ [.slice ao os.length co_]) 85) :: (x5, cb (cP p) 25) :: (x6, cb (cI b) 23) :: (rt, rtabO (.slice a2 (ordE L2).length c2) mo) :: ((bif true then lz else []) ++ l2)) w1)
              refine J.pr (fun hF => ?_)
              refine J.assign rfl rfl ?_
              refine J.nil ?_
              refine JX.thenN (hK36 _ _ ?_)
              refine JC.ret ?_
              refine JX.ret1 rfl rfl (fun w hw => ?_)
              exact ⟨rfl, (hw.drop (List.nil_sublist _)).below⟩

theorem setupStarts_walk (w : World) (cc : List Value) (c : CaseV) (hc : RCase w cc c) (xc : List Value) (x : WayV) (hx : RWay w xc x) :
    Calls Try.prog 12 [.agg cc.toArray, .agg xc.toArray].toArray w fun r w' => r = .returned (.bool true) ∧ Bel w w' := by
  have h1 : c.o.xs.length ≤ 140737488351232 := by
    obtain ⟨_, h1, h2, _⟩ := hc.o
    have h3 : reachBytes = 140737488351232 := rfl
    omega
  exact setupStarts_spec c.e.v x.t.v c.o.v c.e.xs x.t.xs c.o.xs c.most c.n c.me x.b x.p w (rslE hc.e) (rslE_ok hc.e) (rslE_len hc.e) (rslI hx.t) (RSl.len8 hx.t) (rslB hc.o) h1 hx.p cc xc hc.cells hx.cells
end Go.Proofs.Ytpldpkdlloolkaa
