/-
  ring.Want: contract.
-/
import Derived.Test.YtbafhclandendaaKn
namespace Go.Proofs.Ytbafhclandendaa
open Go.J Go.RowKit
set_option linter.unusedVariables false
set_option linter.unusedSimpArgs false
set_option maxRecDepth 4000
theorem rowI_slice {w : World} {a : Option Addr} {c i j : Nat} {ys : List IDV} (h : Row w (.slice a ys.length c) ys.length (fI ys)) (hij : i ≤ j) (hj : j ≤ ys.length) :
    Row w (.slice (if c = i then a else a.map (·.add (i * 16))) (j - i) (c - i)) ((ys.drop i).take (j - i)).length (fI ((ys.drop i).take (j - i))) := by
  have := h.slice (sz := 16) (fI_length ys) hij hj
  rw [fI_take, fI_drop]
  rw [show ((ys.drop i).take (j - i)).length = j - i by rw [List.length_take, List.length_drop]; omega]
  exact this

theorem want_spec (self : IDV) (v : Value) (xs : List IDV) (half : Int) (w : World) (hr : Row w v xs.length (fI xs)) (hl : xs.length ≤ 1099511627776) :
    Calls Try.prog 49 [.agg (cI self).toArray, v, .int .i64 half].toArray w fun r w' => ∃ x : Value × List (Nat × Obj), r = .returned x.1 ∧ Vec 23 16 x.1 (wantI self xs half).length (fI (wantI self xs half)) x.2 ∧ St w [] x.2 w' := by
  refine calls_of_J (args := [.agg (cI self).toArray, v, .int .i64 half]) (e := [(0, .agg (cI self).toArray), (1, v), (2, .int .i64 half)]) Try.func49 rfl rfl ⟨rfl, rfl, rfl, trivial⟩ (St.start w) ?_
  refine JC.seq (fun K0 hK0 => ?_)
  refine JC.region ?_
  refine J.box rfl rfl rfl (fun b3 => ?_)
  refine J.assign rfl rfl ?_
  refine J.nil ?_
  refine JX.thenN (hK0 _ _ ?_)
  refine JC.seq (fun K1 hK1 => ?_)
  refine JC.region ?_
  refine J.loadOA (vs := cI self) Ty.a23 Ty.s23 rfl (by repeat first | exact .head _ | apply List.Mem.tail | apply List.mem_append_right) (by exact rfl) rfl rfl ?_
  refine J.move rfl rfl ?_
  refine J.callS (α := Value × List (Nat × Obj)) (V := (·.1)) (Pr := fun x => Vec 23 16 x.1 (sortI xs self).length (fI (sortI xs self)) x.2) (L := (·.2)) (l1 := []) (l := [(b3, cb (cI self) 23)]) Ty.bd43 rfl rfl (fun w1 hw => sorted_spec self v xs w1 (hr.st (.inr (by simp)) hw) (by omega)) (fun x hx => ?_)
  obtain ⟨vs, ls⟩ := x
  simp only at hx ⊢
  have hsl := sortI_le xs self
  obtain ⟨aq, cq, rfl, hcs⟩ := hx.form
  refine J.assign rfl rfl ?_
  refine J.nil ?_
  refine JX.thenN (hK1 _ _ ?_)
  refine JC.seq (fun K2 hK2 => ?_)
  refine JC.region ?_
  refine J.move rfl rfl ?_
  refine J.max2 rfl rfl rfl ?_
  refine J.move rfl rfl ?_
  refine J.lenS rfl Ty.u24 rfl rfl ?_
  refine J.min2 rfl rfl rfl ?_
  obtain ⟨n, hn⟩ : ∃ n : Nat, (n : Int) = min (max half 0) (((sortI xs self).length : Nat) : Int) := ⟨(min (max half 0) (((sortI xs self).length : Nat) : Int)).toNat, by omega⟩
  refine J.name 16 rfl (show _ = Value.int .i64 ((n : Nat) : Int) by rw [hn]) ?_
  refine J.assign rfl rfl ?_
  refine J.nil ?_
  refine JX.thenN (hK2 _ _ ?_)
  refine JC.seq (fun K3 hK3 => ?_)
  refine JC.region ?_
  refine J.move rfl rfl ?_
  refine J.makeFn rfl rfl ?_
  refine J.callS (α := List IDV × List (Nat × Obj)) (V := fun _ => .tuple #[]) (Pr := fun x => x.1.Perm (sortI xs self) ∧ x.1.Pairwise (fun a b => dI self a ≤ dI self b) ∧ Vec 23 16 (.slice aq (sortI xs self).length cq) x.1.length (fI x.1) x.2) (L := (·.2)) (l1 := ls) (l := [(b3, cb (cI self) 23)]) Ty.bd64 rfl rfl (fun w1 hw => sort_vec 69 #[.pointer (some ⟨b3, 0, none⟩)] (dI self) (fun _ _ h => dI_inj h) Ty.bd69 _ (sortI xs self) ls [(b3, cb (cI self) 23)] w1 hx hw.owns' (by omega) (fun a b W hW => by simpa using want1_spec b3 self a b W hW)) (fun x hs => ?_)
  obtain ⟨ys, lsrt⟩ := x
  simp only at hs ⊢
  obtain ⟨hp, hs, hvs⟩ := hs
  have hyl := hp.length_eq
  refine J.perm ((b3, cb (cI self) 23) :: lsrt) (by (refine perm_cnt (fun _ => ?_)); simp only [cntB_append, cntB_cons, cntB_nil, Nat.add_zero, Nat.zero_add]; try ac_rfl) ?_
  refine J.nil ?_
  refine JX.thenN (hK3 _ _ ?_)
  refine JC.seq (fun K4 hK4 => ?_)
  apply JC.drawX (α := Value × List (Nat × Obj) × Value × List (Nat × Obj)) 12 (fun x => match x with | ⟨vc, lc, va, la⟩ => [.agg (cI self).toArray, .slice aq (sortI xs self).length cq, .int .i64 ((n : Nat) : Int), .slice (if cq = 0 then aq else aq.map (·.add (0 * 16))) (n - 0) (cq - 0), vc, .slice aq (sortI xs self).length cq, .slice aq (sortI xs self).length cq, .int .i64 (((sortI xs self).length : Nat) : Int), .int .i64 ((n : Nat) : Int), .int .i64 (((sortI xs self).length - n : Nat) : Int), .slice (if cq = (sortI xs self).length - n then aq else aq.map (·.add (((sortI xs self).length - n) * 16))) ((sortI xs self).length - ((sortI xs self).length - n)) (cq - ((sortI xs self).length - n)), va]) (fun m x => match x with | ⟨vc, lc, va, la⟩ => fun w1 => ((m 11 = true → m 4 = true ∧ Vec 23 16 va ((ys.take n ++ ys.drop ((sortI xs self).length - n))).length (fI ((ys.take n ++ ys.drop ((sortI xs self).length - n)))) la) ∧ (m 4 = true → Vec 23 16 vc ((ys.take n)).length (fI ((ys.take n))) lc)) ∧ St w [] ((b3, cb (cI self) 23) :: ((bif m 11 then la else (bif m 4 then lc else [])) ++ lsrt)) w1) Ty.mixed rfl rfl rfl (by kernel_rfl) rfl rfl ?hinit ?hstep ?htail
  case hinit => exact fun w1 hw => ⟨(.slice none 0 0, [], .slice none 0 0, []), ⟨fun h => (by cases h), fun h => (by cases h)⟩, hw.drew⟩
  case hstep =>
    refine ⟨fun m x hm hp => ?_, fun m x hm hp => ?_, fun m x hm hp => ?_, fun m x hm hp => ?_, fun m x hm hp => ?_, fun m x hm hp => ?_, fun m x hm hp => ?_, fun m x hm hp => ?_, fun m x hm hp => ?_, fun m x hm hp => ?_, fun m x hm hp => ?_, fun m x hm hp => ?_, trivial⟩
    · skip
      obtain ⟨vc, lc, va, la⟩ := x
      show J _ _ _ _ _ (_) _
      refine J.pr (fun hF => ?_)
      refine J.loadOA (vs := cI self) Ty.a23 Ty.s23 rfl (.head _) rfl rfl rfl ?_
      exact J.finX rfl (fun _ hw => ⟨⟨vc, lc, va, la⟩, rfl, fun _ _ _ => rfl, hF, hw⟩)
    · skip
      obtain ⟨vc, lc, va, la⟩ := x
      show J _ _ _ _ _ (_) _
      refine J.pr (fun hF => ?_)
      refine J.move rfl rfl ?_
      exact J.finX rfl (fun _ hw => ⟨⟨vc, lc, va, la⟩, rfl, fun _ _ _ => rfl, hF, hw⟩)
    · skip
      obtain ⟨vc, lc, va, la⟩ := x
      show J _ _ _ _ _ (_) _
      refine J.pr (fun hF => ?_)
      refine J.move rfl rfl ?_
      exact J.finX rfl (fun _ hw => ⟨⟨vc, lc, va, la⟩, rfl, fun _ _ _ => rfl, hF, hw⟩)
    · skip
      obtain ⟨vc, lc, va, la⟩ := x
      show J _ _ _ _ _ ((22, .int .i64 ((n : Nat) : Int)) :: (21, .slice aq (sortI xs self).length cq) :: _) _
      refine J.pr (fun hF => ?_)
      refine J.sliceS (i := 0) (j := n) Ty.el24 Ty.s23 rfl rfl rfl rfl rfl (by omega) (by omega) (by omega) rfl ?_
      exact J.finX rfl (fun _ hw => ⟨⟨vc, lc, va, la⟩, rfl, fun _ _ _ => rfl, hF, hw⟩)
    · skip
      obtain ⟨vc, lc, va, la⟩ := x
      show J _ _ _ _ _ ((23, .slice (if cq = 0 then aq else aq.map (·.add (0 * 16))) (n - 0) (cq - 0)) :: _) _
      refine J.pr (fun hF => ?_)
      refine J.perm ([] ++ ((b3, cb (cI self) 23) :: ((bif m 11 then la else (bif m 4 then lc else [])) ++ lsrt))) (.refl _) ?_
      refine J.callS (α := Value × List (Nat × Obj)) (V := (·.1)) (Pr := fun x => Vec 23 16 x.1 ((ys.take n)).length (fI ((ys.take n))) x.2) (L := (·.2)) (l1 := []) Ty.bd48 rfl rfl (fun w1 hw => clone_spec _ (ys.take n) w1 (by
        have h1 := rowI_slice (i := 0) (j := n) (by have h0 := (hvs.row (S := []) (l := (b3, cb (cI self) 23) :: (bif m 11 then la else (bif m 4 then lc else []))) (hw.perm (by (refine perm_cnt (fun _ => ?_)); simp only [cntB_append, cntB_cons, cntB_nil, Nat.add_zero, Nat.zero_add]; try ac_rfl))); rw [hyl] at h0 ⊢; exact h0) (Nat.zero_le _) (by omega)
        rw [List.drop_zero, Nat.sub_zero] at h1
        exact h1) (by rw [List.length_take]; omega)) (fun x hv4 => ?_)
      obtain ⟨vc9, lc9⟩ := x
      simp only at hv4 ⊢
      refine J.nil (JX.finB rfl (fun w1 hw => ⟨⟨⟨vc9, lc9, va, la⟩, rfl, fun j h1 h2 => ?_, ?_⟩, trivial⟩))
      · match j, h1 with
        | 0, _ => (first | rfl | trivial)
        | 1, _ => (first | rfl | trivial)
        | 2, _ => (first | rfl | trivial)
        | 3, _ => (first | rfl | trivial)
        | 4, _ => exact absurd (h2.symm.trans hm) (by decide)
        | 5, _ => (first | rfl | trivial)
        | 6, _ => (first | rfl | trivial)
        | 7, _ => (first | rfl | trivial)
        | 8, _ => (first | rfl | trivial)
        | 9, _ => (first | rfl | trivial)
        | 10, _ => (first | rfl | trivial)
        | 11, _ => (first | rfl | trivial)
        | j + 12, h1 => omega
      show ((m 11 = true → true = true ∧ Vec 23 16 va ((ys.take n ++ ys.drop ((sortI xs self).length - n))).length (fI ((ys.take n ++ ys.drop ((sortI xs self).length - n)))) la) ∧ (true = true → Vec 23 16 vc9 ((ys.take n)).length (fI ((ys.take n))) lc9)) ∧ St w [] ((b3, cb (cI self) 23) :: ((bif m 11 then la else (bif true then lc9 else [])) ++ lsrt)) w1
      have hm11 : m 11 = false := by
        cases h : m 11 with
        | false => rfl
        | true => exact absurd (hm.symm.trans (hF.1 h).1) (by decide)
      refine ⟨⟨fun h => absurd (hm11.symm.trans h) (by decide), fun _ => hv4⟩, ?_⟩
      simp only [hm, hm11, cond_true, cond_false] at hw ⊢
      exact hw.perm (by (refine perm_cnt (fun _ => ?_)); simp only [cntB_append, cntB_cons, cntB_nil, Nat.add_zero, Nat.zero_add]; try ac_rfl)
    · skip
      obtain ⟨vc, lc, va, la⟩ := x
      show J _ _ _ _ _ (_) _
      refine J.pr (fun hF => ?_)
      refine J.move rfl rfl ?_
      exact J.finX rfl (fun _ hw => ⟨⟨vc, lc, va, la⟩, rfl, fun _ _ _ => rfl, hF, hw⟩)
    · skip
      obtain ⟨vc, lc, va, la⟩ := x
      show J _ _ _ _ _ (_) _
      refine J.pr (fun hF => ?_)
      refine J.move rfl rfl ?_
      exact J.finX rfl (fun _ hw => ⟨⟨vc, lc, va, la⟩, rfl, fun _ _ _ => rfl, hF, hw⟩)
    · skip
      obtain ⟨vc, lc, va, la⟩ := x
      show J _ _ _ _ _ ((26, .slice aq (sortI xs self).length cq) :: _) _
      refine J.pr (fun hF => ?_)
      refine J.lenS rfl Ty.u24 rfl rfl ?_
      exact J.finX rfl (fun _ hw => ⟨⟨vc, lc, va, la⟩, rfl, fun _ _ _ => rfl, hF, hw⟩)
    · skip
      obtain ⟨vc, lc, va, la⟩ := x
      show J _ _ _ _ _ (_) _
      refine J.pr (fun hF => ?_)
      refine J.move rfl rfl ?_
      exact J.finX rfl (fun _ hw => ⟨⟨vc, lc, va, la⟩, rfl, fun _ _ _ => rfl, hF, hw⟩)
    · skip
      obtain ⟨vc, lc, va, la⟩ := x
      show J _ _ _ _ _ ((28, .int .i64 ((n : Nat) : Int)) :: (27, .int .i64 (((sortI xs self).length : Nat) : Int)) :: _) _
      refine J.pr (fun hF => ?_)
      refine J.subN rfl rfl (by omega) (by omega) rfl ?_
      refine J.name 29 rfl (show _ = Value.int .i64 (((sortI xs self).length - n : Nat) : Int) by congr 1; omega) ?_
      exact J.finX rfl (fun _ hw => ⟨⟨vc, lc, va, la⟩, rfl, fun _ _ _ => rfl, hF, hw⟩)
    · skip
      obtain ⟨vc, lc, va, la⟩ := x
      show J _ _ _ _ _ ((29, .int .i64 (((sortI xs self).length - n : Nat) : Int)) :: (25, .slice aq (sortI xs self).length cq) :: _) _
      refine J.pr (fun hF => ?_)
      refine J.sliceS (i := (sortI xs self).length - n) (j := (sortI xs self).length) Ty.el24 Ty.s23 rfl rfl rfl rfl rfl (by omega) (by omega) (by omega) rfl ?_
      exact J.finX rfl (fun _ hw => ⟨⟨vc, lc, va, la⟩, rfl, fun _ _ _ => rfl, hF, hw⟩)
    · skip
      obtain ⟨vc, lc, va, la⟩ := x
      show J _ _ _ _ _ ((24, vc) :: (30, .slice (if cq = (sortI xs self).length - n then aq else aq.map (·.add (((sortI xs self).length - n) * 16))) ((sortI xs self).length - ((sortI xs self).length - n)) (cq - ((sortI xs self).length - n))) :: (24, vc) :: _) _
      have hp4 : m 4 = true := predsT hp (by kernel_rfl)
      have hp4 : m 4 = true := predsT hp (by kernel_rfl)
      refine J.pr (fun hF => ?_)
      have hv4 := hF.2 hp4
      refine J.conseq (I' := St w [] (lc ++ ((b3, cb (cI self) 23) :: lsrt))) ?_ (fun w1 hw => by simp only [hm, hp4, cond_true, cond_false] at hw; exact hw.perm (by (refine perm_cnt (fun _ => ?_)); simp only [cntB_append, cntB_cons, cntB_nil, Nat.add_zero, Nat.zero_add]; try ac_rfl))
      refine J.append (xs := fI (ys.take n)) (ys := fI (ys.drop ((sortI xs self).length - n))) (k := (ys.take n).length) (m := (ys.drop ((sortI xs self).length - n)).length) Ty.el24 Ty.s23 Ty.b23 Ty.zID rfl (.inl ⟨23, Ty.u24⟩) rfl rfl hv4 (fun w1 hw => .inl (by
        have h1 := rowI_slice (i := (sortI xs self).length - n) (j := (sortI xs self).length) (by have h0 := (hvs.row (S := []) (l := (b3, cb (cI self) 23) :: lc) (hw.perm (by (refine perm_cnt (fun _ => ?_)); simp only [cntB_append, cntB_cons, cntB_nil, Nat.add_zero, Nat.zero_add]; try ac_rfl))); rw [hyl] at h0 ⊢; exact h0) (by omega) (by omega)
        rw [List.take_of_length_le (by rw [List.length_drop]; omega), List.length_drop, hyl] at h1
        rw [List.length_drop, hyl]
        exact h1)) (fI_length _) (fun y hy => fI_one hy) (by rw [List.length_take, List.length_drop]; omega) (by rw [List.length_take, List.length_drop]; omega) rfl (fun va9 la9 hv11 => ?_)
      rw [← List.length_append, ← fI_append] at hv11
      refine J.nil (JX.finB rfl (fun w1 hw => ⟨⟨⟨vc, lc, va9, la9⟩, rfl, fun j h1 h2 => ?_, ?_⟩, trivial⟩))
      · match j, h1 with
        | 0, _ => (first | rfl | trivial)
        | 1, _ => (first | rfl | trivial)
        | 2, _ => (first | rfl | trivial)
        | 3, _ => (first | rfl | trivial)
        | 4, _ => (first | rfl | trivial)
        | 5, _ => (first | rfl | trivial)
        | 6, _ => (first | rfl | trivial)
        | 7, _ => (first | rfl | trivial)
        | 8, _ => (first | rfl | trivial)
        | 9, _ => (first | rfl | trivial)
        | 10, _ => (first | rfl | trivial)
        | 11, _ => exact absurd (h2.symm.trans hm) (by decide)
        | j + 12, h1 => omega
      show ((true = true → m 4 = true ∧ Vec 23 16 va9 ((ys.take n ++ ys.drop ((sortI xs self).length - n))).length (fI ((ys.take n ++ ys.drop ((sortI xs self).length - n)))) la9) ∧ (m 4 = true → Vec 23 16 vc ((ys.take n)).length (fI ((ys.take n))) lc)) ∧ St w [] ((b3, cb (cI self) 23) :: ((bif true then la9 else (bif m 4 then lc else [])) ++ lsrt)) w1
      refine ⟨⟨fun _ => ⟨hp4, hv11⟩, hF.2⟩, ?_⟩
      simp only [hp4, cond_true, cond_false] at hw ⊢
      exact hw.perm (by (refine perm_cnt (fun _ => ?_)); simp only [cntB_append, cntB_cons, cntB_nil, Nat.add_zero, Nat.zero_add]; try ac_rfl)
  case htail =>
    intro x
    obtain ⟨vc, lc, va, la⟩ := x
    show J _ _ _ _ _ ((31, va) :: (30, .slice (if cq = (sortI xs self).length - n then aq else aq.map (·.add (((sortI xs self).length - n) * 16))) ((sortI xs self).length - ((sortI xs self).length - n)) (cq - ((sortI xs self).length - n))) :: (29, .int .i64 (((sortI xs self).length - n : Nat) : Int)) :: (28, .int .i64 ((n : Nat) : Int)) :: (27, .int .i64 (((sortI xs self).length : Nat) : Int)) :: (26, .slice aq (sortI xs self).length cq) :: (25, .slice aq (sortI xs self).length cq) :: (24, vc) :: (23, .slice (if cq = 0 then aq else aq.map (·.add (0 * 16))) (n - 0) (cq - 0)) :: (22, .int .i64 ((n : Nat) : Int)) :: (21, .slice aq (sortI xs self).length cq) :: (20, .agg (cI self).toArray) :: _) (fun w1 => ((true = true → true = true ∧ Vec 23 16 va ((ys.take n ++ ys.drop ((sortI xs self).length - n))).length (fI ((ys.take n ++ ys.drop ((sortI xs self).length - n)))) la) ∧ (true = true → Vec 23 16 vc ((ys.take n)).length (fI ((ys.take n))) lc)) ∧ St w [] ((b3, cb (cI self) 23) :: ((bif true then la else (bif true then lc else [])) ++ lsrt)) w1)
    refine J.pr (fun hF => ?_)
    have hv11 := (hF.1 rfl).2
    refine J.conseq (I' := St w [] ([] ++ (la ++ (b3, cb (cI self) 23) :: lsrt))) ?_ (fun w1 hw => by
      have hw' : St w [] ((b3, cb (cI self) 23) :: (la ++ lsrt)) w1 := hw
      exact hw'.perm (by (refine perm_cnt (fun _ => ?_)); simp only [cntB_append, cntB_cons, cntB_nil, Nat.add_zero, Nat.zero_add]; try ac_rfl))
    refine J.callS (α := Value × List (Nat × Obj)) (V := (·.1)) (Pr := fun x => Vec 23 16 x.1 (sortI (ys.take n ++ ys.drop ((sortI xs self).length - n)) self).length (fI (sortI (ys.take n ++ ys.drop ((sortI xs self).length - n)) self)) x.2) (L := (·.2)) (l1 := []) Ty.bd43 rfl rfl (fun w1 hw => sorted_spec self va _ w1 (hv11.row (l := (b3, cb (cI self) 23) :: lsrt) (hw.perm (by (refine perm_cnt (fun _ => ?_)); simp only [cntB_append, cntB_cons, cntB_nil, Nat.add_zero, Nat.zero_add]; try ac_rfl))) (by rw [List.length_append, List.length_take, List.length_drop]; omega)) (fun x hx12 => ?_)
    obtain ⟨v12, l12⟩ := x
    simp only at hx12 ⊢
    rw [want_of hp hs hn] at hx12
    refine J.assign rfl rfl ?_
    refine J.nil ?_
    refine JX.thenN (hK4 _ _ ?_)
    refine JC.ret ?_
    refine JX.ret1 rfl rfl (fun w hw => ?_)
    exact ⟨(v12, l12), rfl, hx12, hw.drop (List.sublist_append_left _ _)⟩

end Go.Proofs.Ytbafhclandendaa
