/-
  RouteOrders, RouteHome: the walks.
-/
import Derived.Test.YtohldionclgljaaNg
namespace Go.Proofs.Ytohldionclgljaa
open Go.J Go.RowKit
set_option linter.unusedVariables false
set_option linter.unusedSimpArgs false
set_option maxRecDepth 8000
theorem kN_self (d : IDV) : kN d d = 0 := by
  have h : dI d d = 0 := by rw [dI_eq]; have := valI_lt d; omega
  rw [kN_eq, farI_of, h]
  simp
theorem bef_home {d : IDV} {x : CV} : befV d x (selfC d) = false := by
  unfold befV
  by_cases h : x.id ≠ (selfC d).id
  · rw [if_pos h]
    simp [selfC, kN_self]
  · rw [if_neg h, if_pos (.inr rfl)]
    simp [selfC]
theorem best_home {d : IDV} : ∀ l : List CV, bestV d l (selfC d) = selfC d
  | [] => rfl
  | x :: l => by
    show bestV d l (if befV d x (selfC d) = true then x else selfC d) = selfC d
    rw [bef_home]
    exact best_home l
theorem choose_home (self : IDV) (ns : List NV) (es : List EV) : chooseV self self ns es = selfC self := best_home _
theorem ok_self (self : IDV) : okC (selfC self) := self_ok self

set_option maxHeartbeats 1000000 in
theorem routeOrders_spec (d : IDV) (a b : CV) (w : World) (ha : okC a) (hb : okC b) :
    Calls Try.prog 4 [.agg (cI d).toArray, .agg (cC a).toArray, .agg (cC b).toArray].toArray w fun r w' => r = .returned (.bool true) ∧ Bel w w' := by
  refine calls_of_J (args := [.agg (cI d).toArray, .agg (cC a).toArray, .agg (cC b).toArray]) (e := [(0, .agg (cI d).toArray), (1, .agg (cC a).toArray), (2, .agg (cC b).toArray)]) Try.func4 rfl rfl ⟨rfl, rfl, rfl, trivial⟩ (St.start w) ?_
  refine JC.seq (fun K0 hK0 => ?_)
  refine JC.region ?_
  refine J.box rfl rfl rfl (fun b3 => ?_)
  refine J.box rfl rfl rfl (fun b4 => ?_)
  refine J.box rfl rfl rfl (fun b5 => ?_)
  refine J.assign rfl rfl ?_
  refine J.nil ?_
  refine JX.thenN (hK0 _ _ ?_)
  refine JC.seq (fun K1 hK1 => ?_)
  apply JC.drawL 21 [Eqv (.bool true), Eqv (.bool true), Eqv (.agg (cI d).toArray), Eqv (.agg (cC a).toArray), Eqv (.agg (cC b).toArray), Eqv (.bool (befV d a b)), Eqv (.agg (cI d).toArray), Eqv (.agg (cC a).toArray), Eqv (.agg (cC a).toArray), Eqv (.agg (cC b).toArray), Eqv (.agg (cC b).toArray), Eqv (.bool (befV d a b)), Eqv (.bool true), Eqv (.bool true), Eqv (.bool true), Eqv (.agg (cI d).toArray), Eqv (.agg (cC a).toArray), Eqv (.agg (cC a).toArray), Eqv (.bool false), Eqv (.bool true), Eqv (.bool true)] Ty.mixed rfl rfl rfl (by kernel_rfl) rfl rfl (fun w w' hw hb => hw.step hb) ⟨fun _ _ _ h _ => h, fun _ _ _ h _ => h, fun _ _ _ h _ => h, fun _ _ _ h _ => h, fun _ _ _ h _ => h, fun _ _ _ h _ => h, fun _ _ _ h _ => h, fun _ _ _ h _ => h, fun _ _ _ h _ => h, fun _ _ _ h _ => h, fun _ _ _ h _ => h, fun _ _ _ h _ => h, fun _ _ _ h _ => h, fun _ _ _ h _ => h, fun _ _ _ h _ => h, fun _ _ _ h _ => h, fun _ _ _ h _ => h, fun _ _ _ h _ => h, fun _ _ _ h _ => h, fun _ _ _ h _ => h, fun _ _ _ h _ => h, trivial⟩ ?hstep ?htail
  case hstep =>
    refine ⟨fun wi => ?_, fun wi => ?_, fun wi => ?_, fun wi => ?_, fun wi => ?_, fun wi => ?_, fun wi => ?_, fun wi => ?_, fun wi => ?_, fun wi => ?_, fun wi => ?_, fun wi => ?_, fun wi => ?_, fun wi => ?_, fun wi => ?_, fun wi => ?_, fun wi => ?_, fun wi => ?_, fun wi => ?_, fun wi => ?_, fun wi => ?_, trivial⟩
    · skip
      refine Fin.nil ?_
      refine J.callD (v := .bool true) Ty.bd15 rfl rfl (fun w1 hw => fixed13_spec w1) ?_
      exact J.finQ rfl
    · skip
      refine Fin.consE rfl (Fin.consE rfl (Fin.nil ?_))
      refine J.move rfl rfl ?_
      exact J.finP rfl
    · skip
      refine Fin.consE rfl (Fin.nil ?_)
      refine J.unguard rfl rfl rfl ?_
      refine J.loadA (vs := cI d) Ty.a23 Ty.s23 rfl rfl (fun w1 hw => Cells.of_block (hw.2.own _ (.tail _ (.tail _ (.head _)))) rfl) rfl ?_
      exact J.finP rfl
    · skip
      refine Fin.consE rfl (Fin.nil ?_)
      refine J.unguard rfl rfl rfl ?_
      refine J.loadA (vs := cC a) Ty.a40 Ty.s40 rfl rfl (fun w1 hw => Cells.of_block (hw.2.own _ (.tail _ (.head _))) rfl) rfl ?_
      exact J.finP rfl
    · skip
      refine Fin.consE rfl (Fin.nil ?_)
      refine J.unguard rfl rfl rfl ?_
      refine J.loadA (vs := cC b) Ty.a40 Ty.s40 rfl rfl (fun w1 hw => Cells.of_block (hw.2.own _ (.head _)) rfl) rfl ?_
      exact J.finP rfl
    · skip
      refine Fin.consE rfl (Fin.consE rfl (Fin.consE rfl (Fin.consE rfl (Fin.consE rfl (Fin.nil ?_)))))
      refine J.unguard rfl rfl rfl ?_
      refine J.callD (v := .bool (befV d a b)) Ty.bd21 rfl rfl (fun w1 hw => before_spec d a b w1 ha hb) ?_
      exact J.finQ rfl
    · skip
      refine Fin.consE rfl (Fin.nil ?_)
      refine J.unguard rfl rfl rfl ?_
      refine J.loadA (vs := cI d) Ty.a23 Ty.s23 rfl rfl (fun w1 hw => Cells.of_block (hw.2.own _ (.tail _ (.tail _ (.head _)))) rfl) rfl ?_
      exact J.finP rfl
    · skip
      refine Fin.consE rfl (Fin.nil ?_)
      refine J.unguard rfl rfl rfl ?_
      refine J.loadA (vs := cC a) Ty.a40 Ty.s40 rfl rfl (fun w1 hw => Cells.of_block (hw.2.own _ (.tail _ (.head _))) rfl) rfl ?_
      exact J.finP rfl
    · skip
      refine Fin.consE rfl (Fin.consE rfl (Fin.consE rfl (Fin.nil ?_)))
      refine J.unguard rfl rfl rfl ?_
      refine J.callD (v := .agg (cC a).toArray) Ty.bd23 rfl rfl (fun w1 hw => plain13_spec a w1) ?_
      exact J.finQ rfl
    · skip
      refine Fin.consE rfl (Fin.nil ?_)
      refine J.unguard rfl rfl rfl ?_
      refine J.loadA (vs := cC b) Ty.a40 Ty.s40 rfl rfl (fun w1 hw => Cells.of_block (hw.2.own _ (.head _)) rfl) rfl ?_
      exact J.finP rfl
    · skip
      refine Fin.consE rfl (Fin.consE rfl (Fin.consE rfl (Fin.nil ?_)))
      refine J.unguard rfl rfl rfl ?_
      refine J.callD (v := .agg (cC b).toArray) Ty.bd23 rfl rfl (fun w1 hw => plain13_spec b w1) ?_
      exact J.finQ rfl
    · skip
      refine Fin.consE rfl (Fin.consE rfl (Fin.consE rfl (Fin.consE rfl (Fin.consE rfl (Fin.nil ?_)))))
      refine J.unguard rfl rfl rfl ?_
      refine J.callD (v := .bool (befV d a b)) Ty.bd22 rfl rfl (fun w1 hw => rbefore_spec d a b w1 ha hb) ?_
      exact J.finQ rfl
    · skip
      refine Fin.consE rfl (Fin.consE rfl (Fin.consE rfl (Fin.nil ?_)))
      refine J.unguard rfl rfl rfl ?_
      refine J.eqBool (.inl rfl) Ty.u4 rfl rfl rfl ?_
      refine J.name 19 rfl (show _ = Value.bool true by simp) ?_
      exact J.finP rfl
    · skip
      refine Fin.consE rfl (Fin.consE rfl (Fin.nil ?_))
      (first | refine J.pickT rfl rfl rfl ?_ | refine J.pickF rfl rfl rfl ?_)
      exact J.finP rfl
    · skip
      refine Fin.consE rfl (Fin.consE rfl (Fin.nil ?_))
      refine J.move rfl rfl ?_
      exact J.finP rfl
    · skip
      refine Fin.consE rfl (Fin.nil ?_)
      refine J.unguard rfl rfl rfl ?_
      refine J.loadA (vs := cI d) Ty.a23 Ty.s23 rfl rfl (fun w1 hw => Cells.of_block (hw.2.own _ (.tail _ (.tail _ (.head _)))) rfl) rfl ?_
      exact J.finP rfl
    · skip
      refine Fin.consE rfl (Fin.nil ?_)
      refine J.unguard rfl rfl rfl ?_
      refine J.loadA (vs := cC a) Ty.a40 Ty.s40 rfl rfl (fun w1 hw => Cells.of_block (hw.2.own _ (.tail _ (.head _))) rfl) rfl ?_
      exact J.finP rfl
    · skip
      refine Fin.consE rfl (Fin.nil ?_)
      refine J.unguard rfl rfl rfl ?_
      refine J.loadA (vs := cC a) Ty.a40 Ty.s40 rfl rfl (fun w1 hw => Cells.of_block (hw.2.own _ (.tail _ (.head _))) rfl) rfl ?_
      exact J.finP rfl
    · skip
      refine Fin.consE rfl (Fin.consE rfl (Fin.consE rfl (Fin.consE rfl (Fin.consE rfl (Fin.nil ?_)))))
      refine J.unguard rfl rfl rfl ?_
      refine J.callD (v := .bool (befV d a a)) Ty.bd21 rfl rfl (fun w1 hw => before_spec d a a w1 ha ha) ?_
      refine J.name 25 rfl (show _ = Value.bool false by rw [bef_self]) ?_
      exact J.finQ rfl
    · skip
      refine Fin.consE rfl (Fin.consE rfl (Fin.nil ?_))
      first | refine J.skip rfl rfl rfl rfl rfl ?_ | refine J.skipU rfl rfl rfl rfl ?_ | (refine J.unguard rfl rfl rfl ?_; refine J.not rfl rfl ?_)
      exact J.finP rfl
    · skip
      refine Fin.consE rfl (Fin.consE rfl (Fin.nil ?_))
      (first | refine J.pickT rfl rfl rfl ?_ | refine J.pickF rfl rfl rfl ?_)
      exact J.finP rfl
  case htail =>
    refine Fin.consE rfl (Fin.consE rfl (Fin.consE rfl (Fin.consE rfl (Fin.consE rfl (Fin.consE rfl (Fin.consE rfl (Fin.consE rfl (Fin.consE rfl (Fin.consE rfl (Fin.consE rfl (Fin.consE rfl (Fin.consE rfl (Fin.consE rfl (Fin.consE rfl (Fin.consE rfl (Fin.consE rfl (Fin.consE rfl (Fin.consE rfl (Fin.consE rfl (Fin.consE rfl (Fin.nil ?_)))))))))))))))))))))
    refine J.assign rfl rfl ?_
    refine J.nil ?_
    refine JX.thenN (hK1 _ _ ?_)
    refine JC.ret ?_
    refine JX.ret1 rfl rfl (fun w hw => ?_)
    exact ⟨rfl, (hw.drop (List.nil_sublist _)).below⟩

theorem routeOrders_walk (w : World) (dc : List Value) (d : IDV) (hd : RId w dc d) (ac : List Value) (a : CV) (ha : RCh w ac a) (bc : List Value) (b : CV) (hb : RCh w bc b) :
    Calls Try.prog 4 [.agg dc.toArray, .agg ac.toArray, .agg bc.toArray].toArray w fun r w' => r = .returned (.bool true) ∧ Bel w w' := by
  obtain ⟨rfl, h1⟩ := ha
  obtain ⟨rfl, h2⟩ := hb
  cases hd
  exact routeOrders_spec d a b w h1 h2

set_option maxHeartbeats 1000000 in
theorem routeHome_spec (self : IDV) (nv : Value) (ns : List NV) (ev : Value) (en : List EV) (w : World) (hr : Row w nv ns.length (fN ns)) (hnl : ns.length ≤ 1048576) (hns : ∀ x, x ∈ ns → okN x.n) (hre : Row w ev en.length (fE en)) (hok : ∀ x, x ∈ en → okE x) (hxl : en.length ≤ 1954687338213) (pc : List Value) (hpc : pc = cI self ++ [nv] ++ [ev]) :
    Calls Try.prog 6 [.agg pc.toArray].toArray w fun r w' => r = .returned (.bool true) ∧ Bel w w' := by
  obtain ⟨an, cn, rfl, hcn, _⟩ := id hr
  obtain ⟨ae, ce, rfl, hce, _⟩ := id hre
  refine calls_of_J (args := [.agg pc.toArray]) (e := [(0, .agg pc.toArray)]) Try.func6 rfl rfl ⟨rfl, trivial⟩ (St.start w) ?_
  refine JC.seq (fun K0 hK0 => ?_)
  refine JC.region ?_
  refine J.box rfl rfl rfl (fun b1 => ?_)
  refine J.assign rfl rfl ?_
  refine J.nil ?_
  refine JX.thenN (hK0 _ _ ?_)
  refine JC.seq (fun K1 hK1 => ?_)
  subst hpc
  apply JC.drawX (α := Nat × Unit) 10 (fun x => match x with | ⟨x5, u5⟩ => [.pointer (some ⟨b1, 0 + 0, none⟩), .agg (cI self).toArray, .pointer (some ⟨b1, 0 + 16, none⟩), .slice an ns.length cn, .pointer (some ⟨b1, 0 + 17, none⟩), .slice ae en.length ce, .pointer (some ⟨x5, 0, none⟩), undef, .slice an ns.length cn, .slice ae en.length ce]) (fun m x => match x with | ⟨x5, u5⟩ => fun w1 => (m 7 = true → m 6 = true) ∧ St w [] ((b1, cb (cI self ++ [.slice an ns.length cn] ++ [.slice ae en.length ce]) 27) :: (bif m 6 then [(x5, cb (bif m 7 then cI self else cI zI) 23)] else [])) w1) Ty.mixed rfl rfl rfl (by kernel_rfl) rfl rfl ?hinit ?hstep ?htail
  case hinit => exact fun w1 hw => ⟨(0, ()), fun h => (by cases h), hw.drew⟩
  case hstep =>
    refine ⟨fun m x hm hp => ?_, fun m x hm hp => ?_, fun m x hm hp => ?_, fun m x hm hp => ?_, fun m x hm hp => ?_, fun m x hm hp => ?_, fun m x hm hp => ?_, fun m x hm hp => ?_, fun m x hm hp => ?_, fun m x hm hp => ?_, trivial⟩
    · skip
      obtain ⟨x5, u5⟩ := x
      show J _ _ _ _ _ (_) _
      refine J.pr (fun hF => ?_)
      refine J.fieldAddr Ty.fd27_0 rfl rfl ?_
      exact J.finX rfl (fun _ hw => ⟨⟨x5, u5⟩, rfl, fun _ _ _ => rfl, hF, hw⟩)
    · skip
      obtain ⟨x5, u5⟩ := x
      show J _ _ _ _ _ ((8, .pointer (some ⟨b1, 0 + 0, none⟩)) :: _) _
      refine J.pr (fun hF => ?_)
      refine J.loadA (vs := cI self) Ty.a23 Ty.s23 rfl rfl (fun w1 hw => Cells.of_block (hw.own _ (.head _)) rfl) rfl ?_
      exact J.finX rfl (fun _ hw => ⟨⟨x5, u5⟩, rfl, fun _ _ _ => rfl, hF, hw⟩)
    · skip
      obtain ⟨x5, u5⟩ := x
      show J _ _ _ _ _ (_) _
      refine J.pr (fun hF => ?_)
      refine J.fieldAddr Ty.fd27_1 rfl rfl ?_
      exact J.finX rfl (fun _ hw => ⟨⟨x5, u5⟩, rfl, fun _ _ _ => rfl, hF, hw⟩)
    · skip
      obtain ⟨x5, u5⟩ := x
      show J _ _ _ _ _ ((10, .pointer (some ⟨b1, 0 + 16, none⟩)) :: _) _
      refine J.pr (fun hF => ?_)
      refine J.load1 (v := .slice an ns.length cn) Ty.a24 rfl (fun w1 hw => by rw [cell_of (hw.own _ (.head _))]; rfl) rfl ?_
      exact J.finX rfl (fun _ hw => ⟨⟨x5, u5⟩, rfl, fun _ _ _ => rfl, hF, hw⟩)
    · skip
      obtain ⟨x5, u5⟩ := x
      show J _ _ _ _ _ (_) _
      refine J.pr (fun hF => ?_)
      refine J.fieldAddr Ty.fd27_2 rfl rfl ?_
      exact J.finX rfl (fun _ hw => ⟨⟨x5, u5⟩, rfl, fun _ _ _ => rfl, hF, hw⟩)
    · skip
      obtain ⟨x5, u5⟩ := x
      show J _ _ _ _ _ ((12, .pointer (some ⟨b1, 0 + 17, none⟩)) :: _) _
      refine J.pr (fun hF => ?_)
      refine J.load1 (v := .slice ae en.length ce) Ty.a25 rfl (fun w1 hw => by rw [cell_of (hw.own _ (.head _))]; rfl) rfl ?_
      exact J.finX rfl (fun _ hw => ⟨⟨x5, u5⟩, rfl, fun _ _ _ => rfl, hF, hw⟩)
    · skip
      obtain ⟨x5, u5⟩ := x
      show J _ _ _ _ _ (_) _
      refine J.pr (fun hF => ?_)
      have h7 : m 7 = false := by cases h : m 7 with
        | false => rfl
        | true => rw [hF h] at hm; cases hm
      refine J.alloc Ty.zID rfl rfl (fun b3 => ?_)
      refine J.nil (JX.finB rfl (fun w1 hw => ⟨⟨⟨b3, u5⟩, rfl, fun j h1 h2 => ?_, ?_⟩, trivial⟩))
      · match j, h1 with
        | 0, _ => (first | rfl | trivial)
        | 1, _ => (first | rfl | trivial)
        | 2, _ => (first | rfl | trivial)
        | 3, _ => (first | rfl | trivial)
        | 4, _ => (first | rfl | trivial)
        | 5, _ => (first | rfl | trivial)
        | 6, _ => exact absurd (h2.symm.trans hm) (by decide)
        | 7, _ => (first | rfl | trivial)
        | 8, _ => (first | rfl | trivial)
        | 9, _ => (first | rfl | trivial)
        | j + 10, h1 => omega
      show (m 7 = true → true = true) ∧ St w [] ((b1, cb (cI self ++ [.slice an ns.length cn] ++ [.slice ae en.length ce]) 27) :: (bif true then [(b3, cb (bif m 7 then cI self else cI zI) 23)] else [])) w1
      simp only [hm, h7, cond_true, cond_false] at hw ⊢
      exact ⟨fun _ => (by first | trivial | rfl), hw.perm (by (refine perm_cnt (fun _ => ?_)); simp only [cntB_append, cntB_cons, cntB_nil, Nat.add_zero, Nat.zero_add]; try ac_rfl)⟩
    · skip
      obtain ⟨x5, u5⟩ := x
      show J _ _ _ _ _ ((3, .pointer (some ⟨x5, 0, none⟩)) :: (9, .agg (cI self).toArray) :: (8, .pointer (some ⟨b1, 0 + 0, none⟩)) :: (9, .agg (cI self).toArray) :: (3, .pointer (some ⟨x5, 0, none⟩)) :: _) _
      have hp6 : m 6 = true := predsT hp (by kernel_rfl)
      have hp6 : m 6 = true := predsT hp (by kernel_rfl)
      refine J.pr (fun hF => ?_)
      refine J.conseq (I' := St w [] ((x5, cb (cI zI) 23) :: (b1, cb (cI self ++ [.slice an ns.length cn] ++ [.slice ae en.length ce]) 27) :: [])) ?_ (fun w1 hw => by simp only [hm, hp6, cond_true, cond_false] at hw; exact hw.perm (by (refine perm_cnt (fun _ => ?_)); simp only [cntB_append, cntB_cons, cntB_nil, Nat.add_zero, Nat.zero_add]; try ac_rfl))
      refine J.storeW (cs := cI zI) (vs := cI self) Ty.s23 rfl rfl rfl rfl rfl (one_cI _) .here ?_
      refine J.nil (JX.finN undef (fun w1 hw => ⟨⟨x5, u5⟩, rfl, fun j h1 h2 => ?_, ?_⟩))
      · match j, h1 with
        | 0, _ => (first | rfl | trivial)
        | 1, _ => (first | rfl | trivial)
        | 2, _ => (first | rfl | trivial)
        | 3, _ => (first | rfl | trivial)
        | 4, _ => (first | rfl | trivial)
        | 5, _ => (first | rfl | trivial)
        | 6, _ => (first | rfl | trivial)
        | 7, _ => (first | rfl | trivial)
        | 8, _ => (first | rfl | trivial)
        | 9, _ => (first | rfl | trivial)
        | j + 10, h1 => omega
      show (true = true → m 6 = true) ∧ St w [] ((b1, cb (cI self ++ [.slice an ns.length cn] ++ [.slice ae en.length ce]) 27) :: (bif m 6 then [(x5, cb (bif true then cI self else cI zI) 23)] else [])) w1
      simp only [hm, hp6, cond_true, cond_false] at hw ⊢
      exact ⟨fun _ => (by first | trivial | rfl), hw.perm (by (refine perm_cnt (fun _ => ?_)); simp only [cntB_append, cntB_cons, cntB_nil, Nat.add_zero, Nat.zero_add]; try ac_rfl)⟩
    · skip
      obtain ⟨x5, u5⟩ := x
      show J _ _ _ _ _ ((3, .pointer (some ⟨x5, 0, none⟩)) :: (11, .slice an ns.length cn) :: (10, .pointer (some ⟨b1, 0 + 16, none⟩)) :: (9, .agg (cI self).toArray) :: (8, .pointer (some ⟨b1, 0 + 0, none⟩)) :: (11, .slice an ns.length cn) :: _) _
      have hp7 : m 7 = true := predsT hp (by kernel_rfl)
      have hp6 : m 6 = true := predsT hp (by kernel_rfl)
      have hp7 : m 7 = true := predsT hp (by kernel_rfl)
      refine J.pr (fun hF => ?_)
      refine J.assign rfl rfl ?_
      exact J.finX rfl (fun _ hw => ⟨⟨x5, u5⟩, rfl, fun _ _ _ => rfl, hF, hw⟩)
    · skip
      obtain ⟨x5, u5⟩ := x
      show J _ _ _ _ _ ((4, .slice an ns.length cn) :: (3, .pointer (some ⟨x5, 0, none⟩)) :: (13, .slice ae en.length ce) :: (12, .pointer (some ⟨b1, 0 + 17, none⟩)) :: (11, .slice an ns.length cn) :: (10, .pointer (some ⟨b1, 0 + 16, none⟩)) :: (9, .agg (cI self).toArray) :: (8, .pointer (some ⟨b1, 0 + 0, none⟩)) :: (4, .slice an ns.length cn) :: (13, .slice ae en.length ce) :: _) _
      have hp6 : m 6 = true := predsT hp (by kernel_rfl)
      have hp7 : m 7 = true := predsT hp (by kernel_rfl)
      refine J.pr (fun hF => ?_)
      refine J.assign rfl rfl ?_
      exact J.finX rfl (fun _ hw => ⟨⟨x5, u5⟩, rfl, fun _ _ _ => rfl, hF, hw⟩)
  case htail =>
    intro x
    obtain ⟨x5, u5⟩ := x
    show J _ _ _ _ _ ((5, .slice ae en.length ce) :: (4, .slice an ns.length cn) :: (3, .pointer (some ⟨x5, 0, none⟩)) :: (13, .slice ae en.length ce) :: (12, .pointer (some ⟨b1, 0 + 17, none⟩)) :: (11, .slice an ns.length cn) :: (10, .pointer (some ⟨b1, 0 + 16, none⟩)) :: (9, .agg (cI self).toArray) :: (8, .pointer (some ⟨b1, 0 + 0, none⟩)) :: _) (fun w1 => (true = true → true = true) ∧ St w [] ((b1, cb (cI self ++ [.slice an ns.length cn] ++ [.slice ae en.length ce]) 27) :: (bif true then [(x5, cb (bif true then cI self else cI zI) 23)] else [])) w1)
    refine J.pr (fun hF => ?_)
    refine J.conseq (I' := St w [] ((b1, cb (cI self ++ [.slice an ns.length cn] ++ [.slice ae en.length ce]) 27) :: (x5, cb (cI self) 23) :: [])) ?_ (fun w1 hw => by simp only [cond_true] at hw; exact hw)
    refine J.nil ?_
    refine JX.thenN (hK1 _ _ ?_)
    refine JC.seq (fun K2 hK2 => ?_)
    refine JC.region ?_
    refine J.move rfl rfl ?_
    refine J.perm ([] ++ ((b1, cb (cI self ++ [.slice an ns.length cn] ++ [.slice ae en.length ce]) 27) :: (x5, cb (cI self) 23) :: [])) (.refl _) ?_
    refine J.callS (α := LaidS) (V := fun x => .tuple #[.pointer (some ⟨x.t1, 0, none⟩), x.vr]) (Pr := fun x => Tab (laidL 128 (en)) x.es x.ck ∧ Vec 55 51 x.vr (ordE (laidL 128 (en))).length (fE (ordE (laidL 128 (en)))) x.lr) (L := fun x => x.blk 128) (l1 := []) Ty.bd14 rfl rfl (fun w1 hw => laid13_spec _ (en) w1 (hre.below (hw.drop (List.nil_sublist _)).below) hok hxl) (fun x hx9 => ?_)
    obtain ⟨t1, m1, rt, es, ck, vr, lr⟩ := x
    obtain ⟨hT, hvr⟩ := hx9
    simp only [LaidS.blk, List.cons_append] at hT hvr ⊢
    have hgood := (laidL_good 128 en).len
    have hl128 : (laidL 128 en).length ≤ 128 := by omega
    have hol := (ordE_perm (laidL 128 en)).length_eq
    have ho128 : (ordE (laidL 128 en)).length ≤ 128 := by omega
    refine J.perm ((t1, tabO 128 m1) :: (m1, .map es ck) :: (rt, rtabO vr 128) :: (x5, cb (cI self) 23) :: (b1, cb (cI self ++ [.slice an ns.length cn] ++ [.slice ae en.length ce]) 27) :: lr) (by (refine perm_cnt (fun _ => ?_)); simp only [cntB_append, cntB_cons, cntB_nil, Nat.add_zero, Nat.zero_add]; try ac_rfl) ?_
    refine J.move rfl rfl ?_
    refine J.extract rfl rfl rfl ?_
    refine J.extract rfl rfl rfl ?_
    refine J.assign rfl rfl ?_
    refine J.assign rfl rfl ?_
    refine J.nil ?_
    refine JX.thenN (hK2 _ _ ?_)
    refine JC.seq (fun K3 hK3 => ?_)
    apply JC.drawL 11 [Eqv (.bool true), Eqv (.bool true), Eqv (.agg (cI self).toArray), Eqv (.agg (cI self).toArray), Eqv (.slice an ns.length cn), Eqv (.pointer (some ⟨t1, 0, none⟩)), Eqv (.agg (cC (selfC self)).toArray), Eqv (.agg (cI self).toArray), Eqv (.agg (cC (selfC self)).toArray), Eqv (.bool true), Eqv (.bool true)] Ty.mixed rfl rfl rfl (by kernel_rfl) rfl rfl (fun w w' hw hb => hw.step hb) ⟨fun _ _ _ h _ => h, fun _ _ _ h _ => h, fun _ _ _ h _ => h, fun _ _ _ h _ => h, fun _ _ _ h _ => h, fun _ _ _ h _ => h, fun _ _ _ h _ => h, fun _ _ _ h _ => h, fun _ _ _ h _ => h, fun _ _ _ h _ => h, fun _ _ _ h _ => h, trivial⟩ ?hstep ?htail
    case hstep =>
      refine ⟨fun wi => ?_, fun wi => ?_, fun wi => ?_, fun wi => ?_, fun wi => ?_, fun wi => ?_, fun wi => ?_, fun wi => ?_, fun wi => ?_, fun wi => ?_, fun wi => ?_, trivial⟩
      · skip
        refine Fin.nil ?_
        refine J.callD (v := .bool true) Ty.bd15 rfl rfl (fun w1 hw => fixed13_spec w1) ?_
        exact J.finQ rfl
      · skip
        refine Fin.consE rfl (Fin.consE rfl (Fin.nil ?_))
        refine J.move rfl rfl ?_
        exact J.finP rfl
      · skip
        refine Fin.consE rfl (Fin.nil ?_)
        refine J.unguard rfl rfl rfl ?_
        refine J.loadA (vs := cI self) Ty.a23 Ty.s23 rfl rfl (fun w1 hw => Cells.of_block (hw.2.own _ (.tail _ (.tail _ (.tail _ (.head _))))) rfl) rfl ?_
        exact J.finP rfl
      · skip
        refine Fin.consE rfl (Fin.nil ?_)
        refine J.unguard rfl rfl rfl ?_
        refine J.loadA (vs := cI self) Ty.a23 Ty.s23 rfl rfl (fun w1 hw => Cells.of_block (hw.2.own _ (.tail _ (.tail _ (.tail _ (.head _))))) rfl) rfl ?_
        exact J.finP rfl
      · skip
        refine Fin.consE rfl (Fin.nil ?_)
        first | refine J.skip rfl rfl rfl rfl rfl ?_ | refine J.skipU rfl rfl rfl rfl ?_ | (refine J.unguard rfl rfl rfl ?_; refine J.move rfl rfl ?_)
        exact J.finP rfl
      · skip
        refine Fin.consE rfl (Fin.nil ?_)
        first | refine J.skip rfl rfl rfl rfl rfl ?_ | refine J.skipU rfl rfl rfl rfl ?_ | (refine J.unguard rfl rfl rfl ?_; refine J.move rfl rfl ?_)
        exact J.finP rfl
      · skip
        refine Fin.consE rfl (Fin.consE rfl (Fin.consE rfl (Fin.consE rfl (Fin.consE rfl (Fin.consE rfl (Fin.nil ?_))))))
        refine J.unguard rfl rfl rfl ?_
        refine J.callD (v := .agg (cC (chooseV self self ns (ordE (laidL 128 en)))).toArray) Ty.bd19 rfl rfl (fun w1 hw => choose_spec t1 m1 128 (laidL 128 en) es ck w1 (hw.own _ (.head _)) (hw.own _ (.tail _ (.head _))) hT hl128 self self _ ns (hr.below (hw.drop (List.nil_sublist _)).below) hnl hns) ?_
        refine J.name 25 rfl (show _ = .agg (cC (selfC self)).toArray by rw [choose_home]) ?_
        exact J.finQ rfl
      · skip
        refine Fin.consE rfl (Fin.nil ?_)
        refine J.unguard rfl rfl rfl ?_
        refine J.loadA (vs := cI self) Ty.a23 Ty.s23 rfl rfl (fun w1 hw => Cells.of_block (hw.2.own _ (.tail _ (.tail _ (.tail _ (.head _))))) rfl) rfl ?_
        exact J.finP rfl
      · skip
        refine Fin.consE rfl (Fin.consE rfl (Fin.nil ?_))
        refine J.unguard rfl rfl rfl ?_
        refine J.buildS (cs := cC (selfC self)) Ty.pl40 zC40 rfl (by kernel_rfl) rfl ?_
        exact J.finP rfl
      · skip
        refine Fin.consE rfl (Fin.consE rfl (Fin.consE rfl (Fin.nil ?_)))
        refine J.unguard rfl rfl rfl ?_
        obtain ⟨_, k1⟩ := keyC40 _ (ok_self self).1 (ok_self self).2
        refine J.eqA QC40 rfl rfl k1 k1 rfl fun r hr => ?_
        obtain rfl : r = true := hr.2 rfl
        exact J.finP rfl
      · skip
        refine Fin.consE rfl (Fin.consE rfl (Fin.nil ?_))
        (first | refine J.pickT rfl rfl rfl ?_ | refine J.pickF rfl rfl rfl ?_)
        exact J.finP rfl
    case htail =>
      refine Fin.consE rfl (Fin.consE rfl (Fin.consE rfl (Fin.consE rfl (Fin.consE rfl (Fin.consE rfl (Fin.consE rfl (Fin.consE rfl (Fin.consE rfl (Fin.consE rfl (Fin.consE rfl (Fin.nil ?_)))))))))))
      refine J.assign rfl rfl ?_
      refine J.nil ?_
      refine JX.thenN (hK3 _ _ ?_)
      refine JC.ret ?_
      refine JX.ret1 rfl rfl (fun w hw => ?_)
      exact ⟨rfl, (hw.drop (List.nil_sublist _)).below⟩

theorem RPl.len {W : World} {cs : List Value} {x : PlV} (h : RPl W cs x) : x.e.xs.length ≤ 1954687338213 := rslE_len h.e
theorem routeHome_walk (w : World) (pc : List Value) (x : PlV) (hx : RPl w pc x) (hb : x.n.xs.length ≤ 1048576) :
    Calls Try.prog 6 [.agg pc.toArray].toArray w fun r w' => r = .returned (.bool true) ∧ Bel w w' := routeHome_spec x.me x.n.v x.n.xs x.e.v x.e.xs w hx.row hb hx.ok (rslE hx.e) (rslE_ok hx.e) hx.len pc hx.cells
end Go.Proofs.Ytohldionclgljaa
