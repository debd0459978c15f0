/-
  RouteNearest, RouteChooses: the walks.
-/
import Derived.Test.YtohldionclgljaaNh
namespace Go.Proofs.Ytohldionclgljaa
open Go.J Go.RowKit
set_option linter.unusedVariables false
set_option linter.unusedSimpArgs false
set_option maxRecDepth 8000
theorem bef_le {d : IDV} {x b : CV} (h : befV d x b = true) : kN d x.id ≤ kN d b.id := by
  by_cases e : x.id = b.id
  · rw [e]; exact Nat.le_refl _
  · unfold befV at h
    rw [if_pos e] at h
    have := of_decide_eq_true h
    omega
theorem bef_ge {d : IDV} {x b : CV} (h : befV d x b = false) : kN d b.id ≤ kN d x.id := by
  by_cases e : x.id = b.id
  · rw [e]; exact Nat.le_refl _
  · unfold befV at h
    rw [if_pos e] at h
    have := of_decide_eq_false h
    omega
theorem best_min {d : IDV} : ∀ (l : List CV) (b : CV), kN d (bestV d l b).id ≤ kN d b.id ∧ ∀ x, x ∈ l → kN d (bestV d l b).id ≤ kN d x.id
  | [], b => ⟨Nat.le_refl _, fun x hx => by cases hx⟩
  | y :: l, b => by
    obtain ⟨h1, h2⟩ := best_min (d := d) l (if befV d y b = true then y else b)
    show kN d (bestV d l (if befV d y b = true then y else b)).id ≤ kN d b.id ∧ ∀ x, x ∈ y :: l → kN d (bestV d l (if befV d y b = true then y else b)).id ≤ kN d x.id
    cases hb : befV d y b with
    | true =>
      rw [hb, if_pos rfl] at h1 h2
      rw [if_pos rfl]
      have h3 := bef_le hb
      refine ⟨by omega, fun x hx => ?_⟩
      rcases List.mem_cons.1 hx with rfl | hx
      · exact h1
      · exact h2 x hx
    | false =>
      rw [hb, if_neg (by decide)] at h1 h2
      rw [if_neg (by decide)]
      have h3 := bef_ge hb
      refine ⟨h1, fun x hx => ?_⟩
      rcases List.mem_cons.1 hx with rfl | hx
      · omega
      · exact h2 x hx
theorem best_self {d self : IDV} : ∀ (l : List CV) (b : CV), (b = selfC self ∨ kN d b.id < kN d self) → bestV d l b = selfC self ∨ kN d (bestV d l b).id < kN d self
  | [], b, h => h
  | y :: l, b, h => by
    show bestV d l (if befV d y b = true then y else b) = selfC self ∨ kN d (bestV d l (if befV d y b = true then y else b)).id < kN d self
    refine best_self l _ ?_
    cases hb : befV d y b with
    | false => rw [if_neg (by decide)]; exact h
    | true =>
      rw [if_pos rfl]
      rcases h with rfl | h
      · right
        by_cases e : y.id = self
        · unfold befV at hb
          rw [if_neg (by simpa [selfC] using e), if_pos (.inr rfl)] at hb
          simp [selfC] at hb
        · unfold befV at hb
          rw [if_pos (by simpa [selfC] using e)] at hb
          exact of_decide_eq_true hb
      · right
        have := bef_le hb
        omega
theorem choose_min (d self : IDV) (ns : List NV) (es : List EV) : ∀ x, x ∈ knownV self ns es → ¬ kN d x.id < kN d (chooseV d self ns es).id := by
  intro x hx
  rw [← best_known]
  have := (best_min (d := d) (knownV self ns es) (selfC self)).2 x hx
  omega
theorem choose_self (d self : IDV) (ns : List NV) (es : List EV) (h : (chooseV d self ns es).n ≠ -1) : (chooseV d self ns es).id ≠ self ∧ kN d (chooseV d self ns es).id < kN d self := by
  rcases best_self (d := d) (self := self) (ns.map nC ++ es.flatMap eC) (selfC self) (.inl rfl) with h1 | h1
  · exact absurd (by show (bestV d (ns.map nC ++ es.flatMap eC) (selfC self)).n = -1; rw [h1]; rfl) h
  · exact ⟨fun e => by rw [show (chooseV d self ns es).id = (bestV d (ns.map nC ++ es.flatMap eC) (selfC self)).id from rfl] at e; rw [e] at h1; omega, h1⟩

set_option maxHeartbeats 1000000 in
theorem routeNearest_spec (d : IDV) (self : IDV) (nv : Value) (ns : List NV) (ev : Value) (en : List EV) (w : World) (hr : Row w nv ns.length (fN ns)) (hnl : ns.length ≤ 1048576) (hns : ∀ x, x ∈ ns → okN x.n) (hre : Row w ev en.length (fE en)) (hok : ∀ x, x ∈ en → okE x) (hxl : en.length ≤ 1954687338213) (pc : List Value) (hpc : pc = cI self ++ [nv] ++ [ev]) :
    Calls Try.prog 5 [.agg (cI d).toArray, .agg pc.toArray].toArray w fun r w' => r = .returned (.bool true) ∧ Bel w w' := by
  obtain ⟨an, cn, rfl, hcn, _⟩ := id hr
  obtain ⟨ae, ce, rfl, hce, _⟩ := id hre
  have hklen := known_len self ns (ordE (laidL 128 en))
  refine calls_of_J (args := [.agg (cI d).toArray, .agg pc.toArray]) (e := [(0, .agg (cI d).toArray), (1, .agg pc.toArray)]) Try.func5 rfl rfl ⟨rfl, rfl, trivial⟩ (St.start w) ?_
  refine JC.seq (fun K0 hK0 => ?_)
  refine JC.region ?_
  refine J.box rfl rfl rfl (fun b2 => ?_)
  refine J.box rfl rfl rfl (fun b3 => ?_)
  refine J.assign rfl rfl ?_
  refine J.nil ?_
  refine JX.thenN (hK0 _ _ ?_)
  refine JC.seq (fun K1 hK1 => ?_)
  subst hpc
  apply JC.drawX (α := Nat × Unit) 10 (fun x => match x with | ⟨x5, u5⟩ => [.pointer (some ⟨b3, 0 + 0, none⟩), .agg (cI self).toArray, .pointer (some ⟨b3, 0 + 16, none⟩), .slice an ns.length cn, .pointer (some ⟨b3, 0 + 17, none⟩), .slice ae en.length ce, .pointer (some ⟨x5, 0, none⟩), undef, .slice an ns.length cn, .slice ae en.length ce]) (fun m x => match x with | ⟨x5, u5⟩ => fun w1 => (m 7 = true → m 6 = true) ∧ St w [] ((b3, cb (cI self ++ [.slice an ns.length cn] ++ [.slice ae en.length ce]) 27) :: (b2, cb (cI d) 23) :: (bif m 6 then [(x5, cb (bif m 7 then cI self else cI zI) 23)] else [])) w1) Ty.mixed rfl rfl rfl (by kernel_rfl) rfl rfl ?hinit ?hstep ?htail
  case hinit => exact fun w1 hw => ⟨(0, ()), fun h => (by cases h), hw.drew⟩
  case hstep =>
    refine ⟨fun m x hm hp => ?_, fun m x hm hp => ?_, fun m x hm hp => ?_, fun m x hm hp => ?_, fun m x hm hp => ?_, fun m x hm hp => ?_, fun m x hm hp => ?_, fun m x hm hp => ?_, fun m x hm hp => ?_, fun m x hm hp => ?_, trivial⟩
    · skip
      obtain ⟨x5, u5⟩ := x
      show J _ _ _ _ _ (_) _
      refine J.pr (fun hF => ?_)
      refine J.fieldAddr Ty.fd27_0 rfl rfl ?_
      exact J.finX rfl (fun _ hw => ⟨⟨x5, u5⟩, rfl, fun _ _ _ => rfl, hF, hw⟩)
    · skip
      obtain ⟨x5, u5⟩ := x
      show J _ _ _ _ _ ((13, .pointer (some ⟨b3, 0 + 0, none⟩)) :: _) _
      refine J.pr (fun hF => ?_)
      refine J.loadA (vs := cI self) Ty.a23 Ty.s23 rfl rfl (fun w1 hw => Cells.of_block (hw.own _ (.head _)) rfl) rfl ?_
      exact J.finX rfl (fun _ hw => ⟨⟨x5, u5⟩, rfl, fun _ _ _ => rfl, hF, hw⟩)
    · skip
      obtain ⟨x5, u5⟩ := x
      show J _ _ _ _ _ (_) _
      refine J.pr (fun hF => ?_)
      refine J.fieldAddr Ty.fd27_1 rfl rfl ?_
      exact J.finX rfl (fun _ hw => ⟨⟨x5, u5⟩, rfl, fun _ _ _ => rfl, hF, hw⟩)
    · skip
      obtain ⟨x5, u5⟩ := x
      show J _ _ _ _ _ ((15, .pointer (some ⟨b3, 0 + 16, none⟩)) :: _) _
      refine J.pr (fun hF => ?_)
      refine J.load1 (v := .slice an ns.length cn) Ty.a24 rfl (fun w1 hw => by rw [cell_of (hw.own _ (.head _))]; rfl) rfl ?_
      exact J.finX rfl (fun _ hw => ⟨⟨x5, u5⟩, rfl, fun _ _ _ => rfl, hF, hw⟩)
    · skip
      obtain ⟨x5, u5⟩ := x
      show J _ _ _ _ _ (_) _
      refine J.pr (fun hF => ?_)
      refine J.fieldAddr Ty.fd27_2 rfl rfl ?_
      exact J.finX rfl (fun _ hw => ⟨⟨x5, u5⟩, rfl, fun _ _ _ => rfl, hF, hw⟩)
    · skip
      obtain ⟨x5, u5⟩ := x
      show J _ _ _ _ _ ((17, .pointer (some ⟨b3, 0 + 17, none⟩)) :: _) _
      refine J.pr (fun hF => ?_)
      refine J.load1 (v := .slice ae en.length ce) Ty.a25 rfl (fun w1 hw => by rw [cell_of (hw.own _ (.head _))]; rfl) rfl ?_
      exact J.finX rfl (fun _ hw => ⟨⟨x5, u5⟩, rfl, fun _ _ _ => rfl, hF, hw⟩)
    · skip
      obtain ⟨x5, u5⟩ := x
      show J _ _ _ _ _ (_) _
      refine J.pr (fun hF => ?_)
      have h7 : m 7 = false := by cases h : m 7 with
        | false => rfl
        | true => rw [hF h] at hm; cases hm
      refine J.alloc Ty.zID rfl rfl (fun b5 => ?_)
      refine J.nil (JX.finB rfl (fun w1 hw => ⟨⟨⟨b5, u5⟩, rfl, fun j h1 h2 => ?_, ?_⟩, trivial⟩))
      · match j, h1 with
        | 0, _ => (first | rfl | trivial)
        | 1, _ => (first | rfl | trivial)
        | 2, _ => (first | rfl | trivial)
        | 3, _ => (first | rfl | trivial)
        | 4, _ => (first | rfl | trivial)
        | 5, _ => (first | rfl | trivial)
        | 6, _ => exact absurd (h2.symm.trans hm) (by decide)
        | 7, _ => (first | rfl | trivial)
        | 8, _ => (first | rfl | trivial)
        | 9, _ => (first | rfl | trivial)
        | j + 10, h1 => omega
      show (m 7 = true → true = true) ∧ St w [] ((b3, cb (cI self ++ [.slice an ns.length cn] ++ [.slice ae en.length ce]) 27) :: (b2, cb (cI d) 23) :: (bif true then [(b5, cb (bif m 7 then cI self else cI zI) 23)] else [])) w1
      simp only [hm, h7, cond_true, cond_false] at hw ⊢
      exact ⟨fun _ => (by first | trivial | rfl), hw.perm (by (refine perm_cnt (fun _ => ?_)); simp only [cntB_append, cntB_cons, cntB_nil, Nat.add_zero, Nat.zero_add]; try ac_rfl)⟩
    · skip
      obtain ⟨x5, u5⟩ := x
      show J _ _ _ _ _ ((5, .pointer (some ⟨x5, 0, none⟩)) :: (14, .agg (cI self).toArray) :: (13, .pointer (some ⟨b3, 0 + 0, none⟩)) :: (14, .agg (cI self).toArray) :: (5, .pointer (some ⟨x5, 0, none⟩)) :: _) _
      have hp6 : m 6 = true := predsT hp (by kernel_rfl)
      have hp6 : m 6 = true := predsT hp (by kernel_rfl)
      refine J.pr (fun hF => ?_)
      refine J.conseq (I' := St w [] ((x5, cb (cI zI) 23) :: (b3, cb (cI self ++ [.slice an ns.length cn] ++ [.slice ae en.length ce]) 27) :: (b2, cb (cI d) 23) :: [])) ?_ (fun w1 hw => by simp only [hm, hp6, cond_true, cond_false] at hw; exact hw.perm (by (refine perm_cnt (fun _ => ?_)); simp only [cntB_append, cntB_cons, cntB_nil, Nat.add_zero, Nat.zero_add]; try ac_rfl))
      refine J.storeW (cs := cI zI) (vs := cI self) Ty.s23 rfl rfl rfl rfl rfl (one_cI _) .here ?_
      refine J.nil (JX.finN undef (fun w1 hw => ⟨⟨x5, u5⟩, rfl, fun j h1 h2 => ?_, ?_⟩))
      · match j, h1 with
        | 0, _ => (first | rfl | trivial)
        | 1, _ => (first | rfl | trivial)
        | 2, _ => (first | rfl | trivial)
        | 3, _ => (first | rfl | trivial)
        | 4, _ => (first | rfl | trivial)
        | 5, _ => (first | rfl | trivial)
        | 6, _ => (first | rfl | trivial)
        | 7, _ => (first | rfl | trivial)
        | 8, _ => (first | rfl | trivial)
        | 9, _ => (first | rfl | trivial)
        | j + 10, h1 => omega
      show (true = true → m 6 = true) ∧ St w [] ((b3, cb (cI self ++ [.slice an ns.length cn] ++ [.slice ae en.length ce]) 27) :: (b2, cb (cI d) 23) :: (bif m 6 then [(x5, cb (bif true then cI self else cI zI) 23)] else [])) w1
      simp only [hm, hp6, cond_true, cond_false] at hw ⊢
      exact ⟨fun _ => (by first | trivial | rfl), hw.perm (by (refine perm_cnt (fun _ => ?_)); simp only [cntB_append, cntB_cons, cntB_nil, Nat.add_zero, Nat.zero_add]; try ac_rfl)⟩
    · skip
      obtain ⟨x5, u5⟩ := x
      show J _ _ _ _ _ ((5, .pointer (some ⟨x5, 0, none⟩)) :: (16, .slice an ns.length cn) :: (15, .pointer (some ⟨b3, 0 + 16, none⟩)) :: (14, .agg (cI self).toArray) :: (13, .pointer (some ⟨b3, 0 + 0, none⟩)) :: (16, .slice an ns.length cn) :: _) _
      have hp7 : m 7 = true := predsT hp (by kernel_rfl)
      have hp6 : m 6 = true := predsT hp (by kernel_rfl)
      have hp7 : m 7 = true := predsT hp (by kernel_rfl)
      refine J.pr (fun hF => ?_)
      refine J.assign rfl rfl ?_
      exact J.finX rfl (fun _ hw => ⟨⟨x5, u5⟩, rfl, fun _ _ _ => rfl, hF, hw⟩)
    · skip
      obtain ⟨x5, u5⟩ := x
      show J _ _ _ _ _ ((6, .slice an ns.length cn) :: (5, .pointer (some ⟨x5, 0, none⟩)) :: (18, .slice ae en.length ce) :: (17, .pointer (some ⟨b3, 0 + 17, none⟩)) :: (16, .slice an ns.length cn) :: (15, .pointer (some ⟨b3, 0 + 16, none⟩)) :: (14, .agg (cI self).toArray) :: (13, .pointer (some ⟨b3, 0 + 0, none⟩)) :: (6, .slice an ns.length cn) :: (18, .slice ae en.length ce) :: _) _
      have hp6 : m 6 = true := predsT hp (by kernel_rfl)
      have hp7 : m 7 = true := predsT hp (by kernel_rfl)
      refine J.pr (fun hF => ?_)
      refine J.assign rfl rfl ?_
      exact J.finX rfl (fun _ hw => ⟨⟨x5, u5⟩, rfl, fun _ _ _ => rfl, hF, hw⟩)
  case htail =>
    intro x
    obtain ⟨x5, u5⟩ := x
    show J _ _ _ _ _ ((7, .slice ae en.length ce) :: (6, .slice an ns.length cn) :: (5, .pointer (some ⟨x5, 0, none⟩)) :: (18, .slice ae en.length ce) :: (17, .pointer (some ⟨b3, 0 + 17, none⟩)) :: (16, .slice an ns.length cn) :: (15, .pointer (some ⟨b3, 0 + 16, none⟩)) :: (14, .agg (cI self).toArray) :: (13, .pointer (some ⟨b3, 0 + 0, none⟩)) :: _) (fun w1 => (true = true → true = true) ∧ St w [] ((b3, cb (cI self ++ [.slice an ns.length cn] ++ [.slice ae en.length ce]) 27) :: (b2, cb (cI d) 23) :: (bif true then [(x5, cb (bif true then cI self else cI zI) 23)] else [])) w1)
    refine J.pr (fun hF => ?_)
    refine J.conseq (I' := St w [] ((b3, cb (cI self ++ [.slice an ns.length cn] ++ [.slice ae en.length ce]) 27) :: (b2, cb (cI d) 23) :: (x5, cb (cI self) 23) :: [])) ?_ (fun w1 hw => by simp only [cond_true] at hw; exact hw)
    refine J.nil ?_
    refine JX.thenN (hK1 _ _ ?_)
    refine JC.seq (fun K2 hK2 => ?_)
    refine JC.region ?_
    refine J.move rfl rfl ?_
    refine J.perm ([] ++ ((b3, cb (cI self ++ [.slice an ns.length cn] ++ [.slice ae en.length ce]) 27) :: (b2, cb (cI d) 23) :: (x5, cb (cI self) 23) :: [])) (.refl _) ?_
    refine J.callS (α := LaidS) (V := fun x => .tuple #[.pointer (some ⟨x.t1, 0, none⟩), x.vr]) (Pr := fun x => Tab (laidL 128 (en)) x.es x.ck ∧ Vec 55 51 x.vr (ordE (laidL 128 (en))).length (fE (ordE (laidL 128 (en)))) x.lr) (L := fun x => x.blk 128) (l1 := []) Ty.bd14 rfl rfl (fun w1 hw => laid13_spec _ (en) w1 (hre.below (hw.drop (List.nil_sublist _)).below) hok hxl) (fun x hx9 => ?_)
    obtain ⟨t1, m1, rt, es, ck, vr, lr⟩ := x
    obtain ⟨hT, hvr⟩ := hx9
    simp only [LaidS.blk, List.cons_append] at hT hvr ⊢
    have hgood := (laidL_good 128 en).len
    have hl128 : (laidL 128 en).length ≤ 128 := by omega
    have hol := (ordE_perm (laidL 128 en)).length_eq
    have ho128 : (ordE (laidL 128 en)).length ≤ 128 := by omega
    refine J.perm ((t1, tabO 128 m1) :: (m1, .map es ck) :: (rt, rtabO vr 128) :: (x5, cb (cI self) 23) :: (b3, cb (cI self ++ [.slice an ns.length cn] ++ [.slice ae en.length ce]) 27) :: (b2, cb (cI d) 23) :: lr) (by (refine perm_cnt (fun _ => ?_)); simp only [cntB_append, cntB_cons, cntB_nil, Nat.add_zero, Nat.zero_add]; try ac_rfl) ?_
    refine J.move rfl rfl ?_
    refine J.extract rfl rfl rfl ?_
    refine J.extract rfl rfl rfl ?_
    refine J.assign rfl rfl ?_
    refine J.assign rfl rfl ?_
    refine J.nil ?_
    refine JX.thenN (hK2 _ _ ?_)
    refine JC.seq (fun K3 hK3 => ?_)
    refine JC.region ?_
    refine J.loadOA (vs := cI d) Ty.a23 Ty.s23 rfl (by repeat first | exact .head _ | apply List.Mem.tail | apply List.mem_append_right) (by exact rfl) rfl rfl ?_
    refine J.loadOA (vs := cI self) Ty.a23 Ty.s23 rfl (by repeat first | exact .head _ | apply List.Mem.tail | apply List.mem_append_right) (by exact rfl) rfl rfl ?_
    refine J.move rfl rfl ?_
    refine J.move rfl rfl ?_
    obtain ⟨c, hcE⟩ : ∃ c, (chooseV d self ns (ordE (laidL 128 en))) = c := ⟨_, rfl⟩
    refine J.callB (v := .agg (cC (chooseV d self ns (ordE (laidL 128 en)))).toArray) (fun w1 w2 hw hb => hw.step hb) Ty.bd19 rfl rfl (fun w1 hw => choose_spec t1 m1 128 (laidL 128 en) es ck w1 (hw.own _ (.head _)) (hw.own _ (.tail _ (.head _))) hT hl128 d self _ ns (hr.below (hw.drop (List.nil_sublist _)).below) hnl hns) ?_
    refine J.name 28 rfl (show _ = .agg (cC c).toArray by rw [hcE]) ?_
    refine J.alloc zC40 rfl rfl (fun b10 => ?_)
    refine J.storeW (cs := cC zC) (vs := cC c) Ty.s40 rfl rfl rfl rfl rfl (one_cC _) .here ?_
    refine J.perm ((t1, tabO 128 m1) :: (m1, .map es ck) :: (rt, rtabO vr 128) :: (b10, cb (cC c) 40) :: (x5, cb (cI self) 23) :: (b3, cb (cI self ++ [.slice an ns.length cn] ++ [.slice ae en.length ce]) 27) :: (b2, cb (cI d) 23) :: lr) (by (refine perm_cnt (fun _ => ?_)); simp only [cntB_append, cntB_cons, cntB_nil, Nat.add_zero, Nat.zero_add]; try ac_rfl) ?_
    refine J.nil ?_
    refine JX.thenN (hK3 _ _ ?_)
    refine JC.seq (fun K4 hK4 => ?_)
    refine JC.seq (fun K5 hK5 => ?_)
    refine JC.region ?_
    refine J.loadOA (vs := cI self) Ty.a23 Ty.s23 rfl (by repeat first | exact .head _ | apply List.Mem.tail | apply List.mem_append_right) (by exact rfl) rfl rfl ?_
    refine J.move rfl rfl ?_
    refine J.move rfl rfl ?_
    refine J.perm ([] ++ ((t1, tabO 128 m1) :: (m1, .map es ck) :: (rt, rtabO vr 128) :: (b10, cb (cC c) 40) :: (x5, cb (cI self) 23) :: (b3, cb (cI self ++ [.slice an ns.length cn] ++ [.slice ae en.length ce]) 27) :: (b2, cb (cI d) 23) :: lr)) (.refl _) ?_
    refine J.callS (α := Value × List (Nat × Obj)) (V := (·.1)) (Pr := fun x => Vec 40 35 x.1 ((knownV self ns (ordE (laidL 128 en)))).length (fC ((knownV self ns (ordE (laidL 128 en))))) x.2) (L := (·.2)) (l1 := []) Ty.bd16 rfl rfl (fun w1 hw => known_spec t1 m1 128 (laidL 128 en) es ck w1 (hw.own _ (.head _)) (hw.own _ (.tail _ (.head _))) hT hl128 self _ ns (hr.below (hw.drop (List.nil_sublist _)).below) hnl) (fun x hvk => ?_)
    obtain ⟨vk, lk⟩ := x
    simp only at hvk ⊢
    obtain ⟨ak, ck1, rfl, hck1⟩ := hvk.form
    refine J.perm ((t1, tabO 128 m1) :: (m1, .map es ck) :: (rt, rtabO vr 128) :: (b10, cb (cC c) 40) :: (x5, cb (cI self) 23) :: (b3, cb (cI self ++ [.slice an ns.length cn] ++ [.slice ae en.length ce]) 27) :: (b2, cb (cI d) 23) :: (lr ++ lk)) (by (refine perm_cnt (fun _ => ?_)); simp only [cntB_append, cntB_cons, cntB_nil, Nat.add_zero, Nat.zero_add]; try ac_rfl) ?_
    refine J.lenS rfl Ty.u32 rfl rfl ?_
    refine J.move rfl rfl ?_
    refine J.nil ?_
    refine JX.thenN (hK5 _ _ ?_)
    refine JC.block ?_
    refine JC.conseq (JC.cov (f := (fun i => [(2, .pointer (some ⟨b2, 0, none⟩)), (5, .pointer (some ⟨x5, 0, none⟩)), (10, .pointer (some ⟨b10, 0, none⟩)), (32, .slice ak (knownV self ns (ordE (laidL 128 en))).length ck1), (33, .int .i64 (((knownV self ns (ordE (laidL 128 en))).length : Nat) : Int)), (34, .int .i64 ((i : Nat) : Int))]) 0) ⟨rfl, rfl, rfl, rfl, rfl, rfl, trivial⟩ (JC.loop (α := Nat) (fun i => [(2, .pointer (some ⟨b2, 0, none⟩)), (5, .pointer (some ⟨x5, 0, none⟩)), (10, .pointer (some ⟨b10, 0, none⟩)), (32, .slice ak (knownV self ns (ordE (laidL 128 en))).length ck1), (33, .int .i64 (((knownV self ns (ordE (laidL 128 en))).length : Nat) : Int)), (34, .int .i64 ((i : Nat) : Int))]) (fun i w' => i ≤ (knownV self ns (ordE (laidL 128 en))).length ∧ St w [] ((t1, tabO 128 m1) :: (m1, .map es ck) :: (rt, rtabO vr 128) :: (b10, cb (cC c) 40) :: (x5, cb (cI self) 23) :: (b3, cb (cI self ++ [.slice an ns.length cn] ++ [.slice ae en.length ce]) 27) :: (b2, cb (cI d) 23) :: (lr ++ lk)) w') (fun i => (knownV self ns (ordE (laidL 128 en))).length - i) 0 (fun i => ?_))) (fun w hw => ⟨Nat.zero_le _, hw⟩)
    refine JC.pr (fun hi => ?_)
    refine JC.seq (fun K6 hK6 => ?_)
    refine JC.region ?_
    refine J.bin rfl rfl rfl rfl ?_
    refine J.nil ?_
    refine JX.thenN (hK6 _ _ ?_)
    refine JC.seq (fun K7 hK7 => ?_)
    refine JC.cond rfl (fun h0 => ?_) (fun h0 => ?_)
    · skip
      have hlt : i < (knownV self ns (ordE (laidL 128 en))).length := by simp at h0; omega
      obtain ⟨qk, rfl⟩ : ∃ q, ak = some ⟨q, 0, none⟩ := by
        rcases hvk.2 with ⟨_, h9, _⟩ | ⟨q, c9, sp, h9, _⟩
        · omega
        · simp only [Value.slice.injEq] at h9; exact ⟨q, h9.1⟩
      obtain ⟨xc, hxc⟩ : ∃ x, (knownV self ns (ordE (laidL 128 en)))[i]? = some x := ⟨_, List.getElem?_eq_getElem hlt⟩
      have hmin := choose_min d self ns (ordE (laidL 128 en)) xc (List.mem_of_getElem? hxc)
      rw [hcE] at hmin
      refine JC.skip ?_
      refine JX.thenN (hK7 _ _ ?_)
      refine JC.seq (fun K8 hK8 => ?_)
      refine JC.block ?_
      refine JC.seq (fun K9 hK9 => ?_)
      refine JC.region ?_
      refine J.indexAddrS Ty.el32 Ty.s40 rfl rfl (by omega) (by omega) rfl ?_
      refine J.loadA (vs := cC xc) Ty.a40 Ty.s40 rfl rfl (fun w1 hw => rowG_at cC_length (vec_rowM hvk hw (fun q hq => by first | (simp [hq]; done) | (simp at hq; simp [hq]; done) | (simp at hq; subst hq; simp))) hxc (by omega)) rfl ?_
      refine J.alloc zC40 rfl rfl (fun b12 => ?_)
      refine J.storeW (cs := cC zC) (vs := cC xc) Ty.s40 rfl rfl rfl rfl rfl (one_cC _) .here ?_
      refine J.nil ?_
      refine JX.thenN (hK9 _ _ ?_)
      refine JC.seq (fun K10 hK10 => ?_)
      refine JC.region ?_
      refine J.loadOA (vs := cI d) Ty.a23 Ty.s23 rfl (by repeat first | exact .head _ | apply List.Mem.tail | apply List.mem_append_right) (by exact rfl) rfl rfl ?_
      refine J.fieldAddr Ty.fd40_0 rfl rfl ?_
      refine J.loadOA (vs := cI xc.id) Ty.a23 Ty.s23 rfl (by repeat first | exact .head _ | apply List.Mem.tail | apply List.mem_append_right) (by exact rfl) rfl rfl ?_
      refine J.fieldAddr Ty.fd40_0 rfl rfl ?_
      refine J.loadOA (vs := cI c.id) Ty.a23 Ty.s23 rfl (by repeat first | exact .head _ | apply List.Mem.tail | apply List.mem_append_right) (by exact rfl) rfl rfl ?_
      refine J.callB (v := .bool (decide (kN d xc.id < kN d c.id))) (fun w1 w2 hw hb => hw.step hb) Ty.bd24 rfl rfl (fun w1 hw => rnearer_spec d xc.id c.id w1) ?_
      refine J.name 43 rfl (show _ = Value.bool false by simp; omega) ?_
      refine J.nil ?_
      refine JX.thenN (hK10 _ _ ?_)
      first | refine JC.condF rfl ?_ | refine JC.cond rfl (fun h => by first | (exfalso; simp at h; omega) | (simp at h)) (fun _ => ?_)
      refine JC.skip ?_
      refine JX.blockN ?_
      refine JX.thenN (hK8 _ _ ?_)
      refine JC.region ?_
      (first | refine J.addN rfl rfl (by omega) (by omega) rfl ?_ | refine J.bin rfl rfl rfl rfl ?_)
      refine J.move rfl rfl ?_
      refine J.nil ?_
      refine JX.thenN ?_
      refine JX.again (i + 1) ?_ ?_ ?_
      · omega
      · exact ⟨rfl, rfl, rfl, rfl, rfl, rfl, trivial⟩
      · exact fun w1 hw => ⟨hlt, hw.drop (List.sublist_cons_self _ _)⟩
    · skip
      have hslf := choose_self d self ns (ordE (laidL 128 en))
      rw [hcE] at hslf
      refine JC.exit ?_
      refine JX.thenE ?_
      refine JX.thenE ?_
      refine JX.blockE ?_
      refine JX.thenN (hK4 _ _ ?_)
      refine JC.seq (fun K11 hK11 => ?_)
      by_cases hcn : c.n = -1
      · skip
        refine JC.region ?_
        refine J.callB (v := .bool true) (fun w1 w2 hw hb => hw.step hb) Ty.bd15 rfl rfl (fun w1 hw => fixed13_spec w1) ?_
        refine J.move rfl rfl ?_
        first | refine J.skip rfl rfl rfl rfl rfl ?_ | refine J.skipU rfl rfl rfl rfl ?_ | (refine J.unguard rfl rfl rfl ?_; refine J.fieldAddr Ty.fd40_3 rfl rfl ?_)
        first | refine J.skip rfl rfl rfl rfl rfl ?_ | refine J.skipU rfl rfl rfl rfl ?_ | (refine J.unguard rfl rfl rfl ?_; refine J.loadO Ty.a3 rfl (by repeat first | exact .head _ | apply List.Mem.tail | apply List.mem_append_right) (by exact rfl) rfl ?_)
        first | refine J.skip rfl rfl rfl rfl rfl ?_ | refine J.skipU rfl rfl rfl rfl ?_ | (refine J.unguard rfl rfl rfl ?_; refine J.bin rfl rfl rfl rfl ?_; refine J.name 49 rfl (show _ = Value.bool true by simp [hcn]) ?_)
        first | refine J.skip rfl rfl rfl rfl rfl ?_ | refine J.skipU rfl rfl rfl rfl ?_ | (refine J.unguard rfl rfl rfl ?_; refine J.move rfl rfl ?_)
        first | refine J.skip rfl rfl rfl rfl rfl ?_ | refine J.skipU rfl rfl rfl rfl ?_ | (refine J.unguard rfl rfl rfl ?_; refine J.fieldAddr Ty.fd40_0 rfl rfl ?_)
        first | refine J.skip rfl rfl rfl rfl rfl ?_ | refine J.skipU rfl rfl rfl rfl ?_ | (refine J.unguard rfl rfl rfl ?_; refine J.loadOA (vs := cI c.id) Ty.a23 Ty.s23 rfl (by repeat first | exact .head _ | apply List.Mem.tail | apply List.mem_append_right) (by exact rfl) rfl rfl ?_)
        first | refine J.skip rfl rfl rfl rfl rfl ?_ | refine J.skipU rfl rfl rfl rfl ?_ | (refine J.unguard rfl rfl rfl ?_; refine J.loadOA (vs := cI self) Ty.a23 Ty.s23 rfl (by repeat first | exact .head _ | apply List.Mem.tail | apply List.mem_append_right) (by exact rfl) rfl rfl ?_)
        first | refine J.skip rfl rfl rfl rfl rfl ?_ | refine J.skipU rfl rfl rfl rfl ?_ | (refine J.unguard rfl rfl rfl ?_; skip)
        first | refine J.skip rfl rfl rfl rfl rfl ?_ | refine J.skipU rfl rfl rfl rfl ?_ | (refine J.unguard rfl rfl rfl ?_; refine J.move rfl rfl ?_)
        first | refine J.skip rfl rfl rfl rfl rfl ?_ | refine J.skipU rfl rfl rfl rfl ?_ | (refine J.unguard rfl rfl rfl ?_; refine J.loadOA (vs := cI d) Ty.a23 Ty.s23 rfl (by repeat first | exact .head _ | apply List.Mem.tail | apply List.mem_append_right) (by exact rfl) rfl rfl ?_)
        first | refine J.skip rfl rfl rfl rfl rfl ?_ | refine J.skipU rfl rfl rfl rfl ?_ | (refine J.unguard rfl rfl rfl ?_; refine J.fieldAddr Ty.fd40_0 rfl rfl ?_)
        first | refine J.skip rfl rfl rfl rfl rfl ?_ | refine J.skipU rfl rfl rfl rfl ?_ | (refine J.unguard rfl rfl rfl ?_; refine J.loadOA (vs := cI c.id) Ty.a23 Ty.s23 rfl (by repeat first | exact .head _ | apply List.Mem.tail | apply List.mem_append_right) (by exact rfl) rfl rfl ?_)
        first | refine J.skip rfl rfl rfl rfl rfl ?_ | refine J.skipU rfl rfl rfl rfl ?_ | (refine J.unguard rfl rfl rfl ?_; refine J.loadOA (vs := cI self) Ty.a23 Ty.s23 rfl (by repeat first | exact .head _ | apply List.Mem.tail | apply List.mem_append_right) (by exact rfl) rfl rfl ?_)
        first | refine J.skip rfl rfl rfl rfl rfl ?_ | refine J.skipU rfl rfl rfl rfl ?_ | (refine J.unguard rfl rfl rfl ?_; skip)
        first | refine J.skip rfl rfl rfl rfl rfl ?_ | refine J.skipU rfl rfl rfl rfl ?_ | (refine J.unguard rfl rfl rfl ?_; (first | refine J.pickT rfl rfl rfl ?_ | refine J.pickF rfl rfl rfl ?_))
        first | refine J.skip rfl rfl rfl rfl rfl ?_ | refine J.skipU rfl rfl rfl rfl ?_ | (refine J.unguard rfl rfl rfl ?_; (first | refine J.pickT rfl rfl rfl ?_ | refine J.pickF rfl rfl rfl ?_))
        (first | refine J.pickT rfl rfl rfl ?_ | refine J.pickF rfl rfl rfl ?_)
        refine J.assign rfl rfl ?_
        refine J.nil ?_
        refine JX.thenN (hK11 _ _ ?_)
        refine JC.ret ?_
        refine JX.ret1 rfl rfl (fun w hw => ?_)
        exact ⟨rfl, (hw.drop (List.nil_sublist _)).below⟩
      · skip
        obtain ⟨hs1, hs2⟩ := hslf hcn
        refine JC.region ?_
        refine J.callB (v := .bool true) (fun w1 w2 hw hb => hw.step hb) Ty.bd15 rfl rfl (fun w1 hw => fixed13_spec w1) ?_
        refine J.move rfl rfl ?_
        first | refine J.skip rfl rfl rfl rfl rfl ?_ | refine J.skipU rfl rfl rfl rfl ?_ | (refine J.unguard rfl rfl rfl ?_; refine J.fieldAddr Ty.fd40_3 rfl rfl ?_)
        first | refine J.skip rfl rfl rfl rfl rfl ?_ | refine J.skipU rfl rfl rfl rfl ?_ | (refine J.unguard rfl rfl rfl ?_; refine J.loadO Ty.a3 rfl (by repeat first | exact .head _ | apply List.Mem.tail | apply List.mem_append_right) (by exact rfl) rfl ?_)
        first | refine J.skip rfl rfl rfl rfl rfl ?_ | refine J.skipU rfl rfl rfl rfl ?_ | (refine J.unguard rfl rfl rfl ?_; refine J.bin rfl rfl rfl rfl ?_; refine J.name 49 rfl (show _ = Value.bool false by simp [hcn]) ?_)
        first | refine J.skip rfl rfl rfl rfl rfl ?_ | refine J.skipU rfl rfl rfl rfl ?_ | (refine J.unguard rfl rfl rfl ?_; refine J.move rfl rfl ?_)
        first | refine J.skip rfl rfl rfl rfl rfl ?_ | refine J.skipU rfl rfl rfl rfl ?_ | (refine J.unguard rfl rfl rfl ?_; refine J.fieldAddr Ty.fd40_0 rfl rfl ?_)
        first | refine J.skip rfl rfl rfl rfl rfl ?_ | refine J.skipU rfl rfl rfl rfl ?_ | (refine J.unguard rfl rfl rfl ?_; refine J.loadOA (vs := cI c.id) Ty.a23 Ty.s23 rfl (by repeat first | exact .head _ | apply List.Mem.tail | apply List.mem_append_right) (by exact rfl) rfl rfl ?_)
        first | refine J.skip rfl rfl rfl rfl rfl ?_ | refine J.skipU rfl rfl rfl rfl ?_ | (refine J.unguard rfl rfl rfl ?_; refine J.loadOA (vs := cI self) Ty.a23 Ty.s23 rfl (by repeat first | exact .head _ | apply List.Mem.tail | apply List.mem_append_right) (by exact rfl) rfl rfl ?_)
        first | refine J.skip rfl rfl rfl rfl rfl ?_ | refine J.skipU rfl rfl rfl rfl ?_ | (refine J.unguard rfl rfl rfl ?_; refine J.neI Ty.QI Ty.keyI rfl rfl rfl ?_; refine J.name 54 rfl (show _ = Value.bool true by simp [hs1]) ?_)
        first | refine J.skip rfl rfl rfl rfl rfl ?_ | refine J.skipU rfl rfl rfl rfl ?_ | (refine J.unguard rfl rfl rfl ?_; refine J.move rfl rfl ?_)
        first | refine J.skip rfl rfl rfl rfl rfl ?_ | refine J.skipU rfl rfl rfl rfl ?_ | (refine J.unguard rfl rfl rfl ?_; refine J.loadOA (vs := cI d) Ty.a23 Ty.s23 rfl (by repeat first | exact .head _ | apply List.Mem.tail | apply List.mem_append_right) (by exact rfl) rfl rfl ?_)
        first | refine J.skip rfl rfl rfl rfl rfl ?_ | refine J.skipU rfl rfl rfl rfl ?_ | (refine J.unguard rfl rfl rfl ?_; refine J.fieldAddr Ty.fd40_0 rfl rfl ?_)
        first | refine J.skip rfl rfl rfl rfl rfl ?_ | refine J.skipU rfl rfl rfl rfl ?_ | (refine J.unguard rfl rfl rfl ?_; refine J.loadOA (vs := cI c.id) Ty.a23 Ty.s23 rfl (by repeat first | exact .head _ | apply List.Mem.tail | apply List.mem_append_right) (by exact rfl) rfl rfl ?_)
        first | refine J.skip rfl rfl rfl rfl rfl ?_ | refine J.skipU rfl rfl rfl rfl ?_ | (refine J.unguard rfl rfl rfl ?_; refine J.loadOA (vs := cI self) Ty.a23 Ty.s23 rfl (by repeat first | exact .head _ | apply List.Mem.tail | apply List.mem_append_right) (by exact rfl) rfl rfl ?_)
        first | refine J.skip rfl rfl rfl rfl rfl ?_ | refine J.skipU rfl rfl rfl rfl ?_ | (refine J.unguard rfl rfl rfl ?_; refine J.callB (v := .bool (decide (kN d c.id < kN d self))) (fun w1 w2 hw hb => hw.step hb) Ty.bd24 rfl rfl (fun w1 hw => rnearer_spec d c.id self w1) ?_; refine J.name 60 rfl (show _ = Value.bool true by simp [hs2]) ?_)
        first | refine J.skip rfl rfl rfl rfl rfl ?_ | refine J.skipU rfl rfl rfl rfl ?_ | (refine J.unguard rfl rfl rfl ?_; (first | refine J.pickT rfl rfl rfl ?_ | refine J.pickF rfl rfl rfl ?_))
        first | refine J.skip rfl rfl rfl rfl rfl ?_ | refine J.skipU rfl rfl rfl rfl ?_ | (refine J.unguard rfl rfl rfl ?_; (first | refine J.pickT rfl rfl rfl ?_ | refine J.pickF rfl rfl rfl ?_))
        (first | refine J.pickT rfl rfl rfl ?_ | refine J.pickF rfl rfl rfl ?_)
        refine J.assign rfl rfl ?_
        refine J.nil ?_
        refine JX.thenN (hK11 _ _ ?_)
        refine JC.ret ?_
        refine JX.ret1 rfl rfl (fun w hw => ?_)
        exact ⟨rfl, (hw.drop (List.nil_sublist _)).below⟩

theorem routeNearest_walk (w : World) (dc : List Value) (d : IDV) (hd : RId w dc d) (pc : List Value) (x : PlV) (hx : RPl w pc x) (hb : x.n.xs.length ≤ 1048576) :
    Calls Try.prog 5 [.agg dc.toArray, .agg pc.toArray].toArray w fun r w' => r = .returned (.bool true) ∧ Bel w w' := by
  cases hd
  exact routeNearest_spec d x.me x.n.v x.n.xs x.e.v x.e.xs w hx.row hb hx.ok (rslE hx.e) (rslE_ok hx.e) hx.len pc hx.cells

set_option maxHeartbeats 1000000 in
theorem routeChooses_spec (d : IDV) (self : IDV) (nv : Value) (ns : List NV) (ev : Value) (en : List EV) (w : World) (hr : Row w nv ns.length (fN ns)) (hnl : ns.length ≤ 1048576) (hns : ∀ x, x ∈ ns → okN x.n) (hre : Row w ev en.length (fE en)) (hok : ∀ x, x ∈ en → okE x) (hxl : en.length ≤ 1954687338213) (pc : List Value) (hpc : pc = cI self ++ [nv] ++ [ev]) :
    Calls Try.prog 3 [.agg (cI d).toArray, .agg pc.toArray].toArray w fun r w' => r = .returned (.bool true) ∧ Bel w w' := by
  obtain ⟨an, cn, rfl, hcn, _⟩ := id hr
  obtain ⟨ae, ce, rfl, hce, _⟩ := id hre
  have hklen := known_len self ns (ordE (laidL 128 en))
  refine calls_of_J (args := [.agg (cI d).toArray, .agg pc.toArray]) (e := [(0, .agg (cI d).toArray), (1, .agg pc.toArray)]) Try.func3 rfl rfl ⟨rfl, rfl, trivial⟩ (St.start w) ?_
  refine JC.seq (fun K0 hK0 => ?_)
  refine JC.region ?_
  refine J.box rfl rfl rfl (fun b2 => ?_)
  refine J.box rfl rfl rfl (fun b3 => ?_)
  refine J.assign rfl rfl ?_
  refine J.nil ?_
  refine JX.thenN (hK0 _ _ ?_)
  refine JC.seq (fun K1 hK1 => ?_)
  subst hpc
  apply JC.drawX (α := Nat × Unit) 10 (fun x => match x with | ⟨x5, u5⟩ => [.pointer (some ⟨b3, 0 + 0, none⟩), .agg (cI self).toArray, .pointer (some ⟨b3, 0 + 16, none⟩), .slice an ns.length cn, .pointer (some ⟨b3, 0 + 17, none⟩), .slice ae en.length ce, .pointer (some ⟨x5, 0, none⟩), undef, .slice an ns.length cn, .slice ae en.length ce]) (fun m x => match x with | ⟨x5, u5⟩ => fun w1 => (m 7 = true → m 6 = true) ∧ St w [] ((b3, cb (cI self ++ [.slice an ns.length cn] ++ [.slice ae en.length ce]) 27) :: (b2, cb (cI d) 23) :: (bif m 6 then [(x5, cb (bif m 7 then cI self else cI zI) 23)] else [])) w1) Ty.mixed rfl rfl rfl (by kernel_rfl) rfl rfl ?hinit ?hstep ?htail
  case hinit => exact fun w1 hw => ⟨(0, ()), fun h => (by cases h), hw.drew⟩
  case hstep =>
    refine ⟨fun m x hm hp => ?_, fun m x hm hp => ?_, fun m x hm hp => ?_, fun m x hm hp => ?_, fun m x hm hp => ?_, fun m x hm hp => ?_, fun m x hm hp => ?_, fun m x hm hp => ?_, fun m x hm hp => ?_, fun m x hm hp => ?_, trivial⟩
    · skip
      obtain ⟨x5, u5⟩ := x
      show J _ _ _ _ _ (_) _
      refine J.pr (fun hF => ?_)
      refine J.fieldAddr Ty.fd27_0 rfl rfl ?_
      exact J.finX rfl (fun _ hw => ⟨⟨x5, u5⟩, rfl, fun _ _ _ => rfl, hF, hw⟩)
    · skip
      obtain ⟨x5, u5⟩ := x
      show J _ _ _ _ _ ((13, .pointer (some ⟨b3, 0 + 0, none⟩)) :: _) _
      refine J.pr (fun hF => ?_)
      refine J.loadA (vs := cI self) Ty.a23 Ty.s23 rfl rfl (fun w1 hw => Cells.of_block (hw.own _ (.head _)) rfl) rfl ?_
      exact J.finX rfl (fun _ hw => ⟨⟨x5, u5⟩, rfl, fun _ _ _ => rfl, hF, hw⟩)
    · skip
      obtain ⟨x5, u5⟩ := x
      show J _ _ _ _ _ (_) _
      refine J.pr (fun hF => ?_)
      refine J.fieldAddr Ty.fd27_1 rfl rfl ?_
      exact J.finX rfl (fun _ hw => ⟨⟨x5, u5⟩, rfl, fun _ _ _ => rfl, hF, hw⟩)
    · skip
      obtain ⟨x5, u5⟩ := x
      show J _ _ _ _ _ ((15, .pointer (some ⟨b3, 0 + 16, none⟩)) :: _) _
      refine J.pr (fun hF => ?_)
      refine J.load1 (v := .slice an ns.length cn) Ty.a24 rfl (fun w1 hw => by rw [cell_of (hw.own _ (.head _))]; rfl) rfl ?_
      exact J.finX rfl (fun _ hw => ⟨⟨x5, u5⟩, rfl, fun _ _ _ => rfl, hF, hw⟩)
    · skip
      obtain ⟨x5, u5⟩ := x
      show J _ _ _ _ _ (_) _
      refine J.pr (fun hF => ?_)
      refine J.fieldAddr Ty.fd27_2 rfl rfl ?_
      exact J.finX rfl (fun _ hw => ⟨⟨x5, u5⟩, rfl, fun _ _ _ => rfl, hF, hw⟩)
    · skip
      obtain ⟨x5, u5⟩ := x
      show J _ _ _ _ _ ((17, .pointer (some ⟨b3, 0 + 17, none⟩)) :: _) _
      refine J.pr (fun hF => ?_)
      refine J.load1 (v := .slice ae en.length ce) Ty.a25 rfl (fun w1 hw => by rw [cell_of (hw.own _ (.head _))]; rfl) rfl ?_
      exact J.finX rfl (fun _ hw => ⟨⟨x5, u5⟩, rfl, fun _ _ _ => rfl, hF, hw⟩)
    · skip
      obtain ⟨x5, u5⟩ := x
      show J _ _ _ _ _ (_) _
      refine J.pr (fun hF => ?_)
      have h7 : m 7 = false := by cases h : m 7 with
        | false => rfl
        | true => rw [hF h] at hm; cases hm
      refine J.alloc Ty.zID rfl rfl (fun b5 => ?_)
      refine J.nil (JX.finB rfl (fun w1 hw => ⟨⟨⟨b5, u5⟩, rfl, fun j h1 h2 => ?_, ?_⟩, trivial⟩))
      · match j, h1 with
        | 0, _ => (first | rfl | trivial)
        | 1, _ => (first | rfl | trivial)
        | 2, _ => (first | rfl | trivial)
        | 3, _ => (first | rfl | trivial)
        | 4, _ => (first | rfl | trivial)
        | 5, _ => (first | rfl | trivial)
        | 6, _ => exact absurd (h2.symm.trans hm) (by decide)
        | 7, _ => (first | rfl | trivial)
        | 8, _ => (first | rfl | trivial)
        | 9, _ => (first | rfl | trivial)
        | j + 10, h1 => omega
      show (m 7 = true → true = true) ∧ St w [] ((b3, cb (cI self ++ [.slice an ns.length cn] ++ [.slice ae en.length ce]) 27) :: (b2, cb (cI d) 23) :: (bif true then [(b5, cb (bif m 7 then cI self else cI zI) 23)] else [])) w1
      simp only [hm, h7, cond_true, cond_false] at hw ⊢
      exact ⟨fun _ => (by first | trivial | rfl), hw.perm (by (refine perm_cnt (fun _ => ?_)); simp only [cntB_append, cntB_cons, cntB_nil, Nat.add_zero, Nat.zero_add]; try ac_rfl)⟩
    · skip
      obtain ⟨x5, u5⟩ := x
      show J _ _ _ _ _ ((5, .pointer (some ⟨x5, 0, none⟩)) :: (14, .agg (cI self).toArray) :: (13, .pointer (some ⟨b3, 0 + 0, none⟩)) :: (14, .agg (cI self).toArray) :: (5, .pointer (some ⟨x5, 0, none⟩)) :: _) _
      have hp6 : m 6 = true := predsT hp (by kernel_rfl)
      have hp6 : m 6 = true := predsT hp (by kernel_rfl)
      refine J.pr (fun hF => ?_)
      refine J.conseq (I' := St w [] ((x5, cb (cI zI) 23) :: (b3, cb (cI self ++ [.slice an ns.length cn] ++ [.slice ae en.length ce]) 27) :: (b2, cb (cI d) 23) :: [])) ?_ (fun w1 hw => by simp only [hm, hp6, cond_true, cond_false] at hw; exact hw.perm (by (refine perm_cnt (fun _ => ?_)); simp only [cntB_append, cntB_cons, cntB_nil, Nat.add_zero, Nat.zero_add]; try ac_rfl))
      refine J.storeW (cs := cI zI) (vs := cI self) Ty.s23 rfl rfl rfl rfl rfl (one_cI _) .here ?_
      refine J.nil (JX.finN undef (fun w1 hw => ⟨⟨x5, u5⟩, rfl, fun j h1 h2 => ?_, ?_⟩))
      · match j, h1 with
        | 0, _ => (first | rfl | trivial)
        | 1, _ => (first | rfl | trivial)
        | 2, _ => (first | rfl | trivial)
        | 3, _ => (first | rfl | trivial)
        | 4, _ => (first | rfl | trivial)
        | 5, _ => (first | rfl | trivial)
        | 6, _ => (first | rfl | trivial)
        | 7, _ => (first | rfl | trivial)
        | 8, _ => (first | rfl | trivial)
        | 9, _ => (first | rfl | trivial)
        | j + 10, h1 => omega
      show (true = true → m 6 = true) ∧ St w [] ((b3, cb (cI self ++ [.slice an ns.length cn] ++ [.slice ae en.length ce]) 27) :: (b2, cb (cI d) 23) :: (bif m 6 then [(x5, cb (bif true then cI self else cI zI) 23)] else [])) w1
      simp only [hm, hp6, cond_true, cond_false] at hw ⊢
      exact ⟨fun _ => (by first | trivial | rfl), hw.perm (by (refine perm_cnt (fun _ => ?_)); simp only [cntB_append, cntB_cons, cntB_nil, Nat.add_zero, Nat.zero_add]; try ac_rfl)⟩
    · skip
      obtain ⟨x5, u5⟩ := x
      show J _ _ _ _ _ ((5, .pointer (some ⟨x5, 0, none⟩)) :: (16, .slice an ns.length cn) :: (15, .pointer (some ⟨b3, 0 + 16, none⟩)) :: (14, .agg (cI self).toArray) :: (13, .pointer (some ⟨b3, 0 + 0, none⟩)) :: (16, .slice an ns.length cn) :: _) _
      have hp7 : m 7 = true := predsT hp (by kernel_rfl)
      have hp6 : m 6 = true := predsT hp (by kernel_rfl)
      have hp7 : m 7 = true := predsT hp (by kernel_rfl)
      refine J.pr (fun hF => ?_)
      refine J.assign rfl rfl ?_
      exact J.finX rfl (fun _ hw => ⟨⟨x5, u5⟩, rfl, fun _ _ _ => rfl, hF, hw⟩)
    · skip
      obtain ⟨x5, u5⟩ := x
      show J _ _ _ _ _ ((6, .slice an ns.length cn) :: (5, .pointer (some ⟨x5, 0, none⟩)) :: (18, .slice ae en.length ce) :: (17, .pointer (some ⟨b3, 0 + 17, none⟩)) :: (16, .slice an ns.length cn) :: (15, .pointer (some ⟨b3, 0 + 16, none⟩)) :: (14, .agg (cI self).toArray) :: (13, .pointer (some ⟨b3, 0 + 0, none⟩)) :: (6, .slice an ns.length cn) :: (18, .slice ae en.length ce) :: _) _
      have hp6 : m 6 = true := predsT hp (by kernel_rfl)
      have hp7 : m 7 = true := predsT hp (by kernel_rfl)
      refine J.pr (fun hF => ?_)
      refine J.assign rfl rfl ?_
      exact J.finX rfl (fun _ hw => ⟨⟨x5, u5⟩, rfl, fun _ _ _ => rfl, hF, hw⟩)
  case htail =>
    intro x
    obtain ⟨x5, u5⟩ := x
    show J _ _ _ _ _ ((7, .slice ae en.length ce) :: (6, .slice an ns.length cn) :: (5, .pointer (some ⟨x5, 0, none⟩)) :: (18, .slice ae en.length ce) :: (17, .pointer (some ⟨b3, 0 + 17, none⟩)) :: (16, .slice an ns.length cn) :: (15, .pointer (some ⟨b3, 0 + 16, none⟩)) :: (14, .agg (cI self).toArray) :: (13, .pointer (some ⟨b3, 0 + 0, none⟩)) :: _) (fun w1 => (true = true → true = true) ∧ St w [] ((b3, cb (cI self ++ [.slice an ns.length cn] ++ [.slice ae en.length ce]) 27) :: (b2, cb (cI d) 23) :: (bif true then [(x5, cb (bif true then cI self else cI zI) 23)] else [])) w1)
    refine J.pr (fun hF => ?_)
    refine J.conseq (I' := St w [] ((b3, cb (cI self ++ [.slice an ns.length cn] ++ [.slice ae en.length ce]) 27) :: (b2, cb (cI d) 23) :: (x5, cb (cI self) 23) :: [])) ?_ (fun w1 hw => by simp only [cond_true] at hw; exact hw)
    refine J.nil ?_
    refine JX.thenN (hK1 _ _ ?_)
    refine JC.seq (fun K2 hK2 => ?_)
    refine JC.region ?_
    refine J.move rfl rfl ?_
    refine J.perm ([] ++ ((b3, cb (cI self ++ [.slice an ns.length cn] ++ [.slice ae en.length ce]) 27) :: (b2, cb (cI d) 23) :: (x5, cb (cI self) 23) :: [])) (.refl _) ?_
    refine J.callS (α := LaidS) (V := fun x => .tuple #[.pointer (some ⟨x.t1, 0, none⟩), x.vr]) (Pr := fun x => Tab (laidL 128 (en)) x.es x.ck ∧ Vec 55 51 x.vr (ordE (laidL 128 (en))).length (fE (ordE (laidL 128 (en)))) x.lr) (L := fun x => x.blk 128) (l1 := []) Ty.bd14 rfl rfl (fun w1 hw => laid13_spec _ (en) w1 (hre.below (hw.drop (List.nil_sublist _)).below) hok hxl) (fun x hx9 => ?_)
    obtain ⟨t1, m1, rt, es, ck, vr, lr⟩ := x
    obtain ⟨hT, hvr⟩ := hx9
    simp only [LaidS.blk, List.cons_append] at hT hvr ⊢
    have hgood := (laidL_good 128 en).len
    have hl128 : (laidL 128 en).length ≤ 128 := by omega
    have hol := (ordE_perm (laidL 128 en)).length_eq
    have ho128 : (ordE (laidL 128 en)).length ≤ 128 := by omega
    obtain ⟨ar, cr, rfl, hcr⟩ := hvr.form
    refine J.perm ((t1, tabO 128 m1) :: (m1, .map es ck) :: (rt, rtabO (.slice ar (ordE (laidL 128 en)).length cr) 128) :: (x5, cb (cI self) 23) :: (b3, cb (cI self ++ [.slice an ns.length cn] ++ [.slice ae en.length ce]) 27) :: (b2, cb (cI d) 23) :: lr) (by (refine perm_cnt (fun _ => ?_)); simp only [cntB_append, cntB_cons, cntB_nil, Nat.add_zero, Nat.zero_add]; try ac_rfl) ?_
    refine J.move rfl rfl ?_
    refine J.extract rfl rfl rfl ?_
    refine J.extract rfl rfl rfl ?_
    refine J.assign rfl rfl ?_
    refine J.assign rfl rfl ?_
    refine J.nil ?_
    refine JX.thenN (hK2 _ _ ?_)
    refine JC.seq (fun K3 hK3 => ?_)
    refine JC.seq (fun K4 hK4 => ?_)
    refine JC.region ?_
    refine J.callB (v := .bool true) (fun w1 w2 hw hb => hw.step hb) Ty.bd15 rfl rfl (fun w1 hw => fixed13_spec w1) ?_
    refine J.not rfl rfl ?_
    refine J.nil ?_
    refine JX.thenN (hK4 _ _ ?_)
    first | refine JC.condF rfl ?_ | refine JC.cond rfl (fun h => by first | (exfalso; simp at h; omega) | (simp at h)) (fun _ => ?_)
    refine JC.skip ?_
    refine JX.thenN (hK3 _ _ ?_)
    refine JC.seq (fun K5 hK5 => ?_)
    refine JC.region ?_
    refine J.loadOA (vs := cI self) Ty.a23 Ty.s23 rfl (by repeat first | exact .head _ | apply List.Mem.tail | apply List.mem_append_right) (by exact rfl) rfl rfl ?_
    refine J.move rfl rfl ?_
    refine J.move rfl rfl ?_
    have hkok := known_ok (self := self) hns (ordE_ok hT)
    have hchok : okC (chooseV d self ns (ordE (laidL 128 en))) := best_ok (self_ok self) (fun c hc => hkok c (.tail _ hc))
    refine J.perm ([] ++ ((t1, tabO 128 m1) :: (m1, .map es ck) :: (rt, rtabO (.slice ar (ordE (laidL 128 en)).length cr) 128) :: (x5, cb (cI self) 23) :: (b3, cb (cI self ++ [.slice an ns.length cn] ++ [.slice ae en.length ce]) 27) :: (b2, cb (cI d) 23) :: lr)) (.refl _) ?_
    refine J.callS (α := Value × List (Nat × Obj)) (V := (·.1)) (Pr := fun x => Vec 40 35 x.1 ((knownV self ns (ordE (laidL 128 en)))).length (fC ((knownV self ns (ordE (laidL 128 en))))) x.2) (L := (·.2)) (l1 := []) Ty.bd16 rfl rfl (fun w1 hw => known_spec t1 m1 128 (laidL 128 en) es ck w1 (hw.own _ (.head _)) (hw.own _ (.tail _ (.head _))) hT hl128 self _ ns (hr.below (hw.drop (List.nil_sublist _)).below) hnl) (fun x hvk => ?_)
    obtain ⟨vk, lk⟩ := x
    simp only at hvk ⊢
    obtain ⟨ak, ck1, rfl, hck1⟩ := hvk.form
    refine J.perm ((t1, tabO 128 m1) :: (m1, .map es ck) :: (rt, rtabO (.slice ar (ordE (laidL 128 en)).length cr) 128) :: (x5, cb (cI self) 23) :: (b3, cb (cI self ++ [.slice an ns.length cn] ++ [.slice ae en.length ce]) 27) :: (b2, cb (cI d) 23) :: (lr ++ lk)) (by (refine perm_cnt (fun _ => ?_)); simp only [cntB_append, cntB_cons, cntB_nil, Nat.add_zero, Nat.zero_add]; try ac_rfl) ?_
    refine J.assign rfl rfl ?_
    refine J.nil ?_
    refine JX.thenN (hK5 _ _ ?_)
    refine JC.seq (fun K6 hK6 => ?_)
    refine JC.region ?_
    refine J.loadOA (vs := cI self) Ty.a23 Ty.s23 rfl (by repeat first | exact .head _ | apply List.Mem.tail | apply List.mem_append_right) (by exact rfl) rfl rfl ?_
    refine J.move rfl rfl ?_
    refine J.move rfl rfl ?_
    refine J.perm ([] ++ ((t1, tabO 128 m1) :: (m1, .map es ck) :: (rt, rtabO (.slice ar (ordE (laidL 128 en)).length cr) 128) :: (x5, cb (cI self) 23) :: (b3, cb (cI self ++ [.slice an ns.length cn] ++ [.slice ae en.length ce]) 27) :: (b2, cb (cI d) 23) :: (lr ++ lk))) (.refl _) ?_
    refine J.callS (α := Value × List (Nat × Obj)) (V := (·.1)) (Pr := fun x => Vec 42 35 x.1 ((knownV self ns (ordE (laidL 128 en)))).length (fC ((knownV self ns (ordE (laidL 128 en))))) x.2) (L := (·.2)) (l1 := []) Ty.bd17 rfl rfl (fun w1 hw => rknown_spec self _ ns _ (ordE (laidL 128 en)) w1 (hr.below (hw.drop (List.nil_sublist _)).below) hnl (vec_rowM hvr hw (fun q hq => by first | (simp [hq]; done) | (simp at hq; simp [hq]; done) | (simp at hq; subst hq; simp))) ho128) (fun x hvq => ?_)
    obtain ⟨vq, lq⟩ := x
    simp only at hvq ⊢
    obtain ⟨aq, cq1, rfl, hcq1⟩ := hvq.form
    refine J.perm ((t1, tabO 128 m1) :: (m1, .map es ck) :: (rt, rtabO (.slice ar (ordE (laidL 128 en)).length cr) 128) :: (x5, cb (cI self) 23) :: (b3, cb (cI self ++ [.slice an ns.length cn] ++ [.slice ae en.length ce]) 27) :: (b2, cb (cI d) 23) :: (lr ++ (lk ++ lq))) (by (refine perm_cnt (fun _ => ?_)); simp only [cntB_append, cntB_cons, cntB_nil, Nat.add_zero, Nat.zero_add]; try ac_rfl) ?_
    refine J.assign rfl rfl ?_
    refine J.nil ?_
    refine JX.thenN (hK6 _ _ ?_)
    refine JC.seq (fun K7 hK7 => ?_)
    refine JC.seq (fun K8 hK8 => ?_)
    apply JC.drawL 19 [Eqv (.slice ak (knownV self ns (ordE (laidL 128 en))).length ck1), Eqv (.int .i64 (((knownV self ns (ordE (laidL 128 en))).length : Nat) : Int)), Eqv (.slice aq (knownV self ns (ordE (laidL 128 en))).length cq1), Eqv (.int .i64 (((knownV self ns (ordE (laidL 128 en))).length : Nat) : Int)), Eqv (.bool false), Eqv (.bool false), Eqv (.agg (cI d).toArray), Eqv (.agg (cI self).toArray), Eqv (.slice an ns.length cn), Eqv (.pointer (some ⟨t1, 0, none⟩)), Eqv (.agg (cC (chooseV d self ns (ordE (laidL 128 en)))).toArray), Eqv (.agg (cI d).toArray), Eqv (.agg (cI self).toArray), Eqv (.slice an ns.length cn), Eqv (.slice ar (ordE (laidL 128 en)).length cr), Eqv (.agg (cC (chooseV d self ns (ordE (laidL 128 en)))).toArray), Eqv (.bool true), Eqv (.bool false), Eqv (.bool false)] Ty.mixed rfl rfl rfl (by kernel_rfl) rfl rfl (fun w w' hw hb => hw.step hb) ⟨fun _ _ _ h _ => h, fun _ _ _ h _ => h, fun _ _ _ h _ => h, fun _ _ _ h _ => h, fun _ _ _ h _ => h, fun _ _ _ h _ => h, fun _ _ _ h _ => h, fun _ _ _ h _ => h, fun _ _ _ h _ => h, fun _ _ _ h _ => h, fun _ _ _ h _ => h, fun _ _ _ h _ => h, fun _ _ _ h _ => h, fun _ _ _ h _ => h, fun _ _ _ h _ => h, fun _ _ _ h _ => h, fun _ _ _ h _ => h, fun _ _ _ h _ => h, fun _ _ _ h _ => h, trivial⟩ ?hstep ?htail
    case hstep =>
      refine ⟨fun wi => ?_, fun wi => ?_, fun wi => ?_, fun wi => ?_, fun wi => ?_, fun wi => ?_, fun wi => ?_, fun wi => ?_, fun wi => ?_, fun wi => ?_, fun wi => ?_, fun wi => ?_, fun wi => ?_, fun wi => ?_, fun wi => ?_, fun wi => ?_, fun wi => ?_, fun wi => ?_, fun wi => ?_, trivial⟩
      · skip
        refine Fin.nil ?_
        refine J.move rfl rfl ?_
        exact J.finP rfl
      · skip
        refine Fin.consE rfl (Fin.nil ?_)
        refine J.lenS rfl Ty.u32 rfl rfl ?_
        exact J.finP rfl
      · skip
        refine Fin.nil ?_
        refine J.move rfl rfl ?_
        exact J.finP rfl
      · skip
        refine Fin.consE rfl (Fin.nil ?_)
        refine J.lenS rfl Ty.u34 rfl rfl ?_
        exact J.finP rfl
      · skip
        refine Fin.consE rfl (Fin.consE rfl (Fin.nil ?_))
        refine J.bin rfl rfl rfl rfl ?_
        refine J.name 38 rfl (show _ = Value.bool false by simp) ?_
        exact J.finP rfl
      · skip
        refine Fin.consE rfl (Fin.nil ?_)
        refine J.move rfl rfl ?_
        exact J.finP rfl
      · skip
        refine Fin.consE rfl (Fin.nil ?_)
        refine J.unguard rfl rfl rfl ?_
        refine J.loadA (vs := cI d) Ty.a23 Ty.s23 rfl rfl (fun w1 hw => Cells.of_block (hw.2.own _ (.tail _ (.tail _ (.tail _ (.tail _ (.tail _ (.head _))))))) rfl) rfl ?_
        exact J.finP rfl
      · skip
        refine Fin.consE rfl (Fin.nil ?_)
        refine J.unguard rfl rfl rfl ?_
        refine J.loadA (vs := cI self) Ty.a23 Ty.s23 rfl rfl (fun w1 hw => Cells.of_block (hw.2.own _ (.tail _ (.tail _ (.tail _ (.head _))))) rfl) rfl ?_
        exact J.finP rfl
      · skip
        refine Fin.consE rfl (Fin.nil ?_)
        first | refine J.skip rfl rfl rfl rfl rfl ?_ | refine J.skipU rfl rfl rfl rfl ?_ | (refine J.unguard rfl rfl rfl ?_; refine J.move rfl rfl ?_)
        exact J.finP rfl
      · skip
        refine Fin.consE rfl (Fin.nil ?_)
        first | refine J.skip rfl rfl rfl rfl rfl ?_ | refine J.skipU rfl rfl rfl rfl ?_ | (refine J.unguard rfl rfl rfl ?_; refine J.move rfl rfl ?_)
        exact J.finP rfl
      · skip
        refine Fin.consE rfl (Fin.consE rfl (Fin.consE rfl (Fin.consE rfl (Fin.consE rfl (Fin.consE rfl (Fin.nil ?_))))))
        refine J.unguard rfl rfl rfl ?_
        refine J.callD (v := .agg (cC (chooseV d self ns (ordE (laidL 128 en)))).toArray) Ty.bd19 rfl rfl (fun w1 hw => choose_spec t1 m1 128 (laidL 128 en) es ck w1 (hw.own _ (.head _)) (hw.own _ (.tail _ (.head _))) hT hl128 d self _ ns (hr.below (hw.drop (List.nil_sublist _)).below) hnl hns) ?_
        exact J.finQ rfl
      · skip
        refine Fin.consE rfl (Fin.nil ?_)
        refine J.unguard rfl rfl rfl ?_
        refine J.loadA (vs := cI d) Ty.a23 Ty.s23 rfl rfl (fun w1 hw => Cells.of_block (hw.2.own _ (.tail _ (.tail _ (.tail _ (.tail _ (.tail _ (.head _))))))) rfl) rfl ?_
        exact J.finP rfl
      · skip
        refine Fin.consE rfl (Fin.nil ?_)
        refine J.unguard rfl rfl rfl ?_
        refine J.loadA (vs := cI self) Ty.a23 Ty.s23 rfl rfl (fun w1 hw => Cells.of_block (hw.2.own _ (.tail _ (.tail _ (.tail _ (.head _))))) rfl) rfl ?_
        exact J.finP rfl
      · skip
        refine Fin.consE rfl (Fin.nil ?_)
        first | refine J.skip rfl rfl rfl rfl rfl ?_ | refine J.skipU rfl rfl rfl rfl ?_ | (refine J.unguard rfl rfl rfl ?_; refine J.move rfl rfl ?_)
        exact J.finP rfl
      · skip
        refine Fin.consE rfl (Fin.nil ?_)
        first | refine J.skip rfl rfl rfl rfl rfl ?_ | refine J.skipU rfl rfl rfl rfl ?_ | (refine J.unguard rfl rfl rfl ?_; refine J.move rfl rfl ?_)
        exact J.finP rfl
      · skip
        refine Fin.consE rfl (Fin.consE rfl (Fin.consE rfl (Fin.consE rfl (Fin.consE rfl (Fin.consE rfl (Fin.nil ?_))))))
        refine J.unguard rfl rfl rfl ?_
        refine J.callD (v := .agg (cC (chooseV d self ns (ordE (laidL 128 en)))).toArray) Ty.bd20 rfl rfl (fun w1 hw => rchoose_spec d self _ ns _ (ordE (laidL 128 en)) w1 (hr.below (hw.drop (List.nil_sublist _)).below) hnl (vec_rowM hvr hw (fun q hq => by first | (simp [hq]; done) | (simp at hq; simp [hq]; done) | (simp at hq; subst hq; simp))) ho128 hns (ordE_ok hT)) ?_
        exact J.finQ rfl
      · skip
        refine Fin.consE rfl (Fin.consE rfl (Fin.consE rfl (Fin.consE rfl (Fin.nil ?_))))
        refine J.unguard rfl rfl rfl ?_
        refine J.callD (v := .bool true) Ty.bd18 rfl rfl (fun w1 hw => same13_spec _ w1 hchok) ?_
        exact J.finQ rfl
      · skip
        refine Fin.consE rfl (Fin.consE rfl (Fin.nil ?_))
        first | refine J.skip rfl rfl rfl rfl rfl ?_ | refine J.skipU rfl rfl rfl rfl ?_ | (refine J.unguard rfl rfl rfl ?_; refine J.not rfl rfl ?_)
        exact J.finP rfl
      · skip
        refine Fin.consE rfl (Fin.consE rfl (Fin.nil ?_))
        (first | refine J.pickT rfl rfl rfl ?_ | refine J.pickF rfl rfl rfl ?_)
        exact J.finP rfl
    case htail =>
      refine Fin.consE rfl (Fin.consE rfl (Fin.consE rfl (Fin.consE rfl (Fin.consE rfl (Fin.consE rfl (Fin.consE rfl (Fin.consE rfl (Fin.consE rfl (Fin.consE rfl (Fin.consE rfl (Fin.consE rfl (Fin.consE rfl (Fin.consE rfl (Fin.consE rfl (Fin.consE rfl (Fin.consE rfl (Fin.consE rfl (Fin.consE rfl (Fin.nil ?_)))))))))))))))))))
      refine J.nil ?_
      refine JX.thenN (hK8 _ _ ?_)
      first | refine JC.condF rfl ?_ | refine JC.cond rfl (fun h => by first | (exfalso; simp at h; omega) | (simp at h)) (fun _ => ?_)
      refine JC.skip ?_
      refine JX.thenN (hK7 _ _ ?_)
      refine JC.seq (fun K9 hK9 => ?_)
      refine JC.seq (fun K10 hK10 => ?_)
      refine JC.region ?_
      refine J.move rfl rfl ?_
      refine J.lenS rfl Ty.u32 rfl rfl ?_
      refine J.move rfl rfl ?_
      refine J.nil ?_
      refine JX.thenN (hK10 _ _ ?_)
      refine JC.block ?_
      refine JC.conseq (JC.cov (f := (fun i => [(10, .slice ak (knownV self ns (ordE (laidL 128 en))).length ck1), (11, .slice aq (knownV self ns (ordE (laidL 128 en))).length cq1), (54, .int .i64 (((knownV self ns (ordE (laidL 128 en))).length : Nat) : Int)), (55, .int .i64 ((i : Nat) : Int))]) 0) ⟨rfl, rfl, rfl, rfl, trivial⟩ (JC.loop (α := Nat) (fun i => [(10, .slice ak (knownV self ns (ordE (laidL 128 en))).length ck1), (11, .slice aq (knownV self ns (ordE (laidL 128 en))).length cq1), (54, .int .i64 (((knownV self ns (ordE (laidL 128 en))).length : Nat) : Int)), (55, .int .i64 ((i : Nat) : Int))]) (fun i w' => i ≤ (knownV self ns (ordE (laidL 128 en))).length ∧ St w [] ((t1, tabO 128 m1) :: (m1, .map es ck) :: (rt, rtabO (.slice ar (ordE (laidL 128 en)).length cr) 128) :: (x5, cb (cI self) 23) :: (b3, cb (cI self ++ [.slice an ns.length cn] ++ [.slice ae en.length ce]) 27) :: (b2, cb (cI d) 23) :: (lr ++ (lk ++ lq))) w') (fun i => (knownV self ns (ordE (laidL 128 en))).length - i) 0 (fun i => ?_))) (fun w hw => ⟨Nat.zero_le _, hw⟩)
      refine JC.pr (fun hi => ?_)
      refine JC.seq (fun K11 hK11 => ?_)
      refine JC.region ?_
      refine J.bin rfl rfl rfl rfl ?_
      refine J.nil ?_
      refine JX.thenN (hK11 _ _ ?_)
      refine JC.seq (fun K12 hK12 => ?_)
      refine JC.cond rfl (fun h2 => ?_) (fun h2 => ?_)
      · skip
        have hlt : i < (knownV self ns (ordE (laidL 128 en))).length := by simp at h2; omega
        obtain ⟨qk, rfl⟩ : ∃ q, ak = some ⟨q, 0, none⟩ := by
          rcases hvk.2 with ⟨_, h9, _⟩ | ⟨q, c9, sp, h9, _⟩
          · omega
          · simp only [Value.slice.injEq] at h9; exact ⟨q, h9.1⟩
        obtain ⟨xc, hxc⟩ : ∃ x, (knownV self ns (ordE (laidL 128 en)))[i]? = some x := ⟨_, List.getElem?_eq_getElem hlt⟩
        obtain ⟨qq, rfl⟩ : ∃ q, aq = some ⟨q, 0, none⟩ := by
          rcases hvq.2 with ⟨_, h9, _⟩ | ⟨q, c9, sp, h9, _⟩
          · omega
          · simp only [Value.slice.injEq] at h9; exact ⟨q, h9.1⟩
        have hxok := hkok xc (List.mem_of_getElem? hxc)
        refine JC.skip ?_
        refine JX.thenN (hK12 _ _ ?_)
        refine JC.seq (fun K13 hK13 => ?_)
        refine JC.block ?_
        refine JC.seq (fun K14 hK14 => ?_)
        refine JC.region ?_
        refine J.move rfl rfl ?_
        refine J.assign rfl rfl ?_
        refine J.nil ?_
        refine JX.thenN (hK14 _ _ ?_)
        refine JC.seq (fun K15 hK15 => ?_)
        apply JC.drawL 10 [Eqv (.slice (some ⟨qk, 0, none⟩) (knownV self ns (ordE (laidL 128 en))).length ck1), Eqv (.int .i64 ((i : Nat) : Int)), Eqv (.pointer (some ⟨qk, 0 + (i : Int).toNat * 35, none⟩)), Eqv (.agg (cC xc).toArray), Eqv (.slice (some ⟨qq, 0, none⟩) (knownV self ns (ordE (laidL 128 en))).length cq1), Eqv (.int .i64 ((i : Nat) : Int)), Eqv (.pointer (some ⟨qq, 0 + (i : Int).toNat * 35, none⟩)), Eqv (.agg (cC xc).toArray), Eqv (.bool true), Eqv (.bool false)] Ty.mixed rfl rfl rfl (by kernel_rfl) rfl rfl (fun w w' hw hb => hw.step hb) ⟨fun _ _ _ h _ => h, fun _ _ _ h _ => h, fun _ _ _ h _ => h, fun _ _ _ h _ => h, fun _ _ _ h _ => h, fun _ _ _ h _ => h, fun _ _ _ h _ => h, fun _ _ _ h _ => h, fun _ _ _ h _ => h, fun _ _ _ h _ => h, trivial⟩ ?hstep ?htail
        case hstep =>
          refine ⟨fun wi => ?_, fun wi => ?_, fun wi => ?_, fun wi => ?_, fun wi => ?_, fun wi => ?_, fun wi => ?_, fun wi => ?_, fun wi => ?_, fun wi => ?_, trivial⟩
          · skip
            refine Fin.nil ?_
            refine J.move rfl rfl ?_
            exact J.finP rfl
          · skip
            refine Fin.nil ?_
            refine J.move rfl rfl ?_
            exact J.finP rfl
          · skip
            refine Fin.consE rfl (Fin.consE rfl (Fin.nil ?_))
            refine J.indexAddrS Ty.el32 Ty.s40 rfl rfl (by omega) (by omega) rfl ?_
            exact J.finP rfl
          · skip
            refine Fin.consE rfl (Fin.nil ?_)
            refine J.loadA (vs := cC xc) Ty.a40 Ty.s40 rfl rfl (fun w1 hw => rowG_at cC_length (vec_rowM hvk hw.2 (fun q hq => by first | (simp [hq]; done) | (simp at hq; simp [hq]; done) | (simp at hq; subst hq; simp))) hxc (by omega)) rfl ?_
            exact J.finP rfl
          · skip
            refine Fin.nil ?_
            refine J.move rfl rfl ?_
            exact J.finP rfl
          · skip
            refine Fin.nil ?_
            refine J.move rfl rfl ?_
            exact J.finP rfl
          · skip
            refine Fin.consE rfl (Fin.consE rfl (Fin.nil ?_))
            refine J.indexAddrS Ty.el34 Ty.s42 rfl rfl (by omega) (by omega) rfl ?_
            exact J.finP rfl
          · skip
            refine Fin.consE rfl (Fin.nil ?_)
            refine J.loadA (vs := cC xc) Ty.a42 Ty.s42 rfl rfl (fun w1 hw => rowG_at cC_length (vec_rowM hvq hw.2 (fun q hq => by first | (simp [hq]; done) | (simp at hq; simp [hq]; done) | (simp at hq; subst hq; simp))) hxc (by omega)) rfl ?_
            exact J.finP rfl
          · skip
            refine Fin.consE rfl (Fin.consE rfl (Fin.nil ?_))
            refine J.callD (v := .bool true) Ty.bd18 rfl rfl (fun w1 hw => same13_spec _ w1 hxok) ?_
            exact J.finQ rfl
          · skip
            refine Fin.consE rfl (Fin.nil ?_)
            refine J.not rfl rfl ?_
            exact J.finP rfl
        case htail =>
          refine Fin.consE rfl (Fin.consE rfl (Fin.consE rfl (Fin.consE rfl (Fin.consE rfl (Fin.consE rfl (Fin.consE rfl (Fin.consE rfl (Fin.consE rfl (Fin.consE rfl (Fin.nil ?_))))))))))
          refine J.nil ?_
          refine JX.thenN (hK15 _ _ ?_)
          first | refine JC.condF rfl ?_ | refine JC.cond rfl (fun h => by first | (exfalso; simp at h; omega) | (simp at h)) (fun _ => ?_)
          refine JC.skip ?_
          refine JX.blockN ?_
          refine JX.thenN (hK13 _ _ ?_)
          refine JC.region ?_
          (first | refine J.addN rfl rfl (by omega) (by omega) rfl ?_ | refine J.bin rfl rfl rfl rfl ?_)
          refine J.move rfl rfl ?_
          refine J.nil ?_
          refine JX.thenN ?_
          refine JX.again (i + 1) ?_ ?_ ?_
          · omega
          · exact ⟨rfl, rfl, rfl, rfl, trivial⟩
          · exact fun w1 hw => ⟨hlt, hw⟩
      · skip
        skip
        refine JC.exit ?_
        refine JX.thenE ?_
        refine JX.thenE ?_
        refine JX.blockE ?_
        refine JX.thenN (hK9 _ _ ?_)
        refine JC.seq (fun K16 hK16 => ?_)
        refine JC.region ?_
        refine J.assign rfl rfl ?_
        refine J.nil ?_
        refine JX.thenN (hK16 _ _ ?_)
        refine JC.ret ?_
        refine JX.ret1 rfl rfl (fun w hw => ?_)
        exact ⟨rfl, (hw.drop (List.nil_sublist _)).below⟩

theorem routeChooses_walk (w : World) (dc : List Value) (d : IDV) (hd : RId w dc d) (pc : List Value) (x : PlV) (hx : RPl w pc x) (hb : x.n.xs.length ≤ 1048576) :
    Calls Try.prog 3 [.agg dc.toArray, .agg pc.toArray].toArray w fun r w' => r = .returned (.bool true) ∧ Bel w w' := by
  cases hd
  exact routeChooses_spec d x.me x.n.v x.n.xs x.e.v x.e.xs w hx.row hb hx.ok (rslE hx.e) (rslE_ok hx.e) hx.len pc hx.cells
end Go.Proofs.Ytohldionclgljaa
