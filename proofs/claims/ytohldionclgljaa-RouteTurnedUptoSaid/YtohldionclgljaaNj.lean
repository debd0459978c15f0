/-
  RouteMore: the walk.
-/
import Derived.Test.YtohldionclgljaaNi
namespace Go.Proofs.Ytohldionclgljaa
open Go.J Go.RowKit
set_option linter.unusedVariables false
set_option linter.unusedSimpArgs false
set_option maxRecDepth 8000
theorem best_mem {d : IDV} : ∀ (l : List CV) (b : CV), bestV d l b = b ∨ bestV d l b ∈ l
  | [], b => .inl rfl
  | y :: l, b => by
    show bestV d l (if befV d y b = true then y else b) = b ∨ bestV d l (if befV d y b = true then y else b) ∈ y :: l
    rcases best_mem (d := d) l (if befV d y b = true then y else b) with h | h
    · rw [h]
      split
      · exact .inr (.head _)
      · exact .inl rfl
    · exact .inr (.tail _ h)
theorem choose_mem (d self : IDV) (ns : List NV) (es : List EV) : chooseV d self ns es ∈ knownV self ns es := by
  rcases best_mem (d := d) (ns.map nC ++ es.flatMap eC) (selfC self) with h | h
  · rw [show chooseV d self ns es = selfC self from h]; exact .head _
  · exact .tail _ h
theorem tadd_sub (L : List EV) (most : Int) (x : EV) : ∀ y, y ∈ L → y ∈ (tadd L most x).2 := by
  intro y hy
  rcases tadd_cases L most x with ⟨_, h, _⟩ | ⟨_, h, _⟩
  · rw [h]; exact List.mem_append_left _ hy
  · rw [h]; exact hy
theorem fold_sub (most : Int) : ∀ (l : List EV) (L : List EV), ∀ y, y ∈ L → y ∈ l.foldl (fun L x => (tadd L most x).2) L
  | [], _, _, hy => hy
  | x :: l, L, y, hy => fold_sub most l _ y (tadd_sub L most x y hy)
theorem laid_more (most : Int) (l m : List EV) : ∀ y, y ∈ laidL most l → y ∈ laidL most (l ++ m) := by
  intro y hy
  unfold laidL at *
  rw [List.foldl_append]
  exact fold_sub most m _ y hy
theorem known_sub {self : IDV} {ns : List NV} {es fs : List EV} (h : ∀ x, x ∈ es → x ∈ fs) : ∀ c, c ∈ knownV self ns es → c ∈ knownV self ns fs := by
  intro c hc
  rcases List.mem_append.1 hc with hc | hc
  · exact List.mem_append_left _ hc
  · obtain ⟨x, hx, h2⟩ := List.mem_flatMap.1 hc
    exact List.mem_append_right _ (List.mem_flatMap.2 ⟨x, h x hx, h2⟩)
theorem choose_more (d self : IDV) (ns : List NV) {es fs : List EV} (h : ∀ x, x ∈ es → x ∈ fs) : ¬ kN d (chooseV d self ns es).id < kN d (chooseV d self ns fs).id :=
  choose_min d self ns fs _ (known_sub h _ (choose_mem d self ns es))
theorem ord_more (l m : List EV) : ∀ x, x ∈ ordE (laidL 128 l) → x ∈ ordE (laidL 128 (l ++ m)) := fun x hx => (ordE_perm _).mem_iff.2 (laid_more 128 l m x ((ordE_perm _).mem_iff.1 hx))
theorem bulk_placeE {H : Type} {enc : TypeId × Value → H} {W : World} {cs : List Value} {x : PlV} {d : DataW H} {ps : List MemPlace} (hx : RPl W cs x) (h : DataW.Trod enc Try.prog W 0 (fun _ => true) true 27 (.agg cs.toArray) d ps) : x.n.xs.length ≤ Rows.uptoBulk d ∧ x.e.xs.length ≤ Rows.uptoBulk d := by
  refine ⟨bulk_place hx h, ?_⟩
  obtain ⟨fuel, hf⟩ := h
  obtain ⟨y, n, h1, h2⟩ := bulk_field fsPl hf 2 _ rfl
  refine Nat.le_trans (bulk_slice (a := x.e.a) (c := x.e.c) Ty.el25 ?_ h1) h2
  have := hx.cells
  subst this
  rfl
theorem bulk_ents {H : Type} {enc : TypeId × Value → H} {W : World} {o : Sl EV} {d : DataW H} {ps : List MemPlace} (ho : RSl 51 72 REnt W [o.v] o) (h : DataW.Trod enc Try.prog W 0 (fun _ => true) true 25 o.v d ps) : o.xs.length ≤ Rows.uptoBulk d := by
  obtain ⟨fuel, hf⟩ := h
  exact bulk_slice (a := o.a) (c := o.c) Ty.el25 rfl hf

set_option maxHeartbeats 1000000 in
theorem routeMore_spec (d : IDV) (self : IDV) (nv : Value) (ns : List NV) (ev : Value) (en : List EV) (w : World) (hr : Row w nv ns.length (fN ns)) (hnl : ns.length ≤ 1048576) (hns : ∀ x, x ∈ ns → okN x.n) (hre : Row w ev en.length (fE en)) (hok : ∀ x, x ∈ en → okE x) (hxl0 : en.length ≤ 1048576) (mv : Value) (mr : List EV) (hrm : Row w mv mr.length (fE mr)) (hokm : ∀ x, x ∈ mr → okE x) (hml : mr.length ≤ 1048576) (pc : List Value) (hpc : pc = cI self ++ [nv] ++ [ev]) :
    Calls Try.prog 8 [.agg (cI d).toArray, .agg pc.toArray, mv].toArray w fun r w' => r = .returned (.bool true) ∧ Bel w w' := by
  obtain ⟨an, cn, rfl, hcn, _⟩ := id hr
  obtain ⟨ae, ce, rfl, hce, _⟩ := id hre
  have hxl : en.length ≤ 1954687338213 := by omega
  obtain ⟨am, cm, rfl, hcm, _⟩ := id hrm
  refine calls_of_J (args := [.agg (cI d).toArray, .agg pc.toArray, .slice am mr.length cm]) (e := [(0, .agg (cI d).toArray), (1, .agg pc.toArray), (2, .slice am mr.length cm)]) Try.func8 rfl rfl ⟨rfl, rfl, rfl, trivial⟩ (St.start w) ?_
  refine JC.seq (fun K0 hK0 => ?_)
  refine JC.region ?_
  refine J.box rfl rfl rfl (fun b3 => ?_)
  refine J.box rfl rfl rfl (fun b4 => ?_)
  refine J.assign rfl rfl ?_
  refine J.nil ?_
  refine JX.thenN (hK0 _ _ ?_)
  refine JC.seq (fun K1 hK1 => ?_)
  subst hpc
  apply JC.drawX (α := Nat × Unit) 10 (fun x => match x with | ⟨x5, u5⟩ => [.pointer (some ⟨b4, 0 + 0, none⟩), .agg (cI self).toArray, .pointer (some ⟨b4, 0 + 16, none⟩), .slice an ns.length cn, .pointer (some ⟨b4, 0 + 17, none⟩), .slice ae en.length ce, .pointer (some ⟨x5, 0, none⟩), undef, .slice an ns.length cn, .slice ae en.length ce]) (fun m x => match x with | ⟨x5, u5⟩ => fun w1 => (m 7 = true → m 6 = true) ∧ St w [] ((b4, cb (cI self ++ [.slice an ns.length cn] ++ [.slice ae en.length ce]) 27) :: (b3, cb (cI d) 23) :: (bif m 6 then [(x5, cb (bif m 7 then cI self else cI zI) 23)] else [])) w1) Ty.mixed rfl rfl rfl (by kernel_rfl) rfl rfl ?hinit ?hstep ?htail
  case hinit => exact fun w1 hw => ⟨(0, ()), fun h => (by cases h), hw.drew⟩
  case hstep =>
    refine ⟨fun m x hm hp => ?_, fun m x hm hp => ?_, fun m x hm hp => ?_, fun m x hm hp => ?_, fun m x hm hp => ?_, fun m x hm hp => ?_, fun m x hm hp => ?_, fun m x hm hp => ?_, fun m x hm hp => ?_, fun m x hm hp => ?_, trivial⟩
    · skip
      obtain ⟨x5, u5⟩ := x
      show J _ _ _ _ _ (_) _
      refine J.pr (fun hF => ?_)
      refine J.fieldAddr Ty.fd27_0 rfl rfl ?_
      exact J.finX rfl (fun _ hw => ⟨⟨x5, u5⟩, rfl, fun _ _ _ => rfl, hF, hw⟩)
    · skip
      obtain ⟨x5, u5⟩ := x
      show J _ _ _ _ _ ((16, .pointer (some ⟨b4, 0 + 0, none⟩)) :: _) _
      refine J.pr (fun hF => ?_)
      refine J.loadA (vs := cI self) Ty.a23 Ty.s23 rfl rfl (fun w1 hw => Cells.of_block (hw.own _ (.head _)) rfl) rfl ?_
      exact J.finX rfl (fun _ hw => ⟨⟨x5, u5⟩, rfl, fun _ _ _ => rfl, hF, hw⟩)
    · skip
      obtain ⟨x5, u5⟩ := x
      show J _ _ _ _ _ (_) _
      refine J.pr (fun hF => ?_)
      refine J.fieldAddr Ty.fd27_1 rfl rfl ?_
      exact J.finX rfl (fun _ hw => ⟨⟨x5, u5⟩, rfl, fun _ _ _ => rfl, hF, hw⟩)
    · skip
      obtain ⟨x5, u5⟩ := x
      show J _ _ _ _ _ ((18, .pointer (some ⟨b4, 0 + 16, none⟩)) :: _) _
      refine J.pr (fun hF => ?_)
      refine J.load1 (v := .slice an ns.length cn) Ty.a24 rfl (fun w1 hw => by rw [cell_of (hw.own _ (.head _))]; rfl) rfl ?_
      exact J.finX rfl (fun _ hw => ⟨⟨x5, u5⟩, rfl, fun _ _ _ => rfl, hF, hw⟩)
    · skip
      obtain ⟨x5, u5⟩ := x
      show J _ _ _ _ _ (_) _
      refine J.pr (fun hF => ?_)
      refine J.fieldAddr Ty.fd27_2 rfl rfl ?_
      exact J.finX rfl (fun _ hw => ⟨⟨x5, u5⟩, rfl, fun _ _ _ => rfl, hF, hw⟩)
    · skip
      obtain ⟨x5, u5⟩ := x
      show J _ _ _ _ _ ((20, .pointer (some ⟨b4, 0 + 17, none⟩)) :: _) _
      refine J.pr (fun hF => ?_)
      refine J.load1 (v := .slice ae en.length ce) Ty.a25 rfl (fun w1 hw => by rw [cell_of (hw.own _ (.head _))]; rfl) rfl ?_
      exact J.finX rfl (fun _ hw => ⟨⟨x5, u5⟩, rfl, fun _ _ _ => rfl, hF, hw⟩)
    · skip
      obtain ⟨x5, u5⟩ := x
      show J _ _ _ _ _ (_) _
      refine J.pr (fun hF => ?_)
      have h7 : m 7 = false := by cases h : m 7 with
        | false => rfl
        | true => rw [hF h] at hm; cases hm
      refine J.alloc Ty.zID rfl rfl (fun b7 => ?_)
      refine J.nil (JX.finB rfl (fun w1 hw => ⟨⟨⟨b7, u5⟩, rfl, fun j h1 h2 => ?_, ?_⟩, trivial⟩))
      · match j, h1 with
        | 0, _ => (first | rfl | trivial)
        | 1, _ => (first | rfl | trivial)
        | 2, _ => (first | rfl | trivial)
        | 3, _ => (first | rfl | trivial)
        | 4, _ => (first | rfl | trivial)
        | 5, _ => (first | rfl | trivial)
        | 6, _ => exact absurd (h2.symm.trans hm) (by decide)
        | 7, _ => (first | rfl | trivial)
        | 8, _ => (first | rfl | trivial)
        | 9, _ => (first | rfl | trivial)
        | j + 10, h1 => omega
      show (m 7 = true → true = true) ∧ St w [] ((b4, cb (cI self ++ [.slice an ns.length cn] ++ [.slice ae en.length ce]) 27) :: (b3, cb (cI d) 23) :: (bif true then [(b7, cb (bif m 7 then cI self else cI zI) 23)] else [])) w1
      simp only [hm, h7, cond_true, cond_false] at hw ⊢
      exact ⟨fun _ => (by first | trivial | rfl), hw.perm (by (refine perm_cnt (fun _ => ?_)); simp only [cntB_append, cntB_cons, cntB_nil, Nat.add_zero, Nat.zero_add]; try ac_rfl)⟩
    · skip
      obtain ⟨x5, u5⟩ := x
      show J _ _ _ _ _ ((7, .pointer (some ⟨x5, 0, none⟩)) :: (17, .agg (cI self).toArray) :: (16, .pointer (some ⟨b4, 0 + 0, none⟩)) :: (17, .agg (cI self).toArray) :: (7, .pointer (some ⟨x5, 0, none⟩)) :: _) _
      have hp6 : m 6 = true := predsT hp (by kernel_rfl)
      have hp6 : m 6 = true := predsT hp (by kernel_rfl)
      refine J.pr (fun hF => ?_)
      refine J.conseq (I' := St w [] ((x5, cb (cI zI) 23) :: (b4, cb (cI self ++ [.slice an ns.length cn] ++ [.slice ae en.length ce]) 27) :: (b3, cb (cI d) 23) :: [])) ?_ (fun w1 hw => by simp only [hm, hp6, cond_true, cond_false] at hw; exact hw.perm (by (refine perm_cnt (fun _ => ?_)); simp only [cntB_append, cntB_cons, cntB_nil, Nat.add_zero, Nat.zero_add]; try ac_rfl))
      refine J.storeW (cs := cI zI) (vs := cI self) Ty.s23 rfl rfl rfl rfl rfl (one_cI _) .here ?_
      refine J.nil (JX.finN undef (fun w1 hw => ⟨⟨x5, u5⟩, rfl, fun j h1 h2 => ?_, ?_⟩))
      · match j, h1 with
        | 0, _ => (first | rfl | trivial)
        | 1, _ => (first | rfl | trivial)
        | 2, _ => (first | rfl | trivial)
        | 3, _ => (first | rfl | trivial)
        | 4, _ => (first | rfl | trivial)
        | 5, _ => (first | rfl | trivial)
        | 6, _ => (first | rfl | trivial)
        | 7, _ => (first | rfl | trivial)
        | 8, _ => (first | rfl | trivial)
        | 9, _ => (first | rfl | trivial)
        | j + 10, h1 => omega
      show (true = true → m 6 = true) ∧ St w [] ((b4, cb (cI self ++ [.slice an ns.length cn] ++ [.slice ae en.length ce]) 27) :: (b3, cb (cI d) 23) :: (bif m 6 then [(x5, cb (bif true then cI self else cI zI) 23)] else [])) w1
      simp only [hm, hp6, cond_true, cond_false] at hw ⊢
      exact ⟨fun _ => (by first | trivial | rfl), hw.perm (by (refine perm_cnt (fun _ => ?_)); simp only [cntB_append, cntB_cons, cntB_nil, Nat.add_zero, Nat.zero_add]; try ac_rfl)⟩
    · skip
      obtain ⟨x5, u5⟩ := x
      show J _ _ _ _ _ ((7, .pointer (some ⟨x5, 0, none⟩)) :: (19, .slice an ns.length cn) :: (18, .pointer (some ⟨b4, 0 + 16, none⟩)) :: (17, .agg (cI self).toArray) :: (16, .pointer (some ⟨b4, 0 + 0, none⟩)) :: (19, .slice an ns.length cn) :: _) _
      have hp7 : m 7 = true := predsT hp (by kernel_rfl)
      have hp6 : m 6 = true := predsT hp (by kernel_rfl)
      have hp7 : m 7 = true := predsT hp (by kernel_rfl)
      refine J.pr (fun hF => ?_)
      refine J.assign rfl rfl ?_
      exact J.finX rfl (fun _ hw => ⟨⟨x5, u5⟩, rfl, fun _ _ _ => rfl, hF, hw⟩)
    · skip
      obtain ⟨x5, u5⟩ := x
      show J _ _ _ _ _ ((8, .slice an ns.length cn) :: (7, .pointer (some ⟨x5, 0, none⟩)) :: (21, .slice ae en.length ce) :: (20, .pointer (some ⟨b4, 0 + 17, none⟩)) :: (19, .slice an ns.length cn) :: (18, .pointer (some ⟨b4, 0 + 16, none⟩)) :: (17, .agg (cI self).toArray) :: (16, .pointer (some ⟨b4, 0 + 0, none⟩)) :: (8, .slice an ns.length cn) :: (21, .slice ae en.length ce) :: _) _
      have hp6 : m 6 = true := predsT hp (by kernel_rfl)
      have hp7 : m 7 = true := predsT hp (by kernel_rfl)
      refine J.pr (fun hF => ?_)
      refine J.assign rfl rfl ?_
      exact J.finX rfl (fun _ hw => ⟨⟨x5, u5⟩, rfl, fun _ _ _ => rfl, hF, hw⟩)
  case htail =>
    intro x
    obtain ⟨x5, u5⟩ := x
    show J _ _ _ _ _ ((9, .slice ae en.length ce) :: (8, .slice an ns.length cn) :: (7, .pointer (some ⟨x5, 0, none⟩)) :: (21, .slice ae en.length ce) :: (20, .pointer (some ⟨b4, 0 + 17, none⟩)) :: (19, .slice an ns.length cn) :: (18, .pointer (some ⟨b4, 0 + 16, none⟩)) :: (17, .agg (cI self).toArray) :: (16, .pointer (some ⟨b4, 0 + 0, none⟩)) :: _) (fun w1 => (true = true → true = true) ∧ St w [] ((b4, cb (cI self ++ [.slice an ns.length cn] ++ [.slice ae en.length ce]) 27) :: (b3, cb (cI d) 23) :: (bif true then [(x5, cb (bif true then cI self else cI zI) 23)] else [])) w1)
    refine J.pr (fun hF => ?_)
    refine J.conseq (I' := St w [] ((b4, cb (cI self ++ [.slice an ns.length cn] ++ [.slice ae en.length ce]) 27) :: (b3, cb (cI d) 23) :: (x5, cb (cI self) 23) :: [])) ?_ (fun w1 hw => by simp only [cond_true] at hw; exact hw)
    refine J.nil ?_
    refine JX.thenN (hK1 _ _ ?_)
    refine JC.seq (fun K2 hK2 => ?_)
    refine JC.region ?_
    refine J.move rfl rfl ?_
    refine J.perm ([] ++ ((b4, cb (cI self ++ [.slice an ns.length cn] ++ [.slice ae en.length ce]) 27) :: (b3, cb (cI d) 23) :: (x5, cb (cI self) 23) :: [])) (.refl _) ?_
    refine J.callS (α := LaidS) (V := fun x => .tuple #[.pointer (some ⟨x.t1, 0, none⟩), x.vr]) (Pr := fun x => Tab (laidL 128 (en)) x.es x.ck ∧ Vec 55 51 x.vr (ordE (laidL 128 (en))).length (fE (ordE (laidL 128 (en)))) x.lr) (L := fun x => x.blk 128) (l1 := []) Ty.bd14 rfl rfl (fun w1 hw => laid13_spec _ (en) w1 (hre.below (hw.drop (List.nil_sublist _)).below) hok hxl) (fun x hx9 => ?_)
    obtain ⟨t1, m1, rt, es, ck, vr, lr⟩ := x
    obtain ⟨hT, hvr⟩ := hx9
    simp only [LaidS.blk, List.cons_append] at hT hvr ⊢
    have hgood := (laidL_good 128 en).len
    have hl128 : (laidL 128 en).length ≤ 128 := by omega
    have hol := (ordE_perm (laidL 128 en)).length_eq
    have ho128 : (ordE (laidL 128 en)).length ≤ 128 := by omega
    refine J.perm ((t1, tabO 128 m1) :: (m1, .map es ck) :: (rt, rtabO vr 128) :: (x5, cb (cI self) 23) :: (b4, cb (cI self ++ [.slice an ns.length cn] ++ [.slice ae en.length ce]) 27) :: (b3, cb (cI d) 23) :: lr) (by (refine perm_cnt (fun _ => ?_)); simp only [cntB_append, cntB_cons, cntB_nil, Nat.add_zero, Nat.zero_add]; try ac_rfl) ?_
    refine J.move rfl rfl ?_
    refine J.extract rfl rfl rfl ?_
    refine J.extract rfl rfl rfl ?_
    refine J.assign rfl rfl ?_
    refine J.assign rfl rfl ?_
    refine J.nil ?_
    refine JX.thenN (hK2 _ _ ?_)
    refine JC.seq (fun K3 hK3 => ?_)
    refine JC.region ?_
    refine J.buildSl (cs := []) Ty.el25 Ty.s55 Ty.zE_ rfl rfl rfl rfl rfl rfl rfl (fun b28 => ?_)
    refine J.move rfl rfl ?_
    refine J.perm ([(b28, cb [] 55)] ++ ((t1, tabO 128 m1) :: (m1, .map es ck) :: (rt, rtabO vr 128) :: (x5, cb (cI self) 23) :: (b4, cb (cI self ++ [.slice an ns.length cn] ++ [.slice ae en.length ce]) 27) :: (b3, cb (cI d) 23) :: lr)) (by (refine perm_cnt (fun _ => ?_)); simp only [cntB_append, cntB_cons, cntB_nil, Nat.add_zero, Nat.zero_add]; try ac_rfl) ?_
    refine J.append (lp := [(b28, cb [] 55)]) (xs := []) (ys := fE en) (k := 0) (m := en.length) Ty.el25 Ty.s55 Ty.b55 Ty.zE_ rfl (.inl ⟨55, Ty.u25⟩) rfl rfl ⟨rfl, .inr ⟨b28, 0, [], rfl, rfl, rfl, Nat.le_refl _⟩⟩ (fun w3 hw3 => .inl (hre.below (hw3.drop (List.nil_sublist _)).below)) (fE_length _) (fun y hy => fE_one hy) (by omega) (by omega) rfl (fun va la hva => ?_)
    rw [Nat.zero_add, List.nil_append] at hva
    refine J.move rfl rfl ?_
    refine J.perm (la ++ ((t1, tabO 128 m1) :: (m1, .map es ck) :: (rt, rtabO vr 128) :: (x5, cb (cI self) 23) :: (b4, cb (cI self ++ [.slice an ns.length cn] ++ [.slice ae en.length ce]) 27) :: (b3, cb (cI d) 23) :: lr)) (by (refine perm_cnt (fun _ => ?_)); simp only [cntB_append, cntB_cons, cntB_nil, Nat.add_zero, Nat.zero_add]; try ac_rfl) ?_
    refine J.append (lp := la) (xs := fE en) (ys := fE mr) (k := en.length) (m := mr.length) Ty.el25 Ty.s55 Ty.b55 Ty.zE_ rfl (.inl ⟨55, Ty.u25⟩) rfl rfl hva (fun w3 hw3 => .inl (hrm.below (hw3.drop (List.nil_sublist _)).below)) (fE_length _) (fun y hy => fE_one hy) (by omega) (by omega) rfl (fun vb lb hvb => ?_)
    replace hvb : Vec 55 51 vb (en ++ mr).length (fE (en ++ mr)) lb := by
      rw [List.length_append, show fE (en ++ mr) = fE en ++ fE mr from List.flatMap_append]; exact hvb
    refine J.perm ([] ++ (lb ++ ((t1, tabO 128 m1) :: (m1, .map es ck) :: (rt, rtabO vr 128) :: (x5, cb (cI self) 23) :: (b4, cb (cI self ++ [.slice an ns.length cn] ++ [.slice ae en.length ce]) 27) :: (b3, cb (cI d) 23) :: lr))) (.refl _) ?_
    refine J.callS (α := LaidS) (V := fun x => .tuple #[.pointer (some ⟨x.t1, 0, none⟩), x.vr]) (Pr := fun x => Tab (laidL 128 ((en ++ mr))) x.es x.ck ∧ Vec 55 51 x.vr (ordE (laidL 128 ((en ++ mr)))).length (fE (ordE (laidL 128 ((en ++ mr))))) x.lr) (L := fun x => x.blk 128) (l1 := []) Ty.bd14 rfl rfl (fun w1 hw => laid13_spec _ ((en ++ mr)) w1 (vec_rowM hvb hw (fun q hq => by first | (simp [hq]; done) | (simp at hq; simp [hq]; done) | (simp at hq; subst hq; simp))) (fun x hx => (List.mem_append.1 hx).elim (hok x) (hokm x)) (by rw [List.length_append]; omega)) (fun x hx9 => ?_)
    obtain ⟨t2, m2, rt2, es2, ck2, vr2, lr2⟩ := x
    obtain ⟨hT2, hvr2⟩ := hx9
    simp only [LaidS.blk, List.cons_append] at hT2 hvr2 ⊢
    have hgood2 := (laidL_good 128 (en ++ mr)).len
    have hl2 : (laidL 128 (en ++ mr)).length ≤ 128 := by omega
    have hol2 := (ordE_perm (laidL 128 (en ++ mr))).length_eq
    have ho22 : (ordE (laidL 128 (en ++ mr))).length ≤ 128 := by omega
    refine J.perm ((t1, tabO 128 m1) :: (m1, .map es ck) :: (rt, rtabO vr 128) :: (t2, tabO 128 m2) :: (m2, .map es2 ck2) :: (rt2, rtabO vr2 128) :: (x5, cb (cI self) 23) :: (b4, cb (cI self ++ [.slice an ns.length cn] ++ [.slice ae en.length ce]) 27) :: (b3, cb (cI d) 23) :: (lr ++ (lr2 ++ lb))) (by (refine perm_cnt (fun _ => ?_)); simp only [cntB_append, cntB_cons, cntB_nil, Nat.add_zero, Nat.zero_add]; try ac_rfl) ?_
    refine J.move rfl rfl ?_
    refine J.extract rfl rfl rfl ?_
    refine J.extract rfl rfl rfl ?_
    refine J.assign rfl rfl ?_
    refine J.assign rfl rfl ?_
    refine J.nil ?_
    refine JX.thenN (hK3 _ _ ?_)
    refine JC.seq (fun K4 hK4 => ?_)
    refine JC.seq (fun K5 hK5 => ?_)
    by_cases h128 : 128 ≤ (laidL 128 en).length
    · skip
      refine JC.region ?_
      refine J.move rfl rfl ?_
      refine J.eqNil Ty.u28 rfl rfl rfl ?_
      refine J.move rfl rfl ?_
      first | refine J.skip rfl rfl rfl rfl rfl ?_ | refine J.skipU rfl rfl rfl rfl ?_ | (refine J.unguard rfl rfl rfl ?_; refine J.move rfl rfl ?_)
      refine J.unguard rfl rfl rfl ?_
      refine J.callB (v := .int .i64 (((laidL 128 en).length : Nat) : Int)) (fun w1 w2 hw hb => hw.step hb) Ty.bd27 rfl rfl (fun w1 hw => len_spec t1 m1 128 (laidL 128 en) es ck w1 (St.owns (l1 := [(t1, tabO 128 m1), (m1, .map es ck)]) hw) hT) ?_
      refine J.unguard rfl rfl rfl ?_
      refine J.bin rfl rfl rfl rfl ?_
      refine J.name 41 rfl (show _ = Value.bool true by simp; omega) ?_
      (first | refine J.pickT rfl rfl rfl ?_ | refine J.pickF rfl rfl rfl ?_)
      refine J.nil ?_
      refine JX.thenN (hK5 _ _ ?_)
      first | refine JC.condT rfl ?_ | refine JC.cond rfl (fun _ => ?_) (fun h => by first | (exfalso; simp at h; omega) | (simp at h))
      refine JC.seq (fun K6 hK6 => ?_)
      refine JC.region ?_
      refine J.callB (v := .bool true) (fun w1 w2 hw hb => hw.step hb) Ty.bd15 rfl rfl (fun w1 hw => fixed13_spec w1) ?_
      refine J.assign rfl rfl ?_
      refine J.nil ?_
      refine JX.thenN (hK6 _ _ ?_)
      refine JC.ret ?_
      refine JX.thenR ?_
      refine JX.ret1 rfl rfl (fun w hw => ?_)
      exact ⟨rfl, (hw.drop (List.nil_sublist _)).below⟩
    · skip
      refine JC.region ?_
      refine J.move rfl rfl ?_
      refine J.eqNil Ty.u28 rfl rfl rfl ?_
      refine J.move rfl rfl ?_
      first | refine J.skip rfl rfl rfl rfl rfl ?_ | refine J.skipU rfl rfl rfl rfl ?_ | (refine J.unguard rfl rfl rfl ?_; refine J.move rfl rfl ?_)
      refine J.unguard rfl rfl rfl ?_
      refine J.callB (v := .int .i64 (((laidL 128 en).length : Nat) : Int)) (fun w1 w2 hw hb => hw.step hb) Ty.bd27 rfl rfl (fun w1 hw => len_spec t1 m1 128 (laidL 128 en) es ck w1 (St.owns (l1 := [(t1, tabO 128 m1), (m1, .map es ck)]) hw) hT) ?_
      refine J.unguard rfl rfl rfl ?_
      refine J.bin rfl rfl rfl rfl ?_
      refine J.name 41 rfl (show _ = Value.bool false by simp; omega) ?_
      (first | refine J.pickT rfl rfl rfl ?_ | refine J.pickF rfl rfl rfl ?_)
      refine J.nil ?_
      refine JX.thenN (hK5 _ _ ?_)
      first | refine JC.condF rfl ?_ | refine JC.cond rfl (fun h => by first | (exfalso; simp at h; omega) | (simp at h)) (fun _ => ?_)
      refine JC.skip ?_
      refine JX.thenN (hK4 _ _ ?_)
      refine JC.seq (fun K7 hK7 => ?_)
      apply JC.drawX (α := Nat × Nat) 14 (fun x => match x with | ⟨x14, x15⟩ => [.agg (cI d).toArray, .agg (cI self).toArray, .slice an ns.length cn, .pointer (some ⟨t1, 0, none⟩), .agg (cC (chooseV d self ns (ordE (laidL 128 en)))).toArray, .agg (cI d).toArray, .agg (cI self).toArray, .slice an ns.length cn, .pointer (some ⟨t2, 0, none⟩), .agg (cC (chooseV d self ns (ordE (laidL 128 (en ++ mr))))).toArray, .pointer (some ⟨x14, 0, none⟩), .pointer (some ⟨x15, 0, none⟩), undef, undef]) (fun m x => match x with | ⟨x14, x15⟩ => fun w1 => ((m 12 = true → m 10 = true) ∧ (m 13 = true → m 11 = true)) ∧ St w [] ((t1, tabO 128 m1) :: (m1, .map es ck) :: (rt, rtabO vr 128) :: (t2, tabO 128 m2) :: (m2, .map es2 ck2) :: (rt2, rtabO vr2 128) :: (x5, cb (cI self) 23) :: (b4, cb (cI self ++ [.slice an ns.length cn] ++ [.slice ae en.length ce]) 27) :: (b3, cb (cI d) 23) :: (lr ++ (lr2 ++ ((bif m 10 then [(x14, cb (cC (bif m 12 then (chooseV d self ns (ordE (laidL 128 en))) else zC)) 40)] else []) ++ ((bif m 11 then [(x15, cb (cC (bif m 13 then (chooseV d self ns (ordE (laidL 128 (en ++ mr)))) else zC)) 40)] else []) ++ lb))))) w1) Ty.mixed rfl rfl rfl (by kernel_rfl) rfl rfl ?hinit ?hstep ?htail
      case hinit => exact fun w1 hw => ⟨(0, 0), ⟨fun h => (by cases h), fun h => (by cases h)⟩, hw.drew⟩
      case hstep =>
        refine ⟨fun m x hm hp => ?_, fun m x hm hp => ?_, fun m x hm hp => ?_, fun m x hm hp => ?_, fun m x hm hp => ?_, fun m x hm hp => ?_, fun m x hm hp => ?_, fun m x hm hp => ?_, fun m x hm hp => ?_, fun m x hm hp => ?_, fun m x hm hp => ?_, fun m x hm hp => ?_, fun m x hm hp => ?_, fun m x hm hp => ?_, trivial⟩
        · skip
          obtain ⟨x14, x15⟩ := x
          show J _ _ _ _ _ (_) _
          refine J.pr (fun hF => ?_)
          refine J.loadA (vs := cI d) Ty.a23 Ty.s23 rfl rfl (fun w1 hw => Cells.of_block (hw.own _ (.tail _ (.tail _ (.tail _ (.tail _ (.tail _ (.tail _ (.tail _ (.tail _ (.head _)))))))))) rfl) rfl ?_
          exact J.finX rfl (fun _ hw => ⟨⟨x14, x15⟩, rfl, fun _ _ _ => rfl, hF, hw⟩)
        · skip
          obtain ⟨x14, x15⟩ := x
          show J _ _ _ _ _ (_) _
          refine J.pr (fun hF => ?_)
          refine J.loadA (vs := cI self) Ty.a23 Ty.s23 rfl rfl (fun w1 hw => Cells.of_block (hw.own _ (.tail _ (.tail _ (.tail _ (.tail _ (.tail _ (.tail _ (.head _)))))))) rfl) rfl ?_
          exact J.finX rfl (fun _ hw => ⟨⟨x14, x15⟩, rfl, fun _ _ _ => rfl, hF, hw⟩)
        · skip
          obtain ⟨x14, x15⟩ := x
          show J _ _ _ _ _ (_) _
          refine J.pr (fun hF => ?_)
          refine J.move rfl rfl ?_
          exact J.finX rfl (fun _ hw => ⟨⟨x14, x15⟩, rfl, fun _ _ _ => rfl, hF, hw⟩)
        · skip
          obtain ⟨x14, x15⟩ := x
          show J _ _ _ _ _ (_) _
          refine J.pr (fun hF => ?_)
          refine J.move rfl rfl ?_
          exact J.finX rfl (fun _ hw => ⟨⟨x14, x15⟩, rfl, fun _ _ _ => rfl, hF, hw⟩)
        · skip
          obtain ⟨x14, x15⟩ := x
          show J _ _ _ _ _ ((47, .pointer (some ⟨t1, 0, none⟩)) :: (46, .slice an ns.length cn) :: (45, .agg (cI self).toArray) :: (44, .agg (cI d).toArray) :: _) _
          refine J.pr (fun hF => ?_)
          refine J.callB (v := .agg (cC (chooseV d self ns (ordE (laidL 128 en)))).toArray) (fun w1 w2 hw hb => hw.step hb) Ty.bd19 rfl rfl (fun w1 hw => choose_spec t1 m1 128 (laidL 128 en) es ck w1 (hw.own _ (.head _)) (hw.own _ (.tail _ (.head _))) hT hl128 d self _ ns (hr.below (hw.drop (List.nil_sublist _)).below) hnl hns) ?_
          exact J.finX rfl (fun _ hw => ⟨⟨x14, x15⟩, rfl, fun _ _ _ => rfl, hF, hw⟩)
        · skip
          obtain ⟨x14, x15⟩ := x
          show J _ _ _ _ _ (_) _
          refine J.pr (fun hF => ?_)
          refine J.loadA (vs := cI d) Ty.a23 Ty.s23 rfl rfl (fun w1 hw => Cells.of_block (hw.own _ (.tail _ (.tail _ (.tail _ (.tail _ (.tail _ (.tail _ (.tail _ (.tail _ (.head _)))))))))) rfl) rfl ?_
          exact J.finX rfl (fun _ hw => ⟨⟨x14, x15⟩, rfl, fun _ _ _ => rfl, hF, hw⟩)
        · skip
          obtain ⟨x14, x15⟩ := x
          show J _ _ _ _ _ (_) _
          refine J.pr (fun hF => ?_)
          refine J.loadA (vs := cI self) Ty.a23 Ty.s23 rfl rfl (fun w1 hw => Cells.of_block (hw.own _ (.tail _ (.tail _ (.tail _ (.tail _ (.tail _ (.tail _ (.head _)))))))) rfl) rfl ?_
          exact J.finX rfl (fun _ hw => ⟨⟨x14, x15⟩, rfl, fun _ _ _ => rfl, hF, hw⟩)
        · skip
          obtain ⟨x14, x15⟩ := x
          show J _ _ _ _ _ (_) _
          refine J.pr (fun hF => ?_)
          refine J.move rfl rfl ?_
          exact J.finX rfl (fun _ hw => ⟨⟨x14, x15⟩, rfl, fun _ _ _ => rfl, hF, hw⟩)
        · skip
          obtain ⟨x14, x15⟩ := x
          show J _ _ _ _ _ (_) _
          refine J.pr (fun hF => ?_)
          refine J.move rfl rfl ?_
          exact J.finX rfl (fun _ hw => ⟨⟨x14, x15⟩, rfl, fun _ _ _ => rfl, hF, hw⟩)
        · skip
          obtain ⟨x14, x15⟩ := x
          show J _ _ _ _ _ ((48, .agg (cC (chooseV d self ns (ordE (laidL 128 en)))).toArray) :: (52, .pointer (some ⟨t2, 0, none⟩)) :: (51, .slice an ns.length cn) :: (50, .agg (cI self).toArray) :: (49, .agg (cI d).toArray) :: _) _
          refine J.pr (fun hF => ?_)
          refine J.callB (v := .agg (cC (chooseV d self ns (ordE (laidL 128 (en ++ mr))))).toArray) (fun w1 w2 hw hb => hw.step hb) Ty.bd19 rfl rfl (fun w1 hw => choose_spec t2 m2 128 (laidL 128 (en ++ mr)) es2 ck2 w1 (hw.own _ (.tail _ (.tail _ (.tail _ (.head _))))) (hw.own _ (.tail _ (.tail _ (.tail _ (.tail _ (.head _)))))) hT2 hl2 d self _ ns (hr.below (hw.drop (List.nil_sublist _)).below) hnl hns) ?_
          exact J.finX rfl (fun _ hw => ⟨⟨x14, x15⟩, rfl, fun _ _ _ => rfl, hF, hw⟩)
        · skip
          obtain ⟨x14, x15⟩ := x
          show J _ _ _ _ _ (_) _
          refine J.pr (fun hF => ?_)
          have h12 : m 12 = false := by cases h : m 12 with
            | false => rfl
            | true => rw [hF.1 h] at hm; cases hm
          refine J.alloc zC40 rfl rfl (fun b14 => ?_)
          refine J.nil (JX.finB rfl (fun w1 hw => ⟨⟨⟨b14, x15⟩, rfl, fun j h1 h2 => ?_, ?_⟩, trivial⟩))
          · match j, h1 with
            | 0, _ => (first | rfl | trivial)
            | 1, _ => (first | rfl | trivial)
            | 2, _ => (first | rfl | trivial)
            | 3, _ => (first | rfl | trivial)
            | 4, _ => (first | rfl | trivial)
            | 5, _ => (first | rfl | trivial)
            | 6, _ => (first | rfl | trivial)
            | 7, _ => (first | rfl | trivial)
            | 8, _ => (first | rfl | trivial)
            | 9, _ => (first | rfl | trivial)
            | 10, _ => exact absurd (h2.symm.trans hm) (by decide)
            | 11, _ => (first | rfl | trivial)
            | 12, _ => (first | rfl | trivial)
            | 13, _ => (first | rfl | trivial)
            | j + 14, h1 => omega
          show ((m 12 = true → true = true) ∧ (m 13 = true → m 11 = true)) ∧ St w [] ((t1, tabO 128 m1) :: (m1, .map es ck) :: (rt, rtabO vr 128) :: (t2, tabO 128 m2) :: (m2, .map es2 ck2) :: (rt2, rtabO vr2 128) :: (x5, cb (cI self) 23) :: (b4, cb (cI self ++ [.slice an ns.length cn] ++ [.slice ae en.length ce]) 27) :: (b3, cb (cI d) 23) :: (lr ++ (lr2 ++ ((bif true then [(b14, cb (cC (bif m 12 then (chooseV d self ns (ordE (laidL 128 en))) else zC)) 40)] else []) ++ ((bif m 11 then [(x15, cb (cC (bif m 13 then (chooseV d self ns (ordE (laidL 128 (en ++ mr)))) else zC)) 40)] else []) ++ lb))))) w1
          simp only [hm, h12, cond_true, cond_false] at hw ⊢
          exact ⟨⟨fun _ => (by first | trivial | rfl), hF.2⟩, hw.perm (by (refine perm_cnt (fun _ => ?_)); simp only [cntB_append, cntB_cons, cntB_nil, Nat.add_zero, Nat.zero_add]; try ac_rfl)⟩
        · skip
          obtain ⟨x14, x15⟩ := x
          show J _ _ _ _ _ (_) _
          refine J.pr (fun hF => ?_)
          have h13 : m 13 = false := by cases h : m 13 with
            | false => rfl
            | true => rw [hF.2 h] at hm; cases hm
          refine J.alloc zC40 rfl rfl (fun b15 => ?_)
          refine J.nil (JX.finB rfl (fun w1 hw => ⟨⟨⟨x14, b15⟩, rfl, fun j h1 h2 => ?_, ?_⟩, trivial⟩))
          · match j, h1 with
            | 0, _ => (first | rfl | trivial)
            | 1, _ => (first | rfl | trivial)
            | 2, _ => (first | rfl | trivial)
            | 3, _ => (first | rfl | trivial)
            | 4, _ => (first | rfl | trivial)
            | 5, _ => (first | rfl | trivial)
            | 6, _ => (first | rfl | trivial)
            | 7, _ => (first | rfl | trivial)
            | 8, _ => (first | rfl | trivial)
            | 9, _ => (first | rfl | trivial)
            | 10, _ => (first | rfl | trivial)
            | 11, _ => exact absurd (h2.symm.trans hm) (by decide)
            | 12, _ => (first | rfl | trivial)
            | 13, _ => (first | rfl | trivial)
            | j + 14, h1 => omega
          show ((m 12 = true → m 10 = true) ∧ (m 13 = true → true = true)) ∧ St w [] ((t1, tabO 128 m1) :: (m1, .map es ck) :: (rt, rtabO vr 128) :: (t2, tabO 128 m2) :: (m2, .map es2 ck2) :: (rt2, rtabO vr2 128) :: (x5, cb (cI self) 23) :: (b4, cb (cI self ++ [.slice an ns.length cn] ++ [.slice ae en.length ce]) 27) :: (b3, cb (cI d) 23) :: (lr ++ (lr2 ++ ((bif m 10 then [(x14, cb (cC (bif m 12 then (chooseV d self ns (ordE (laidL 128 en))) else zC)) 40)] else []) ++ ((bif true then [(b15, cb (cC (bif m 13 then (chooseV d self ns (ordE (laidL 128 (en ++ mr)))) else zC)) 40)] else []) ++ lb))))) w1
          simp only [hm, h13, cond_true, cond_false] at hw ⊢
          exact ⟨⟨hF.1, fun _ => (by first | trivial | rfl)⟩, hw.perm (by (refine perm_cnt (fun _ => ?_)); simp only [cntB_append, cntB_cons, cntB_nil, Nat.add_zero, Nat.zero_add]; try ac_rfl)⟩
        · skip
          obtain ⟨x14, x15⟩ := x
          show J _ _ _ _ _ ((15, .pointer (some ⟨x15, 0, none⟩)) :: (14, .pointer (some ⟨x14, 0, none⟩)) :: (48, .agg (cC (chooseV d self ns (ordE (laidL 128 en)))).toArray) :: (47, .pointer (some ⟨t1, 0, none⟩)) :: (46, .slice an ns.length cn) :: (45, .agg (cI self).toArray) :: (44, .agg (cI d).toArray) :: (53, .agg (cC (chooseV d self ns (ordE (laidL 128 (en ++ mr))))).toArray) :: (48, .agg (cC (chooseV d self ns (ordE (laidL 128 en)))).toArray) :: (14, .pointer (some ⟨x14, 0, none⟩)) :: _) _
          have hp10 : m 10 = true := predsT hp (by kernel_rfl)
          have hp10 : m 10 = true := predsT hp (by kernel_rfl)
          have hp11 : m 11 = true := predsT hp (by kernel_rfl)
          refine J.pr (fun hF => ?_)
          refine J.conseq (I' := St w [] ((x14, cb (cC zC) 40) :: (t1, tabO 128 m1) :: (m1, .map es ck) :: (rt, rtabO vr 128) :: (t2, tabO 128 m2) :: (m2, .map es2 ck2) :: (rt2, rtabO vr2 128) :: (x5, cb (cI self) 23) :: (b4, cb (cI self ++ [.slice an ns.length cn] ++ [.slice ae en.length ce]) 27) :: (b3, cb (cI d) 23) :: (lr ++ (lr2 ++ (lb ++ ((bif m 11 then [(x15, cb (cC (bif m 13 then (chooseV d self ns (ordE (laidL 128 (en ++ mr)))) else zC)) 40)] else []))))))) ?_ (fun w1 hw => by simp only [hm, hp10, cond_true, cond_false] at hw; exact hw.perm (by (refine perm_cnt (fun _ => ?_)); simp only [cntB_append, cntB_cons, cntB_nil, Nat.add_zero, Nat.zero_add]; try ac_rfl))
          refine J.storeW (cs := cC zC) (vs := cC (chooseV d self ns (ordE (laidL 128 en)))) Ty.s40 rfl rfl rfl rfl rfl (one_cC _) .here ?_
          refine J.nil (JX.finN undef (fun w1 hw => ⟨⟨x14, x15⟩, rfl, fun j h1 h2 => ?_, ?_⟩))
          · match j, h1 with
            | 0, _ => (first | rfl | trivial)
            | 1, _ => (first | rfl | trivial)
            | 2, _ => (first | rfl | trivial)
            | 3, _ => (first | rfl | trivial)
            | 4, _ => (first | rfl | trivial)
            | 5, _ => (first | rfl | trivial)
            | 6, _ => (first | rfl | trivial)
            | 7, _ => (first | rfl | trivial)
            | 8, _ => (first | rfl | trivial)
            | 9, _ => (first | rfl | trivial)
            | 10, _ => (first | rfl | trivial)
            | 11, _ => (first | rfl | trivial)
            | 12, _ => (first | rfl | trivial)
            | 13, _ => (first | rfl | trivial)
            | j + 14, h1 => omega
          show ((true = true → m 10 = true) ∧ (m 13 = true → m 11 = true)) ∧ St w [] ((t1, tabO 128 m1) :: (m1, .map es ck) :: (rt, rtabO vr 128) :: (t2, tabO 128 m2) :: (m2, .map es2 ck2) :: (rt2, rtabO vr2 128) :: (x5, cb (cI self) 23) :: (b4, cb (cI self ++ [.slice an ns.length cn] ++ [.slice ae en.length ce]) 27) :: (b3, cb (cI d) 23) :: (lr ++ (lr2 ++ ((bif m 10 then [(x14, cb (cC (bif true then (chooseV d self ns (ordE (laidL 128 en))) else zC)) 40)] else []) ++ ((bif m 11 then [(x15, cb (cC (bif m 13 then (chooseV d self ns (ordE (laidL 128 (en ++ mr)))) else zC)) 40)] else []) ++ lb))))) w1
          simp only [hm, hp10, cond_true, cond_false] at hw ⊢
          exact ⟨⟨fun _ => (by first | trivial | rfl), hF.2⟩, hw.perm (by (refine perm_cnt (fun _ => ?_)); simp only [cntB_append, cntB_cons, cntB_nil, Nat.add_zero, Nat.zero_add]; try ac_rfl)⟩
        · skip
          obtain ⟨x14, x15⟩ := x
          show J _ _ _ _ _ ((15, .pointer (some ⟨x15, 0, none⟩)) :: (14, .pointer (some ⟨x14, 0, none⟩)) :: (53, .agg (cC (chooseV d self ns (ordE (laidL 128 (en ++ mr))))).toArray) :: (52, .pointer (some ⟨t2, 0, none⟩)) :: (51, .slice an ns.length cn) :: (50, .agg (cI self).toArray) :: (49, .agg (cI d).toArray) :: (48, .agg (cC (chooseV d self ns (ordE (laidL 128 en)))).toArray) :: (47, .pointer (some ⟨t1, 0, none⟩)) :: (46, .slice an ns.length cn) :: (45, .agg (cI self).toArray) :: (44, .agg (cI d).toArray) :: (53, .agg (cC (chooseV d self ns (ordE (laidL 128 (en ++ mr))))).toArray) :: (15, .pointer (some ⟨x15, 0, none⟩)) :: _) _
          have hp11 : m 11 = true := predsT hp (by kernel_rfl)
          have hp12 : m 12 = true := predsT hp (by kernel_rfl)
          have hp10 : m 10 = true := predsT hp (by kernel_rfl)
          have hp11 : m 11 = true := predsT hp (by kernel_rfl)
          have hp12 : m 12 = true := predsT hp (by kernel_rfl)
          refine J.pr (fun hF => ?_)
          refine J.conseq (I' := St w [] ((x15, cb (cC zC) 40) :: (t1, tabO 128 m1) :: (m1, .map es ck) :: (rt, rtabO vr 128) :: (t2, tabO 128 m2) :: (m2, .map es2 ck2) :: (rt2, rtabO vr2 128) :: (x5, cb (cI self) 23) :: (b4, cb (cI self ++ [.slice an ns.length cn] ++ [.slice ae en.length ce]) 27) :: (b3, cb (cI d) 23) :: (lr ++ (lr2 ++ (lb ++ ((bif m 10 then [(x14, cb (cC (bif m 12 then (chooseV d self ns (ordE (laidL 128 en))) else zC)) 40)] else []))))))) ?_ (fun w1 hw => by simp only [hm, hp11, cond_true, cond_false] at hw; exact hw.perm (by (refine perm_cnt (fun _ => ?_)); simp only [cntB_append, cntB_cons, cntB_nil, Nat.add_zero, Nat.zero_add]; try ac_rfl))
          refine J.storeW (cs := cC zC) (vs := cC (chooseV d self ns (ordE (laidL 128 (en ++ mr))))) Ty.s40 rfl rfl rfl rfl rfl (one_cC _) .here ?_
          refine J.nil (JX.finN undef (fun w1 hw => ⟨⟨x14, x15⟩, rfl, fun j h1 h2 => ?_, ?_⟩))
          · match j, h1 with
            | 0, _ => (first | rfl | trivial)
            | 1, _ => (first | rfl | trivial)
            | 2, _ => (first | rfl | trivial)
            | 3, _ => (first | rfl | trivial)
            | 4, _ => (first | rfl | trivial)
            | 5, _ => (first | rfl | trivial)
            | 6, _ => (first | rfl | trivial)
            | 7, _ => (first | rfl | trivial)
            | 8, _ => (first | rfl | trivial)
            | 9, _ => (first | rfl | trivial)
            | 10, _ => (first | rfl | trivial)
            | 11, _ => (first | rfl | trivial)
            | 12, _ => (first | rfl | trivial)
            | 13, _ => (first | rfl | trivial)
            | j + 14, h1 => omega
          show ((m 12 = true → m 10 = true) ∧ (true = true → m 11 = true)) ∧ St w [] ((t1, tabO 128 m1) :: (m1, .map es ck) :: (rt, rtabO vr 128) :: (t2, tabO 128 m2) :: (m2, .map es2 ck2) :: (rt2, rtabO vr2 128) :: (x5, cb (cI self) 23) :: (b4, cb (cI self ++ [.slice an ns.length cn] ++ [.slice ae en.length ce]) 27) :: (b3, cb (cI d) 23) :: (lr ++ (lr2 ++ ((bif m 10 then [(x14, cb (cC (bif m 12 then (chooseV d self ns (ordE (laidL 128 en))) else zC)) 40)] else []) ++ ((bif m 11 then [(x15, cb (cC (bif true then (chooseV d self ns (ordE (laidL 128 (en ++ mr)))) else zC)) 40)] else []) ++ lb))))) w1
          simp only [hm, hp11, cond_true, cond_false] at hw ⊢
          exact ⟨⟨hF.1, fun _ => (by first | trivial | rfl)⟩, hw.perm (by (refine perm_cnt (fun _ => ?_)); simp only [cntB_append, cntB_cons, cntB_nil, Nat.add_zero, Nat.zero_add]; try ac_rfl)⟩
      case htail =>
        intro x
        obtain ⟨x14, x15⟩ := x
        show J _ _ _ _ _ ((15, .pointer (some ⟨x15, 0, none⟩)) :: (14, .pointer (some ⟨x14, 0, none⟩)) :: (53, .agg (cC (chooseV d self ns (ordE (laidL 128 (en ++ mr))))).toArray) :: (52, .pointer (some ⟨t2, 0, none⟩)) :: (51, .slice an ns.length cn) :: (50, .agg (cI self).toArray) :: (49, .agg (cI d).toArray) :: (48, .agg (cC (chooseV d self ns (ordE (laidL 128 en)))).toArray) :: (47, .pointer (some ⟨t1, 0, none⟩)) :: (46, .slice an ns.length cn) :: (45, .agg (cI self).toArray) :: (44, .agg (cI d).toArray) :: _) (fun w1 => ((true = true → true = true) ∧ (true = true → true = true)) ∧ St w [] ((t1, tabO 128 m1) :: (m1, .map es ck) :: (rt, rtabO vr 128) :: (t2, tabO 128 m2) :: (m2, .map es2 ck2) :: (rt2, rtabO vr2 128) :: (x5, cb (cI self) 23) :: (b4, cb (cI self ++ [.slice an ns.length cn] ++ [.slice ae en.length ce]) 27) :: (b3, cb (cI d) 23) :: (lr ++ (lr2 ++ ((bif true then [(x14, cb (cC (bif true then (chooseV d self ns (ordE (laidL 128 en))) else zC)) 40)] else []) ++ ((bif true then [(x15, cb (cC (bif true then (chooseV d self ns (ordE (laidL 128 (en ++ mr)))) else zC)) 40)] else []) ++ lb))))) w1)
        refine J.pr (fun hF => ?_)
        refine J.conseq (I' := St w [] ((x14, cb (cC (chooseV d self ns (ordE (laidL 128 en)))) 40) :: (x15, cb (cC (chooseV d self ns (ordE (laidL 128 (en ++ mr))))) 40) :: (t1, tabO 128 m1) :: (m1, .map es ck) :: (rt, rtabO vr 128) :: (t2, tabO 128 m2) :: (m2, .map es2 ck2) :: (rt2, rtabO vr2 128) :: (x5, cb (cI self) 23) :: (b4, cb (cI self ++ [.slice an ns.length cn] ++ [.slice ae en.length ce]) 27) :: (b3, cb (cI d) 23) :: (lr ++ (lr2 ++ lb)))) ?_ (fun w1 hw => by simp only [cond_true] at hw; exact hw.perm (by (refine perm_cnt (fun _ => ?_)); simp only [cntB_append, cntB_cons, cntB_nil, Nat.add_zero, Nat.zero_add]; try ac_rfl))
        refine J.nil ?_
        refine JX.thenN (hK7 _ _ ?_)
        refine JC.seq (fun K8 hK8 => ?_)
        refine JC.region ?_
        refine J.callB (v := .bool true) (fun w1 w2 hw hb => hw.step hb) Ty.bd15 rfl rfl (fun w1 hw => fixed13_spec w1) ?_
        refine J.move rfl rfl ?_
        first | refine J.skip rfl rfl rfl rfl rfl ?_ | refine J.skipU rfl rfl rfl rfl ?_ | (refine J.unguard rfl rfl rfl ?_; refine J.loadOA (vs := cI d) Ty.a23 Ty.s23 rfl (by repeat first | exact .head _ | apply List.Mem.tail | apply List.mem_append_right) (by exact rfl) rfl rfl ?_)
        first | refine J.skip rfl rfl rfl rfl rfl ?_ | refine J.skipU rfl rfl rfl rfl ?_ | (refine J.unguard rfl rfl rfl ?_; refine J.fieldAddr Ty.fd40_0 rfl rfl ?_)
        first | refine J.skip rfl rfl rfl rfl rfl ?_ | refine J.skipU rfl rfl rfl rfl ?_ | (refine J.unguard rfl rfl rfl ?_; refine J.loadOA (vs := cI (chooseV d self ns (ordE (laidL 128 en))).id) Ty.a23 Ty.s23 rfl (by repeat first | exact .head _ | apply List.Mem.tail | apply List.mem_append_right) (by exact rfl) rfl rfl ?_)
        first | refine J.skip rfl rfl rfl rfl rfl ?_ | refine J.skipU rfl rfl rfl rfl ?_ | (refine J.unguard rfl rfl rfl ?_; refine J.fieldAddr Ty.fd40_0 rfl rfl ?_)
        first | refine J.skip rfl rfl rfl rfl rfl ?_ | refine J.skipU rfl rfl rfl rfl ?_ | (refine J.unguard rfl rfl rfl ?_; refine J.loadOA (vs := cI (chooseV d self ns (ordE (laidL 128 (en ++ mr)))).id) Ty.a23 Ty.s23 rfl (by repeat first | exact .head _ | apply List.Mem.tail | apply List.mem_append_right) (by exact rfl) rfl rfl ?_)
        first | refine J.skip rfl rfl rfl rfl rfl ?_ | refine J.skipU rfl rfl rfl rfl ?_ | (refine J.unguard rfl rfl rfl ?_; refine J.callB (v := .bool (decide (kN d (chooseV d self ns (ordE (laidL 128 en))).id < kN d (chooseV d self ns (ordE (laidL 128 (en ++ mr)))).id))) (fun w1 w2 hw hb => hw.step hb) Ty.bd24 rfl rfl (fun w1 hw => rnearer_spec d (chooseV d self ns (ordE (laidL 128 en))).id (chooseV d self ns (ordE (laidL 128 (en ++ mr)))).id w1) ?_; refine J.name 61 rfl (show _ = Value.bool false from congrArg Value.bool (decide_eq_false (choose_more d self ns (ord_more en mr)))) ?_)
        first | refine J.skip rfl rfl rfl rfl rfl ?_ | refine J.skipU rfl rfl rfl rfl ?_ | (refine J.unguard rfl rfl rfl ?_; refine J.not rfl rfl ?_)
        (first | refine J.pickT rfl rfl rfl ?_ | refine J.pickF rfl rfl rfl ?_)
        refine J.assign rfl rfl ?_
        refine J.nil ?_
        refine JX.thenN (hK8 _ _ ?_)
        refine JC.ret ?_
        refine JX.ret1 rfl rfl (fun w hw => ?_)
        exact ⟨rfl, (hw.drop (List.nil_sublist _)).below⟩

theorem routeMore_walk (w : World) (dc : List Value) (d : IDV) (hd : RId w dc d) (pc : List Value) (x : PlV) (hx : RPl w pc x) (o : Sl EV) (ho : RSl 51 72 REnt w [o.v] o) (hb : x.n.xs.length ≤ 1048576 ∧ x.e.xs.length ≤ 1048576) (hm : o.xs.length ≤ 1048576) :
    Calls Try.prog 8 [.agg dc.toArray, .agg pc.toArray, o.v].toArray w fun r w' => r = .returned (.bool true) ∧ Bel w w' := by
  cases hd
  exact routeMore_spec d x.me x.n.v x.n.xs x.e.v x.e.xs w hx.row hb.1 hx.ok (rslE hx.e) (rslE_ok hx.e) hb.2 o.v o.xs (rslE ho) (rslE_ok ho) hm pc hx.cells
end Go.Proofs.Ytohldionclgljaa
