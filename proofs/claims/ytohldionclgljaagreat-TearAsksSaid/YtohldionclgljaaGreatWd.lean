/-
  TearAsks: the walk.
-/
import Derived.Test.YtohldionclgljaaGreatWc
namespace Go.Proofs.YtohldionclgljaaGreat
open Go.J Go.RowKit
set_option linter.unusedVariables false
set_option linter.unusedSimpArgs false
set_option maxRecDepth 8000
theorem okE_zE : okE zE := ⟨okN1 (by decide) (by decide), okN1 (by decide) (by decide), okN1 (by decide) (by decide)⟩
theorem fi_ok {O : List EV} {id : IDV} (h : ∀ x, x ∈ O → okE x) : okE ((fiE O id).getD zE) := by
  cases he : fiE O id with
  | none => exact okE_zE
  | some x => exact h x (List.mem_of_find?_eq_some he)
theorem sp_ok {O : List EV} {W : List IDV} (h : ∀ x, x ∈ O → okE x) : ∀ p, p ∈ spP O W → okN p.n := by
  intro p hp
  obtain ⟨x, hx, rfl⟩ := List.mem_map.1 hp
  exact (h x (List.mem_filter.1 hx).1).1
theorem tw_ok {O : List EV} (h : ∀ x, x ∈ O → okE x) : ∀ i p, p ∈ twP O i → okN p.n
  | 0, p, hp => by cases hp
  | i + 1, p, hp => by
    rcases List.mem_append.1 hp with hp | hp
    · exact tw_ok h i p hp
    · cases hx : O[i]? with
      | none => rw [hx] at hp; cases hp
      | some x =>
        rw [hx] at hp
        simp only at hp
        split at hp
        · simp at hp; subst hp; exact (h x (List.mem_of_getElem? hx)).1
        · cases hp

set_option maxHeartbeats 1000000 in
theorem tearAsks_spec (v : Value) (xs : List EV) (me id : IDV) (half : Int) (w : World) (hrv : Row w v xs.length (fE xs)) (hok : ∀ x, x ∈ xs → okE x) (hxl : xs.length ≤ 1954687338213) (cc : List Value) (hcc : cc = cI me ++ cI id) :
    Calls Tryz.prog 3 [v, .agg cc.toArray, .int .i64 half].toArray w fun r w' => r = .returned (.bool true) ∧ Bel w w' := by
  obtain ⟨av, cv, rfl, hcv, _⟩ := _root_.id hrv
  refine calls_of_J (args := [.slice av xs.length cv, .agg cc.toArray, .int .i64 half]) (e := [(0, .slice av xs.length cv), (1, .agg cc.toArray), (2, .int .i64 half)]) Tryz.func3 rfl rfl ⟨rfl, rfl, rfl, trivial⟩ (St.start w) ?_
  refine JC.seq (fun K0 hK0 => ?_)
  refine JC.region ?_
  subst hcc
  refine J.box rfl rfl rfl (fun b4 => ?_)
  refine J.assign rfl rfl ?_
  refine J.nil ?_
  refine JX.thenN (hK0 _ _ ?_)
  refine JC.seq (fun K1 hK1 => ?_)
  apply JC.drawX (α := Nat × Nat) 8 (fun x => match x with | ⟨x4, x5⟩ => [.pointer (some ⟨b4, 0 + (0 : Int).toNat * 16, none⟩), .agg (cI me).toArray, .pointer (some ⟨b4, 0 + (1 : Int).toNat * 16, none⟩), .agg (cI id).toArray, .pointer (some ⟨x4, 0, none⟩), .pointer (some ⟨x5, 0, none⟩), undef, undef]) (fun m x => match x with | ⟨x4, x5⟩ => fun w1 => ((m 6 = true → m 4 = true) ∧ (m 7 = true → m 5 = true)) ∧ St w [] ((b4, cb (cI me ++ cI id) 25) :: ((bif m 4 then [(x4, cb (bif m 6 then cI me else cI zI) 24)] else []) ++ (bif m 5 then [(x5, cb (bif m 7 then cI id else cI zI) 24)] else []))) w1) Ty.mixed rfl rfl rfl (by kernel_rfl) rfl rfl ?hinit ?hstep ?htail
  case hinit => exact fun w1 hw => ⟨(0, 0), ⟨fun h => (by cases h), fun h => (by cases h)⟩, hw.drew⟩
  case hstep =>
    refine ⟨fun m x hm hp => ?_, fun m x hm hp => ?_, fun m x hm hp => ?_, fun m x hm hp => ?_, fun m x hm hp => ?_, fun m x hm hp => ?_, fun m x hm hp => ?_, fun m x hm hp => ?_, trivial⟩
    · skip
      obtain ⟨x4, x5⟩ := x
      show J _ _ _ _ _ (_) _
      refine J.pr (fun hF => ?_)
      refine J.indexAddrA Ty.ar25 Ty.s24 rfl rfl (by decide) (by decide) rfl ?_
      exact J.finX rfl (fun _ hw => ⟨⟨x4, x5⟩, rfl, fun _ _ _ => rfl, hF, hw⟩)
    · skip
      obtain ⟨x4, x5⟩ := x
      show J _ _ _ _ _ ((15, .pointer (some ⟨b4, 0 + (0 : Int).toNat * 16, none⟩)) :: _) _
      refine J.pr (fun hF => ?_)
      refine J.loadA (vs := cI me) Ty.a24 Ty.s24 rfl rfl (fun w1 hw => Cells.of_block (hw.own ((b4, cb (cI me ++ cI id) 25)) (by repeat first | exact .head _ | apply List.Mem.tail | apply List.mem_append_right)) rfl) rfl ?_
      exact J.finX rfl (fun _ hw => ⟨⟨x4, x5⟩, rfl, fun _ _ _ => rfl, hF, hw⟩)
    · skip
      obtain ⟨x4, x5⟩ := x
      show J _ _ _ _ _ (_) _
      refine J.pr (fun hF => ?_)
      refine J.indexAddrA Ty.ar25 Ty.s24 rfl rfl (by decide) (by decide) rfl ?_
      exact J.finX rfl (fun _ hw => ⟨⟨x4, x5⟩, rfl, fun _ _ _ => rfl, hF, hw⟩)
    · skip
      obtain ⟨x4, x5⟩ := x
      show J _ _ _ _ _ ((17, .pointer (some ⟨b4, 0 + (1 : Int).toNat * 16, none⟩)) :: _) _
      refine J.pr (fun hF => ?_)
      refine J.loadA (vs := cI id) Ty.a24 Ty.s24 rfl rfl (fun w1 hw => Cells.of_block (hw.own ((b4, cb (cI me ++ cI id) 25)) (by repeat first | exact .head _ | apply List.Mem.tail | apply List.mem_append_right)) rfl) rfl ?_
      exact J.finX rfl (fun _ hw => ⟨⟨x4, x5⟩, rfl, fun _ _ _ => rfl, hF, hw⟩)
    · skip
      obtain ⟨x4, x5⟩ := x
      show J _ _ _ _ _ (_) _
      refine J.pr (fun hF => ?_)
      have h6 : m 6 = false := by cases h : m 6 with
        | false => rfl
        | true => rw [hF.1 h] at hm; cases hm
      refine J.alloc Ty.zID rfl rfl (fun b7 => ?_)
      refine J.nil (JX.finB rfl (fun w1 hw => ⟨⟨⟨b7, x5⟩, rfl, fun j h1 h2 => ?_, ?_⟩, trivial⟩))
      · match j, h1 with
        | 0, _ => (first | rfl | trivial)
        | 1, _ => (first | rfl | trivial)
        | 2, _ => (first | rfl | trivial)
        | 3, _ => (first | rfl | trivial)
        | 4, _ => exact absurd (h2.symm.trans hm) (by decide)
        | 5, _ => (first | rfl | trivial)
        | 6, _ => (first | rfl | trivial)
        | 7, _ => (first | rfl | trivial)
        | j + 8, h1 => omega
      show ((m 6 = true → true = true) ∧ (m 7 = true → m 5 = true)) ∧ St w [] ((b4, cb (cI me ++ cI id) 25) :: ((bif true then [(b7, cb (bif m 6 then cI me else cI zI) 24)] else []) ++ (bif m 5 then [(x5, cb (bif m 7 then cI id else cI zI) 24)] else []))) w1
      simp only [hm, h6, cond_true, cond_false] at hw ⊢
      exact ⟨⟨fun _ => trivial, hF.2⟩, hw.perm (by (refine perm_cnt (fun _ => ?_)); simp only [cntB_append, cntB_cons, cntB_nil, Nat.add_zero, Nat.zero_add]; try ac_rfl)⟩
    · skip
      obtain ⟨x4, x5⟩ := x
      show J _ _ _ _ _ (_) _
      refine J.pr (fun hF => ?_)
      have h7 : m 7 = false := by cases h : m 7 with
        | false => rfl
        | true => rw [hF.2 h] at hm; cases hm
      refine J.alloc Ty.zID rfl rfl (fun b8 => ?_)
      refine J.nil (JX.finB rfl (fun w1 hw => ⟨⟨⟨x4, b8⟩, rfl, fun j h1 h2 => ?_, ?_⟩, trivial⟩))
      · match j, h1 with
        | 0, _ => (first | rfl | trivial)
        | 1, _ => (first | rfl | trivial)
        | 2, _ => (first | rfl | trivial)
        | 3, _ => (first | rfl | trivial)
        | 4, _ => (first | rfl | trivial)
        | 5, _ => exact absurd (h2.symm.trans hm) (by decide)
        | 6, _ => (first | rfl | trivial)
        | 7, _ => (first | rfl | trivial)
        | j + 8, h1 => omega
      show ((m 6 = true → m 4 = true) ∧ (m 7 = true → true = true)) ∧ St w [] ((b4, cb (cI me ++ cI id) 25) :: ((bif m 4 then [(x4, cb (bif m 6 then cI me else cI zI) 24)] else []) ++ (bif true then [(b8, cb (bif m 7 then cI id else cI zI) 24)] else []))) w1
      simp only [hm, h7, cond_true, cond_false] at hw ⊢
      exact ⟨⟨hF.1, fun _ => trivial⟩, hw.perm (by (refine perm_cnt (fun _ => ?_)); simp only [cntB_append, cntB_cons, cntB_nil, Nat.add_zero, Nat.zero_add]; try ac_rfl)⟩
    · skip
      obtain ⟨x4, x5⟩ := x
      show J _ _ _ _ _ ((8, .pointer (some ⟨x5, 0, none⟩)) :: (7, .pointer (some ⟨x4, 0, none⟩)) :: (16, .agg (cI me).toArray) :: (15, .pointer (some ⟨b4, 0 + (0 : Int).toNat * 16, none⟩)) :: (16, .agg (cI me).toArray) :: (7, .pointer (some ⟨x4, 0, none⟩)) :: _) _
      have hp4 : m 4 = true := predsT hp (by kernel_rfl)
      have hp4 : m 4 = true := predsT hp (by kernel_rfl)
      have hp5 : m 5 = true := predsT hp (by kernel_rfl)
      refine J.pr (fun hF => ?_)
      refine J.conseq (I' := St w [] ((x4, cb (cI zI) 24) :: (b4, cb (cI me ++ cI id) 25) :: (bif m 5 then [(x5, cb (bif m 7 then cI id else cI zI) 24)] else []))) ?_ (fun w1 hw => by simp only [hm, hp4, cond_true, cond_false] at hw; exact hw.perm (by (refine perm_cnt (fun _ => ?_)); simp only [cntB_append, cntB_cons, cntB_nil, Nat.add_zero, Nat.zero_add]; try ac_rfl))
      refine J.storeW (cs := cI zI) (vs := cI me) Ty.s24 rfl rfl rfl rfl rfl (by simp [Value.oneCell']) .here ?_
      refine J.nil (JX.finN undef (fun w1 hw => ⟨⟨x4, x5⟩, rfl, fun j h1 h2 => ?_, ?_⟩))
      · match j, h1 with
        | 0, _ => (first | rfl | trivial)
        | 1, _ => (first | rfl | trivial)
        | 2, _ => (first | rfl | trivial)
        | 3, _ => (first | rfl | trivial)
        | 4, _ => (first | rfl | trivial)
        | 5, _ => (first | rfl | trivial)
        | 6, _ => (first | rfl | trivial)
        | 7, _ => (first | rfl | trivial)
        | j + 8, h1 => omega
      show ((true = true → m 4 = true) ∧ (m 7 = true → m 5 = true)) ∧ St w [] ((b4, cb (cI me ++ cI id) 25) :: ((bif m 4 then [(x4, cb (bif true then cI me else cI zI) 24)] else []) ++ (bif m 5 then [(x5, cb (bif m 7 then cI id else cI zI) 24)] else []))) w1
      simp only [hm, hp4, cond_true, cond_false] at hw ⊢
      exact ⟨⟨fun _ => trivial, hF.2⟩, hw.perm (by (refine perm_cnt (fun _ => ?_)); simp only [cntB_append, cntB_cons, cntB_nil, Nat.add_zero, Nat.zero_add]; try ac_rfl)⟩
    · skip
      obtain ⟨x4, x5⟩ := x
      show J _ _ _ _ _ ((8, .pointer (some ⟨x5, 0, none⟩)) :: (7, .pointer (some ⟨x4, 0, none⟩)) :: (18, .agg (cI id).toArray) :: (17, .pointer (some ⟨b4, 0 + (1 : Int).toNat * 16, none⟩)) :: (16, .agg (cI me).toArray) :: (15, .pointer (some ⟨b4, 0 + (0 : Int).toNat * 16, none⟩)) :: (18, .agg (cI id).toArray) :: (8, .pointer (some ⟨x5, 0, none⟩)) :: _) _
      have hp5 : m 5 = true := predsT hp (by kernel_rfl)
      have hp4 : m 4 = true := predsT hp (by kernel_rfl)
      have hp5 : m 5 = true := predsT hp (by kernel_rfl)
      refine J.pr (fun hF => ?_)
      refine J.conseq (I' := St w [] ((x5, cb (cI zI) 24) :: (b4, cb (cI me ++ cI id) 25) :: (bif m 4 then [(x4, cb (bif m 6 then cI me else cI zI) 24)] else []))) ?_ (fun w1 hw => by simp only [hm, hp5, cond_true, cond_false] at hw; exact hw.perm (by (refine perm_cnt (fun _ => ?_)); simp only [cntB_append, cntB_cons, cntB_nil, Nat.add_zero, Nat.zero_add]; try ac_rfl))
      refine J.storeW (cs := cI zI) (vs := cI id) Ty.s24 rfl rfl rfl rfl rfl (by simp [Value.oneCell']) .here ?_
      refine J.nil (JX.finN undef (fun w1 hw => ⟨⟨x4, x5⟩, rfl, fun j h1 h2 => ?_, ?_⟩))
      · match j, h1 with
        | 0, _ => (first | rfl | trivial)
        | 1, _ => (first | rfl | trivial)
        | 2, _ => (first | rfl | trivial)
        | 3, _ => (first | rfl | trivial)
        | 4, _ => (first | rfl | trivial)
        | 5, _ => (first | rfl | trivial)
        | 6, _ => (first | rfl | trivial)
        | 7, _ => (first | rfl | trivial)
        | j + 8, h1 => omega
      show ((m 6 = true → m 4 = true) ∧ (true = true → m 5 = true)) ∧ St w [] ((b4, cb (cI me ++ cI id) 25) :: ((bif m 4 then [(x4, cb (bif m 6 then cI me else cI zI) 24)] else []) ++ (bif m 5 then [(x5, cb (bif true then cI id else cI zI) 24)] else []))) w1
      simp only [hm, hp5, cond_true, cond_false] at hw ⊢
      exact ⟨⟨hF.1, fun _ => trivial⟩, hw.perm (by (refine perm_cnt (fun _ => ?_)); simp only [cntB_append, cntB_cons, cntB_nil, Nat.add_zero, Nat.zero_add]; try ac_rfl)⟩
  case htail =>
    intro x
    obtain ⟨x4, x5⟩ := x
    show J _ _ _ _ _ ((8, .pointer (some ⟨x5, 0, none⟩)) :: (7, .pointer (some ⟨x4, 0, none⟩)) :: (18, .agg (cI id).toArray) :: (17, .pointer (some ⟨b4, 0 + (1 : Int).toNat * 16, none⟩)) :: (16, .agg (cI me).toArray) :: (15, .pointer (some ⟨b4, 0 + (0 : Int).toNat * 16, none⟩)) :: _) (fun w1 => ((true = true → true = true) ∧ (true = true → true = true)) ∧ St w [] ((b4, cb (cI me ++ cI id) 25) :: ((bif true then [(x4, cb (bif true then cI me else cI zI) 24)] else []) ++ (bif true then [(x5, cb (bif true then cI id else cI zI) 24)] else []))) w1)
    refine J.pr (fun hF => ?_)
    refine J.conseq (I' := St w [] [(x4, cb (cI me) 24), (x5, cb (cI id) 24)]) ?_ (fun w1 hw => by simp only [cond_true] at hw; exact (hw.perm (l' := (b4, cb (cI me ++ cI id) 25) :: [(x4, cb (cI me) 24), (x5, cb (cI id) 24)]) (by (refine perm_cnt (fun _ => ?_)); simp only [cntB_append, cntB_cons, cntB_nil, Nat.add_zero, Nat.zero_add]; try ac_rfl)).drop (List.sublist_cons_self _ _))
    refine J.nil ?_
    refine JX.thenN (hK1 _ _ ?_)
    refine JC.seq (fun K2 hK2 => ?_)
    refine JC.region ?_
    refine J.move rfl rfl ?_
    refine J.perm ([] ++ ((x4, cb (cI me) 24) :: (x5, cb (cI id) 24) :: [])) (.refl _) ?_
    refine J.callS (α := LaidS) (V := fun x => .tuple #[.pointer (some ⟨x.t1, 0, none⟩), .pointer (some ⟨x.rt, 0, none⟩)]) (Pr := fun x => Tab (laidL 128 (xs)) x.es x.ck ∧ Vec 33 51 x.vr (ordE (laidL 128 (xs))).length (fE (ordE (laidL 128 (xs)))) x.lr) (L := fun x => x.blk 128) (l1 := []) Ty.bd5 rfl rfl (fun w1 hw => laid15_spec _ (xs) w1 (hrv.below (hw.drop (List.nil_sublist _)).below) hok hxl) (fun x hx9 => ?_)
    obtain ⟨t1, m1, rt, es, ck, vr, lr⟩ := x
    obtain ⟨hT, hvr⟩ := hx9
    simp only [LaidS.blk, List.cons_append] at hT hvr ⊢
    have hgood := laidL_good 128 xs
    have hl128 : (laidL 128 xs).length ≤ 128 := by have := hgood.len; omega
    have hpl := (ordE_perm (laidL 128 xs)).length_eq
    have hol := List.length_filter_le ownB (ordE (laidL 128 xs))
    have hO : ∀ x, x ∈ ((ordE (laidL 128 xs)).filter ownB) → okE x := fun x hx => hT.ok x ((ordE_perm _).mem_iff.1 (List.mem_filter.1 hx).1)
    have hfl := fr_len ((ordE (laidL 128 xs)).filter ownB) me
    have hsl := sp_le ((ordE (laidL 128 xs)).filter ownB) (wnI ((ordE (laidL 128 xs)).filter ownB) me half)
    have htl := tw_le ((ordE (laidL 128 xs)).filter ownB) ((ordE (laidL 128 xs)).filter ownB).length
    refine J.perm ((t1, tabO 128 m1) :: (m1, .map es ck) :: (rt, rtabO vr 128) :: ((x4, cb (cI me) 24) :: (x5, cb (cI id) 24) :: lr)) (by (refine perm_cnt (fun _ => ?_)); simp only [cntB_append, cntB_cons, cntB_nil, Nat.add_zero, Nat.zero_add]; try ac_rfl) ?_
    refine J.move rfl rfl ?_
    refine J.extract rfl rfl rfl ?_
    refine J.extract rfl rfl rfl ?_
    refine J.assign rfl rfl ?_
    refine J.assign rfl rfl ?_
    refine J.nil ?_
    refine JX.thenN (hK2 _ _ ?_)
    refine JC.seq (fun K3 hK3 => ?_)
    refine JC.region ?_
    refine J.move rfl rfl ?_
    refine J.loadA (vs := cI id) Ty.a24 Ty.s24 rfl rfl (fun w1 hw => Cells.of_block (hw.own ((x5, cb (cI id) 24)) (by repeat first | exact .head _ | apply List.Mem.tail | apply List.mem_append_right)) rfl) rfl ?_
    refine J.callB (v := .tuple #[.agg (cE ((fiE ((ordE (laidL 128 xs)).filter ownB) id).getD zE)).toArray, .bool (fiE ((ordE (laidL 128 xs)).filter ownB) id).isSome]) (fun w1 w2 hw hb => hw.step hb) Ty.bd6 rfl rfl (fun w1 hw => first_spec t1 m1 128 (laidL 128 xs) es ck w1 (hw.own (t1, tabO 128 m1) (by repeat first | exact .head _ | apply List.Mem.tail | apply List.mem_append_right)) (hw.own (m1, .map es ck) (by repeat first | exact .head _ | apply List.Mem.tail | apply List.mem_append_right)) hT (by omega) id) ?_
    refine J.move rfl rfl ?_
    refine J.extract rfl rfl rfl ?_
    refine J.extract rfl rfl rfl ?_
    refine J.alloc Ty.zE_ rfl rfl (fun b11 => ?_)
    refine J.storeW (cs := cE zE) (vs := cE ((fiE ((ordE (laidL 128 xs)).filter ownB) id).getD zE)) Ty.s33 rfl rfl rfl rfl rfl (one_cE _) .here ?_
    refine J.assign rfl rfl ?_
    refine J.nil ?_
    refine JX.thenN (hK3 _ _ ?_)
    refine JC.seq (fun K4 hK4 => ?_)
    refine JC.region ?_
    refine J.move rfl rfl ?_
    refine J.loadA (vs := cI id) Ty.a24 Ty.s24 rfl rfl (fun w1 hw => Cells.of_block (hw.own ((x5, cb (cI id) 24)) (by repeat first | exact .head _ | apply List.Mem.tail | apply List.mem_append_right)) rfl) rfl ?_
    refine J.callB (v := .tuple #[.agg (cE ((fiE ((ordE (laidL 128 xs)).filter ownB) id).getD zE)).toArray, .bool (fiE ((ordE (laidL 128 xs)).filter ownB) id).isSome]) (fun w1 w2 hw hb => hw.step hb) Ty.bd7 rfl rfl (fun w1 hw => rfirst_spec rt vr 128 (ordE (laidL 128 xs)) w1 (hw.own (rt, rtabO vr 128) (by repeat first | exact .head _ | apply List.Mem.tail | apply List.mem_append_right)) (vec_rowM hvr hw (fun q hq => by first | (simp [hq]; done) | (simp at hq; simp [hq]; done) | (simp at hq; subst hq; simp))) (ordE_ok hT) (by omega) id) ?_
    refine J.move rfl rfl ?_
    refine J.extract rfl rfl rfl ?_
    refine J.extract rfl rfl rfl ?_
    refine J.alloc Ty.zE_ rfl rfl (fun b13 => ?_)
    refine J.storeW (cs := cE zE) (vs := cE ((fiE ((ordE (laidL 128 xs)).filter ownB) id).getD zE)) Ty.s33 rfl rfl rfl rfl rfl (one_cE _) .here ?_
    refine J.assign rfl rfl ?_
    refine J.nil ?_
    refine JX.thenN (hK4 _ _ ?_)
    refine JC.seq (fun K5 hK5 => ?_)
    apply JC.drawX (α := Value × List (Nat × Obj) × Value × List (Nat × Obj) × Value × List (Nat × Obj) × Value × List (Nat × Obj) × Value × List (Nat × Obj) × Value × List (Nat × Obj) × Value × List (Nat × Obj)) 47 (fun x => match x with | ⟨v4, l4, v7, l7, v14, l14, v18, l18, v23, l23, v25, l25, v40, l40⟩ => [.bool true, .bool true, .pointer (some ⟨t1, 0, none⟩), .agg (cI me).toArray, v4, .pointer (some ⟨rt, 0, none⟩), .agg (cI me).toArray, v7, .bool true, .bool true, .bool true, .pointer (some ⟨t1, 0, none⟩), .agg (cI me).toArray, .int .i64 half, v14, .pointer (some ⟨rt, 0, none⟩), .agg (cI me).toArray, .int .i64 half, v18, .bool true, .bool true, .bool true, .pointer (some ⟨t1, 0, none⟩), v23, .pointer (some ⟨rt, 0, none⟩), v25, .bool true, .bool true, .bool true, .agg (cE ((fiE ((ordE (laidL 128 xs)).filter ownB) id).getD zE)).toArray, .agg (cE ((fiE ((ordE (laidL 128 xs)).filter ownB) id).getD zE)).toArray, .bool true, .bool true, .bool true, .bool (fiE ((ordE (laidL 128 xs)).filter ownB) id).isSome, .bool (fiE ((ordE (laidL 128 xs)).filter ownB) id).isSome, .bool true, .bool true, .bool true, .pointer (some ⟨t1, 0, none⟩), v40, .pointer (some ⟨rt, 0, none⟩), .pointer (some ⟨rt, 0, none⟩), .pointer (some ⟨rt, 0 + 0, none⟩), vr, .bool true, .bool true]) (fun m x => match x with | ⟨v4, l4, v7, l7, v14, l14, v18, l18, v23, l23, v25, l25, v40, l40⟩ => fun w1 => ((m 4 = true → Vec 24 16 v4 ((frI ((ordE (laidL 128 xs)).filter ownB) me)).length (fI ((frI ((ordE (laidL 128 xs)).filter ownB) me))) l4) ∧ (m 7 = true → Vec 24 16 v7 ((frI ((ordE (laidL 128 xs)).filter ownB) me)).length (fI ((frI ((ordE (laidL 128 xs)).filter ownB) me))) l7) ∧ (m 14 = true → Vec 31 17 v14 ((spP ((ordE (laidL 128 xs)).filter ownB) (wnI ((ordE (laidL 128 xs)).filter ownB) me half))).length (fP ((spP ((ordE (laidL 128 xs)).filter ownB) (wnI ((ordE (laidL 128 xs)).filter ownB) me half)))) l14) ∧ (m 18 = true → Vec 31 17 v18 ((spP ((ordE (laidL 128 xs)).filter ownB) (wnI ((ordE (laidL 128 xs)).filter ownB) me half))).length (fP ((spP ((ordE (laidL 128 xs)).filter ownB) (wnI ((ordE (laidL 128 xs)).filter ownB) me half)))) l18) ∧ (m 23 = true → Vec 31 17 v23 ((twP ((ordE (laidL 128 xs)).filter ownB) ((ordE (laidL 128 xs)).filter ownB).length)).length (fP ((twP ((ordE (laidL 128 xs)).filter ownB) ((ordE (laidL 128 xs)).filter ownB).length))) l23) ∧ (m 25 = true → Vec 31 17 v25 ((twP ((ordE (laidL 128 xs)).filter ownB) ((ordE (laidL 128 xs)).filter ownB).length)).length (fP ((twP ((ordE (laidL 128 xs)).filter ownB) ((ordE (laidL 128 xs)).filter ownB).length))) l25) ∧ (m 40 = true → Vec 33 51 v40 ((ordE (laidL 128 xs))).length (fE ((ordE (laidL 128 xs)))) l40)) ∧ St w [] ((bif m 4 then l4 else []) ++ ((bif m 7 then l7 else []) ++ ((bif m 14 then l14 else []) ++ ((bif m 18 then l18 else []) ++ ((bif m 23 then l23 else []) ++ ((bif m 25 then l25 else []) ++ ((bif m 40 then l40 else []) ++ ((b13, cb (cE ((fiE ((ordE (laidL 128 xs)).filter ownB) id).getD zE)) 33) :: (b11, cb (cE ((fiE ((ordE (laidL 128 xs)).filter ownB) id).getD zE)) 33) :: (t1, tabO 128 m1) :: (m1, .map es ck) :: (rt, rtabO vr 128) :: ((x4, cb (cI me) 24) :: (x5, cb (cI id) 24) :: lr))))))))) w1) Ty.mixed rfl rfl rfl (by kernel_rfl) rfl rfl ?hinit ?hstep ?htail
    case hinit => exact fun w1 hw => ⟨(.slice none 0 0, [], .slice none 0 0, [], .slice none 0 0, [], .slice none 0 0, [], .slice none 0 0, [], .slice none 0 0, [], .slice none 0 0, []), ⟨fun h => (by cases h), fun h => (by cases h), fun h => (by cases h), fun h => (by cases h), fun h => (by cases h), fun h => (by cases h), fun h => (by cases h)⟩, hw.drew⟩
    case hstep =>
      refine ⟨fun m x hm hp => ?_, fun m x hm hp => ?_, fun m x hm hp => ?_, fun m x hm hp => ?_, fun m x hm hp => ?_, fun m x hm hp => ?_, fun m x hm hp => ?_, fun m x hm hp => ?_, fun m x hm hp => ?_, fun m x hm hp => ?_, fun m x hm hp => ?_, fun m x hm hp => ?_, fun m x hm hp => ?_, fun m x hm hp => ?_, fun m x hm hp => ?_, fun m x hm hp => ?_, fun m x hm hp => ?_, fun m x hm hp => ?_, fun m x hm hp => ?_, fun m x hm hp => ?_, fun m x hm hp => ?_, fun m x hm hp => ?_, fun m x hm hp => ?_, fun m x hm hp => ?_, fun m x hm hp => ?_, fun m x hm hp => ?_, fun m x hm hp => ?_, fun m x hm hp => ?_, fun m x hm hp => ?_, fun m x hm hp => ?_, fun m x hm hp => ?_, fun m x hm hp => ?_, fun m x hm hp => ?_, fun m x hm hp => ?_, fun m x hm hp => ?_, fun m x hm hp => ?_, fun m x hm hp => ?_, fun m x hm hp => ?_, fun m x hm hp => ?_, fun m x hm hp => ?_, fun m x hm hp => ?_, fun m x hm hp => ?_, fun m x hm hp => ?_, fun m x hm hp => ?_, fun m x hm hp => ?_, fun m x hm hp => ?_, fun m x hm hp => ?_, trivial⟩
      · skip
        obtain ⟨v4, l4, v7, l7, v14, l14, v18, l18, v23, l23, v25, l25, v40, l40⟩ := x
        show J _ _ _ _ _ (_) _
        refine J.pr (fun hF => ?_)
        refine J.callB (v := .bool true) (fun w1 w2 hw hb => hw.step hb) Ty.bd8 rfl rfl (fun w1 hw => fixed15_spec w1) ?_
        exact J.finX rfl (fun _ hw => ⟨⟨v4, l4, v7, l7, v14, l14, v18, l18, v23, l23, v25, l25, v40, l40⟩, rfl, fun _ _ _ => rfl, hF, hw⟩)
      · skip
        obtain ⟨v4, l4, v7, l7, v14, l14, v18, l18, v23, l23, v25, l25, v40, l40⟩ := x
        show J _ _ _ _ _ ((36, .bool true) :: (36, .bool true) :: _) _
        refine J.pr (fun hF => ?_)
        refine J.move rfl rfl ?_
        exact J.finX rfl (fun _ hw => ⟨⟨v4, l4, v7, l7, v14, l14, v18, l18, v23, l23, v25, l25, v40, l40⟩, rfl, fun _ _ _ => rfl, hF, hw⟩)
      · skip
        obtain ⟨v4, l4, v7, l7, v14, l14, v18, l18, v23, l23, v25, l25, v40, l40⟩ := x
        show J _ _ _ _ _ ((37, .bool true) :: _) _
        refine J.pr (fun hF => ?_)
        first | refine J.skip rfl rfl rfl rfl rfl ?_ | refine J.skipU rfl rfl rfl rfl ?_ | (refine J.unguard rfl rfl rfl ?_; refine J.move rfl rfl ?_)
        exact J.finX rfl (fun _ hw => ⟨⟨v4, l4, v7, l7, v14, l14, v18, l18, v23, l23, v25, l25, v40, l40⟩, rfl, fun _ _ _ => rfl, hF, hw⟩)
      · skip
        obtain ⟨v4, l4, v7, l7, v14, l14, v18, l18, v23, l23, v25, l25, v40, l40⟩ := x
        show J _ _ _ _ _ ((37, .bool true) :: _) _
        refine J.pr (fun hF => ?_)
        refine J.unguard rfl rfl rfl ?_
        refine J.loadA (vs := cI me) Ty.a24 Ty.s24 rfl rfl (fun w1 hw => Cells.of_block (hw.own ((x4, cb (cI me) 24)) (by repeat first | exact .head _ | apply List.Mem.tail | apply List.mem_append_right)) rfl) rfl ?_
        exact J.finX rfl (fun _ hw => ⟨⟨v4, l4, v7, l7, v14, l14, v18, l18, v23, l23, v25, l25, v40, l40⟩, rfl, fun _ _ _ => rfl, hF, hw⟩)
      · skip
        obtain ⟨v4, l4, v7, l7, v14, l14, v18, l18, v23, l23, v25, l25, v40, l40⟩ := x
        show J _ _ _ _ _ ((37, .bool true) :: (37, .bool true) :: (39, .agg (cI me).toArray) :: (38, .pointer (some ⟨t1, 0, none⟩)) :: _) _
        refine J.pr (fun hF => ?_)
        refine J.unguard rfl rfl rfl ?_
        refine J.perm ([] ++ ((bif m 4 then l4 else []) ++ ((bif m 7 then l7 else []) ++ ((bif m 14 then l14 else []) ++ ((bif m 18 then l18 else []) ++ ((bif m 23 then l23 else []) ++ ((bif m 25 then l25 else []) ++ ((bif m 40 then l40 else []) ++ ((b13, cb (cE ((fiE ((ordE (laidL 128 xs)).filter ownB) id).getD zE)) 33) :: (b11, cb (cE ((fiE ((ordE (laidL 128 xs)).filter ownB) id).getD zE)) 33) :: (t1, tabO 128 m1) :: (m1, .map es ck) :: (rt, rtabO vr 128) :: ((x4, cb (cI me) 24) :: (x5, cb (cI id) 24) :: lr)))))))))) (.refl _) ?_
        refine J.callS (α := Value × List (Nat × Obj)) (V := (·.1)) (Pr := fun x => Vec 24 16 x.1 ((frI ((ordE (laidL 128 xs)).filter ownB) me)).length (fI ((frI ((ordE (laidL 128 xs)).filter ownB) me))) x.2) (L := (·.2)) (l1 := []) Ty.bd10 rfl rfl (fun w1 hw => friends_spec t1 m1 128 (laidL 128 xs) es ck w1 (hw.own (t1, tabO 128 m1) (by repeat first | exact .head _ | apply List.Mem.tail | apply List.mem_append_right)) (hw.own (m1, .map es ck) (by repeat first | exact .head _ | apply List.Mem.tail | apply List.mem_append_right)) hT (by omega) me) (fun x hvn => ?_)
        obtain ⟨vn, ln⟩ := x
        simp only at hvn ⊢
        refine J.nil (JX.finB rfl (fun w1 hw => ⟨⟨⟨vn, ln, v7, l7, v14, l14, v18, l18, v23, l23, v25, l25, v40, l40⟩, rfl, fun j h1 h2 => ?_, ?_⟩, trivial⟩))
        · match j, h1 with
          | 0, _ => (first | rfl | trivial)
          | 1, _ => (first | rfl | trivial)
          | 2, _ => (first | rfl | trivial)
          | 3, _ => (first | rfl | trivial)
          | 4, _ => exact absurd (h2.symm.trans hm) (by decide)
          | 5, _ => (first | rfl | trivial)
          | 6, _ => (first | rfl | trivial)
          | 7, _ => (first | rfl | trivial)
          | 8, _ => (first | rfl | trivial)
          | 9, _ => (first | rfl | trivial)
          | 10, _ => (first | rfl | trivial)
          | 11, _ => (first | rfl | trivial)
          | 12, _ => (first | rfl | trivial)
          | 13, _ => (first | rfl | trivial)
          | 14, _ => (first | rfl | trivial)
          | 15, _ => (first | rfl | trivial)
          | 16, _ => (first | rfl | trivial)
          | 17, _ => (first | rfl | trivial)
          | 18, _ => (first | rfl | trivial)
          | 19, _ => (first | rfl | trivial)
          | 20, _ => (first | rfl | trivial)
          | 21, _ => (first | rfl | trivial)
          | 22, _ => (first | rfl | trivial)
          | 23, _ => (first | rfl | trivial)
          | 24, _ => (first | rfl | trivial)
          | 25, _ => (first | rfl | trivial)
          | 26, _ => (first | rfl | trivial)
          | 27, _ => (first | rfl | trivial)
          | 28, _ => (first | rfl | trivial)
          | 29, _ => (first | rfl | trivial)
          | 30, _ => (first | rfl | trivial)
          | 31, _ => (first | rfl | trivial)
          | 32, _ => (first | rfl | trivial)
          | 33, _ => (first | rfl | trivial)
          | 34, _ => (first | rfl | trivial)
          | 35, _ => (first | rfl | trivial)
          | 36, _ => (first | rfl | trivial)
          | 37, _ => (first | rfl | trivial)
          | 38, _ => (first | rfl | trivial)
          | 39, _ => (first | rfl | trivial)
          | 40, _ => (first | rfl | trivial)
          | 41, _ => (first | rfl | trivial)
          | 42, _ => (first | rfl | trivial)
          | 43, _ => (first | rfl | trivial)
          | 44, _ => (first | rfl | trivial)
          | 45, _ => (first | rfl | trivial)
          | 46, _ => (first | rfl | trivial)
          | j + 47, h1 => omega
        show ((true = true → Vec 24 16 vn ((frI ((ordE (laidL 128 xs)).filter ownB) me)).length (fI ((frI ((ordE (laidL 128 xs)).filter ownB) me))) ln) ∧ (m 7 = true → Vec 24 16 v7 ((frI ((ordE (laidL 128 xs)).filter ownB) me)).length (fI ((frI ((ordE (laidL 128 xs)).filter ownB) me))) l7) ∧ (m 14 = true → Vec 31 17 v14 ((spP ((ordE (laidL 128 xs)).filter ownB) (wnI ((ordE (laidL 128 xs)).filter ownB) me half))).length (fP ((spP ((ordE (laidL 128 xs)).filter ownB) (wnI ((ordE (laidL 128 xs)).filter ownB) me half)))) l14) ∧ (m 18 = true → Vec 31 17 v18 ((spP ((ordE (laidL 128 xs)).filter ownB) (wnI ((ordE (laidL 128 xs)).filter ownB) me half))).length (fP ((spP ((ordE (laidL 128 xs)).filter ownB) (wnI ((ordE (laidL 128 xs)).filter ownB) me half)))) l18) ∧ (m 23 = true → Vec 31 17 v23 ((twP ((ordE (laidL 128 xs)).filter ownB) ((ordE (laidL 128 xs)).filter ownB).length)).length (fP ((twP ((ordE (laidL 128 xs)).filter ownB) ((ordE (laidL 128 xs)).filter ownB).length))) l23) ∧ (m 25 = true → Vec 31 17 v25 ((twP ((ordE (laidL 128 xs)).filter ownB) ((ordE (laidL 128 xs)).filter ownB).length)).length (fP ((twP ((ordE (laidL 128 xs)).filter ownB) ((ordE (laidL 128 xs)).filter ownB).length))) l25) ∧ (m 40 = true → Vec 33 51 v40 ((ordE (laidL 128 xs))).length (fE ((ordE (laidL 128 xs)))) l40)) ∧ St w [] ((bif true then ln else []) ++ ((bif m 7 then l7 else []) ++ ((bif m 14 then l14 else []) ++ ((bif m 18 then l18 else []) ++ ((bif m 23 then l23 else []) ++ ((bif m 25 then l25 else []) ++ ((bif m 40 then l40 else []) ++ ((b13, cb (cE ((fiE ((ordE (laidL 128 xs)).filter ownB) id).getD zE)) 33) :: (b11, cb (cE ((fiE ((ordE (laidL 128 xs)).filter ownB) id).getD zE)) 33) :: (t1, tabO 128 m1) :: (m1, .map es ck) :: (rt, rtabO vr 128) :: ((x4, cb (cI me) 24) :: (x5, cb (cI id) 24) :: lr))))))))) w1
        simp only [hm, cond_true, cond_false] at hw ⊢
        exact ⟨⟨fun _ => hvn, hF.2.1, hF.2.2.1, hF.2.2.2.1, hF.2.2.2.2.1, hF.2.2.2.2.2.1, hF.2.2.2.2.2.2⟩, hw.perm (by (refine perm_cnt (fun _ => ?_)); simp only [cntB_append, cntB_cons, cntB_nil, Nat.add_zero, Nat.zero_add]; try ac_rfl)⟩
      · skip
        obtain ⟨v4, l4, v7, l7, v14, l14, v18, l18, v23, l23, v25, l25, v40, l40⟩ := x
        show J _ _ _ _ _ ((37, .bool true) :: _) _
        refine J.pr (fun hF => ?_)
        first | refine J.skip rfl rfl rfl rfl rfl ?_ | refine J.skipU rfl rfl rfl rfl ?_ | (refine J.unguard rfl rfl rfl ?_; refine J.move rfl rfl ?_)
        exact J.finX rfl (fun _ hw => ⟨⟨v4, l4, v7, l7, v14, l14, v18, l18, v23, l23, v25, l25, v40, l40⟩, rfl, fun _ _ _ => rfl, hF, hw⟩)
      · skip
        obtain ⟨v4, l4, v7, l7, v14, l14, v18, l18, v23, l23, v25, l25, v40, l40⟩ := x
        show J _ _ _ _ _ ((37, .bool true) :: _) _
        refine J.pr (fun hF => ?_)
        refine J.unguard rfl rfl rfl ?_
        refine J.loadA (vs := cI me) Ty.a24 Ty.s24 rfl rfl (fun w1 hw => Cells.of_block (hw.own ((x4, cb (cI me) 24)) (by repeat first | exact .head _ | apply List.Mem.tail | apply List.mem_append_right)) rfl) rfl ?_
        exact J.finX rfl (fun _ hw => ⟨⟨v4, l4, v7, l7, v14, l14, v18, l18, v23, l23, v25, l25, v40, l40⟩, rfl, fun _ _ _ => rfl, hF, hw⟩)
      · skip
        obtain ⟨v4, l4, v7, l7, v14, l14, v18, l18, v23, l23, v25, l25, v40, l40⟩ := x
        show J _ _ _ _ _ ((37, .bool true) :: (40, v4) :: (42, .agg (cI me).toArray) :: (41, .pointer (some ⟨rt, 0, none⟩)) :: _) _
        have hp4 : m 4 = true := predsT hp (by kernel_rfl)
        refine J.pr (fun hF => ?_)
        refine J.unguard rfl rfl rfl ?_
        refine J.perm ([] ++ ((bif m 4 then l4 else []) ++ ((bif m 7 then l7 else []) ++ ((bif m 14 then l14 else []) ++ ((bif m 18 then l18 else []) ++ ((bif m 23 then l23 else []) ++ ((bif m 25 then l25 else []) ++ ((bif m 40 then l40 else []) ++ ((b13, cb (cE ((fiE ((ordE (laidL 128 xs)).filter ownB) id).getD zE)) 33) :: (b11, cb (cE ((fiE ((ordE (laidL 128 xs)).filter ownB) id).getD zE)) 33) :: (t1, tabO 128 m1) :: (m1, .map es ck) :: (rt, rtabO vr 128) :: ((x4, cb (cI me) 24) :: (x5, cb (cI id) 24) :: lr)))))))))) (.refl _) ?_
        refine J.callS (α := Value × List (Nat × Obj)) (V := (·.1)) (Pr := fun x => Vec 24 16 x.1 ((frI ((ordE (laidL 128 xs)).filter ownB) me)).length (fI ((frI ((ordE (laidL 128 xs)).filter ownB) me))) x.2) (L := (·.2)) (l1 := []) Ty.bd11 rfl rfl (fun w1 hw => rfriends_spec rt vr 128 (ordE (laidL 128 xs)) w1 (hw.own (rt, rtabO vr 128) (by repeat first | exact .head _ | apply List.Mem.tail | apply List.mem_append_right)) (vec_rowM hvr hw (fun q hq => by first | (simp [hq]; done) | (simp at hq; simp [hq]; done) | (simp at hq; subst hq; simp))) (ordE_ok hT) (by omega) me) (fun x hvn => ?_)
        obtain ⟨vn, ln⟩ := x
        simp only at hvn ⊢
        refine J.nil (JX.finB rfl (fun w1 hw => ⟨⟨⟨v4, l4, vn, ln, v14, l14, v18, l18, v23, l23, v25, l25, v40, l40⟩, rfl, fun j h1 h2 => ?_, ?_⟩, trivial⟩))
        · match j, h1 with
          | 0, _ => (first | rfl | trivial)
          | 1, _ => (first | rfl | trivial)
          | 2, _ => (first | rfl | trivial)
          | 3, _ => (first | rfl | trivial)
          | 4, _ => (first | rfl | trivial)
          | 5, _ => (first | rfl | trivial)
          | 6, _ => (first | rfl | trivial)
          | 7, _ => exact absurd (h2.symm.trans hm) (by decide)
          | 8, _ => (first | rfl | trivial)
          | 9, _ => (first | rfl | trivial)
          | 10, _ => (first | rfl | trivial)
          | 11, _ => (first | rfl | trivial)
          | 12, _ => (first | rfl | trivial)
          | 13, _ => (first | rfl | trivial)
          | 14, _ => (first | rfl | trivial)
          | 15, _ => (first | rfl | trivial)
          | 16, _ => (first | rfl | trivial)
          | 17, _ => (first | rfl | trivial)
          | 18, _ => (first | rfl | trivial)
          | 19, _ => (first | rfl | trivial)
          | 20, _ => (first | rfl | trivial)
          | 21, _ => (first | rfl | trivial)
          | 22, _ => (first | rfl | trivial)
          | 23, _ => (first | rfl | trivial)
          | 24, _ => (first | rfl | trivial)
          | 25, _ => (first | rfl | trivial)
          | 26, _ => (first | rfl | trivial)
          | 27, _ => (first | rfl | trivial)
          | 28, _ => (first | rfl | trivial)
          | 29, _ => (first | rfl | trivial)
          | 30, _ => (first | rfl | trivial)
          | 31, _ => (first | rfl | trivial)
          | 32, _ => (first | rfl | trivial)
          | 33, _ => (first | rfl | trivial)
          | 34, _ => (first | rfl | trivial)
          | 35, _ => (first | rfl | trivial)
          | 36, _ => (first | rfl | trivial)
          | 37, _ => (first | rfl | trivial)
          | 38, _ => (first | rfl | trivial)
          | 39, _ => (first | rfl | trivial)
          | 40, _ => (first | rfl | trivial)
          | 41, _ => (first | rfl | trivial)
          | 42, _ => (first | rfl | trivial)
          | 43, _ => (first | rfl | trivial)
          | 44, _ => (first | rfl | trivial)
          | 45, _ => (first | rfl | trivial)
          | 46, _ => (first | rfl | trivial)
          | j + 47, h1 => omega
        show ((m 4 = true → Vec 24 16 v4 ((frI ((ordE (laidL 128 xs)).filter ownB) me)).length (fI ((frI ((ordE (laidL 128 xs)).filter ownB) me))) l4) ∧ (true = true → Vec 24 16 vn ((frI ((ordE (laidL 128 xs)).filter ownB) me)).length (fI ((frI ((ordE (laidL 128 xs)).filter ownB) me))) ln) ∧ (m 14 = true → Vec 31 17 v14 ((spP ((ordE (laidL 128 xs)).filter ownB) (wnI ((ordE (laidL 128 xs)).filter ownB) me half))).length (fP ((spP ((ordE (laidL 128 xs)).filter ownB) (wnI ((ordE (laidL 128 xs)).filter ownB) me half)))) l14) ∧ (m 18 = true → Vec 31 17 v18 ((spP ((ordE (laidL 128 xs)).filter ownB) (wnI ((ordE (laidL 128 xs)).filter ownB) me half))).length (fP ((spP ((ordE (laidL 128 xs)).filter ownB) (wnI ((ordE (laidL 128 xs)).filter ownB) me half)))) l18) ∧ (m 23 = true → Vec 31 17 v23 ((twP ((ordE (laidL 128 xs)).filter ownB) ((ordE (laidL 128 xs)).filter ownB).length)).length (fP ((twP ((ordE (laidL 128 xs)).filter ownB) ((ordE (laidL 128 xs)).filter ownB).length))) l23) ∧ (m 25 = true → Vec 31 17 v25 ((twP ((ordE (laidL 128 xs)).filter ownB) ((ordE (laidL 128 xs)).filter ownB).length)).length (fP ((twP ((ordE (laidL 128 xs)).filter ownB) ((ordE (laidL 128 xs)).filter ownB).length))) l25) ∧ (m 40 = true → Vec 33 51 v40 ((ordE (laidL 128 xs))).length (fE ((ordE (laidL 128 xs)))) l40)) ∧ St w [] ((bif m 4 then l4 else []) ++ ((bif true then ln else []) ++ ((bif m 14 then l14 else []) ++ ((bif m 18 then l18 else []) ++ ((bif m 23 then l23 else []) ++ ((bif m 25 then l25 else []) ++ ((bif m 40 then l40 else []) ++ ((b13, cb (cE ((fiE ((ordE (laidL 128 xs)).filter ownB) id).getD zE)) 33) :: (b11, cb (cE ((fiE ((ordE (laidL 128 xs)).filter ownB) id).getD zE)) 33) :: (t1, tabO 128 m1) :: (m1, .map es ck) :: (rt, rtabO vr 128) :: ((x4, cb (cI me) 24) :: (x5, cb (cI id) 24) :: lr))))))))) w1
        simp only [hm, cond_true, cond_false] at hw ⊢
        exact ⟨⟨hF.1, fun _ => hvn, hF.2.2.1, hF.2.2.2.1, hF.2.2.2.2.1, hF.2.2.2.2.2.1, hF.2.2.2.2.2.2⟩, hw.perm (by (refine perm_cnt (fun _ => ?_)); simp only [cntB_append, cntB_cons, cntB_nil, Nat.add_zero, Nat.zero_add]; try ac_rfl)⟩
      · skip
        obtain ⟨v4, l4, v7, l7, v14, l14, v18, l18, v23, l23, v25, l25, v40, l40⟩ := x
        show J _ _ _ _ _ ((37, .bool true) :: (43, v7) :: (43, v7) :: (40, v4) :: _) _
        have hp4 : m 4 = true := predsT hp (by kernel_rfl)
        have hp7 : m 7 = true := predsT hp (by kernel_rfl)
        have hp7 : m 7 = true := predsT hp (by kernel_rfl)
        refine J.pr (fun hF => ?_)
        refine J.unguard rfl rfl rfl ?_
        refine J.callB (v := .bool true) (fun w1 w2 hw hb => hw.step hb) Ty.bd9 rfl rfl (fun w1 hw => (by have h := sameIDs_spec _ _ (frI ((ordE (laidL 128 xs)).filter ownB) me) (frI ((ordE (laidL 128 xs)).filter ownB) me) w1 (vec_rowM (hF.1 hp4) hw (fun q hq => by simp [hq, hp4])) (vec_rowM (hF.2.1 hp7) hw (fun q hq => by simp [hq, hp7])) (by omega) (by omega); simpa using h)) ?_
        exact J.finX rfl (fun _ hw => ⟨⟨v4, l4, v7, l7, v14, l14, v18, l18, v23, l23, v25, l25, v40, l40⟩, rfl, fun _ _ _ => rfl, hF, hw⟩)
      · skip
        obtain ⟨v4, l4, v7, l7, v14, l14, v18, l18, v23, l23, v25, l25, v40, l40⟩ := x
        show J _ _ _ _ _ ((44, .bool true) :: (37, .bool true) :: _) _
        refine J.pr (fun hF => ?_)
        (first | refine J.pickT rfl rfl rfl ?_ | refine J.pickF rfl rfl rfl ?_)
        exact J.finX rfl (fun _ hw => ⟨⟨v4, l4, v7, l7, v14, l14, v18, l18, v23, l23, v25, l25, v40, l40⟩, rfl, fun _ _ _ => rfl, hF, hw⟩)
      · skip
        obtain ⟨v4, l4, v7, l7, v14, l14, v18, l18, v23, l23, v25, l25, v40, l40⟩ := x
        show J _ _ _ _ _ ((44, .bool true) :: (45, .bool true) :: _) _
        refine J.pr (fun hF => ?_)
        refine J.move rfl rfl ?_
        exact J.finX rfl (fun _ hw => ⟨⟨v4, l4, v7, l7, v14, l14, v18, l18, v23, l23, v25, l25, v40, l40⟩, rfl, fun _ _ _ => rfl, hF, hw⟩)
      · skip
        obtain ⟨v4, l4, v7, l7, v14, l14, v18, l18, v23, l23, v25, l25, v40, l40⟩ := x
        show J _ _ _ _ _ ((46, .bool true) :: _) _
        refine J.pr (fun hF => ?_)
        first | refine J.skip rfl rfl rfl rfl rfl ?_ | refine J.skipU rfl rfl rfl rfl ?_ | (refine J.unguard rfl rfl rfl ?_; refine J.move rfl rfl ?_)
        exact J.finX rfl (fun _ hw => ⟨⟨v4, l4, v7, l7, v14, l14, v18, l18, v23, l23, v25, l25, v40, l40⟩, rfl, fun _ _ _ => rfl, hF, hw⟩)
      · skip
        obtain ⟨v4, l4, v7, l7, v14, l14, v18, l18, v23, l23, v25, l25, v40, l40⟩ := x
        show J _ _ _ _ _ ((46, .bool true) :: _) _
        refine J.pr (fun hF => ?_)
        refine J.unguard rfl rfl rfl ?_
        refine J.loadA (vs := cI me) Ty.a24 Ty.s24 rfl rfl (fun w1 hw => Cells.of_block (hw.own ((x4, cb (cI me) 24)) (by repeat first | exact .head _ | apply List.Mem.tail | apply List.mem_append_right)) rfl) rfl ?_
        exact J.finX rfl (fun _ hw => ⟨⟨v4, l4, v7, l7, v14, l14, v18, l18, v23, l23, v25, l25, v40, l40⟩, rfl, fun _ _ _ => rfl, hF, hw⟩)
      · skip
        obtain ⟨v4, l4, v7, l7, v14, l14, v18, l18, v23, l23, v25, l25, v40, l40⟩ := x
        show J _ _ _ _ _ ((46, .bool true) :: _) _
        refine J.pr (fun hF => ?_)
        first | refine J.skip rfl rfl rfl rfl rfl ?_ | refine J.skipU rfl rfl rfl rfl ?_ | (refine J.unguard rfl rfl rfl ?_; refine J.move rfl rfl ?_)
        exact J.finX rfl (fun _ hw => ⟨⟨v4, l4, v7, l7, v14, l14, v18, l18, v23, l23, v25, l25, v40, l40⟩, rfl, fun _ _ _ => rfl, hF, hw⟩)
      · skip
        obtain ⟨v4, l4, v7, l7, v14, l14, v18, l18, v23, l23, v25, l25, v40, l40⟩ := x
        show J _ _ _ _ _ ((46, .bool true) :: (46, .bool true) :: (49, .int .i64 half) :: (48, .agg (cI me).toArray) :: (47, .pointer (some ⟨t1, 0, none⟩)) :: _) _
        refine J.pr (fun hF => ?_)
        refine J.unguard rfl rfl rfl ?_
        refine J.perm ([] ++ ((bif m 4 then l4 else []) ++ ((bif m 7 then l7 else []) ++ ((bif m 14 then l14 else []) ++ ((bif m 18 then l18 else []) ++ ((bif m 23 then l23 else []) ++ ((bif m 25 then l25 else []) ++ ((bif m 40 then l40 else []) ++ ((b13, cb (cE ((fiE ((ordE (laidL 128 xs)).filter ownB) id).getD zE)) 33) :: (b11, cb (cE ((fiE ((ordE (laidL 128 xs)).filter ownB) id).getD zE)) 33) :: (t1, tabO 128 m1) :: (m1, .map es ck) :: (rt, rtabO vr 128) :: ((x4, cb (cI me) 24) :: (x5, cb (cI id) 24) :: lr)))))))))) (.refl _) ?_
        refine J.callS (α := Value × List (Nat × Obj)) (V := (·.1)) (Pr := fun x => Vec 31 17 x.1 ((spP ((ordE (laidL 128 xs)).filter ownB) (wnI ((ordE (laidL 128 xs)).filter ownB) me half))).length (fP ((spP ((ordE (laidL 128 xs)).filter ownB) (wnI ((ordE (laidL 128 xs)).filter ownB) me half)))) x.2) (L := (·.2)) (l1 := []) Ty.bd13 rfl rfl (fun w1 hw => spare_spec t1 m1 128 (laidL 128 xs) es ck w1 (hw.own (t1, tabO 128 m1) (by repeat first | exact .head _ | apply List.Mem.tail | apply List.mem_append_right)) (hw.own (m1, .map es ck) (by repeat first | exact .head _ | apply List.Mem.tail | apply List.mem_append_right)) hT (by omega) me half) (fun x hvn => ?_)
        obtain ⟨vn, ln⟩ := x
        simp only at hvn ⊢
        refine J.nil (JX.finB rfl (fun w1 hw => ⟨⟨⟨v4, l4, v7, l7, vn, ln, v18, l18, v23, l23, v25, l25, v40, l40⟩, rfl, fun j h1 h2 => ?_, ?_⟩, trivial⟩))
        · match j, h1 with
          | 0, _ => (first | rfl | trivial)
          | 1, _ => (first | rfl | trivial)
          | 2, _ => (first | rfl | trivial)
          | 3, _ => (first | rfl | trivial)
          | 4, _ => (first | rfl | trivial)
          | 5, _ => (first | rfl | trivial)
          | 6, _ => (first | rfl | trivial)
          | 7, _ => (first | rfl | trivial)
          | 8, _ => (first | rfl | trivial)
          | 9, _ => (first | rfl | trivial)
          | 10, _ => (first | rfl | trivial)
          | 11, _ => (first | rfl | trivial)
          | 12, _ => (first | rfl | trivial)
          | 13, _ => (first | rfl | trivial)
          | 14, _ => exact absurd (h2.symm.trans hm) (by decide)
          | 15, _ => (first | rfl | trivial)
          | 16, _ => (first | rfl | trivial)
          | 17, _ => (first | rfl | trivial)
          | 18, _ => (first | rfl | trivial)
          | 19, _ => (first | rfl | trivial)
          | 20, _ => (first | rfl | trivial)
          | 21, _ => (first | rfl | trivial)
          | 22, _ => (first | rfl | trivial)
          | 23, _ => (first | rfl | trivial)
          | 24, _ => (first | rfl | trivial)
          | 25, _ => (first | rfl | trivial)
          | 26, _ => (first | rfl | trivial)
          | 27, _ => (first | rfl | trivial)
          | 28, _ => (first | rfl | trivial)
          | 29, _ => (first | rfl | trivial)
          | 30, _ => (first | rfl | trivial)
          | 31, _ => (first | rfl | trivial)
          | 32, _ => (first | rfl | trivial)
          | 33, _ => (first | rfl | trivial)
          | 34, _ => (first | rfl | trivial)
          | 35, _ => (first | rfl | trivial)
          | 36, _ => (first | rfl | trivial)
          | 37, _ => (first | rfl | trivial)
          | 38, _ => (first | rfl | trivial)
          | 39, _ => (first | rfl | trivial)
          | 40, _ => (first | rfl | trivial)
          | 41, _ => (first | rfl | trivial)
          | 42, _ => (first | rfl | trivial)
          | 43, _ => (first | rfl | trivial)
          | 44, _ => (first | rfl | trivial)
          | 45, _ => (first | rfl | trivial)
          | 46, _ => (first | rfl | trivial)
          | j + 47, h1 => omega
        show ((m 4 = true → Vec 24 16 v4 ((frI ((ordE (laidL 128 xs)).filter ownB) me)).length (fI ((frI ((ordE (laidL 128 xs)).filter ownB) me))) l4) ∧ (m 7 = true → Vec 24 16 v7 ((frI ((ordE (laidL 128 xs)).filter ownB) me)).length (fI ((frI ((ordE (laidL 128 xs)).filter ownB) me))) l7) ∧ (true = true → Vec 31 17 vn ((spP ((ordE (laidL 128 xs)).filter ownB) (wnI ((ordE (laidL 128 xs)).filter ownB) me half))).length (fP ((spP ((ordE (laidL 128 xs)).filter ownB) (wnI ((ordE (laidL 128 xs)).filter ownB) me half)))) ln) ∧ (m 18 = true → Vec 31 17 v18 ((spP ((ordE (laidL 128 xs)).filter ownB) (wnI ((ordE (laidL 128 xs)).filter ownB) me half))).length (fP ((spP ((ordE (laidL 128 xs)).filter ownB) (wnI ((ordE (laidL 128 xs)).filter ownB) me half)))) l18) ∧ (m 23 = true → Vec 31 17 v23 ((twP ((ordE (laidL 128 xs)).filter ownB) ((ordE (laidL 128 xs)).filter ownB).length)).length (fP ((twP ((ordE (laidL 128 xs)).filter ownB) ((ordE (laidL 128 xs)).filter ownB).length))) l23) ∧ (m 25 = true → Vec 31 17 v25 ((twP ((ordE (laidL 128 xs)).filter ownB) ((ordE (laidL 128 xs)).filter ownB).length)).length (fP ((twP ((ordE (laidL 128 xs)).filter ownB) ((ordE (laidL 128 xs)).filter ownB).length))) l25) ∧ (m 40 = true → Vec 33 51 v40 ((ordE (laidL 128 xs))).length (fE ((ordE (laidL 128 xs)))) l40)) ∧ St w [] ((bif m 4 then l4 else []) ++ ((bif m 7 then l7 else []) ++ ((bif true then ln else []) ++ ((bif m 18 then l18 else []) ++ ((bif m 23 then l23 else []) ++ ((bif m 25 then l25 else []) ++ ((bif m 40 then l40 else []) ++ ((b13, cb (cE ((fiE ((ordE (laidL 128 xs)).filter ownB) id).getD zE)) 33) :: (b11, cb (cE ((fiE ((ordE (laidL 128 xs)).filter ownB) id).getD zE)) 33) :: (t1, tabO 128 m1) :: (m1, .map es ck) :: (rt, rtabO vr 128) :: ((x4, cb (cI me) 24) :: (x5, cb (cI id) 24) :: lr))))))))) w1
        simp only [hm, cond_true, cond_false] at hw ⊢
        exact ⟨⟨hF.1, hF.2.1, fun _ => hvn, hF.2.2.2.1, hF.2.2.2.2.1, hF.2.2.2.2.2.1, hF.2.2.2.2.2.2⟩, hw.perm (by (refine perm_cnt (fun _ => ?_)); simp only [cntB_append, cntB_cons, cntB_nil, Nat.add_zero, Nat.zero_add]; try ac_rfl)⟩
      · skip
        obtain ⟨v4, l4, v7, l7, v14, l14, v18, l18, v23, l23, v25, l25, v40, l40⟩ := x
        show J _ _ _ _ _ ((46, .bool true) :: _) _
        refine J.pr (fun hF => ?_)
        first | refine J.skip rfl rfl rfl rfl rfl ?_ | refine J.skipU rfl rfl rfl rfl ?_ | (refine J.unguard rfl rfl rfl ?_; refine J.move rfl rfl ?_)
        exact J.finX rfl (fun _ hw => ⟨⟨v4, l4, v7, l7, v14, l14, v18, l18, v23, l23, v25, l25, v40, l40⟩, rfl, fun _ _ _ => rfl, hF, hw⟩)
      · skip
        obtain ⟨v4, l4, v7, l7, v14, l14, v18, l18, v23, l23, v25, l25, v40, l40⟩ := x
        show J _ _ _ _ _ ((46, .bool true) :: _) _
        refine J.pr (fun hF => ?_)
        refine J.unguard rfl rfl rfl ?_
        refine J.loadA (vs := cI me) Ty.a24 Ty.s24 rfl rfl (fun w1 hw => Cells.of_block (hw.own ((x4, cb (cI me) 24)) (by repeat first | exact .head _ | apply List.Mem.tail | apply List.mem_append_right)) rfl) rfl ?_
        exact J.finX rfl (fun _ hw => ⟨⟨v4, l4, v7, l7, v14, l14, v18, l18, v23, l23, v25, l25, v40, l40⟩, rfl, fun _ _ _ => rfl, hF, hw⟩)
      · skip
        obtain ⟨v4, l4, v7, l7, v14, l14, v18, l18, v23, l23, v25, l25, v40, l40⟩ := x
        show J _ _ _ _ _ ((46, .bool true) :: _) _
        refine J.pr (fun hF => ?_)
        first | refine J.skip rfl rfl rfl rfl rfl ?_ | refine J.skipU rfl rfl rfl rfl ?_ | (refine J.unguard rfl rfl rfl ?_; refine J.move rfl rfl ?_)
        exact J.finX rfl (fun _ hw => ⟨⟨v4, l4, v7, l7, v14, l14, v18, l18, v23, l23, v25, l25, v40, l40⟩, rfl, fun _ _ _ => rfl, hF, hw⟩)
      · skip
        obtain ⟨v4, l4, v7, l7, v14, l14, v18, l18, v23, l23, v25, l25, v40, l40⟩ := x
        show J _ _ _ _ _ ((46, .bool true) :: (50, v14) :: (53, .int .i64 half) :: (52, .agg (cI me).toArray) :: (51, .pointer (some ⟨rt, 0, none⟩)) :: _) _
        have hp14 : m 14 = true := predsT hp (by kernel_rfl)
        refine J.pr (fun hF => ?_)
        refine J.unguard rfl rfl rfl ?_
        refine J.perm ([] ++ ((bif m 4 then l4 else []) ++ ((bif m 7 then l7 else []) ++ ((bif m 14 then l14 else []) ++ ((bif m 18 then l18 else []) ++ ((bif m 23 then l23 else []) ++ ((bif m 25 then l25 else []) ++ ((bif m 40 then l40 else []) ++ ((b13, cb (cE ((fiE ((ordE (laidL 128 xs)).filter ownB) id).getD zE)) 33) :: (b11, cb (cE ((fiE ((ordE (laidL 128 xs)).filter ownB) id).getD zE)) 33) :: (t1, tabO 128 m1) :: (m1, .map es ck) :: (rt, rtabO vr 128) :: ((x4, cb (cI me) 24) :: (x5, cb (cI id) 24) :: lr)))))))))) (.refl _) ?_
        refine J.callS (α := Value × List (Nat × Obj)) (V := (·.1)) (Pr := fun x => Vec 31 17 x.1 ((spP ((ordE (laidL 128 xs)).filter ownB) (wnI ((ordE (laidL 128 xs)).filter ownB) me half))).length (fP ((spP ((ordE (laidL 128 xs)).filter ownB) (wnI ((ordE (laidL 128 xs)).filter ownB) me half)))) x.2) (L := (·.2)) (l1 := []) Ty.bd14 rfl rfl (fun w1 hw => rspare_spec rt vr 128 (ordE (laidL 128 xs)) w1 (hw.own (rt, rtabO vr 128) (by repeat first | exact .head _ | apply List.Mem.tail | apply List.mem_append_right)) (vec_rowM hvr hw (fun q hq => by first | (simp [hq]; done) | (simp at hq; simp [hq]; done) | (simp at hq; subst hq; simp))) (ordE_ok hT) (by omega) me half) (fun x hvn => ?_)
        obtain ⟨vn, ln⟩ := x
        simp only at hvn ⊢
        refine J.nil (JX.finB rfl (fun w1 hw => ⟨⟨⟨v4, l4, v7, l7, v14, l14, vn, ln, v23, l23, v25, l25, v40, l40⟩, rfl, fun j h1 h2 => ?_, ?_⟩, trivial⟩))
        · match j, h1 with
          | 0, _ => (first | rfl | trivial)
          | 1, _ => (first | rfl | trivial)
          | 2, _ => (first | rfl | trivial)
          | 3, _ => (first | rfl | trivial)
          | 4, _ => (first | rfl | trivial)
          | 5, _ => (first | rfl | trivial)
          | 6, _ => (first | rfl | trivial)
          | 7, _ => (first | rfl | trivial)
          | 8, _ => (first | rfl | trivial)
          | 9, _ => (first | rfl | trivial)
          | 10, _ => (first | rfl | trivial)
          | 11, _ => (first | rfl | trivial)
          | 12, _ => (first | rfl | trivial)
          | 13, _ => (first | rfl | trivial)
          | 14, _ => (first | rfl | trivial)
          | 15, _ => (first | rfl | trivial)
          | 16, _ => (first | rfl | trivial)
          | 17, _ => (first | rfl | trivial)
          | 18, _ => exact absurd (h2.symm.trans hm) (by decide)
          | 19, _ => (first | rfl | trivial)
          | 20, _ => (first | rfl | trivial)
          | 21, _ => (first | rfl | trivial)
          | 22, _ => (first | rfl | trivial)
          | 23, _ => (first | rfl | trivial)
          | 24, _ => (first | rfl | trivial)
          | 25, _ => (first | rfl | trivial)
          | 26, _ => (first | rfl | trivial)
          | 27, _ => (first | rfl | trivial)
          | 28, _ => (first | rfl | trivial)
          | 29, _ => (first | rfl | trivial)
          | 30, _ => (first | rfl | trivial)
          | 31, _ => (first | rfl | trivial)
          | 32, _ => (first | rfl | trivial)
          | 33, _ => (first | rfl | trivial)
          | 34, _ => (first | rfl | trivial)
          | 35, _ => (first | rfl | trivial)
          | 36, _ => (first | rfl | trivial)
          | 37, _ => (first | rfl | trivial)
          | 38, _ => (first | rfl | trivial)
          | 39, _ => (first | rfl | trivial)
          | 40, _ => (first | rfl | trivial)
          | 41, _ => (first | rfl | trivial)
          | 42, _ => (first | rfl | trivial)
          | 43, _ => (first | rfl | trivial)
          | 44, _ => (first | rfl | trivial)
          | 45, _ => (first | rfl | trivial)
          | 46, _ => (first | rfl | trivial)
          | j + 47, h1 => omega
        show ((m 4 = true → Vec 24 16 v4 ((frI ((ordE (laidL 128 xs)).filter ownB) me)).length (fI ((frI ((ordE (laidL 128 xs)).filter ownB) me))) l4) ∧ (m 7 = true → Vec 24 16 v7 ((frI ((ordE (laidL 128 xs)).filter ownB) me)).length (fI ((frI ((ordE (laidL 128 xs)).filter ownB) me))) l7) ∧ (m 14 = true → Vec 31 17 v14 ((spP ((ordE (laidL 128 xs)).filter ownB) (wnI ((ordE (laidL 128 xs)).filter ownB) me half))).length (fP ((spP ((ordE (laidL 128 xs)).filter ownB) (wnI ((ordE (laidL 128 xs)).filter ownB) me half)))) l14) ∧ (true = true → Vec 31 17 vn ((spP ((ordE (laidL 128 xs)).filter ownB) (wnI ((ordE (laidL 128 xs)).filter ownB) me half))).length (fP ((spP ((ordE (laidL 128 xs)).filter ownB) (wnI ((ordE (laidL 128 xs)).filter ownB) me half)))) ln) ∧ (m 23 = true → Vec 31 17 v23 ((twP ((ordE (laidL 128 xs)).filter ownB) ((ordE (laidL 128 xs)).filter ownB).length)).length (fP ((twP ((ordE (laidL 128 xs)).filter ownB) ((ordE (laidL 128 xs)).filter ownB).length))) l23) ∧ (m 25 = true → Vec 31 17 v25 ((twP ((ordE (laidL 128 xs)).filter ownB) ((ordE (laidL 128 xs)).filter ownB).length)).length (fP ((twP ((ordE (laidL 128 xs)).filter ownB) ((ordE (laidL 128 xs)).filter ownB).length))) l25) ∧ (m 40 = true → Vec 33 51 v40 ((ordE (laidL 128 xs))).length (fE ((ordE (laidL 128 xs)))) l40)) ∧ St w [] ((bif m 4 then l4 else []) ++ ((bif m 7 then l7 else []) ++ ((bif m 14 then l14 else []) ++ ((bif true then ln else []) ++ ((bif m 23 then l23 else []) ++ ((bif m 25 then l25 else []) ++ ((bif m 40 then l40 else []) ++ ((b13, cb (cE ((fiE ((ordE (laidL 128 xs)).filter ownB) id).getD zE)) 33) :: (b11, cb (cE ((fiE ((ordE (laidL 128 xs)).filter ownB) id).getD zE)) 33) :: (t1, tabO 128 m1) :: (m1, .map es ck) :: (rt, rtabO vr 128) :: ((x4, cb (cI me) 24) :: (x5, cb (cI id) 24) :: lr))))))))) w1
        simp only [hm, cond_true, cond_false] at hw ⊢
        exact ⟨⟨hF.1, hF.2.1, hF.2.2.1, fun _ => hvn, hF.2.2.2.2.1, hF.2.2.2.2.2.1, hF.2.2.2.2.2.2⟩, hw.perm (by (refine perm_cnt (fun _ => ?_)); simp only [cntB_append, cntB_cons, cntB_nil, Nat.add_zero, Nat.zero_add]; try ac_rfl)⟩
      · skip
        obtain ⟨v4, l4, v7, l7, v14, l14, v18, l18, v23, l23, v25, l25, v40, l40⟩ := x
        show J _ _ _ _ _ ((46, .bool true) :: (54, v18) :: (54, v18) :: (50, v14) :: _) _
        have hp14 : m 14 = true := predsT hp (by kernel_rfl)
        have hp18 : m 18 = true := predsT hp (by kernel_rfl)
        have hp18 : m 18 = true := predsT hp (by kernel_rfl)
        refine J.pr (fun hF => ?_)
        refine J.unguard rfl rfl rfl ?_
        refine J.callB (v := .bool true) (fun w1 w2 hw hb => hw.step hb) Ty.bd12 rfl rfl (fun w1 hw => samePaths_spec _ _ (spP ((ordE (laidL 128 xs)).filter ownB) (wnI ((ordE (laidL 128 xs)).filter ownB) me half)) w1 (vec_rowM (hF.2.2.1 hp14) hw (fun q hq => by simp [hq, hp14])) (vec_rowM (hF.2.2.2.1 hp18) hw (fun q hq => by simp [hq, hp18])) (sp_ok hO) (by omega)) ?_
        exact J.finX rfl (fun _ hw => ⟨⟨v4, l4, v7, l7, v14, l14, v18, l18, v23, l23, v25, l25, v40, l40⟩, rfl, fun _ _ _ => rfl, hF, hw⟩)
      · skip
        obtain ⟨v4, l4, v7, l7, v14, l14, v18, l18, v23, l23, v25, l25, v40, l40⟩ := x
        show J _ _ _ _ _ ((55, .bool true) :: (46, .bool true) :: _) _
        refine J.pr (fun hF => ?_)
        (first | refine J.pickT rfl rfl rfl ?_ | refine J.pickF rfl rfl rfl ?_)
        exact J.finX rfl (fun _ hw => ⟨⟨v4, l4, v7, l7, v14, l14, v18, l18, v23, l23, v25, l25, v40, l40⟩, rfl, fun _ _ _ => rfl, hF, hw⟩)
      · skip
        obtain ⟨v4, l4, v7, l7, v14, l14, v18, l18, v23, l23, v25, l25, v40, l40⟩ := x
        show J _ _ _ _ _ ((55, .bool true) :: (56, .bool true) :: _) _
        refine J.pr (fun hF => ?_)
        refine J.move rfl rfl ?_
        exact J.finX rfl (fun _ hw => ⟨⟨v4, l4, v7, l7, v14, l14, v18, l18, v23, l23, v25, l25, v40, l40⟩, rfl, fun _ _ _ => rfl, hF, hw⟩)
      · skip
        obtain ⟨v4, l4, v7, l7, v14, l14, v18, l18, v23, l23, v25, l25, v40, l40⟩ := x
        show J _ _ _ _ _ ((57, .bool true) :: _) _
        refine J.pr (fun hF => ?_)
        first | refine J.skip rfl rfl rfl rfl rfl ?_ | refine J.skipU rfl rfl rfl rfl ?_ | (refine J.unguard rfl rfl rfl ?_; refine J.move rfl rfl ?_)
        exact J.finX rfl (fun _ hw => ⟨⟨v4, l4, v7, l7, v14, l14, v18, l18, v23, l23, v25, l25, v40, l40⟩, rfl, fun _ _ _ => rfl, hF, hw⟩)
      · skip
        obtain ⟨v4, l4, v7, l7, v14, l14, v18, l18, v23, l23, v25, l25, v40, l40⟩ := x
        show J _ _ _ _ _ ((57, .bool true) :: (57, .bool true) :: (58, .pointer (some ⟨t1, 0, none⟩)) :: _) _
        refine J.pr (fun hF => ?_)
        refine J.unguard rfl rfl rfl ?_
        refine J.perm ([] ++ ((bif m 4 then l4 else []) ++ ((bif m 7 then l7 else []) ++ ((bif m 14 then l14 else []) ++ ((bif m 18 then l18 else []) ++ ((bif m 23 then l23 else []) ++ ((bif m 25 then l25 else []) ++ ((bif m 40 then l40 else []) ++ ((b13, cb (cE ((fiE ((ordE (laidL 128 xs)).filter ownB) id).getD zE)) 33) :: (b11, cb (cE ((fiE ((ordE (laidL 128 xs)).filter ownB) id).getD zE)) 33) :: (t1, tabO 128 m1) :: (m1, .map es ck) :: (rt, rtabO vr 128) :: ((x4, cb (cI me) 24) :: (x5, cb (cI id) 24) :: lr)))))))))) (.refl _) ?_
        refine J.callS (α := Value × List (Nat × Obj)) (V := (·.1)) (Pr := fun x => Vec 31 17 x.1 ((twP ((ordE (laidL 128 xs)).filter ownB) ((ordE (laidL 128 xs)).filter ownB).length)).length (fP ((twP ((ordE (laidL 128 xs)).filter ownB) ((ordE (laidL 128 xs)).filter ownB).length))) x.2) (L := (·.2)) (l1 := []) Ty.bd15 rfl rfl (fun w1 hw => twins_spec t1 m1 128 (laidL 128 xs) es ck w1 (hw.own (t1, tabO 128 m1) (by repeat first | exact .head _ | apply List.Mem.tail | apply List.mem_append_right)) (hw.own (m1, .map es ck) (by repeat first | exact .head _ | apply List.Mem.tail | apply List.mem_append_right)) hT (by omega)) (fun x hvn => ?_)
        obtain ⟨vn, ln⟩ := x
        simp only at hvn ⊢
        refine J.nil (JX.finB rfl (fun w1 hw => ⟨⟨⟨v4, l4, v7, l7, v14, l14, v18, l18, vn, ln, v25, l25, v40, l40⟩, rfl, fun j h1 h2 => ?_, ?_⟩, trivial⟩))
        · match j, h1 with
          | 0, _ => (first | rfl | trivial)
          | 1, _ => (first | rfl | trivial)
          | 2, _ => (first | rfl | trivial)
          | 3, _ => (first | rfl | trivial)
          | 4, _ => (first | rfl | trivial)
          | 5, _ => (first | rfl | trivial)
          | 6, _ => (first | rfl | trivial)
          | 7, _ => (first | rfl | trivial)
          | 8, _ => (first | rfl | trivial)
          | 9, _ => (first | rfl | trivial)
          | 10, _ => (first | rfl | trivial)
          | 11, _ => (first | rfl | trivial)
          | 12, _ => (first | rfl | trivial)
          | 13, _ => (first | rfl | trivial)
          | 14, _ => (first | rfl | trivial)
          | 15, _ => (first | rfl | trivial)
          | 16, _ => (first | rfl | trivial)
          | 17, _ => (first | rfl | trivial)
          | 18, _ => (first | rfl | trivial)
          | 19, _ => (first | rfl | trivial)
          | 20, _ => (first | rfl | trivial)
          | 21, _ => (first | rfl | trivial)
          | 22, _ => (first | rfl | trivial)
          | 23, _ => exact absurd (h2.symm.trans hm) (by decide)
          | 24, _ => (first | rfl | trivial)
          | 25, _ => (first | rfl | trivial)
          | 26, _ => (first | rfl | trivial)
          | 27, _ => (first | rfl | trivial)
          | 28, _ => (first | rfl | trivial)
          | 29, _ => (first | rfl | trivial)
          | 30, _ => (first | rfl | trivial)
          | 31, _ => (first | rfl | trivial)
          | 32, _ => (first | rfl | trivial)
          | 33, _ => (first | rfl | trivial)
          | 34, _ => (first | rfl | trivial)
          | 35, _ => (first | rfl | trivial)
          | 36, _ => (first | rfl | trivial)
          | 37, _ => (first | rfl | trivial)
          | 38, _ => (first | rfl | trivial)
          | 39, _ => (first | rfl | trivial)
          | 40, _ => (first | rfl | trivial)
          | 41, _ => (first | rfl | trivial)
          | 42, _ => (first | rfl | trivial)
          | 43, _ => (first | rfl | trivial)
          | 44, _ => (first | rfl | trivial)
          | 45, _ => (first | rfl | trivial)
          | 46, _ => (first | rfl | trivial)
          | j + 47, h1 => omega
        show ((m 4 = true → Vec 24 16 v4 ((frI ((ordE (laidL 128 xs)).filter ownB) me)).length (fI ((frI ((ordE (laidL 128 xs)).filter ownB) me))) l4) ∧ (m 7 = true → Vec 24 16 v7 ((frI ((ordE (laidL 128 xs)).filter ownB) me)).length (fI ((frI ((ordE (laidL 128 xs)).filter ownB) me))) l7) ∧ (m 14 = true → Vec 31 17 v14 ((spP ((ordE (laidL 128 xs)).filter ownB) (wnI ((ordE (laidL 128 xs)).filter ownB) me half))).length (fP ((spP ((ordE (laidL 128 xs)).filter ownB) (wnI ((ordE (laidL 128 xs)).filter ownB) me half)))) l14) ∧ (m 18 = true → Vec 31 17 v18 ((spP ((ordE (laidL 128 xs)).filter ownB) (wnI ((ordE (laidL 128 xs)).filter ownB) me half))).length (fP ((spP ((ordE (laidL 128 xs)).filter ownB) (wnI ((ordE (laidL 128 xs)).filter ownB) me half)))) l18) ∧ (true = true → Vec 31 17 vn ((twP ((ordE (laidL 128 xs)).filter ownB) ((ordE (laidL 128 xs)).filter ownB).length)).length (fP ((twP ((ordE (laidL 128 xs)).filter ownB) ((ordE (laidL 128 xs)).filter ownB).length))) ln) ∧ (m 25 = true → Vec 31 17 v25 ((twP ((ordE (laidL 128 xs)).filter ownB) ((ordE (laidL 128 xs)).filter ownB).length)).length (fP ((twP ((ordE (laidL 128 xs)).filter ownB) ((ordE (laidL 128 xs)).filter ownB).length))) l25) ∧ (m 40 = true → Vec 33 51 v40 ((ordE (laidL 128 xs))).length (fE ((ordE (laidL 128 xs)))) l40)) ∧ St w [] ((bif m 4 then l4 else []) ++ ((bif m 7 then l7 else []) ++ ((bif m 14 then l14 else []) ++ ((bif m 18 then l18 else []) ++ ((bif true then ln else []) ++ ((bif m 25 then l25 else []) ++ ((bif m 40 then l40 else []) ++ ((b13, cb (cE ((fiE ((ordE (laidL 128 xs)).filter ownB) id).getD zE)) 33) :: (b11, cb (cE ((fiE ((ordE (laidL 128 xs)).filter ownB) id).getD zE)) 33) :: (t1, tabO 128 m1) :: (m1, .map es ck) :: (rt, rtabO vr 128) :: ((x4, cb (cI me) 24) :: (x5, cb (cI id) 24) :: lr))))))))) w1
        simp only [hm, cond_true, cond_false] at hw ⊢
        exact ⟨⟨hF.1, hF.2.1, hF.2.2.1, hF.2.2.2.1, fun _ => hvn, hF.2.2.2.2.2.1, hF.2.2.2.2.2.2⟩, hw.perm (by (refine perm_cnt (fun _ => ?_)); simp only [cntB_append, cntB_cons, cntB_nil, Nat.add_zero, Nat.zero_add]; try ac_rfl)⟩
      · skip
        obtain ⟨v4, l4, v7, l7, v14, l14, v18, l18, v23, l23, v25, l25, v40, l40⟩ := x
        show J _ _ _ _ _ ((57, .bool true) :: _) _
        refine J.pr (fun hF => ?_)
        first | refine J.skip rfl rfl rfl rfl rfl ?_ | refine J.skipU rfl rfl rfl rfl ?_ | (refine J.unguard rfl rfl rfl ?_; refine J.move rfl rfl ?_)
        exact J.finX rfl (fun _ hw => ⟨⟨v4, l4, v7, l7, v14, l14, v18, l18, v23, l23, v25, l25, v40, l40⟩, rfl, fun _ _ _ => rfl, hF, hw⟩)
      · skip
        obtain ⟨v4, l4, v7, l7, v14, l14, v18, l18, v23, l23, v25, l25, v40, l40⟩ := x
        show J _ _ _ _ _ ((57, .bool true) :: (59, v23) :: (60, .pointer (some ⟨rt, 0, none⟩)) :: _) _
        have hp23 : m 23 = true := predsT hp (by kernel_rfl)
        refine J.pr (fun hF => ?_)
        refine J.unguard rfl rfl rfl ?_
        refine J.perm ([] ++ ((bif m 4 then l4 else []) ++ ((bif m 7 then l7 else []) ++ ((bif m 14 then l14 else []) ++ ((bif m 18 then l18 else []) ++ ((bif m 23 then l23 else []) ++ ((bif m 25 then l25 else []) ++ ((bif m 40 then l40 else []) ++ ((b13, cb (cE ((fiE ((ordE (laidL 128 xs)).filter ownB) id).getD zE)) 33) :: (b11, cb (cE ((fiE ((ordE (laidL 128 xs)).filter ownB) id).getD zE)) 33) :: (t1, tabO 128 m1) :: (m1, .map es ck) :: (rt, rtabO vr 128) :: ((x4, cb (cI me) 24) :: (x5, cb (cI id) 24) :: lr)))))))))) (.refl _) ?_
        refine J.callS (α := Value × List (Nat × Obj)) (V := (·.1)) (Pr := fun x => Vec 31 17 x.1 ((twP ((ordE (laidL 128 xs)).filter ownB) ((ordE (laidL 128 xs)).filter ownB).length)).length (fP ((twP ((ordE (laidL 128 xs)).filter ownB) ((ordE (laidL 128 xs)).filter ownB).length))) x.2) (L := (·.2)) (l1 := []) Ty.bd16 rfl rfl (fun w1 hw => rtwins_spec rt vr 128 (ordE (laidL 128 xs)) w1 (hw.own (rt, rtabO vr 128) (by repeat first | exact .head _ | apply List.Mem.tail | apply List.mem_append_right)) (vec_rowM hvr hw (fun q hq => by first | (simp [hq]; done) | (simp at hq; simp [hq]; done) | (simp at hq; subst hq; simp))) (ordE_ok hT) (by omega)) (fun x hvn => ?_)
        obtain ⟨vn, ln⟩ := x
        simp only at hvn ⊢
        refine J.nil (JX.finB rfl (fun w1 hw => ⟨⟨⟨v4, l4, v7, l7, v14, l14, v18, l18, v23, l23, vn, ln, v40, l40⟩, rfl, fun j h1 h2 => ?_, ?_⟩, trivial⟩))
        · match j, h1 with
          | 0, _ => (first | rfl | trivial)
          | 1, _ => (first | rfl | trivial)
          | 2, _ => (first | rfl | trivial)
          | 3, _ => (first | rfl | trivial)
          | 4, _ => (first | rfl | trivial)
          | 5, _ => (first | rfl | trivial)
          | 6, _ => (first | rfl | trivial)
          | 7, _ => (first | rfl | trivial)
          | 8, _ => (first | rfl | trivial)
          | 9, _ => (first | rfl | trivial)
          | 10, _ => (first | rfl | trivial)
          | 11, _ => (first | rfl | trivial)
          | 12, _ => (first | rfl | trivial)
          | 13, _ => (first | rfl | trivial)
          | 14, _ => (first | rfl | trivial)
          | 15, _ => (first | rfl | trivial)
          | 16, _ => (first | rfl | trivial)
          | 17, _ => (first | rfl | trivial)
          | 18, _ => (first | rfl | trivial)
          | 19, _ => (first | rfl | trivial)
          | 20, _ => (first | rfl | trivial)
          | 21, _ => (first | rfl | trivial)
          | 22, _ => (first | rfl | trivial)
          | 23, _ => (first | rfl | trivial)
          | 24, _ => (first | rfl | trivial)
          | 25, _ => exact absurd (h2.symm.trans hm) (by decide)
          | 26, _ => (first | rfl | trivial)
          | 27, _ => (first | rfl | trivial)
          | 28, _ => (first | rfl | trivial)
          | 29, _ => (first | rfl | trivial)
          | 30, _ => (first | rfl | trivial)
          | 31, _ => (first | rfl | trivial)
          | 32, _ => (first | rfl | trivial)
          | 33, _ => (first | rfl | trivial)
          | 34, _ => (first | rfl | trivial)
          | 35, _ => (first | rfl | trivial)
          | 36, _ => (first | rfl | trivial)
          | 37, _ => (first | rfl | trivial)
          | 38, _ => (first | rfl | trivial)
          | 39, _ => (first | rfl | trivial)
          | 40, _ => (first | rfl | trivial)
          | 41, _ => (first | rfl | trivial)
          | 42, _ => (first | rfl | trivial)
          | 43, _ => (first | rfl | trivial)
          | 44, _ => (first | rfl | trivial)
          | 45, _ => (first | rfl | trivial)
          | 46, _ => (first | rfl | trivial)
          | j + 47, h1 => omega
        show ((m 4 = true → Vec 24 16 v4 ((frI ((ordE (laidL 128 xs)).filter ownB) me)).length (fI ((frI ((ordE (laidL 128 xs)).filter ownB) me))) l4) ∧ (m 7 = true → Vec 24 16 v7 ((frI ((ordE (laidL 128 xs)).filter ownB) me)).length (fI ((frI ((ordE (laidL 128 xs)).filter ownB) me))) l7) ∧ (m 14 = true → Vec 31 17 v14 ((spP ((ordE (laidL 128 xs)).filter ownB) (wnI ((ordE (laidL 128 xs)).filter ownB) me half))).length (fP ((spP ((ordE (laidL 128 xs)).filter ownB) (wnI ((ordE (laidL 128 xs)).filter ownB) me half)))) l14) ∧ (m 18 = true → Vec 31 17 v18 ((spP ((ordE (laidL 128 xs)).filter ownB) (wnI ((ordE (laidL 128 xs)).filter ownB) me half))).length (fP ((spP ((ordE (laidL 128 xs)).filter ownB) (wnI ((ordE (laidL 128 xs)).filter ownB) me half)))) l18) ∧ (m 23 = true → Vec 31 17 v23 ((twP ((ordE (laidL 128 xs)).filter ownB) ((ordE (laidL 128 xs)).filter ownB).length)).length (fP ((twP ((ordE (laidL 128 xs)).filter ownB) ((ordE (laidL 128 xs)).filter ownB).length))) l23) ∧ (true = true → Vec 31 17 vn ((twP ((ordE (laidL 128 xs)).filter ownB) ((ordE (laidL 128 xs)).filter ownB).length)).length (fP ((twP ((ordE (laidL 128 xs)).filter ownB) ((ordE (laidL 128 xs)).filter ownB).length))) ln) ∧ (m 40 = true → Vec 33 51 v40 ((ordE (laidL 128 xs))).length (fE ((ordE (laidL 128 xs)))) l40)) ∧ St w [] ((bif m 4 then l4 else []) ++ ((bif m 7 then l7 else []) ++ ((bif m 14 then l14 else []) ++ ((bif m 18 then l18 else []) ++ ((bif m 23 then l23 else []) ++ ((bif true then ln else []) ++ ((bif m 40 then l40 else []) ++ ((b13, cb (cE ((fiE ((ordE (laidL 128 xs)).filter ownB) id).getD zE)) 33) :: (b11, cb (cE ((fiE ((ordE (laidL 128 xs)).filter ownB) id).getD zE)) 33) :: (t1, tabO 128 m1) :: (m1, .map es ck) :: (rt, rtabO vr 128) :: ((x4, cb (cI me) 24) :: (x5, cb (cI id) 24) :: lr))))))))) w1
        simp only [hm, cond_true, cond_false] at hw ⊢
        exact ⟨⟨hF.1, hF.2.1, hF.2.2.1, hF.2.2.2.1, hF.2.2.2.2.1, fun _ => hvn, hF.2.2.2.2.2.2⟩, hw.perm (by (refine perm_cnt (fun _ => ?_)); simp only [cntB_append, cntB_cons, cntB_nil, Nat.add_zero, Nat.zero_add]; try ac_rfl)⟩
      · skip
        obtain ⟨v4, l4, v7, l7, v14, l14, v18, l18, v23, l23, v25, l25, v40, l40⟩ := x
        show J _ _ _ _ _ ((57, .bool true) :: (61, v25) :: (61, v25) :: (59, v23) :: _) _
        have hp23 : m 23 = true := predsT hp (by kernel_rfl)
        have hp25 : m 25 = true := predsT hp (by kernel_rfl)
        have hp25 : m 25 = true := predsT hp (by kernel_rfl)
        refine J.pr (fun hF => ?_)
        refine J.unguard rfl rfl rfl ?_
        refine J.callB (v := .bool true) (fun w1 w2 hw hb => hw.step hb) Ty.bd12 rfl rfl (fun w1 hw => samePaths_spec _ _ (twP ((ordE (laidL 128 xs)).filter ownB) ((ordE (laidL 128 xs)).filter ownB).length) w1 (vec_rowM (hF.2.2.2.2.1 hp23) hw (fun q hq => by simp [hq, hp23])) (vec_rowM (hF.2.2.2.2.2.1 hp25) hw (fun q hq => by simp [hq, hp25])) (tw_ok hO _) (by omega)) ?_
        exact J.finX rfl (fun _ hw => ⟨⟨v4, l4, v7, l7, v14, l14, v18, l18, v23, l23, v25, l25, v40, l40⟩, rfl, fun _ _ _ => rfl, hF, hw⟩)
      · skip
        obtain ⟨v4, l4, v7, l7, v14, l14, v18, l18, v23, l23, v25, l25, v40, l40⟩ := x
        show J _ _ _ _ _ ((62, .bool true) :: (57, .bool true) :: _) _
        refine J.pr (fun hF => ?_)
        (first | refine J.pickT rfl rfl rfl ?_ | refine J.pickF rfl rfl rfl ?_)
        exact J.finX rfl (fun _ hw => ⟨⟨v4, l4, v7, l7, v14, l14, v18, l18, v23, l23, v25, l25, v40, l40⟩, rfl, fun _ _ _ => rfl, hF, hw⟩)
      · skip
        obtain ⟨v4, l4, v7, l7, v14, l14, v18, l18, v23, l23, v25, l25, v40, l40⟩ := x
        show J _ _ _ _ _ ((62, .bool true) :: (63, .bool true) :: _) _
        refine J.pr (fun hF => ?_)
        refine J.move rfl rfl ?_
        exact J.finX rfl (fun _ hw => ⟨⟨v4, l4, v7, l7, v14, l14, v18, l18, v23, l23, v25, l25, v40, l40⟩, rfl, fun _ _ _ => rfl, hF, hw⟩)
      · skip
        obtain ⟨v4, l4, v7, l7, v14, l14, v18, l18, v23, l23, v25, l25, v40, l40⟩ := x
        show J _ _ _ _ _ ((64, .bool true) :: _) _
        refine J.pr (fun hF => ?_)
        refine J.unguard rfl rfl rfl ?_
        refine J.loadA (vs := cE ((fiE ((ordE (laidL 128 xs)).filter ownB) id).getD zE)) Ty.a33 Ty.s33 rfl rfl (fun w1 hw => Cells.of_block (hw.own ((b11, cb (cE ((fiE ((ordE (laidL 128 xs)).filter ownB) id).getD zE)) 33)) (by repeat first | exact .head _ | apply List.Mem.tail | apply List.mem_append_right)) rfl) rfl ?_
        exact J.finX rfl (fun _ hw => ⟨⟨v4, l4, v7, l7, v14, l14, v18, l18, v23, l23, v25, l25, v40, l40⟩, rfl, fun _ _ _ => rfl, hF, hw⟩)
      · skip
        obtain ⟨v4, l4, v7, l7, v14, l14, v18, l18, v23, l23, v25, l25, v40, l40⟩ := x
        show J _ _ _ _ _ ((64, .bool true) :: _) _
        refine J.pr (fun hF => ?_)
        refine J.unguard rfl rfl rfl ?_
        refine J.loadA (vs := cE ((fiE ((ordE (laidL 128 xs)).filter ownB) id).getD zE)) Ty.a33 Ty.s33 rfl rfl (fun w1 hw => Cells.of_block (hw.own ((b13, cb (cE ((fiE ((ordE (laidL 128 xs)).filter ownB) id).getD zE)) 33)) (by repeat first | exact .head _ | apply List.Mem.tail | apply List.mem_append_right)) rfl) rfl ?_
        exact J.finX rfl (fun _ hw => ⟨⟨v4, l4, v7, l7, v14, l14, v18, l18, v23, l23, v25, l25, v40, l40⟩, rfl, fun _ _ _ => rfl, hF, hw⟩)
      · skip
        obtain ⟨v4, l4, v7, l7, v14, l14, v18, l18, v23, l23, v25, l25, v40, l40⟩ := x
        show J _ _ _ _ _ ((64, .bool true) :: (66, .agg (cE ((fiE ((ordE (laidL 128 xs)).filter ownB) id).getD zE)).toArray) :: (65, .agg (cE ((fiE ((ordE (laidL 128 xs)).filter ownB) id).getD zE)).toArray) :: _) _
        refine J.pr (fun hF => ?_)
        refine J.unguard rfl rfl rfl ?_
        refine J.eqE Ty.QE Ty.keyE rfl rfl (fi_ok hO) (fi_ok hO) rfl ?_
        refine J.name 67 rfl (show _ = Value.bool true by simp) ?_
        exact J.finX rfl (fun _ hw => ⟨⟨v4, l4, v7, l7, v14, l14, v18, l18, v23, l23, v25, l25, v40, l40⟩, rfl, fun _ _ _ => rfl, hF, hw⟩)
      · skip
        obtain ⟨v4, l4, v7, l7, v14, l14, v18, l18, v23, l23, v25, l25, v40, l40⟩ := x
        show J _ _ _ _ _ ((67, .bool true) :: (64, .bool true) :: _) _
        refine J.pr (fun hF => ?_)
        (first | refine J.pickT rfl rfl rfl ?_ | refine J.pickF rfl rfl rfl ?_)
        exact J.finX rfl (fun _ hw => ⟨⟨v4, l4, v7, l7, v14, l14, v18, l18, v23, l23, v25, l25, v40, l40⟩, rfl, fun _ _ _ => rfl, hF, hw⟩)
      · skip
        obtain ⟨v4, l4, v7, l7, v14, l14, v18, l18, v23, l23, v25, l25, v40, l40⟩ := x
        show J _ _ _ _ _ ((64, .bool true) :: (68, .bool true) :: _) _
        refine J.pr (fun hF => ?_)
        refine J.move rfl rfl ?_
        exact J.finX rfl (fun _ hw => ⟨⟨v4, l4, v7, l7, v14, l14, v18, l18, v23, l23, v25, l25, v40, l40⟩, rfl, fun _ _ _ => rfl, hF, hw⟩)
      · skip
        obtain ⟨v4, l4, v7, l7, v14, l14, v18, l18, v23, l23, v25, l25, v40, l40⟩ := x
        show J _ _ _ _ _ ((69, .bool true) :: _) _
        refine J.pr (fun hF => ?_)
        first | refine J.skip rfl rfl rfl rfl rfl ?_ | refine J.skipU rfl rfl rfl rfl ?_ | (refine J.unguard rfl rfl rfl ?_; refine J.move rfl rfl ?_)
        exact J.finX rfl (fun _ hw => ⟨⟨v4, l4, v7, l7, v14, l14, v18, l18, v23, l23, v25, l25, v40, l40⟩, rfl, fun _ _ _ => rfl, hF, hw⟩)
      · skip
        obtain ⟨v4, l4, v7, l7, v14, l14, v18, l18, v23, l23, v25, l25, v40, l40⟩ := x
        show J _ _ _ _ _ ((69, .bool true) :: _) _
        refine J.pr (fun hF => ?_)
        first | refine J.skip rfl rfl rfl rfl rfl ?_ | refine J.skipU rfl rfl rfl rfl ?_ | (refine J.unguard rfl rfl rfl ?_; refine J.move rfl rfl ?_)
        exact J.finX rfl (fun _ hw => ⟨⟨v4, l4, v7, l7, v14, l14, v18, l18, v23, l23, v25, l25, v40, l40⟩, rfl, fun _ _ _ => rfl, hF, hw⟩)
      · skip
        obtain ⟨v4, l4, v7, l7, v14, l14, v18, l18, v23, l23, v25, l25, v40, l40⟩ := x
        show J _ _ _ _ _ ((69, .bool true) :: (71, .bool (fiE ((ordE (laidL 128 xs)).filter ownB) id).isSome) :: (70, .bool (fiE ((ordE (laidL 128 xs)).filter ownB) id).isSome) :: _) _
        refine J.pr (fun hF => ?_)
        refine J.unguard rfl rfl rfl ?_
        refine J.eqBool (.inl rfl) Ty.u4 rfl rfl rfl ?_
        refine J.name 72 rfl (show _ = Value.bool true by simp) ?_
        exact J.finX rfl (fun _ hw => ⟨⟨v4, l4, v7, l7, v14, l14, v18, l18, v23, l23, v25, l25, v40, l40⟩, rfl, fun _ _ _ => rfl, hF, hw⟩)
      · skip
        obtain ⟨v4, l4, v7, l7, v14, l14, v18, l18, v23, l23, v25, l25, v40, l40⟩ := x
        show J _ _ _ _ _ ((72, .bool true) :: (69, .bool true) :: _) _
        refine J.pr (fun hF => ?_)
        (first | refine J.pickT rfl rfl rfl ?_ | refine J.pickF rfl rfl rfl ?_)
        exact J.finX rfl (fun _ hw => ⟨⟨v4, l4, v7, l7, v14, l14, v18, l18, v23, l23, v25, l25, v40, l40⟩, rfl, fun _ _ _ => rfl, hF, hw⟩)
      · skip
        obtain ⟨v4, l4, v7, l7, v14, l14, v18, l18, v23, l23, v25, l25, v40, l40⟩ := x
        show J _ _ _ _ _ ((69, .bool true) :: (73, .bool true) :: _) _
        refine J.pr (fun hF => ?_)
        refine J.move rfl rfl ?_
        exact J.finX rfl (fun _ hw => ⟨⟨v4, l4, v7, l7, v14, l14, v18, l18, v23, l23, v25, l25, v40, l40⟩, rfl, fun _ _ _ => rfl, hF, hw⟩)
      · skip
        obtain ⟨v4, l4, v7, l7, v14, l14, v18, l18, v23, l23, v25, l25, v40, l40⟩ := x
        show J _ _ _ _ _ ((74, .bool true) :: _) _
        refine J.pr (fun hF => ?_)
        first | refine J.skip rfl rfl rfl rfl rfl ?_ | refine J.skipU rfl rfl rfl rfl ?_ | (refine J.unguard rfl rfl rfl ?_; refine J.move rfl rfl ?_)
        exact J.finX rfl (fun _ hw => ⟨⟨v4, l4, v7, l7, v14, l14, v18, l18, v23, l23, v25, l25, v40, l40⟩, rfl, fun _ _ _ => rfl, hF, hw⟩)
      · skip
        obtain ⟨v4, l4, v7, l7, v14, l14, v18, l18, v23, l23, v25, l25, v40, l40⟩ := x
        show J _ _ _ _ _ ((74, .bool true) :: (74, .bool true) :: (75, .pointer (some ⟨t1, 0, none⟩)) :: _) _
        refine J.pr (fun hF => ?_)
        refine J.unguard rfl rfl rfl ?_
        refine J.perm ([] ++ ((bif m 4 then l4 else []) ++ ((bif m 7 then l7 else []) ++ ((bif m 14 then l14 else []) ++ ((bif m 18 then l18 else []) ++ ((bif m 23 then l23 else []) ++ ((bif m 25 then l25 else []) ++ ((bif m 40 then l40 else []) ++ ((b13, cb (cE ((fiE ((ordE (laidL 128 xs)).filter ownB) id).getD zE)) 33) :: (b11, cb (cE ((fiE ((ordE (laidL 128 xs)).filter ownB) id).getD zE)) 33) :: (t1, tabO 128 m1) :: (m1, .map es ck) :: (rt, rtabO vr 128) :: ((x4, cb (cI me) 24) :: (x5, cb (cI id) 24) :: lr)))))))))) (.refl _) ?_
        refine J.callS (α := Value × List (Nat × Obj)) (V := (·.1)) (Pr := fun x => Vec 33 51 x.1 ((ordE (laidL 128 xs))).length (fE ((ordE (laidL 128 xs)))) x.2) (L := (·.2)) (l1 := []) Ty.bd18 rfl rfl (fun w1 hw => all_spec t1 m1 128 (laidL 128 xs) es ck w1 (hw.own (t1, tabO 128 m1) (by repeat first | exact .head _ | apply List.Mem.tail | apply List.mem_append_right)) (hw.own (m1, .map es ck) (by repeat first | exact .head _ | apply List.Mem.tail | apply List.mem_append_right)) hT (by omega)) (fun x hvn => ?_)
        obtain ⟨vn, ln⟩ := x
        simp only at hvn ⊢
        refine J.nil (JX.finB rfl (fun w1 hw => ⟨⟨⟨v4, l4, v7, l7, v14, l14, v18, l18, v23, l23, v25, l25, vn, ln⟩, rfl, fun j h1 h2 => ?_, ?_⟩, trivial⟩))
        · match j, h1 with
          | 0, _ => (first | rfl | trivial)
          | 1, _ => (first | rfl | trivial)
          | 2, _ => (first | rfl | trivial)
          | 3, _ => (first | rfl | trivial)
          | 4, _ => (first | rfl | trivial)
          | 5, _ => (first | rfl | trivial)
          | 6, _ => (first | rfl | trivial)
          | 7, _ => (first | rfl | trivial)
          | 8, _ => (first | rfl | trivial)
          | 9, _ => (first | rfl | trivial)
          | 10, _ => (first | rfl | trivial)
          | 11, _ => (first | rfl | trivial)
          | 12, _ => (first | rfl | trivial)
          | 13, _ => (first | rfl | trivial)
          | 14, _ => (first | rfl | trivial)
          | 15, _ => (first | rfl | trivial)
          | 16, _ => (first | rfl | trivial)
          | 17, _ => (first | rfl | trivial)
          | 18, _ => (first | rfl | trivial)
          | 19, _ => (first | rfl | trivial)
          | 20, _ => (first | rfl | trivial)
          | 21, _ => (first | rfl | trivial)
          | 22, _ => (first | rfl | trivial)
          | 23, _ => (first | rfl | trivial)
          | 24, _ => (first | rfl | trivial)
          | 25, _ => (first | rfl | trivial)
          | 26, _ => (first | rfl | trivial)
          | 27, _ => (first | rfl | trivial)
          | 28, _ => (first | rfl | trivial)
          | 29, _ => (first | rfl | trivial)
          | 30, _ => (first | rfl | trivial)
          | 31, _ => (first | rfl | trivial)
          | 32, _ => (first | rfl | trivial)
          | 33, _ => (first | rfl | trivial)
          | 34, _ => (first | rfl | trivial)
          | 35, _ => (first | rfl | trivial)
          | 36, _ => (first | rfl | trivial)
          | 37, _ => (first | rfl | trivial)
          | 38, _ => (first | rfl | trivial)
          | 39, _ => (first | rfl | trivial)
          | 40, _ => exact absurd (h2.symm.trans hm) (by decide)
          | 41, _ => (first | rfl | trivial)
          | 42, _ => (first | rfl | trivial)
          | 43, _ => (first | rfl | trivial)
          | 44, _ => (first | rfl | trivial)
          | 45, _ => (first | rfl | trivial)
          | 46, _ => (first | rfl | trivial)
          | j + 47, h1 => omega
        show ((m 4 = true → Vec 24 16 v4 ((frI ((ordE (laidL 128 xs)).filter ownB) me)).length (fI ((frI ((ordE (laidL 128 xs)).filter ownB) me))) l4) ∧ (m 7 = true → Vec 24 16 v7 ((frI ((ordE (laidL 128 xs)).filter ownB) me)).length (fI ((frI ((ordE (laidL 128 xs)).filter ownB) me))) l7) ∧ (m 14 = true → Vec 31 17 v14 ((spP ((ordE (laidL 128 xs)).filter ownB) (wnI ((ordE (laidL 128 xs)).filter ownB) me half))).length (fP ((spP ((ordE (laidL 128 xs)).filter ownB) (wnI ((ordE (laidL 128 xs)).filter ownB) me half)))) l14) ∧ (m 18 = true → Vec 31 17 v18 ((spP ((ordE (laidL 128 xs)).filter ownB) (wnI ((ordE (laidL 128 xs)).filter ownB) me half))).length (fP ((spP ((ordE (laidL 128 xs)).filter ownB) (wnI ((ordE (laidL 128 xs)).filter ownB) me half)))) l18) ∧ (m 23 = true → Vec 31 17 v23 ((twP ((ordE (laidL 128 xs)).filter ownB) ((ordE (laidL 128 xs)).filter ownB).length)).length (fP ((twP ((ordE (laidL 128 xs)).filter ownB) ((ordE (laidL 128 xs)).filter ownB).length))) l23) ∧ (m 25 = true → Vec 31 17 v25 ((twP ((ordE (laidL 128 xs)).filter ownB) ((ordE (laidL 128 xs)).filter ownB).length)).length (fP ((twP ((ordE (laidL 128 xs)).filter ownB) ((ordE (laidL 128 xs)).filter ownB).length))) l25) ∧ (true = true → Vec 33 51 vn ((ordE (laidL 128 xs))).length (fE ((ordE (laidL 128 xs)))) ln)) ∧ St w [] ((bif m 4 then l4 else []) ++ ((bif m 7 then l7 else []) ++ ((bif m 14 then l14 else []) ++ ((bif m 18 then l18 else []) ++ ((bif m 23 then l23 else []) ++ ((bif m 25 then l25 else []) ++ ((bif true then ln else []) ++ ((b13, cb (cE ((fiE ((ordE (laidL 128 xs)).filter ownB) id).getD zE)) 33) :: (b11, cb (cE ((fiE ((ordE (laidL 128 xs)).filter ownB) id).getD zE)) 33) :: (t1, tabO 128 m1) :: (m1, .map es ck) :: (rt, rtabO vr 128) :: ((x4, cb (cI me) 24) :: (x5, cb (cI id) 24) :: lr))))))))) w1
        simp only [hm, cond_true, cond_false] at hw ⊢
        exact ⟨⟨hF.1, hF.2.1, hF.2.2.1, hF.2.2.2.1, hF.2.2.2.2.1, hF.2.2.2.2.2.1, fun _ => hvn⟩, hw.perm (by (refine perm_cnt (fun _ => ?_)); simp only [cntB_append, cntB_cons, cntB_nil, Nat.add_zero, Nat.zero_add]; try ac_rfl)⟩
      · skip
        obtain ⟨v4, l4, v7, l7, v14, l14, v18, l18, v23, l23, v25, l25, v40, l40⟩ := x
        show J _ _ _ _ _ ((74, .bool true) :: _) _
        refine J.pr (fun hF => ?_)
        first | refine J.skip rfl rfl rfl rfl rfl ?_ | refine J.skipU rfl rfl rfl rfl ?_ | (refine J.unguard rfl rfl rfl ?_; refine J.move rfl rfl ?_)
        exact J.finX rfl (fun _ hw => ⟨⟨v4, l4, v7, l7, v14, l14, v18, l18, v23, l23, v25, l25, v40, l40⟩, rfl, fun _ _ _ => rfl, hF, hw⟩)
      · skip
        obtain ⟨v4, l4, v7, l7, v14, l14, v18, l18, v23, l23, v25, l25, v40, l40⟩ := x
        show J _ _ _ _ _ ((74, .bool true) :: (77, .pointer (some ⟨rt, 0, none⟩)) :: _) _
        refine J.pr (fun hF => ?_)
        first | refine J.skip rfl rfl rfl rfl rfl ?_ | refine J.skipU rfl rfl rfl rfl ?_ | (refine J.unguard rfl rfl rfl ?_; refine J.nilCheck rfl rfl ?_)
        exact J.finX rfl (fun _ hw => ⟨⟨v4, l4, v7, l7, v14, l14, v18, l18, v23, l23, v25, l25, v40, l40⟩, rfl, fun _ _ _ => rfl, hF, hw⟩)
      · skip
        obtain ⟨v4, l4, v7, l7, v14, l14, v18, l18, v23, l23, v25, l25, v40, l40⟩ := x
        show J _ _ _ _ _ ((74, .bool true) :: (78, .pointer (some ⟨rt, 0, none⟩)) :: _) _
        refine J.pr (fun hF => ?_)
        first | refine J.skip rfl rfl rfl rfl rfl ?_ | refine J.skipU rfl rfl rfl rfl ?_ | (refine J.unguard rfl rfl rfl ?_; refine J.fieldAddr Ty.fd51_0 rfl rfl ?_)
        exact J.finX rfl (fun _ hw => ⟨⟨v4, l4, v7, l7, v14, l14, v18, l18, v23, l23, v25, l25, v40, l40⟩, rfl, fun _ _ _ => rfl, hF, hw⟩)
      · skip
        obtain ⟨v4, l4, v7, l7, v14, l14, v18, l18, v23, l23, v25, l25, v40, l40⟩ := x
        show J _ _ _ _ _ ((74, .bool true) :: (79, .pointer (some ⟨rt, 0 + 0, none⟩)) :: _) _
        refine J.pr (fun hF => ?_)
        refine J.unguard rfl rfl rfl ?_
        refine J.load1 (v := vr) Ty.a22 rfl (fun w1 hw => (cell_of (hw.own (rt, rtabO vr 128) (by repeat first | exact .head _ | apply List.Mem.tail | apply List.mem_append_right))).trans rfl) rfl ?_
        exact J.finX rfl (fun _ hw => ⟨⟨v4, l4, v7, l7, v14, l14, v18, l18, v23, l23, v25, l25, v40, l40⟩, rfl, fun _ _ _ => rfl, hF, hw⟩)
      · skip
        obtain ⟨v4, l4, v7, l7, v14, l14, v18, l18, v23, l23, v25, l25, v40, l40⟩ := x
        show J _ _ _ _ _ ((74, .bool true) :: (76, v40) :: (80, vr) :: (76, v40) :: _) _
        have hp40 : m 40 = true := predsT hp (by kernel_rfl)
        have hp40 : m 40 = true := predsT hp (by kernel_rfl)
        refine J.pr (fun hF => ?_)
        refine J.unguard rfl rfl rfl ?_
        refine J.callB (v := .bool true) (fun w1 w2 hw hb => hw.step hb) Ty.bd17 rfl rfl (fun w1 hw => (by have h := rsame_spec _ _ ((ordE (laidL 128 xs))) ((ordE (laidL 128 xs))) w1 (vec_rowM (hF.2.2.2.2.2.2 hp40) hw (fun q hq => by simp [hq, hp40])) (vec_rowM hvr hw (fun q hq => by first | (simp [hq]; done) | (simp at hq; simp [hq]; done) | (simp at hq; subst hq; simp))) (ordE_ok hT) (ordE_ok hT) (by omega) (by omega); simpa using h)) ?_
        exact J.finX rfl (fun _ hw => ⟨⟨v4, l4, v7, l7, v14, l14, v18, l18, v23, l23, v25, l25, v40, l40⟩, rfl, fun _ _ _ => rfl, hF, hw⟩)
      · skip
        obtain ⟨v4, l4, v7, l7, v14, l14, v18, l18, v23, l23, v25, l25, v40, l40⟩ := x
        show J _ _ _ _ _ ((81, .bool true) :: (74, .bool true) :: _) _
        refine J.pr (fun hF => ?_)
        (first | refine J.pickT rfl rfl rfl ?_ | refine J.pickF rfl rfl rfl ?_)
        exact J.finX rfl (fun _ hw => ⟨⟨v4, l4, v7, l7, v14, l14, v18, l18, v23, l23, v25, l25, v40, l40⟩, rfl, fun _ _ _ => rfl, hF, hw⟩)
    case htail =>
      intro x
      obtain ⟨v4, l4, v7, l7, v14, l14, v18, l18, v23, l23, v25, l25, v40, l40⟩ := x
      show J _ _ _ _ _ ((82, .bool true) :: (81, .bool true) :: (80, vr) :: (79, .pointer (some ⟨rt, 0 + 0, none⟩)) :: (78, .pointer (some ⟨rt, 0, none⟩)) :: (77, .pointer (some ⟨rt, 0, none⟩)) :: (76, v40) :: (75, .pointer (some ⟨t1, 0, none⟩)) :: (74, .bool true) :: (73, .bool true) :: (72, .bool true) :: (71, .bool (fiE ((ordE (laidL 128 xs)).filter ownB) id).isSome) :: (70, .bool (fiE ((ordE (laidL 128 xs)).filter ownB) id).isSome) :: (69, .bool true) :: (68, .bool true) :: (67, .bool true) :: (66, .agg (cE ((fiE ((ordE (laidL 128 xs)).filter ownB) id).getD zE)).toArray) :: (65, .agg (cE ((fiE ((ordE (laidL 128 xs)).filter ownB) id).getD zE)).toArray) :: (64, .bool true) :: (63, .bool true) :: (62, .bool true) :: (61, v25) :: (60, .pointer (some ⟨rt, 0, none⟩)) :: (59, v23) :: (58, .pointer (some ⟨t1, 0, none⟩)) :: (57, .bool true) :: (56, .bool true) :: (55, .bool true) :: (54, v18) :: (53, .int .i64 half) :: (52, .agg (cI me).toArray) :: (51, .pointer (some ⟨rt, 0, none⟩)) :: (50, v14) :: (49, .int .i64 half) :: (48, .agg (cI me).toArray) :: (47, .pointer (some ⟨t1, 0, none⟩)) :: (46, .bool true) :: (45, .bool true) :: (44, .bool true) :: (43, v7) :: (42, .agg (cI me).toArray) :: (41, .pointer (some ⟨rt, 0, none⟩)) :: (40, v4) :: (39, .agg (cI me).toArray) :: (38, .pointer (some ⟨t1, 0, none⟩)) :: (37, .bool true) :: (36, .bool true) :: _) (fun w1 => ((true = true → Vec 24 16 v4 ((frI ((ordE (laidL 128 xs)).filter ownB) me)).length (fI ((frI ((ordE (laidL 128 xs)).filter ownB) me))) l4) ∧ (true = true → Vec 24 16 v7 ((frI ((ordE (laidL 128 xs)).filter ownB) me)).length (fI ((frI ((ordE (laidL 128 xs)).filter ownB) me))) l7) ∧ (true = true → Vec 31 17 v14 ((spP ((ordE (laidL 128 xs)).filter ownB) (wnI ((ordE (laidL 128 xs)).filter ownB) me half))).length (fP ((spP ((ordE (laidL 128 xs)).filter ownB) (wnI ((ordE (laidL 128 xs)).filter ownB) me half)))) l14) ∧ (true = true → Vec 31 17 v18 ((spP ((ordE (laidL 128 xs)).filter ownB) (wnI ((ordE (laidL 128 xs)).filter ownB) me half))).length (fP ((spP ((ordE (laidL 128 xs)).filter ownB) (wnI ((ordE (laidL 128 xs)).filter ownB) me half)))) l18) ∧ (true = true → Vec 31 17 v23 ((twP ((ordE (laidL 128 xs)).filter ownB) ((ordE (laidL 128 xs)).filter ownB).length)).length (fP ((twP ((ordE (laidL 128 xs)).filter ownB) ((ordE (laidL 128 xs)).filter ownB).length))) l23) ∧ (true = true → Vec 31 17 v25 ((twP ((ordE (laidL 128 xs)).filter ownB) ((ordE (laidL 128 xs)).filter ownB).length)).length (fP ((twP ((ordE (laidL 128 xs)).filter ownB) ((ordE (laidL 128 xs)).filter ownB).length))) l25) ∧ (true = true → Vec 33 51 v40 ((ordE (laidL 128 xs))).length (fE ((ordE (laidL 128 xs)))) l40)) ∧ St w [] ((bif true then l4 else []) ++ ((bif true then l7 else []) ++ ((bif true then l14 else []) ++ ((bif true then l18 else []) ++ ((bif true then l23 else []) ++ ((bif true then l25 else []) ++ ((bif true then l40 else []) ++ ((b13, cb (cE ((fiE ((ordE (laidL 128 xs)).filter ownB) id).getD zE)) 33) :: (b11, cb (cE ((fiE ((ordE (laidL 128 xs)).filter ownB) id).getD zE)) 33) :: (t1, tabO 128 m1) :: (m1, .map es ck) :: (rt, rtabO vr 128) :: ((x4, cb (cI me) 24) :: (x5, cb (cI id) 24) :: lr))))))))) w1)
      refine J.pr (fun hF => ?_)
      refine J.assign rfl rfl ?_
      refine J.nil ?_
      refine JX.thenN (hK5 _ _ ?_)
      refine JC.ret ?_
      refine JX.ret1 rfl rfl (fun w hw => ?_)
      exact ⟨rfl, (hw.drop (List.nil_sublist _)).below⟩

theorem dec_two : Decodes Tryz.prog 25 (RArr 2 16 RId) := dec_arr Ty.ar25 Ty.s24 Ty.s25 dec_id
theorem tearAsks_walk (w : World) (o : Sl EV) (ho : RSl 51 72 REnt w [o.v] o) (c : List Value) (x : List IDV) (hx : RArr 2 16 RId w c x) (half : Int) (hh : (Lit.int .i64 half).wf = true) :
    Calls Tryz.prog 3 [o.v, .agg c.toArray, .int .i64 half].toArray w fun r w' => r = .returned (.bool true) ∧ Bel w w' := by
  obtain ⟨a, b, c1, c2, rfl, h1, h2⟩ := hx.two
  have h1' : c1 = cI a := h1
  have h2' : c2 = cI b := h2
  subst h1'
  subst h2'
  exact tearAsks_spec o.v o.xs a b half w (rslE ho) (rslE_ok ho) (rslE_len ho) _ rfl
end Go.Proofs.YtohldionclgljaaGreat
