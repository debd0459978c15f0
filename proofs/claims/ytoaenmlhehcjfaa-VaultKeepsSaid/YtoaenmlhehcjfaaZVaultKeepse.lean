/-
  VaultKeeps: texts that its proof needs, part 5.
-/
import Derived.Test.YtoaenmlhehcjfaaZVaultKeepsd
/-
  The document's Same, the law's one: contracts.
-/
namespace Go.Proofs.Ytoaenmlhehcjfaa
open Go.J Go.RowKit
set_option linter.unusedVariables false
set_option linter.unusedSimpArgs false
set_option maxRecDepth 8000
theorem itemF_at {w : World} {b o k c i q r : Nat} {xs : List HI} {x : HI} {vs : List Value} (h : Row w (.slice (some ⟨b, o, none⟩) k c) k (xs.flatMap cH)) (hx : xs[i]? = some x) (hv : ((cH x).drop r).take vs.length = vs) (hq : q = o + i * 34 + r) : Cells w b q vs := by
  have h1 := rowG_at (c := cH) (sz := 34) (fun _ => rfl) h hx (q := o + i * 34) rfl
  subst hq
  intro j hj
  have e : vs[j]? = ((cH x).drop r)[j]? := by
    have h2 : (((cH x).drop r).take vs.length)[j]? = ((cH x).drop r)[j]? := List.getElem?_take_of_lt hj
    rw [hv] at h2; exact h2
  rw [e, List.getElem?_drop]
  have hl : r + j < (cH x).length := by
    have := congrArg List.length hv
    rw [List.length_take, List.length_drop] at this
    omega
  rw [show o + i * 34 + r + j = o + i * 34 + (r + j) by omega]
  exact h1 (r + j) hl
theorem take_it {xa : List HI} {i : Nat} {x : HI} (h : xa[i]? = some x) : (xa.take (i + 1)).map HI.it = (xa.take i).map HI.it ++ [x.it] := by
  rw [List.take_add_one, h, List.map_append]; rfl
theorem differ {xa bs : List HI} {i : Nat} {x y : HI} (hx : xa[i]? = some x) (hy : bs[i]? = some y) (h : x.it ≠ y.it) : ¬ xa.map HI.it = bs.map HI.it := fun e => by
  have h1 := congrArg (fun l => l[i]?) e
  simp only [List.getElem?_map, hx, hy, Option.map_some, Option.some.injEq] at h1
  exact h h1

set_option maxHeartbeats 1000000 in
theorem rsame_spec (v1 v2 : Value) (xa bs : List HI) (w : World) (hr1 : Row w v1 xa.length (xa.flatMap cH)) (hr2 : Row w v2 bs.length (bs.flatMap cH)) (he1 : (∀ x, x ∈ xa → (∃ a c, x.sv = .slice a x.bs.length c) ∧ Row w x.sv x.bs.length (x.bs.map u8) ∧ okN x.ver.n)) (he2 : (∀ x, x ∈ bs → (∃ a c, x.sv = .slice a x.bs.length c) ∧ Row w x.sv x.bs.length (x.bs.map u8) ∧ okN x.ver.n)) (hl1 : xa.length ≤ 100000) (hl2 : bs.length ≤ 100000) :
    Calls Try.prog 32 [v1, v2].toArray w fun r w' => r = .returned (.bool (decide (xa.map HI.it = bs.map HI.it))) ∧ Bel w w' := by
  obtain ⟨a1, c1, rfl, hc1, _⟩ := id hr1
  obtain ⟨a2, c2, rfl, hc2, _⟩ := id hr2
  refine calls_of_J (args := [.slice a1 xa.length c1, .slice a2 bs.length c2]) (e := [(0, .slice a1 xa.length c1), (1, .slice a2 bs.length c2)]) Try.func32 rfl rfl ⟨rfl, rfl, trivial⟩ (St.start w) ?_
  refine JC.seq (fun K0 hK0 => ?_)
  refine JC.region ?_
  refine J.assign rfl rfl ?_
  refine J.nil ?_
  refine JX.thenN (hK0 _ _ ?_)
  refine JC.seq (fun K1 hK1 => ?_)
  refine JC.seq (fun K2 hK2 => ?_)
  refine JC.region ?_
  refine J.move rfl rfl ?_
  refine J.lenS rfl Ty.u44 rfl rfl ?_
  refine J.move rfl rfl ?_
  refine J.lenS rfl Ty.u44 rfl rfl ?_
  refine J.bin rfl rfl rfl rfl ?_
  refine J.nil ?_
  refine JX.thenN (hK2 _ _ ?_)
  refine JC.cond rfl (fun h0 => ?_) (fun h0 => ?_)
  · skip
    have hg : ¬ xa.map HI.it = bs.map HI.it := fun e => by
      have := congrArg List.length e
      rw [List.length_map, List.length_map] at this
      simp at h0; omega
    refine JC.seq (fun K3 hK3 => ?_)
    refine JC.region ?_
    refine J.assign rfl rfl ?_
    refine J.nil ?_
    refine JX.thenN (hK3 _ _ ?_)
    refine JC.ret ?_
    refine JX.thenR ?_
    refine JX.ret1 rfl rfl (fun w hw => ?_)
    first
    | exact ⟨by rw [decide_eq_true hg], hw.below⟩
    | exact ⟨by rw [decide_eq_false hg], hw.below⟩
  · skip
    have hll : xa.length = bs.length := by simp at h0; omega
    refine JC.skip ?_
    refine JX.thenN (hK1 _ _ ?_)
    refine JC.seq (fun K4 hK4 => ?_)
    refine JC.seq (fun K5 hK5 => ?_)
    refine JC.region ?_
    refine J.assign rfl rfl ?_
    refine J.nil ?_
    refine JX.thenN (hK5 _ _ ?_)
    refine JC.block ?_
    refine JC.conseq (JC.cov (f := (fun i => [(0, .slice a1 xa.length c1), (1, .slice a2 bs.length c2), (5, .int .i64 ((i : Nat) : Int))]) 0) ⟨rfl, rfl, rfl, trivial⟩ (JC.loop (α := Nat) (fun i => [(0, .slice a1 xa.length c1), (1, .slice a2 bs.length c2), (5, .int .i64 ((i : Nat) : Int))]) (fun i w' => (i ≤ xa.length ∧ (xa.take i).map HI.it = (bs.take i).map HI.it) ∧ St w [] [] w') (fun i => xa.length - i) 0 (fun i => ?_))) (fun w hw => ⟨⟨Nat.zero_le _, rfl⟩, hw⟩)
    refine JC.pr (fun hI => ?_)
    obtain ⟨hi, hti⟩ := hI
    refine JC.seq (fun K6 hK6 => ?_)
    refine JC.seq (fun K7 hK7 => ?_)
    refine JC.region ?_
    refine J.move rfl rfl ?_
    refine J.move rfl rfl ?_
    refine J.lenS rfl Ty.u44 rfl rfl ?_
    refine J.bin rfl rfl rfl rfl ?_
    refine J.nil ?_
    refine JX.thenN (hK7 _ _ ?_)
    refine JC.cond rfl (fun h1 => ?_) (fun h1 => ?_)
    · skip
      have hlt : i < xa.length := by simp at h1; omega
      obtain ⟨x, hxg⟩ : ∃ x, xa[i]? = some x := ⟨_, List.getElem?_eq_getElem hlt⟩
      obtain ⟨y, hyg⟩ : ∃ x, bs[i]? = some x := ⟨_, List.getElem?_eq_getElem (by omega)⟩
      obtain ⟨⟨ax, cx, hsx⟩, hxr, hvx⟩ := he1 x (List.mem_of_getElem? hxg)
      obtain ⟨⟨ay, cy, hsy⟩, hyr, hvy⟩ := he2 y (List.mem_of_getElem? hyg)
      obtain ⟨kx, vx, bx, sx, lx⟩ := x
      obtain ⟨ky, vy, by_, sy, ly⟩ := y
      simp only at hsx hsy hxr hyr hvx hvy
      subst hsx hsy
      obtain ⟨q1, o1, c1', hv1, -, -⟩ := hr1.some (by rw [cHs_len]; omega)
      simp only [Value.slice.injEq] at hv1
      obtain ⟨rfl, -, -⟩ := hv1
      obtain ⟨q2, o2, c2', hv2, -, -⟩ := hr2.some (by rw [cHs_len]; omega)
      simp only [Value.slice.injEq] at hv2
      obtain ⟨rfl, -, -⟩ := hv2
      refine JC.skip ?_
      refine JX.thenN (hK6 _ _ ?_)
      refine JC.seq (fun K8 hK8 => ?_)
      refine JC.block ?_
      refine JC.seq (fun K9 hK9 => ?_)
      by_cases e1 : kx = ky
      · skip
        by_cases e2 : vx = vy
        · skip
          by_cases e3 : bx = by_
          · skip
            apply JC.drawX (α := Nat × Unit) 39 (fun x => match x with | ⟨xu, uu⟩ => [.slice (some ⟨q1, o1, none⟩) xa.length c1, .int .i64 ((i : Nat) : Int), .pointer (some ⟨q1, o1 + ((i : Nat) : Int).toNat * 34, none⟩), .pointer (some ⟨q1, o1 + ((i : Nat) : Int).toNat * 34 + 0, none⟩), .agg (cI kx).toArray, .slice (some ⟨q2, o2, none⟩) bs.length c2, .int .i64 ((i : Nat) : Int), .pointer (some ⟨q2, o2 + ((i : Nat) : Int).toNat * 34, none⟩), .pointer (some ⟨q2, o2 + ((i : Nat) : Int).toNat * 34 + 0, none⟩), .agg (cI ky).toArray, .bool false, .bool false, .slice (some ⟨q1, o1, none⟩) xa.length c1, .int .i64 ((i : Nat) : Int), .pointer (some ⟨q1, o1 + ((i : Nat) : Int).toNat * 34, none⟩), .pointer (some ⟨q1, o1 + ((i : Nat) : Int).toNat * 34 + 16, none⟩), .agg (cV vx).toArray, .slice (some ⟨q2, o2, none⟩) bs.length c2, .int .i64 ((i : Nat) : Int), .pointer (some ⟨q2, o2 + ((i : Nat) : Int).toNat * 34, none⟩), .pointer (some ⟨q2, o2 + ((i : Nat) : Int).toNat * 34 + 16, none⟩), .agg (cV vy).toArray, .bool false, .bool false, .bool false, .slice (some ⟨q1, o1, none⟩) xa.length c1, .int .i64 ((i : Nat) : Int), .pointer (some ⟨q1, o1 + ((i : Nat) : Int).toNat * 34, none⟩), .pointer (some ⟨q1, o1 + ((i : Nat) : Int).toNat * 34 + 33, none⟩), (.slice ax bx.length cx), .string (str bx), .slice (some ⟨q2, o2, none⟩) bs.length c2, .int .i64 ((i : Nat) : Int), .pointer (some ⟨q2, o2 + ((i : Nat) : Int).toNat * 34, none⟩), .pointer (some ⟨q2, o2 + ((i : Nat) : Int).toNat * 34 + 33, none⟩), (.slice ay by_.length cy), .string (str by_), .bool false, .bool false]) (fun m x => match x with | ⟨xu, uu⟩ => fun w1 => (True) ∧ St w [] ([]) w1) Ty.mixed rfl rfl rfl (by kernel_rfl) rfl rfl ?hinit ?hstep ?htail
            case hinit => exact fun w1 hw => ⟨(0, ()), trivial, hw.drew⟩
            case hstep =>
              refine ⟨fun m x hm hp => ?_, fun m x hm hp => ?_, fun m x hm hp => ?_, fun m x hm hp => ?_, fun m x hm hp => ?_, fun m x hm hp => ?_, fun m x hm hp => ?_, fun m x hm hp => ?_, fun m x hm hp => ?_, fun m x hm hp => ?_, fun m x hm hp => ?_, fun m x hm hp => ?_, fun m x hm hp => ?_, fun m x hm hp => ?_, fun m x hm hp => ?_, fun m x hm hp => ?_, fun m x hm hp => ?_, fun m x hm hp => ?_, fun m x hm hp => ?_, fun m x hm hp => ?_, fun m x hm hp => ?_, fun m x hm hp => ?_, fun m x hm hp => ?_, fun m x hm hp => ?_, fun m x hm hp => ?_, fun m x hm hp => ?_, fun m x hm hp => ?_, fun m x hm hp => ?_, fun m x hm hp => ?_, fun m x hm hp => ?_, fun m x hm hp => ?_, fun m x hm hp => ?_, fun m x hm hp => ?_, fun m x hm hp => ?_, fun m x hm hp => ?_, fun m x hm hp => ?_, fun m x hm hp => ?_, fun m x hm hp => ?_, fun m x hm hp => ?_, trivial⟩
              · skip
                obtain ⟨xu, uu⟩ := x
                show J _ _ _ _ _ (_) _
                refine J.pr (fun hF => ?_)
                refine J.move rfl rfl ?_
                exact J.finX rfl (fun _ hw => ⟨⟨xu, uu⟩, rfl, fun _ _ _ => rfl, hF, hw⟩)
              · skip
                obtain ⟨xu, uu⟩ := x
                show J _ _ _ _ _ (_) _
                refine J.pr (fun hF => ?_)
                refine J.move rfl rfl ?_
                exact J.finX rfl (fun _ hw => ⟨⟨xu, uu⟩, rfl, fun _ _ _ => rfl, hF, hw⟩)
              · skip
                obtain ⟨xu, uu⟩ := x
                show J _ _ _ _ _ ((18, .int .i64 ((i : Nat) : Int)) :: (17, .slice (some ⟨q1, o1, none⟩) xa.length c1) :: _) _
                refine J.pr (fun hF => ?_)
                refine J.indexAddrS Ty.el44 Ty.s28 rfl rfl (by omega) (by omega) rfl ?_
                exact J.finX rfl (fun _ hw => ⟨⟨xu, uu⟩, rfl, fun _ _ _ => rfl, hF, hw⟩)
              · skip
                obtain ⟨xu, uu⟩ := x
                show J _ _ _ _ _ ((19, .pointer (some ⟨q1, o1 + ((i : Nat) : Int).toNat * 34, none⟩)) :: _) _
                refine J.pr (fun hF => ?_)
                refine J.fieldAddr Ty.fd28_0 rfl rfl ?_
                exact J.finX rfl (fun _ hw => ⟨⟨xu, uu⟩, rfl, fun _ _ _ => rfl, hF, hw⟩)
              · skip
                obtain ⟨xu, uu⟩ := x
                show J _ _ _ _ _ ((20, .pointer (some ⟨q1, o1 + ((i : Nat) : Int).toNat * 34 + 0, none⟩)) :: _) _
                refine J.pr (fun hF => ?_)
                refine J.loadA (vs := cI kx) Ty.a23 Ty.s23 rfl rfl (fun w1 hw => itemF_at (r := 0) (hr1.below (hw.drop (List.nil_sublist _)).below) hxg rfl (by rw [Int.toNat_natCast])) rfl ?_
                exact J.finX rfl (fun _ hw => ⟨⟨xu, uu⟩, rfl, fun _ _ _ => rfl, hF, hw⟩)
              · skip
                obtain ⟨xu, uu⟩ := x
                show J _ _ _ _ _ (_) _
                refine J.pr (fun hF => ?_)
                refine J.move rfl rfl ?_
                exact J.finX rfl (fun _ hw => ⟨⟨xu, uu⟩, rfl, fun _ _ _ => rfl, hF, hw⟩)
              · skip
                obtain ⟨xu, uu⟩ := x
                show J _ _ _ _ _ (_) _
                refine J.pr (fun hF => ?_)
                refine J.move rfl rfl ?_
                exact J.finX rfl (fun _ hw => ⟨⟨xu, uu⟩, rfl, fun _ _ _ => rfl, hF, hw⟩)
              · skip
                obtain ⟨xu, uu⟩ := x
                show J _ _ _ _ _ ((23, .int .i64 ((i : Nat) : Int)) :: (22, .slice (some ⟨q2, o2, none⟩) bs.length c2) :: _) _
                refine J.pr (fun hF => ?_)
                refine J.indexAddrS Ty.el44 Ty.s28 rfl rfl (by omega) (by omega) rfl ?_
                exact J.finX rfl (fun _ hw => ⟨⟨xu, uu⟩, rfl, fun _ _ _ => rfl, hF, hw⟩)
              · skip
                obtain ⟨xu, uu⟩ := x
                show J _ _ _ _ _ ((24, .pointer (some ⟨q2, o2 + ((i : Nat) : Int).toNat * 34, none⟩)) :: _) _
                refine J.pr (fun hF => ?_)
                refine J.fieldAddr Ty.fd28_0 rfl rfl ?_
                exact J.finX rfl (fun _ hw => ⟨⟨xu, uu⟩, rfl, fun _ _ _ => rfl, hF, hw⟩)
              · skip
                obtain ⟨xu, uu⟩ := x
                show J _ _ _ _ _ ((25, .pointer (some ⟨q2, o2 + ((i : Nat) : Int).toNat * 34 + 0, none⟩)) :: _) _
                refine J.pr (fun hF => ?_)
                refine J.loadA (vs := cI ky) Ty.a23 Ty.s23 rfl rfl (fun w1 hw => itemF_at (r := 0) (hr2.below (hw.drop (List.nil_sublist _)).below) hyg rfl (by rw [Int.toNat_natCast])) rfl ?_
                exact J.finX rfl (fun _ hw => ⟨⟨xu, uu⟩, rfl, fun _ _ _ => rfl, hF, hw⟩)
              · skip
                obtain ⟨xu, uu⟩ := x
                show J _ _ _ _ _ ((26, .agg (cI ky).toArray) :: (21, .agg (cI kx).toArray) :: _) _
                refine J.pr (fun hF => ?_)
                refine J.neI Ty.QI Ty.keyI rfl rfl rfl ?_
                refine J.name 27 rfl (show _ = Value.bool false by simp [e1]) ?_
                exact J.finX rfl (fun _ hw => ⟨⟨xu, uu⟩, rfl, fun _ _ _ => rfl, hF, hw⟩)
              · skip
                obtain ⟨xu, uu⟩ := x
                show J _ _ _ _ _ ((27, .bool false) :: _) _
                refine J.pr (fun hF => ?_)
                refine J.move rfl rfl ?_
                exact J.finX rfl (fun _ hw => ⟨⟨xu, uu⟩, rfl, fun _ _ _ => rfl, hF, hw⟩)
              · skip
                obtain ⟨xu, uu⟩ := x
                show J _ _ _ _ _ ((28, .bool false) :: _) _
                refine J.pr (fun hF => ?_)
                first | refine J.skip rfl rfl rfl rfl rfl ?_ | refine J.skipU rfl rfl rfl rfl ?_ | (refine J.unguard rfl rfl rfl ?_; refine J.move rfl rfl ?_)
                exact J.finX rfl (fun _ hw => ⟨⟨xu, uu⟩, rfl, fun _ _ _ => rfl, hF, hw⟩)
              · skip
                obtain ⟨xu, uu⟩ := x
                show J _ _ _ _ _ ((28, .bool false) :: _) _
                refine J.pr (fun hF => ?_)
                first | refine J.skip rfl rfl rfl rfl rfl ?_ | refine J.skipU rfl rfl rfl rfl ?_ | (refine J.unguard rfl rfl rfl ?_; refine J.move rfl rfl ?_)
                exact J.finX rfl (fun _ hw => ⟨⟨xu, uu⟩, rfl, fun _ _ _ => rfl, hF, hw⟩)
              · skip
                obtain ⟨xu, uu⟩ := x
                show J _ _ _ _ _ ((28, .bool false) :: (30, .int .i64 ((i : Nat) : Int)) :: (29, .slice (some ⟨q1, o1, none⟩) xa.length c1) :: _) _
                refine J.pr (fun hF => ?_)
                refine J.unguard rfl rfl rfl ?_
                refine J.indexAddrS Ty.el44 Ty.s28 rfl rfl (by omega) (by omega) rfl ?_
                exact J.finX rfl (fun _ hw => ⟨⟨xu, uu⟩, rfl, fun _ _ _ => rfl, hF, hw⟩)
              · skip
                obtain ⟨xu, uu⟩ := x
                show J _ _ _ _ _ ((28, .bool false) :: (31, .pointer (some ⟨q1, o1 + ((i : Nat) : Int).toNat * 34, none⟩)) :: _) _
                refine J.pr (fun hF => ?_)
                first | refine J.skip rfl rfl rfl rfl rfl ?_ | refine J.skipU rfl rfl rfl rfl ?_ | (refine J.unguard rfl rfl rfl ?_; refine J.fieldAddr Ty.fd28_1 rfl rfl ?_)
                exact J.finX rfl (fun _ hw => ⟨⟨xu, uu⟩, rfl, fun _ _ _ => rfl, hF, hw⟩)
              · skip
                obtain ⟨xu, uu⟩ := x
                show J _ _ _ _ _ ((28, .bool false) :: (32, .pointer (some ⟨q1, o1 + ((i : Nat) : Int).toNat * 34 + 16, none⟩)) :: _) _
                refine J.pr (fun hF => ?_)
                refine J.unguard rfl rfl rfl ?_
                refine J.loadA (vs := cV vx) Ty.a25 Ty.s25 rfl rfl (fun w1 hw => itemF_at (r := 16) (hr1.below (hw.drop (List.nil_sublist _)).below) hxg rfl (by rw [Int.toNat_natCast])) rfl ?_
                exact J.finX rfl (fun _ hw => ⟨⟨xu, uu⟩, rfl, fun _ _ _ => rfl, hF, hw⟩)
              · skip
                obtain ⟨xu, uu⟩ := x
                show J _ _ _ _ _ ((28, .bool false) :: _) _
                refine J.pr (fun hF => ?_)
                first | refine J.skip rfl rfl rfl rfl rfl ?_ | refine J.skipU rfl rfl rfl rfl ?_ | (refine J.unguard rfl rfl rfl ?_; refine J.move rfl rfl ?_)
                exact J.finX rfl (fun _ hw => ⟨⟨xu, uu⟩, rfl, fun _ _ _ => rfl, hF, hw⟩)
              · skip
                obtain ⟨xu, uu⟩ := x
                show J _ _ _ _ _ ((28, .bool false) :: _) _
                refine J.pr (fun hF => ?_)
                first | refine J.skip rfl rfl rfl rfl rfl ?_ | refine J.skipU rfl rfl rfl rfl ?_ | (refine J.unguard rfl rfl rfl ?_; refine J.move rfl rfl ?_)
                exact J.finX rfl (fun _ hw => ⟨⟨xu, uu⟩, rfl, fun _ _ _ => rfl, hF, hw⟩)
              · skip
                obtain ⟨xu, uu⟩ := x
                show J _ _ _ _ _ ((28, .bool false) :: (35, .int .i64 ((i : Nat) : Int)) :: (34, .slice (some ⟨q2, o2, none⟩) bs.length c2) :: _) _
                refine J.pr (fun hF => ?_)
                refine J.unguard rfl rfl rfl ?_
                refine J.indexAddrS Ty.el44 Ty.s28 rfl rfl (by omega) (by omega) rfl ?_
                exact J.finX rfl (fun _ hw => ⟨⟨xu, uu⟩, rfl, fun _ _ _ => rfl, hF, hw⟩)
              · skip
                obtain ⟨xu, uu⟩ := x
                show J _ _ _ _ _ ((28, .bool false) :: (36, .pointer (some ⟨q2, o2 + ((i : Nat) : Int).toNat * 34, none⟩)) :: _) _
                refine J.pr (fun hF => ?_)
                first | refine J.skip rfl rfl rfl rfl rfl ?_ | refine J.skipU rfl rfl rfl rfl ?_ | (refine J.unguard rfl rfl rfl ?_; refine J.fieldAddr Ty.fd28_1 rfl rfl ?_)
                exact J.finX rfl (fun _ hw => ⟨⟨xu, uu⟩, rfl, fun _ _ _ => rfl, hF, hw⟩)
              · skip
                obtain ⟨xu, uu⟩ := x
                show J _ _ _ _ _ ((28, .bool false) :: (37, .pointer (some ⟨q2, o2 + ((i : Nat) : Int).toNat * 34 + 16, none⟩)) :: _) _
                refine J.pr (fun hF => ?_)
                refine J.unguard rfl rfl rfl ?_
                refine J.loadA (vs := cV vy) Ty.a25 Ty.s25 rfl rfl (fun w1 hw => itemF_at (r := 16) (hr2.below (hw.drop (List.nil_sublist _)).below) hyg rfl (by rw [Int.toNat_natCast])) rfl ?_
                exact J.finX rfl (fun _ hw => ⟨⟨xu, uu⟩, rfl, fun _ _ _ => rfl, hF, hw⟩)
              · skip
                obtain ⟨xu, uu⟩ := x
                show J _ _ _ _ _ ((28, .bool false) :: (38, .agg (cV vy).toArray) :: (33, .agg (cV vx).toArray) :: _) _
                refine J.pr (fun hF => ?_)
                refine J.unguard rfl rfl rfl ?_
                refine J.neV rfl rfl hvx hvy rfl ?_
                refine J.name 39 rfl (show _ = Value.bool false by simp [e2]) ?_
                exact J.finX rfl (fun _ hw => ⟨⟨xu, uu⟩, rfl, fun _ _ _ => rfl, hF, hw⟩)
              · skip
                obtain ⟨xu, uu⟩ := x
                show J _ _ _ _ _ ((39, .bool false) :: (28, .bool false) :: _) _
                refine J.pr (fun hF => ?_)
                (first | refine J.pickT rfl rfl rfl ?_ | refine J.pickF rfl rfl rfl ?_)
                exact J.finX rfl (fun _ hw => ⟨⟨xu, uu⟩, rfl, fun _ _ _ => rfl, hF, hw⟩)
              · skip
                obtain ⟨xu, uu⟩ := x
                show J _ _ _ _ _ ((28, .bool false) :: (40, .bool false) :: _) _
                refine J.pr (fun hF => ?_)
                refine J.move rfl rfl ?_
                exact J.finX rfl (fun _ hw => ⟨⟨xu, uu⟩, rfl, fun _ _ _ => rfl, hF, hw⟩)
              · skip
                obtain ⟨xu, uu⟩ := x
                show J _ _ _ _ _ ((41, .bool false) :: _) _
                refine J.pr (fun hF => ?_)
                first | refine J.skip rfl rfl rfl rfl rfl ?_ | refine J.skipU rfl rfl rfl rfl ?_ | (refine J.unguard rfl rfl rfl ?_; refine J.move rfl rfl ?_)
                exact J.finX rfl (fun _ hw => ⟨⟨xu, uu⟩, rfl, fun _ _ _ => rfl, hF, hw⟩)
              · skip
                obtain ⟨xu, uu⟩ := x
                show J _ _ _ _ _ ((41, .bool false) :: _) _
                refine J.pr (fun hF => ?_)
                first | refine J.skip rfl rfl rfl rfl rfl ?_ | refine J.skipU rfl rfl rfl rfl ?_ | (refine J.unguard rfl rfl rfl ?_; refine J.move rfl rfl ?_)
                exact J.finX rfl (fun _ hw => ⟨⟨xu, uu⟩, rfl, fun _ _ _ => rfl, hF, hw⟩)
              · skip
                obtain ⟨xu, uu⟩ := x
                show J _ _ _ _ _ ((41, .bool false) :: (43, .int .i64 ((i : Nat) : Int)) :: (42, .slice (some ⟨q1, o1, none⟩) xa.length c1) :: _) _
                refine J.pr (fun hF => ?_)
                refine J.unguard rfl rfl rfl ?_
                refine J.indexAddrS Ty.el44 Ty.s28 rfl rfl (by omega) (by omega) rfl ?_
                exact J.finX rfl (fun _ hw => ⟨⟨xu, uu⟩, rfl, fun _ _ _ => rfl, hF, hw⟩)
              · skip
                obtain ⟨xu, uu⟩ := x
                show J _ _ _ _ _ ((41, .bool false) :: (44, .pointer (some ⟨q1, o1 + ((i : Nat) : Int).toNat * 34, none⟩)) :: _) _
                refine J.pr (fun hF => ?_)
                first | refine J.skip rfl rfl rfl rfl rfl ?_ | refine J.skipU rfl rfl rfl rfl ?_ | (refine J.unguard rfl rfl rfl ?_; refine J.fieldAddr Ty.fd28_2 rfl rfl ?_)
                exact J.finX rfl (fun _ hw => ⟨⟨xu, uu⟩, rfl, fun _ _ _ => rfl, hF, hw⟩)
              · skip
                obtain ⟨xu, uu⟩ := x
                show J _ _ _ _ _ ((41, .bool false) :: (45, .pointer (some ⟨q1, o1 + ((i : Nat) : Int).toNat * 34 + 33, none⟩)) :: _) _
                refine J.pr (fun hF => ?_)
                refine J.unguard rfl rfl rfl ?_
                refine J.load1 (v := (.slice ax bx.length cx)) Ty.a26 rfl (fun w1 hw => (itemF_at (r := 33) (q := o1 + ((i : Nat) : Int).toNat * 34 + 33) (vs := [(.slice ax bx.length cx)]) (hr1.below (hw.drop (List.nil_sublist _)).below) hxg rfl (by rw [Int.toNat_natCast]) 0 Nat.one_pos : _)) rfl ?_
                exact J.finX rfl (fun _ hw => ⟨⟨xu, uu⟩, rfl, fun _ _ _ => rfl, hF, hw⟩)
              · skip
                obtain ⟨xu, uu⟩ := x
                show J _ _ _ _ _ ((41, .bool false) :: (46, (.slice ax bx.length cx)) :: _) _
                refine J.pr (fun hF => ?_)
                refine J.unguard rfl rfl rfl ?_
                refine J.toStr (m := bx.length) (bs := bx) Ty.el26 Ty.u5 Ty.u9 rfl (fun w1 hw => (hxr.below (hw.drop (List.nil_sublist _)).below)) rfl rfl ?_
                exact J.finX rfl (fun _ hw => ⟨⟨xu, uu⟩, rfl, fun _ _ _ => rfl, hF, hw⟩)
              · skip
                obtain ⟨xu, uu⟩ := x
                show J _ _ _ _ _ ((41, .bool false) :: _) _
                refine J.pr (fun hF => ?_)
                first | refine J.skip rfl rfl rfl rfl rfl ?_ | refine J.skipU rfl rfl rfl rfl ?_ | (refine J.unguard rfl rfl rfl ?_; refine J.move rfl rfl ?_)
                exact J.finX rfl (fun _ hw => ⟨⟨xu, uu⟩, rfl, fun _ _ _ => rfl, hF, hw⟩)
              · skip
                obtain ⟨xu, uu⟩ := x
                show J _ _ _ _ _ ((41, .bool false) :: _) _
                refine J.pr (fun hF => ?_)
                first | refine J.skip rfl rfl rfl rfl rfl ?_ | refine J.skipU rfl rfl rfl rfl ?_ | (refine J.unguard rfl rfl rfl ?_; refine J.move rfl rfl ?_)
                exact J.finX rfl (fun _ hw => ⟨⟨xu, uu⟩, rfl, fun _ _ _ => rfl, hF, hw⟩)
              · skip
                obtain ⟨xu, uu⟩ := x
                show J _ _ _ _ _ ((41, .bool false) :: (49, .int .i64 ((i : Nat) : Int)) :: (48, .slice (some ⟨q2, o2, none⟩) bs.length c2) :: _) _
                refine J.pr (fun hF => ?_)
                refine J.unguard rfl rfl rfl ?_
                refine J.indexAddrS Ty.el44 Ty.s28 rfl rfl (by omega) (by omega) rfl ?_
                exact J.finX rfl (fun _ hw => ⟨⟨xu, uu⟩, rfl, fun _ _ _ => rfl, hF, hw⟩)
              · skip
                obtain ⟨xu, uu⟩ := x
                show J _ _ _ _ _ ((41, .bool false) :: (50, .pointer (some ⟨q2, o2 + ((i : Nat) : Int).toNat * 34, none⟩)) :: _) _
                refine J.pr (fun hF => ?_)
                first | refine J.skip rfl rfl rfl rfl rfl ?_ | refine J.skipU rfl rfl rfl rfl ?_ | (refine J.unguard rfl rfl rfl ?_; refine J.fieldAddr Ty.fd28_2 rfl rfl ?_)
                exact J.finX rfl (fun _ hw => ⟨⟨xu, uu⟩, rfl, fun _ _ _ => rfl, hF, hw⟩)
              · skip
                obtain ⟨xu, uu⟩ := x
                show J _ _ _ _ _ ((41, .bool false) :: (51, .pointer (some ⟨q2, o2 + ((i : Nat) : Int).toNat * 34 + 33, none⟩)) :: _) _
                refine J.pr (fun hF => ?_)
                refine J.unguard rfl rfl rfl ?_
                refine J.load1 (v := (.slice ay by_.length cy)) Ty.a26 rfl (fun w1 hw => (itemF_at (r := 33) (q := o2 + ((i : Nat) : Int).toNat * 34 + 33) (vs := [(.slice ay by_.length cy)]) (hr2.below (hw.drop (List.nil_sublist _)).below) hyg rfl (by rw [Int.toNat_natCast]) 0 Nat.one_pos : _)) rfl ?_
                exact J.finX rfl (fun _ hw => ⟨⟨xu, uu⟩, rfl, fun _ _ _ => rfl, hF, hw⟩)
              · skip
                obtain ⟨xu, uu⟩ := x
                show J _ _ _ _ _ ((41, .bool false) :: (52, (.slice ay by_.length cy)) :: _) _
                refine J.pr (fun hF => ?_)
                refine J.unguard rfl rfl rfl ?_
                refine J.toStr (m := by_.length) (bs := by_) Ty.el26 Ty.u5 Ty.u9 rfl (fun w1 hw => (hyr.below (hw.drop (List.nil_sublist _)).below)) rfl rfl ?_
                exact J.finX rfl (fun _ hw => ⟨⟨xu, uu⟩, rfl, fun _ _ _ => rfl, hF, hw⟩)
              · skip
                obtain ⟨xu, uu⟩ := x
                show J _ _ _ _ _ ((41, .bool false) :: (53, .string (str by_)) :: (47, .string (str bx)) :: _) _
                refine J.pr (fun hF => ?_)
                refine J.unguard rfl rfl rfl ?_
                refine J.strNe (xs := bx) (ys := by_) rfl rfl rfl ?_
                refine J.name 54 rfl (show _ = Value.bool false by simp [e3]) ?_
                exact J.finX rfl (fun _ hw => ⟨⟨xu, uu⟩, rfl, fun _ _ _ => rfl, hF, hw⟩)
              · skip
                obtain ⟨xu, uu⟩ := x
                show J _ _ _ _ _ ((54, .bool false) :: (41, .bool false) :: _) _
                refine J.pr (fun hF => ?_)
                (first | refine J.pickT rfl rfl rfl ?_ | refine J.pickF rfl rfl rfl ?_)
                exact J.finX rfl (fun _ hw => ⟨⟨xu, uu⟩, rfl, fun _ _ _ => rfl, hF, hw⟩)
            case htail =>
              intro x
              obtain ⟨xu, uu⟩ := x
              show J _ _ _ _ _ ((55, .bool false) :: (54, .bool false) :: (53, .string (str by_)) :: (52, (.slice ay by_.length cy)) :: (51, .pointer (some ⟨q2, o2 + ((i : Nat) : Int).toNat * 34 + 33, none⟩)) :: (50, .pointer (some ⟨q2, o2 + ((i : Nat) : Int).toNat * 34, none⟩)) :: (49, .int .i64 ((i : Nat) : Int)) :: (48, .slice (some ⟨q2, o2, none⟩) bs.length c2) :: (47, .string (str bx)) :: (46, (.slice ax bx.length cx)) :: (45, .pointer (some ⟨q1, o1 + ((i : Nat) : Int).toNat * 34 + 33, none⟩)) :: (44, .pointer (some ⟨q1, o1 + ((i : Nat) : Int).toNat * 34, none⟩)) :: (43, .int .i64 ((i : Nat) : Int)) :: (42, .slice (some ⟨q1, o1, none⟩) xa.length c1) :: (41, .bool false) :: (40, .bool false) :: (39, .bool false) :: (38, .agg (cV vy).toArray) :: (37, .pointer (some ⟨q2, o2 + ((i : Nat) : Int).toNat * 34 + 16, none⟩)) :: (36, .pointer (some ⟨q2, o2 + ((i : Nat) : Int).toNat * 34, none⟩)) :: (35, .int .i64 ((i : Nat) : Int)) :: (34, .slice (some ⟨q2, o2, none⟩) bs.length c2) :: (33, .agg (cV vx).toArray) :: (32, .pointer (some ⟨q1, o1 + ((i : Nat) : Int).toNat * 34 + 16, none⟩)) :: (31, .pointer (some ⟨q1, o1 + ((i : Nat) : Int).toNat * 34, none⟩)) :: (30, .int .i64 ((i : Nat) : Int)) :: (29, .slice (some ⟨q1, o1, none⟩) xa.length c1) :: (28, .bool false) :: (27, .bool false) :: (26, .agg (cI ky).toArray) :: (25, .pointer (some ⟨q2, o2 + ((i : Nat) : Int).toNat * 34 + 0, none⟩)) :: (24, .pointer (some ⟨q2, o2 + ((i : Nat) : Int).toNat * 34, none⟩)) :: (23, .int .i64 ((i : Nat) : Int)) :: (22, .slice (some ⟨q2, o2, none⟩) bs.length c2) :: (21, .agg (cI kx).toArray) :: (20, .pointer (some ⟨q1, o1 + ((i : Nat) : Int).toNat * 34 + 0, none⟩)) :: (19, .pointer (some ⟨q1, o1 + ((i : Nat) : Int).toNat * 34, none⟩)) :: (18, .int .i64 ((i : Nat) : Int)) :: (17, .slice (some ⟨q1, o1, none⟩) xa.length c1) :: _) (fun w1 => (True) ∧ St w [] ([]) w1)
              refine J.pr (fun hF => ?_)
              refine J.nil ?_
              refine JX.thenN (hK9 _ _ ?_)
              first | refine JC.condF rfl ?_ | refine JC.cond rfl (fun h => by first | (exfalso; simp at h; omega) | (simp at h)) (fun _ => ?_)
              refine JC.skip ?_
              refine JX.blockN ?_
              refine JX.thenN (hK8 _ _ ?_)
              refine JC.region ?_
              refine J.move rfl rfl ?_
              (first | refine J.addN rfl rfl (by omega) (by omega) rfl ?_ | refine J.bin rfl rfl rfl rfl ?_)
              refine J.assign rfl rfl ?_
              refine J.nil ?_
              refine JX.thenN ?_
              refine JX.again (i + 1) ?_ ?_ ?_
              · omega
              · exact ⟨rfl, rfl, rfl, trivial⟩
              · exact fun w1 hw => ⟨⟨hlt, by rw [take_it hxg, take_it hyg, hti]; simp [HI.it, e1, e2, e3]⟩, hw⟩
          · skip
            have hg := differ hxg hyg (by simp [HI.it, e3])
            apply JC.drawX (α := Nat × Unit) 39 (fun x => match x with | ⟨xu, uu⟩ => [.slice (some ⟨q1, o1, none⟩) xa.length c1, .int .i64 ((i : Nat) : Int), .pointer (some ⟨q1, o1 + ((i : Nat) : Int).toNat * 34, none⟩), .pointer (some ⟨q1, o1 + ((i : Nat) : Int).toNat * 34 + 0, none⟩), .agg (cI kx).toArray, .slice (some ⟨q2, o2, none⟩) bs.length c2, .int .i64 ((i : Nat) : Int), .pointer (some ⟨q2, o2 + ((i : Nat) : Int).toNat * 34, none⟩), .pointer (some ⟨q2, o2 + ((i : Nat) : Int).toNat * 34 + 0, none⟩), .agg (cI ky).toArray, .bool false, .bool false, .slice (some ⟨q1, o1, none⟩) xa.length c1, .int .i64 ((i : Nat) : Int), .pointer (some ⟨q1, o1 + ((i : Nat) : Int).toNat * 34, none⟩), .pointer (some ⟨q1, o1 + ((i : Nat) : Int).toNat * 34 + 16, none⟩), .agg (cV vx).toArray, .slice (some ⟨q2, o2, none⟩) bs.length c2, .int .i64 ((i : Nat) : Int), .pointer (some ⟨q2, o2 + ((i : Nat) : Int).toNat * 34, none⟩), .pointer (some ⟨q2, o2 + ((i : Nat) : Int).toNat * 34 + 16, none⟩), .agg (cV vy).toArray, .bool false, .bool false, .bool false, .slice (some ⟨q1, o1, none⟩) xa.length c1, .int .i64 ((i : Nat) : Int), .pointer (some ⟨q1, o1 + ((i : Nat) : Int).toNat * 34, none⟩), .pointer (some ⟨q1, o1 + ((i : Nat) : Int).toNat * 34 + 33, none⟩), (.slice ax bx.length cx), .string (str bx), .slice (some ⟨q2, o2, none⟩) bs.length c2, .int .i64 ((i : Nat) : Int), .pointer (some ⟨q2, o2 + ((i : Nat) : Int).toNat * 34, none⟩), .pointer (some ⟨q2, o2 + ((i : Nat) : Int).toNat * 34 + 33, none⟩), (.slice ay by_.length cy), .string (str by_), .bool true, .bool true]) (fun m x => match x with | ⟨xu, uu⟩ => fun w1 => (True) ∧ St w [] ([]) w1) Ty.mixed rfl rfl rfl (by kernel_rfl) rfl rfl ?hinit ?hstep ?htail
            case hinit => exact fun w1 hw => ⟨(0, ()), trivial, hw.drew⟩
            case hstep =>
              refine ⟨fun m x hm hp => ?_, fun m x hm hp => ?_, fun m x hm hp => ?_, fun m x hm hp => ?_, fun m x hm hp => ?_, fun m x hm hp => ?_, fun m x hm hp => ?_, fun m x hm hp => ?_, fun m x hm hp => ?_, fun m x hm hp => ?_, fun m x hm hp => ?_, fun m x hm hp => ?_, fun m x hm hp => ?_, fun m x hm hp => ?_, fun m x hm hp => ?_, fun m x hm hp => ?_, fun m x hm hp => ?_, fun m x hm hp => ?_, fun m x hm hp => ?_, fun m x hm hp => ?_, fun m x hm hp => ?_, fun m x hm hp => ?_, fun m x hm hp => ?_, fun m x hm hp => ?_, fun m x hm hp => ?_, fun m x hm hp => ?_, fun m x hm hp => ?_, fun m x hm hp => ?_, fun m x hm hp => ?_, fun m x hm hp => ?_, fun m x hm hp => ?_, fun m x hm hp => ?_, fun m x hm hp => ?_, fun m x hm hp => ?_, fun m x hm hp => ?_, fun m x hm hp => ?_, fun m x hm hp => ?_, fun m x hm hp => ?_, fun m x hm hp => ?_, trivial⟩
              · skip
                obtain ⟨xu, uu⟩ := x
                show J _ _ _ _ _ (_) _
                refine J.pr (fun hF => ?_)
                refine J.move rfl rfl ?_
                exact J.finX rfl (fun _ hw => ⟨⟨xu, uu⟩, rfl, fun _ _ _ => rfl, hF, hw⟩)
              · skip
                obtain ⟨xu, uu⟩ := x
                show J _ _ _ _ _ (_) _
                refine J.pr (fun hF => ?_)
                refine J.move rfl rfl ?_
                exact J.finX rfl (fun _ hw => ⟨⟨xu, uu⟩, rfl, fun _ _ _ => rfl, hF, hw⟩)
              · skip
                obtain ⟨xu, uu⟩ := x
                show J _ _ _ _ _ ((18, .int .i64 ((i : Nat) : Int)) :: (17, .slice (some ⟨q1, o1, none⟩) xa.length c1) :: _) _
                refine J.pr (fun hF => ?_)
                refine J.indexAddrS Ty.el44 Ty.s28 rfl rfl (by omega) (by omega) rfl ?_
                exact J.finX rfl (fun _ hw => ⟨⟨xu, uu⟩, rfl, fun _ _ _ => rfl, hF, hw⟩)
              · skip
                obtain ⟨xu, uu⟩ := x
                show J _ _ _ _ _ ((19, .pointer (some ⟨q1, o1 + ((i : Nat) : Int).toNat * 34, none⟩)) :: _) _
                refine J.pr (fun hF => ?_)
                refine J.fieldAddr Ty.fd28_0 rfl rfl ?_
                exact J.finX rfl (fun _ hw => ⟨⟨xu, uu⟩, rfl, fun _ _ _ => rfl, hF, hw⟩)
              · skip
                obtain ⟨xu, uu⟩ := x
                show J _ _ _ _ _ ((20, .pointer (some ⟨q1, o1 + ((i : Nat) : Int).toNat * 34 + 0, none⟩)) :: _) _
                refine J.pr (fun hF => ?_)
                refine J.loadA (vs := cI kx) Ty.a23 Ty.s23 rfl rfl (fun w1 hw => itemF_at (r := 0) (hr1.below (hw.drop (List.nil_sublist _)).below) hxg rfl (by rw [Int.toNat_natCast])) rfl ?_
                exact J.finX rfl (fun _ hw => ⟨⟨xu, uu⟩, rfl, fun _ _ _ => rfl, hF, hw⟩)
              · skip
                obtain ⟨xu, uu⟩ := x
                show J _ _ _ _ _ (_) _
                refine J.pr (fun hF => ?_)
                refine J.move rfl rfl ?_
                exact J.finX rfl (fun _ hw => ⟨⟨xu, uu⟩, rfl, fun _ _ _ => rfl, hF, hw⟩)
              · skip
                obtain ⟨xu, uu⟩ := x
                show J _ _ _ _ _ (_) _
                refine J.pr (fun hF => ?_)
                refine J.move rfl rfl ?_
                exact J.finX rfl (fun _ hw => ⟨⟨xu, uu⟩, rfl, fun _ _ _ => rfl, hF, hw⟩)
              · skip
                obtain ⟨xu, uu⟩ := x
                show J _ _ _ _ _ ((23, .int .i64 ((i : Nat) : Int)) :: (22, .slice (some ⟨q2, o2, none⟩) bs.length c2) :: _) _
                refine J.pr (fun hF => ?_)
                refine J.indexAddrS Ty.el44 Ty.s28 rfl rfl (by omega) (by omega) rfl ?_
                exact J.finX rfl (fun _ hw => ⟨⟨xu, uu⟩, rfl, fun _ _ _ => rfl, hF, hw⟩)
              · skip
                obtain ⟨xu, uu⟩ := x
                show J _ _ _ _ _ ((24, .pointer (some ⟨q2, o2 + ((i : Nat) : Int).toNat * 34, none⟩)) :: _) _
                refine J.pr (fun hF => ?_)
                refine J.fieldAddr Ty.fd28_0 rfl rfl ?_
                exact J.finX rfl (fun _ hw => ⟨⟨xu, uu⟩, rfl, fun _ _ _ => rfl, hF, hw⟩)
              · skip
                obtain ⟨xu, uu⟩ := x
                show J _ _ _ _ _ ((25, .pointer (some ⟨q2, o2 + ((i : Nat) : Int).toNat * 34 + 0, none⟩)) :: _) _
                refine J.pr (fun hF => ?_)
                refine J.loadA (vs := cI ky) Ty.a23 Ty.s23 rfl rfl (fun w1 hw => itemF_at (r := 0) (hr2.below (hw.drop (List.nil_sublist _)).below) hyg rfl (by rw [Int.toNat_natCast])) rfl ?_
                exact J.finX rfl (fun _ hw => ⟨⟨xu, uu⟩, rfl, fun _ _ _ => rfl, hF, hw⟩)
              · skip
                obtain ⟨xu, uu⟩ := x
                show J _ _ _ _ _ ((26, .agg (cI ky).toArray) :: (21, .agg (cI kx).toArray) :: _) _
                refine J.pr (fun hF => ?_)
                refine J.neI Ty.QI Ty.keyI rfl rfl rfl ?_
                refine J.name 27 rfl (show _ = Value.bool false by simp [e1]) ?_
                exact J.finX rfl (fun _ hw => ⟨⟨xu, uu⟩, rfl, fun _ _ _ => rfl, hF, hw⟩)
              · skip
                obtain ⟨xu, uu⟩ := x
                show J _ _ _ _ _ ((27, .bool false) :: _) _
                refine J.pr (fun hF => ?_)
                refine J.move rfl rfl ?_
                exact J.finX rfl (fun _ hw => ⟨⟨xu, uu⟩, rfl, fun _ _ _ => rfl, hF, hw⟩)
              · skip
                obtain ⟨xu, uu⟩ := x
                show J _ _ _ _ _ ((28, .bool false) :: _) _
                refine J.pr (fun hF => ?_)
                first | refine J.skip rfl rfl rfl rfl rfl ?_ | refine J.skipU rfl rfl rfl rfl ?_ | (refine J.unguard rfl rfl rfl ?_; refine J.move rfl rfl ?_)
                exact J.finX rfl (fun _ hw => ⟨⟨xu, uu⟩, rfl, fun _ _ _ => rfl, hF, hw⟩)
              · skip
                obtain ⟨xu, uu⟩ := x
                show J _ _ _ _ _ ((28, .bool false) :: _) _
                refine J.pr (fun hF => ?_)
                first | refine J.skip rfl rfl rfl rfl rfl ?_ | refine J.skipU rfl rfl rfl rfl ?_ | (refine J.unguard rfl rfl rfl ?_; refine J.move rfl rfl ?_)
                exact J.finX rfl (fun _ hw => ⟨⟨xu, uu⟩, rfl, fun _ _ _ => rfl, hF, hw⟩)
              · skip
                obtain ⟨xu, uu⟩ := x
                show J _ _ _ _ _ ((28, .bool false) :: (30, .int .i64 ((i : Nat) : Int)) :: (29, .slice (some ⟨q1, o1, none⟩) xa.length c1) :: _) _
                refine J.pr (fun hF => ?_)
                refine J.unguard rfl rfl rfl ?_
                refine J.indexAddrS Ty.el44 Ty.s28 rfl rfl (by omega) (by omega) rfl ?_
                exact J.finX rfl (fun _ hw => ⟨⟨xu, uu⟩, rfl, fun _ _ _ => rfl, hF, hw⟩)
              · skip
                obtain ⟨xu, uu⟩ := x
                show J _ _ _ _ _ ((28, .bool false) :: (31, .pointer (some ⟨q1, o1 + ((i : Nat) : Int).toNat * 34, none⟩)) :: _) _
                refine J.pr (fun hF => ?_)
                first | refine J.skip rfl rfl rfl rfl rfl ?_ | refine J.skipU rfl rfl rfl rfl ?_ | (refine J.unguard rfl rfl rfl ?_; refine J.fieldAddr Ty.fd28_1 rfl rfl ?_)
                exact J.finX rfl (fun _ hw => ⟨⟨xu, uu⟩, rfl, fun _ _ _ => rfl, hF, hw⟩)
              · skip
                obtain ⟨xu, uu⟩ := x
                show J _ _ _ _ _ ((28, .bool false) :: (32, .pointer (some ⟨q1, o1 + ((i : Nat) : Int).toNat * 34 + 16, none⟩)) :: _) _
                refine J.pr (fun hF => ?_)
                refine J.unguard rfl rfl rfl ?_
                refine J.loadA (vs := cV vx) Ty.a25 Ty.s25 rfl rfl (fun w1 hw => itemF_at (r := 16) (hr1.below (hw.drop (List.nil_sublist _)).below) hxg rfl (by rw [Int.toNat_natCast])) rfl ?_
                exact J.finX rfl (fun _ hw => ⟨⟨xu, uu⟩, rfl, fun _ _ _ => rfl, hF, hw⟩)
              · skip
                obtain ⟨xu, uu⟩ := x
                show J _ _ _ _ _ ((28, .bool false) :: _) _
                refine J.pr (fun hF => ?_)
                first | refine J.skip rfl rfl rfl rfl rfl ?_ | refine J.skipU rfl rfl rfl rfl ?_ | (refine J.unguard rfl rfl rfl ?_; refine J.move rfl rfl ?_)
                exact J.finX rfl (fun _ hw => ⟨⟨xu, uu⟩, rfl, fun _ _ _ => rfl, hF, hw⟩)
              · skip
                obtain ⟨xu, uu⟩ := x
                show J _ _ _ _ _ ((28, .bool false) :: _) _
                refine J.pr (fun hF => ?_)
                first | refine J.skip rfl rfl rfl rfl rfl ?_ | refine J.skipU rfl rfl rfl rfl ?_ | (refine J.unguard rfl rfl rfl ?_; refine J.move rfl rfl ?_)
                exact J.finX rfl (fun _ hw => ⟨⟨xu, uu⟩, rfl, fun _ _ _ => rfl, hF, hw⟩)
              · skip
                obtain ⟨xu, uu⟩ := x
                show J _ _ _ _ _ ((28, .bool false) :: (35, .int .i64 ((i : Nat) : Int)) :: (34, .slice (some ⟨q2, o2, none⟩) bs.length c2) :: _) _
                refine J.pr (fun hF => ?_)
                refine J.unguard rfl rfl rfl ?_
                refine J.indexAddrS Ty.el44 Ty.s28 rfl rfl (by omega) (by omega) rfl ?_
                exact J.finX rfl (fun _ hw => ⟨⟨xu, uu⟩, rfl, fun _ _ _ => rfl, hF, hw⟩)
              · skip
                obtain ⟨xu, uu⟩ := x
                show J _ _ _ _ _ ((28, .bool false) :: (36, .pointer (some ⟨q2, o2 + ((i : Nat) : Int).toNat * 34, none⟩)) :: _) _
                refine J.pr (fun hF => ?_)
                first | refine J.skip rfl rfl rfl rfl rfl ?_ | refine J.skipU rfl rfl rfl rfl ?_ | (refine J.unguard rfl rfl rfl ?_; refine J.fieldAddr Ty.fd28_1 rfl rfl ?_)
                exact J.finX rfl (fun _ hw => ⟨⟨xu, uu⟩, rfl, fun _ _ _ => rfl, hF, hw⟩)
              · skip
                obtain ⟨xu, uu⟩ := x
                show J _ _ _ _ _ ((28, .bool false) :: (37, .pointer (some ⟨q2, o2 + ((i : Nat) : Int).toNat * 34 + 16, none⟩)) :: _) _
                refine J.pr (fun hF => ?_)
                refine J.unguard rfl rfl rfl ?_
                refine J.loadA (vs := cV vy) Ty.a25 Ty.s25 rfl rfl (fun w1 hw => itemF_at (r := 16) (hr2.below (hw.drop (List.nil_sublist _)).below) hyg rfl (by rw [Int.toNat_natCast])) rfl ?_
                exact J.finX rfl (fun _ hw => ⟨⟨xu, uu⟩, rfl, fun _ _ _ => rfl, hF, hw⟩)
              · skip
                obtain ⟨xu, uu⟩ := x
                show J _ _ _ _ _ ((28, .bool false) :: (38, .agg (cV vy).toArray) :: (33, .agg (cV vx).toArray) :: _) _
                refine J.pr (fun hF => ?_)
                refine J.unguard rfl rfl rfl ?_
                refine J.neV rfl rfl hvx hvy rfl ?_
                refine J.name 39 rfl (show _ = Value.bool false by simp [e2]) ?_
                exact J.finX rfl (fun _ hw => ⟨⟨xu, uu⟩, rfl, fun _ _ _ => rfl, hF, hw⟩)
              · skip
                obtain ⟨xu, uu⟩ := x
                show J _ _ _ _ _ ((39, .bool false) :: (28, .bool false) :: _) _
                refine J.pr (fun hF => ?_)
                (first | refine J.pickT rfl rfl rfl ?_ | refine J.pickF rfl rfl rfl ?_)
                exact J.finX rfl (fun _ hw => ⟨⟨xu, uu⟩, rfl, fun _ _ _ => rfl, hF, hw⟩)
              · skip
                obtain ⟨xu, uu⟩ := x
                show J _ _ _ _ _ ((28, .bool false) :: (40, .bool false) :: _) _
                refine J.pr (fun hF => ?_)
                refine J.move rfl rfl ?_
                exact J.finX rfl (fun _ hw => ⟨⟨xu, uu⟩, rfl, fun _ _ _ => rfl, hF, hw⟩)
              · skip
                obtain ⟨xu, uu⟩ := x
                show J _ _ _ _ _ ((41, .bool false) :: _) _
                refine J.pr (fun hF => ?_)
                first | refine J.skip rfl rfl rfl rfl rfl ?_ | refine J.skipU rfl rfl rfl rfl ?_ | (refine J.unguard rfl rfl rfl ?_; refine J.move rfl rfl ?_)
                exact J.finX rfl (fun _ hw => ⟨⟨xu, uu⟩, rfl, fun _ _ _ => rfl, hF, hw⟩)
              · skip
                obtain ⟨xu, uu⟩ := x
                show J _ _ _ _ _ ((41, .bool false) :: _) _
                refine J.pr (fun hF => ?_)
                first | refine J.skip rfl rfl rfl rfl rfl ?_ | refine J.skipU rfl rfl rfl rfl ?_ | (refine J.unguard rfl rfl rfl ?_; refine J.move rfl rfl ?_)
                exact J.finX rfl (fun _ hw => ⟨⟨xu, uu⟩, rfl, fun _ _ _ => rfl, hF, hw⟩)
              · skip
                obtain ⟨xu, uu⟩ := x
                show J _ _ _ _ _ ((41, .bool false) :: (43, .int .i64 ((i : Nat) : Int)) :: (42, .slice (some ⟨q1, o1, none⟩) xa.length c1) :: _) _
                refine J.pr (fun hF => ?_)
                refine J.unguard rfl rfl rfl ?_
                refine J.indexAddrS Ty.el44 Ty.s28 rfl rfl (by omega) (by omega) rfl ?_
                exact J.finX rfl (fun _ hw => ⟨⟨xu, uu⟩, rfl, fun _ _ _ => rfl, hF, hw⟩)
              · skip
                obtain ⟨xu, uu⟩ := x
                show J _ _ _ _ _ ((41, .bool false) :: (44, .pointer (some ⟨q1, o1 + ((i : Nat) : Int).toNat * 34, none⟩)) :: _) _
                refine J.pr (fun hF => ?_)
                first | refine J.skip rfl rfl rfl rfl rfl ?_ | refine J.skipU rfl rfl rfl rfl ?_ | (refine J.unguard rfl rfl rfl ?_; refine J.fieldAddr Ty.fd28_2 rfl rfl ?_)
                exact J.finX rfl (fun _ hw => ⟨⟨xu, uu⟩, rfl, fun _ _ _ => rfl, hF, hw⟩)
              · skip
                obtain ⟨xu, uu⟩ := x
                show J _ _ _ _ _ ((41, .bool false) :: (45, .pointer (some ⟨q1, o1 + ((i : Nat) : Int).toNat * 34 + 33, none⟩)) :: _) _
                refine J.pr (fun hF => ?_)
                refine J.unguard rfl rfl rfl ?_
                refine J.load1 (v := (.slice ax bx.length cx)) Ty.a26 rfl (fun w1 hw => (itemF_at (r := 33) (q := o1 + ((i : Nat) : Int).toNat * 34 + 33) (vs := [(.slice ax bx.length cx)]) (hr1.below (hw.drop (List.nil_sublist _)).below) hxg rfl (by rw [Int.toNat_natCast]) 0 Nat.one_pos : _)) rfl ?_
                exact J.finX rfl (fun _ hw => ⟨⟨xu, uu⟩, rfl, fun _ _ _ => rfl, hF, hw⟩)
              · skip
                obtain ⟨xu, uu⟩ := x
                show J _ _ _ _ _ ((41, .bool false) :: (46, (.slice ax bx.length cx)) :: _) _
                refine J.pr (fun hF => ?_)
                refine J.unguard rfl rfl rfl ?_
                refine J.toStr (m := bx.length) (bs := bx) Ty.el26 Ty.u5 Ty.u9 rfl (fun w1 hw => (hxr.below (hw.drop (List.nil_sublist _)).below)) rfl rfl ?_
                exact J.finX rfl (fun _ hw => ⟨⟨xu, uu⟩, rfl, fun _ _ _ => rfl, hF, hw⟩)
              · skip
                obtain ⟨xu, uu⟩ := x
                show J _ _ _ _ _ ((41, .bool false) :: _) _
                refine J.pr (fun hF => ?_)
                first | refine J.skip rfl rfl rfl rfl rfl ?_ | refine J.skipU rfl rfl rfl rfl ?_ | (refine J.unguard rfl rfl rfl ?_; refine J.move rfl rfl ?_)
                exact J.finX rfl (fun _ hw => ⟨⟨xu, uu⟩, rfl, fun _ _ _ => rfl, hF, hw⟩)
              · skip
                obtain ⟨xu, uu⟩ := x
                show J _ _ _ _ _ ((41, .bool false) :: _) _
                refine J.pr (fun hF => ?_)
                first | refine J.skip rfl rfl rfl rfl rfl ?_ | refine J.skipU rfl rfl rfl rfl ?_ | (refine J.unguard rfl rfl rfl ?_; refine J.move rfl rfl ?_)
                exact J.finX rfl (fun _ hw => ⟨⟨xu, uu⟩, rfl, fun _ _ _ => rfl, hF, hw⟩)
              · skip
                obtain ⟨xu, uu⟩ := x
                show J _ _ _ _ _ ((41, .bool false) :: (49, .int .i64 ((i : Nat) : Int)) :: (48, .slice (some ⟨q2, o2, none⟩) bs.length c2) :: _) _
                refine J.pr (fun hF => ?_)
                refine J.unguard rfl rfl rfl ?_
                refine J.indexAddrS Ty.el44 Ty.s28 rfl rfl (by omega) (by omega) rfl ?_
                exact J.finX rfl (fun _ hw => ⟨⟨xu, uu⟩, rfl, fun _ _ _ => rfl, hF, hw⟩)
              · skip
                obtain ⟨xu, uu⟩ := x
                show J _ _ _ _ _ ((41, .bool false) :: (50, .pointer (some ⟨q2, o2 + ((i : Nat) : Int).toNat * 34, none⟩)) :: _) _
                refine J.pr (fun hF => ?_)
                first | refine J.skip rfl rfl rfl rfl rfl ?_ | refine J.skipU rfl rfl rfl rfl ?_ | (refine J.unguard rfl rfl rfl ?_; refine J.fieldAddr Ty.fd28_2 rfl rfl ?_)
                exact J.finX rfl (fun _ hw => ⟨⟨xu, uu⟩, rfl, fun _ _ _ => rfl, hF, hw⟩)
              · skip
                obtain ⟨xu, uu⟩ := x
                show J _ _ _ _ _ ((41, .bool false) :: (51, .pointer (some ⟨q2, o2 + ((i : Nat) : Int).toNat * 34 + 33, none⟩)) :: _) _
                refine J.pr (fun hF => ?_)
                refine J.unguard rfl rfl rfl ?_
                refine J.load1 (v := (.slice ay by_.length cy)) Ty.a26 rfl (fun w1 hw => (itemF_at (r := 33) (q := o2 + ((i : Nat) : Int).toNat * 34 + 33) (vs := [(.slice ay by_.length cy)]) (hr2.below (hw.drop (List.nil_sublist _)).below) hyg rfl (by rw [Int.toNat_natCast]) 0 Nat.one_pos : _)) rfl ?_
                exact J.finX rfl (fun _ hw => ⟨⟨xu, uu⟩, rfl, fun _ _ _ => rfl, hF, hw⟩)
              · skip
                obtain ⟨xu, uu⟩ := x
                show J _ _ _ _ _ ((41, .bool false) :: (52, (.slice ay by_.length cy)) :: _) _
                refine J.pr (fun hF => ?_)
                refine J.unguard rfl rfl rfl ?_
                refine J.toStr (m := by_.length) (bs := by_) Ty.el26 Ty.u5 Ty.u9 rfl (fun w1 hw => (hyr.below (hw.drop (List.nil_sublist _)).below)) rfl rfl ?_
                exact J.finX rfl (fun _ hw => ⟨⟨xu, uu⟩, rfl, fun _ _ _ => rfl, hF, hw⟩)
              · skip
                obtain ⟨xu, uu⟩ := x
                show J _ _ _ _ _ ((41, .bool false) :: (53, .string (str by_)) :: (47, .string (str bx)) :: _) _
                refine J.pr (fun hF => ?_)
                refine J.unguard rfl rfl rfl ?_
                refine J.strNe (xs := bx) (ys := by_) rfl rfl rfl ?_
                refine J.name 54 rfl (show _ = Value.bool true by simp [e3]) ?_
                exact J.finX rfl (fun _ hw => ⟨⟨xu, uu⟩, rfl, fun _ _ _ => rfl, hF, hw⟩)
              · skip
                obtain ⟨xu, uu⟩ := x
                show J _ _ _ _ _ ((54, .bool true) :: (41, .bool false) :: _) _
                refine J.pr (fun hF => ?_)
                (first | refine J.pickT rfl rfl rfl ?_ | refine J.pickF rfl rfl rfl ?_)
                exact J.finX rfl (fun _ hw => ⟨⟨xu, uu⟩, rfl, fun _ _ _ => rfl, hF, hw⟩)
            case htail =>
              intro x
              obtain ⟨xu, uu⟩ := x
              show J _ _ _ _ _ ((55, .bool true) :: (54, .bool true) :: (53, .string (str by_)) :: (52, (.slice ay by_.length cy)) :: (51, .pointer (some ⟨q2, o2 + ((i : Nat) : Int).toNat * 34 + 33, none⟩)) :: (50, .pointer (some ⟨q2, o2 + ((i : Nat) : Int).toNat * 34, none⟩)) :: (49, .int .i64 ((i : Nat) : Int)) :: (48, .slice (some ⟨q2, o2, none⟩) bs.length c2) :: (47, .string (str bx)) :: (46, (.slice ax bx.length cx)) :: (45, .pointer (some ⟨q1, o1 + ((i : Nat) : Int).toNat * 34 + 33, none⟩)) :: (44, .pointer (some ⟨q1, o1 + ((i : Nat) : Int).toNat * 34, none⟩)) :: (43, .int .i64 ((i : Nat) : Int)) :: (42, .slice (some ⟨q1, o1, none⟩) xa.length c1) :: (41, .bool false) :: (40, .bool false) :: (39, .bool false) :: (38, .agg (cV vy).toArray) :: (37, .pointer (some ⟨q2, o2 + ((i : Nat) : Int).toNat * 34 + 16, none⟩)) :: (36, .pointer (some ⟨q2, o2 + ((i : Nat) : Int).toNat * 34, none⟩)) :: (35, .int .i64 ((i : Nat) : Int)) :: (34, .slice (some ⟨q2, o2, none⟩) bs.length c2) :: (33, .agg (cV vx).toArray) :: (32, .pointer (some ⟨q1, o1 + ((i : Nat) : Int).toNat * 34 + 16, none⟩)) :: (31, .pointer (some ⟨q1, o1 + ((i : Nat) : Int).toNat * 34, none⟩)) :: (30, .int .i64 ((i : Nat) : Int)) :: (29, .slice (some ⟨q1, o1, none⟩) xa.length c1) :: (28, .bool false) :: (27, .bool false) :: (26, .agg (cI ky).toArray) :: (25, .pointer (some ⟨q2, o2 + ((i : Nat) : Int).toNat * 34 + 0, none⟩)) :: (24, .pointer (some ⟨q2, o2 + ((i : Nat) : Int).toNat * 34, none⟩)) :: (23, .int .i64 ((i : Nat) : Int)) :: (22, .slice (some ⟨q2, o2, none⟩) bs.length c2) :: (21, .agg (cI kx).toArray) :: (20, .pointer (some ⟨q1, o1 + ((i : Nat) : Int).toNat * 34 + 0, none⟩)) :: (19, .pointer (some ⟨q1, o1 + ((i : Nat) : Int).toNat * 34, none⟩)) :: (18, .int .i64 ((i : Nat) : Int)) :: (17, .slice (some ⟨q1, o1, none⟩) xa.length c1) :: _) (fun w1 => (True) ∧ St w [] ([]) w1)
              refine J.pr (fun hF => ?_)
              refine J.nil ?_
              refine JX.thenN (hK9 _ _ ?_)
              first | refine JC.condT rfl ?_ | refine JC.cond rfl (fun _ => ?_) (fun h => by first | (exfalso; simp at h; omega) | (simp at h))
              refine JC.seq (fun K10 hK10 => ?_)
              refine JC.region ?_
              refine J.assign rfl rfl ?_
              refine J.nil ?_
              refine JX.thenN (hK10 _ _ ?_)
              refine JC.ret ?_
              refine JX.blockR ?_
              refine JX.thenR ?_
              refine JX.thenR ?_
              refine JX.blockR ?_
              refine JX.thenR ?_
              refine JX.ret1 rfl rfl (fun w hw => ?_)
              first
              | exact ⟨by rw [decide_eq_true hg], hw.below⟩
              | exact ⟨by rw [decide_eq_false hg], hw.below⟩
        · skip
          have hg := differ hxg hyg (by simp [HI.it, e2])
          apply JC.drawX (α := Nat × Unit) 39 (fun x => match x with | ⟨xu, uu⟩ => [.slice (some ⟨q1, o1, none⟩) xa.length c1, .int .i64 ((i : Nat) : Int), .pointer (some ⟨q1, o1 + ((i : Nat) : Int).toNat * 34, none⟩), .pointer (some ⟨q1, o1 + ((i : Nat) : Int).toNat * 34 + 0, none⟩), .agg (cI kx).toArray, .slice (some ⟨q2, o2, none⟩) bs.length c2, .int .i64 ((i : Nat) : Int), .pointer (some ⟨q2, o2 + ((i : Nat) : Int).toNat * 34, none⟩), .pointer (some ⟨q2, o2 + ((i : Nat) : Int).toNat * 34 + 0, none⟩), .agg (cI ky).toArray, .bool false, .bool false, .slice (some ⟨q1, o1, none⟩) xa.length c1, .int .i64 ((i : Nat) : Int), .pointer (some ⟨q1, o1 + ((i : Nat) : Int).toNat * 34, none⟩), .pointer (some ⟨q1, o1 + ((i : Nat) : Int).toNat * 34 + 16, none⟩), .agg (cV vx).toArray, .slice (some ⟨q2, o2, none⟩) bs.length c2, .int .i64 ((i : Nat) : Int), .pointer (some ⟨q2, o2 + ((i : Nat) : Int).toNat * 34, none⟩), .pointer (some ⟨q2, o2 + ((i : Nat) : Int).toNat * 34 + 16, none⟩), .agg (cV vy).toArray, .bool true, .bool true, .bool true, undef, undef, undef, undef, undef, undef, undef, undef, undef, undef, undef, undef, undef, .bool true]) (fun m x => match x with | ⟨xu, uu⟩ => fun w1 => (True) ∧ St w [] ([]) w1) Ty.mixed rfl rfl rfl (by kernel_rfl) rfl rfl ?hinit ?hstep ?htail
          case hinit => exact fun w1 hw => ⟨(0, ()), trivial, hw.drew⟩
          case hstep =>
            refine ⟨fun m x hm hp => ?_, fun m x hm hp => ?_, fun m x hm hp => ?_, fun m x hm hp => ?_, fun m x hm hp => ?_, fun m x hm hp => ?_, fun m x hm hp => ?_, fun m x hm hp => ?_, fun m x hm hp => ?_, fun m x hm hp => ?_, fun m x hm hp => ?_, fun m x hm hp => ?_, fun m x hm hp => ?_, fun m x hm hp => ?_, fun m x hm hp => ?_, fun m x hm hp => ?_, fun m x hm hp => ?_, fun m x hm hp => ?_, fun m x hm hp => ?_, fun m x hm hp => ?_, fun m x hm hp => ?_, fun m x hm hp => ?_, fun m x hm hp => ?_, fun m x hm hp => ?_, fun m x hm hp => ?_, fun m x hm hp => ?_, fun m x hm hp => ?_, fun m x hm hp => ?_, fun m x hm hp => ?_, fun m x hm hp => ?_, fun m x hm hp => ?_, fun m x hm hp => ?_, fun m x hm hp => ?_, fun m x hm hp => ?_, fun m x hm hp => ?_, fun m x hm hp => ?_, fun m x hm hp => ?_, fun m x hm hp => ?_, fun m x hm hp => ?_, trivial⟩
            · skip
              obtain ⟨xu, uu⟩ := x
              show J _ _ _ _ _ (_) _
              refine J.pr (fun hF => ?_)
              refine J.move rfl rfl ?_
              exact J.finX rfl (fun _ hw => ⟨⟨xu, uu⟩, rfl, fun _ _ _ => rfl, hF, hw⟩)
            · skip
              obtain ⟨xu, uu⟩ := x
              show J _ _ _ _ _ (_) _
              refine J.pr (fun hF => ?_)
              refine J.move rfl rfl ?_
              exact J.finX rfl (fun _ hw => ⟨⟨xu, uu⟩, rfl, fun _ _ _ => rfl, hF, hw⟩)
            · skip
              obtain ⟨xu, uu⟩ := x
              show J _ _ _ _ _ ((18, .int .i64 ((i : Nat) : Int)) :: (17, .slice (some ⟨q1, o1, none⟩) xa.length c1) :: _) _
              refine J.pr (fun hF => ?_)
              refine J.indexAddrS Ty.el44 Ty.s28 rfl rfl (by omega) (by omega) rfl ?_
              exact J.finX rfl (fun _ hw => ⟨⟨xu, uu⟩, rfl, fun _ _ _ => rfl, hF, hw⟩)
            · skip
              obtain ⟨xu, uu⟩ := x
              show J _ _ _ _ _ ((19, .pointer (some ⟨q1, o1 + ((i : Nat) : Int).toNat * 34, none⟩)) :: _) _
              refine J.pr (fun hF => ?_)
              refine J.fieldAddr Ty.fd28_0 rfl rfl ?_
              exact J.finX rfl (fun _ hw => ⟨⟨xu, uu⟩, rfl, fun _ _ _ => rfl, hF, hw⟩)
            · skip
              obtain ⟨xu, uu⟩ := x
              show J _ _ _ _ _ ((20, .pointer (some ⟨q1, o1 + ((i : Nat) : Int).toNat * 34 + 0, none⟩)) :: _) _
              refine J.pr (fun hF => ?_)
              refine J.loadA (vs := cI kx) Ty.a23 Ty.s23 rfl rfl (fun w1 hw => itemF_at (r := 0) (hr1.below (hw.drop (List.nil_sublist _)).below) hxg rfl (by rw [Int.toNat_natCast])) rfl ?_
              exact J.finX rfl (fun _ hw => ⟨⟨xu, uu⟩, rfl, fun _ _ _ => rfl, hF, hw⟩)
            · skip
              obtain ⟨xu, uu⟩ := x
              show J _ _ _ _ _ (_) _
              refine J.pr (fun hF => ?_)
              refine J.move rfl rfl ?_
              exact J.finX rfl (fun _ hw => ⟨⟨xu, uu⟩, rfl, fun _ _ _ => rfl, hF, hw⟩)
            · skip
              obtain ⟨xu, uu⟩ := x
              show J _ _ _ _ _ (_) _
              refine J.pr (fun hF => ?_)
              refine J.move rfl rfl ?_
              exact J.finX rfl (fun _ hw => ⟨⟨xu, uu⟩, rfl, fun _ _ _ => rfl, hF, hw⟩)
            · skip
              obtain ⟨xu, uu⟩ := x
              show J _ _ _ _ _ ((23, .int .i64 ((i : Nat) : Int)) :: (22, .slice (some ⟨q2, o2, none⟩) bs.length c2) :: _) _
              refine J.pr (fun hF => ?_)
              refine J.indexAddrS Ty.el44 Ty.s28 rfl rfl (by omega) (by omega) rfl ?_
              exact J.finX rfl (fun _ hw => ⟨⟨xu, uu⟩, rfl, fun _ _ _ => rfl, hF, hw⟩)
            · skip
              obtain ⟨xu, uu⟩ := x
              show J _ _ _ _ _ ((24, .pointer (some ⟨q2, o2 + ((i : Nat) : Int).toNat * 34, none⟩)) :: _) _
              refine J.pr (fun hF => ?_)
              refine J.fieldAddr Ty.fd28_0 rfl rfl ?_
              exact J.finX rfl (fun _ hw => ⟨⟨xu, uu⟩, rfl, fun _ _ _ => rfl, hF, hw⟩)
            · skip
              obtain ⟨xu, uu⟩ := x
              show J _ _ _ _ _ ((25, .pointer (some ⟨q2, o2 + ((i : Nat) : Int).toNat * 34 + 0, none⟩)) :: _) _
              refine J.pr (fun hF => ?_)
              refine J.loadA (vs := cI ky) Ty.a23 Ty.s23 rfl rfl (fun w1 hw => itemF_at (r := 0) (hr2.below (hw.drop (List.nil_sublist _)).below) hyg rfl (by rw [Int.toNat_natCast])) rfl ?_
              exact J.finX rfl (fun _ hw => ⟨⟨xu, uu⟩, rfl, fun _ _ _ => rfl, hF, hw⟩)
            · skip
              obtain ⟨xu, uu⟩ := x
              show J _ _ _ _ _ ((26, .agg (cI ky).toArray) :: (21, .agg (cI kx).toArray) :: _) _
              refine J.pr (fun hF => ?_)
              refine J.neI Ty.QI Ty.keyI rfl rfl rfl ?_
              refine J.name 27 rfl (show _ = Value.bool false by simp [e1]) ?_
              exact J.finX rfl (fun _ hw => ⟨⟨xu, uu⟩, rfl, fun _ _ _ => rfl, hF, hw⟩)
            · skip
              obtain ⟨xu, uu⟩ := x
              show J _ _ _ _ _ ((27, .bool false) :: _) _
              refine J.pr (fun hF => ?_)
              refine J.move rfl rfl ?_
              exact J.finX rfl (fun _ hw => ⟨⟨xu, uu⟩, rfl, fun _ _ _ => rfl, hF, hw⟩)
            · skip
              obtain ⟨xu, uu⟩ := x
              show J _ _ _ _ _ ((28, .bool false) :: _) _
              refine J.pr (fun hF => ?_)
              first | refine J.skip rfl rfl rfl rfl rfl ?_ | refine J.skipU rfl rfl rfl rfl ?_ | (refine J.unguard rfl rfl rfl ?_; refine J.move rfl rfl ?_)
              exact J.finX rfl (fun _ hw => ⟨⟨xu, uu⟩, rfl, fun _ _ _ => rfl, hF, hw⟩)
            · skip
              obtain ⟨xu, uu⟩ := x
              show J _ _ _ _ _ ((28, .bool false) :: _) _
              refine J.pr (fun hF => ?_)
              first | refine J.skip rfl rfl rfl rfl rfl ?_ | refine J.skipU rfl rfl rfl rfl ?_ | (refine J.unguard rfl rfl rfl ?_; refine J.move rfl rfl ?_)
              exact J.finX rfl (fun _ hw => ⟨⟨xu, uu⟩, rfl, fun _ _ _ => rfl, hF, hw⟩)
            · skip
              obtain ⟨xu, uu⟩ := x
              show J _ _ _ _ _ ((28, .bool false) :: (30, .int .i64 ((i : Nat) : Int)) :: (29, .slice (some ⟨q1, o1, none⟩) xa.length c1) :: _) _
              refine J.pr (fun hF => ?_)
              refine J.unguard rfl rfl rfl ?_
              refine J.indexAddrS Ty.el44 Ty.s28 rfl rfl (by omega) (by omega) rfl ?_
              exact J.finX rfl (fun _ hw => ⟨⟨xu, uu⟩, rfl, fun _ _ _ => rfl, hF, hw⟩)
            · skip
              obtain ⟨xu, uu⟩ := x
              show J _ _ _ _ _ ((28, .bool false) :: (31, .pointer (some ⟨q1, o1 + ((i : Nat) : Int).toNat * 34, none⟩)) :: _) _
              refine J.pr (fun hF => ?_)
              first | refine J.skip rfl rfl rfl rfl rfl ?_ | refine J.skipU rfl rfl rfl rfl ?_ | (refine J.unguard rfl rfl rfl ?_; refine J.fieldAddr Ty.fd28_1 rfl rfl ?_)
              exact J.finX rfl (fun _ hw => ⟨⟨xu, uu⟩, rfl, fun _ _ _ => rfl, hF, hw⟩)
            · skip
              obtain ⟨xu, uu⟩ := x
              show J _ _ _ _ _ ((28, .bool false) :: (32, .pointer (some ⟨q1, o1 + ((i : Nat) : Int).toNat * 34 + 16, none⟩)) :: _) _
              refine J.pr (fun hF => ?_)
              refine J.unguard rfl rfl rfl ?_
              refine J.loadA (vs := cV vx) Ty.a25 Ty.s25 rfl rfl (fun w1 hw => itemF_at (r := 16) (hr1.below (hw.drop (List.nil_sublist _)).below) hxg rfl (by rw [Int.toNat_natCast])) rfl ?_
              exact J.finX rfl (fun _ hw => ⟨⟨xu, uu⟩, rfl, fun _ _ _ => rfl, hF, hw⟩)
            · skip
              obtain ⟨xu, uu⟩ := x
              show J _ _ _ _ _ ((28, .bool false) :: _) _
              refine J.pr (fun hF => ?_)
              first | refine J.skip rfl rfl rfl rfl rfl ?_ | refine J.skipU rfl rfl rfl rfl ?_ | (refine J.unguard rfl rfl rfl ?_; refine J.move rfl rfl ?_)
              exact J.finX rfl (fun _ hw => ⟨⟨xu, uu⟩, rfl, fun _ _ _ => rfl, hF, hw⟩)
            · skip
              obtain ⟨xu, uu⟩ := x
              show J _ _ _ _ _ ((28, .bool false) :: _) _
              refine J.pr (fun hF => ?_)
              first | refine J.skip rfl rfl rfl rfl rfl ?_ | refine J.skipU rfl rfl rfl rfl ?_ | (refine J.unguard rfl rfl rfl ?_; refine J.move rfl rfl ?_)
              exact J.finX rfl (fun _ hw => ⟨⟨xu, uu⟩, rfl, fun _ _ _ => rfl, hF, hw⟩)
            · skip
              obtain ⟨xu, uu⟩ := x
              show J _ _ _ _ _ ((28, .bool false) :: (35, .int .i64 ((i : Nat) : Int)) :: (34, .slice (some ⟨q2, o2, none⟩) bs.length c2) :: _) _
              refine J.pr (fun hF => ?_)
              refine J.unguard rfl rfl rfl ?_
              refine J.indexAddrS Ty.el44 Ty.s28 rfl rfl (by omega) (by omega) rfl ?_
              exact J.finX rfl (fun _ hw => ⟨⟨xu, uu⟩, rfl, fun _ _ _ => rfl, hF, hw⟩)
            · skip
              obtain ⟨xu, uu⟩ := x
              show J _ _ _ _ _ ((28, .bool false) :: (36, .pointer (some ⟨q2, o2 + ((i : Nat) : Int).toNat * 34, none⟩)) :: _) _
              refine J.pr (fun hF => ?_)
              first | refine J.skip rfl rfl rfl rfl rfl ?_ | refine J.skipU rfl rfl rfl rfl ?_ | (refine J.unguard rfl rfl rfl ?_; refine J.fieldAddr Ty.fd28_1 rfl rfl ?_)
              exact J.finX rfl (fun _ hw => ⟨⟨xu, uu⟩, rfl, fun _ _ _ => rfl, hF, hw⟩)
            · skip
              obtain ⟨xu, uu⟩ := x
              show J _ _ _ _ _ ((28, .bool false) :: (37, .pointer (some ⟨q2, o2 + ((i : Nat) : Int).toNat * 34 + 16, none⟩)) :: _) _
              refine J.pr (fun hF => ?_)
              refine J.unguard rfl rfl rfl ?_
              refine J.loadA (vs := cV vy) Ty.a25 Ty.s25 rfl rfl (fun w1 hw => itemF_at (r := 16) (hr2.below (hw.drop (List.nil_sublist _)).below) hyg rfl (by rw [Int.toNat_natCast])) rfl ?_
              exact J.finX rfl (fun _ hw => ⟨⟨xu, uu⟩, rfl, fun _ _ _ => rfl, hF, hw⟩)
            · skip
              obtain ⟨xu, uu⟩ := x
              show J _ _ _ _ _ ((28, .bool false) :: (38, .agg (cV vy).toArray) :: (33, .agg (cV vx).toArray) :: _) _
              refine J.pr (fun hF => ?_)
              refine J.unguard rfl rfl rfl ?_
              refine J.neV rfl rfl hvx hvy rfl ?_
              refine J.name 39 rfl (show _ = Value.bool true by simp [e2]) ?_
              exact J.finX rfl (fun _ hw => ⟨⟨xu, uu⟩, rfl, fun _ _ _ => rfl, hF, hw⟩)
            · skip
              obtain ⟨xu, uu⟩ := x
              show J _ _ _ _ _ ((39, .bool true) :: (28, .bool false) :: _) _
              refine J.pr (fun hF => ?_)
              (first | refine J.pickT rfl rfl rfl ?_ | refine J.pickF rfl rfl rfl ?_)
              exact J.finX rfl (fun _ hw => ⟨⟨xu, uu⟩, rfl, fun _ _ _ => rfl, hF, hw⟩)
            · skip
              obtain ⟨xu, uu⟩ := x
              show J _ _ _ _ _ ((28, .bool false) :: (40, .bool true) :: _) _
              refine J.pr (fun hF => ?_)
              refine J.move rfl rfl ?_
              exact J.finX rfl (fun _ hw => ⟨⟨xu, uu⟩, rfl, fun _ _ _ => rfl, hF, hw⟩)
            · skip
              obtain ⟨xu, uu⟩ := x
              show J _ _ _ _ _ ((41, .bool true) :: _) _
              refine J.pr (fun hF => ?_)
              first | refine J.skip rfl rfl rfl rfl rfl ?_ | refine J.skipU rfl rfl rfl rfl ?_ | (refine J.unguard rfl rfl rfl ?_; refine J.move rfl rfl ?_)
              exact J.finX rfl (fun _ hw => ⟨⟨xu, uu⟩, rfl, fun _ _ _ => rfl, hF, hw⟩)
            · skip
              obtain ⟨xu, uu⟩ := x
              show J _ _ _ _ _ ((41, .bool true) :: _) _
              refine J.pr (fun hF => ?_)
              first | refine J.skip rfl rfl rfl rfl rfl ?_ | refine J.skipU rfl rfl rfl rfl ?_ | (refine J.unguard rfl rfl rfl ?_; refine J.move rfl rfl ?_)
              exact J.finX rfl (fun _ hw => ⟨⟨xu, uu⟩, rfl, fun _ _ _ => rfl, hF, hw⟩)
            · skip
              obtain ⟨xu, uu⟩ := x
              show J _ _ _ _ _ ((41, .bool true) :: (43, undef) :: (42, undef) :: _) _
              refine J.pr (fun hF => ?_)
              first | refine J.skip rfl rfl rfl rfl rfl ?_ | refine J.skipU rfl rfl rfl rfl ?_ | (refine J.unguard rfl rfl rfl ?_; refine J.indexAddrS Ty.el44 Ty.s28 rfl rfl (by omega) (by omega) rfl ?_)
              exact J.finX rfl (fun _ hw => ⟨⟨xu, uu⟩, rfl, fun _ _ _ => rfl, hF, hw⟩)
            · skip
              obtain ⟨xu, uu⟩ := x
              show J _ _ _ _ _ ((41, .bool true) :: (44, undef) :: _) _
              refine J.pr (fun hF => ?_)
              first | refine J.skip rfl rfl rfl rfl rfl ?_ | refine J.skipU rfl rfl rfl rfl ?_ | (refine J.unguard rfl rfl rfl ?_; refine J.fieldAddr Ty.fd28_2 rfl rfl ?_)
              exact J.finX rfl (fun _ hw => ⟨⟨xu, uu⟩, rfl, fun _ _ _ => rfl, hF, hw⟩)
            · skip
              obtain ⟨xu, uu⟩ := x
              show J _ _ _ _ _ ((41, .bool true) :: (45, undef) :: _) _
              refine J.pr (fun hF => ?_)
              first | refine J.skip rfl rfl rfl rfl rfl ?_ | refine J.skipU rfl rfl rfl rfl ?_ | (refine J.unguard rfl rfl rfl ?_; refine J.loadO Ty.a26 rfl (by repeat first | exact .head _ | apply List.Mem.tail | apply List.mem_append_right) (by exact rfl) rfl ?_)
              exact J.finX rfl (fun _ hw => ⟨⟨xu, uu⟩, rfl, fun _ _ _ => rfl, hF, hw⟩)
            · skip
              obtain ⟨xu, uu⟩ := x
              show J _ _ _ _ _ ((41, .bool true) :: (46, undef) :: _) _
              refine J.pr (fun hF => ?_)
              first | refine J.skip rfl rfl rfl rfl rfl ?_ | refine J.skipU rfl rfl rfl rfl ?_ | (refine J.unguard rfl rfl rfl ?_; fail)
              exact J.finX rfl (fun _ hw => ⟨⟨xu, uu⟩, rfl, fun _ _ _ => rfl, hF, hw⟩)
            · skip
              obtain ⟨xu, uu⟩ := x
              show J _ _ _ _ _ ((41, .bool true) :: _) _
              refine J.pr (fun hF => ?_)
              first | refine J.skip rfl rfl rfl rfl rfl ?_ | refine J.skipU rfl rfl rfl rfl ?_ | (refine J.unguard rfl rfl rfl ?_; refine J.move rfl rfl ?_)
              exact J.finX rfl (fun _ hw => ⟨⟨xu, uu⟩, rfl, fun _ _ _ => rfl, hF, hw⟩)
            · skip
              obtain ⟨xu, uu⟩ := x
              show J _ _ _ _ _ ((41, .bool true) :: _) _
              refine J.pr (fun hF => ?_)
              first | refine J.skip rfl rfl rfl rfl rfl ?_ | refine J.skipU rfl rfl rfl rfl ?_ | (refine J.unguard rfl rfl rfl ?_; refine J.move rfl rfl ?_)
              exact J.finX rfl (fun _ hw => ⟨⟨xu, uu⟩, rfl, fun _ _ _ => rfl, hF, hw⟩)
            · skip
              obtain ⟨xu, uu⟩ := x
              show J _ _ _ _ _ ((41, .bool true) :: (49, undef) :: (48, undef) :: _) _
              refine J.pr (fun hF => ?_)
              first | refine J.skip rfl rfl rfl rfl rfl ?_ | refine J.skipU rfl rfl rfl rfl ?_ | (refine J.unguard rfl rfl rfl ?_; refine J.indexAddrS Ty.el44 Ty.s28 rfl rfl (by omega) (by omega) rfl ?_)
              exact J.finX rfl (fun _ hw => ⟨⟨xu, uu⟩, rfl, fun _ _ _ => rfl, hF, hw⟩)
            · skip
              obtain ⟨xu, uu⟩ := x
              show J _ _ _ _ _ ((41, .bool true) :: (50, undef) :: _) _
              refine J.pr (fun hF => ?_)
              first | refine J.skip rfl rfl rfl rfl rfl ?_ | refine J.skipU rfl rfl rfl rfl ?_ | (refine J.unguard rfl rfl rfl ?_; refine J.fieldAddr Ty.fd28_2 rfl rfl ?_)
              exact J.finX rfl (fun _ hw => ⟨⟨xu, uu⟩, rfl, fun _ _ _ => rfl, hF, hw⟩)
            · skip
              obtain ⟨xu, uu⟩ := x
              show J _ _ _ _ _ ((41, .bool true) :: (51, undef) :: _) _
              refine J.pr (fun hF => ?_)
              first | refine J.skip rfl rfl rfl rfl rfl ?_ | refine J.skipU rfl rfl rfl rfl ?_ | (refine J.unguard rfl rfl rfl ?_; refine J.loadO Ty.a26 rfl (by repeat first | exact .head _ | apply List.Mem.tail | apply List.mem_append_right) (by exact rfl) rfl ?_)
              exact J.finX rfl (fun _ hw => ⟨⟨xu, uu⟩, rfl, fun _ _ _ => rfl, hF, hw⟩)
            · skip
              obtain ⟨xu, uu⟩ := x
              show J _ _ _ _ _ ((41, .bool true) :: (52, undef) :: _) _
              refine J.pr (fun hF => ?_)
              first | refine J.skip rfl rfl rfl rfl rfl ?_ | refine J.skipU rfl rfl rfl rfl ?_ | (refine J.unguard rfl rfl rfl ?_; fail)
              exact J.finX rfl (fun _ hw => ⟨⟨xu, uu⟩, rfl, fun _ _ _ => rfl, hF, hw⟩)
            · skip
              obtain ⟨xu, uu⟩ := x
              show J _ _ _ _ _ ((41, .bool true) :: (53, undef) :: (47, undef) :: _) _
              refine J.pr (fun hF => ?_)
              first | refine J.skip rfl rfl rfl rfl rfl ?_ | refine J.skipU rfl rfl rfl rfl ?_ | (refine J.unguard rfl rfl rfl ?_; (first | refine J.strNe rfl rfl rfl ?_ | refine J.bin rfl rfl rfl rfl ?_))
              exact J.finX rfl (fun _ hw => ⟨⟨xu, uu⟩, rfl, fun _ _ _ => rfl, hF, hw⟩)
            · skip
              obtain ⟨xu, uu⟩ := x
              show J _ _ _ _ _ ((54, undef) :: (41, .bool true) :: _) _
              refine J.pr (fun hF => ?_)
              (first | refine J.pickT rfl rfl rfl ?_ | refine J.pickF rfl rfl rfl ?_)
              exact J.finX rfl (fun _ hw => ⟨⟨xu, uu⟩, rfl, fun _ _ _ => rfl, hF, hw⟩)
          case htail =>
            intro x
            obtain ⟨xu, uu⟩ := x
            show J _ _ _ _ _ ((55, .bool true) :: (54, undef) :: (53, undef) :: (52, undef) :: (51, undef) :: (50, undef) :: (49, undef) :: (48, undef) :: (47, undef) :: (46, undef) :: (45, undef) :: (44, undef) :: (43, undef) :: (42, undef) :: (41, .bool true) :: (40, .bool true) :: (39, .bool true) :: (38, .agg (cV vy).toArray) :: (37, .pointer (some ⟨q2, o2 + ((i : Nat) : Int).toNat * 34 + 16, none⟩)) :: (36, .pointer (some ⟨q2, o2 + ((i : Nat) : Int).toNat * 34, none⟩)) :: (35, .int .i64 ((i : Nat) : Int)) :: (34, .slice (some ⟨q2, o2, none⟩) bs.length c2) :: (33, .agg (cV vx).toArray) :: (32, .pointer (some ⟨q1, o1 + ((i : Nat) : Int).toNat * 34 + 16, none⟩)) :: (31, .pointer (some ⟨q1, o1 + ((i : Nat) : Int).toNat * 34, none⟩)) :: (30, .int .i64 ((i : Nat) : Int)) :: (29, .slice (some ⟨q1, o1, none⟩) xa.length c1) :: (28, .bool false) :: (27, .bool false) :: (26, .agg (cI ky).toArray) :: (25, .pointer (some ⟨q2, o2 + ((i : Nat) : Int).toNat * 34 + 0, none⟩)) :: (24, .pointer (some ⟨q2, o2 + ((i : Nat) : Int).toNat * 34, none⟩)) :: (23, .int .i64 ((i : Nat) : Int)) :: (22, .slice (some ⟨q2, o2, none⟩) bs.length c2) :: (21, .agg (cI kx).toArray) :: (20, .pointer (some ⟨q1, o1 + ((i : Nat) : Int).toNat * 34 + 0, none⟩)) :: (19, .pointer (some ⟨q1, o1 + ((i : Nat) : Int).toNat * 34, none⟩)) :: (18, .int .i64 ((i : Nat) : Int)) :: (17, .slice (some ⟨q1, o1, none⟩) xa.length c1) :: _) (fun w1 => (True) ∧ St w [] ([]) w1)
            refine J.pr (fun hF => ?_)
            refine J.nil ?_
            refine JX.thenN (hK9 _ _ ?_)
            first | refine JC.condT rfl ?_ | refine JC.cond rfl (fun _ => ?_) (fun h => by first | (exfalso; simp at h; omega) | (simp at h))
            refine JC.seq (fun K11 hK11 => ?_)
            refine JC.region ?_
            refine J.assign rfl rfl ?_
            refine J.nil ?_
            refine JX.thenN (hK11 _ _ ?_)
            refine JC.ret ?_
            refine JX.blockR ?_
            refine JX.thenR ?_
            refine JX.thenR ?_
            refine JX.blockR ?_
            refine JX.thenR ?_
            refine JX.ret1 rfl rfl (fun w hw => ?_)
            first
            | exact ⟨by rw [decide_eq_true hg], hw.below⟩
            | exact ⟨by rw [decide_eq_false hg], hw.below⟩
      · skip
        have hg := differ hxg hyg (by simp [HI.it, e1])
        apply JC.drawX (α := Nat × Unit) 39 (fun x => match x with | ⟨xu, uu⟩ => [.slice (some ⟨q1, o1, none⟩) xa.length c1, .int .i64 ((i : Nat) : Int), .pointer (some ⟨q1, o1 + ((i : Nat) : Int).toNat * 34, none⟩), .pointer (some ⟨q1, o1 + ((i : Nat) : Int).toNat * 34 + 0, none⟩), .agg (cI kx).toArray, .slice (some ⟨q2, o2, none⟩) bs.length c2, .int .i64 ((i : Nat) : Int), .pointer (some ⟨q2, o2 + ((i : Nat) : Int).toNat * 34, none⟩), .pointer (some ⟨q2, o2 + ((i : Nat) : Int).toNat * 34 + 0, none⟩), .agg (cI ky).toArray, .bool true, .bool true, undef, undef, undef, undef, undef, undef, undef, undef, undef, undef, undef, .bool true, .bool true, undef, undef, undef, undef, undef, undef, undef, undef, undef, undef, undef, undef, undef, .bool true]) (fun m x => match x with | ⟨xu, uu⟩ => fun w1 => (True) ∧ St w [] ([]) w1) Ty.mixed rfl rfl rfl (by kernel_rfl) rfl rfl ?hinit ?hstep ?htail
        case hinit => exact fun w1 hw => ⟨(0, ()), trivial, hw.drew⟩
        case hstep =>
          refine ⟨fun m x hm hp => ?_, fun m x hm hp => ?_, fun m x hm hp => ?_, fun m x hm hp => ?_, fun m x hm hp => ?_, fun m x hm hp => ?_, fun m x hm hp => ?_, fun m x hm hp => ?_, fun m x hm hp => ?_, fun m x hm hp => ?_, fun m x hm hp => ?_, fun m x hm hp => ?_, fun m x hm hp => ?_, fun m x hm hp => ?_, fun m x hm hp => ?_, fun m x hm hp => ?_, fun m x hm hp => ?_, fun m x hm hp => ?_, fun m x hm hp => ?_, fun m x hm hp => ?_, fun m x hm hp => ?_, fun m x hm hp => ?_, fun m x hm hp => ?_, fun m x hm hp => ?_, fun m x hm hp => ?_, fun m x hm hp => ?_, fun m x hm hp => ?_, fun m x hm hp => ?_, fun m x hm hp => ?_, fun m x hm hp => ?_, fun m x hm hp => ?_, fun m x hm hp => ?_, fun m x hm hp => ?_, fun m x hm hp => ?_, fun m x hm hp => ?_, fun m x hm hp => ?_, fun m x hm hp => ?_, fun m x hm hp => ?_, fun m x hm hp => ?_, trivial⟩
          · skip
            obtain ⟨xu, uu⟩ := x
            show J _ _ _ _ _ (_) _
            refine J.pr (fun hF => ?_)
            refine J.move rfl rfl ?_
            exact J.finX rfl (fun _ hw => ⟨⟨xu, uu⟩, rfl, fun _ _ _ => rfl, hF, hw⟩)
          · skip
            obtain ⟨xu, uu⟩ := x
            show J _ _ _ _ _ (_) _
            refine J.pr (fun hF => ?_)
            refine J.move rfl rfl ?_
            exact J.finX rfl (fun _ hw => ⟨⟨xu, uu⟩, rfl, fun _ _ _ => rfl, hF, hw⟩)
          · skip
            obtain ⟨xu, uu⟩ := x
            show J _ _ _ _ _ ((18, .int .i64 ((i : Nat) : Int)) :: (17, .slice (some ⟨q1, o1, none⟩) xa.length c1) :: _) _
            refine J.pr (fun hF => ?_)
            refine J.indexAddrS Ty.el44 Ty.s28 rfl rfl (by omega) (by omega) rfl ?_
            exact J.finX rfl (fun _ hw => ⟨⟨xu, uu⟩, rfl, fun _ _ _ => rfl, hF, hw⟩)
          · skip
            obtain ⟨xu, uu⟩ := x
            show J _ _ _ _ _ ((19, .pointer (some ⟨q1, o1 + ((i : Nat) : Int).toNat * 34, none⟩)) :: _) _
            refine J.pr (fun hF => ?_)
            refine J.fieldAddr Ty.fd28_0 rfl rfl ?_
            exact J.finX rfl (fun _ hw => ⟨⟨xu, uu⟩, rfl, fun _ _ _ => rfl, hF, hw⟩)
          · skip
            obtain ⟨xu, uu⟩ := x
            show J _ _ _ _ _ ((20, .pointer (some ⟨q1, o1 + ((i : Nat) : Int).toNat * 34 + 0, none⟩)) :: _) _
            refine J.pr (fun hF => ?_)
            refine J.loadA (vs := cI kx) Ty.a23 Ty.s23 rfl rfl (fun w1 hw => itemF_at (r := 0) (hr1.below (hw.drop (List.nil_sublist _)).below) hxg rfl (by rw [Int.toNat_natCast])) rfl ?_
            exact J.finX rfl (fun _ hw => ⟨⟨xu, uu⟩, rfl, fun _ _ _ => rfl, hF, hw⟩)
          · skip
            obtain ⟨xu, uu⟩ := x
            show J _ _ _ _ _ (_) _
            refine J.pr (fun hF => ?_)
            refine J.move rfl rfl ?_
            exact J.finX rfl (fun _ hw => ⟨⟨xu, uu⟩, rfl, fun _ _ _ => rfl, hF, hw⟩)
          · skip
            obtain ⟨xu, uu⟩ := x
            show J _ _ _ _ _ (_) _
            refine J.pr (fun hF => ?_)
            refine J.move rfl rfl ?_
            exact J.finX rfl (fun _ hw => ⟨⟨xu, uu⟩, rfl, fun _ _ _ => rfl, hF, hw⟩)
          · skip
            obtain ⟨xu, uu⟩ := x
            show J _ _ _ _ _ ((23, .int .i64 ((i : Nat) : Int)) :: (22, .slice (some ⟨q2, o2, none⟩) bs.length c2) :: _) _
            refine J.pr (fun hF => ?_)
            refine J.indexAddrS Ty.el44 Ty.s28 rfl rfl (by omega) (by omega) rfl ?_
            exact J.finX rfl (fun _ hw => ⟨⟨xu, uu⟩, rfl, fun _ _ _ => rfl, hF, hw⟩)
          · skip
            obtain ⟨xu, uu⟩ := x
            show J _ _ _ _ _ ((24, .pointer (some ⟨q2, o2 + ((i : Nat) : Int).toNat * 34, none⟩)) :: _) _
            refine J.pr (fun hF => ?_)
            refine J.fieldAddr Ty.fd28_0 rfl rfl ?_
            exact J.finX rfl (fun _ hw => ⟨⟨xu, uu⟩, rfl, fun _ _ _ => rfl, hF, hw⟩)
          · skip
            obtain ⟨xu, uu⟩ := x
            show J _ _ _ _ _ ((25, .pointer (some ⟨q2, o2 + ((i : Nat) : Int).toNat * 34 + 0, none⟩)) :: _) _
            refine J.pr (fun hF => ?_)
            refine J.loadA (vs := cI ky) Ty.a23 Ty.s23 rfl rfl (fun w1 hw => itemF_at (r := 0) (hr2.below (hw.drop (List.nil_sublist _)).below) hyg rfl (by rw [Int.toNat_natCast])) rfl ?_
            exact J.finX rfl (fun _ hw => ⟨⟨xu, uu⟩, rfl, fun _ _ _ => rfl, hF, hw⟩)
          · skip
            obtain ⟨xu, uu⟩ := x
            show J _ _ _ _ _ ((26, .agg (cI ky).toArray) :: (21, .agg (cI kx).toArray) :: _) _
            refine J.pr (fun hF => ?_)
            refine J.neI Ty.QI Ty.keyI rfl rfl rfl ?_
            refine J.name 27 rfl (show _ = Value.bool true by simp [e1]) ?_
            exact J.finX rfl (fun _ hw => ⟨⟨xu, uu⟩, rfl, fun _ _ _ => rfl, hF, hw⟩)
          · skip
            obtain ⟨xu, uu⟩ := x
            show J _ _ _ _ _ ((27, .bool true) :: _) _
            refine J.pr (fun hF => ?_)
            refine J.move rfl rfl ?_
            exact J.finX rfl (fun _ hw => ⟨⟨xu, uu⟩, rfl, fun _ _ _ => rfl, hF, hw⟩)
          · skip
            obtain ⟨xu, uu⟩ := x
            show J _ _ _ _ _ ((28, .bool true) :: _) _
            refine J.pr (fun hF => ?_)
            first | refine J.skip rfl rfl rfl rfl rfl ?_ | refine J.skipU rfl rfl rfl rfl ?_ | (refine J.unguard rfl rfl rfl ?_; refine J.move rfl rfl ?_)
            exact J.finX rfl (fun _ hw => ⟨⟨xu, uu⟩, rfl, fun _ _ _ => rfl, hF, hw⟩)
          · skip
            obtain ⟨xu, uu⟩ := x
            show J _ _ _ _ _ ((28, .bool true) :: _) _
            refine J.pr (fun hF => ?_)
            first | refine J.skip rfl rfl rfl rfl rfl ?_ | refine J.skipU rfl rfl rfl rfl ?_ | (refine J.unguard rfl rfl rfl ?_; refine J.move rfl rfl ?_)
            exact J.finX rfl (fun _ hw => ⟨⟨xu, uu⟩, rfl, fun _ _ _ => rfl, hF, hw⟩)
          · skip
            obtain ⟨xu, uu⟩ := x
            show J _ _ _ _ _ ((28, .bool true) :: (30, undef) :: (29, undef) :: _) _
            refine J.pr (fun hF => ?_)
            first | refine J.skip rfl rfl rfl rfl rfl ?_ | refine J.skipU rfl rfl rfl rfl ?_ | (refine J.unguard rfl rfl rfl ?_; refine J.indexAddrS Ty.el44 Ty.s28 rfl rfl (by omega) (by omega) rfl ?_)
            exact J.finX rfl (fun _ hw => ⟨⟨xu, uu⟩, rfl, fun _ _ _ => rfl, hF, hw⟩)
          · skip
            obtain ⟨xu, uu⟩ := x
            show J _ _ _ _ _ ((28, .bool true) :: (31, undef) :: _) _
            refine J.pr (fun hF => ?_)
            first | refine J.skip rfl rfl rfl rfl rfl ?_ | refine J.skipU rfl rfl rfl rfl ?_ | (refine J.unguard rfl rfl rfl ?_; refine J.fieldAddr Ty.fd28_1 rfl rfl ?_)
            exact J.finX rfl (fun _ hw => ⟨⟨xu, uu⟩, rfl, fun _ _ _ => rfl, hF, hw⟩)
          · skip
            obtain ⟨xu, uu⟩ := x
            show J _ _ _ _ _ ((28, .bool true) :: (32, undef) :: _) _
            refine J.pr (fun hF => ?_)
            first | refine J.skip rfl rfl rfl rfl rfl ?_ | refine J.skipU rfl rfl rfl rfl ?_ | (refine J.unguard rfl rfl rfl ?_; refine J.loadOA Ty.a25 Ty.s25 rfl (by repeat first | exact .head _ | apply List.Mem.tail | apply List.mem_append_right) (by exact rfl) rfl rfl ?_)
            exact J.finX rfl (fun _ hw => ⟨⟨xu, uu⟩, rfl, fun _ _ _ => rfl, hF, hw⟩)
          · skip
            obtain ⟨xu, uu⟩ := x
            show J _ _ _ _ _ ((28, .bool true) :: _) _
            refine J.pr (fun hF => ?_)
            first | refine J.skip rfl rfl rfl rfl rfl ?_ | refine J.skipU rfl rfl rfl rfl ?_ | (refine J.unguard rfl rfl rfl ?_; refine J.move rfl rfl ?_)
            exact J.finX rfl (fun _ hw => ⟨⟨xu, uu⟩, rfl, fun _ _ _ => rfl, hF, hw⟩)
          · skip
            obtain ⟨xu, uu⟩ := x
            show J _ _ _ _ _ ((28, .bool true) :: _) _
            refine J.pr (fun hF => ?_)
            first | refine J.skip rfl rfl rfl rfl rfl ?_ | refine J.skipU rfl rfl rfl rfl ?_ | (refine J.unguard rfl rfl rfl ?_; refine J.move rfl rfl ?_)
            exact J.finX rfl (fun _ hw => ⟨⟨xu, uu⟩, rfl, fun _ _ _ => rfl, hF, hw⟩)
          · skip
            obtain ⟨xu, uu⟩ := x
            show J _ _ _ _ _ ((28, .bool true) :: (35, undef) :: (34, undef) :: _) _
            refine J.pr (fun hF => ?_)
            first | refine J.skip rfl rfl rfl rfl rfl ?_ | refine J.skipU rfl rfl rfl rfl ?_ | (refine J.unguard rfl rfl rfl ?_; refine J.indexAddrS Ty.el44 Ty.s28 rfl rfl (by omega) (by omega) rfl ?_)
            exact J.finX rfl (fun _ hw => ⟨⟨xu, uu⟩, rfl, fun _ _ _ => rfl, hF, hw⟩)
          · skip
            obtain ⟨xu, uu⟩ := x
            show J _ _ _ _ _ ((28, .bool true) :: (36, undef) :: _) _
            refine J.pr (fun hF => ?_)
            first | refine J.skip rfl rfl rfl rfl rfl ?_ | refine J.skipU rfl rfl rfl rfl ?_ | (refine J.unguard rfl rfl rfl ?_; refine J.fieldAddr Ty.fd28_1 rfl rfl ?_)
            exact J.finX rfl (fun _ hw => ⟨⟨xu, uu⟩, rfl, fun _ _ _ => rfl, hF, hw⟩)
          · skip
            obtain ⟨xu, uu⟩ := x
            show J _ _ _ _ _ ((28, .bool true) :: (37, undef) :: _) _
            refine J.pr (fun hF => ?_)
            first | refine J.skip rfl rfl rfl rfl rfl ?_ | refine J.skipU rfl rfl rfl rfl ?_ | (refine J.unguard rfl rfl rfl ?_; refine J.loadOA Ty.a25 Ty.s25 rfl (by repeat first | exact .head _ | apply List.Mem.tail | apply List.mem_append_right) (by exact rfl) rfl rfl ?_)
            exact J.finX rfl (fun _ hw => ⟨⟨xu, uu⟩, rfl, fun _ _ _ => rfl, hF, hw⟩)
          · skip
            obtain ⟨xu, uu⟩ := x
            show J _ _ _ _ _ ((28, .bool true) :: (38, undef) :: (33, undef) :: _) _
            refine J.pr (fun hF => ?_)
            (first | refine J.skip rfl rfl rfl rfl rfl ?_ | refine J.skipU rfl rfl rfl rfl ?_)
            exact J.finX rfl (fun _ hw => ⟨⟨xu, uu⟩, rfl, fun _ _ _ => rfl, hF, hw⟩)
          · skip
            obtain ⟨xu, uu⟩ := x
            show J _ _ _ _ _ ((39, undef) :: (28, .bool true) :: _) _
            refine J.pr (fun hF => ?_)
            (first | refine J.pickT rfl rfl rfl ?_ | refine J.pickF rfl rfl rfl ?_)
            exact J.finX rfl (fun _ hw => ⟨⟨xu, uu⟩, rfl, fun _ _ _ => rfl, hF, hw⟩)
          · skip
            obtain ⟨xu, uu⟩ := x
            show J _ _ _ _ _ ((28, .bool true) :: (40, .bool true) :: _) _
            refine J.pr (fun hF => ?_)
            refine J.move rfl rfl ?_
            exact J.finX rfl (fun _ hw => ⟨⟨xu, uu⟩, rfl, fun _ _ _ => rfl, hF, hw⟩)
          · skip
            obtain ⟨xu, uu⟩ := x
            show J _ _ _ _ _ ((41, .bool true) :: _) _
            refine J.pr (fun hF => ?_)
            first | refine J.skip rfl rfl rfl rfl rfl ?_ | refine J.skipU rfl rfl rfl rfl ?_ | (refine J.unguard rfl rfl rfl ?_; refine J.move rfl rfl ?_)
            exact J.finX rfl (fun _ hw => ⟨⟨xu, uu⟩, rfl, fun _ _ _ => rfl, hF, hw⟩)
          · skip
            obtain ⟨xu, uu⟩ := x
            show J _ _ _ _ _ ((41, .bool true) :: _) _
            refine J.pr (fun hF => ?_)
            first | refine J.skip rfl rfl rfl rfl rfl ?_ | refine J.skipU rfl rfl rfl rfl ?_ | (refine J.unguard rfl rfl rfl ?_; refine J.move rfl rfl ?_)
            exact J.finX rfl (fun _ hw => ⟨⟨xu, uu⟩, rfl, fun _ _ _ => rfl, hF, hw⟩)
          · skip
            obtain ⟨xu, uu⟩ := x
            show J _ _ _ _ _ ((41, .bool true) :: (43, undef) :: (42, undef) :: _) _
            refine J.pr (fun hF => ?_)
            first | refine J.skip rfl rfl rfl rfl rfl ?_ | refine J.skipU rfl rfl rfl rfl ?_ | (refine J.unguard rfl rfl rfl ?_; refine J.indexAddrS Ty.el44 Ty.s28 rfl rfl (by omega) (by omega) rfl ?_)
            exact J.finX rfl (fun _ hw => ⟨⟨xu, uu⟩, rfl, fun _ _ _ => rfl, hF, hw⟩)
          · skip
            obtain ⟨xu, uu⟩ := x
            show J _ _ _ _ _ ((41, .bool true) :: (44, undef) :: _) _
            refine J.pr (fun hF => ?_)
            first | refine J.skip rfl rfl rfl rfl rfl ?_ | refine J.skipU rfl rfl rfl rfl ?_ | (refine J.unguard rfl rfl rfl ?_; refine J.fieldAddr Ty.fd28_2 rfl rfl ?_)
            exact J.finX rfl (fun _ hw => ⟨⟨xu, uu⟩, rfl, fun _ _ _ => rfl, hF, hw⟩)
          · skip
            obtain ⟨xu, uu⟩ := x
            show J _ _ _ _ _ ((41, .bool true) :: (45, undef) :: _) _
            refine J.pr (fun hF => ?_)
            first | refine J.skip rfl rfl rfl rfl rfl ?_ | refine J.skipU rfl rfl rfl rfl ?_ | (refine J.unguard rfl rfl rfl ?_; refine J.loadO Ty.a26 rfl (by repeat first | exact .head _ | apply List.Mem.tail | apply List.mem_append_right) (by exact rfl) rfl ?_)
            exact J.finX rfl (fun _ hw => ⟨⟨xu, uu⟩, rfl, fun _ _ _ => rfl, hF, hw⟩)
          · skip
            obtain ⟨xu, uu⟩ := x
            show J _ _ _ _ _ ((41, .bool true) :: (46, undef) :: _) _
            refine J.pr (fun hF => ?_)
            first | refine J.skip rfl rfl rfl rfl rfl ?_ | refine J.skipU rfl rfl rfl rfl ?_ | (refine J.unguard rfl rfl rfl ?_; fail)
            exact J.finX rfl (fun _ hw => ⟨⟨xu, uu⟩, rfl, fun _ _ _ => rfl, hF, hw⟩)
          · skip
            obtain ⟨xu, uu⟩ := x
            show J _ _ _ _ _ ((41, .bool true) :: _) _
            refine J.pr (fun hF => ?_)
            first | refine J.skip rfl rfl rfl rfl rfl ?_ | refine J.skipU rfl rfl rfl rfl ?_ | (refine J.unguard rfl rfl rfl ?_; refine J.move rfl rfl ?_)
            exact J.finX rfl (fun _ hw => ⟨⟨xu, uu⟩, rfl, fun _ _ _ => rfl, hF, hw⟩)
          · skip
            obtain ⟨xu, uu⟩ := x
            show J _ _ _ _ _ ((41, .bool true) :: _) _
            refine J.pr (fun hF => ?_)
            first | refine J.skip rfl rfl rfl rfl rfl ?_ | refine J.skipU rfl rfl rfl rfl ?_ | (refine J.unguard rfl rfl rfl ?_; refine J.move rfl rfl ?_)
            exact J.finX rfl (fun _ hw => ⟨⟨xu, uu⟩, rfl, fun _ _ _ => rfl, hF, hw⟩)
          · skip
            obtain ⟨xu, uu⟩ := x
            show J _ _ _ _ _ ((41, .bool true) :: (49, undef) :: (48, undef) :: _) _
            refine J.pr (fun hF => ?_)
            first | refine J.skip rfl rfl rfl rfl rfl ?_ | refine J.skipU rfl rfl rfl rfl ?_ | (refine J.unguard rfl rfl rfl ?_; refine J.indexAddrS Ty.el44 Ty.s28 rfl rfl (by omega) (by omega) rfl ?_)
            exact J.finX rfl (fun _ hw => ⟨⟨xu, uu⟩, rfl, fun _ _ _ => rfl, hF, hw⟩)
          · skip
            obtain ⟨xu, uu⟩ := x
            show J _ _ _ _ _ ((41, .bool true) :: (50, undef) :: _) _
            refine J.pr (fun hF => ?_)
            first | refine J.skip rfl rfl rfl rfl rfl ?_ | refine J.skipU rfl rfl rfl rfl ?_ | (refine J.unguard rfl rfl rfl ?_; refine J.fieldAddr Ty.fd28_2 rfl rfl ?_)
            exact J.finX rfl (fun _ hw => ⟨⟨xu, uu⟩, rfl, fun _ _ _ => rfl, hF, hw⟩)
          · skip
            obtain ⟨xu, uu⟩ := x
            show J _ _ _ _ _ ((41, .bool true) :: (51, undef) :: _) _
            refine J.pr (fun hF => ?_)
            first | refine J.skip rfl rfl rfl rfl rfl ?_ | refine J.skipU rfl rfl rfl rfl ?_ | (refine J.unguard rfl rfl rfl ?_; refine J.loadO Ty.a26 rfl (by repeat first | exact .head _ | apply List.Mem.tail | apply List.mem_append_right) (by exact rfl) rfl ?_)
            exact J.finX rfl (fun _ hw => ⟨⟨xu, uu⟩, rfl, fun _ _ _ => rfl, hF, hw⟩)
          · skip
            obtain ⟨xu, uu⟩ := x
            show J _ _ _ _ _ ((41, .bool true) :: (52, undef) :: _) _
            refine J.pr (fun hF => ?_)
            first | refine J.skip rfl rfl rfl rfl rfl ?_ | refine J.skipU rfl rfl rfl rfl ?_ | (refine J.unguard rfl rfl rfl ?_; fail)
            exact J.finX rfl (fun _ hw => ⟨⟨xu, uu⟩, rfl, fun _ _ _ => rfl, hF, hw⟩)
          · skip
            obtain ⟨xu, uu⟩ := x
            show J _ _ _ _ _ ((41, .bool true) :: (53, undef) :: (47, undef) :: _) _
            refine J.pr (fun hF => ?_)
            first | refine J.skip rfl rfl rfl rfl rfl ?_ | refine J.skipU rfl rfl rfl rfl ?_ | (refine J.unguard rfl rfl rfl ?_; (first | refine J.strNe rfl rfl rfl ?_ | refine J.bin rfl rfl rfl rfl ?_))
            exact J.finX rfl (fun _ hw => ⟨⟨xu, uu⟩, rfl, fun _ _ _ => rfl, hF, hw⟩)
          · skip
            obtain ⟨xu, uu⟩ := x
            show J _ _ _ _ _ ((54, undef) :: (41, .bool true) :: _) _
            refine J.pr (fun hF => ?_)
            (first | refine J.pickT rfl rfl rfl ?_ | refine J.pickF rfl rfl rfl ?_)
            exact J.finX rfl (fun _ hw => ⟨⟨xu, uu⟩, rfl, fun _ _ _ => rfl, hF, hw⟩)
        case htail =>
          intro x
          obtain ⟨xu, uu⟩ := x
          show J _ _ _ _ _ ((55, .bool true) :: (54, undef) :: (53, undef) :: (52, undef) :: (51, undef) :: (50, undef) :: (49, undef) :: (48, undef) :: (47, undef) :: (46, undef) :: (45, undef) :: (44, undef) :: (43, undef) :: (42, undef) :: (41, .bool true) :: (40, .bool true) :: (39, undef) :: (38, undef) :: (37, undef) :: (36, undef) :: (35, undef) :: (34, undef) :: (33, undef) :: (32, undef) :: (31, undef) :: (30, undef) :: (29, undef) :: (28, .bool true) :: (27, .bool true) :: (26, .agg (cI ky).toArray) :: (25, .pointer (some ⟨q2, o2 + ((i : Nat) : Int).toNat * 34 + 0, none⟩)) :: (24, .pointer (some ⟨q2, o2 + ((i : Nat) : Int).toNat * 34, none⟩)) :: (23, .int .i64 ((i : Nat) : Int)) :: (22, .slice (some ⟨q2, o2, none⟩) bs.length c2) :: (21, .agg (cI kx).toArray) :: (20, .pointer (some ⟨q1, o1 + ((i : Nat) : Int).toNat * 34 + 0, none⟩)) :: (19, .pointer (some ⟨q1, o1 + ((i : Nat) : Int).toNat * 34, none⟩)) :: (18, .int .i64 ((i : Nat) : Int)) :: (17, .slice (some ⟨q1, o1, none⟩) xa.length c1) :: _) (fun w1 => (True) ∧ St w [] ([]) w1)
          refine J.pr (fun hF => ?_)
          refine J.nil ?_
          refine JX.thenN (hK9 _ _ ?_)
          first | refine JC.condT rfl ?_ | refine JC.cond rfl (fun _ => ?_) (fun h => by first | (exfalso; simp at h; omega) | (simp at h))
          refine JC.seq (fun K12 hK12 => ?_)
          refine JC.region ?_
          refine J.assign rfl rfl ?_
          refine J.nil ?_
          refine JX.thenN (hK12 _ _ ?_)
          refine JC.ret ?_
          refine JX.blockR ?_
          refine JX.thenR ?_
          refine JX.thenR ?_
          refine JX.blockR ?_
          refine JX.thenR ?_
          refine JX.ret1 rfl rfl (fun w hw => ?_)
          first
          | exact ⟨by rw [decide_eq_true hg], hw.below⟩
          | exact ⟨by rw [decide_eq_false hg], hw.below⟩
    · skip
      have hge : i = xa.length := by simp at h1; omega
      have hg : xa.map HI.it = bs.map HI.it := by
        rw [hge, List.take_of_length_le (Nat.le_refl _), List.take_of_length_le (by omega)] at hti
        exact hti
      refine JC.exit ?_
      refine JX.thenE ?_
      refine JX.thenE ?_
      refine JX.blockE ?_
      refine JX.thenN (hK4 _ _ ?_)
      refine JC.seq (fun K13 hK13 => ?_)
      refine JC.region ?_
      refine J.assign rfl rfl ?_
      refine J.nil ?_
      refine JX.thenN (hK13 _ _ ?_)
      refine JC.ret ?_
      refine JX.ret1 rfl rfl (fun w hw => ?_)
      first
      | exact ⟨by rw [decide_eq_true hg], hw.below⟩
      | exact ⟨by rw [decide_eq_false hg], hw.below⟩

theorem one_spec (xc yc : List Value) (x y : HI) (w : World) (hxc : xc = cH x) (hyc : yc = cH y) (hx : (∃ a c, x.sv = .slice a x.bs.length c) ∧ Row w x.sv x.bs.length (x.bs.map u8) ∧ okN x.ver.n) (hy : (∃ a c, y.sv = .slice a y.bs.length c) ∧ Row w y.sv y.bs.length (y.bs.map u8) ∧ okN y.ver.n) :
    Calls Try.prog 35 [.agg xc.toArray, .agg yc.toArray].toArray w fun r w' => r = .returned (.bool (decide (x.it = y.it))) ∧ Bel w w' := by
  obtain ⟨⟨ax, cx, hsx⟩, hxr, hxv⟩ := hx
  obtain ⟨⟨ay, cy, hsy⟩, hyr, hyv⟩ := hy
  obtain ⟨kx, vx, bx, sx, lx⟩ := x
  obtain ⟨ky, vy, by_, sy, ly⟩ := y
  simp only at hsx hsy hxr hyr hxv hyv
  subst hsx hsy
  refine calls_of_J (args := [.agg xc.toArray, .agg yc.toArray]) (e := [(0, .agg xc.toArray), (1, .agg yc.toArray)]) Try.func35 rfl rfl ⟨rfl, rfl, trivial⟩ (St.start w) ?_
  refine JC.seq (fun K0 hK0 => ?_)
  refine JC.region ?_
  refine J.box rfl rfl rfl (fun b2 => ?_)
  refine J.box rfl rfl rfl (fun b3 => ?_)
  subst hxc hyc
  refine J.assign rfl rfl ?_
  refine J.nil ?_
  refine JX.thenN (hK0 _ _ ?_)
  refine JC.seq (fun K1 hK1 => ?_)
  refine JC.region ?_
  refine J.loadA (vs := (cT kx vx (.slice ax bx.length cx))) Ty.a28 Ty.s28 rfl rfl (fun w1 hw => Cells.of_block (hw.own (b2, cb (cT kx vx (.slice ax bx.length cx)) 28) (by repeat first | exact .head _ | apply List.Mem.tail | apply List.mem_append_right)) rfl) rfl ?_
  refine J.buildSl (cs := (cT kx vx (.slice ax bx.length cx))) Ty.el44 Ty.s28 Ty.zIt rfl rfl rfl rfl (by kernel_rfl) rfl rfl (fun b6 => ?_)
  refine J.loadA (vs := (cT ky vy (.slice ay by_.length cy))) Ty.a28 Ty.s28 rfl rfl (fun w1 hw => Cells.of_block (hw.own (b3, cb (cT ky vy (.slice ay by_.length cy)) 28) (by repeat first | exact .head _ | apply List.Mem.tail | apply List.mem_append_right)) rfl) rfl ?_
  refine J.buildSl (cs := (cT ky vy (.slice ay by_.length cy))) Ty.el44 Ty.s28 Ty.zIt rfl rfl rfl rfl (by kernel_rfl) rfl rfl (fun b8 => ?_)
  refine J.callB (v := .bool (decide (([⟨kx, vx, bx, .slice ax bx.length cx, lx⟩] : List HI).map HI.it = ([⟨ky, vy, by_, .slice ay by_.length cy, ly⟩] : List HI).map HI.it))) (fun w1 w2 hw hb => hw.step hb) Ty.bd32 rfl rfl (fun w1 hw => rsame_spec _ _ [⟨kx, vx, bx, .slice ax bx.length cx, lx⟩] [⟨ky, vy, by_, .slice ay by_.length cy, ly⟩] w1 (Row.own (cs := (cT kx vx (.slice ax bx.length cx))) (tb := 28) (fr := (0, 0)) hw (.tail _ (.head _)) rfl (Nat.le_refl _)) (Row.own (cs := (cT ky vy (.slice ay by_.length cy))) (tb := 28) (fr := (0, 0)) hw (.head _) rfl (Nat.le_refl _)) (fun z hz => by rw [List.mem_singleton.1 hz]; exact ⟨⟨_, _, rfl⟩, (hxr.below (hw.drop (List.nil_sublist _)).below), hxv⟩) (fun z hz => by rw [List.mem_singleton.1 hz]; exact ⟨⟨_, _, rfl⟩, (hyr.below (hw.drop (List.nil_sublist _)).below), hyv⟩) (by show 1 ≤ 100000; omega) (by show 1 ≤ 100000; omega)) ?_
  refine J.assign rfl rfl ?_
  refine J.nil ?_
  refine JX.thenN (hK1 _ _ ?_)
  refine JC.ret ?_
  refine JX.ret1 rfl rfl (fun w hw => ?_)
  exact ⟨by congr 2; simp [HI.it], (hw.drop (List.nil_sublist _)).below⟩

end Go.Proofs.Ytoaenmlhehcjfaa
/-
  The law's holds: contract.
-/
namespace Go.Proofs.Ytoaenmlhehcjfaa
open Go.J Go.RowKit
set_option linter.unusedVariables false
set_option linter.unusedSimpArgs false
set_option maxRecDepth 8000

theorem okN_in {n : Int} (h1 : 0 ≤ n) (h2 : n < 4611686018427387904) : okN n := by
  obtain ⟨m, rfl⟩ : ∃ m : Nat, n = (m : Int) := ⟨n.toNat, by omega⟩
  exact okN_of (by omega)

set_option maxHeartbeats 2000000 in
theorem holds_spec (vb mb : Nat) (lv : Value) (inc : Int) (L : List HI) (es : Array MapEntry) (ck : Nat) (hT : Vm L es ck) (hV : VOK L) (hLn : L.length ≤ 1000) (v1 v2 : Value) (sure tried : List HI) (w : World) (hw0 : Own w [(vb, vaO lv mb inc), (mb, .map es ck)]) (hrows : ∀ x, x ∈ L → Row w x.sv x.bs.length (x.bs.map u8) ∧ Off [vb, mb] x.sv (x.bs.map u8) ∧ x.bs.length ≤ 1000) (hr1 : Row w v1 sure.length (sure.flatMap cH)) (hf1 : (∀ x, x ∈ sure → ∃ a c, x.sv = .slice a x.bs.length c)) (hl1 : sure.length ≤ 100000) (hsure : ∀ x, x ∈ sure → ∃ y, hget L x.key = some y ∧ newB x.ver y.ver = false) (hr2 : Row w v2 tried.length (tried.flatMap cH)) (he2 : (∀ x, x ∈ tried → (∃ a c, x.sv = .slice a x.bs.length c) ∧ Row w x.sv x.bs.length (x.bs.map u8) ∧ okN x.ver.n)) (hl2 : tried.length ≤ 100000) (htr : ∀ x, x ∈ L → x.it ∈ tried.map HI.it) :
    Calls Try.prog 23 [.pointer (some ⟨vb, 0, none⟩), v1, v2].toArray w fun r w' => r = .returned (.bool true) ∧ Bel w w' := by
  obtain ⟨a1, c1, rfl, hc1, _⟩ := id hr1
  obtain ⟨a2, c2, rfl, hc2, _⟩ := id hr2
  refine calls_of_J (args := [.pointer (some ⟨vb, 0, none⟩), .slice a1 sure.length c1, .slice a2 tried.length c2]) (e := [(0, .pointer (some ⟨vb, 0, none⟩)), (1, .slice a1 sure.length c1), (2, .slice a2 tried.length c2)]) Try.func23 rfl rfl ⟨rfl, rfl, rfl, trivial⟩ (St.start w) ?_
  refine JC.seq (fun K0 hK0 => ?_)
  refine JC.region ?_
  refine J.assign rfl rfl ?_
  refine J.nil ?_
  refine JX.thenN (hK0 _ _ ?_)
  refine JC.seq (fun K1 hK1 => ?_)
  refine JC.seq (fun K2 hK2 => ?_)
  refine JC.region ?_
  refine J.move rfl rfl ?_
  refine J.lenS rfl Ty.u44 rfl rfl ?_
  refine J.move rfl rfl ?_
  refine J.nil ?_
  refine JX.thenN (hK2 _ _ ?_)
  refine JC.block ?_
  refine JC.conseq (JC.cov (f := (fun i => [(0, .pointer (some ⟨vb, 0, none⟩)), (2, .slice a2 tried.length c2), (16, .slice a1 sure.length c1), (17, .int .i64 ((sure.length : Nat) : Int)), (18, .int .i64 ((i : Nat) : Int))]) 0) ⟨rfl, rfl, rfl, rfl, rfl, trivial⟩ (JC.loop (α := Nat) (fun i => [(0, .pointer (some ⟨vb, 0, none⟩)), (2, .slice a2 tried.length c2), (16, .slice a1 sure.length c1), (17, .int .i64 ((sure.length : Nat) : Int)), (18, .int .i64 ((i : Nat) : Int))]) (fun i w' => (i ≤ sure.length) ∧ St w [] [] w') (fun i => sure.length - i) 0 (fun i => ?_))) (fun w hw => ⟨Nat.zero_le _, hw⟩)
  refine JC.pr (fun hi => ?_)
  refine JC.seq (fun K3 hK3 => ?_)
  refine JC.region ?_
  refine J.bin rfl rfl rfl rfl ?_
  refine J.nil ?_
  refine JX.thenN (hK3 _ _ ?_)
  refine JC.seq (fun K4 hK4 => ?_)
  refine JC.cond rfl (fun h0 => ?_) (fun h0 => ?_)
  · skip
    have hlt : i < sure.length := by simp at h0; omega
    obtain ⟨x, hxg⟩ : ∃ x, sure[i]? = some x := ⟨_, List.getElem?_eq_getElem hlt⟩
    have hxm := List.mem_of_getElem? hxg
    obtain ⟨ax, cx, hsx⟩ := hf1 x hxm
    obtain ⟨y, hyg, hyn⟩ := hsure x hxm
    obtain ⟨hym, hyk⟩ := hget_some hyg
    obtain ⟨hyr, hyf, hyl⟩ := hrows y hym
    have hyv := (hV y hym).2
    obtain ⟨kx, vx, bx, sx, lx⟩ := x
    obtain ⟨ky, vy, by_, sy, ly⟩ := y
    simp only at hsx hyg hyn hyr hyf hyl hyk hyv
    subst hsx
    obtain ⟨q1, o1, c1', hv1, -, -⟩ := hr1.some (by rw [cHs_len]; omega)
    simp only [Value.slice.injEq] at hv1
    obtain ⟨rfl, -, -⟩ := hv1
    refine JC.skip ?_
    refine JX.thenN (hK4 _ _ ?_)
    refine JC.seq (fun K5 hK5 => ?_)
    refine JC.block ?_
    refine JC.seq (fun K6 hK6 => ?_)
    refine JC.region ?_
    refine J.indexAddrS Ty.el44 Ty.s28 rfl rfl (by omega) (by omega) rfl ?_
    refine J.loadA (vs := (cT kx vx (.slice ax bx.length cx))) Ty.a28 Ty.s28 rfl rfl (fun w1 hw => rowG_at (c := cH) (sz := 34) (fun _ => rfl) (hr1.below (hw.drop (List.nil_sublist _)).below) hxg (by rw [Int.toNat_natCast])) rfl ?_
    refine J.alloc Ty.zIt rfl rfl (fun b8 => ?_)
    refine J.storeW (cs := cH zH) (vs := (cT kx vx (.slice ax bx.length cx))) Ty.s28 rfl rfl rfl rfl rfl one_cT .here ?_
    refine J.nil ?_
    refine JX.thenN (hK6 _ _ ?_)
    refine JC.seq (fun K7 hK7 => ?_)
    refine JC.region ?_
    refine J.move rfl rfl ?_
    refine J.fieldAddr Ty.fd28_0 rfl rfl ?_
    refine J.loadA (vs := cI kx) Ty.a23 Ty.s23 rfl rfl (fun w1 hw => Cells.of_block (hw.own ((b8, cb (cT kx vx (.slice ax bx.length cx)) 28)) (by repeat first | exact .head _ | apply List.Mem.tail | apply List.mem_append_right)) rfl) rfl ?_
    refine J.perm ([] ++ ((b8, cb (cT kx vx (.slice ax bx.length cx)) 28) :: [])) (.refl _) ?_
    refine J.callS (α := Value × List (Nat × Obj)) (V := fun z => .tuple #[.agg (cT ky vy z.1).toArray, .bool true]) (Pr := fun z => Vec 5 1 z.1 (by_).length ((by_).map u8) z.2) (L := (·.2)) (l1 := []) Ty.bd22 rfl rfl (fun w1 hw => (vget_spec vb mb lv inc L es ck hT hV kx ⟨ky, vy, by_, sy, ly⟩ true w1 (hw0.at hw) (by rw [hyg]; rfl) (by rw [hyg]; rfl) (hyr.below (hw.drop (List.nil_sublist _)).below) hyf (by simp only; omega)).mono fun _ w2 ⟨z, h1, h2, h3⟩ => ⟨z, h1, h2, St.free (hw0.at hw) h3⟩) (fun z hz => ?_)
    obtain ⟨vg, lg⟩ := z
    try simp only at hz ⊢
    obtain ⟨ag, cg, rfl, hcg⟩ := hz.form
    refine J.move rfl rfl ?_
    refine J.extract rfl rfl rfl ?_
    refine J.extract rfl rfl rfl ?_
    refine J.alloc Ty.zIt rfl rfl (fun b9 => ?_)
    refine J.storeW (cs := cH zH) (vs := (cT ky vy (.slice ag by_.length cg))) Ty.s28 rfl rfl rfl rfl rfl one_cT .here ?_
    refine J.assign rfl rfl ?_
    refine J.nil ?_
    refine JX.thenN (hK7 _ _ ?_)
    refine JC.seq (fun K8 hK8 => ?_)
    refine JC.region ?_
    refine J.move rfl rfl ?_
    refine J.not rfl rfl ?_
    refine J.move rfl rfl ?_
    first | refine J.skip rfl rfl rfl rfl rfl ?_ | refine J.skipU rfl rfl rfl rfl ?_ | (refine J.unguard rfl rfl rfl ?_; refine J.fieldAddr Ty.fd28_1 rfl rfl ?_)
    refine J.unguard rfl rfl rfl ?_
    refine J.loadA (vs := cV vx) Ty.a25 Ty.s25 rfl rfl (fun w1 hw => Cells.of_block (hw.own ((b8, cb (cT kx vx (.slice ax bx.length cx)) 28)) (by repeat first | exact .head _ | apply List.Mem.tail | apply List.mem_append_right)) rfl) rfl ?_
    first | refine J.skip rfl rfl rfl rfl rfl ?_ | refine J.skipU rfl rfl rfl rfl ?_ | (refine J.unguard rfl rfl rfl ?_; refine J.fieldAddr Ty.fd28_1 rfl rfl ?_)
    refine J.unguard rfl rfl rfl ?_
    refine J.loadA (vs := cV vy) Ty.a25 Ty.s25 rfl rfl (fun w1 hw => Cells.of_block (hw.own ((b9, cb (cT ky vy (.slice ag by_.length cg)) 28)) (by repeat first | exact .head _ | apply List.Mem.tail | apply List.mem_append_right)) rfl) rfl ?_
    refine J.unguard rfl rfl rfl ?_
    refine J.callB (v := .bool false) (fun w1 w2 hw hb => hw.step hb) Ty.bd14 rfl rfl (fun w1 hw => by have h9 := rnewer_spec vx vy w1; rw [hyn] at h9; exact h9) ?_
    (first | refine J.pickT rfl rfl rfl ?_ | refine J.pickF rfl rfl rfl ?_)
    refine J.nil ?_
    refine JX.thenN (hK8 _ _ ?_)
    first | refine JC.condF rfl ?_ | refine JC.cond rfl (fun h => by first | (exfalso; simp at h; omega) | (simp at h)) (fun _ => ?_)
    refine JC.skip ?_
    refine JX.blockN ?_
    refine JX.thenN (hK5 _ _ ?_)
    refine JC.region ?_
    (first | refine J.addN rfl rfl (by omega) (by omega) rfl ?_ | refine J.bin rfl rfl rfl rfl ?_)
    refine J.move rfl rfl ?_
    refine J.nil ?_
    refine JX.thenN ?_
    refine JX.again (i + 1) ?_ ?_ ?_
    · omega
    · exact ⟨rfl, rfl, rfl, rfl, rfl, trivial⟩
    · exact fun w1 hw => ⟨hlt, hw.drop (List.nil_sublist _)⟩
  · skip
    try simp only [decide_eq_true_eq, decide_eq_false_iff_not, beq_iff_eq, bne_iff_ne, bne_eq_false_iff_eq, ne_eq, beq_eq_false_iff_ne, Bool.not_eq_true, Bool.not_eq_false, Int.not_lt, Int.not_le] at h0
    refine JC.exit ?_
    refine JX.thenE ?_
    refine JX.thenE ?_
    refine JX.blockE ?_
    refine JX.thenN (hK1 _ _ ?_)
    refine JC.seq (fun K9 hK9 => ?_)
    refine JC.seq (fun K10 hK10 => ?_)
    refine JC.region ?_
    refine J.move rfl rfl ?_
    refine J.perm ([] ++ []) (.refl _) ?_
    refine J.callS (α := List HI × Value × List (Nat × Obj)) (V := (·.2.1)) (Pr := fun x => SrtOf (L.map HI.it) (x.1.map HI.it) ∧ VOK x.1 ∧ Vec 28 34 x.2.1 (x.1).length ((x.1).flatMap cH) x.2.2) (L := fun x => x.2.2 ++ lpsH x.1) (l1 := []) Ty.bd20 rfl rfl (fun w1 hw => (vall_spec vb mb lv inc L es ck hT hV hLn w1 (hw0.at hw) (fun x hx => ⟨(hrows x hx).1.below (hw.drop (List.nil_sublist _)).below, (hrows x hx).2⟩)).mono fun _ w2 ⟨z, h1, h2, h3⟩ => ⟨z, h1, h2, St.free (hw0.at hw) (by rw [List.append_assoc]; exact h3)⟩) (fun x hx => ?_)
    obtain ⟨ys, vv, lv2⟩ := x
    obtain ⟨hsrt, hok, hvv⟩ := hx
    try simp only at hsrt hok hvv ⊢
    rw [List.append_nil]
    have hyl : ys.length = L.length := by have := hsrt.1.length_eq; rwa [List.length_map, List.length_map] at this
    obtain ⟨av, cv, rfl, hcv⟩ := hvv.form
    refine J.lenS rfl Ty.u44 rfl rfl ?_
    refine J.move rfl rfl ?_
    refine J.nil ?_
    refine JX.thenN (hK10 _ _ ?_)
    refine JC.block ?_
    refine JC.conseq (JC.cov (f := (fun j => [(2, .slice a2 tried.length c2), (40, .slice av ys.length cv), (41, .int .i64 ((ys.length : Nat) : Int)), (42, .int .i64 ((j : Nat) : Int))]) 0) ⟨rfl, rfl, rfl, rfl, trivial⟩ (JC.loop (α := Nat) (fun j => [(2, .slice a2 tried.length c2), (40, .slice av ys.length cv), (41, .int .i64 ((ys.length : Nat) : Int)), (42, .int .i64 ((j : Nat) : Int))]) (fun j w' => (j ≤ ys.length) ∧ St w [] (lv2 ++ lpsH ys) w') (fun j => ys.length - j) 0 (fun j => ?_))) (fun w hw => ⟨Nat.zero_le _, hw⟩)
    refine JC.pr (fun hj => ?_)
    refine JC.seq (fun K11 hK11 => ?_)
    refine JC.region ?_
    refine J.bin rfl rfl rfl rfl ?_
    refine J.nil ?_
    refine JX.thenN (hK11 _ _ ?_)
    refine JC.seq (fun K12 hK12 => ?_)
    refine JC.cond rfl (fun h2 => ?_) (fun h2 => ?_)
    · skip
      have hjl : j < ys.length := by simp at h2; omega
      obtain ⟨z, hzg⟩ : ∃ x, ys[j]? = some x := ⟨_, List.getElem?_eq_getElem hjl⟩
      have hzm := List.mem_of_getElem? hzg
      obtain ⟨⟨hz1, hz2⟩, hzv⟩ := hok z hzm
      have hsub : ∀ q, q ∈ z.lp → q ∈ lpsH ys := fun q hq => List.mem_flatMap.2 ⟨z, hzm, hq⟩
      have hzt : z.it ∈ tried.map HI.it := by
        obtain ⟨x0, hx0, hx1⟩ := List.mem_map.1 (hsrt.1.mem_iff.1 (List.mem_map.2 ⟨z, hzm, rfl⟩))
        rw [← hx1]; exact htr x0 hx0
      obtain ⟨kz, vz, bz, sz, lz⟩ := z
      simp only [HI.it] at hz1 hz2 hzv hsub hzt
      obtain ⟨az, cz, rfl, hcz⟩ := hzv.form
      have hzn : okN vz.n := okN_in hz1 hz2
      obtain ⟨qv, hqv⟩ : ∃ q, av = some ⟨q, 0, none⟩ := by
        rcases hvv.2 with ⟨_, h9, _⟩ | ⟨q, c9, sp, h9, _⟩
        · omega
        · simp only [Value.slice.injEq] at h9; exact ⟨q, h9.1⟩
      subst hqv
      refine JC.skip ?_
      refine JX.thenN (hK12 _ _ ?_)
      refine JC.seq (fun K13 hK13 => ?_)
      refine JC.block ?_
      refine JC.seq (fun K14 hK14 => ?_)
      refine JC.region ?_
      refine J.indexAddrS Ty.el44 Ty.s28 rfl rfl (by omega) (by omega) rfl ?_
      refine J.loadA (vs := (cT kz vz (.slice az bz.length cz))) Ty.a28 Ty.s28 rfl rfl (fun w1 hw => rowG_at (c := cH) (sz := 34) (fun _ => rfl) (vec_rowM hvv hw (fun q hq => by first | (simp [hq]; done) | (simp at hq; simp [hq]; done) | (simp at hq; subst hq; simp))) hzg (by simp)) rfl ?_
      refine J.alloc Ty.zIt rfl rfl (fun b12 => ?_)
      refine J.storeW (cs := cH zH) (vs := (cT kz vz (.slice az bz.length cz))) Ty.s28 rfl rfl rfl rfl rfl one_cT .here ?_
      refine J.nil ?_
      refine JX.thenN (hK14 _ _ ?_)
      refine JC.seq (fun K15 hK15 => ?_)
      refine JC.region ?_
      refine J.assign rfl rfl ?_
      refine J.name 13 rfl (show _ = Value.bool (decide ((⟨kz, vz, bz⟩ : ItV) ∈ (tried.take 0).map HI.it)) by simp) ?_
      refine J.nil ?_
      refine JX.thenN (hK15 _ _ ?_)
      refine JC.seq (fun K16 hK16 => ?_)
      refine JC.seq (fun K17 hK17 => ?_)
      refine JC.region ?_
      refine J.move rfl rfl ?_
      refine J.lenS rfl Ty.u44 rfl rfl ?_
      refine J.move rfl rfl ?_
      refine J.nil ?_
      refine JX.thenN (hK17 _ _ ?_)
      refine JC.block ?_
      refine JC.conseq (JC.cov (f := (fun k => [(2, .slice a2 tried.length c2), (40, .slice (some ⟨qv, 0, none⟩) ys.length cv), (41, .int .i64 ((ys.length : Nat) : Int)), (42, .int .i64 ((j : Nat) : Int)), (12, .pointer (some ⟨b12, 0, none⟩)), (13, .bool (decide ((⟨kz, vz, bz⟩ : ItV) ∈ (tried.take k).map HI.it))), (46, .slice a2 tried.length c2), (47, .int .i64 ((tried.length : Nat) : Int)), (48, .int .i64 ((k : Nat) : Int))]) 0) ⟨rfl, rfl, rfl, rfl, rfl, rfl, rfl, rfl, rfl, trivial⟩ (JC.loop (α := Nat) (fun k => [(2, .slice a2 tried.length c2), (40, .slice (some ⟨qv, 0, none⟩) ys.length cv), (41, .int .i64 ((ys.length : Nat) : Int)), (42, .int .i64 ((j : Nat) : Int)), (12, .pointer (some ⟨b12, 0, none⟩)), (13, .bool (decide ((⟨kz, vz, bz⟩ : ItV) ∈ (tried.take k).map HI.it))), (46, .slice a2 tried.length c2), (47, .int .i64 ((tried.length : Nat) : Int)), (48, .int .i64 ((k : Nat) : Int))]) (fun k w' => (k ≤ tried.length) ∧ St w [] ((b12, cb (cT kz vz (.slice az bz.length cz)) 28) :: (lv2 ++ lpsH ys)) w') (fun k => tried.length - k) 0 (fun k => ?_))) (fun w hw => ⟨Nat.zero_le _, hw⟩)
      refine JC.pr (fun hk => ?_)
      refine JC.seq (fun K18 hK18 => ?_)
      refine JC.region ?_
      refine J.bin rfl rfl rfl rfl ?_
      refine J.nil ?_
      refine JX.thenN (hK18 _ _ ?_)
      refine JC.seq (fun K19 hK19 => ?_)
      refine JC.cond rfl (fun h3 => ?_) (fun h3 => ?_)
      · skip
        have hkl : k < tried.length := by simp at h3; omega
        obtain ⟨t, htg⟩ : ∃ x, tried[k]? = some x := ⟨_, List.getElem?_eq_getElem hkl⟩
        obtain ⟨⟨at_, ct, hst⟩, htr_, htn⟩ := he2 t (List.mem_of_getElem? htg)
        obtain ⟨kt, vt, bt, st_, lt_⟩ := t
        simp only at hst htr_ htn
        subst hst
        obtain ⟨q2, o2, c2', hv2, -, -⟩ := hr2.some (by rw [cHs_len]; omega)
        simp only [Value.slice.injEq] at hv2
        obtain ⟨rfl, -, -⟩ := hv2
        refine JC.skip ?_
        refine JX.thenN (hK19 _ _ ?_)
        refine JC.seq (fun K20 hK20 => ?_)
        refine JC.block ?_
        refine JC.seq (fun K21 hK21 => ?_)
        refine JC.region ?_
        refine J.indexAddrS Ty.el44 Ty.s28 rfl rfl (by omega) (by omega) rfl ?_
        refine J.loadA (vs := (cT kt vt (.slice at_ bt.length ct))) Ty.a28 Ty.s28 rfl rfl (fun w1 hw => rowG_at (c := cH) (sz := 34) (fun _ => rfl) (hr2.below (hw.drop (List.nil_sublist _)).below) htg (by rw [Int.toNat_natCast])) rfl ?_
        refine J.alloc Ty.zIt rfl rfl (fun b15 => ?_)
        refine J.storeW (cs := cH zH) (vs := (cT kt vt (.slice at_ bt.length ct))) Ty.s28 rfl rfl rfl rfl rfl one_cT .here ?_
        refine J.nil ?_
        refine JX.thenN (hK21 _ _ ?_)
        have htk : ((⟨kz, vz, bz⟩ : ItV) ∈ (tried.take (k + 1)).map HI.it) ↔ ((⟨kz, vz, bz⟩ : ItV) ∈ (tried.take k).map HI.it ∨ (⟨kz, vz, bz⟩ : ItV) = ⟨kt, vt, bt⟩) := by rw [take_it htg, List.mem_append, List.mem_singleton]; rfl
        by_cases hin : (⟨kz, vz, bz⟩ : ItV) ∈ (tried.take k).map HI.it
        · skip
          refine JC.region ?_
          refine J.move rfl rfl ?_
          refine J.move rfl rfl ?_
          refine J.name 53 rfl (show _ = Value.bool true from congrArg Value.bool (decide_eq_true hin)) ?_
          refine J.skip rfl rfl rfl rfl rfl ?_
          refine J.skip rfl rfl rfl rfl rfl ?_
          refine J.skip rfl rfl rfl rfl rfl ?_
          (first | refine J.pickT rfl rfl rfl ?_ | refine J.pickF rfl rfl rfl ?_)
          refine J.assign rfl rfl ?_
          refine J.name 13 rfl (show _ = Value.bool (decide ((⟨kz, vz, bz⟩ : ItV) ∈ (tried.take (k + 1)).map HI.it)) from congrArg Value.bool (decide_eq_true (htk.2 (.inl hin))).symm) ?_
          refine J.nil ?_
          refine JX.blockN ?_
          refine JX.thenN (hK20 _ _ ?_)
          refine JC.region ?_
          (first | refine J.addN rfl rfl (by omega) (by omega) rfl ?_ | refine J.bin rfl rfl rfl rfl ?_)
          refine J.move rfl rfl ?_
          refine J.nil ?_
          refine JX.thenN ?_
          refine JX.again (k + 1) ?_ ?_ ?_
          · omega
          · exact ⟨rfl, rfl, rfl, rfl, rfl, rfl, rfl, rfl, rfl, trivial⟩
          · exact fun w1 hw => ⟨hkl, hw.drop (List.sublist_cons_self _ _)⟩
        · skip
          refine JC.region ?_
          refine J.move rfl rfl ?_
          refine J.move rfl rfl ?_
          refine J.name 53 rfl (show _ = Value.bool false from congrArg Value.bool (decide_eq_false hin)) ?_
          refine J.unguard rfl rfl rfl ?_
          refine J.loadA (vs := (cT kz vz (.slice az bz.length cz))) Ty.a28 Ty.s28 rfl rfl (fun w1 hw => Cells.of_block (hw.own ((b12, cb (cT kz vz (.slice az bz.length cz)) 28)) (by repeat first | exact .head _ | apply List.Mem.tail | apply List.mem_append_right)) rfl) rfl ?_
          refine J.unguard rfl rfl rfl ?_
          refine J.loadA (vs := (cT kt vt (.slice at_ bt.length ct))) Ty.a28 Ty.s28 rfl rfl (fun w1 hw => Cells.of_block (hw.own ((b15, cb (cT kt vt (.slice at_ bt.length ct)) 28)) (by repeat first | exact .head _ | apply List.Mem.tail | apply List.mem_append_right)) rfl) rfl ?_
          refine J.unguard rfl rfl rfl ?_
          refine J.callB (v := .bool (decide ((⟨kz, vz, bz⟩ : ItV) = ⟨kt, vt, bt⟩))) (fun w1 w2 hw hb => hw.step hb) Ty.bd35 rfl rfl (fun w1 hw => one_spec _ _ ⟨kz, vz, bz, .slice az bz.length cz, lz⟩ ⟨kt, vt, bt, .slice at_ bt.length ct, lt_⟩ w1 rfl rfl ⟨⟨_, _, rfl⟩, vec_rowM hzv hw (fun q hq => by simp [hsub q hq]), hzn⟩ ⟨⟨_, _, rfl⟩, (htr_.below (hw.drop (List.nil_sublist _)).below), htn⟩) ?_
          (first | refine J.pickT rfl rfl rfl ?_ | refine J.pickF rfl rfl rfl ?_)
          refine J.assign rfl rfl ?_
          refine J.name 13 rfl (show _ = Value.bool (decide ((⟨kz, vz, bz⟩ : ItV) ∈ (tried.take (k + 1)).map HI.it)) from congrArg Value.bool (decide_eq_decide.2 (htk.trans ⟨fun h => h.resolve_left hin, .inr⟩).symm)) ?_
          refine J.nil ?_
          refine JX.blockN ?_
          refine JX.thenN (hK20 _ _ ?_)
          refine JC.region ?_
          (first | refine J.addN rfl rfl (by omega) (by omega) rfl ?_ | refine J.bin rfl rfl rfl rfl ?_)
          refine J.move rfl rfl ?_
          refine J.nil ?_
          refine JX.thenN ?_
          refine JX.again (k + 1) ?_ ?_ ?_
          · omega
          · exact ⟨rfl, rfl, rfl, rfl, rfl, rfl, rfl, rfl, rfl, trivial⟩
          · exact fun w1 hw => ⟨hkl, hw.drop (List.sublist_cons_self _ _)⟩
      · skip
        have hge : k = tried.length := by simp at h3; omega
        have hin : decide ((⟨kz, vz, bz⟩ : ItV) ∈ (tried.take k).map HI.it) = true := by rw [hge, List.take_of_length_le (Nat.le_refl _)]; exact decide_eq_true hzt
        refine JC.exit ?_
        refine JX.thenE ?_
        refine JX.thenE ?_
        refine JX.blockE ?_
        refine JX.thenN (hK16 _ _ ?_)
        refine JC.seq (fun K22 hK22 => ?_)
        refine JC.region ?_
        refine J.move rfl rfl ?_
        refine J.name 59 rfl (show _ = Value.bool true from congrArg Value.bool hin) ?_
        refine J.not rfl rfl ?_
        refine J.nil ?_
        refine JX.thenN (hK22 _ _ ?_)
        first | refine JC.condF rfl ?_ | refine JC.cond rfl (fun h => by first | (exfalso; simp at h; omega) | (simp at h)) (fun _ => ?_)
        refine JC.skip ?_
        refine JX.blockN ?_
        refine JX.thenN (hK13 _ _ ?_)
        refine JC.region ?_
        (first | refine J.addN rfl rfl (by omega) (by omega) rfl ?_ | refine J.bin rfl rfl rfl rfl ?_)
        refine J.move rfl rfl ?_
        refine J.nil ?_
        refine JX.thenN ?_
        refine JX.again (j + 1) ?_ ?_ ?_
        · omega
        · exact ⟨rfl, rfl, rfl, rfl, trivial⟩
        · exact fun w1 hw => ⟨hjl, hw.drop (List.sublist_cons_self _ _)⟩
    · skip
      try simp only [decide_eq_true_eq, decide_eq_false_iff_not, beq_iff_eq, bne_iff_ne, bne_eq_false_iff_eq, ne_eq, beq_eq_false_iff_ne, Bool.not_eq_true, Bool.not_eq_false, Int.not_lt, Int.not_le] at h2
      refine JC.exit ?_
      refine JX.thenE ?_
      refine JX.thenE ?_
      refine JX.blockE ?_
      refine JX.thenN (hK9 _ _ ?_)
      refine JC.seq (fun K23 hK23 => ?_)
      refine JC.region ?_
      refine J.assign rfl rfl ?_
      refine J.nil ?_
      refine JX.thenN (hK23 _ _ ?_)
      refine JC.ret ?_
      refine JX.ret1 rfl rfl (fun w hw => ?_)
      exact ⟨rfl, (hw.drop (List.nil_sublist _)).below⟩

end Go.Proofs.Ytoaenmlhehcjfaa
/-
  Plain laws of merging; VaultNewest: the walk.
-/
namespace Go.Proofs.Ytoaenmlhehcjfaa
open Go.J Go.RowKit
set_option linter.unusedVariables false
set_option linter.unusedSimpArgs false
set_option maxRecDepth 8000
theorem newB_iff {a b : WV} : newB a b = true ↔ b.n < a.n ∨ (a.n = b.n ∧ valI b.who < valI a.who) := by
  unfold newB
  rw [Bool.or_eq_true, Bool.and_eq_true, decide_eq_true_eq, decide_eq_true_eq, decide_eq_true_eq]
theorem newB_le {x y t : WV} (h1 : newB x y = true) (h2 : newB t y = false) : newB t x = false := by
  rw [Bool.eq_false_iff, ne_eq, newB_iff] at h2 ⊢
  rw [newB_iff] at h1
  omega
theorem newB_self (x : WV) : newB x x = false := by
  rw [Bool.eq_false_iff, ne_eq, newB_iff]
  omega
theorem hget_set {L : List HI} (hd : L.Pairwise (fun x y => x.key ≠ y.key)) (x : HI) (k : IDV) : hget (hset L x) k = if k = x.key then some x else hget L k := by
  cases h : hget L x.key with
  | none =>
    have e : hset L x = L ++ [x] := by unfold hset; rw [h]; rfl
    rw [e]
    unfold hget
    rw [List.find?_append]
    by_cases hk : k = x.key
    · subst hk
      rw [if_pos rfl]
      have h0 : L.find? (fun h => decide (h.key = x.key)) = none := h
      rw [h0]
      simp
    · rw [if_neg hk]
      have : [x].find? (fun h => decide (h.key = k)) = none := by simp [Ne.symm hk]
      rw [this, Option.or_none]
  | some y =>
    obtain ⟨l1, l2, h1, h2⟩ := hset_split hd h
    have hyk := (hget_some h).2
    rw [h2]
    by_cases hk : k = x.key
    · subst hk
      rw [if_pos rfl]
      unfold hget
      rw [List.find?_append]
      have hn : l1.find? (fun h => decide (h.key = x.key)) = none := List.find?_eq_none.2 fun z hz => by
        rw [h1] at hd
        have := (List.pairwise_append.1 hd).2.2 z hz y (.head _)
        simp only [decide_eq_true_eq]
        exact fun e => this (e.trans hyk.symm)
      rw [hn]
      simp
    · rw [if_neg hk, h1]
      unfold hget
      rw [List.find?_append, List.find?_append, List.find?_cons, List.find?_cons]
      have e1 : decide (x.key = k) = false := decide_eq_false (Ne.symm hk)
      have e2 : decide (y.key = k) = false := decide_eq_false (fun e => hk (by rw [← e, hyk]))
      rw [e1, e2]
/-- of each key a version is kept that isn't older than any that was taken; and what is kept was handed in -/
structure Kept (L sure tried : List HI) : Prop where
  sure : ∀ x, x ∈ sure → ∃ y, hget L x.key = some y ∧ newB x.ver y.ver = false
  tried : ∀ x, x ∈ L → x.it ∈ tried.map HI.it
theorem Kept.nil : Kept [] [] [] := ⟨fun _ h => (by cases h), fun _ h => (by cases h)⟩
theorem Kept.more {L sure tried : List HI} (h : Kept L sure tried) (t : HI) : Kept L sure (tried ++ [t]) := ⟨h.sure, fun x hx => by rw [List.map_append]; exact List.mem_append_left _ (h.tried x hx)⟩
theorem Kept.old {L sure tried : List HI} (h : Kept L sure tried) (t : HI) (ht : ∃ y, hget L t.key = some y ∧ newB t.ver y.ver = false) : Kept L (sure ++ [t]) (tried ++ [t]) := ⟨fun x hx => by
  rcases List.mem_append.1 hx with hx | hx
  · exact h.sure x hx
  · rw [List.mem_singleton.1 hx]; exact ht, (h.more t).tried⟩
/-- a newer version is kept -/
theorem Kept.set {L sure tried : List HI} (hd : L.Pairwise (fun x y => x.key ≠ y.key)) (h : Kept L sure tried) (x t : HI) (ht : x.it = t.it) (hn : ∀ y, hget L x.key = some y → newB x.ver y.ver = true) : Kept (hset L x) (sure ++ [t]) (tried ++ [t]) := by
  have hk : x.key = t.key := congrArg ItV.key ht
  have hv : x.ver = t.ver := congrArg ItV.ver ht
  refine ⟨fun z hz => ?_, fun z hz => ?_⟩
  · rw [hget_set hd]
    rcases List.mem_append.1 hz with hz | hz
    · obtain ⟨y, hy1, hy2⟩ := h.sure z hz
      by_cases hkz : z.key = x.key
      · rw [if_pos hkz]
        exact ⟨x, rfl, newB_le (hn y (by rw [← hkz]; exact hy1)) hy2⟩
      · rw [if_neg hkz]; exact ⟨y, hy1, hy2⟩
    · rw [List.mem_singleton.1 hz, if_pos hk.symm]
      exact ⟨x, rfl, by rw [hv]; exact newB_self _⟩
  · rw [List.map_append]
    rcases hset_mem hz with rfl | hz
    · exact List.mem_append_right _ (by rw [ht]; exact .head _)
    · exact List.mem_append_left _ (h.tried z hz)
theorem row_off {w w1 : World} {l : List (Nat × Obj)} {v : Value} {k : Nat} {xs : List Value} {T : List Nat} (h : Row w v k xs) (hw : St w [] l w1) (hT : ∀ b, b ∈ T → b ∈ l.map (·.1)) : Off T v xs := by
  obtain ⟨a, c, rfl, hc, h⟩ := h
  by_cases hx : xs = []
  · exact .inl hx
  · rcases h with h | ⟨b, o, rfl, hcl⟩
    · exact absurd h hx
    · refine .inr fun b' o' k' c' e => ?_
      simp only [Value.slice.injEq, Option.some.injEq, Addr.mk.injEq] at e
      rw [← e.1.1]
      exact fun hm => St.notin hw (hcl.lt hx) (hT _ hm)
/-- what merging answers, by cases -/
theorem merge_cases {n : Nat} {q q' : LogP} {σ σ' : DS} {dn dn' : Bool} {L : List HI} {x : ItV} {e : Int} (h : vmergeP n q dn σ (L.map HI.it) x = (false, e, q', dn', σ')) (he : e = 0) : ∃ y, hget L x.key = some y ∧ newB x.ver y.ver = false := by
  subst he
  unfold vmergeP at h
  split at h
  · cases h
  · split at h
    · cases h
    · split at h
      · rename_i h3
        rw [hget_it, Option.isSome_map] at h3
        obtain ⟨y, hy⟩ := Option.isSome_iff_exists.1 h3.1
        rw [hy] at h3
        exact ⟨y, hy, h3.2⟩
      · generalize appendP n q dn σ (formB x) = z at h
        obtain ⟨e, q2, d2, s2⟩ := z
        simp only [Prod.mk.injEq, decide_eq_false_iff_not] at h
        exact absurd h.2.1 h.1
theorem merge_new {n : Nat} {q q' : LogP} {σ σ' : DS} {dn dn' : Bool} {L : List HI} {x : ItV} {e : Int} (h : vmergeP n q dn σ (L.map HI.it) x = (true, e, q', dn', σ')) : okIt x ∧ ∀ y, hget L x.key = some y → newB x.ver y.ver = true := by
  unfold vmergeP at h
  split at h
  · cases h
  · rename_i h1
    split at h
    · cases h
    · rename_i h2
      split at h
      · cases h
      · rename_i h3
        refine ⟨⟨by omega, by omega, by omega⟩, fun y hy => ?_⟩
        rw [hget_it, Option.isSome_map, hy] at h3
        cases hb : newB x.ver y.ver with
        | true => rfl
        | false => exact absurd ⟨rfl, hb⟩ h3
theorem merge_log {n : Nat} {q q' : LogP} {σ σ' : DS} {dn dn' : Bool} {L : List ItV} {x : ItV} {r : Bool} {e : Int} (hn : n ≤ 4096) (hI : LogI n q σ) (hg : q.gen + 1 < 9223372036854775808) (h : vmergeP n q dn σ L x = (r, e, q', dn', σ')) :
    LogI n q' σ' ∧ σ.k ≤ σ'.k ∧ σ'.k ≤ σ.k + 19 ∧ q'.gen ≤ q.gen + 1 ∧ ((r = true ∧ e = 0 ∧ q'.recs = q.recs ++ [formB x]) ∨ (r = false ∧ q' = q)) := by
  unfold vmergeP at h
  split at h
  · simp only [Prod.mk.injEq] at h
    obtain ⟨rfl, rfl, rfl, rfl, rfl⟩ := h
    exact ⟨hI, Int.le_refl _, by omega, by omega, .inr ⟨rfl, rfl⟩⟩
  · split at h
    · simp only [Prod.mk.injEq] at h
      obtain ⟨rfl, rfl, rfl, rfl, rfl⟩ := h
      exact ⟨hI, Int.le_refl _, by omega, by omega, .inr ⟨rfl, rfl⟩⟩
    · split at h
      · simp only [Prod.mk.injEq] at h
        obtain ⟨rfl, rfl, rfl, rfl, rfl⟩ := h
        exact ⟨hI, Int.le_refl _, by omega, by omega, .inr ⟨rfl, rfl⟩⟩
      · obtain ⟨e2, q2, d2, s2, h1, h2, h3, h4, h5, h6, h7, h8⟩ := append_law (down := dn) (rec_ := formB x) hn hI hg
        rw [h1] at h
        simp only [Prod.mk.injEq] at h
        obtain ⟨h9, rfl, rfl, rfl, rfl⟩ := h
        refine ⟨h2, h3, h4, h5, ?_⟩
        rcases h7 with ⟨ha, hb⟩ | ⟨ha, hb⟩
        · exact .inl ⟨by rw [← h9]; exact decide_eq_true ha, ha, hb⟩
        · exact .inr ⟨by rw [← h9]; exact decide_eq_false ha, hb⟩
structure NwS where
  i : Nat
  q : LogP
  dn : Bool
  σ : DS
  L : List HI
  es : Array MapEntry
  ck : Nat
  tk : List HI
  v5 : Value
  l5 : List (Nat × Obj)
structure NwI (w : World) (st : NwS) : Prop where
  i : st.i ≤ 61
  log : LogI 900 st.q st.σ
  k0 : 0 ≤ st.σ.k
  k : st.σ.k ≤ 100 + 19 * st.i
  gen : st.q.gen ≤ st.i + 1
  vm : Vm st.L st.es st.ck
  ok : VOK st.L
  len : st.L.length ≤ st.i
  short : ∀ x, x ∈ st.L → x.bs.length ≤ 64
  kept : Kept st.L st.tk st.tk
  tkl : st.tk.length ≤ st.i
  tke : ∀ x, x ∈ st.tk → (∃ a c, x.sv = .slice a x.bs.length c) ∧ Row w x.sv x.bs.length (x.bs.map u8) ∧ okN x.ver.n
  vec : Vec 28 34 st.v5 st.tk.length (st.tk.flatMap cH) st.l5

def QN1 : LogP := ⟨1, 1, 1, [incB 1]⟩

def toHI (x : ItX) : HI := ⟨x.key, x.ver, x.v.xs, x.v.v, []⟩
theorem rows_itx {w : World} {s : Sl ItX} {cs : List Value} (h : RSl 34 64 RIt w cs s) : Row w s.v (s.xs.map toHI).length ((s.xs.map toHI).flatMap cH) := by
  have h1 := rslG (c := fun x => cH (toHI x)) (sz := 34) (fun _ => rfl) (by omega) (fun _ _ _ h => h.1) h
  rw [List.length_map, List.flatMap_map]
  exact h1
theorem items_ok {w : World} {s : Sl ItX} {cs : List Value} (h : RSl 34 64 RIt w cs s) : ∀ x, x ∈ s.xs → okN x.ver.n ∧ RSl 1 1 RU8 w [x.v.v] x.v := by
  obtain ⟨_, _, _, h4⟩ := h
  intro x hx
  rcases h4 with h4 | ⟨b, o, _, h4⟩
  · rw [h4] at hx; cases hx
  · obtain ⟨i, hi⟩ := List.mem_iff_getElem?.1 hx
    obtain ⟨cs', _, _, h5⟩ := h4 i x hi
    exact ⟨h5.2.1, h5.2.2⟩
end Go.Proofs.Ytoaenmlhehcjfaa
/-
  Plain laws of what a vault keeps, wherever power fails.
-/
namespace Go.Proofs.Ytoaenmlhehcjfaa
open Go.J Go.RowKit
set_option linter.unusedVariables false
set_option linter.unusedSimpArgs false
set_option maxRecDepth 8000
/-- the same on plain items -/
structure KeptV (L : List ItV) (sure tried : List HI) : Prop where
  sure : ∀ x, x ∈ sure → ∃ y, getV L x.key = some y ∧ newB x.ver y.ver = false
  tried : ∀ x, x ∈ L → x ∈ tried.map HI.it
theorem KeptV.of {L : List HI} {sure tried : List HI} (h : Kept L sure tried) : KeptV (L.map HI.it) sure tried := ⟨fun x hx => by
  obtain ⟨y, h1, h2⟩ := h.sure x hx
  exact ⟨y.it, by rw [hget_it, h1]; rfl, h2⟩, fun x hx => by
  obtain ⟨z, hz, rfl⟩ := List.mem_map.1 hx
  exact h.tried z hz⟩
theorem KeptV.to {L : List HI} {sure tried : List HI} (h : KeptV (L.map HI.it) sure tried) : Kept L sure tried := ⟨fun x hx => by
  obtain ⟨y, h1, h2⟩ := h.sure x hx
  rw [hget_it] at h1
  obtain ⟨z, hz, rfl⟩ := Option.map_eq_some_iff.1 h1
  exact ⟨z, hz, h2⟩, fun x hx => h.tried _ (List.mem_map.2 ⟨x, hx, rfl⟩)⟩
/-- a version above the kept one is put, whatever the two lists get of it -/
theorem Kept.put {L sure tried : List HI} (hd : L.Pairwise (fun x y => x.key ≠ y.key)) (h : Kept L sure tried) (x s t : HI) (hs : s.it = x.it) (ht : x.it = t.it) (hn : ∀ y, hget L x.key = some y → newB x.ver y.ver = true) : Kept (hset L x) (sure ++ [s]) (tried ++ [t]) := by
  have h0 := h.set hd x t ht hn
  refine ⟨fun z hz => ?_, h0.tried⟩
  rcases List.mem_append.1 hz with hz | hz
  · exact h0.sure z (List.mem_append_left _ hz)
  · rw [List.mem_singleton.1 hz]
    have hk : s.key = x.key := congrArg ItV.key hs
    have hv : s.ver = x.ver := congrArg ItV.ver hs
    refine ⟨x, ?_, by rw [hv]; exact newB_self _⟩
    rw [hget_set hd, if_pos hk]
theorem take_set {L : List HI} {x : ItV} (hn : ∀ y, hget L x.key = some y → newB x.ver y.ver = true) : takeV (L.map HI.it) x = setV (L.map HI.it) x := by
  unfold takeV
  rw [hget_it]
  cases h : hget L x.key with
  | none => rfl
  | some y =>
    exact if_pos (hn y h)
/-- what putting answers, by cases -/
theorem put_new {n : Nat} {q q' : LogP} {σ σ' : DS} {dn dn' : Bool} {L : List HI} {key who : IDV} {val : List UInt8} {e : Int} {y : ItV} (hV : VOK L) (h : vputP n q dn σ (L.map HI.it) key val who = (e, some y, q', dn', σ')) :
    y = ⟨key, ⟨((hget L key).getD zH).ver.n + 1, who⟩, val⟩ ∧ okIt y ∧ ∀ z, hget L y.key = some z → newB y.ver z.ver = true := by
  have ho := hV.okn key
  unfold vputP at h
  rw [verN_it] at h
  split at h
  · cases h
  · rename_i h1
    split at h
    · cases h
    · rename_i h2
      generalize appendP n q dn σ (formB ⟨key, ⟨((hget L key).getD zH).ver.n + 1, who⟩, val⟩) = z at h
      obtain ⟨e0, q0, d0, s0⟩ := z
      simp only at h
      split at h
      · simp only [Prod.mk.injEq, Option.some.injEq] at h
        obtain ⟨_, rfl, _⟩ := h
        refine ⟨rfl, ⟨by simp only; omega, by simp only; omega, by simp only; omega⟩, fun z hz => ?_⟩
        simp only at hz
        rw [newB_iff]
        left
        rw [hz]
        show z.ver.n < z.ver.n + 1
        omega
      · cases h
theorem put_log {n : Nat} {q q' : LogP} {σ σ' : DS} {dn dn' : Bool} {L : List ItV} {key who : IDV} {val : List UInt8} {e : Int} {o : Option ItV} (hn : n ≤ 4096) (hI : LogI n q σ) (hg : q.gen + 1 < 9223372036854775808) (h : vputP n q dn σ L key val who = (e, o, q', dn', σ')) :
    LogI n q' σ' ∧ σ.k ≤ σ'.k ∧ σ'.k ≤ σ.k + 19 ∧ q'.gen ≤ q.gen + 1 ∧ q.gen ≤ q'.gen ∧ ((∃ y, o = some y ∧ e = 0 ∧ y.bs = val ∧ q'.recs = q.recs ++ [formB y] ∧ q'.used = q.used + needN (formB y).length ∧ val.length ≤ 64) ∨ (o = none ∧ e ≠ 0 ∧ q' = q)) := by
  unfold vputP at h
  split at h
  · simp only [Prod.mk.injEq] at h
    obtain ⟨rfl, rfl, rfl, rfl, rfl⟩ := h
    exact ⟨hI, Int.le_refl _, by omega, by omega, Nat.le_refl _, .inr ⟨rfl, by decide, rfl⟩⟩
  · rename_i hv
    split at h
    · simp only [Prod.mk.injEq] at h
      obtain ⟨rfl, rfl, rfl, rfl, rfl⟩ := h
      exact ⟨hI, Int.le_refl _, by omega, by omega, Nat.le_refl _, .inr ⟨rfl, by decide, rfl⟩⟩
    · obtain ⟨e2, q2, d2, s2, h1, h2, h3, h4, h5, h6, h7, h8⟩ := append_law (down := dn) (rec_ := formB ⟨key, ⟨verN L key + 1, who⟩, val⟩) hn hI hg
      rw [h1] at h
      simp only at h
      have hau := append_used h1
      split at h
      · rename_i he
        simp only [Prod.mk.injEq] at h
        obtain ⟨rfl, rfl, rfl, rfl, rfl⟩ := h
        rcases hau with ⟨_, hb⟩ | ⟨ha, _⟩
        · exact ⟨h2, h3, h4, h5, h6, .inl ⟨_, rfl, rfl, rfl, by rw [hb], by rw [hb], by omega⟩⟩
        · exact absurd he ha
      · rename_i he
        simp only [Prod.mk.injEq] at h
        obtain ⟨rfl, rfl, rfl, rfl, rfl⟩ := h
        rcases hau with ⟨ha, _⟩ | ⟨_, hb⟩
        · exact absurd ha he
        · exact ⟨h2, h3, h4, h5, h6, .inr ⟨rfl, he, hb⟩⟩
theorem merge_used {n : Nat} {q q' : LogP} {σ σ' : DS} {dn dn' : Bool} {L : List ItV} {x : ItV} {e : Int} (h : vmergeP n q dn σ L x = (true, e, q', dn', σ')) : q'.recs = q.recs ++ [formB x] ∧ q'.used = q.used + needN (formB x).length := by
  unfold vmergeP at h
  split at h
  · cases h
  · split at h
    · cases h
    · split at h
      · cases h
      · generalize h1 : appendP n q dn σ (formB x) = z at h
        obtain ⟨e0, q0, d0, s0⟩ := z
        simp only [Prod.mk.injEq, decide_eq_true_eq] at h
        obtain ⟨he, _, rfl, _, _⟩ := h
        rcases append_used h1 with ⟨_, hb⟩ | ⟨ha, _⟩
        · rw [hb]; exact ⟨rfl, rfl⟩
        · exact absurd he ha
theorem form_need {x : ItV} (h : x.bs.length ≤ 64) : needN (formB x).length ≤ 3 := by
  have := formB_le x
  unfold needN
  omega

end Go.Proofs.Ytoaenmlhehcjfaa
/-
  VaultBegins: the walk.
-/
namespace Go.Proofs.Ytoaenmlhehcjfaa
open Go.J Go.RowKit
set_option linter.unusedVariables false
set_option linter.unusedSimpArgs false
set_option maxRecDepth 8000
section
variable {P : Program} {ops : Array Oper} {Q : Exit → Act → World → Prop} {n : Nat} {e : Env} {I I' : World → Prop} {rest : List Oper}
variable {d t yt : Nat} {p : String} {af : Array Edge} {x y z : Operand}
theorem J.remV {ty : TypeId} {a b : Int} (hx : ev e x = some (.int .u64 a)) (hy : ev e y = some (.int .u64 b)) (h1 : 0 ≤ a) (h3 : 0 < b) (hd : Nat.blt d n = true)
    (h : J P ops Q n rest ((d, .int .u64 (a % b)) :: e) I) : J P ops Q n (⟨some d, .binOp .rem ty x y yt, t, p, af, none⟩ :: rest) e I := by
  refine J.bin (v := .int .u64 (a.tmod b)) hx hy ?_ hd ?_
  · simp only [binI, if_true]
    rw [if_neg (by omega)]
  · rw [Int.tmod_eq_emod_of_nonneg h1]; exact h
end
theorem LogI.power {n : Nat} {q : LogP} {σ : DS} (h : LogI n q σ) (p : Int) (hp : p < 9223372036854775808) : LogI n q ⟨σ.B, p, σ.k⟩ := ⟨h.len, h.open_, hp⟩
structure BgS where
  i : Nat
  last : Nat
  q : LogP
  σ : DS
structure BgI (n : Nat) (st : BgS) : Prop where
  log : LogI n st.q st.σ
  held : heldV st.q.recs = some (st.last, [])
  used : st.q.used ≤ st.i
  gen : st.q.gen ≤ st.i
  last : st.last ≤ st.i
  k0 : 0 ≤ st.σ.k
  k : st.σ.k ≤ 19 * st.i
/-- one beginning more -/
theorem BgI.ok {n : Nat} {st : BgS} (h : BgI n st) {σ' : DS} (hl : LogI n ⟨st.q.gen + 1, st.q.used + 1, st.q.cnt + 1, st.q.recs ++ [incB (st.last + 1)]⟩ σ') (hi : st.i ≤ 1000) (hk : st.σ.k ≤ σ'.k) (hk2 : σ'.k ≤ st.σ.k + 19) :
    BgI n ⟨st.i + 1, st.last + 1, ⟨st.q.gen + 1, st.q.used + 1, st.q.cnt + 1, st.q.recs ++ [incB (st.last + 1)]⟩, σ'⟩ := by
  have h1 := h.used
  have h2 := h.gen
  have h3 := h.last
  have h4 := h.k0
  have h5 := h.k
  exact ⟨hl, held_inc h.held (by omega), by simp only; omega, by simp only; omega, by simp only; omega, by simp only; omega, by simp only; omega⟩
theorem BgI.bad {n : Nat} {st : BgS} (h : BgI n st) {σ' : DS} (hl : LogI n st.q σ') (hk : st.σ.k ≤ σ'.k) (hk2 : σ'.k ≤ st.σ.k + 19) : BgI n ⟨st.i + 1, st.last, st.q, σ'⟩ := by
  have h1 := h.used
  have h2 := h.gen
  have h3 := h.last
  have h4 := h.k0
  have h5 := h.k
  exact ⟨hl, h.held, by simp only; omega, by simp only; omega, by simp only; omega, by simp only; omega, by simp only; omega⟩

theorem ints_map (xs : List Int) : xs.flatMap (fun k => [Value.int .i64 k]) = xs.map (fun k => Value.int .i64 k) := by
  induction xs with
  | nil => rfl
  | cons k xs ih => rw [List.flatMap_cons, List.map_cons, ih]; rfl
end Go.Proofs.Ytoaenmlhehcjfaa
/-
  VaultKeeps: the walk.
-/
namespace Go.Proofs.Ytoaenmlhehcjfaa
open Go.J Go.RowKit
set_option linter.unusedVariables false
set_option linter.unusedSimpArgs false
set_option maxRecDepth 8000
theorem old_row {L : List HI} (hV : VOK L) {w0 w1 : World} {S : List Nat} {l : List (Nat × Obj)} (hw : St w0 S l w1) (hs : ∀ p, p ∈ lpsH L → p ∈ l) (k : IDV) : Row w1 ((hget L k).getD zH).sv ((hget L k).getD zH).bs.length (((hget L k).getD zH).bs.map u8) := by
  cases h : hget L k with
  | none => exact ⟨none, 0, rfl, Nat.le_refl _, .inl rfl⟩
  | some y => exact vec_rowM (hV y (hget_some h).1).2 hw (fun p hp => hs p (List.mem_flatMap.2 ⟨y, (hget_some h).1, hp⟩))
theorem old_off {L : List HI} (hV : VOK L) {T : List Nat} (hs : ∀ p, p ∈ lpsH L → p.1 ∉ T) (k : IDV) : Off T ((hget L k).getD zH).sv (((hget L k).getD zH).bs.map u8) := by
  cases h : hget L k with
  | none => exact .inl rfl
  | some y => exact vec_offM (hV y (hget_some h).1).2 (fun p hp => hs p (List.mem_flatMap.2 ⟨y, (hget_some h).1, hp⟩))
theorem old_short {L : List HI} (h : ∀ x, x ∈ L → x.bs.length ≤ 64) (k : IDV) : ((hget L k).getD zH).bs.length ≤ 64 := by
  cases hk : hget L k with
  | none => exact Nat.zero_le _
  | some y => exact h y (hget_some hk).1
theorem reopen {q : LogP} {σ : DS} {k : Nat} {L : List ItV} (hI : LogI 900 q σ) (hh : heldV q.recs = some (k, L)) (hk : k ≤ 1000) (hg : q.gen ≤ 1000) (hu : q.used ≤ 800) :
    ∃ Q1 σ1, vopenP 900 ⟨σ.B, -1, σ.k⟩ = (0, some (Q1, k + 1, L), σ1) ∧ LogI 900 Q1 σ1 ∧ heldV Q1.recs = some (k + 1, L) ∧ Q1.gen = q.gen + 1 ∧ Q1.used = q.used + 1 ∧ σ1.p = -1 ∧ σ.k ≤ σ1.k ∧ σ1.k ≤ σ.k + 19 := by
  obtain ⟨σ1, h1, h2, h3, h4, h5⟩ := vopen_ok (n := 900) (inc := k) (σ := ⟨σ.B, -1, σ.k⟩) (by omega) (hI.power (-1) (by omega)) hh (by omega) (by show (-1 : Int) < 0; omega) (by omega) (by omega)
  exact ⟨_, σ1, h1, h2, held_inc hh (by omega), rfl, rfl, h3, h4, h5⟩
structure KpS where
  k : Nat
  at_ : Nat
  q : LogP
  σ : DS
  Lp : List ItV
  sure : List HI
  tried : List HI
  v6 : Value
  l6 : List (Nat × Obj)
  v7 : Value
  l7 : List (Nat × Obj)
structure KpI (w : World) (st : KpS) : Prop where
  k : st.k ≤ 16
  at_ : st.at_ ≤ 60
  log : LogI 900 st.q st.σ
  held : heldV st.q.recs = some (st.k, st.Lp)
  k0 : 0 ≤ st.σ.k
  kb : st.σ.k ≤ 19 * (st.at_ + st.k)
  gen : st.q.gen ≤ st.at_ + st.k
  used : st.q.used ≤ 3 * st.at_ + st.k
  kept : KeptV st.Lp st.sure st.tried
  len : st.Lp.length ≤ st.at_
  short : ∀ x, x ∈ st.Lp → x.bs.length ≤ 64
  sl : st.sure.length ≤ st.at_
  tl : st.tried.length ≤ st.at_
  sf : ∀ x, x ∈ st.sure → ∃ a c, x.sv = .slice a x.bs.length c
  te : ∀ x, x ∈ st.tried → (∃ a c, x.sv = .slice a x.bs.length c) ∧ Row w x.sv x.bs.length (x.bs.map u8) ∧ okN x.ver.n
  vec6 : Vec 28 34 st.v6 st.sure.length (st.sure.flatMap cH) st.l6
  vec7 : Vec 28 34 st.v7 st.tried.length (st.tried.flatMap cH) st.l7
structure KqS where
  at_ : Nat
  q : LogP
  dn : Bool
  σ : DS
  L : List HI
  es : Array MapEntry
  ck : Nat
  sure : List HI
  tried : List HI
  v6 : Value
  l6 : List (Nat × Obj)
  v7 : Value
  l7 : List (Nat × Obj)
structure KqI (w : World) (k : Nat) (st : KqS) : Prop where
  at_ : st.at_ ≤ 60
  log : LogI 900 st.q st.σ
  held : heldV st.q.recs = some (k + 1, st.L.map HI.it)
  k0 : 0 ≤ st.σ.k
  kb : st.σ.k ≤ 19 * (st.at_ + k + 1)
  gen : st.q.gen ≤ st.at_ + k + 1
  used : st.q.used ≤ 3 * st.at_ + k + 1
  vm : Vm st.L st.es st.ck
  ok : VOK st.L
  len : st.L.length ≤ st.at_
  short : ∀ x, x ∈ st.L → x.bs.length ≤ 64
  kept : Kept st.L st.sure st.tried
  sl : st.sure.length ≤ st.at_
  tl : st.tried.length ≤ st.at_
  sf : ∀ x, x ∈ st.sure → ∃ a c, x.sv = .slice a x.bs.length c
  te : ∀ x, x ∈ st.tried → (∃ a c, x.sv = .slice a x.bs.length c) ∧ Row w x.sv x.bs.length (x.bs.map u8) ∧ okN x.ver.n
  vec6 : Vec 28 34 st.v6 st.sure.length (st.sure.flatMap cH) st.l6
  vec7 : Vec 28 34 st.v7 st.tried.length (st.tried.flatMap cH) st.l7
theorem okN_up {n : Int} (h1 : 0 ≤ n) (h2 : n < 9223372036854775808) : okN n := by
  obtain ⟨m, rfl⟩ : ∃ m : Nat, n = (m : Int) := ⟨n.toNat, by omega⟩
  exact okN_of (by omega)
theorem in_snoc {α : Type} {p : α → Prop} {xs : List α} {y : α} (h : ∀ x, x ∈ xs → p x) (hy : p y) : ∀ x, x ∈ xs ++ [y] → p x := fun x hx => by
  rcases List.mem_append.1 hx with hx | hx
  · exact h x hx
  · rw [List.mem_singleton.1 hx]; exact hy
theorem len_snoc {α : Type} {xs : List α} {y : α} {n : Nat} (h : xs.length ≤ n) : (xs ++ [y]).length ≤ n + 1 := by
  rw [List.length_append, List.length_singleton]; omega

set_option maxHeartbeats 4000000 in
theorem vaultKeepsL_spec (v : Value) (xs : List HI) (vk : Value) (ks : List Int) (w : World) (hr : Row w v xs.length (xs.flatMap cH)) (he : ∀ x, x ∈ xs → (∃ a c, x.sv = .slice a x.bs.length c) ∧ Row w x.sv x.bs.length (x.bs.map u8) ∧ okN x.ver.n ∧ x.bs.length ≤ 140737488351232) (hrk : Row w vk ks.length (ks.map fun k => Value.int .i64 k)) :
    Calls Try.prog 7 [v, vk].toArray w fun r w' => r = .returned (.bool true) ∧ Bel w w' := by
  obtain ⟨ai, ci, rfl, hci, _⟩ := id hr
  obtain ⟨aj, cj, rfl, hcj, hra⟩ := id hrk
  refine calls_of_J (args := [.slice ai xs.length ci, .slice aj ks.length cj]) (e := [(0, .slice ai xs.length ci), (1, .slice aj ks.length cj)]) Try.func7 rfl rfl ⟨rfl, rfl, trivial⟩ (St.start w) ?_
  refine JC.seq (fun K0 hK0 => ?_)
  refine JC.region ?_
  refine J.assign rfl rfl ?_
  refine J.nil ?_
  refine JX.thenN (hK0 _ _ ?_)
  refine JC.seq (fun K1 hK1 => ?_)
  refine JC.region ?_
  refine J.callS (α := Nat × Nat) (l1 := []) (L := fun x => [(x.1, dkO x.2 (min (max (900 : Int) 0) 4096).toNat (-1) 0), (x.2, dkS (List.replicate (64 * (min (max (900 : Int) 0) 4096).toNat) 0))]) (V := fun x => .pointer (some ⟨x.1, 0, none⟩)) (Pr := fun _ => True) Ty.bd15 rfl rfl (fun w1 hw => new_spec 900 w1) (fun x _ => ?_)
  obtain ⟨d, s⟩ := x
  have hN : (min (max (900 : Int) 0) 4096).toNat = 900 := by decide
  simp only [hN, List.append_nil]
  refine J.assign rfl rfl ?_
  refine J.nil ?_
  refine JX.thenN (hK1 _ _ ?_)
  refine JC.seq (fun K2 hK2 => ?_)
  refine JC.seq (fun K3 hK3 => ?_)
  refine JC.region ?_
  refine J.move rfl rfl ?_
  refine J.eqNil Ty.u34 rfl rfl rfl ?_
  refine J.move rfl rfl ?_
  refine J.unguard rfl rfl rfl ?_
  refine J.callB (v := .bool true) (fun w1 w2 hw hb => hw.step hb) Ty.bd10 rfl rfl (fun w1 hw => fixed18_spec w1) ?_
  first | refine J.skip rfl rfl rfl rfl rfl ?_ | refine J.skipU rfl rfl rfl rfl ?_ | (refine J.unguard rfl rfl rfl ?_; refine J.not rfl rfl ?_)
  (first | refine J.pickT rfl rfl rfl ?_ | refine J.pickF rfl rfl rfl ?_)
  refine J.nil ?_
  refine JX.thenN (hK3 _ _ ?_)
  first | refine JC.condF rfl ?_ | refine JC.cond rfl (fun h => by first | (exfalso; simp at h; omega) | (simp at h)) (fun _ => ?_)
  refine JC.skip ?_
  refine JX.thenN (hK2 _ _ ?_)
  refine JC.seq (fun K4 hK4 => ?_)
  refine JC.region ?_
  refine J.assign rfl rfl ?_
  refine J.assign rfl rfl ?_
  refine J.nil ?_
  refine JX.thenN (hK4 _ _ ?_)
  refine JC.seq (fun K5 hK5 => ?_)
  refine JC.region ?_
  refine J.assign rfl rfl ?_
  refine J.nil ?_
  refine JX.thenN (hK5 _ _ ?_)
  refine JC.seqCut (α := KpS) (fun st => [(5, .pointer (some ⟨d, 0, none⟩)), (6, st.v6), (7, st.v7)]) (fun st w' => KpI w st ∧ St w [] ((d, dkO s 900 st.σ.p st.σ.k) :: (s, dkS st.σ.B) :: (st.l6 ++ st.l7)) w') (fun st => ?_) (fun K6 hK6 => ?_)
  · skip
    obtain ⟨k, at_, q, σ, Lp, sure, tried, v6, l6, v7, l7⟩ := st
    refine JC.pr (fun hI => ?_)
    try simp only
    obtain ⟨hk16, hat, hlog, hheld, hk0, hkb, hgen, hused, hkept, hlen, hshort, hsl, htl, hsf, hte, hv6, hv7⟩ := id hI
    try simp only at hk16 hat hlog hheld hk0 hkb hgen hused hkept hlen hshort hsl htl hsf hte hv6 hv7
    refine JC.seq (fun K7 hK7 => ?_)
    refine JC.region ?_
    refine J.move rfl rfl ?_
    refine J.perm ([(d, dkO s 900 σ.p σ.k)] ++ ((s, dkS σ.B) :: (l6 ++ l7))) (by (refine perm_cnt (fun _ => ?_)); simp only [cntB_append, cntB_cons, cntB_nil, Nat.add_zero, Nat.zero_add]; try ac_rfl) ?_
    refine J.callT (v := .tuple #[]) (L := [(d, dkO s 900 (-1) σ.k)]) Ty.bd16 rfl rfl (fun w1 hw => by have h9 := power_spec d s 900 σ.p σ.k (-1) w1 (St.owns hw); rw [show max (-1) (-1) = (-1) by omega] at h9; exact h9) ?_
    refine J.nil ?_
    refine JX.thenN (hK7 _ _ ?_)
    refine JC.seq (fun K8 hK8 => ?_)
    refine JC.region ?_
    refine J.move rfl rfl ?_
    obtain ⟨Q1, σ1, hO1, hI1, hh1, hQg, hQu, hp1, hk1, hk2⟩ := reopen hlog hheld (by omega) (by omega) (by omega)
    refine J.perm ([(d, dkO s 900 (-1) σ.k), (s, dkS σ.B)] ++ (l6 ++ l7)) (by (refine perm_cnt (fun _ => ?_)); simp only [cntB_append, cntB_cons, cntB_nil, Nat.add_zero, Nat.zero_add]; try ac_rfl) ?_
    refine J.callS (α := VO) (V := VO.val) (Pr := fun z => z.Pr 900 ⟨σ.B, -1, σ.k⟩) (L := fun z => z.lst d s 900) Ty.bd17 rfl rfl (fun w1 hw => vopen_spec d s 900 σ.B (-1) σ.k w1 (St.owns hw) hlog.len (by omega) hk0 (by omega) (by omega)) (fun z hz => ?_)
    rcases z with ⟨ez, sz⟩ | ⟨v1, m1, l1, q1, inc1, L1, es1, ck1, sz⟩
    · exact absurd (congrArg (fun x => x.1) (hz.1.symm.trans hO1)) hz.2
    obtain ⟨hz1, hT1, hV1⟩ := hz
    rw [hO1] at hz1
    simp only [Prod.mk.injEq, Option.some.injEq, true_and] at hz1
    obtain ⟨⟨rfl, rfl, hL1⟩, rfl⟩ := hz1
    subst hL1
    have hkp1 := hkept.to
    have hln1 : L1.length ≤ at_ := by rw [List.length_map] at hlen; exact hlen
    have hsh1 : ∀ x, x ∈ L1 → x.bs.length ≤ 64 := fun x hx => hshort x.it (List.mem_map.2 ⟨x, hx, rfl⟩)
    have hsubL : ∀ x, x ∈ L1 → ∀ p, p ∈ x.lp → p ∈ lpsH L1 := fun x hx p hp => List.mem_flatMap.2 ⟨x, hx, hp⟩
    refine J.name 160 rfl (show _ = Value.tuple #[.pointer (some ⟨v1, 0, none⟩), .int .i64 0] from rfl) ?_
    refine J.perm ((v1, vaO (.pointer (some ⟨l1, 0, none⟩)) m1 (((k + 1) : Nat) : Int)) :: (m1, .map es1 ck1) :: (l1, lgO d Q1 false) :: (d, dkO s 900 σ1.p σ1.k) :: (s, dkS σ1.B) :: (lpsH L1 ++ (l6 ++ l7))) (by simp only [VO.lst]; exact (by (refine perm_cnt (fun _ => ?_)); simp only [cntB_append, cntB_cons, cntB_nil, Nat.add_zero, Nat.zero_add]; try ac_rfl)) ?_
    refine J.move rfl rfl ?_
    refine J.extract rfl rfl rfl ?_
    refine J.extract rfl rfl rfl ?_
    refine J.assign rfl rfl ?_
    refine J.assign rfl rfl ?_
    refine J.nil ?_
    refine JX.thenN (hK8 _ _ ?_)
    refine JC.seq (fun K9 hK9 => ?_)
    refine JC.region ?_
    refine J.move rfl rfl ?_
    refine J.neNil Ty.u38 rfl rfl rfl ?_
    refine J.move rfl rfl ?_
    first | refine J.skip rfl rfl rfl rfl rfl ?_ | refine J.skipU rfl rfl rfl rfl ?_ | (refine J.unguard rfl rfl rfl ?_; refine J.move rfl rfl ?_)
    refine J.unguard rfl rfl rfl ?_
    refine J.bin rfl rfl rfl rfl ?_
    refine J.name 167 rfl (show _ = Value.bool true by simp) ?_
    (first | refine J.pickT rfl rfl rfl ?_ | refine J.pickF rfl rfl rfl ?_)
    refine J.move rfl rfl ?_
    first | refine J.skip rfl rfl rfl rfl rfl ?_ | refine J.skipU rfl rfl rfl rfl ?_ | (refine J.unguard rfl rfl rfl ?_; refine J.move rfl rfl ?_)
    first | refine J.skip rfl rfl rfl rfl rfl ?_ | refine J.skipU rfl rfl rfl rfl ?_ | (refine J.unguard rfl rfl rfl ?_; refine J.move rfl rfl ?_)
    first | refine J.skip rfl rfl rfl rfl rfl ?_ | refine J.skipU rfl rfl rfl rfl ?_ | (refine J.unguard rfl rfl rfl ?_; refine J.move rfl rfl ?_)
    refine J.unguard rfl rfl rfl ?_
    refine J.perm ([(v1, vaO (.pointer (some ⟨l1, 0, none⟩)) m1 ((k + 1 : Nat) : Int)), (m1, .map es1 ck1)] ++ ((l1, lgO d Q1 false) :: (d, dkO s 900 σ1.p σ1.k) :: (s, dkS σ1.B) :: (lpsH L1 ++ (l6 ++ l7)))) (.refl _) ?_
    refine J.callB (v := .bool true) (fun w1 w2 hw hb => hw.step hb) Ty.bd23 rfl rfl (fun w1 hw => holds_spec v1 m1 _ _ L1 es1 ck1 hT1 hV1 (by omega) _ _ sure tried w1 (St.owns hw) (fun x hx => ⟨vec_rowM (hV1 x hx).2 hw (fun p hp => by simp [hsubL x hx p hp]), vec_offM (hV1 x hx).2 (fun p0 hp0 => St.off (l1 := [(v1, vaO (.pointer (some ⟨l1, 0, none⟩)) m1 ((k + 1 : Nat) : Int)), (m1, .map es1 ck1)]) hw (o := p0.2) (by simp [hsubL x hx p0 hp0])), by have := hsh1 x hx; omega⟩) (vec_rowM hv6 hw (fun q hq => by first | (simp [hq]; done) | (simp at hq; simp [hq]; done) | (simp at hq; subst hq; simp))) hsf (by omega) hkp1.sure (vec_rowM hv7 hw (fun q hq => by first | (simp [hq]; done) | (simp at hq; simp [hq]; done) | (simp at hq; subst hq; simp))) (fun x hx => ⟨(hte x hx).1, (hte x hx).2.1.below (hw.drop (List.nil_sublist _)).below, (hte x hx).2.2⟩) (by omega) hkp1.tried) ?_
    (first | refine J.pickT rfl rfl rfl ?_ | refine J.pickF rfl rfl rfl ?_)
    refine J.assign rfl rfl ?_
    refine J.nil ?_
    refine JX.thenN (hK9 _ _ ?_)
    refine JC.ret ?_
    refine JX.ret1 rfl rfl (fun w hw => ?_)
    exact ⟨rfl, (hw.drop (List.nil_sublist _)).below⟩
  · skip
    refine JC.seq (fun K10 hK10 => ?_)
    refine JC.region ?_
    refine J.assign rfl rfl ?_
    refine J.nil ?_
    refine JX.thenN (hK10 _ _ ?_)
    refine JC.block ?_
    refine JC.conseq (JC.cov (f := (fun st => [(0, .slice ai xs.length ci), (1, .slice aj ks.length cj), (5, .pointer (some ⟨d, 0, none⟩)), (6, st.v6), (7, st.v7), (8, .int .i64 ((st.at_ : Nat) : Int)), (9, .int .i64 ((st.k : Nat) : Int))]) (⟨0, 0, ⟨0, 0, 0, []⟩, ⟨List.replicate (64 * 900) 0, -1, 0⟩, [], [], [], .slice none 0 0, [], .slice none 0 0, []⟩ : KpS)) ⟨rfl, rfl, rfl, rfl, rfl, rfl, rfl, trivial⟩ (JC.loop (α := KpS) (fun st => [(0, .slice ai xs.length ci), (1, .slice aj ks.length cj), (5, .pointer (some ⟨d, 0, none⟩)), (6, st.v6), (7, st.v7), (8, .int .i64 ((st.at_ : Nat) : Int)), (9, .int .i64 ((st.k : Nat) : Int))]) (fun st w' => KpI w st ∧ St w [] ((d, dkO s 900 st.σ.p st.σ.k) :: (s, dkS st.σ.B) :: (st.l6 ++ st.l7)) w') (fun st => 17 - st.k) (⟨0, 0, ⟨0, 0, 0, []⟩, ⟨List.replicate (64 * 900) 0, -1, 0⟩, [], [], [], .slice none 0 0, [], .slice none 0 0, []⟩ : KpS) (fun st => ?_))) (fun w hw => ⟨⟨Nat.zero_le _, Nat.zero_le _, logI_zero (by omega) (by omega) _ _ (by omega), rfl, Int.le_refl _, Int.le_refl _, Nat.le_refl _, Nat.le_refl _, ⟨fun _ h => (by cases h), fun _ h => (by cases h)⟩, Nat.le_refl _, fun _ h => (by cases h), Nat.le_refl _, Nat.le_refl _, fun _ h => (by cases h), fun _ h => (by cases h), Vec.nil _ _, Vec.nil _ _⟩, hw⟩)
    obtain ⟨k, at_, q, σ, Lp, sure, tried, v6, l6, v7, l7⟩ := st
    refine JC.pr (fun hI => ?_)
    try simp only
    obtain ⟨hk16, hat, hlog, hheld, hk0, hkb, hgen, hused, hkept, hlen, hshort, hsl, htl, hsf, hte, hv6, hv7⟩ := id hI
    try simp only at hk16 hat hlog hheld hk0 hkb hgen hused hkept hlen hshort hsl htl hsf hte hv6 hv7
    refine JC.seq (fun K11 hK11 => ?_)
    refine JC.seq (fun K12 hK12 => ?_)
    by_cases ya : k ≤ ks.length
    · skip
      by_cases yb : k < 16
      · skip
        refine JC.region ?_
        refine J.move rfl rfl ?_
        refine J.move rfl rfl ?_
        refine J.lenS rfl Ty.u33 rfl rfl ?_
        refine J.bin rfl rfl rfl rfl ?_
        refine J.name 31 rfl (show _ = Value.bool true by simp; omega) ?_
        refine J.move rfl rfl ?_
        first | refine J.skip rfl rfl rfl rfl rfl ?_ | refine J.skipU rfl rfl rfl rfl ?_ | (refine J.unguard rfl rfl rfl ?_; refine J.move rfl rfl ?_)
        refine J.unguard rfl rfl rfl ?_
        refine J.bin rfl rfl rfl rfl ?_
        refine J.name 34 rfl (show _ = Value.bool true by simp; omega) ?_
        (first | refine J.pickT rfl rfl rfl ?_ | refine J.pickF rfl rfl rfl ?_)
        refine J.nil ?_
        refine JX.thenN (hK12 _ _ ?_)
        first | refine JC.condT rfl ?_ | refine JC.cond rfl (fun _ => ?_) (fun h => by first | (exfalso; simp at h; omega) | (simp at h))
        refine JC.skip ?_
        refine JX.thenN (hK11 _ _ ?_)
        refine JC.seq (fun K13 hK13 => ?_)
        refine JC.block ?_
        refine JC.seq (fun K14 hK14 => ?_)
        refine JC.region ?_
        refine J.move rfl rfl ?_
        refine J.perm ([(d, dkO s 900 σ.p σ.k)] ++ ((s, dkS σ.B) :: (l6 ++ l7))) (by (refine perm_cnt (fun _ => ?_)); simp only [cntB_append, cntB_cons, cntB_nil, Nat.add_zero, Nat.zero_add]; try ac_rfl) ?_
        refine J.callT (v := .tuple #[]) (L := [(d, dkO s 900 (-1) σ.k)]) Ty.bd16 rfl rfl (fun w1 hw => by have h9 := power_spec d s 900 σ.p σ.k (-1) w1 (St.owns hw); rw [show max (-1) (-1) = (-1) by omega] at h9; exact h9) ?_
        refine J.nil ?_
        refine JX.thenN (hK14 _ _ ?_)
        refine JC.seq (fun K15 hK15 => ?_)
        refine JC.region ?_
        refine J.move rfl rfl ?_
        obtain ⟨Q1, σ1, hO1, hI1, hh1, hQg, hQu, hp1, hk1, hk2⟩ := reopen hlog hheld (by omega) (by omega) (by omega)
        refine J.perm ([(d, dkO s 900 (-1) σ.k), (s, dkS σ.B)] ++ (l6 ++ l7)) (by (refine perm_cnt (fun _ => ?_)); simp only [cntB_append, cntB_cons, cntB_nil, Nat.add_zero, Nat.zero_add]; try ac_rfl) ?_
        refine J.callS (α := VO) (V := VO.val) (Pr := fun z => z.Pr 900 ⟨σ.B, -1, σ.k⟩) (L := fun z => z.lst d s 900) Ty.bd17 rfl rfl (fun w1 hw => vopen_spec d s 900 σ.B (-1) σ.k w1 (St.owns hw) hlog.len (by omega) hk0 (by omega) (by omega)) (fun z hz => ?_)
        rcases z with ⟨ez, sz⟩ | ⟨v1, m1, l1, q1, inc1, L1, es1, ck1, sz⟩
        · exact absurd (congrArg (fun x => x.1) (hz.1.symm.trans hO1)) hz.2
        obtain ⟨hz1, hT1, hV1⟩ := hz
        rw [hO1] at hz1
        simp only [Prod.mk.injEq, Option.some.injEq, true_and] at hz1
        obtain ⟨⟨rfl, rfl, hL1⟩, rfl⟩ := hz1
        subst hL1
        have hkp1 := hkept.to
        have hln1 : L1.length ≤ at_ := by rw [List.length_map] at hlen; exact hlen
        have hsh1 : ∀ x, x ∈ L1 → x.bs.length ≤ 64 := fun x hx => hshort x.it (List.mem_map.2 ⟨x, hx, rfl⟩)
        have hsubL : ∀ x, x ∈ L1 → ∀ p, p ∈ x.lp → p ∈ lpsH L1 := fun x hx p hp => List.mem_flatMap.2 ⟨x, hx, hp⟩
        refine J.name 42 rfl (show _ = Value.tuple #[.pointer (some ⟨v1, 0, none⟩), .int .i64 0] from rfl) ?_
        refine J.perm ((v1, vaO (.pointer (some ⟨l1, 0, none⟩)) m1 (((k + 1) : Nat) : Int)) :: (m1, .map es1 ck1) :: (l1, lgO d Q1 false) :: (d, dkO s 900 σ1.p σ1.k) :: (s, dkS σ1.B) :: (lpsH L1 ++ (l6 ++ l7))) (by simp only [VO.lst]; exact (by (refine perm_cnt (fun _ => ?_)); simp only [cntB_append, cntB_cons, cntB_nil, Nat.add_zero, Nat.zero_add]; try ac_rfl)) ?_
        refine J.move rfl rfl ?_
        refine J.extract rfl rfl rfl ?_
        refine J.extract rfl rfl rfl ?_
        refine J.assign rfl rfl ?_
        refine J.assign rfl rfl ?_
        refine J.nil ?_
        refine JX.thenN (hK15 _ _ ?_)
        refine JC.seq (fun K16 hK16 => ?_)
        refine JC.seq (fun K17 hK17 => ?_)
        refine JC.region ?_
        refine J.move rfl rfl ?_
        refine J.eqNil Ty.u38 rfl rfl rfl ?_
        refine J.move rfl rfl ?_
        first | refine J.skip rfl rfl rfl rfl rfl ?_ | refine J.skipU rfl rfl rfl rfl ?_ | (refine J.unguard rfl rfl rfl ?_; refine J.move rfl rfl ?_)
        refine J.unguard rfl rfl rfl ?_
        refine J.bin rfl rfl rfl rfl ?_
        refine J.name 49 rfl (show _ = Value.bool false by simp) ?_
        (first | refine J.pickT rfl rfl rfl ?_ | refine J.pickF rfl rfl rfl ?_)
        refine J.move rfl rfl ?_
        first | refine J.skip rfl rfl rfl rfl rfl ?_ | refine J.skipU rfl rfl rfl rfl ?_ | (refine J.unguard rfl rfl rfl ?_; refine J.move rfl rfl ?_)
        first | refine J.skip rfl rfl rfl rfl rfl ?_ | refine J.skipU rfl rfl rfl rfl ?_ | (refine J.unguard rfl rfl rfl ?_; refine J.move rfl rfl ?_)
        first | refine J.skip rfl rfl rfl rfl rfl ?_ | refine J.skipU rfl rfl rfl rfl ?_ | (refine J.unguard rfl rfl rfl ?_; refine J.move rfl rfl ?_)
        refine J.unguard rfl rfl rfl ?_
        refine J.perm ([(v1, vaO (.pointer (some ⟨l1, 0, none⟩)) m1 ((k + 1 : Nat) : Int)), (m1, .map es1 ck1)] ++ ((l1, lgO d Q1 false) :: (d, dkO s 900 σ1.p σ1.k) :: (s, dkS σ1.B) :: (lpsH L1 ++ (l6 ++ l7)))) (.refl _) ?_
        refine J.callB (v := .bool true) (fun w1 w2 hw hb => hw.step hb) Ty.bd23 rfl rfl (fun w1 hw => holds_spec v1 m1 _ _ L1 es1 ck1 hT1 hV1 (by omega) _ _ sure tried w1 (St.owns hw) (fun x hx => ⟨vec_rowM (hV1 x hx).2 hw (fun p hp => by simp [hsubL x hx p hp]), vec_offM (hV1 x hx).2 (fun p0 hp0 => St.off (l1 := [(v1, vaO (.pointer (some ⟨l1, 0, none⟩)) m1 ((k + 1 : Nat) : Int)), (m1, .map es1 ck1)]) hw (o := p0.2) (by simp [hsubL x hx p0 hp0])), by have := hsh1 x hx; omega⟩) (vec_rowM hv6 hw (fun q hq => by first | (simp [hq]; done) | (simp at hq; simp [hq]; done) | (simp at hq; subst hq; simp))) hsf (by omega) hkp1.sure (vec_rowM hv7 hw (fun q hq => by first | (simp [hq]; done) | (simp at hq; simp [hq]; done) | (simp at hq; subst hq; simp))) (fun x hx => ⟨(hte x hx).1, (hte x hx).2.1.below (hw.drop (List.nil_sublist _)).below, (hte x hx).2.2⟩) (by omega) hkp1.tried) ?_
        first | refine J.skip rfl rfl rfl rfl rfl ?_ | refine J.skipU rfl rfl rfl rfl ?_ | (refine J.unguard rfl rfl rfl ?_; refine J.not rfl rfl ?_)
        (first | refine J.pickT rfl rfl rfl ?_ | refine J.pickF rfl rfl rfl ?_)
        refine J.nil ?_
        refine JX.thenN (hK17 _ _ ?_)
        first | refine JC.condF rfl ?_ | refine JC.cond rfl (fun h => by first | (exfalso; simp at h; omega) | (simp at h)) (fun _ => ?_)
        refine JC.skip ?_
        refine JX.thenN (hK16 _ _ ?_)
        refine JC.seqCut (α := Int) (fun p1 => [(0, .slice ai xs.length ci), (1, .slice aj ks.length cj), (5, .pointer (some ⟨d, 0, none⟩)), (6, v6), (7, v7), (8, .int .i64 ((at_ : Nat) : Int)), (9, .int .i64 ((k : Nat) : Int)), (10, .pointer (some ⟨v1, 0, none⟩))]) (fun p1 w' => (p1 < 100) ∧ St w [] ((v1, vaO (.pointer (some ⟨l1, 0, none⟩)) m1 (((k + 1) : Nat) : Int)) :: (m1, .map es1 ck1) :: (l1, lgO d Q1 false) :: (d, dkO s 900 p1 σ1.k) :: (s, dkS σ1.B) :: (lpsH L1 ++ (l6 ++ l7))) w') (fun p1 => ?_) (fun K18 hK18 => ?_)
        · skip
          refine JC.pr (fun hp100 => ?_)
          refine JC.block ?_
          refine JC.conseq (JC.cov (f := (fun st => [(0, .slice ai xs.length ci), (1, .slice aj ks.length cj), (5, .pointer (some ⟨d, 0, none⟩)), (6, st.v6), (7, st.v7), (8, .int .i64 ((st.at_ : Nat) : Int)), (9, .int .i64 ((k : Nat) : Int)), (10, .pointer (some ⟨v1, 0, none⟩))]) (⟨at_, Q1, false, ⟨σ1.B, p1, σ1.k⟩, L1, es1, ck1, sure, tried, v6, l6, v7, l7⟩ : KqS)) ⟨rfl, rfl, rfl, rfl, rfl, rfl, rfl, rfl, trivial⟩ (JC.loop (α := KqS) (fun st => [(0, .slice ai xs.length ci), (1, .slice aj ks.length cj), (5, .pointer (some ⟨d, 0, none⟩)), (6, st.v6), (7, st.v7), (8, .int .i64 ((st.at_ : Nat) : Int)), (9, .int .i64 ((k : Nat) : Int)), (10, .pointer (some ⟨v1, 0, none⟩))]) (fun st w' => KqI w k st ∧ St w [] ((v1, vaO (.pointer (some ⟨l1, 0, none⟩)) m1 (((k + 1) : Nat) : Int)) :: (m1, .map st.es st.ck) :: (l1, lgO d st.q st.dn) :: (d, dkO s 900 st.σ.p st.σ.k) :: (s, dkS st.σ.B) :: (lpsH st.L ++ (st.l6 ++ st.l7))) w') (fun st => 60 - st.at_) (⟨at_, Q1, false, ⟨σ1.B, p1, σ1.k⟩, L1, es1, ck1, sure, tried, v6, l6, v7, l7⟩ : KqS) (fun st => ?_))) (fun w hw => ⟨⟨hat, hI1.power p1 (by omega), hh1, by simp only; omega, by simp only; omega, by simp only; omega, by simp only; omega, hT1, hV1, hln1, hsh1, hkp1, hsl, htl, hsf, hte, hv6, hv7⟩, hw⟩)
          obtain ⟨at2, q2, dn2, σ2, L2, es2, ck2, sure2, tried2, v62, l62, v72, l72⟩ := st
          refine JC.pr (fun hI2 => ?_)
          try simp only
          obtain ⟨gat, glog, gheld, gk0, gkb, ggen, gused, gvm, gok, glen, gshort, gkept, gsl, gtl, gsf, gte, gv6, gv7⟩ := id hI2
          try simp only at gat glog gheld gk0 gkb ggen gused gvm gok glen gshort gkept gsl gtl gsf gte gv6 gv7
          refine JC.seq (fun K19 hK19 => ?_)
          refine JC.seq (fun K20 hK20 => ?_)
          by_cases xa : at2 < xs.length
          · skip
            by_cases xb : at2 < 60
            · skip
              by_cases xc : dn2 = false
              · skip
                refine JC.region ?_
                refine J.move rfl rfl ?_
                refine J.move rfl rfl ?_
                refine J.lenS rfl Ty.u44 rfl rfl ?_
                refine J.bin rfl rfl rfl rfl ?_
                refine J.name 74 rfl (show _ = Value.bool true by simp; omega) ?_
                refine J.move rfl rfl ?_
                first | refine J.skip rfl rfl rfl rfl rfl ?_ | refine J.skipU rfl rfl rfl rfl ?_ | (refine J.unguard rfl rfl rfl ?_; refine J.move rfl rfl ?_)
                refine J.unguard rfl rfl rfl ?_
                refine J.bin rfl rfl rfl rfl ?_
                refine J.name 77 rfl (show _ = Value.bool true by simp; omega) ?_
                (first | refine J.pickT rfl rfl rfl ?_ | refine J.pickF rfl rfl rfl ?_)
                refine J.move rfl rfl ?_
                first | refine J.skip rfl rfl rfl rfl rfl ?_ | refine J.skipU rfl rfl rfl rfl ?_ | (refine J.unguard rfl rfl rfl ?_; refine J.move rfl rfl ?_)
                refine J.unguard rfl rfl rfl ?_
                refine J.callB (v := .bool false) (fun w1 w2 hw hb => hw.step hb) Ty.bd25 rfl rfl (fun w1 hw => by have h9 := vdown_spec v1 m1 l1 d q2 dn2 _ w1 (l := (m1, .map es2 ck2) :: (d, dkO s 900 σ2.p σ2.k) :: (s, dkS σ2.B) :: (lpsH L2 ++ (l62 ++ l72))) (St.owns' (hw.perm (by (refine perm_cnt (fun _ => ?_)); simp only [cntB_append, cntB_cons, cntB_nil, Nat.add_zero, Nat.zero_add]; try ac_rfl))); rw [show dn2 = false by first | assumption | (cases dn2 <;> simp_all)] at h9; exact h9) ?_
                first | refine J.skip rfl rfl rfl rfl rfl ?_ | refine J.skipU rfl rfl rfl rfl ?_ | (refine J.unguard rfl rfl rfl ?_; refine J.not rfl rfl ?_)
                (first | refine J.pickT rfl rfl rfl ?_ | refine J.pickF rfl rfl rfl ?_)
                refine J.nil ?_
                refine JX.thenN (hK20 _ _ ?_)
                first | refine JC.condT rfl ?_ | refine JC.cond rfl (fun _ => ?_) (fun h => by first | (exfalso; simp at h; omega) | (simp at h))
                refine JC.skip ?_
                refine JX.thenN (hK19 _ _ ?_)
                refine JC.seq (fun K21 hK21 => ?_)
                refine JC.block ?_
                refine JC.seq (fun K22 hK22 => ?_)
                refine JC.region ?_
                refine J.move rfl rfl ?_
                refine J.move rfl rfl ?_
                obtain ⟨x, hxg⟩ : ∃ x, xs[at2]? = some x := ⟨_, List.getElem?_eq_getElem xa⟩
                obtain ⟨⟨ax, cx, hsx⟩, hxr, hxn, hxl⟩ := he x (List.mem_of_getElem? hxg)
                obtain ⟨kx, vx, bx, sx, lx⟩ := x
                simp only at hsx hxr hxn hxl
                subst hsx
                obtain ⟨q1, o1, c1', hv1, -, -⟩ := hr.some (by rw [cHs_len]; omega)
                simp only [Value.slice.injEq] at hv1
                obtain ⟨rfl, -, -⟩ := hv1
                refine J.indexAddrS Ty.el44 Ty.s28 rfl rfl (by omega) (by omega) rfl ?_
                refine J.loadA (vs := (cT kx vx (.slice ax bx.length cx))) Ty.a28 Ty.s28 rfl rfl (fun w1 hw => rowG_at (c := cH) (sz := 34) (fun _ => rfl) (hr.below (hw.drop (List.nil_sublist _)).below) hxg (by rw [Int.toNat_natCast])) rfl ?_
                refine J.alloc Ty.zIt rfl rfl (fun b12 => ?_)
                refine J.storeW (cs := cH zH) (vs := (cT kx vx (.slice ax bx.length cx))) Ty.s28 rfl rfl rfl rfl rfl one_cT .here ?_
                refine J.nil ?_
                refine JX.thenN (hK22 _ _ ?_)
                refine JC.seq (fun K23 hK23 => ?_)
                refine JC.region ?_
                refine J.fieldAddr Ty.fd28_1 rfl rfl ?_
                refine J.fieldAddr Ty.fd25_0 rfl rfl ?_
                refine J.load1 (v := .int .i64 vx.n) Ty.a2 rfl (fun w1 hw => by rw [cell_of (hw.own ((b12, cb (cT kx vx (.slice ax bx.length cx)) 28)) (by repeat first | exact .head _ | apply List.Mem.tail | apply List.mem_append_right))]; rfl) rfl ?_
                refine J.bin (v := .int .i64 (vx.n.tmod 2)) rfl rfl (by simp [binI]) rfl ?_
                refine J.bin rfl rfl rfl rfl ?_
                refine J.nil ?_
                refine JX.thenN (hK23 _ _ ?_)
                refine JC.cond rfl (fun h5 => ?_) (fun h5 => ?_)
                · skip
                  try simp only [decide_eq_true_eq, decide_eq_false_iff_not, beq_iff_eq, bne_iff_ne, bne_eq_false_iff_eq, ne_eq, beq_eq_false_iff_ne, Bool.not_eq_true, Bool.not_eq_false, Int.not_lt, Int.not_le] at h5
                  refine JC.seq (fun K24 hK24 => ?_)
                  refine JC.region ?_
                  refine J.move rfl rfl ?_
                  refine J.fieldAddr Ty.fd28_0 rfl rfl ?_
                  refine J.loadA (vs := cI kx) Ty.a23 Ty.s23 rfl rfl (fun w1 hw => Cells.of_block (hw.own ((b12, cb (cT kx vx (.slice ax bx.length cx)) 28)) (by repeat first | exact .head _ | apply List.Mem.tail | apply List.mem_append_right)) rfl) rfl ?_
                  obtain ⟨O, hO⟩ : ∃ o, (hget L2 kx).getD zH = o := ⟨_, rfl⟩
                  obtain ⟨K, hK⟩ : ∃ o, (hget L2 kx).isSome = o := ⟨_, rfl⟩
                  have hOs := old_short gshort kx
                  have hOn := gok.okn kx
                  rw [hO] at hOs hOn
                  obtain ⟨hOn1, hOn2⟩ := hOn
                  refine J.perm ([(v1, vaO (.pointer (some ⟨l1, 0, none⟩)) m1 ((k + 1 : Nat) : Int)), (m1, .map es2 ck2)] ++ ((b12, cb (cT kx vx (.slice ax bx.length cx)) 28) :: (l1, lgO d q2 dn2) :: (d, dkO s 900 σ2.p σ2.k) :: (s, dkS σ2.B) :: (lpsH L2 ++ (l62 ++ l72)))) (by (refine perm_cnt (fun _ => ?_)); simp only [cntB_append, cntB_cons, cntB_nil, Nat.add_zero, Nat.zero_add]; try ac_rfl) ?_
                  refine J.callS (α := Value × List (Nat × Obj)) (V := fun z => .tuple #[.agg (cT O.key O.ver z.1).toArray, .bool K]) (Pr := fun z => Vec 5 1 z.1 (O.bs).length ((O.bs).map u8) z.2) (L := fun z => z.2 ++ [(v1, vaO (.pointer (some ⟨l1, 0, none⟩)) m1 ((k + 1 : Nat) : Int)), (m1, .map es2 ck2)]) Ty.bd22 rfl rfl (fun w1 hw => vget_spec v1 m1 _ _ L2 es2 ck2 gvm gok kx O K w1 (St.owns hw) hO hK (by have h9 := old_row gok hw (fun p hp => by simp [hp]) kx; rw [hO] at h9; exact h9) (by have h9 := old_off gok (T := [v1, m1]) (fun p0 hp0 => St.off (l1 := [(v1, vaO (.pointer (some ⟨l1, 0, none⟩)) m1 ((k + 1 : Nat) : Int)), (m1, .map es2 ck2)]) hw (o := p0.2) (by simp [hp0])) kx; rw [hO] at h9; exact h9) (by omega)) (fun z hz => ?_)
                  obtain ⟨vg, lg⟩ := z
                  try simp only at hz ⊢
                  obtain ⟨ag, cg, rfl, hcg⟩ := hz.form
                  refine J.move rfl rfl ?_
                  refine J.extract rfl rfl rfl ?_
                  refine J.extract rfl rfl rfl ?_
                  refine J.alloc Ty.zIt rfl rfl (fun b13 => ?_)
                  refine J.storeW (cs := cH zH) (vs := (cT O.key O.ver (.slice ag O.bs.length cg))) Ty.s28 rfl rfl rfl rfl rfl one_cT .here ?_
                  refine J.assign rfl rfl ?_
                  refine J.nil ?_
                  refine JX.thenN (hK24 _ _ ?_)
                  refine JC.seq (fun K25 hK25 => ?_)
                  refine JC.region ?_
                  refine J.move rfl rfl ?_
                  refine J.fieldAddr Ty.fd28_0 rfl rfl ?_
                  refine J.loadA (vs := cI kx) Ty.a23 Ty.s23 rfl rfl (fun w1 hw => Cells.of_block (hw.own ((b12, cb (cT kx vx (.slice ax bx.length cx)) 28)) (by repeat first | exact .head _ | apply List.Mem.tail | apply List.mem_append_right)) rfl) rfl ?_
                  refine J.fieldAddr Ty.fd28_2 rfl rfl ?_
                  refine J.load1 (v := (.slice ax bx.length cx)) Ty.a26 rfl (fun w1 hw => by rw [cell_of (hw.own ((b12, cb (cT kx vx (.slice ax bx.length cx)) 28)) (by repeat first | exact .head _ | apply List.Mem.tail | apply List.mem_append_right))]; rfl) rfl ?_
                  refine J.fieldAddr Ty.fd28_1 rfl rfl ?_
                  refine J.fieldAddr Ty.fd25_1 rfl rfl ?_
                  refine J.loadA (vs := cI vx.who) Ty.a23 Ty.s23 rfl rfl (fun w1 hw => Cells.of_block (hw.own ((b12, cb (cT kx vx (.slice ax bx.length cx)) 28)) (by repeat first | exact .head _ | apply List.Mem.tail | apply List.mem_append_right)) rfl) rfl ?_
                  refine J.perm (vltB v1 m1 l1 d s 900 q2 dn2 (k + 1) es2 ck2 ⟨σ2.B, σ2.p, σ2.k⟩ ++ ((b12, cb (cT kx vx (.slice ax bx.length cx)) 28) :: (b13, cb (cT O.key O.ver (.slice ag O.bs.length cg)) 28) :: (lg ++ (lpsH L2 ++ (l62 ++ l72))))) (by (refine perm_cnt (fun _ => ?_)); simp only [cntB_append, cntB_cons, cntB_nil, Nat.add_zero, Nat.zero_add]; try ac_rfl) ?_
                  refine J.callS (α := PutR) (V := PutR.val) (Pr := fun z => z.Pr 900 q2 dn2 ⟨σ2.B, σ2.p, σ2.k⟩ L2 kx bx vx.who) (L := fun z => z.lst v1 m1 l1 d s 900 (k + 1) es2 ck2) Ty.bd24 rfl rfl (fun w1 hw => vput_spec v1 m1 l1 d s 900 (k + 1) q2 dn2 σ2.B σ2.p σ2.k L2 es2 ck2 gvm gok glog (by omega) gk0 (by omega) kx vx.who bx _ w1 (St.owns hw) (hxr.below (hw.drop (List.nil_sublist _)).below) (row_off hxr hw (fun b hb => by simp only [List.map_append, List.map_cons, List.map_nil]; exact List.mem_append_left _ hb)) hxl) (fun z hz2 => ?_)
                  rcases z with ⟨ez, q9, dn9, σ9⟩ | ⟨h9, y9, ly9, es9, ck9, q9, dn9, σ9⟩
                  · skip
                    obtain ⟨hz1, hez⟩ := hz2
                    obtain ⟨g1, g2, g3, g4, g5, g6⟩ := put_log (by omega) glog (by omega) hz1
                    obtain rfl : q9 = q2 := by
                      rcases g6 with ⟨y, h1, _⟩ | ⟨_, _, h1⟩
                      · cases h1
                      · exact h1
                    try simp only at g2 g3
                    refine J.name 111 rfl (show _ = Value.tuple #[.agg (cH zH).toArray, .int .i64 ez] from rfl) ?_
                    refine J.perm ((b13, cb (cT O.key O.ver (.slice ag O.bs.length cg)) 28) :: (b12, cb (cT kx vx (.slice ax bx.length cx)) 28) :: (v1, vaO (.pointer (some ⟨l1, 0, none⟩)) m1 (((k + 1) : Nat) : Int)) :: (m1, .map es2 ck2) :: (l1, lgO d q9 dn9) :: (d, dkO s 900 σ9.p σ9.k) :: (s, dkS σ9.B) :: (lpsH L2 ++ (l62 ++ (l72 ++ (lg))))) (by simp only [PutR.lst]; exact (by (refine perm_cnt (fun _ => ?_)); simp only [cntB_append, cntB_cons, cntB_nil, Nat.add_zero, Nat.zero_add]; try ac_rfl)) ?_
                    refine J.move rfl rfl ?_
                    refine J.extract rfl rfl rfl ?_
                    refine J.extract rfl rfl rfl ?_
                    refine J.alloc Ty.zIt rfl rfl (fun b15 => ?_)
                    refine J.storeW (cs := cH zH) (vs := (cH zH)) (l' := (b15, cb (cH zH) 28) :: (b13, cb (cT O.key O.ver (.slice ag O.bs.length cg)) 28) :: (b12, cb (cT kx vx (.slice ax bx.length cx)) 28) :: (v1, vaO (.pointer (some ⟨l1, 0, none⟩)) m1 (((k + 1) : Nat) : Int)) :: (m1, .map es2 ck2) :: (l1, lgO d q9 dn9) :: (d, dkO s 900 σ9.p σ9.k) :: (s, dkS σ9.B) :: (lpsH L2 ++ (l62 ++ (l72 ++ (lg))))) Ty.s28 rfl rfl rfl rfl rfl (one_cH (x := zH) rfl) .here ?_
                    refine J.assign rfl rfl ?_
                    refine J.nil ?_
                    refine JX.thenN (hK25 _ _ ?_)
                    refine JC.seq (fun K26 hK26 => ?_)
                    refine JC.seq (fun K27 hK27 => ?_)
                    refine JC.region ?_
                    refine J.move rfl rfl ?_
                    refine J.bin rfl rfl rfl rfl ?_
                    refine J.name 115 rfl (show _ = Value.bool false by simp [hez]) ?_
                    refine J.nil ?_
                    refine JX.thenN (hK27 _ _ ?_)
                    first | refine JC.condF rfl ?_ | refine JC.cond rfl (fun h => by first | (exfalso; simp at h; omega) | (simp at h)) (fun _ => ?_)
                    refine JC.skip ?_
                    refine JX.thenN (hK26 _ _ ?_)
                    refine JC.region ?_
                    refine J.move rfl rfl ?_
                    refine J.fieldAddr Ty.fd28_0 rfl rfl ?_
                    refine J.loadA (vs := cI kx) Ty.a23 Ty.s23 rfl rfl (fun w1 hw => Cells.of_block (hw.own ((b12, cb (cT kx vx (.slice ax bx.length cx)) 28)) (by repeat first | exact .head _ | apply List.Mem.tail | apply List.mem_append_right)) rfl) rfl ?_
                    refine J.fieldAddr Ty.fd28_1 rfl rfl ?_
                    refine J.fieldAddr Ty.fd25_0 rfl rfl ?_
                    refine J.load1 (v := .int .i64 O.ver.n) Ty.a2 rfl (fun w1 hw => by rw [cell_of (hw.own ((b13, cb (cT O.key O.ver (.slice ag O.bs.length cg)) 28)) (by repeat first | exact .head _ | apply List.Mem.tail | apply List.mem_append_right))]; rfl) rfl ?_
                    refine J.addN rfl rfl (by omega) (by omega) rfl ?_
                    refine J.fieldAddr Ty.fd28_1 rfl rfl ?_
                    refine J.fieldAddr Ty.fd25_1 rfl rfl ?_
                    refine J.loadA (vs := cI vx.who) Ty.a23 Ty.s23 rfl rfl (fun w1 hw => Cells.of_block (hw.own ((b12, cb (cT kx vx (.slice ax bx.length cx)) 28)) (by repeat first | exact .head _ | apply List.Mem.tail | apply List.mem_append_right)) rfl) rfl ?_
                    refine J.buildS (cs := cV ⟨O.ver.n + 1, vx.who⟩) Ty.pl25 Ty.zVr rfl (by kernel_rfl) rfl ?_
                    refine J.fieldAddr Ty.fd28_2 rfl rfl ?_
                    refine J.load1 (v := (.slice ax bx.length cx)) Ty.a26 rfl (fun w1 hw => by rw [cell_of (hw.own ((b12, cb (cT kx vx (.slice ax bx.length cx)) 28)) (by repeat first | exact .head _ | apply List.Mem.tail | apply List.mem_append_right))]; rfl) rfl ?_
                    refine J.buildS (cs := (cT kx ⟨O.ver.n + 1, vx.who⟩ (.slice ax bx.length cx))) Ty.pl28 Ty.zIt rfl (by kernel_rfl) rfl ?_
                    refine J.buildSl (cs := (cT kx ⟨O.ver.n + 1, vx.who⟩ (.slice ax bx.length cx))) Ty.el44 Ty.s28 Ty.zIt rfl rfl rfl rfl (by kernel_rfl) rfl rfl (fun b134 => ?_)
                    refine J.perm (l72 ++ ((b134, cb (cT kx ⟨O.ver.n + 1, vx.who⟩ (.slice ax bx.length cx)) 28) :: (b15, cb (cH zH) 28) :: (b13, cb (cT O.key O.ver (.slice ag O.bs.length cg)) 28) :: (b12, cb (cT kx vx (.slice ax bx.length cx)) 28) :: (v1, vaO (.pointer (some ⟨l1, 0, none⟩)) m1 (((k + 1) : Nat) : Int)) :: (m1, .map es2 ck2) :: (l1, lgO d q9 dn9) :: (d, dkO s 900 σ9.p σ9.k) :: (s, dkS σ9.B) :: (lpsH L2 ++ (l62 ++ (lg))))) (by (refine perm_cnt (fun _ => ?_)); simp only [cntB_append, cntB_cons, cntB_nil, Nat.add_zero, Nat.zero_add]; try ac_rfl) ?_
                    refine J.append (lp := l72) (xs := tried2.flatMap cH) (ys := (cT kx ⟨O.ver.n + 1, vx.who⟩ (.slice ax bx.length cx))) (k := tried2.length) (m := 1) Ty.el44 Ty.s28 Ty.b28 Ty.zIt rfl (.inl ⟨28, Ty.u44⟩) rfl rfl gv7 (fun w1 hw => .inl (Row.own (cs := (cT kx ⟨O.ver.n + 1, vx.who⟩ (.slice ax bx.length cx))) (tb := 28) (fr := (0, 0)) hw (List.mem_append_right _ (.head _)) (List.take_of_length_le (Nat.le_refl _)) (Nat.le_refl _))) rfl one_cT (by omega) (by omega) rfl (fun v135 l135 hv135 => ?_)
                    rw [show tried2.flatMap cH ++ (cT kx ⟨O.ver.n + 1, vx.who⟩ (.slice ax bx.length cx)) = (tried2 ++ [(⟨kx, ⟨O.ver.n + 1, vx.who⟩, bx, .slice ax bx.length cx, lx⟩ : HI)]).flatMap cH by rw [List.flatMap_append]; rfl, show tried2.length + 1 = (tried2 ++ [(⟨kx, ⟨O.ver.n + 1, vx.who⟩, bx, .slice ax bx.length cx, lx⟩ : HI)]).length by rw [List.length_append]; rfl] at hv135
                    refine J.assign rfl rfl ?_
                    refine J.nil ?_
                    refine JX.blockN ?_
                    refine JX.thenN (hK21 _ _ ?_)
                    refine JC.region ?_
                    refine J.move rfl rfl ?_
                    (first | refine J.addN rfl rfl (by omega) (by omega) rfl ?_ | refine J.bin rfl rfl rfl rfl ?_)
                    refine J.assign rfl rfl ?_
                    refine J.nil ?_
                    refine JX.thenN ?_
                    refine JX.again (⟨at2 + 1, q9, dn9, σ9, L2, es2, ck2, sure2, (tried2 ++ [⟨kx, ⟨O.ver.n + 1, vx.who⟩, bx, .slice ax bx.length cx, lx⟩]), v62, l62, v135, l135⟩ : KqS) ?_ ?_ ?_
                    · simp only; omega
                    · exact ⟨rfl, rfl, rfl, rfl, rfl, rfl, rfl, rfl, trivial⟩
                    · exact fun w1 hw => ⟨⟨by simp only; omega, g1, gheld, by simp only; omega, by simp only; omega, by simp only; omega, by simp only; omega, gvm, gok, by simp only; omega, gshort, gkept.more ⟨kx, ⟨O.ver.n + 1, vx.who⟩, bx, .slice ax bx.length cx, lx⟩, by simp only; omega, len_snoc gtl, gsf, in_snoc gte ⟨⟨_, _, rfl⟩, hxr, okN_up (by simp only; omega) (by simp only; omega)⟩, gv6, hv135⟩, (hw.perm (by (refine perm_cnt (fun _ => ?_)); simp only [cntB_append, cntB_cons, cntB_nil, Nat.add_zero, Nat.zero_add]; try ac_rfl : List.Perm _ ((lg ++ (((b134, cb (cT kx ⟨O.ver.n + 1, vx.who⟩ (.slice ax bx.length cx)) 28) :: (b15, cb (cH zH) 28) :: (b13, cb (cT O.key O.ver (.slice ag O.bs.length cg)) 28) :: (b12, cb (cT kx vx (.slice ax bx.length cx)) 28) :: []))) ++ ((v1, vaO (.pointer (some ⟨l1, 0, none⟩)) m1 (((k + 1) : Nat) : Int)) :: (m1, .map es2 ck2) :: (l1, lgO d q9 dn9) :: (d, dkO s 900 σ9.p σ9.k) :: (s, dkS σ9.B) :: (lpsH L2 ++ (l62 ++ l135)))))).drop (List.sublist_append_right _ _)⟩
                  · skip
                    obtain ⟨hz1, hz3, hyv, hz4⟩ := hz2
                    obtain ⟨g1, g2, g3, g4, g5, g6⟩ := put_log (by omega) glog (by omega) hz1
                    obtain ⟨hpe, hit, hnew⟩ := put_new gok hz1
                    rw [hO] at hpe
                    try simp only at g2 g3
                    obtain ⟨gr, gu, gl⟩ : q9.recs = q2.recs ++ [formB h9.it] ∧ q9.used = q2.used + needN (formB h9.it).length ∧ h9.it.bs.length ≤ 64 := by
                      rcases g6 with ⟨y, h1, _, h2, h3, h4, h5⟩ | ⟨h1, _⟩
                      · cases h1; exact ⟨h3, h4, by rw [h2]; exact h5⟩
                      · cases h1
                    have gn := form_need gl
                    obtain ⟨k9, w9, b9, s9, l9⟩ := h9
                    simp only [HI.it, ItV.mk.injEq] at hpe hz3 hyv gl hit hnew gr gu gn hz4
                    obtain ⟨hpe1, hpe2, hpe3⟩ := hpe
                    obtain rfl := hpe1.symm
                    obtain rfl := hpe3.symm
                    subst hpe2
                    obtain ⟨ay, cy, rfl, hcy⟩ := hyv.form
                    have hsl9 := hset_len L2 ⟨kx, ⟨O.ver.n + 1, vx.who⟩, bx, s9, l9⟩
                    have hheld9 : heldV q9.recs = some (k + 1, (hset L2 ⟨kx, ⟨O.ver.n + 1, vx.who⟩, bx, s9, l9⟩).map HI.it) := by rw [gr, held_item gheld hit, take_set hnew, hset_it]; rfl
                    refine J.name 111 rfl (show _ = Value.tuple #[.agg (cT kx ⟨O.ver.n + 1, vx.who⟩ (.slice ay bx.length cy)).toArray, .int .i64 0] from rfl) ?_
                    refine J.conseq (I' := St w [] ((b13, cb (cT O.key O.ver (.slice ag O.bs.length cg)) 28) :: (b12, cb (cT kx vx (.slice ax bx.length cx)) 28) :: (v1, vaO (.pointer (some ⟨l1, 0, none⟩)) m1 (((k + 1) : Nat) : Int)) :: (m1, .map es9 ck9) :: (l1, lgO d q9 dn9) :: (d, dkO s 900 σ9.p σ9.k) :: (s, dkS σ9.B) :: (lpsH (hset L2 ⟨kx, ⟨O.ver.n + 1, vx.who⟩, bx, s9, l9⟩) ++ (l62 ++ (l72 ++ (lg ++ (ly9))))))) ?_ (fun w1 hw => (by simp only [PutR.lst] at hw; exact ((hset_sub gvm.nodup ⟨kx, ⟨O.ver.n + 1, vx.who⟩, bx, s9, l9⟩).st (hw.perm (by (refine perm_cnt (fun _ => ?_)); simp only [cntB_append, cntB_cons, cntB_nil, Nat.add_zero, Nat.zero_add]; try ac_rfl : List.Perm _ ((l9 ++ lpsH L2) ++ ((b13, cb (cT O.key O.ver (.slice ag O.bs.length cg)) 28) :: (b12, cb (cT kx vx (.slice ax bx.length cx)) 28) :: (v1, vaO (.pointer (some ⟨l1, 0, none⟩)) m1 (((k + 1) : Nat) : Int)) :: (m1, .map es9 ck9) :: (l1, lgO d q9 dn9) :: (d, dkO s 900 σ9.p σ9.k) :: (s, dkS σ9.B) :: (l62 ++ (l72 ++ (lg ++ ly9)))))))).perm (by (refine perm_cnt (fun _ => ?_)); simp only [cntB_append, cntB_cons, cntB_nil, Nat.add_zero, Nat.zero_add]; try ac_rfl)))
                    refine J.move rfl rfl ?_
                    refine J.extract rfl rfl rfl ?_
                    refine J.extract rfl rfl rfl ?_
                    refine J.alloc Ty.zIt rfl rfl (fun b15 => ?_)
                    refine J.storeW (cs := cH zH) (vs := (cT kx ⟨O.ver.n + 1, vx.who⟩ (.slice ay bx.length cy))) (l' := (b15, cb (cT kx ⟨O.ver.n + 1, vx.who⟩ (.slice ay bx.length cy)) 28) :: (b13, cb (cT O.key O.ver (.slice ag O.bs.length cg)) 28) :: (b12, cb (cT kx vx (.slice ax bx.length cx)) 28) :: (v1, vaO (.pointer (some ⟨l1, 0, none⟩)) m1 (((k + 1) : Nat) : Int)) :: (m1, .map es9 ck9) :: (l1, lgO d q9 dn9) :: (d, dkO s 900 σ9.p σ9.k) :: (s, dkS σ9.B) :: (lpsH (hset L2 ⟨kx, ⟨O.ver.n + 1, vx.who⟩, bx, s9, l9⟩) ++ (l62 ++ (l72 ++ (lg ++ (ly9)))))) Ty.s28 rfl rfl rfl rfl rfl one_cT .here ?_
                    refine J.assign rfl rfl ?_
                    refine J.nil ?_
                    refine JX.thenN (hK25 _ _ ?_)
                    refine JC.seq (fun K28 hK28 => ?_)
                    refine JC.seq (fun K29 hK29 => ?_)
                    refine JC.region ?_
                    refine J.move rfl rfl ?_
                    refine J.bin rfl rfl rfl rfl ?_
                    refine J.name 115 rfl (show _ = Value.bool true by simp) ?_
                    refine J.nil ?_
                    refine JX.thenN (hK29 _ _ ?_)
                    first | refine JC.condT rfl ?_ | refine JC.cond rfl (fun _ => ?_) (fun h => by first | (exfalso; simp at h; omega) | (simp at h))
                    refine JC.region ?_
                    refine J.move rfl rfl ?_
                    refine J.loadA (vs := (cT kx ⟨O.ver.n + 1, vx.who⟩ (.slice ay bx.length cy))) Ty.a28 Ty.s28 rfl rfl (fun w1 hw => Cells.of_block (hw.own ((b15, cb (cT kx ⟨O.ver.n + 1, vx.who⟩ (.slice ay bx.length cy)) 28)) (by repeat first | exact .head _ | apply List.Mem.tail | apply List.mem_append_right)) rfl) rfl ?_
                    refine J.buildSl (cs := (cT kx ⟨O.ver.n + 1, vx.who⟩ (.slice ay bx.length cy))) Ty.el44 Ty.s28 Ty.zIt rfl rfl rfl rfl (by kernel_rfl) rfl rfl (fun b118 => ?_)
                    refine J.perm (l62 ++ ((b118, cb (cT kx ⟨O.ver.n + 1, vx.who⟩ (.slice ay bx.length cy)) 28) :: (b15, cb (cT kx ⟨O.ver.n + 1, vx.who⟩ (.slice ay bx.length cy)) 28) :: (b13, cb (cT O.key O.ver (.slice ag O.bs.length cg)) 28) :: (b12, cb (cT kx vx (.slice ax bx.length cx)) 28) :: (v1, vaO (.pointer (some ⟨l1, 0, none⟩)) m1 (((k + 1) : Nat) : Int)) :: (m1, .map es9 ck9) :: (l1, lgO d q9 dn9) :: (d, dkO s 900 σ9.p σ9.k) :: (s, dkS σ9.B) :: (lpsH (hset L2 ⟨kx, ⟨O.ver.n + 1, vx.who⟩, bx, s9, l9⟩) ++ (l72 ++ (lg ++ (ly9)))))) (by (refine perm_cnt (fun _ => ?_)); simp only [cntB_append, cntB_cons, cntB_nil, Nat.add_zero, Nat.zero_add]; try ac_rfl) ?_
                    refine J.append (lp := l62) (xs := sure2.flatMap cH) (ys := (cT kx ⟨O.ver.n + 1, vx.who⟩ (.slice ay bx.length cy))) (k := sure2.length) (m := 1) Ty.el44 Ty.s28 Ty.b28 Ty.zIt rfl (.inl ⟨28, Ty.u44⟩) rfl rfl gv6 (fun w1 hw => .inl (Row.own (cs := (cT kx ⟨O.ver.n + 1, vx.who⟩ (.slice ay bx.length cy))) (tb := 28) (fr := (0, 0)) hw (List.mem_append_right _ (.head _)) (List.take_of_length_le (Nat.le_refl _)) (Nat.le_refl _))) rfl one_cT (by omega) (by omega) rfl (fun v119 l119 hv119 => ?_)
                    rw [show sure2.flatMap cH ++ (cT kx ⟨O.ver.n + 1, vx.who⟩ (.slice ay bx.length cy)) = (sure2 ++ [(⟨kx, ⟨O.ver.n + 1, vx.who⟩, bx, .slice ay bx.length cy, ly9⟩ : HI)]).flatMap cH by rw [List.flatMap_append]; rfl, show sure2.length + 1 = (sure2 ++ [(⟨kx, ⟨O.ver.n + 1, vx.who⟩, bx, .slice ay bx.length cy, ly9⟩ : HI)]).length by rw [List.length_append]; rfl] at hv119
                    refine J.assign rfl rfl ?_
                    refine J.nil ?_
                    refine JX.thenN (hK28 _ _ ?_)
                    refine JC.region ?_
                    refine J.move rfl rfl ?_
                    refine J.fieldAddr Ty.fd28_0 rfl rfl ?_
                    refine J.loadA (vs := cI kx) Ty.a23 Ty.s23 rfl rfl (fun w1 hw => Cells.of_block (hw.own ((b12, cb (cT kx vx (.slice ax bx.length cx)) 28)) (by repeat first | exact .head _ | apply List.Mem.tail | apply List.mem_append_right)) rfl) rfl ?_
                    refine J.fieldAddr Ty.fd28_1 rfl rfl ?_
                    refine J.fieldAddr Ty.fd25_0 rfl rfl ?_
                    refine J.load1 (v := .int .i64 O.ver.n) Ty.a2 rfl (fun w1 hw => by rw [cell_of (hw.own ((b13, cb (cT O.key O.ver (.slice ag O.bs.length cg)) 28)) (by repeat first | exact .head _ | apply List.Mem.tail | apply List.mem_append_right))]; rfl) rfl ?_
                    refine J.addN rfl rfl (by omega) (by omega) rfl ?_
                    refine J.fieldAddr Ty.fd28_1 rfl rfl ?_
                    refine J.fieldAddr Ty.fd25_1 rfl rfl ?_
                    refine J.loadA (vs := cI vx.who) Ty.a23 Ty.s23 rfl rfl (fun w1 hw => Cells.of_block (hw.own ((b12, cb (cT kx vx (.slice ax bx.length cx)) 28)) (by repeat first | exact .head _ | apply List.Mem.tail | apply List.mem_append_right)) rfl) rfl ?_
                    refine J.buildS (cs := cV ⟨O.ver.n + 1, vx.who⟩) Ty.pl25 Ty.zVr rfl (by kernel_rfl) rfl ?_
                    refine J.fieldAddr Ty.fd28_2 rfl rfl ?_
                    refine J.load1 (v := (.slice ax bx.length cx)) Ty.a26 rfl (fun w1 hw => by rw [cell_of (hw.own ((b12, cb (cT kx vx (.slice ax bx.length cx)) 28)) (by repeat first | exact .head _ | apply List.Mem.tail | apply List.mem_append_right))]; rfl) rfl ?_
                    refine J.buildS (cs := (cT kx ⟨O.ver.n + 1, vx.who⟩ (.slice ax bx.length cx))) Ty.pl28 Ty.zIt rfl (by kernel_rfl) rfl ?_
                    refine J.buildSl (cs := (cT kx ⟨O.ver.n + 1, vx.who⟩ (.slice ax bx.length cx))) Ty.el44 Ty.s28 Ty.zIt rfl rfl rfl rfl (by kernel_rfl) rfl rfl (fun b134 => ?_)
                    refine J.perm (l72 ++ ((b134, cb (cT kx ⟨O.ver.n + 1, vx.who⟩ (.slice ax bx.length cx)) 28) :: (b118, cb (cT kx ⟨O.ver.n + 1, vx.who⟩ (.slice ay bx.length cy)) 28) :: (b15, cb (cT kx ⟨O.ver.n + 1, vx.who⟩ (.slice ay bx.length cy)) 28) :: (b13, cb (cT O.key O.ver (.slice ag O.bs.length cg)) 28) :: (b12, cb (cT kx vx (.slice ax bx.length cx)) 28) :: (v1, vaO (.pointer (some ⟨l1, 0, none⟩)) m1 (((k + 1) : Nat) : Int)) :: (m1, .map es9 ck9) :: (l1, lgO d q9 dn9) :: (d, dkO s 900 σ9.p σ9.k) :: (s, dkS σ9.B) :: (l119 ++ (lpsH (hset L2 ⟨kx, ⟨O.ver.n + 1, vx.who⟩, bx, s9, l9⟩) ++ (lg ++ (ly9)))))) (by (refine perm_cnt (fun _ => ?_)); simp only [cntB_append, cntB_cons, cntB_nil, Nat.add_zero, Nat.zero_add]; try ac_rfl) ?_
                    refine J.append (lp := l72) (xs := tried2.flatMap cH) (ys := (cT kx ⟨O.ver.n + 1, vx.who⟩ (.slice ax bx.length cx))) (k := tried2.length) (m := 1) Ty.el44 Ty.s28 Ty.b28 Ty.zIt rfl (.inl ⟨28, Ty.u44⟩) rfl rfl gv7 (fun w1 hw => .inl (Row.own (cs := (cT kx ⟨O.ver.n + 1, vx.who⟩ (.slice ax bx.length cx))) (tb := 28) (fr := (0, 0)) hw (List.mem_append_right _ (.head _)) (List.take_of_length_le (Nat.le_refl _)) (Nat.le_refl _))) rfl one_cT (by omega) (by omega) rfl (fun v135 l135 hv135 => ?_)
                    rw [show tried2.flatMap cH ++ (cT kx ⟨O.ver.n + 1, vx.who⟩ (.slice ax bx.length cx)) = (tried2 ++ [(⟨kx, ⟨O.ver.n + 1, vx.who⟩, bx, .slice ax bx.length cx, lx⟩ : HI)]).flatMap cH by rw [List.flatMap_append]; rfl, show tried2.length + 1 = (tried2 ++ [(⟨kx, ⟨O.ver.n + 1, vx.who⟩, bx, .slice ax bx.length cx, lx⟩ : HI)]).length by rw [List.length_append]; rfl] at hv135
                    refine J.assign rfl rfl ?_
                    refine J.nil ?_
                    refine JX.blockN ?_
                    refine JX.thenN (hK21 _ _ ?_)
                    refine JC.region ?_
                    refine J.move rfl rfl ?_
                    (first | refine J.addN rfl rfl (by omega) (by omega) rfl ?_ | refine J.bin rfl rfl rfl rfl ?_)
                    refine J.assign rfl rfl ?_
                    refine J.nil ?_
                    refine JX.thenN ?_
                    refine JX.again (⟨at2 + 1, q9, dn9, σ9, hset L2 ⟨kx, ⟨O.ver.n + 1, vx.who⟩, bx, s9, l9⟩, es9, ck9, (sure2 ++ [⟨kx, ⟨O.ver.n + 1, vx.who⟩, bx, .slice ay bx.length cy, ly9⟩]), (tried2 ++ [⟨kx, ⟨O.ver.n + 1, vx.who⟩, bx, .slice ax bx.length cx, lx⟩]), v119, l119, v135, l135⟩ : KqS) ?_ ?_ ?_
                    · simp only; omega
                    · exact ⟨rfl, rfl, rfl, rfl, rfl, rfl, rfl, rfl, trivial⟩
                    · exact fun w1 hw => ⟨⟨by simp only; omega, g1, hheld9, by simp only; omega, by simp only; omega, by simp only; omega, by simp only; omega, hz4, gok.set hz3, by simp only; omega, fun x hx => by
                        rcases hset_mem hx with rfl | hx
                        · exact gl
                        · exact gshort x hx, gkept.put gvm.nodup ⟨kx, ⟨O.ver.n + 1, vx.who⟩, bx, s9, l9⟩ ⟨kx, ⟨O.ver.n + 1, vx.who⟩, bx, .slice ay bx.length cy, ly9⟩ ⟨kx, ⟨O.ver.n + 1, vx.who⟩, bx, .slice ax bx.length cx, lx⟩ rfl rfl hnew, len_snoc gsl, len_snoc gtl, in_snoc gsf ⟨_, _, rfl⟩, in_snoc gte ⟨⟨_, _, rfl⟩, hxr, okN_up (by simp only; omega) (by simp only; omega)⟩, hv119, hv135⟩, (hw.perm (by (refine perm_cnt (fun _ => ?_)); simp only [cntB_append, cntB_cons, cntB_nil, Nat.add_zero, Nat.zero_add]; try ac_rfl : List.Perm _ ((lg ++ (ly9 ++ (((b134, cb (cT kx ⟨O.ver.n + 1, vx.who⟩ (.slice ax bx.length cx)) 28) :: (b118, cb (cT kx ⟨O.ver.n + 1, vx.who⟩ (.slice ay bx.length cy)) 28) :: (b15, cb (cT kx ⟨O.ver.n + 1, vx.who⟩ (.slice ay bx.length cy)) 28) :: (b13, cb (cT O.key O.ver (.slice ag O.bs.length cg)) 28) :: (b12, cb (cT kx vx (.slice ax bx.length cx)) 28) :: [])))) ++ ((v1, vaO (.pointer (some ⟨l1, 0, none⟩)) m1 (((k + 1) : Nat) : Int)) :: (m1, .map es9 ck9) :: (l1, lgO d q9 dn9) :: (d, dkO s 900 σ9.p σ9.k) :: (s, dkS σ9.B) :: (lpsH (hset L2 ⟨kx, ⟨O.ver.n + 1, vx.who⟩, bx, s9, l9⟩) ++ (l119 ++ l135)))))).drop (List.sublist_append_right _ _)⟩
                · skip
                  try simp only [decide_eq_true_eq, decide_eq_false_iff_not, beq_iff_eq, bne_iff_ne, bne_eq_false_iff_eq, ne_eq, beq_eq_false_iff_ne, Bool.not_eq_true, Bool.not_eq_false, Int.not_lt, Int.not_le] at h5
                  refine JC.seq (fun K30 hK30 => ?_)
                  refine JC.region ?_
                  refine J.move rfl rfl ?_
                  obtain ⟨xc, hxc⟩ : ∃ l, l = (cT kx vx (.slice ax bx.length cx)) := ⟨_, rfl⟩
                  refine J.loadA (vs := xc) Ty.a28 Ty.s28 rfl (by rw [hxc]; rfl) (fun w1 hw => by rw [hxc]; exact Cells.of_block (hw.own ((b12, cb (cT kx vx (.slice ax bx.length cx)) 28)) (by repeat first | exact .head _ | apply List.Mem.tail | apply List.mem_append_right)) rfl) rfl ?_
                  refine J.perm (vltB v1 m1 l1 d s 900 q2 dn2 (k + 1) es2 ck2 ⟨σ2.B, σ2.p, σ2.k⟩ ++ ((b12, cb (cT kx vx (.slice ax bx.length cx)) 28) :: (lpsH L2 ++ (l62 ++ l72)))) (by (refine perm_cnt (fun _ => ?_)); simp only [cntB_append, cntB_cons, cntB_nil, Nat.add_zero, Nat.zero_add]; try ac_rfl) ?_
                  refine J.callS (α := MerR) (V := MerR.val) (Pr := fun z => z.Pr 900 q2 dn2 ⟨σ2.B, σ2.p, σ2.k⟩ L2 ⟨kx, vx, bx⟩) (L := fun z => z.lst v1 m1 l1 d s 900 (k + 1) es2 ck2) Ty.bd19 rfl rfl (fun w1 hw => vmerge_spec v1 m1 l1 d s 900 (k + 1) q2 dn2 σ2.B σ2.p σ2.k L2 es2 ck2 gvm gok glog (by omega) gk0 (by omega) xc kx vx bx _ w1 hxc (St.owns hw) (hxr.below (hw.drop (List.nil_sublist _)).below) (row_off hxr hw (fun b hb => by simp only [List.map_append, List.map_cons, List.map_nil]; exact List.mem_append_left _ hb)) hxl) (fun z hz => ?_)
                  rcases z with ⟨ez, q9, dn9, σ9⟩ | ⟨h9, es9, ck9, q9, dn9, σ9⟩
                  · skip
                    obtain ⟨g1, g2, g3, g4, g5⟩ := merge_log (by omega) glog (by omega) hz
                    obtain rfl : q9 = q2 := by
                      rcases g5 with ⟨h1, _⟩ | ⟨_, h1⟩
                      · cases h1
                      · exact h1
                    try simp only at g2 g3
                    refine J.name 139 rfl (show _ = Value.tuple #[.bool false, .int .i64 ez] from rfl) ?_
                    refine J.perm ((b12, cb (cT kx vx (.slice ax bx.length cx)) 28) :: (v1, vaO (.pointer (some ⟨l1, 0, none⟩)) m1 (((k + 1) : Nat) : Int)) :: (m1, .map es2 ck2) :: (l1, lgO d q9 dn9) :: (d, dkO s 900 σ9.p σ9.k) :: (s, dkS σ9.B) :: (lpsH L2 ++ (l62 ++ (l72)))) (by simp only [MerR.lst]; exact (by (refine perm_cnt (fun _ => ?_)); simp only [cntB_append, cntB_cons, cntB_nil, Nat.add_zero, Nat.zero_add]; try ac_rfl)) ?_
                    by_cases hez : ez = 0
                    · skip
                      have hold := merge_cases hz hez
                      refine J.move rfl rfl ?_
                      refine J.extract rfl rfl rfl ?_
                      refine J.extract rfl rfl rfl ?_
                      refine J.assign rfl rfl ?_
                      refine J.assign rfl rfl ?_
                      refine J.nil ?_
                      refine JX.thenN (hK30 _ _ ?_)
                      refine JC.seq (fun K31 hK31 => ?_)
                      refine JC.region ?_
                      refine J.move rfl rfl ?_
                      refine J.bin rfl rfl rfl rfl ?_
                      refine J.name 143 rfl (show _ = Value.bool true by simp [hez]) ?_
                      refine J.nil ?_
                      refine JX.thenN (hK31 _ _ ?_)
                      first | refine JC.condT rfl ?_ | refine JC.cond rfl (fun _ => ?_) (fun h => by first | (exfalso; simp at h; omega) | (simp at h))
                      refine JC.seq (fun K32 hK32 => ?_)
                      refine JC.region ?_
                      refine J.move rfl rfl ?_
                      refine J.loadA (vs := (cT kx vx (.slice ax bx.length cx))) Ty.a28 Ty.s28 rfl rfl (fun w1 hw => Cells.of_block (hw.own ((b12, cb (cT kx vx (.slice ax bx.length cx)) 28)) (by repeat first | exact .head _ | apply List.Mem.tail | apply List.mem_append_right)) rfl) rfl ?_
                      refine J.buildSl (cs := (cT kx vx (.slice ax bx.length cx))) Ty.el44 Ty.s28 Ty.zIt rfl rfl rfl rfl (by kernel_rfl) rfl rfl (fun b146 => ?_)
                      refine J.perm (l62 ++ ((b146, cb (cT kx vx (.slice ax bx.length cx)) 28) :: (b12, cb (cT kx vx (.slice ax bx.length cx)) 28) :: (v1, vaO (.pointer (some ⟨l1, 0, none⟩)) m1 (((k + 1) : Nat) : Int)) :: (m1, .map es2 ck2) :: (l1, lgO d q9 dn9) :: (d, dkO s 900 σ9.p σ9.k) :: (s, dkS σ9.B) :: (lpsH L2 ++ (l72)))) (by (refine perm_cnt (fun _ => ?_)); simp only [cntB_append, cntB_cons, cntB_nil, Nat.add_zero, Nat.zero_add]; try ac_rfl) ?_
                      refine J.append (lp := l62) (xs := sure2.flatMap cH) (ys := (cT kx vx (.slice ax bx.length cx))) (k := sure2.length) (m := 1) Ty.el44 Ty.s28 Ty.b28 Ty.zIt rfl (.inl ⟨28, Ty.u44⟩) rfl rfl gv6 (fun w1 hw => .inl (Row.own (cs := (cT kx vx (.slice ax bx.length cx))) (tb := 28) (fr := (0, 0)) hw (List.mem_append_right _ (.head _)) (List.take_of_length_le (Nat.le_refl _)) (Nat.le_refl _))) rfl one_cT (by omega) (by omega) rfl (fun v147 l147 hv147 => ?_)
                      rw [show sure2.flatMap cH ++ (cT kx vx (.slice ax bx.length cx)) = (sure2 ++ [(⟨kx, vx, bx, .slice ax bx.length cx, lx⟩ : HI)]).flatMap cH by rw [List.flatMap_append]; rfl, show sure2.length + 1 = (sure2 ++ [(⟨kx, vx, bx, .slice ax bx.length cx, lx⟩ : HI)]).length by rw [List.length_append]; rfl] at hv147
                      refine J.assign rfl rfl ?_
                      refine J.nil ?_
                      refine JX.thenN (hK32 _ _ ?_)
                      refine JC.region ?_
                      refine J.move rfl rfl ?_
                      refine J.loadA (vs := (cT kx vx (.slice ax bx.length cx))) Ty.a28 Ty.s28 rfl rfl (fun w1 hw => Cells.of_block (hw.own ((b12, cb (cT kx vx (.slice ax bx.length cx)) 28)) (by repeat first | exact .head _ | apply List.Mem.tail | apply List.mem_append_right)) rfl) rfl ?_
                      refine J.buildSl (cs := (cT kx vx (.slice ax bx.length cx))) Ty.el44 Ty.s28 Ty.zIt rfl rfl rfl rfl (by kernel_rfl) rfl rfl (fun b150 => ?_)
                      refine J.perm (l72 ++ ((b150, cb (cT kx vx (.slice ax bx.length cx)) 28) :: (b146, cb (cT kx vx (.slice ax bx.length cx)) 28) :: (b12, cb (cT kx vx (.slice ax bx.length cx)) 28) :: (v1, vaO (.pointer (some ⟨l1, 0, none⟩)) m1 (((k + 1) : Nat) : Int)) :: (m1, .map es2 ck2) :: (l1, lgO d q9 dn9) :: (d, dkO s 900 σ9.p σ9.k) :: (s, dkS σ9.B) :: (l147 ++ (lpsH L2)))) (by (refine perm_cnt (fun _ => ?_)); simp only [cntB_append, cntB_cons, cntB_nil, Nat.add_zero, Nat.zero_add]; try ac_rfl) ?_
                      refine J.append (lp := l72) (xs := tried2.flatMap cH) (ys := (cT kx vx (.slice ax bx.length cx))) (k := tried2.length) (m := 1) Ty.el44 Ty.s28 Ty.b28 Ty.zIt rfl (.inl ⟨28, Ty.u44⟩) rfl rfl gv7 (fun w1 hw => .inl (Row.own (cs := (cT kx vx (.slice ax bx.length cx))) (tb := 28) (fr := (0, 0)) hw (List.mem_append_right _ (.head _)) (List.take_of_length_le (Nat.le_refl _)) (Nat.le_refl _))) rfl one_cT (by omega) (by omega) rfl (fun v151 l151 hv151 => ?_)
                      rw [show tried2.flatMap cH ++ (cT kx vx (.slice ax bx.length cx)) = (tried2 ++ [(⟨kx, vx, bx, .slice ax bx.length cx, lx⟩ : HI)]).flatMap cH by rw [List.flatMap_append]; rfl, show tried2.length + 1 = (tried2 ++ [(⟨kx, vx, bx, .slice ax bx.length cx, lx⟩ : HI)]).length by rw [List.length_append]; rfl] at hv151
                      refine J.assign rfl rfl ?_
                      refine J.nil ?_
                      refine JX.blockN ?_
                      refine JX.thenN (hK21 _ _ ?_)
                      refine JC.region ?_
                      refine J.move rfl rfl ?_
                      (first | refine J.addN rfl rfl (by omega) (by omega) rfl ?_ | refine J.bin rfl rfl rfl rfl ?_)
                      refine J.assign rfl rfl ?_
                      refine J.nil ?_
                      refine JX.thenN ?_
                      refine JX.again (⟨at2 + 1, q9, dn9, σ9, L2, es2, ck2, (sure2 ++ [⟨kx, vx, bx, .slice ax bx.length cx, lx⟩]), (tried2 ++ [⟨kx, vx, bx, .slice ax bx.length cx, lx⟩]), v147, l147, v151, l151⟩ : KqS) ?_ ?_ ?_
                      · simp only; omega
                      · exact ⟨rfl, rfl, rfl, rfl, rfl, rfl, rfl, rfl, trivial⟩
                      · exact fun w1 hw => ⟨⟨by simp only; omega, g1, gheld, by simp only; omega, by simp only; omega, by simp only; omega, by simp only; omega, gvm, gok, by simp only; omega, gshort, gkept.old ⟨kx, vx, bx, .slice ax bx.length cx, lx⟩ hold, len_snoc gsl, len_snoc gtl, in_snoc gsf ⟨_, _, rfl⟩, in_snoc gte ⟨⟨_, _, rfl⟩, hxr, hxn⟩, hv147, hv151⟩, (hw.perm (by (refine perm_cnt (fun _ => ?_)); simp only [cntB_append, cntB_cons, cntB_nil, Nat.add_zero, Nat.zero_add]; try ac_rfl : List.Perm _ ((((b150, cb (cT kx vx (.slice ax bx.length cx)) 28) :: (b146, cb (cT kx vx (.slice ax bx.length cx)) 28) :: (b12, cb (cT kx vx (.slice ax bx.length cx)) 28) :: [])) ++ ((v1, vaO (.pointer (some ⟨l1, 0, none⟩)) m1 (((k + 1) : Nat) : Int)) :: (m1, .map es2 ck2) :: (l1, lgO d q9 dn9) :: (d, dkO s 900 σ9.p σ9.k) :: (s, dkS σ9.B) :: (lpsH L2 ++ (l147 ++ l151)))))).drop (List.sublist_append_right _ _)⟩
                    · skip
                      refine J.move rfl rfl ?_
                      refine J.extract rfl rfl rfl ?_
                      refine J.extract rfl rfl rfl ?_
                      refine J.assign rfl rfl ?_
                      refine J.assign rfl rfl ?_
                      refine J.nil ?_
                      refine JX.thenN (hK30 _ _ ?_)
                      refine JC.seq (fun K33 hK33 => ?_)
                      refine JC.region ?_
                      refine J.move rfl rfl ?_
                      refine J.bin rfl rfl rfl rfl ?_
                      refine J.name 143 rfl (show _ = Value.bool false by simp [hez]) ?_
                      refine J.nil ?_
                      refine JX.thenN (hK33 _ _ ?_)
                      first | refine JC.condF rfl ?_ | refine JC.cond rfl (fun h => by first | (exfalso; simp at h; omega) | (simp at h)) (fun _ => ?_)
                      refine JC.region ?_
                      refine J.move rfl rfl ?_
                      refine J.loadA (vs := (cT kx vx (.slice ax bx.length cx))) Ty.a28 Ty.s28 rfl rfl (fun w1 hw => Cells.of_block (hw.own ((b12, cb (cT kx vx (.slice ax bx.length cx)) 28)) (by repeat first | exact .head _ | apply List.Mem.tail | apply List.mem_append_right)) rfl) rfl ?_
                      refine J.buildSl (cs := (cT kx vx (.slice ax bx.length cx))) Ty.el44 Ty.s28 Ty.zIt rfl rfl rfl rfl (by kernel_rfl) rfl rfl (fun b154 => ?_)
                      refine J.perm (l72 ++ ((b154, cb (cT kx vx (.slice ax bx.length cx)) 28) :: (b12, cb (cT kx vx (.slice ax bx.length cx)) 28) :: (v1, vaO (.pointer (some ⟨l1, 0, none⟩)) m1 (((k + 1) : Nat) : Int)) :: (m1, .map es2 ck2) :: (l1, lgO d q9 dn9) :: (d, dkO s 900 σ9.p σ9.k) :: (s, dkS σ9.B) :: (lpsH L2 ++ (l62)))) (by (refine perm_cnt (fun _ => ?_)); simp only [cntB_append, cntB_cons, cntB_nil, Nat.add_zero, Nat.zero_add]; try ac_rfl) ?_
                      refine J.append (lp := l72) (xs := tried2.flatMap cH) (ys := (cT kx vx (.slice ax bx.length cx))) (k := tried2.length) (m := 1) Ty.el44 Ty.s28 Ty.b28 Ty.zIt rfl (.inl ⟨28, Ty.u44⟩) rfl rfl gv7 (fun w1 hw => .inl (Row.own (cs := (cT kx vx (.slice ax bx.length cx))) (tb := 28) (fr := (0, 0)) hw (List.mem_append_right _ (.head _)) (List.take_of_length_le (Nat.le_refl _)) (Nat.le_refl _))) rfl one_cT (by omega) (by omega) rfl (fun v155 l155 hv155 => ?_)
                      rw [show tried2.flatMap cH ++ (cT kx vx (.slice ax bx.length cx)) = (tried2 ++ [(⟨kx, vx, bx, .slice ax bx.length cx, lx⟩ : HI)]).flatMap cH by rw [List.flatMap_append]; rfl, show tried2.length + 1 = (tried2 ++ [(⟨kx, vx, bx, .slice ax bx.length cx, lx⟩ : HI)]).length by rw [List.length_append]; rfl] at hv155
                      refine J.assign rfl rfl ?_
                      refine J.nil ?_
                      refine JX.blockN ?_
                      refine JX.thenN (hK21 _ _ ?_)
                      refine JC.region ?_
                      refine J.move rfl rfl ?_
                      (first | refine J.addN rfl rfl (by omega) (by omega) rfl ?_ | refine J.bin rfl rfl rfl rfl ?_)
                      refine J.assign rfl rfl ?_
                      refine J.nil ?_
                      refine JX.thenN ?_
                      refine JX.again (⟨at2 + 1, q9, dn9, σ9, L2, es2, ck2, sure2, (tried2 ++ [⟨kx, vx, bx, .slice ax bx.length cx, lx⟩]), v62, l62, v155, l155⟩ : KqS) ?_ ?_ ?_
                      · simp only; omega
                      · exact ⟨rfl, rfl, rfl, rfl, rfl, rfl, rfl, rfl, trivial⟩
                      · exact fun w1 hw => ⟨⟨by simp only; omega, g1, gheld, by simp only; omega, by simp only; omega, by simp only; omega, by simp only; omega, gvm, gok, by simp only; omega, gshort, gkept.more ⟨kx, vx, bx, .slice ax bx.length cx, lx⟩, by simp only; omega, len_snoc gtl, gsf, in_snoc gte ⟨⟨_, _, rfl⟩, hxr, hxn⟩, gv6, hv155⟩, (hw.perm (by (refine perm_cnt (fun _ => ?_)); simp only [cntB_append, cntB_cons, cntB_nil, Nat.add_zero, Nat.zero_add]; try ac_rfl : List.Perm _ ((((b154, cb (cT kx vx (.slice ax bx.length cx)) 28) :: (b12, cb (cT kx vx (.slice ax bx.length cx)) 28) :: [])) ++ ((v1, vaO (.pointer (some ⟨l1, 0, none⟩)) m1 (((k + 1) : Nat) : Int)) :: (m1, .map es2 ck2) :: (l1, lgO d q9 dn9) :: (d, dkO s 900 σ9.p σ9.k) :: (s, dkS σ9.B) :: (lpsH L2 ++ (l62 ++ l155)))))).drop (List.sublist_append_right _ _)⟩
                  · skip
                    obtain ⟨hz1, hz2, hz3, hz4⟩ := hz
                    obtain ⟨g1, g2, g3, g4, g5⟩ := merge_log (by omega) glog (by omega) hz1
                    obtain ⟨hit, hnew⟩ := merge_new hz1
                    obtain ⟨gr, gu⟩ := merge_used hz1
                    have gn := form_need (x := (⟨kx, vx, bx⟩ : ItV)) hit.2.2
                    try simp only at g2 g3
                    have hk9 : h9.key = kx := congrArg ItV.key hz2
                    have hv9 : h9.ver = vx := congrArg ItV.ver hz2
                    have hb9 : h9.bs = bx := congrArg ItV.bs hz2
                    have hsl9 := hset_len L2 h9
                    have hnew9 : ∀ y, hget L2 h9.key = some y → newB h9.ver y.ver = true := fun y hy => by rw [hv9]; exact hnew y (by rw [← hk9]; exact hy)
                    have hheld9 : heldV q9.recs = some (k + 1, (hset L2 h9).map HI.it) := by rw [gr, held_item gheld hit, take_set hnew, hset_it, hz2]
                    refine J.name 139 rfl (show _ = Value.tuple #[.bool true, .int .i64 0] from rfl) ?_
                    refine J.conseq (I' := St w [] ((b12, cb (cT kx vx (.slice ax bx.length cx)) 28) :: (v1, vaO (.pointer (some ⟨l1, 0, none⟩)) m1 (((k + 1) : Nat) : Int)) :: (m1, .map es9 ck9) :: (l1, lgO d q9 dn9) :: (d, dkO s 900 σ9.p σ9.k) :: (s, dkS σ9.B) :: (lpsH (hset L2 h9) ++ (l62 ++ (l72))))) ?_ (fun w1 hw => (by simp only [MerR.lst] at hw; exact ((hset_sub gvm.nodup h9).st (hw.perm (by (refine perm_cnt (fun _ => ?_)); simp only [cntB_append, cntB_cons, cntB_nil, Nat.add_zero, Nat.zero_add]; try ac_rfl : List.Perm _ ((h9.lp ++ lpsH L2) ++ ((b12, cb (cT kx vx (.slice ax bx.length cx)) 28) :: (v1, vaO (.pointer (some ⟨l1, 0, none⟩)) m1 (((k + 1) : Nat) : Int)) :: (m1, .map es9 ck9) :: (l1, lgO d q9 dn9) :: (d, dkO s 900 σ9.p σ9.k) :: (s, dkS σ9.B) :: (l62 ++ l72)))))).perm (by (refine perm_cnt (fun _ => ?_)); simp only [cntB_append, cntB_cons, cntB_nil, Nat.add_zero, Nat.zero_add]; try ac_rfl)))
                    refine J.move rfl rfl ?_
                    refine J.extract rfl rfl rfl ?_
                    refine J.extract rfl rfl rfl ?_
                    refine J.assign rfl rfl ?_
                    refine J.assign rfl rfl ?_
                    refine J.nil ?_
                    refine JX.thenN (hK30 _ _ ?_)
                    refine JC.seq (fun K34 hK34 => ?_)
                    refine JC.region ?_
                    refine J.move rfl rfl ?_
                    refine J.bin rfl rfl rfl rfl ?_
                    refine J.name 143 rfl (show _ = Value.bool true by simp) ?_
                    refine J.nil ?_
                    refine JX.thenN (hK34 _ _ ?_)
                    first | refine JC.condT rfl ?_ | refine JC.cond rfl (fun _ => ?_) (fun h => by first | (exfalso; simp at h; omega) | (simp at h))
                    refine JC.seq (fun K35 hK35 => ?_)
                    refine JC.region ?_
                    refine J.move rfl rfl ?_
                    refine J.loadA (vs := (cT kx vx (.slice ax bx.length cx))) Ty.a28 Ty.s28 rfl rfl (fun w1 hw => Cells.of_block (hw.own ((b12, cb (cT kx vx (.slice ax bx.length cx)) 28)) (by repeat first | exact .head _ | apply List.Mem.tail | apply List.mem_append_right)) rfl) rfl ?_
                    refine J.buildSl (cs := (cT kx vx (.slice ax bx.length cx))) Ty.el44 Ty.s28 Ty.zIt rfl rfl rfl rfl (by kernel_rfl) rfl rfl (fun b146 => ?_)
                    refine J.perm (l62 ++ ((b146, cb (cT kx vx (.slice ax bx.length cx)) 28) :: (b12, cb (cT kx vx (.slice ax bx.length cx)) 28) :: (v1, vaO (.pointer (some ⟨l1, 0, none⟩)) m1 (((k + 1) : Nat) : Int)) :: (m1, .map es9 ck9) :: (l1, lgO d q9 dn9) :: (d, dkO s 900 σ9.p σ9.k) :: (s, dkS σ9.B) :: (lpsH (hset L2 h9) ++ (l72)))) (by (refine perm_cnt (fun _ => ?_)); simp only [cntB_append, cntB_cons, cntB_nil, Nat.add_zero, Nat.zero_add]; try ac_rfl) ?_
                    refine J.append (lp := l62) (xs := sure2.flatMap cH) (ys := (cT kx vx (.slice ax bx.length cx))) (k := sure2.length) (m := 1) Ty.el44 Ty.s28 Ty.b28 Ty.zIt rfl (.inl ⟨28, Ty.u44⟩) rfl rfl gv6 (fun w1 hw => .inl (Row.own (cs := (cT kx vx (.slice ax bx.length cx))) (tb := 28) (fr := (0, 0)) hw (List.mem_append_right _ (.head _)) (List.take_of_length_le (Nat.le_refl _)) (Nat.le_refl _))) rfl one_cT (by omega) (by omega) rfl (fun v147 l147 hv147 => ?_)
                    rw [show sure2.flatMap cH ++ (cT kx vx (.slice ax bx.length cx)) = (sure2 ++ [(⟨kx, vx, bx, .slice ax bx.length cx, lx⟩ : HI)]).flatMap cH by rw [List.flatMap_append]; rfl, show sure2.length + 1 = (sure2 ++ [(⟨kx, vx, bx, .slice ax bx.length cx, lx⟩ : HI)]).length by rw [List.length_append]; rfl] at hv147
                    refine J.assign rfl rfl ?_
                    refine J.nil ?_
                    refine JX.thenN (hK35 _ _ ?_)
                    refine JC.region ?_
                    refine J.move rfl rfl ?_
                    refine J.loadA (vs := (cT kx vx (.slice ax bx.length cx))) Ty.a28 Ty.s28 rfl rfl (fun w1 hw => Cells.of_block (hw.own ((b12, cb (cT kx vx (.slice ax bx.length cx)) 28)) (by repeat first | exact .head _ | apply List.Mem.tail | apply List.mem_append_right)) rfl) rfl ?_
                    refine J.buildSl (cs := (cT kx vx (.slice ax bx.length cx))) Ty.el44 Ty.s28 Ty.zIt rfl rfl rfl rfl (by kernel_rfl) rfl rfl (fun b150 => ?_)
                    refine J.perm (l72 ++ ((b150, cb (cT kx vx (.slice ax bx.length cx)) 28) :: (b146, cb (cT kx vx (.slice ax bx.length cx)) 28) :: (b12, cb (cT kx vx (.slice ax bx.length cx)) 28) :: (v1, vaO (.pointer (some ⟨l1, 0, none⟩)) m1 (((k + 1) : Nat) : Int)) :: (m1, .map es9 ck9) :: (l1, lgO d q9 dn9) :: (d, dkO s 900 σ9.p σ9.k) :: (s, dkS σ9.B) :: (l147 ++ (lpsH (hset L2 h9))))) (by (refine perm_cnt (fun _ => ?_)); simp only [cntB_append, cntB_cons, cntB_nil, Nat.add_zero, Nat.zero_add]; try ac_rfl) ?_
                    refine J.append (lp := l72) (xs := tried2.flatMap cH) (ys := (cT kx vx (.slice ax bx.length cx))) (k := tried2.length) (m := 1) Ty.el44 Ty.s28 Ty.b28 Ty.zIt rfl (.inl ⟨28, Ty.u44⟩) rfl rfl gv7 (fun w1 hw => .inl (Row.own (cs := (cT kx vx (.slice ax bx.length cx))) (tb := 28) (fr := (0, 0)) hw (List.mem_append_right _ (.head _)) (List.take_of_length_le (Nat.le_refl _)) (Nat.le_refl _))) rfl one_cT (by omega) (by omega) rfl (fun v151 l151 hv151 => ?_)
                    rw [show tried2.flatMap cH ++ (cT kx vx (.slice ax bx.length cx)) = (tried2 ++ [(⟨kx, vx, bx, .slice ax bx.length cx, lx⟩ : HI)]).flatMap cH by rw [List.flatMap_append]; rfl, show tried2.length + 1 = (tried2 ++ [(⟨kx, vx, bx, .slice ax bx.length cx, lx⟩ : HI)]).length by rw [List.length_append]; rfl] at hv151
                    refine J.assign rfl rfl ?_
                    refine J.nil ?_
                    refine JX.blockN ?_
                    refine JX.thenN (hK21 _ _ ?_)
                    refine JC.region ?_
                    refine J.move rfl rfl ?_
                    (first | refine J.addN rfl rfl (by omega) (by omega) rfl ?_ | refine J.bin rfl rfl rfl rfl ?_)
                    refine J.assign rfl rfl ?_
                    refine J.nil ?_
                    refine JX.thenN ?_
                    refine JX.again (⟨at2 + 1, q9, dn9, σ9, hset L2 h9, es9, ck9, (sure2 ++ [⟨kx, vx, bx, .slice ax bx.length cx, lx⟩]), (tried2 ++ [⟨kx, vx, bx, .slice ax bx.length cx, lx⟩]), v147, l147, v151, l151⟩ : KqS) ?_ ?_ ?_
                    · simp only; omega
                    · exact ⟨rfl, rfl, rfl, rfl, rfl, rfl, rfl, rfl, trivial⟩
                    · exact fun w1 hw => ⟨⟨by simp only; omega, g1, hheld9, by simp only; omega, by simp only; omega, by simp only; omega, by simp only; omega, hz4, gok.set hz3, by simp only; omega, fun x hx => by
                        rcases hset_mem hx with rfl | hx
                        · rw [hb9]; exact hit.2.2
                        · exact gshort x hx, gkept.set gvm.nodup h9 ⟨kx, vx, bx, .slice ax bx.length cx, lx⟩ hz2 hnew9, len_snoc gsl, len_snoc gtl, in_snoc gsf ⟨_, _, rfl⟩, in_snoc gte ⟨⟨_, _, rfl⟩, hxr, hxn⟩, hv147, hv151⟩, (hw.perm (by (refine perm_cnt (fun _ => ?_)); simp only [cntB_append, cntB_cons, cntB_nil, Nat.add_zero, Nat.zero_add]; try ac_rfl : List.Perm _ ((((b150, cb (cT kx vx (.slice ax bx.length cx)) 28) :: (b146, cb (cT kx vx (.slice ax bx.length cx)) 28) :: (b12, cb (cT kx vx (.slice ax bx.length cx)) 28) :: [])) ++ ((v1, vaO (.pointer (some ⟨l1, 0, none⟩)) m1 (((k + 1) : Nat) : Int)) :: (m1, .map es9 ck9) :: (l1, lgO d q9 dn9) :: (d, dkO s 900 σ9.p σ9.k) :: (s, dkS σ9.B) :: (lpsH (hset L2 h9) ++ (l147 ++ l151)))))).drop (List.sublist_append_right _ _)⟩
              · skip
                refine JC.region ?_
                refine J.move rfl rfl ?_
                refine J.move rfl rfl ?_
                refine J.lenS rfl Ty.u44 rfl rfl ?_
                refine J.bin rfl rfl rfl rfl ?_
                refine J.name 74 rfl (show _ = Value.bool true by simp; omega) ?_
                refine J.move rfl rfl ?_
                first | refine J.skip rfl rfl rfl rfl rfl ?_ | refine J.skipU rfl rfl rfl rfl ?_ | (refine J.unguard rfl rfl rfl ?_; refine J.move rfl rfl ?_)
                refine J.unguard rfl rfl rfl ?_
                refine J.bin rfl rfl rfl rfl ?_
                refine J.name 77 rfl (show _ = Value.bool true by simp; omega) ?_
                (first | refine J.pickT rfl rfl rfl ?_ | refine J.pickF rfl rfl rfl ?_)
                refine J.move rfl rfl ?_
                first | refine J.skip rfl rfl rfl rfl rfl ?_ | refine J.skipU rfl rfl rfl rfl ?_ | (refine J.unguard rfl rfl rfl ?_; refine J.move rfl rfl ?_)
                refine J.unguard rfl rfl rfl ?_
                refine J.callB (v := .bool true) (fun w1 w2 hw hb => hw.step hb) Ty.bd25 rfl rfl (fun w1 hw => by have h9 := vdown_spec v1 m1 l1 d q2 dn2 _ w1 (l := (m1, .map es2 ck2) :: (d, dkO s 900 σ2.p σ2.k) :: (s, dkS σ2.B) :: (lpsH L2 ++ (l62 ++ l72))) (St.owns' (hw.perm (by (refine perm_cnt (fun _ => ?_)); simp only [cntB_append, cntB_cons, cntB_nil, Nat.add_zero, Nat.zero_add]; try ac_rfl))); rw [show dn2 = true by first | assumption | (cases dn2 <;> simp_all)] at h9; exact h9) ?_
                first | refine J.skip rfl rfl rfl rfl rfl ?_ | refine J.skipU rfl rfl rfl rfl ?_ | (refine J.unguard rfl rfl rfl ?_; refine J.not rfl rfl ?_)
                (first | refine J.pickT rfl rfl rfl ?_ | refine J.pickF rfl rfl rfl ?_)
                refine J.nil ?_
                refine JX.thenN (hK20 _ _ ?_)
                first | refine JC.condF rfl ?_ | refine JC.cond rfl (fun h => by first | (exfalso; simp at h; omega) | (simp at h)) (fun _ => ?_)
                refine JC.exit ?_
                refine JX.thenE ?_
                refine JX.thenE ?_
                refine JX.blockE ?_
                refine JX.blockN ?_
                refine JX.thenN (hK13 _ _ ?_)
                refine JC.region ?_
                refine J.move rfl rfl ?_
                (first | refine J.addN rfl rfl (by omega) (by omega) rfl ?_ | refine J.bin rfl rfl rfl rfl ?_)
                refine J.assign rfl rfl ?_
                refine J.nil ?_
                refine JX.thenN ?_
                refine JX.again (⟨k + 1, at2, q2, σ2, L2.map HI.it, sure2, tried2, v62, l62, v72, l72⟩ : KpS) ?_ ?_ ?_
                · simp only; omega
                · exact ⟨rfl, rfl, rfl, rfl, rfl, rfl, rfl, trivial⟩
                · exact fun w1 hw => ⟨⟨by simp only; omega, gat, glog, gheld, gk0, by simp only; omega, by simp only; omega, by simp only; omega, KeptV.of gkept, by rw [List.length_map]; exact glen, fun x hx => by
                    obtain ⟨z, hz, rfl⟩ := List.mem_map.1 hx
                    exact gshort z hz, gsl, gtl, gsf, gte, gv6, gv7⟩, (hw.perm (by (refine perm_cnt (fun _ => ?_)); simp only [cntB_append, cntB_cons, cntB_nil, Nat.add_zero, Nat.zero_add]; try ac_rfl : List.Perm _ (((v1, vaO (.pointer (some ⟨l1, 0, none⟩)) m1 (((k + 1) : Nat) : Int)) :: (m1, .map es2 ck2) :: (l1, lgO d q2 dn2) :: lpsH L2) ++ ((d, dkO s 900 σ2.p σ2.k) :: (s, dkS σ2.B) :: (l62 ++ l72))))).drop (List.sublist_append_right _ _)⟩
            · skip
              refine JC.region ?_
              refine J.move rfl rfl ?_
              refine J.move rfl rfl ?_
              refine J.lenS rfl Ty.u44 rfl rfl ?_
              refine J.bin rfl rfl rfl rfl ?_
              refine J.name 74 rfl (show _ = Value.bool true by simp; omega) ?_
              refine J.move rfl rfl ?_
              first | refine J.skip rfl rfl rfl rfl rfl ?_ | refine J.skipU rfl rfl rfl rfl ?_ | (refine J.unguard rfl rfl rfl ?_; refine J.move rfl rfl ?_)
              refine J.unguard rfl rfl rfl ?_
              refine J.bin rfl rfl rfl rfl ?_
              refine J.name 77 rfl (show _ = Value.bool false by simp; omega) ?_
              (first | refine J.pickT rfl rfl rfl ?_ | refine J.pickF rfl rfl rfl ?_)
              refine J.move rfl rfl ?_
              first | refine J.skip rfl rfl rfl rfl rfl ?_ | refine J.skipU rfl rfl rfl rfl ?_ | (refine J.unguard rfl rfl rfl ?_; refine J.move rfl rfl ?_)
              first | refine J.skip rfl rfl rfl rfl rfl ?_ | refine J.skipU rfl rfl rfl rfl ?_ | (refine J.unguard rfl rfl rfl ?_; fail)
              first | refine J.skip rfl rfl rfl rfl rfl ?_ | refine J.skipU rfl rfl rfl rfl ?_ | (refine J.unguard rfl rfl rfl ?_; refine J.not rfl rfl ?_)
              (first | refine J.pickT rfl rfl rfl ?_ | refine J.pickF rfl rfl rfl ?_)
              refine J.nil ?_
              refine JX.thenN (hK20 _ _ ?_)
              first | refine JC.condF rfl ?_ | refine JC.cond rfl (fun h => by first | (exfalso; simp at h; omega) | (simp at h)) (fun _ => ?_)
              refine JC.exit ?_
              refine JX.thenE ?_
              refine JX.thenE ?_
              refine JX.blockE ?_
              refine JX.blockN ?_
              refine JX.thenN (hK13 _ _ ?_)
              refine JC.region ?_
              refine J.move rfl rfl ?_
              (first | refine J.addN rfl rfl (by omega) (by omega) rfl ?_ | refine J.bin rfl rfl rfl rfl ?_)
              refine J.assign rfl rfl ?_
              refine J.nil ?_
              refine JX.thenN ?_
              refine JX.again (⟨k + 1, at2, q2, σ2, L2.map HI.it, sure2, tried2, v62, l62, v72, l72⟩ : KpS) ?_ ?_ ?_
              · simp only; omega
              · exact ⟨rfl, rfl, rfl, rfl, rfl, rfl, rfl, trivial⟩
              · exact fun w1 hw => ⟨⟨by simp only; omega, gat, glog, gheld, gk0, by simp only; omega, by simp only; omega, by simp only; omega, KeptV.of gkept, by rw [List.length_map]; exact glen, fun x hx => by
                  obtain ⟨z, hz, rfl⟩ := List.mem_map.1 hx
                  exact gshort z hz, gsl, gtl, gsf, gte, gv6, gv7⟩, (hw.perm (by (refine perm_cnt (fun _ => ?_)); simp only [cntB_append, cntB_cons, cntB_nil, Nat.add_zero, Nat.zero_add]; try ac_rfl : List.Perm _ (((v1, vaO (.pointer (some ⟨l1, 0, none⟩)) m1 (((k + 1) : Nat) : Int)) :: (m1, .map es2 ck2) :: (l1, lgO d q2 dn2) :: lpsH L2) ++ ((d, dkO s 900 σ2.p σ2.k) :: (s, dkS σ2.B) :: (l62 ++ l72))))).drop (List.sublist_append_right _ _)⟩
          · skip
            refine JC.region ?_
            refine J.move rfl rfl ?_
            refine J.move rfl rfl ?_
            refine J.lenS rfl Ty.u44 rfl rfl ?_
            refine J.bin rfl rfl rfl rfl ?_
            refine J.name 74 rfl (show _ = Value.bool false by simp; omega) ?_
            refine J.move rfl rfl ?_
            first | refine J.skip rfl rfl rfl rfl rfl ?_ | refine J.skipU rfl rfl rfl rfl ?_ | (refine J.unguard rfl rfl rfl ?_; refine J.move rfl rfl ?_)
            first | refine J.skip rfl rfl rfl rfl rfl ?_ | refine J.skipU rfl rfl rfl rfl ?_ | (refine J.unguard rfl rfl rfl ?_; refine J.bin rfl rfl rfl rfl ?_)
            (first | refine J.pickT rfl rfl rfl ?_ | refine J.pickF rfl rfl rfl ?_)
            refine J.move rfl rfl ?_
            first | refine J.skip rfl rfl rfl rfl rfl ?_ | refine J.skipU rfl rfl rfl rfl ?_ | (refine J.unguard rfl rfl rfl ?_; refine J.move rfl rfl ?_)
            first | refine J.skip rfl rfl rfl rfl rfl ?_ | refine J.skipU rfl rfl rfl rfl ?_ | (refine J.unguard rfl rfl rfl ?_; fail)
            first | refine J.skip rfl rfl rfl rfl rfl ?_ | refine J.skipU rfl rfl rfl rfl ?_ | (refine J.unguard rfl rfl rfl ?_; refine J.not rfl rfl ?_)
            (first | refine J.pickT rfl rfl rfl ?_ | refine J.pickF rfl rfl rfl ?_)
            refine J.nil ?_
            refine JX.thenN (hK20 _ _ ?_)
            first | refine JC.condF rfl ?_ | refine JC.cond rfl (fun h => by first | (exfalso; simp at h; omega) | (simp at h)) (fun _ => ?_)
            refine JC.exit ?_
            refine JX.thenE ?_
            refine JX.thenE ?_
            refine JX.blockE ?_
            refine JX.blockN ?_
            refine JX.thenN (hK13 _ _ ?_)
            refine JC.region ?_
            refine J.move rfl rfl ?_
            (first | refine J.addN rfl rfl (by omega) (by omega) rfl ?_ | refine J.bin rfl rfl rfl rfl ?_)
            refine J.assign rfl rfl ?_
            refine J.nil ?_
            refine JX.thenN ?_
            refine JX.again (⟨k + 1, at2, q2, σ2, L2.map HI.it, sure2, tried2, v62, l62, v72, l72⟩ : KpS) ?_ ?_ ?_
            · simp only; omega
            · exact ⟨rfl, rfl, rfl, rfl, rfl, rfl, rfl, trivial⟩
            · exact fun w1 hw => ⟨⟨by simp only; omega, gat, glog, gheld, gk0, by simp only; omega, by simp only; omega, by simp only; omega, KeptV.of gkept, by rw [List.length_map]; exact glen, fun x hx => by
                obtain ⟨z, hz, rfl⟩ := List.mem_map.1 hx
                exact gshort z hz, gsl, gtl, gsf, gte, gv6, gv7⟩, (hw.perm (by (refine perm_cnt (fun _ => ?_)); simp only [cntB_append, cntB_cons, cntB_nil, Nat.add_zero, Nat.zero_add]; try ac_rfl : List.Perm _ (((v1, vaO (.pointer (some ⟨l1, 0, none⟩)) m1 (((k + 1) : Nat) : Int)) :: (m1, .map es2 ck2) :: (l1, lgO d q2 dn2) :: lpsH L2) ++ ((d, dkO s 900 σ2.p σ2.k) :: (s, dkS σ2.B) :: (l62 ++ l72))))).drop (List.sublist_append_right _ _)⟩
        · skip
          refine JC.seq (fun K36 hK36 => ?_)
          refine JC.region ?_
          refine J.move rfl rfl ?_
          refine J.move rfl rfl ?_
          refine J.lenS rfl Ty.u33 rfl rfl ?_
          refine J.bin rfl rfl rfl rfl ?_
          refine J.nil ?_
          refine JX.thenN (hK36 _ _ ?_)
          refine JC.cond rfl (fun h3 => ?_) (fun h3 => ?_)
          · skip
            have hltk : k < ks.length := by simp at h3; omega
            obtain ⟨ki, hki⟩ : ∃ x, ks[k]? = some x := ⟨_, List.getElem?_eq_getElem hltk⟩
            obtain ⟨b, o, rfl, hcl⟩ : ∃ b o, aj = some ⟨b, o, none⟩ ∧ Cells w b o (ks.map fun k => Value.int .i64 k) := by
              rcases hra with h | h
              · have h2 := congrArg List.length h; rw [List.length_map, List.length_nil] at h2; omega
              · exact h
            have hcell : w.cell? ⟨b, o + (k : Int).toNat * 1, none⟩ = some (.int .i64 ki) := by
              rw [Int.toNat_natCast, Nat.mul_one, hcl k (by rw [List.length_map]; exact hltk), List.getElem?_map, hki]; rfl
            obtain ⟨j, hj, hj4⟩ : ∃ j : Nat, IntKind.u64.wrap ki % 14 = (j : Int) ∧ j < 14 := ⟨(IntKind.u64.wrap ki % 14).toNat, by rw [wrap_u64m]; omega, by omega⟩
            refine JC.region ?_
            refine J.move rfl rfl ?_
            refine J.move rfl rfl ?_
            refine J.move rfl rfl ?_
            refine J.indexAddrS Ty.el33 Ty.s3 rfl rfl (by omega) (by omega) rfl ?_
            refine J.loadR (v := .int .i64 ki) Ty.a3 rfl hcell (by simp) rfl ?_
            refine J.convInt Ty.u3 Ty.u37 rfl rfl ?_
            refine J.remV rfl rfl (by rw [wrap_u64m]; omega) (by omega) rfl ?_
            refine J.name 68 rfl (show _ = Value.int .u64 ((j : Nat) : Int) from congrArg (Value.int .u64) hj) ?_
            refine J.convInt Ty.u37 Ty.u3 rfl rfl ?_
            refine J.name 69 rfl (show _ = Value.int .i64 ((j : Nat) : Int) from congrArg (Value.int .i64) (wrap_i64 (by omega) (by omega))) ?_
            refine J.perm ([(d, dkO s 900 σ1.p σ1.k)] ++ ((s, dkS σ1.B) :: ((v1, vaO (.pointer (some ⟨l1, 0, none⟩)) m1 (((k + 1) : Nat) : Int)) :: (m1, .map es1 ck1) :: (l1, lgO d Q1 false) :: (lpsH L1 ++ (l6 ++ l7))))) (by (refine perm_cnt (fun _ => ?_)); simp only [cntB_append, cntB_cons, cntB_nil, Nat.add_zero, Nat.zero_add]; try ac_rfl) ?_
            refine J.callT (v := .tuple #[]) (L := [(d, dkO s 900 ((j : Nat) : Int) σ1.k)]) Ty.bd16 rfl rfl (fun w1 hw => by have h9 := power_spec d s 900 σ1.p σ1.k (((j : Nat) : Int)) w1 (St.owns hw); rw [show max (((j : Nat) : Int)) (-1) = ((j : Nat) : Int) by omega] at h9; exact h9) ?_
            refine J.nil ?_
            refine JX.thenN ?_
            exact JX.cut (hK18 ((j : Nat) : Int)) ⟨rfl, rfl, rfl, rfl, rfl, rfl, rfl, rfl, trivial⟩ (fun w1 hw => ⟨by omega, hw.perm (by (refine perm_cnt (fun _ => ?_)); simp only [cntB_append, cntB_cons, cntB_nil, Nat.add_zero, Nat.zero_add]; try ac_rfl)⟩)
          · skip
            try simp only [decide_eq_true_eq, decide_eq_false_iff_not, beq_iff_eq, bne_iff_ne, bne_eq_false_iff_eq, ne_eq, beq_eq_false_iff_ne, Bool.not_eq_true, Bool.not_eq_false, Int.not_lt, Int.not_le] at h3
            refine JC.skip ?_
            refine JX.thenN ?_
            exact JX.cut (hK18 σ1.p) ⟨rfl, rfl, rfl, rfl, rfl, rfl, rfl, rfl, trivial⟩ (fun w1 hw => ⟨by omega, hw⟩)
      · skip
        refine JC.region ?_
        refine J.move rfl rfl ?_
        refine J.move rfl rfl ?_
        refine J.lenS rfl Ty.u33 rfl rfl ?_
        refine J.bin rfl rfl rfl rfl ?_
        refine J.name 31 rfl (show _ = Value.bool true by simp; omega) ?_
        refine J.move rfl rfl ?_
        first | refine J.skip rfl rfl rfl rfl rfl ?_ | refine J.skipU rfl rfl rfl rfl ?_ | (refine J.unguard rfl rfl rfl ?_; refine J.move rfl rfl ?_)
        refine J.unguard rfl rfl rfl ?_
        refine J.bin rfl rfl rfl rfl ?_
        refine J.name 34 rfl (show _ = Value.bool false by simp; omega) ?_
        (first | refine J.pickT rfl rfl rfl ?_ | refine J.pickF rfl rfl rfl ?_)
        refine J.nil ?_
        refine JX.thenN (hK12 _ _ ?_)
        first | refine JC.condF rfl ?_ | refine JC.cond rfl (fun h => by first | (exfalso; simp at h; omega) | (simp at h)) (fun _ => ?_)
        refine JC.exit ?_
        refine JX.thenE ?_
        refine JX.thenE ?_
        refine JX.blockE ?_
        refine JX.thenN ?_
        exact JX.cut (hK6 ⟨k, at_, q, σ, Lp, sure, tried, v6, l6, v7, l7⟩) ⟨rfl, rfl, rfl, trivial⟩ (fun w1 hw => ⟨hI, hw⟩)
    · skip
      refine JC.region ?_
      refine J.move rfl rfl ?_
      refine J.move rfl rfl ?_
      refine J.lenS rfl Ty.u33 rfl rfl ?_
      refine J.bin rfl rfl rfl rfl ?_
      refine J.name 31 rfl (show _ = Value.bool false by simp; omega) ?_
      refine J.move rfl rfl ?_
      first | refine J.skip rfl rfl rfl rfl rfl ?_ | refine J.skipU rfl rfl rfl rfl ?_ | (refine J.unguard rfl rfl rfl ?_; refine J.move rfl rfl ?_)
      first | refine J.skip rfl rfl rfl rfl rfl ?_ | refine J.skipU rfl rfl rfl rfl ?_ | (refine J.unguard rfl rfl rfl ?_; refine J.bin rfl rfl rfl rfl ?_)
      (first | refine J.pickT rfl rfl rfl ?_ | refine J.pickF rfl rfl rfl ?_)
      refine J.nil ?_
      refine JX.thenN (hK12 _ _ ?_)
      first | refine JC.condF rfl ?_ | refine JC.cond rfl (fun h => by first | (exfalso; simp at h; omega) | (simp at h)) (fun _ => ?_)
      refine JC.exit ?_
      refine JX.thenE ?_
      refine JX.thenE ?_
      refine JX.blockE ?_
      refine JX.thenN ?_
      exact JX.cut (hK6 ⟨k, at_, q, σ, Lp, sure, tried, v6, l6, v7, l7⟩) ⟨rfl, rfl, rfl, trivial⟩ (fun w1 hw => ⟨hI, hw⟩)

theorem vaultKeeps_walk (w : World) (x : Sl ItX) (hx : RSl 34 64 RIt w [x.v] x) (y : Sl Int) (hy : RSl 1 8 (RInt .i64) w [y.v] y) :
    Calls Try.prog 7 [x.v, y.v].toArray w fun r w' => r = .returned (.bool true) ∧ Bel w w' := by
  have h1 := rows_itx hx
  exact vaultKeepsL_spec x.v (x.xs.map toHI) y.v y.xs w h1 (fun z hz => by
    obtain ⟨u, hu, rfl⟩ := List.mem_map.1 hz
    have h3 := items_ok hx u hu
    exact ⟨⟨_, _, rfl⟩, h3.2.row, h3.1, reach_len1 h3.2⟩) (by have h := rslG (c := fun k => [Value.int .i64 k]) (sz := 1) (fun _ => rfl) (by omega) (fun _ _ _ h => h.1) hy; rwa [ints_map] at h)
end Go.Proofs.Ytoaenmlhehcjfaa
