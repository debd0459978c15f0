/-
  TearDrops, TearDies, TearEnds: the walks.
-/
import Derived.Test.YtohldionclgljaaPd
import Derived.Test.YtohldionclgljaaTd
namespace Go.Proofs.Ytohldionclgljaa
open Go.J Go.RowKit
set_option linter.unusedVariables false
set_option linter.unusedSimpArgs false
set_option maxRecDepth 8000
theorem drop_len2 (L : List EV) (fr : Int) (p : PV) (h : L.length ≤ 128) : (dropT L fr p).2.length ≤ 1099511627776 := by
  have h1 : (delL L p).length ≤ L.length := List.length_filter_le _ _
  unfold dropT
  split
  · simp only; omega
  · split <;> simp only <;> omega
theorem end_len2 (L : List EV) (p : PV) (h : L.length ≤ 128) : (endT L p).2.length ≤ 1099511627776 := by
  have h1 : (delL L p).length ≤ L.length := List.length_filter_le _ _
  unfold endT
  split
  · simp only; omega
  · split <;> simp only <;> omega
theorem dead_len2 (L : List EV) (n : Int) (h : L.length ≤ 128) : (deadT L n).2.length ≤ 1099511627776 := by
  have : (deadT L n).2.length ≤ L.length := fold_sublen _ _
  omega

set_option maxHeartbeats 2000000 in
theorem tearDrops_spec (v : Value) (xs : List EV) (w : World) (hrv : Row w v xs.length (fE xs)) (hok : ∀ x, x ∈ xs → okE x) (hxl : xs.length ≤ 1954687338213) (fr : Int) (p : PV) (hpk : okN p.n) :
    Calls Try.prog 10 [v, .int .i64 fr, .agg (cP p).toArray].toArray w fun r w' => r = .returned (.bool true) ∧ Bel w w' := by
  obtain ⟨av, cv, rfl, hcv, _⟩ := id hrv
  refine calls_of_J (args := [.slice av xs.length cv, .int .i64 fr, .agg (cP p).toArray]) (e := [(0, .slice av xs.length cv), (1, .int .i64 fr), (2, .agg (cP p).toArray)]) Try.func10 rfl rfl ⟨rfl, rfl, rfl, trivial⟩ (St.start w) ?_
  refine JC.seq (fun K0 hK0 => ?_)
  refine JC.region ?_
  refine J.box rfl rfl rfl (fun b5 => ?_)
  refine J.assign rfl rfl ?_
  refine J.nil ?_
  refine JX.thenN (hK0 _ _ ?_)
  refine JC.seq (fun K1 hK1 => ?_)
  refine JC.region ?_
  refine J.move rfl rfl ?_
  refine J.perm ([] ++ ((b5, cb (cP p) 38) :: [])) (.refl _) ?_
  refine J.callS (α := LaidS) (V := fun x => .tuple #[.pointer (some ⟨x.t1, 0, none⟩), .pointer (some ⟨x.rt, 0, none⟩)]) (Pr := fun x => Tab (laidL 128 (xs)) x.es x.ck ∧ Vec 55 51 x.vr (ordE (laidL 128 (xs))).length (fE (ordE (laidL 128 (xs)))) x.lr) (L := fun x => x.blk 128) (l1 := []) Ty.bd33 rfl rfl (fun w1 hw => laid15_spec _ (xs) w1 (hrv.below (hw.drop (List.nil_sublist _)).below) hok hxl) (fun x hx9 => ?_)
  obtain ⟨t1, m1, rt, es, ck, vr, lr⟩ := x
  obtain ⟨hT, hvr⟩ := hx9
  simp only [LaidS.blk, List.cons_append] at hT hvr ⊢
  have hgood := laidL_good 128 xs
  have hl128 : (laidL 128 xs).length ≤ 128 := by have := hgood.len; omega
  have hol := (ordE_perm (laidL 128 xs)).length_eq
  obtain ⟨ar, cr, rfl, hcr⟩ := hvr.form
  refine J.perm ((t1, tabO 128 m1) :: (m1, .map es ck) :: (rt, rtabO (.slice ar (ordE (laidL 128 xs)).length cr) 128) :: ((b5, cb (cP p) 38) :: lr)) (by (refine perm_cnt (fun _ => ?_)); simp only [cntB_append, cntB_cons, cntB_nil, Nat.add_zero, Nat.zero_add]; try ac_rfl) ?_
  have hT0 := hT
  refine J.move rfl rfl ?_
  refine J.extract rfl rfl rfl ?_
  refine J.extract rfl rfl rfl ?_
  refine J.assign rfl rfl ?_
  refine J.assign rfl rfl ?_
  refine J.nil ?_
  refine JX.thenN (hK1 _ _ ?_)
  refine JC.seq (fun K2 hK2 => ?_)
  refine JC.region ?_
  refine J.move rfl rfl ?_
  refine J.move rfl rfl ?_
  refine J.loadOA (vs := cP p) Ty.a38 Ty.s38 rfl (by repeat first | exact .head _ | apply List.Mem.tail | apply List.mem_append_right) (by exact rfl) rfl rfl ?_
  refine J.perm ([(t1, tabO 128 m1), (m1, .map es ck)] ++ ((rt, rtabO (.slice ar (ordE (laidL 128 xs)).length cr) 128) :: ((b5, cb (cP p) 38) :: lr))) (by (refine perm_cnt (fun _ => ?_)); simp only [cntB_append, cntB_cons, cntB_nil, Nat.add_zero, Nat.zero_add]; try ac_rfl) ?_
  refine J.callS (α := TS × Array MapEntry) (V := fun y => .agg [y.1.vo, y.1.vl].toArray) (Pr := fun y => (dropT (laidL 128 xs) fr p).1.is y.1 ∧ Tab (dropT (laidL 128 xs) fr p).2 y.2 ck) (L := fun y => (y.1.lo ++ y.1.ll) ++ [(t1, tabO 128 m1), (m1, .map y.2 ck)]) (l1 := [(t1, tabO 128 m1), (m1, .map es ck)]) Ty.bd32 rfl rfl (fun w1 hw => tdrop_spec t1 m1 128 (laidL 128 xs) es ck w1 hw.owns hT fr p hpk) (fun z hz => ?_)
  obtain ⟨z, es2⟩ := z
  obtain ⟨hz, hT2⟩ := hz
  simp only [List.cons_append, List.nil_append] at hz hT2 ⊢
  refine J.alloc zTo rfl rfl (fun b9 => ?_)
  refine J.storeW (cs := [nilV, nilV]) (vs := [z.vo, z.vl]) Ty.s67 rfl rfl rfl rfl rfl (two_one hz) .here ?_
  have hl2 : (dropT (laidL 128 xs) fr p).2.length ≤ 1099511627776 := drop_len2 _ _ _ hl128
  have hol2 := (ordE_perm (dropT (laidL 128 xs) fr p).2).length_eq
  have hl3 : (ordE (dropT (laidL 128 xs) fr p).2).length < 4611686018427387904 := by omega
  refine J.perm ((rt, rtabO (.slice ar (ordE (laidL 128 xs)).length cr) 128) :: (lr ++ ((b9, cb [z.vo, z.vl] 67) :: (t1, tabO 128 m1) :: (m1, .map es2 ck) :: (b5, cb (cP p) 38) :: (z.lo ++ z.ll)))) (by (refine perm_cnt (fun _ => ?_)); simp only [cntB_append, cntB_cons, cntB_nil, Nat.add_zero, Nat.zero_add]; try ac_rfl) ?_
  refine J.nil ?_
  refine JX.thenN (hK2 _ _ ?_)
  refine JC.seq (fun K3 hK3 => ?_)
  apply JC.drawX (α := TS × Value × List (Nat × Obj) × Value × List (Nat × Obj)) 18 (fun x => match x with | ⟨yy, v2, l2, vz, lz⟩ => [.bool true, .bool true, .agg [z.vo, z.vl].toArray, .pointer (some ⟨rt, 0, none⟩), .int .i64 fr, .agg (cP p).toArray, .agg [yy.vo, yy.vl].toArray, .bool true, .bool true, .bool true, .pointer (some ⟨t1, 0, none⟩), vz, .pointer (some ⟨rt, 0, none⟩), .pointer (some ⟨rt, 0, none⟩), .pointer (some ⟨rt, 0 + 0, none⟩), v2, .bool true, .bool true]) (fun m x => match x with | ⟨yy, v2, l2, vz, lz⟩ => fun w1 => ((m 6 = true → (dropT (laidL 128 xs) fr p).1.is yy ∧ Vec 55 51 v2 (ordE (dropT (laidL 128 xs) fr p).2).length (fE (ordE (dropT (laidL 128 xs) fr p).2)) l2) ∧ (m 11 = true → Vec 55 51 vz (ordE (dropT (laidL 128 xs) fr p).2).length (fE (ordE (dropT (laidL 128 xs) fr p).2)) lz) ∧ (m 7 = true → m 6 = true) ∧ (m 9 = true → m 6 = true) ∧ (m 15 = true → m 6 = true)) ∧ St w [] ((rt, rtabO (bif m 6 then v2 else .slice ar (ordE (laidL 128 xs)).length cr) 128) :: ((bif m 6 then l2 else lr) ++ ((bif m 6 then yy.lo ++ yy.ll else []) ++ ((bif m 11 then lz else []) ++ ((b9, cb [z.vo, z.vl] 67) :: (t1, tabO 128 m1) :: (m1, .map es2 ck) :: (b5, cb (cP p) 38) :: (z.lo ++ z.ll)))))) w1) Ty.mixed rfl rfl rfl (by kernel_rfl) rfl rfl ?hinit ?hstep ?htail
  case hinit => exact fun w1 hw => ⟨(noS, .slice none 0 0, [], .slice none 0 0, []), ⟨fun h => (by cases h), fun h => (by cases h), fun h => (by cases h), fun h => (by cases h), fun h => (by cases h)⟩, hw.drew⟩
  case hstep =>
    refine ⟨fun m x hm hp => ?_, fun m x hm hp => ?_, fun m x hm hp => ?_, fun m x hm hp => ?_, fun m x hm hp => ?_, fun m x hm hp => ?_, fun m x hm hp => ?_, fun m x hm hp => ?_, fun m x hm hp => ?_, fun m x hm hp => ?_, fun m x hm hp => ?_, fun m x hm hp => ?_, fun m x hm hp => ?_, fun m x hm hp => ?_, fun m x hm hp => ?_, fun m x hm hp => ?_, fun m x hm hp => ?_, fun m x hm hp => ?_, trivial⟩
    · skip
      obtain ⟨yy, v2, l2, vz, lz⟩ := x
      show J _ _ _ _ _ (_) _
      refine J.pr (fun hF => ?_)
      refine J.callB (v := .bool true) (fun w1 w2 hw hb => hw.step hb) Ty.bd29 rfl rfl (fun w1 hw => fixed15_spec w1) ?_
      exact J.finX rfl (fun _ hw => ⟨⟨yy, v2, l2, vz, lz⟩, rfl, fun _ _ _ => rfl, hF, hw⟩)
    · skip
      obtain ⟨yy, v2, l2, vz, lz⟩ := x
      show J _ _ _ _ _ ((19, .bool true) :: (19, .bool true) :: _) _
      refine J.pr (fun hF => ?_)
      refine J.move rfl rfl ?_
      exact J.finX rfl (fun _ hw => ⟨⟨yy, v2, l2, vz, lz⟩, rfl, fun _ _ _ => rfl, hF, hw⟩)
    · skip
      obtain ⟨yy, v2, l2, vz, lz⟩ := x
      show J _ _ _ _ _ ((20, .bool true) :: _) _
      refine J.pr (fun hF => ?_)
      refine J.unguard rfl rfl rfl ?_
      refine J.loadA (vs := [z.vo, z.vl]) Ty.a67 Ty.s67 rfl rfl (fun w1 hw => Cells.of_block (hw.own ((b9, cb [z.vo, z.vl] 67)) (by repeat first | exact .head _ | apply List.Mem.tail | apply List.mem_append_right)) rfl) rfl ?_
      exact J.finX rfl (fun _ hw => ⟨⟨yy, v2, l2, vz, lz⟩, rfl, fun _ _ _ => rfl, hF, hw⟩)
    · skip
      obtain ⟨yy, v2, l2, vz, lz⟩ := x
      show J _ _ _ _ _ ((20, .bool true) :: _) _
      refine J.pr (fun hF => ?_)
      first | refine J.skip rfl rfl rfl rfl rfl ?_ | refine J.skipU rfl rfl rfl rfl ?_ | (refine J.unguard rfl rfl rfl ?_; refine J.move rfl rfl ?_)
      exact J.finX rfl (fun _ hw => ⟨⟨yy, v2, l2, vz, lz⟩, rfl, fun _ _ _ => rfl, hF, hw⟩)
    · skip
      obtain ⟨yy, v2, l2, vz, lz⟩ := x
      show J _ _ _ _ _ ((20, .bool true) :: _) _
      refine J.pr (fun hF => ?_)
      first | refine J.skip rfl rfl rfl rfl rfl ?_ | refine J.skipU rfl rfl rfl rfl ?_ | (refine J.unguard rfl rfl rfl ?_; refine J.move rfl rfl ?_)
      exact J.finX rfl (fun _ hw => ⟨⟨yy, v2, l2, vz, lz⟩, rfl, fun _ _ _ => rfl, hF, hw⟩)
    · skip
      obtain ⟨yy, v2, l2, vz, lz⟩ := x
      show J _ _ _ _ _ ((20, .bool true) :: _) _
      refine J.pr (fun hF => ?_)
      refine J.unguard rfl rfl rfl ?_
      refine J.loadA (vs := cP p) Ty.a38 Ty.s38 rfl rfl (fun w1 hw => Cells.of_block (hw.own ((b5, cb (cP p) 38)) (by repeat first | exact .head _ | apply List.Mem.tail | apply List.mem_append_right)) rfl) rfl ?_
      exact J.finX rfl (fun _ hw => ⟨⟨yy, v2, l2, vz, lz⟩, rfl, fun _ _ _ => rfl, hF, hw⟩)
    · skip
      obtain ⟨yy, v2, l2, vz, lz⟩ := x
      show J _ _ _ _ _ ((20, .bool true) :: (20, .bool true) :: (24, .agg (cP p).toArray) :: (23, .int .i64 fr) :: (22, .pointer (some ⟨rt, 0, none⟩)) :: _) _
      refine J.pr (fun hF => ?_)
      refine J.conseq (I' := St w [] (((rt, rtabO (.slice ar (ordE (laidL 128 xs)).length cr) 128) :: lr) ++ ((bif m 11 then lz else []) ++ ((b9, cb [z.vo, z.vl] 67) :: (t1, tabO 128 m1) :: (m1, .map es2 ck) :: (b5, cb (cP p) 38) :: (z.lo ++ z.ll))))) ?_ (fun w1 hw => by simp only [hm, cond_false, List.nil_append] at hw; exact hw)
      refine J.unguard rfl rfl rfl ?_
      refine J.callS (α := TS × Value × List (Nat × Obj)) (V := fun q => .agg [q.1.vo, q.1.vl].toArray) (Pr := fun q => (dropT (laidL 128 xs) fr p).1.is q.1 ∧ Vec 55 51 q.2.1 (ordE (dropT (laidL 128 xs) fr p).2).length (fE (ordE (dropT (laidL 128 xs) fr p).2)) q.2.2) (L := fun q => (q.1.lo ++ q.1.ll) ++ ((rt, rtabO q.2.1 128) :: q.2.2)) (l1 := (rt, rtabO (.slice ar (ordE (laidL 128 xs)).length cr) 128) :: lr) Ty.bd35 rfl rfl (fun w1 hw => (rdrop_spec rt _ 128 (laidL 128 xs) hT0.dist lr w1 hw.owns hvr (fun x hx => hT0.ok x ((ordE_perm _).mem_iff.1 hx)) (by omega) fr p hpk)) (fun q hq => ?_)
      obtain ⟨yn, vn, ln⟩ := q
      obtain ⟨hyn, hvn⟩ := hq
      simp only at hyn hvn ⊢
      refine J.nil (JX.finB rfl (fun w1 hw => ⟨⟨⟨yn, vn, ln, vz, lz⟩, rfl, fun j h1 h2 => ?_, ?_⟩, trivial⟩))
      · match j, h1 with
        | 0, _ => (first | rfl | trivial)
        | 1, _ => (first | rfl | trivial)
        | 2, _ => (first | rfl | trivial)
        | 3, _ => (first | rfl | trivial)
        | 4, _ => (first | rfl | trivial)
        | 5, _ => (first | rfl | trivial)
        | 6, _ => exact absurd (h2.symm.trans hm) (by decide)
        | 7, _ => (first | rfl | trivial)
        | 8, _ => (first | rfl | trivial)
        | 9, _ => (first | rfl | trivial)
        | 10, _ => (first | rfl | trivial)
        | 11, _ => (first | rfl | trivial)
        | 12, _ => (first | rfl | trivial)
        | 13, _ => (first | rfl | trivial)
        | 14, _ => (first | rfl | trivial)
        | 15, _ => exact absurd ((hF.2.2.2.2 h2).symm.trans hm) (by decide)
        | 16, _ => (first | rfl | trivial)
        | 17, _ => (first | rfl | trivial)
        | j + 18, h1 => omega
      show ((true = true → (dropT (laidL 128 xs) fr p).1.is yn ∧ Vec 55 51 vn (ordE (dropT (laidL 128 xs) fr p).2).length (fE (ordE (dropT (laidL 128 xs) fr p).2)) ln) ∧ (m 11 = true → Vec 55 51 vz (ordE (dropT (laidL 128 xs) fr p).2).length (fE (ordE (dropT (laidL 128 xs) fr p).2)) lz) ∧ (m 7 = true → true = true) ∧ (m 9 = true → true = true) ∧ (m 15 = true → true = true)) ∧ St w [] ((rt, rtabO (bif true then vn else .slice ar (ordE (laidL 128 xs)).length cr) 128) :: ((bif true then ln else lr) ++ ((bif true then yn.lo ++ yn.ll else []) ++ ((bif m 11 then lz else []) ++ ((b9, cb [z.vo, z.vl] 67) :: (t1, tabO 128 m1) :: (m1, .map es2 ck) :: (b5, cb (cP p) 38) :: (z.lo ++ z.ll)))))) w1
      simp only [hm, cond_true, cond_false] at hw ⊢
      exact ⟨⟨fun _ => ⟨hyn, hvn⟩, hF.2.1, fun h => (by first | trivial | rfl), fun h => (by first | trivial | rfl), fun h => (by first | trivial | rfl)⟩, hw.perm (by (refine perm_cnt (fun _ => ?_)); simp only [cntB_append, cntB_cons, cntB_nil, Nat.add_zero, Nat.zero_add]; try ac_rfl)⟩
    · skip
      obtain ⟨yy, v2, l2, vz, lz⟩ := x
      show J _ _ _ _ _ ((20, .bool true) :: (25, .agg [yy.vo, yy.vl].toArray) :: (25, .agg [yy.vo, yy.vl].toArray) :: (21, .agg [z.vo, z.vl].toArray) :: _) _
      have hp6 : m 6 = true := predsT hp (by kernel_rfl)
      have hp6 : m 6 = true := predsT hp (by kernel_rfl)
      refine J.pr (fun hF => ?_)
      have h6 : m 6 = true := hp6
      obtain ⟨hy1, hv1⟩ := hF.1 h6
      refine J.conseq (I' := St w [] ((rt, rtabO v2 128) :: (l2 ++ ((yy.lo ++ yy.ll) ++ ((bif m 11 then lz else []) ++ ((b9, cb [z.vo, z.vl] 67) :: (t1, tabO 128 m1) :: (m1, .map es2 ck) :: (b5, cb (cP p) 38) :: (z.lo ++ z.ll))))))) ?_ (fun w1 hw => by simp only [h6, cond_true] at hw; exact hw)
      refine J.unguard rfl rfl rfl ?_
      refine J.callB (v := .bool true) (fun w1 w2 hw hb => hw.step hb) Ty.bd34 rfl rfl (fun w1 hw => same15_spec (dropT (laidL 128 xs) fr p).1 _ _ _ _ w1 (vec_rowM hz.1 hw (fun q hq => by first | (simp [hq]; done) | (simp at hq; simp [hq]; done) | (simp at hq; subst hq; simp))) (vec_rowM hz.2 hw (fun q hq => by first | (simp [hq]; done) | (simp at hq; simp [hq]; done) | (simp at hq; subst hq; simp))) (vec_rowM hy1.1 hw (fun q hq => by first | (simp [hq]; done) | (simp at hq; simp [hq]; done) | (simp at hq; subst hq; simp))) (vec_rowM hy1.2 hw (fun q hq => by first | (simp [hq]; done) | (simp at hq; simp [hq]; done) | (simp at hq; subst hq; simp))) (ok_drop hpk) len_drop _ _ rfl rfl) ?_
      refine J.nil (JX.finB rfl (fun w1 hw => ⟨⟨⟨yy, v2, l2, vz, lz⟩, rfl, fun j h1 h2 => ?_, ?_⟩, trivial⟩))
      · match j, h1 with
        | 0, _ => (first | rfl | trivial)
        | 1, _ => (first | rfl | trivial)
        | 2, _ => (first | rfl | trivial)
        | 3, _ => (first | rfl | trivial)
        | 4, _ => (first | rfl | trivial)
        | 5, _ => (first | rfl | trivial)
        | 6, _ => (first | rfl | trivial)
        | 7, _ => (first | rfl | trivial)
        | 8, _ => (first | rfl | trivial)
        | 9, _ => (first | rfl | trivial)
        | 10, _ => (first | rfl | trivial)
        | 11, _ => (first | rfl | trivial)
        | 12, _ => (first | rfl | trivial)
        | 13, _ => (first | rfl | trivial)
        | 14, _ => (first | rfl | trivial)
        | 15, _ => (first | rfl | trivial)
        | 16, _ => (first | rfl | trivial)
        | 17, _ => (first | rfl | trivial)
        | j + 18, h1 => omega
      show ((m 6 = true → (dropT (laidL 128 xs) fr p).1.is yy ∧ Vec 55 51 v2 (ordE (dropT (laidL 128 xs) fr p).2).length (fE (ordE (dropT (laidL 128 xs) fr p).2)) l2) ∧ (m 11 = true → Vec 55 51 vz (ordE (dropT (laidL 128 xs) fr p).2).length (fE (ordE (dropT (laidL 128 xs) fr p).2)) lz) ∧ (true = true → m 6 = true) ∧ (m 9 = true → m 6 = true) ∧ (m 15 = true → m 6 = true)) ∧ St w [] ((rt, rtabO (bif m 6 then v2 else .slice ar (ordE (laidL 128 xs)).length cr) 128) :: ((bif m 6 then l2 else lr) ++ ((bif m 6 then yy.lo ++ yy.ll else []) ++ ((bif m 11 then lz else []) ++ ((b9, cb [z.vo, z.vl] 67) :: (t1, tabO 128 m1) :: (m1, .map es2 ck) :: (b5, cb (cP p) 38) :: (z.lo ++ z.ll)))))) w1
      simp only [h6, cond_true] at hw ⊢
      exact ⟨⟨fun _ => hF.1 h6, hF.2.1, fun _ => (by first | trivial | rfl), fun h => (by first | trivial | rfl), fun h => (by first | trivial | rfl)⟩, hw⟩
    · skip
      obtain ⟨yy, v2, l2, vz, lz⟩ := x
      show J _ _ _ _ _ ((26, .bool true) :: (20, .bool true) :: _) _
      have hp7 : m 7 = true := predsT hp (by kernel_rfl)
      refine J.pr (fun hF => ?_)
      (first | refine J.pickT rfl rfl rfl ?_ | refine J.pickF rfl rfl rfl ?_)
      exact J.finX rfl (fun _ hw => ⟨⟨yy, v2, l2, vz, lz⟩, rfl, fun _ _ _ => rfl, hF, hw⟩)
    · skip
      obtain ⟨yy, v2, l2, vz, lz⟩ := x
      show J _ _ _ _ _ ((26, .bool true) :: (27, .bool true) :: _) _
      have hp7 : m 7 = true := predsT hp (by kernel_rfl)
      refine J.pr (fun hF => ?_)
      refine J.move rfl rfl ?_
      refine J.nil (JX.finB rfl (fun w1 hw => ⟨⟨⟨yy, v2, l2, vz, lz⟩, rfl, fun j h1 h2 => ?_, ?_⟩, trivial⟩))
      · match j, h1 with
        | 0, _ => (first | rfl | trivial)
        | 1, _ => (first | rfl | trivial)
        | 2, _ => (first | rfl | trivial)
        | 3, _ => (first | rfl | trivial)
        | 4, _ => (first | rfl | trivial)
        | 5, _ => (first | rfl | trivial)
        | 6, _ => (first | rfl | trivial)
        | 7, _ => (first | rfl | trivial)
        | 8, _ => (first | rfl | trivial)
        | 9, _ => (first | rfl | trivial)
        | 10, _ => (first | rfl | trivial)
        | 11, _ => (first | rfl | trivial)
        | 12, _ => (first | rfl | trivial)
        | 13, _ => (first | rfl | trivial)
        | 14, _ => (first | rfl | trivial)
        | 15, _ => (first | rfl | trivial)
        | 16, _ => (first | rfl | trivial)
        | 17, _ => (first | rfl | trivial)
        | j + 18, h1 => omega
      show ((m 6 = true → (dropT (laidL 128 xs) fr p).1.is yy ∧ Vec 55 51 v2 (ordE (dropT (laidL 128 xs) fr p).2).length (fE (ordE (dropT (laidL 128 xs) fr p).2)) l2) ∧ (m 11 = true → Vec 55 51 vz (ordE (dropT (laidL 128 xs) fr p).2).length (fE (ordE (dropT (laidL 128 xs) fr p).2)) lz) ∧ (m 7 = true → m 6 = true) ∧ (true = true → m 6 = true) ∧ (m 15 = true → m 6 = true)) ∧ St w [] ((rt, rtabO (bif m 6 then v2 else .slice ar (ordE (laidL 128 xs)).length cr) 128) :: ((bif m 6 then l2 else lr) ++ ((bif m 6 then yy.lo ++ yy.ll else []) ++ ((bif m 11 then lz else []) ++ ((b9, cb [z.vo, z.vl] 67) :: (t1, tabO 128 m1) :: (m1, .map es2 ck) :: (b5, cb (cP p) 38) :: (z.lo ++ z.ll)))))) w1
      exact ⟨⟨hF.1, hF.2.1, hF.2.2.1, fun _ => hF.2.2.1 hp7, hF.2.2.2.2⟩, hw⟩
    · skip
      obtain ⟨yy, v2, l2, vz, lz⟩ := x
      show J _ _ _ _ _ ((28, .bool true) :: _) _
      have hp9 : m 9 = true := predsT hp (by kernel_rfl)
      refine J.pr (fun hF => ?_)
      first | refine J.skip rfl rfl rfl rfl rfl ?_ | refine J.skipU rfl rfl rfl rfl ?_ | (refine J.unguard rfl rfl rfl ?_; refine J.move rfl rfl ?_)
      exact J.finX rfl (fun _ hw => ⟨⟨yy, v2, l2, vz, lz⟩, rfl, fun _ _ _ => rfl, hF, hw⟩)
    · skip
      obtain ⟨yy, v2, l2, vz, lz⟩ := x
      show J _ _ _ _ _ ((28, .bool true) :: (28, .bool true) :: (29, .pointer (some ⟨t1, 0, none⟩)) :: _) _
      have hp9 : m 9 = true := predsT hp (by kernel_rfl)
      have hp9 : m 9 = true := predsT hp (by kernel_rfl)
      refine J.pr (fun hF => ?_)
      refine J.conseq (I' := St w [] ((rt, rtabO (bif m 6 then v2 else .slice ar (ordE (laidL 128 xs)).length cr) 128) :: ((bif m 6 then l2 else lr) ++ ((bif m 6 then yy.lo ++ yy.ll else []) ++ ((b9, cb [z.vo, z.vl] 67) :: (t1, tabO 128 m1) :: (m1, .map es2 ck) :: (b5, cb (cP p) 38) :: (z.lo ++ z.ll)))))) ?_ (fun w1 hw => by simp only [hm, cond_false] at hw; exact hw)
      refine J.unguard rfl rfl rfl ?_
      refine J.perm ([] ++ ((rt, rtabO (bif m 6 then v2 else .slice ar (ordE (laidL 128 xs)).length cr) 128) :: ((bif m 6 then l2 else lr) ++ ((bif m 6 then yy.lo ++ yy.ll else []) ++ ((b9, cb [z.vo, z.vl] 67) :: (t1, tabO 128 m1) :: (m1, .map es2 ck) :: (b5, cb (cP p) 38) :: (z.lo ++ z.ll)))))) (.refl _) ?_
      refine J.callS (α := Value × List (Nat × Obj)) (V := (·.1)) (Pr := fun x => Vec 55 51 x.1 (ordE (dropT (laidL 128 xs) fr p).2).length (fE (ordE (dropT (laidL 128 xs) fr p).2)) x.2) (L := (·.2)) (l1 := []) Ty.bd37 rfl rfl (fun w1 hw => all_spec t1 m1 128 ((dropT (laidL 128 xs) fr p).2) es2 ck w1 (hw.own ((t1, tabO 128 m1)) (by repeat first | exact .head _ | apply List.Mem.tail | apply List.mem_append_right)) (hw.own ((m1, .map es2 ck)) (by repeat first | exact .head _ | apply List.Mem.tail | apply List.mem_append_right)) hT2 hl2) (fun x hvzn => ?_)
      obtain ⟨vzn, lzn⟩ := x
      simp only at hvzn ⊢
      refine J.nil (JX.finB rfl (fun w1 hw => ⟨⟨⟨yy, v2, l2, vzn, lzn⟩, rfl, fun j h1 h2 => ?_, ?_⟩, trivial⟩))
      · match j, h1 with
        | 0, _ => (first | rfl | trivial)
        | 1, _ => (first | rfl | trivial)
        | 2, _ => (first | rfl | trivial)
        | 3, _ => (first | rfl | trivial)
        | 4, _ => (first | rfl | trivial)
        | 5, _ => (first | rfl | trivial)
        | 6, _ => (first | rfl | trivial)
        | 7, _ => (first | rfl | trivial)
        | 8, _ => (first | rfl | trivial)
        | 9, _ => (first | rfl | trivial)
        | 10, _ => (first | rfl | trivial)
        | 11, _ => exact absurd (h2.symm.trans hm) (by decide)
        | 12, _ => (first | rfl | trivial)
        | 13, _ => (first | rfl | trivial)
        | 14, _ => (first | rfl | trivial)
        | 15, _ => (first | rfl | trivial)
        | 16, _ => (first | rfl | trivial)
        | 17, _ => (first | rfl | trivial)
        | j + 18, h1 => omega
      show ((m 6 = true → (dropT (laidL 128 xs) fr p).1.is yy ∧ Vec 55 51 v2 (ordE (dropT (laidL 128 xs) fr p).2).length (fE (ordE (dropT (laidL 128 xs) fr p).2)) l2) ∧ (true = true → Vec 55 51 vzn (ordE (dropT (laidL 128 xs) fr p).2).length (fE (ordE (dropT (laidL 128 xs) fr p).2)) lzn) ∧ (m 7 = true → m 6 = true) ∧ (m 9 = true → m 6 = true) ∧ (m 15 = true → m 6 = true)) ∧ St w [] ((rt, rtabO (bif m 6 then v2 else .slice ar (ordE (laidL 128 xs)).length cr) 128) :: ((bif m 6 then l2 else lr) ++ ((bif m 6 then yy.lo ++ yy.ll else []) ++ ((bif true then lzn else []) ++ ((b9, cb [z.vo, z.vl] 67) :: (t1, tabO 128 m1) :: (m1, .map es2 ck) :: (b5, cb (cP p) 38) :: (z.lo ++ z.ll)))))) w1
      simp only [hm, cond_true, cond_false] at hw ⊢
      exact ⟨⟨hF.1, fun _ => hvzn, hF.2.2⟩, hw.perm (by (refine perm_cnt (fun _ => ?_)); simp only [cntB_append, cntB_cons, cntB_nil, Nat.add_zero, Nat.zero_add]; try ac_rfl)⟩
    · skip
      obtain ⟨yy, v2, l2, vz, lz⟩ := x
      show J _ _ _ _ _ ((28, .bool true) :: _) _
      have hp9 : m 9 = true := predsT hp (by kernel_rfl)
      refine J.pr (fun hF => ?_)
      first | refine J.skip rfl rfl rfl rfl rfl ?_ | refine J.skipU rfl rfl rfl rfl ?_ | (refine J.unguard rfl rfl rfl ?_; refine J.move rfl rfl ?_)
      exact J.finX rfl (fun _ hw => ⟨⟨yy, v2, l2, vz, lz⟩, rfl, fun _ _ _ => rfl, hF, hw⟩)
    · skip
      obtain ⟨yy, v2, l2, vz, lz⟩ := x
      show J _ _ _ _ _ ((28, .bool true) :: (31, .pointer (some ⟨rt, 0, none⟩)) :: _) _
      have hp9 : m 9 = true := predsT hp (by kernel_rfl)
      refine J.pr (fun hF => ?_)
      first | refine J.skip rfl rfl rfl rfl rfl ?_ | refine J.skipU rfl rfl rfl rfl ?_ | (refine J.unguard rfl rfl rfl ?_; refine J.nilCheck rfl rfl ?_)
      exact J.finX rfl (fun _ hw => ⟨⟨yy, v2, l2, vz, lz⟩, rfl, fun _ _ _ => rfl, hF, hw⟩)
    · skip
      obtain ⟨yy, v2, l2, vz, lz⟩ := x
      show J _ _ _ _ _ ((28, .bool true) :: (32, .pointer (some ⟨rt, 0, none⟩)) :: _) _
      have hp9 : m 9 = true := predsT hp (by kernel_rfl)
      refine J.pr (fun hF => ?_)
      first | refine J.skip rfl rfl rfl rfl rfl ?_ | refine J.skipU rfl rfl rfl rfl ?_ | (refine J.unguard rfl rfl rfl ?_; refine J.fieldAddr Ty.fd94_0 rfl rfl ?_)
      exact J.finX rfl (fun _ hw => ⟨⟨yy, v2, l2, vz, lz⟩, rfl, fun _ _ _ => rfl, hF, hw⟩)
    · skip
      obtain ⟨yy, v2, l2, vz, lz⟩ := x
      show J _ _ _ _ _ ((28, .bool true) :: (33, .pointer (some ⟨rt, 0 + 0, none⟩)) :: _) _
      have hp9 : m 9 = true := predsT hp (by kernel_rfl)
      refine J.pr (fun hF => ?_)
      have h6 : m 6 = true := hF.2.2.2.1 hp9
      obtain ⟨hy1, hv1⟩ := hF.1 h6
      refine J.conseq (I' := St w [] ((rt, rtabO v2 128) :: (l2 ++ ((yy.lo ++ yy.ll) ++ ((bif m 11 then lz else []) ++ ((b9, cb [z.vo, z.vl] 67) :: (t1, tabO 128 m1) :: (m1, .map es2 ck) :: (b5, cb (cP p) 38) :: (z.lo ++ z.ll))))))) ?_ (fun w1 hw => by simp only [h6, cond_true] at hw; exact hw)
      refine J.unguard rfl rfl rfl ?_
      refine J.load1 (v := v2) Ty.a25 rfl (fun w1 hw => (cell_of (hw.own (rt, rtabO v2 128) (by repeat first | exact .head _ | apply List.Mem.tail | apply List.mem_append_right))).trans rfl) rfl ?_
      refine J.nil (JX.finB rfl (fun w1 hw => ⟨⟨⟨yy, v2, l2, vz, lz⟩, rfl, fun j h1 h2 => ?_, ?_⟩, trivial⟩))
      · match j, h1 with
        | 0, _ => (first | rfl | trivial)
        | 1, _ => (first | rfl | trivial)
        | 2, _ => (first | rfl | trivial)
        | 3, _ => (first | rfl | trivial)
        | 4, _ => (first | rfl | trivial)
        | 5, _ => (first | rfl | trivial)
        | 6, _ => (first | rfl | trivial)
        | 7, _ => (first | rfl | trivial)
        | 8, _ => (first | rfl | trivial)
        | 9, _ => (first | rfl | trivial)
        | 10, _ => (first | rfl | trivial)
        | 11, _ => (first | rfl | trivial)
        | 12, _ => (first | rfl | trivial)
        | 13, _ => (first | rfl | trivial)
        | 14, _ => (first | rfl | trivial)
        | 15, _ => (first | rfl | trivial)
        | 16, _ => (first | rfl | trivial)
        | 17, _ => (first | rfl | trivial)
        | j + 18, h1 => omega
      show ((m 6 = true → (dropT (laidL 128 xs) fr p).1.is yy ∧ Vec 55 51 v2 (ordE (dropT (laidL 128 xs) fr p).2).length (fE (ordE (dropT (laidL 128 xs) fr p).2)) l2) ∧ (m 11 = true → Vec 55 51 vz (ordE (dropT (laidL 128 xs) fr p).2).length (fE (ordE (dropT (laidL 128 xs) fr p).2)) lz) ∧ (m 7 = true → m 6 = true) ∧ (m 9 = true → m 6 = true) ∧ (true = true → m 6 = true)) ∧ St w [] ((rt, rtabO (bif m 6 then v2 else .slice ar (ordE (laidL 128 xs)).length cr) 128) :: ((bif m 6 then l2 else lr) ++ ((bif m 6 then yy.lo ++ yy.ll else []) ++ ((bif m 11 then lz else []) ++ ((b9, cb [z.vo, z.vl] 67) :: (t1, tabO 128 m1) :: (m1, .map es2 ck) :: (b5, cb (cP p) 38) :: (z.lo ++ z.ll)))))) w1
      simp only [h6, cond_true] at hw ⊢
      exact ⟨⟨fun _ => hF.1 h6, hF.2.1, fun h => (by first | trivial | rfl), fun h => (by first | trivial | rfl), fun h => (by first | trivial | rfl)⟩, hw⟩
    · skip
      obtain ⟨yy, v2, l2, vz, lz⟩ := x
      show J _ _ _ _ _ ((28, .bool true) :: (30, vz) :: (34, v2) :: (30, vz) :: _) _
      have hp11 : m 11 = true := predsT hp (by kernel_rfl)
      have hp15 : m 15 = true := predsT hp (by kernel_rfl)
      have hp11 : m 11 = true := predsT hp (by kernel_rfl)
      have hp9 : m 9 = true := predsT hp (by kernel_rfl)
      refine J.pr (fun hF => ?_)
      have h6 : m 6 = true := hF.2.2.2.2 hp15
      obtain ⟨hy1, hv1⟩ := hF.1 h6
      have hvz1 := hF.2.1 hp11
      refine J.conseq (I' := St w [] ((rt, rtabO v2 128) :: (l2 ++ ((yy.lo ++ yy.ll) ++ (lz ++ ((b9, cb [z.vo, z.vl] 67) :: (t1, tabO 128 m1) :: (m1, .map es2 ck) :: (b5, cb (cP p) 38) :: (z.lo ++ z.ll))))))) ?_ (fun w1 hw => by simp only [h6, hp11, cond_true] at hw; exact hw)
      refine J.unguard rfl rfl rfl ?_
      refine J.callB (v := .bool true) (fun w1 w2 hw hb => hw.step hb) Ty.bd36 rfl rfl (fun w1 hw => (by have h := rsame_spec _ _ (ordE (dropT (laidL 128 xs) fr p).2) (ordE (dropT (laidL 128 xs) fr p).2) w1 (vec_rowM hvz1 hw (fun q hq => by first | (simp [hq]; done) | (simp at hq; simp [hq]; done) | (simp at hq; subst hq; simp))) (vec_rowM hv1 hw (fun q hq => by first | (simp [hq]; done) | (simp at hq; simp [hq]; done) | (simp at hq; subst hq; simp))) (ordE_ok hT2) (ordE_ok hT2) (by omega) (by omega); simpa using h)) ?_
      refine J.nil (JX.finB rfl (fun w1 hw => ⟨⟨⟨yy, v2, l2, vz, lz⟩, rfl, fun j h1 h2 => ?_, ?_⟩, trivial⟩))
      · match j, h1 with
        | 0, _ => (first | rfl | trivial)
        | 1, _ => (first | rfl | trivial)
        | 2, _ => (first | rfl | trivial)
        | 3, _ => (first | rfl | trivial)
        | 4, _ => (first | rfl | trivial)
        | 5, _ => (first | rfl | trivial)
        | 6, _ => (first | rfl | trivial)
        | 7, _ => (first | rfl | trivial)
        | 8, _ => (first | rfl | trivial)
        | 9, _ => (first | rfl | trivial)
        | 10, _ => (first | rfl | trivial)
        | 11, _ => (first | rfl | trivial)
        | 12, _ => (first | rfl | trivial)
        | 13, _ => (first | rfl | trivial)
        | 14, _ => (first | rfl | trivial)
        | 15, _ => (first | rfl | trivial)
        | 16, _ => (first | rfl | trivial)
        | 17, _ => (first | rfl | trivial)
        | j + 18, h1 => omega
      show ((m 6 = true → (dropT (laidL 128 xs) fr p).1.is yy ∧ Vec 55 51 v2 (ordE (dropT (laidL 128 xs) fr p).2).length (fE (ordE (dropT (laidL 128 xs) fr p).2)) l2) ∧ (m 11 = true → Vec 55 51 vz (ordE (dropT (laidL 128 xs) fr p).2).length (fE (ordE (dropT (laidL 128 xs) fr p).2)) lz) ∧ (m 7 = true → m 6 = true) ∧ (m 9 = true → m 6 = true) ∧ (m 15 = true → m 6 = true)) ∧ St w [] ((rt, rtabO (bif m 6 then v2 else .slice ar (ordE (laidL 128 xs)).length cr) 128) :: ((bif m 6 then l2 else lr) ++ ((bif m 6 then yy.lo ++ yy.ll else []) ++ ((bif m 11 then lz else []) ++ ((b9, cb [z.vo, z.vl] 67) :: (t1, tabO 128 m1) :: (m1, .map es2 ck) :: (b5, cb (cP p) 38) :: (z.lo ++ z.ll)))))) w1
      simp only [h6, hp11, cond_true] at hw ⊢
      exact ⟨⟨fun _ => hF.1 h6, fun _ => hvz1, fun h => (by first | trivial | rfl), fun h => (by first | trivial | rfl), fun h => (by first | trivial | rfl)⟩, hw⟩
    · skip
      obtain ⟨yy, v2, l2, vz, lz⟩ := x
      show J _ _ _ _ _ ((35, .bool true) :: (28, .bool true) :: _) _
      have hp9 : m 9 = true := predsT hp (by kernel_rfl)
      refine J.pr (fun hF => ?_)
      (first | refine J.pickT rfl rfl rfl ?_ | refine J.pickF rfl rfl rfl ?_)
      exact J.finX rfl (fun _ hw => ⟨⟨yy, v2, l2, vz, lz⟩, rfl, fun _ _ _ => rfl, hF, hw⟩)
  case htail =>
    intro x
    obtain ⟨yy, v2, l2, vz, lz⟩ := x
    show J _ _ _ _ _ ((36, .bool true) :: (35, .bool true) :: (34, v2) :: (33, .pointer (some ⟨rt, 0 + 0, none⟩)) :: (32, .pointer (some ⟨rt, 0, none⟩)) :: (31, .pointer (some ⟨rt, 0, none⟩)) :: (30, vz) :: (29, .pointer (some ⟨t1, 0, none⟩)) :: (28, .bool true) :: (27, .bool true) :: (26, .bool true) :: (25, .agg [yy.vo, yy.vl].toArray) :: (24, .agg (cP p).toArray) :: (23, .int .i64 fr) :: (22, .pointer (some ⟨rt, 0, none⟩)) :: (21, .agg [z.vo, z.vl].toArray) :: (20, .bool true) :: (19, .bool true) :: _) (fun w1 => ((true = true → (dropT (laidL 128 xs) fr p).1.is yy ∧ Vec 55 51 v2 (ordE (dropT (laidL 128 xs) fr p).2).length (fE (ordE (dropT (laidL 128 xs) fr p).2)) l2) ∧ (true = true → Vec 55 51 vz (ordE (dropT (laidL 128 xs) fr p).2).length (fE (ordE (dropT (laidL 128 xs) fr p).2)) lz) ∧ (true = true → true = true) ∧ (true = true → true = true) ∧ (true = true → true = true)) ∧ St w [] ((rt, rtabO (bif true then v2 else .slice ar (ordE (laidL 128 xs)).length cr) 128) :: ((bif true then l2 else lr) ++ ((bif true then yy.lo ++ yy.ll else []) ++ ((bif true then lz else []) ++ ((b9, cb [z.vo, z.vl] 67) :: (t1, tabO 128 m1) :: (m1, .map es2 ck) :: (b5, cb (cP p) 38) :: (z.lo ++ z.ll)))))) w1)
    refine J.pr (fun hF => ?_)
    refine J.assign rfl rfl ?_
    refine J.nil ?_
    refine JX.thenN (hK3 _ _ ?_)
    refine JC.ret ?_
    refine JX.ret1 rfl rfl (fun w hw => ?_)
    exact ⟨rfl, (hw.drop (List.nil_sublist _)).below⟩

set_option maxHeartbeats 2000000 in
theorem tearDies_spec (v : Value) (xs : List EV) (w : World) (hrv : Row w v xs.length (fE xs)) (hok : ∀ x, x ∈ xs → okE x) (hxl : xs.length ≤ 1954687338213) (n : Int) :
    Calls Try.prog 11 [v, .int .i64 n].toArray w fun r w' => r = .returned (.bool true) ∧ Bel w w' := by
  obtain ⟨av, cv, rfl, hcv, _⟩ := id hrv
  refine calls_of_J (args := [.slice av xs.length cv, .int .i64 n]) (e := [(0, .slice av xs.length cv), (1, .int .i64 n)]) Try.func11 rfl rfl ⟨rfl, rfl, trivial⟩ (St.start w) ?_
  refine JC.seq (fun K0 hK0 => ?_)
  refine JC.region ?_
  refine J.assign rfl rfl ?_
  refine J.nil ?_
  refine JX.thenN (hK0 _ _ ?_)
  refine JC.seq (fun K1 hK1 => ?_)
  refine JC.region ?_
  refine J.move rfl rfl ?_
  refine J.perm ([] ++ ([])) (.refl _) ?_
  refine J.callS (α := LaidS) (V := fun x => .tuple #[.pointer (some ⟨x.t1, 0, none⟩), .pointer (some ⟨x.rt, 0, none⟩)]) (Pr := fun x => Tab (laidL 128 (xs)) x.es x.ck ∧ Vec 55 51 x.vr (ordE (laidL 128 (xs))).length (fE (ordE (laidL 128 (xs)))) x.lr) (L := fun x => x.blk 128) (l1 := []) Ty.bd33 rfl rfl (fun w1 hw => laid15_spec _ (xs) w1 (hrv.below (hw.drop (List.nil_sublist _)).below) hok hxl) (fun x hx9 => ?_)
  obtain ⟨t1, m1, rt, es, ck, vr, lr⟩ := x
  obtain ⟨hT, hvr⟩ := hx9
  simp only [LaidS.blk, List.cons_append] at hT hvr ⊢
  have hgood := laidL_good 128 xs
  have hl128 : (laidL 128 xs).length ≤ 128 := by have := hgood.len; omega
  have hol := (ordE_perm (laidL 128 xs)).length_eq
  obtain ⟨ar, cr, rfl, hcr⟩ := hvr.form
  refine J.perm ((t1, tabO 128 m1) :: (m1, .map es ck) :: (rt, rtabO (.slice ar (ordE (laidL 128 xs)).length cr) 128) :: (lr)) (by (refine perm_cnt (fun _ => ?_)); simp only [cntB_append, cntB_cons, cntB_nil, Nat.add_zero, Nat.zero_add]; try ac_rfl) ?_
  have hT0 := hT
  refine J.move rfl rfl ?_
  refine J.extract rfl rfl rfl ?_
  refine J.extract rfl rfl rfl ?_
  refine J.assign rfl rfl ?_
  refine J.assign rfl rfl ?_
  refine J.nil ?_
  refine JX.thenN (hK1 _ _ ?_)
  refine JC.seq (fun K2 hK2 => ?_)
  refine JC.region ?_
  refine J.move rfl rfl ?_
  refine J.move rfl rfl ?_
  refine J.perm ([(t1, tabO 128 m1), (m1, .map es ck)] ++ ((rt, rtabO (.slice ar (ordE (laidL 128 xs)).length cr) 128) :: (lr))) (by (refine perm_cnt (fun _ => ?_)); simp only [cntB_append, cntB_cons, cntB_nil, Nat.add_zero, Nat.zero_add]; try ac_rfl) ?_
  refine J.callS (α := TS × Array MapEntry) (V := fun y => .agg [y.1.vo, y.1.vl].toArray) (Pr := fun y => (deadT (laidL 128 xs) n).1.is y.1 ∧ Tab (deadT (laidL 128 xs) n).2 y.2 ck) (L := fun y => (y.1.lo ++ y.1.ll) ++ [(t1, tabO 128 m1), (m1, .map y.2 ck)]) (l1 := [(t1, tabO 128 m1), (m1, .map es ck)]) Ty.bd30 rfl rfl (fun w1 hw => tdead_spec t1 m1 128 (laidL 128 xs) es ck w1 hw.owns hT hl128 n) (fun z hz => ?_)
  obtain ⟨z, es2⟩ := z
  obtain ⟨hz, hT2⟩ := hz
  simp only [List.cons_append, List.nil_append] at hz hT2 ⊢
  refine J.alloc zTo rfl rfl (fun b7 => ?_)
  refine J.storeW (cs := [nilV, nilV]) (vs := [z.vo, z.vl]) Ty.s67 rfl rfl rfl rfl rfl (two_one hz) .here ?_
  have hl2 : (deadT (laidL 128 xs) n).2.length ≤ 1099511627776 := dead_len2 _ _ hl128
  have hol2 := (ordE_perm (deadT (laidL 128 xs) n).2).length_eq
  have hl3 : (ordE (deadT (laidL 128 xs) n).2).length < 4611686018427387904 := by omega
  refine J.perm ((rt, rtabO (.slice ar (ordE (laidL 128 xs)).length cr) 128) :: (lr ++ ((b7, cb [z.vo, z.vl] 67) :: (t1, tabO 128 m1) :: (m1, .map es2 ck) :: (z.lo ++ z.ll)))) (by (refine perm_cnt (fun _ => ?_)); simp only [cntB_append, cntB_cons, cntB_nil, Nat.add_zero, Nat.zero_add]; try ac_rfl) ?_
  refine J.nil ?_
  refine JX.thenN (hK2 _ _ ?_)
  refine JC.seq (fun K3 hK3 => ?_)
  apply JC.drawX (α := TS × Value × List (Nat × Obj) × Value × List (Nat × Obj)) 17 (fun x => match x with | ⟨yy, v2, l2, vz, lz⟩ => [.bool true, .bool true, .agg [z.vo, z.vl].toArray, .pointer (some ⟨rt, 0, none⟩), .int .i64 n, .agg [yy.vo, yy.vl].toArray, .bool true, .bool true, .bool true, .pointer (some ⟨t1, 0, none⟩), vz, .pointer (some ⟨rt, 0, none⟩), .pointer (some ⟨rt, 0, none⟩), .pointer (some ⟨rt, 0 + 0, none⟩), v2, .bool true, .bool true]) (fun m x => match x with | ⟨yy, v2, l2, vz, lz⟩ => fun w1 => ((m 5 = true → (deadT (laidL 128 xs) n).1.is yy ∧ Vec 55 51 v2 (ordE (deadT (laidL 128 xs) n).2).length (fE (ordE (deadT (laidL 128 xs) n).2)) l2) ∧ (m 10 = true → Vec 55 51 vz (ordE (deadT (laidL 128 xs) n).2).length (fE (ordE (deadT (laidL 128 xs) n).2)) lz) ∧ (m 6 = true → m 5 = true) ∧ (m 8 = true → m 5 = true) ∧ (m 14 = true → m 5 = true)) ∧ St w [] ((rt, rtabO (bif m 5 then v2 else .slice ar (ordE (laidL 128 xs)).length cr) 128) :: ((bif m 5 then l2 else lr) ++ ((bif m 5 then yy.lo ++ yy.ll else []) ++ ((bif m 10 then lz else []) ++ ((b7, cb [z.vo, z.vl] 67) :: (t1, tabO 128 m1) :: (m1, .map es2 ck) :: (z.lo ++ z.ll)))))) w1) Ty.mixed rfl rfl rfl (by kernel_rfl) rfl rfl ?hinit ?hstep ?htail
  case hinit => exact fun w1 hw => ⟨(noS, .slice none 0 0, [], .slice none 0 0, []), ⟨fun h => (by cases h), fun h => (by cases h), fun h => (by cases h), fun h => (by cases h), fun h => (by cases h)⟩, hw.drew⟩
  case hstep =>
    refine ⟨fun m x hm hp => ?_, fun m x hm hp => ?_, fun m x hm hp => ?_, fun m x hm hp => ?_, fun m x hm hp => ?_, fun m x hm hp => ?_, fun m x hm hp => ?_, fun m x hm hp => ?_, fun m x hm hp => ?_, fun m x hm hp => ?_, fun m x hm hp => ?_, fun m x hm hp => ?_, fun m x hm hp => ?_, fun m x hm hp => ?_, fun m x hm hp => ?_, fun m x hm hp => ?_, fun m x hm hp => ?_, trivial⟩
    · skip
      obtain ⟨yy, v2, l2, vz, lz⟩ := x
      show J _ _ _ _ _ (_) _
      refine J.pr (fun hF => ?_)
      refine J.callB (v := .bool true) (fun w1 w2 hw hb => hw.step hb) Ty.bd29 rfl rfl (fun w1 hw => fixed15_spec w1) ?_
      exact J.finX rfl (fun _ hw => ⟨⟨yy, v2, l2, vz, lz⟩, rfl, fun _ _ _ => rfl, hF, hw⟩)
    · skip
      obtain ⟨yy, v2, l2, vz, lz⟩ := x
      show J _ _ _ _ _ ((16, .bool true) :: (16, .bool true) :: _) _
      refine J.pr (fun hF => ?_)
      refine J.move rfl rfl ?_
      exact J.finX rfl (fun _ hw => ⟨⟨yy, v2, l2, vz, lz⟩, rfl, fun _ _ _ => rfl, hF, hw⟩)
    · skip
      obtain ⟨yy, v2, l2, vz, lz⟩ := x
      show J _ _ _ _ _ ((17, .bool true) :: _) _
      refine J.pr (fun hF => ?_)
      refine J.unguard rfl rfl rfl ?_
      refine J.loadA (vs := [z.vo, z.vl]) Ty.a67 Ty.s67 rfl rfl (fun w1 hw => Cells.of_block (hw.own ((b7, cb [z.vo, z.vl] 67)) (by repeat first | exact .head _ | apply List.Mem.tail | apply List.mem_append_right)) rfl) rfl ?_
      exact J.finX rfl (fun _ hw => ⟨⟨yy, v2, l2, vz, lz⟩, rfl, fun _ _ _ => rfl, hF, hw⟩)
    · skip
      obtain ⟨yy, v2, l2, vz, lz⟩ := x
      show J _ _ _ _ _ ((17, .bool true) :: _) _
      refine J.pr (fun hF => ?_)
      first | refine J.skip rfl rfl rfl rfl rfl ?_ | refine J.skipU rfl rfl rfl rfl ?_ | (refine J.unguard rfl rfl rfl ?_; refine J.move rfl rfl ?_)
      exact J.finX rfl (fun _ hw => ⟨⟨yy, v2, l2, vz, lz⟩, rfl, fun _ _ _ => rfl, hF, hw⟩)
    · skip
      obtain ⟨yy, v2, l2, vz, lz⟩ := x
      show J _ _ _ _ _ ((17, .bool true) :: _) _
      refine J.pr (fun hF => ?_)
      first | refine J.skip rfl rfl rfl rfl rfl ?_ | refine J.skipU rfl rfl rfl rfl ?_ | (refine J.unguard rfl rfl rfl ?_; refine J.move rfl rfl ?_)
      exact J.finX rfl (fun _ hw => ⟨⟨yy, v2, l2, vz, lz⟩, rfl, fun _ _ _ => rfl, hF, hw⟩)
    · skip
      obtain ⟨yy, v2, l2, vz, lz⟩ := x
      show J _ _ _ _ _ ((17, .bool true) :: (17, .bool true) :: (20, .int .i64 n) :: (19, .pointer (some ⟨rt, 0, none⟩)) :: _) _
      refine J.pr (fun hF => ?_)
      refine J.conseq (I' := St w [] (((rt, rtabO (.slice ar (ordE (laidL 128 xs)).length cr) 128) :: lr) ++ ((bif m 10 then lz else []) ++ ((b7, cb [z.vo, z.vl] 67) :: (t1, tabO 128 m1) :: (m1, .map es2 ck) :: (z.lo ++ z.ll))))) ?_ (fun w1 hw => by simp only [hm, cond_false, List.nil_append] at hw; exact hw)
      refine J.unguard rfl rfl rfl ?_
      refine J.callS (α := TS × Value × List (Nat × Obj)) (V := fun q => .agg [q.1.vo, q.1.vl].toArray) (Pr := fun q => (deadT (laidL 128 xs) n).1.is q.1 ∧ Vec 55 51 q.2.1 (ordE (deadT (laidL 128 xs) n).2).length (fE (ordE (deadT (laidL 128 xs) n).2)) q.2.2) (L := fun q => (q.1.lo ++ q.1.ll) ++ ((rt, rtabO q.2.1 128) :: q.2.2)) (l1 := (rt, rtabO (.slice ar (ordE (laidL 128 xs)).length cr) 128) :: lr) Ty.bd38 rfl rfl (fun w1 hw => (rdead_spec rt _ 128 (laidL 128 xs) hT0.dist lr w1 hw.owns hvr (fun x hx => hT0.ok x ((ordE_perm _).mem_iff.1 hx)) (by omega) n)) (fun q hq => ?_)
      obtain ⟨yn, vn, ln⟩ := q
      obtain ⟨hyn, hvn⟩ := hq
      simp only at hyn hvn ⊢
      refine J.nil (JX.finB rfl (fun w1 hw => ⟨⟨⟨yn, vn, ln, vz, lz⟩, rfl, fun j h1 h2 => ?_, ?_⟩, trivial⟩))
      · match j, h1 with
        | 0, _ => (first | rfl | trivial)
        | 1, _ => (first | rfl | trivial)
        | 2, _ => (first | rfl | trivial)
        | 3, _ => (first | rfl | trivial)
        | 4, _ => (first | rfl | trivial)
        | 5, _ => exact absurd (h2.symm.trans hm) (by decide)
        | 6, _ => (first | rfl | trivial)
        | 7, _ => (first | rfl | trivial)
        | 8, _ => (first | rfl | trivial)
        | 9, _ => (first | rfl | trivial)
        | 10, _ => (first | rfl | trivial)
        | 11, _ => (first | rfl | trivial)
        | 12, _ => (first | rfl | trivial)
        | 13, _ => (first | rfl | trivial)
        | 14, _ => exact absurd ((hF.2.2.2.2 h2).symm.trans hm) (by decide)
        | 15, _ => (first | rfl | trivial)
        | 16, _ => (first | rfl | trivial)
        | j + 17, h1 => omega
      show ((true = true → (deadT (laidL 128 xs) n).1.is yn ∧ Vec 55 51 vn (ordE (deadT (laidL 128 xs) n).2).length (fE (ordE (deadT (laidL 128 xs) n).2)) ln) ∧ (m 10 = true → Vec 55 51 vz (ordE (deadT (laidL 128 xs) n).2).length (fE (ordE (deadT (laidL 128 xs) n).2)) lz) ∧ (m 6 = true → true = true) ∧ (m 8 = true → true = true) ∧ (m 14 = true → true = true)) ∧ St w [] ((rt, rtabO (bif true then vn else .slice ar (ordE (laidL 128 xs)).length cr) 128) :: ((bif true then ln else lr) ++ ((bif true then yn.lo ++ yn.ll else []) ++ ((bif m 10 then lz else []) ++ ((b7, cb [z.vo, z.vl] 67) :: (t1, tabO 128 m1) :: (m1, .map es2 ck) :: (z.lo ++ z.ll)))))) w1
      simp only [hm, cond_true, cond_false] at hw ⊢
      exact ⟨⟨fun _ => ⟨hyn, hvn⟩, hF.2.1, fun h => (by first | trivial | rfl), fun h => (by first | trivial | rfl), fun h => (by first | trivial | rfl)⟩, hw.perm (by (refine perm_cnt (fun _ => ?_)); simp only [cntB_append, cntB_cons, cntB_nil, Nat.add_zero, Nat.zero_add]; try ac_rfl)⟩
    · skip
      obtain ⟨yy, v2, l2, vz, lz⟩ := x
      show J _ _ _ _ _ ((17, .bool true) :: (21, .agg [yy.vo, yy.vl].toArray) :: (21, .agg [yy.vo, yy.vl].toArray) :: (18, .agg [z.vo, z.vl].toArray) :: _) _
      have hp5 : m 5 = true := predsT hp (by kernel_rfl)
      have hp5 : m 5 = true := predsT hp (by kernel_rfl)
      refine J.pr (fun hF => ?_)
      have h6 : m 5 = true := hp5
      obtain ⟨hy1, hv1⟩ := hF.1 h6
      refine J.conseq (I' := St w [] ((rt, rtabO v2 128) :: (l2 ++ ((yy.lo ++ yy.ll) ++ ((bif m 10 then lz else []) ++ ((b7, cb [z.vo, z.vl] 67) :: (t1, tabO 128 m1) :: (m1, .map es2 ck) :: (z.lo ++ z.ll))))))) ?_ (fun w1 hw => by simp only [h6, cond_true] at hw; exact hw)
      refine J.unguard rfl rfl rfl ?_
      refine J.callB (v := .bool true) (fun w1 w2 hw hb => hw.step hb) Ty.bd34 rfl rfl (fun w1 hw => same15_spec (deadT (laidL 128 xs) n).1 _ _ _ _ w1 (vec_rowM hz.1 hw (fun q hq => by first | (simp [hq]; done) | (simp at hq; simp [hq]; done) | (simp at hq; subst hq; simp))) (vec_rowM hz.2 hw (fun q hq => by first | (simp [hq]; done) | (simp at hq; simp [hq]; done) | (simp at hq; subst hq; simp))) (vec_rowM hy1.1 hw (fun q hq => by first | (simp [hq]; done) | (simp at hq; simp [hq]; done) | (simp at hq; subst hq; simp))) (vec_rowM hy1.2 hw (fun q hq => by first | (simp [hq]; done) | (simp at hq; simp [hq]; done) | (simp at hq; subst hq; simp))) (ok_dead hT0.ok) (len_dead hl128) _ _ rfl rfl) ?_
      refine J.nil (JX.finB rfl (fun w1 hw => ⟨⟨⟨yy, v2, l2, vz, lz⟩, rfl, fun j h1 h2 => ?_, ?_⟩, trivial⟩))
      · match j, h1 with
        | 0, _ => (first | rfl | trivial)
        | 1, _ => (first | rfl | trivial)
        | 2, _ => (first | rfl | trivial)
        | 3, _ => (first | rfl | trivial)
        | 4, _ => (first | rfl | trivial)
        | 5, _ => (first | rfl | trivial)
        | 6, _ => (first | rfl | trivial)
        | 7, _ => (first | rfl | trivial)
        | 8, _ => (first | rfl | trivial)
        | 9, _ => (first | rfl | trivial)
        | 10, _ => (first | rfl | trivial)
        | 11, _ => (first | rfl | trivial)
        | 12, _ => (first | rfl | trivial)
        | 13, _ => (first | rfl | trivial)
        | 14, _ => (first | rfl | trivial)
        | 15, _ => (first | rfl | trivial)
        | 16, _ => (first | rfl | trivial)
        | j + 17, h1 => omega
      show ((m 5 = true → (deadT (laidL 128 xs) n).1.is yy ∧ Vec 55 51 v2 (ordE (deadT (laidL 128 xs) n).2).length (fE (ordE (deadT (laidL 128 xs) n).2)) l2) ∧ (m 10 = true → Vec 55 51 vz (ordE (deadT (laidL 128 xs) n).2).length (fE (ordE (deadT (laidL 128 xs) n).2)) lz) ∧ (true = true → m 5 = true) ∧ (m 8 = true → m 5 = true) ∧ (m 14 = true → m 5 = true)) ∧ St w [] ((rt, rtabO (bif m 5 then v2 else .slice ar (ordE (laidL 128 xs)).length cr) 128) :: ((bif m 5 then l2 else lr) ++ ((bif m 5 then yy.lo ++ yy.ll else []) ++ ((bif m 10 then lz else []) ++ ((b7, cb [z.vo, z.vl] 67) :: (t1, tabO 128 m1) :: (m1, .map es2 ck) :: (z.lo ++ z.ll)))))) w1
      simp only [h6, cond_true] at hw ⊢
      exact ⟨⟨fun _ => hF.1 h6, hF.2.1, fun _ => (by first | trivial | rfl), fun h => (by first | trivial | rfl), fun h => (by first | trivial | rfl)⟩, hw⟩
    · skip
      obtain ⟨yy, v2, l2, vz, lz⟩ := x
      show J _ _ _ _ _ ((22, .bool true) :: (17, .bool true) :: _) _
      have hp6 : m 6 = true := predsT hp (by kernel_rfl)
      refine J.pr (fun hF => ?_)
      (first | refine J.pickT rfl rfl rfl ?_ | refine J.pickF rfl rfl rfl ?_)
      exact J.finX rfl (fun _ hw => ⟨⟨yy, v2, l2, vz, lz⟩, rfl, fun _ _ _ => rfl, hF, hw⟩)
    · skip
      obtain ⟨yy, v2, l2, vz, lz⟩ := x
      show J _ _ _ _ _ ((22, .bool true) :: (23, .bool true) :: _) _
      have hp6 : m 6 = true := predsT hp (by kernel_rfl)
      refine J.pr (fun hF => ?_)
      refine J.move rfl rfl ?_
      refine J.nil (JX.finB rfl (fun w1 hw => ⟨⟨⟨yy, v2, l2, vz, lz⟩, rfl, fun j h1 h2 => ?_, ?_⟩, trivial⟩))
      · match j, h1 with
        | 0, _ => (first | rfl | trivial)
        | 1, _ => (first | rfl | trivial)
        | 2, _ => (first | rfl | trivial)
        | 3, _ => (first | rfl | trivial)
        | 4, _ => (first | rfl | trivial)
        | 5, _ => (first | rfl | trivial)
        | 6, _ => (first | rfl | trivial)
        | 7, _ => (first | rfl | trivial)
        | 8, _ => (first | rfl | trivial)
        | 9, _ => (first | rfl | trivial)
        | 10, _ => (first | rfl | trivial)
        | 11, _ => (first | rfl | trivial)
        | 12, _ => (first | rfl | trivial)
        | 13, _ => (first | rfl | trivial)
        | 14, _ => (first | rfl | trivial)
        | 15, _ => (first | rfl | trivial)
        | 16, _ => (first | rfl | trivial)
        | j + 17, h1 => omega
      show ((m 5 = true → (deadT (laidL 128 xs) n).1.is yy ∧ Vec 55 51 v2 (ordE (deadT (laidL 128 xs) n).2).length (fE (ordE (deadT (laidL 128 xs) n).2)) l2) ∧ (m 10 = true → Vec 55 51 vz (ordE (deadT (laidL 128 xs) n).2).length (fE (ordE (deadT (laidL 128 xs) n).2)) lz) ∧ (m 6 = true → m 5 = true) ∧ (true = true → m 5 = true) ∧ (m 14 = true → m 5 = true)) ∧ St w [] ((rt, rtabO (bif m 5 then v2 else .slice ar (ordE (laidL 128 xs)).length cr) 128) :: ((bif m 5 then l2 else lr) ++ ((bif m 5 then yy.lo ++ yy.ll else []) ++ ((bif m 10 then lz else []) ++ ((b7, cb [z.vo, z.vl] 67) :: (t1, tabO 128 m1) :: (m1, .map es2 ck) :: (z.lo ++ z.ll)))))) w1
      exact ⟨⟨hF.1, hF.2.1, hF.2.2.1, fun _ => hF.2.2.1 hp6, hF.2.2.2.2⟩, hw⟩
    · skip
      obtain ⟨yy, v2, l2, vz, lz⟩ := x
      show J _ _ _ _ _ ((24, .bool true) :: _) _
      have hp8 : m 8 = true := predsT hp (by kernel_rfl)
      refine J.pr (fun hF => ?_)
      first | refine J.skip rfl rfl rfl rfl rfl ?_ | refine J.skipU rfl rfl rfl rfl ?_ | (refine J.unguard rfl rfl rfl ?_; refine J.move rfl rfl ?_)
      exact J.finX rfl (fun _ hw => ⟨⟨yy, v2, l2, vz, lz⟩, rfl, fun _ _ _ => rfl, hF, hw⟩)
    · skip
      obtain ⟨yy, v2, l2, vz, lz⟩ := x
      show J _ _ _ _ _ ((24, .bool true) :: (24, .bool true) :: (25, .pointer (some ⟨t1, 0, none⟩)) :: _) _
      have hp8 : m 8 = true := predsT hp (by kernel_rfl)
      have hp8 : m 8 = true := predsT hp (by kernel_rfl)
      refine J.pr (fun hF => ?_)
      refine J.conseq (I' := St w [] ((rt, rtabO (bif m 5 then v2 else .slice ar (ordE (laidL 128 xs)).length cr) 128) :: ((bif m 5 then l2 else lr) ++ ((bif m 5 then yy.lo ++ yy.ll else []) ++ ((b7, cb [z.vo, z.vl] 67) :: (t1, tabO 128 m1) :: (m1, .map es2 ck) :: (z.lo ++ z.ll)))))) ?_ (fun w1 hw => by simp only [hm, cond_false] at hw; exact hw)
      refine J.unguard rfl rfl rfl ?_
      refine J.perm ([] ++ ((rt, rtabO (bif m 5 then v2 else .slice ar (ordE (laidL 128 xs)).length cr) 128) :: ((bif m 5 then l2 else lr) ++ ((bif m 5 then yy.lo ++ yy.ll else []) ++ ((b7, cb [z.vo, z.vl] 67) :: (t1, tabO 128 m1) :: (m1, .map es2 ck) :: (z.lo ++ z.ll)))))) (.refl _) ?_
      refine J.callS (α := Value × List (Nat × Obj)) (V := (·.1)) (Pr := fun x => Vec 55 51 x.1 (ordE (deadT (laidL 128 xs) n).2).length (fE (ordE (deadT (laidL 128 xs) n).2)) x.2) (L := (·.2)) (l1 := []) Ty.bd37 rfl rfl (fun w1 hw => all_spec t1 m1 128 ((deadT (laidL 128 xs) n).2) es2 ck w1 (hw.own ((t1, tabO 128 m1)) (by repeat first | exact .head _ | apply List.Mem.tail | apply List.mem_append_right)) (hw.own ((m1, .map es2 ck)) (by repeat first | exact .head _ | apply List.Mem.tail | apply List.mem_append_right)) hT2 hl2) (fun x hvzn => ?_)
      obtain ⟨vzn, lzn⟩ := x
      simp only at hvzn ⊢
      refine J.nil (JX.finB rfl (fun w1 hw => ⟨⟨⟨yy, v2, l2, vzn, lzn⟩, rfl, fun j h1 h2 => ?_, ?_⟩, trivial⟩))
      · match j, h1 with
        | 0, _ => (first | rfl | trivial)
        | 1, _ => (first | rfl | trivial)
        | 2, _ => (first | rfl | trivial)
        | 3, _ => (first | rfl | trivial)
        | 4, _ => (first | rfl | trivial)
        | 5, _ => (first | rfl | trivial)
        | 6, _ => (first | rfl | trivial)
        | 7, _ => (first | rfl | trivial)
        | 8, _ => (first | rfl | trivial)
        | 9, _ => (first | rfl | trivial)
        | 10, _ => exact absurd (h2.symm.trans hm) (by decide)
        | 11, _ => (first | rfl | trivial)
        | 12, _ => (first | rfl | trivial)
        | 13, _ => (first | rfl | trivial)
        | 14, _ => (first | rfl | trivial)
        | 15, _ => (first | rfl | trivial)
        | 16, _ => (first | rfl | trivial)
        | j + 17, h1 => omega
      show ((m 5 = true → (deadT (laidL 128 xs) n).1.is yy ∧ Vec 55 51 v2 (ordE (deadT (laidL 128 xs) n).2).length (fE (ordE (deadT (laidL 128 xs) n).2)) l2) ∧ (true = true → Vec 55 51 vzn (ordE (deadT (laidL 128 xs) n).2).length (fE (ordE (deadT (laidL 128 xs) n).2)) lzn) ∧ (m 6 = true → m 5 = true) ∧ (m 8 = true → m 5 = true) ∧ (m 14 = true → m 5 = true)) ∧ St w [] ((rt, rtabO (bif m 5 then v2 else .slice ar (ordE (laidL 128 xs)).length cr) 128) :: ((bif m 5 then l2 else lr) ++ ((bif m 5 then yy.lo ++ yy.ll else []) ++ ((bif true then lzn else []) ++ ((b7, cb [z.vo, z.vl] 67) :: (t1, tabO 128 m1) :: (m1, .map es2 ck) :: (z.lo ++ z.ll)))))) w1
      simp only [hm, cond_true, cond_false] at hw ⊢
      exact ⟨⟨hF.1, fun _ => hvzn, hF.2.2⟩, hw.perm (by (refine perm_cnt (fun _ => ?_)); simp only [cntB_append, cntB_cons, cntB_nil, Nat.add_zero, Nat.zero_add]; try ac_rfl)⟩
    · skip
      obtain ⟨yy, v2, l2, vz, lz⟩ := x
      show J _ _ _ _ _ ((24, .bool true) :: _) _
      have hp8 : m 8 = true := predsT hp (by kernel_rfl)
      refine J.pr (fun hF => ?_)
      first | refine J.skip rfl rfl rfl rfl rfl ?_ | refine J.skipU rfl rfl rfl rfl ?_ | (refine J.unguard rfl rfl rfl ?_; refine J.move rfl rfl ?_)
      exact J.finX rfl (fun _ hw => ⟨⟨yy, v2, l2, vz, lz⟩, rfl, fun _ _ _ => rfl, hF, hw⟩)
    · skip
      obtain ⟨yy, v2, l2, vz, lz⟩ := x
      show J _ _ _ _ _ ((24, .bool true) :: (27, .pointer (some ⟨rt, 0, none⟩)) :: _) _
      have hp8 : m 8 = true := predsT hp (by kernel_rfl)
      refine J.pr (fun hF => ?_)
      first | refine J.skip rfl rfl rfl rfl rfl ?_ | refine J.skipU rfl rfl rfl rfl ?_ | (refine J.unguard rfl rfl rfl ?_; refine J.nilCheck rfl rfl ?_)
      exact J.finX rfl (fun _ hw => ⟨⟨yy, v2, l2, vz, lz⟩, rfl, fun _ _ _ => rfl, hF, hw⟩)
    · skip
      obtain ⟨yy, v2, l2, vz, lz⟩ := x
      show J _ _ _ _ _ ((24, .bool true) :: (28, .pointer (some ⟨rt, 0, none⟩)) :: _) _
      have hp8 : m 8 = true := predsT hp (by kernel_rfl)
      refine J.pr (fun hF => ?_)
      first | refine J.skip rfl rfl rfl rfl rfl ?_ | refine J.skipU rfl rfl rfl rfl ?_ | (refine J.unguard rfl rfl rfl ?_; refine J.fieldAddr Ty.fd94_0 rfl rfl ?_)
      exact J.finX rfl (fun _ hw => ⟨⟨yy, v2, l2, vz, lz⟩, rfl, fun _ _ _ => rfl, hF, hw⟩)
    · skip
      obtain ⟨yy, v2, l2, vz, lz⟩ := x
      show J _ _ _ _ _ ((24, .bool true) :: (29, .pointer (some ⟨rt, 0 + 0, none⟩)) :: _) _
      have hp8 : m 8 = true := predsT hp (by kernel_rfl)
      refine J.pr (fun hF => ?_)
      have h6 : m 5 = true := hF.2.2.2.1 hp8
      obtain ⟨hy1, hv1⟩ := hF.1 h6
      refine J.conseq (I' := St w [] ((rt, rtabO v2 128) :: (l2 ++ ((yy.lo ++ yy.ll) ++ ((bif m 10 then lz else []) ++ ((b7, cb [z.vo, z.vl] 67) :: (t1, tabO 128 m1) :: (m1, .map es2 ck) :: (z.lo ++ z.ll))))))) ?_ (fun w1 hw => by simp only [h6, cond_true] at hw; exact hw)
      refine J.unguard rfl rfl rfl ?_
      refine J.load1 (v := v2) Ty.a25 rfl (fun w1 hw => (cell_of (hw.own (rt, rtabO v2 128) (by repeat first | exact .head _ | apply List.Mem.tail | apply List.mem_append_right))).trans rfl) rfl ?_
      refine J.nil (JX.finB rfl (fun w1 hw => ⟨⟨⟨yy, v2, l2, vz, lz⟩, rfl, fun j h1 h2 => ?_, ?_⟩, trivial⟩))
      · match j, h1 with
        | 0, _ => (first | rfl | trivial)
        | 1, _ => (first | rfl | trivial)
        | 2, _ => (first | rfl | trivial)
        | 3, _ => (first | rfl | trivial)
        | 4, _ => (first | rfl | trivial)
        | 5, _ => (first | rfl | trivial)
        | 6, _ => (first | rfl | trivial)
        | 7, _ => (first | rfl | trivial)
        | 8, _ => (first | rfl | trivial)
        | 9, _ => (first | rfl | trivial)
        | 10, _ => (first | rfl | trivial)
        | 11, _ => (first | rfl | trivial)
        | 12, _ => (first | rfl | trivial)
        | 13, _ => (first | rfl | trivial)
        | 14, _ => (first | rfl | trivial)
        | 15, _ => (first | rfl | trivial)
        | 16, _ => (first | rfl | trivial)
        | j + 17, h1 => omega
      show ((m 5 = true → (deadT (laidL 128 xs) n).1.is yy ∧ Vec 55 51 v2 (ordE (deadT (laidL 128 xs) n).2).length (fE (ordE (deadT (laidL 128 xs) n).2)) l2) ∧ (m 10 = true → Vec 55 51 vz (ordE (deadT (laidL 128 xs) n).2).length (fE (ordE (deadT (laidL 128 xs) n).2)) lz) ∧ (m 6 = true → m 5 = true) ∧ (m 8 = true → m 5 = true) ∧ (true = true → m 5 = true)) ∧ St w [] ((rt, rtabO (bif m 5 then v2 else .slice ar (ordE (laidL 128 xs)).length cr) 128) :: ((bif m 5 then l2 else lr) ++ ((bif m 5 then yy.lo ++ yy.ll else []) ++ ((bif m 10 then lz else []) ++ ((b7, cb [z.vo, z.vl] 67) :: (t1, tabO 128 m1) :: (m1, .map es2 ck) :: (z.lo ++ z.ll)))))) w1
      simp only [h6, cond_true] at hw ⊢
      exact ⟨⟨fun _ => hF.1 h6, hF.2.1, fun h => (by first | trivial | rfl), fun h => (by first | trivial | rfl), fun h => (by first | trivial | rfl)⟩, hw⟩
    · skip
      obtain ⟨yy, v2, l2, vz, lz⟩ := x
      show J _ _ _ _ _ ((24, .bool true) :: (26, vz) :: (30, v2) :: (26, vz) :: _) _
      have hp10 : m 10 = true := predsT hp (by kernel_rfl)
      have hp14 : m 14 = true := predsT hp (by kernel_rfl)
      have hp10 : m 10 = true := predsT hp (by kernel_rfl)
      have hp8 : m 8 = true := predsT hp (by kernel_rfl)
      refine J.pr (fun hF => ?_)
      have h6 : m 5 = true := hF.2.2.2.2 hp14
      obtain ⟨hy1, hv1⟩ := hF.1 h6
      have hvz1 := hF.2.1 hp10
      refine J.conseq (I' := St w [] ((rt, rtabO v2 128) :: (l2 ++ ((yy.lo ++ yy.ll) ++ (lz ++ ((b7, cb [z.vo, z.vl] 67) :: (t1, tabO 128 m1) :: (m1, .map es2 ck) :: (z.lo ++ z.ll))))))) ?_ (fun w1 hw => by simp only [h6, hp10, cond_true] at hw; exact hw)
      refine J.unguard rfl rfl rfl ?_
      refine J.callB (v := .bool true) (fun w1 w2 hw hb => hw.step hb) Ty.bd36 rfl rfl (fun w1 hw => (by have h := rsame_spec _ _ (ordE (deadT (laidL 128 xs) n).2) (ordE (deadT (laidL 128 xs) n).2) w1 (vec_rowM hvz1 hw (fun q hq => by first | (simp [hq]; done) | (simp at hq; simp [hq]; done) | (simp at hq; subst hq; simp))) (vec_rowM hv1 hw (fun q hq => by first | (simp [hq]; done) | (simp at hq; simp [hq]; done) | (simp at hq; subst hq; simp))) (ordE_ok hT2) (ordE_ok hT2) (by omega) (by omega); simpa using h)) ?_
      refine J.nil (JX.finB rfl (fun w1 hw => ⟨⟨⟨yy, v2, l2, vz, lz⟩, rfl, fun j h1 h2 => ?_, ?_⟩, trivial⟩))
      · match j, h1 with
        | 0, _ => (first | rfl | trivial)
        | 1, _ => (first | rfl | trivial)
        | 2, _ => (first | rfl | trivial)
        | 3, _ => (first | rfl | trivial)
        | 4, _ => (first | rfl | trivial)
        | 5, _ => (first | rfl | trivial)
        | 6, _ => (first | rfl | trivial)
        | 7, _ => (first | rfl | trivial)
        | 8, _ => (first | rfl | trivial)
        | 9, _ => (first | rfl | trivial)
        | 10, _ => (first | rfl | trivial)
        | 11, _ => (first | rfl | trivial)
        | 12, _ => (first | rfl | trivial)
        | 13, _ => (first | rfl | trivial)
        | 14, _ => (first | rfl | trivial)
        | 15, _ => (first | rfl | trivial)
        | 16, _ => (first | rfl | trivial)
        | j + 17, h1 => omega
      show ((m 5 = true → (deadT (laidL 128 xs) n).1.is yy ∧ Vec 55 51 v2 (ordE (deadT (laidL 128 xs) n).2).length (fE (ordE (deadT (laidL 128 xs) n).2)) l2) ∧ (m 10 = true → Vec 55 51 vz (ordE (deadT (laidL 128 xs) n).2).length (fE (ordE (deadT (laidL 128 xs) n).2)) lz) ∧ (m 6 = true → m 5 = true) ∧ (m 8 = true → m 5 = true) ∧ (m 14 = true → m 5 = true)) ∧ St w [] ((rt, rtabO (bif m 5 then v2 else .slice ar (ordE (laidL 128 xs)).length cr) 128) :: ((bif m 5 then l2 else lr) ++ ((bif m 5 then yy.lo ++ yy.ll else []) ++ ((bif m 10 then lz else []) ++ ((b7, cb [z.vo, z.vl] 67) :: (t1, tabO 128 m1) :: (m1, .map es2 ck) :: (z.lo ++ z.ll)))))) w1
      simp only [h6, hp10, cond_true] at hw ⊢
      exact ⟨⟨fun _ => hF.1 h6, fun _ => hvz1, fun h => (by first | trivial | rfl), fun h => (by first | trivial | rfl), fun h => (by first | trivial | rfl)⟩, hw⟩
    · skip
      obtain ⟨yy, v2, l2, vz, lz⟩ := x
      show J _ _ _ _ _ ((31, .bool true) :: (24, .bool true) :: _) _
      have hp8 : m 8 = true := predsT hp (by kernel_rfl)
      refine J.pr (fun hF => ?_)
      (first | refine J.pickT rfl rfl rfl ?_ | refine J.pickF rfl rfl rfl ?_)
      exact J.finX rfl (fun _ hw => ⟨⟨yy, v2, l2, vz, lz⟩, rfl, fun _ _ _ => rfl, hF, hw⟩)
  case htail =>
    intro x
    obtain ⟨yy, v2, l2, vz, lz⟩ := x
    show J _ _ _ _ _ ((32, .bool true) :: (31, .bool true) :: (30, v2) :: (29, .pointer (some ⟨rt, 0 + 0, none⟩)) :: (28, .pointer (some ⟨rt, 0, none⟩)) :: (27, .pointer (some ⟨rt, 0, none⟩)) :: (26, vz) :: (25, .pointer (some ⟨t1, 0, none⟩)) :: (24, .bool true) :: (23, .bool true) :: (22, .bool true) :: (21, .agg [yy.vo, yy.vl].toArray) :: (20, .int .i64 n) :: (19, .pointer (some ⟨rt, 0, none⟩)) :: (18, .agg [z.vo, z.vl].toArray) :: (17, .bool true) :: (16, .bool true) :: _) (fun w1 => ((true = true → (deadT (laidL 128 xs) n).1.is yy ∧ Vec 55 51 v2 (ordE (deadT (laidL 128 xs) n).2).length (fE (ordE (deadT (laidL 128 xs) n).2)) l2) ∧ (true = true → Vec 55 51 vz (ordE (deadT (laidL 128 xs) n).2).length (fE (ordE (deadT (laidL 128 xs) n).2)) lz) ∧ (true = true → true = true) ∧ (true = true → true = true) ∧ (true = true → true = true)) ∧ St w [] ((rt, rtabO (bif true then v2 else .slice ar (ordE (laidL 128 xs)).length cr) 128) :: ((bif true then l2 else lr) ++ ((bif true then yy.lo ++ yy.ll else []) ++ ((bif true then lz else []) ++ ((b7, cb [z.vo, z.vl] 67) :: (t1, tabO 128 m1) :: (m1, .map es2 ck) :: (z.lo ++ z.ll)))))) w1)
    refine J.pr (fun hF => ?_)
    refine J.assign rfl rfl ?_
    refine J.nil ?_
    refine JX.thenN (hK3 _ _ ?_)
    refine JC.ret ?_
    refine JX.ret1 rfl rfl (fun w hw => ?_)
    exact ⟨rfl, (hw.drop (List.nil_sublist _)).below⟩

set_option maxHeartbeats 2000000 in
theorem tearEnds_spec (v : Value) (xs : List EV) (w : World) (hrv : Row w v xs.length (fE xs)) (hok : ∀ x, x ∈ xs → okE x) (hxl : xs.length ≤ 1954687338213) (p : PV) (hpk : okN p.n) :
    Calls Try.prog 13 [v, .agg (cP p).toArray].toArray w fun r w' => r = .returned (.bool true) ∧ Bel w w' := by
  obtain ⟨av, cv, rfl, hcv, _⟩ := id hrv
  refine calls_of_J (args := [.slice av xs.length cv, .agg (cP p).toArray]) (e := [(0, .slice av xs.length cv), (1, .agg (cP p).toArray)]) Try.func13 rfl rfl ⟨rfl, rfl, trivial⟩ (St.start w) ?_
  refine JC.seq (fun K0 hK0 => ?_)
  refine JC.region ?_
  refine J.box rfl rfl rfl (fun b3 => ?_)
  refine J.assign rfl rfl ?_
  refine J.nil ?_
  refine JX.thenN (hK0 _ _ ?_)
  refine JC.seq (fun K1 hK1 => ?_)
  refine JC.region ?_
  refine J.move rfl rfl ?_
  refine J.perm ([] ++ ((b3, cb (cP p) 38) :: [])) (.refl _) ?_
  refine J.callS (α := LaidS) (V := fun x => .tuple #[.pointer (some ⟨x.t1, 0, none⟩), .pointer (some ⟨x.rt, 0, none⟩)]) (Pr := fun x => Tab (laidL 128 (xs)) x.es x.ck ∧ Vec 55 51 x.vr (ordE (laidL 128 (xs))).length (fE (ordE (laidL 128 (xs)))) x.lr) (L := fun x => x.blk 128) (l1 := []) Ty.bd33 rfl rfl (fun w1 hw => laid15_spec _ (xs) w1 (hrv.below (hw.drop (List.nil_sublist _)).below) hok hxl) (fun x hx9 => ?_)
  obtain ⟨t1, m1, rt, es, ck, vr, lr⟩ := x
  obtain ⟨hT, hvr⟩ := hx9
  simp only [LaidS.blk, List.cons_append] at hT hvr ⊢
  have hgood := laidL_good 128 xs
  have hl128 : (laidL 128 xs).length ≤ 128 := by have := hgood.len; omega
  have hol := (ordE_perm (laidL 128 xs)).length_eq
  obtain ⟨ar, cr, rfl, hcr⟩ := hvr.form
  refine J.perm ((t1, tabO 128 m1) :: (m1, .map es ck) :: (rt, rtabO (.slice ar (ordE (laidL 128 xs)).length cr) 128) :: ((b3, cb (cP p) 38) :: lr)) (by (refine perm_cnt (fun _ => ?_)); simp only [cntB_append, cntB_cons, cntB_nil, Nat.add_zero, Nat.zero_add]; try ac_rfl) ?_
  have hT0 := hT
  refine J.move rfl rfl ?_
  refine J.extract rfl rfl rfl ?_
  refine J.extract rfl rfl rfl ?_
  refine J.assign rfl rfl ?_
  refine J.assign rfl rfl ?_
  refine J.nil ?_
  refine JX.thenN (hK1 _ _ ?_)
  refine JC.seq (fun K2 hK2 => ?_)
  refine JC.region ?_
  refine J.move rfl rfl ?_
  refine J.loadOA (vs := cP p) Ty.a38 Ty.s38 rfl (by repeat first | exact .head _ | apply List.Mem.tail | apply List.mem_append_right) (by exact rfl) rfl rfl ?_
  refine J.perm ([(t1, tabO 128 m1), (m1, .map es ck)] ++ ((rt, rtabO (.slice ar (ordE (laidL 128 xs)).length cr) 128) :: ((b3, cb (cP p) 38) :: lr))) (by (refine perm_cnt (fun _ => ?_)); simp only [cntB_append, cntB_cons, cntB_nil, Nat.add_zero, Nat.zero_add]; try ac_rfl) ?_
  refine J.callS (α := TS × Array MapEntry) (V := fun y => .agg [y.1.vo, y.1.vl].toArray) (Pr := fun y => (endT (laidL 128 xs) p).1.is y.1 ∧ Tab (endT (laidL 128 xs) p).2 y.2 ck) (L := fun y => (y.1.lo ++ y.1.ll) ++ [(t1, tabO 128 m1), (m1, .map y.2 ck)]) (l1 := [(t1, tabO 128 m1), (m1, .map es ck)]) Ty.bd40 rfl rfl (fun w1 hw => tend_spec t1 m1 128 (laidL 128 xs) es ck w1 hw.owns hT p hpk) (fun z hz => ?_)
  obtain ⟨z, es2⟩ := z
  obtain ⟨hz, hT2⟩ := hz
  simp only [List.cons_append, List.nil_append] at hz hT2 ⊢
  refine J.alloc zTo rfl rfl (fun b7 => ?_)
  refine J.storeW (cs := [nilV, nilV]) (vs := [z.vo, z.vl]) Ty.s67 rfl rfl rfl rfl rfl (two_one hz) .here ?_
  have hl2 : (endT (laidL 128 xs) p).2.length ≤ 1099511627776 := end_len2 _ _ hl128
  have hol2 := (ordE_perm (endT (laidL 128 xs) p).2).length_eq
  have hl3 : (ordE (endT (laidL 128 xs) p).2).length < 4611686018427387904 := by omega
  refine J.perm ((rt, rtabO (.slice ar (ordE (laidL 128 xs)).length cr) 128) :: (lr ++ ((b7, cb [z.vo, z.vl] 67) :: (t1, tabO 128 m1) :: (m1, .map es2 ck) :: (b3, cb (cP p) 38) :: (z.lo ++ z.ll)))) (by (refine perm_cnt (fun _ => ?_)); simp only [cntB_append, cntB_cons, cntB_nil, Nat.add_zero, Nat.zero_add]; try ac_rfl) ?_
  refine J.nil ?_
  refine JX.thenN (hK2 _ _ ?_)
  refine JC.seq (fun K3 hK3 => ?_)
  apply JC.drawX (α := TS × Value × List (Nat × Obj) × Value × List (Nat × Obj)) 17 (fun x => match x with | ⟨yy, v2, l2, vz, lz⟩ => [.bool true, .bool true, .agg [z.vo, z.vl].toArray, .pointer (some ⟨rt, 0, none⟩), .agg (cP p).toArray, .agg [yy.vo, yy.vl].toArray, .bool true, .bool true, .bool true, .pointer (some ⟨t1, 0, none⟩), vz, .pointer (some ⟨rt, 0, none⟩), .pointer (some ⟨rt, 0, none⟩), .pointer (some ⟨rt, 0 + 0, none⟩), v2, .bool true, .bool true]) (fun m x => match x with | ⟨yy, v2, l2, vz, lz⟩ => fun w1 => ((m 5 = true → (endT (laidL 128 xs) p).1.is yy ∧ Vec 55 51 v2 (ordE (endT (laidL 128 xs) p).2).length (fE (ordE (endT (laidL 128 xs) p).2)) l2) ∧ (m 10 = true → Vec 55 51 vz (ordE (endT (laidL 128 xs) p).2).length (fE (ordE (endT (laidL 128 xs) p).2)) lz) ∧ (m 6 = true → m 5 = true) ∧ (m 8 = true → m 5 = true) ∧ (m 14 = true → m 5 = true)) ∧ St w [] ((rt, rtabO (bif m 5 then v2 else .slice ar (ordE (laidL 128 xs)).length cr) 128) :: ((bif m 5 then l2 else lr) ++ ((bif m 5 then yy.lo ++ yy.ll else []) ++ ((bif m 10 then lz else []) ++ ((b7, cb [z.vo, z.vl] 67) :: (t1, tabO 128 m1) :: (m1, .map es2 ck) :: (b3, cb (cP p) 38) :: (z.lo ++ z.ll)))))) w1) Ty.mixed rfl rfl rfl (by kernel_rfl) rfl rfl ?hinit ?hstep ?htail
  case hinit => exact fun w1 hw => ⟨(noS, .slice none 0 0, [], .slice none 0 0, []), ⟨fun h => (by cases h), fun h => (by cases h), fun h => (by cases h), fun h => (by cases h), fun h => (by cases h)⟩, hw.drew⟩
  case hstep =>
    refine ⟨fun m x hm hp => ?_, fun m x hm hp => ?_, fun m x hm hp => ?_, fun m x hm hp => ?_, fun m x hm hp => ?_, fun m x hm hp => ?_, fun m x hm hp => ?_, fun m x hm hp => ?_, fun m x hm hp => ?_, fun m x hm hp => ?_, fun m x hm hp => ?_, fun m x hm hp => ?_, fun m x hm hp => ?_, fun m x hm hp => ?_, fun m x hm hp => ?_, fun m x hm hp => ?_, fun m x hm hp => ?_, trivial⟩
    · skip
      obtain ⟨yy, v2, l2, vz, lz⟩ := x
      show J _ _ _ _ _ (_) _
      refine J.pr (fun hF => ?_)
      refine J.callB (v := .bool true) (fun w1 w2 hw hb => hw.step hb) Ty.bd29 rfl rfl (fun w1 hw => fixed15_spec w1) ?_
      exact J.finX rfl (fun _ hw => ⟨⟨yy, v2, l2, vz, lz⟩, rfl, fun _ _ _ => rfl, hF, hw⟩)
    · skip
      obtain ⟨yy, v2, l2, vz, lz⟩ := x
      show J _ _ _ _ _ ((16, .bool true) :: (16, .bool true) :: _) _
      refine J.pr (fun hF => ?_)
      refine J.move rfl rfl ?_
      exact J.finX rfl (fun _ hw => ⟨⟨yy, v2, l2, vz, lz⟩, rfl, fun _ _ _ => rfl, hF, hw⟩)
    · skip
      obtain ⟨yy, v2, l2, vz, lz⟩ := x
      show J _ _ _ _ _ ((17, .bool true) :: _) _
      refine J.pr (fun hF => ?_)
      refine J.unguard rfl rfl rfl ?_
      refine J.loadA (vs := [z.vo, z.vl]) Ty.a67 Ty.s67 rfl rfl (fun w1 hw => Cells.of_block (hw.own ((b7, cb [z.vo, z.vl] 67)) (by repeat first | exact .head _ | apply List.Mem.tail | apply List.mem_append_right)) rfl) rfl ?_
      exact J.finX rfl (fun _ hw => ⟨⟨yy, v2, l2, vz, lz⟩, rfl, fun _ _ _ => rfl, hF, hw⟩)
    · skip
      obtain ⟨yy, v2, l2, vz, lz⟩ := x
      show J _ _ _ _ _ ((17, .bool true) :: _) _
      refine J.pr (fun hF => ?_)
      first | refine J.skip rfl rfl rfl rfl rfl ?_ | refine J.skipU rfl rfl rfl rfl ?_ | (refine J.unguard rfl rfl rfl ?_; refine J.move rfl rfl ?_)
      exact J.finX rfl (fun _ hw => ⟨⟨yy, v2, l2, vz, lz⟩, rfl, fun _ _ _ => rfl, hF, hw⟩)
    · skip
      obtain ⟨yy, v2, l2, vz, lz⟩ := x
      show J _ _ _ _ _ ((17, .bool true) :: _) _
      refine J.pr (fun hF => ?_)
      refine J.unguard rfl rfl rfl ?_
      refine J.loadA (vs := cP p) Ty.a38 Ty.s38 rfl rfl (fun w1 hw => Cells.of_block (hw.own ((b3, cb (cP p) 38)) (by repeat first | exact .head _ | apply List.Mem.tail | apply List.mem_append_right)) rfl) rfl ?_
      exact J.finX rfl (fun _ hw => ⟨⟨yy, v2, l2, vz, lz⟩, rfl, fun _ _ _ => rfl, hF, hw⟩)
    · skip
      obtain ⟨yy, v2, l2, vz, lz⟩ := x
      show J _ _ _ _ _ ((17, .bool true) :: (17, .bool true) :: (20, .agg (cP p).toArray) :: (19, .pointer (some ⟨rt, 0, none⟩)) :: _) _
      refine J.pr (fun hF => ?_)
      refine J.conseq (I' := St w [] (((rt, rtabO (.slice ar (ordE (laidL 128 xs)).length cr) 128) :: lr) ++ ((bif m 10 then lz else []) ++ ((b7, cb [z.vo, z.vl] 67) :: (t1, tabO 128 m1) :: (m1, .map es2 ck) :: (b3, cb (cP p) 38) :: (z.lo ++ z.ll))))) ?_ (fun w1 hw => by simp only [hm, cond_false, List.nil_append] at hw; exact hw)
      refine J.unguard rfl rfl rfl ?_
      refine J.callS (α := TS × Value × List (Nat × Obj)) (V := fun q => .agg [q.1.vo, q.1.vl].toArray) (Pr := fun q => (endT (laidL 128 xs) p).1.is q.1 ∧ Vec 55 51 q.2.1 (ordE (endT (laidL 128 xs) p).2).length (fE (ordE (endT (laidL 128 xs) p).2)) q.2.2) (L := fun q => (q.1.lo ++ q.1.ll) ++ ((rt, rtabO q.2.1 128) :: q.2.2)) (l1 := (rt, rtabO (.slice ar (ordE (laidL 128 xs)).length cr) 128) :: lr) Ty.bd41 rfl rfl (fun w1 hw => (rend_spec rt _ 128 (laidL 128 xs) hT0.dist lr w1 hw.owns hvr (fun x hx => hT0.ok x ((ordE_perm _).mem_iff.1 hx)) (by omega) (laidL_good 128 xs).right p hpk)) (fun q hq => ?_)
      obtain ⟨yn, vn, ln⟩ := q
      obtain ⟨hyn, hvn⟩ := hq
      simp only at hyn hvn ⊢
      refine J.nil (JX.finB rfl (fun w1 hw => ⟨⟨⟨yn, vn, ln, vz, lz⟩, rfl, fun j h1 h2 => ?_, ?_⟩, trivial⟩))
      · match j, h1 with
        | 0, _ => (first | rfl | trivial)
        | 1, _ => (first | rfl | trivial)
        | 2, _ => (first | rfl | trivial)
        | 3, _ => (first | rfl | trivial)
        | 4, _ => (first | rfl | trivial)
        | 5, _ => exact absurd (h2.symm.trans hm) (by decide)
        | 6, _ => (first | rfl | trivial)
        | 7, _ => (first | rfl | trivial)
        | 8, _ => (first | rfl | trivial)
        | 9, _ => (first | rfl | trivial)
        | 10, _ => (first | rfl | trivial)
        | 11, _ => (first | rfl | trivial)
        | 12, _ => (first | rfl | trivial)
        | 13, _ => (first | rfl | trivial)
        | 14, _ => exact absurd ((hF.2.2.2.2 h2).symm.trans hm) (by decide)
        | 15, _ => (first | rfl | trivial)
        | 16, _ => (first | rfl | trivial)
        | j + 17, h1 => omega
      show ((true = true → (endT (laidL 128 xs) p).1.is yn ∧ Vec 55 51 vn (ordE (endT (laidL 128 xs) p).2).length (fE (ordE (endT (laidL 128 xs) p).2)) ln) ∧ (m 10 = true → Vec 55 51 vz (ordE (endT (laidL 128 xs) p).2).length (fE (ordE (endT (laidL 128 xs) p).2)) lz) ∧ (m 6 = true → true = true) ∧ (m 8 = true → true = true) ∧ (m 14 = true → true = true)) ∧ St w [] ((rt, rtabO (bif true then vn else .slice ar (ordE (laidL 128 xs)).length cr) 128) :: ((bif true then ln else lr) ++ ((bif true then yn.lo ++ yn.ll else []) ++ ((bif m 10 then lz else []) ++ ((b7, cb [z.vo, z.vl] 67) :: (t1, tabO 128 m1) :: (m1, .map es2 ck) :: (b3, cb (cP p) 38) :: (z.lo ++ z.ll)))))) w1
      simp only [hm, cond_true, cond_false] at hw ⊢
      exact ⟨⟨fun _ => ⟨hyn, hvn⟩, hF.2.1, fun h => (by first | trivial | rfl), fun h => (by first | trivial | rfl), fun h => (by first | trivial | rfl)⟩, hw.perm (by (refine perm_cnt (fun _ => ?_)); simp only [cntB_append, cntB_cons, cntB_nil, Nat.add_zero, Nat.zero_add]; try ac_rfl)⟩
    · skip
      obtain ⟨yy, v2, l2, vz, lz⟩ := x
      show J _ _ _ _ _ ((17, .bool true) :: (21, .agg [yy.vo, yy.vl].toArray) :: (21, .agg [yy.vo, yy.vl].toArray) :: (18, .agg [z.vo, z.vl].toArray) :: _) _
      have hp5 : m 5 = true := predsT hp (by kernel_rfl)
      have hp5 : m 5 = true := predsT hp (by kernel_rfl)
      refine J.pr (fun hF => ?_)
      have h6 : m 5 = true := hp5
      obtain ⟨hy1, hv1⟩ := hF.1 h6
      refine J.conseq (I' := St w [] ((rt, rtabO v2 128) :: (l2 ++ ((yy.lo ++ yy.ll) ++ ((bif m 10 then lz else []) ++ ((b7, cb [z.vo, z.vl] 67) :: (t1, tabO 128 m1) :: (m1, .map es2 ck) :: (b3, cb (cP p) 38) :: (z.lo ++ z.ll))))))) ?_ (fun w1 hw => by simp only [h6, cond_true] at hw; exact hw)
      refine J.unguard rfl rfl rfl ?_
      refine J.callB (v := .bool true) (fun w1 w2 hw hb => hw.step hb) Ty.bd34 rfl rfl (fun w1 hw => same15_spec (endT (laidL 128 xs) p).1 _ _ _ _ w1 (vec_rowM hz.1 hw (fun q hq => by first | (simp [hq]; done) | (simp at hq; simp [hq]; done) | (simp at hq; subst hq; simp))) (vec_rowM hz.2 hw (fun q hq => by first | (simp [hq]; done) | (simp at hq; simp [hq]; done) | (simp at hq; subst hq; simp))) (vec_rowM hy1.1 hw (fun q hq => by first | (simp [hq]; done) | (simp at hq; simp [hq]; done) | (simp at hq; subst hq; simp))) (vec_rowM hy1.2 hw (fun q hq => by first | (simp [hq]; done) | (simp at hq; simp [hq]; done) | (simp at hq; subst hq; simp))) (ok_end hpk) len_end _ _ rfl rfl) ?_
      refine J.nil (JX.finB rfl (fun w1 hw => ⟨⟨⟨yy, v2, l2, vz, lz⟩, rfl, fun j h1 h2 => ?_, ?_⟩, trivial⟩))
      · match j, h1 with
        | 0, _ => (first | rfl | trivial)
        | 1, _ => (first | rfl | trivial)
        | 2, _ => (first | rfl | trivial)
        | 3, _ => (first | rfl | trivial)
        | 4, _ => (first | rfl | trivial)
        | 5, _ => (first | rfl | trivial)
        | 6, _ => (first | rfl | trivial)
        | 7, _ => (first | rfl | trivial)
        | 8, _ => (first | rfl | trivial)
        | 9, _ => (first | rfl | trivial)
        | 10, _ => (first | rfl | trivial)
        | 11, _ => (first | rfl | trivial)
        | 12, _ => (first | rfl | trivial)
        | 13, _ => (first | rfl | trivial)
        | 14, _ => (first | rfl | trivial)
        | 15, _ => (first | rfl | trivial)
        | 16, _ => (first | rfl | trivial)
        | j + 17, h1 => omega
      show ((m 5 = true → (endT (laidL 128 xs) p).1.is yy ∧ Vec 55 51 v2 (ordE (endT (laidL 128 xs) p).2).length (fE (ordE (endT (laidL 128 xs) p).2)) l2) ∧ (m 10 = true → Vec 55 51 vz (ordE (endT (laidL 128 xs) p).2).length (fE (ordE (endT (laidL 128 xs) p).2)) lz) ∧ (true = true → m 5 = true) ∧ (m 8 = true → m 5 = true) ∧ (m 14 = true → m 5 = true)) ∧ St w [] ((rt, rtabO (bif m 5 then v2 else .slice ar (ordE (laidL 128 xs)).length cr) 128) :: ((bif m 5 then l2 else lr) ++ ((bif m 5 then yy.lo ++ yy.ll else []) ++ ((bif m 10 then lz else []) ++ ((b7, cb [z.vo, z.vl] 67) :: (t1, tabO 128 m1) :: (m1, .map es2 ck) :: (b3, cb (cP p) 38) :: (z.lo ++ z.ll)))))) w1
      simp only [h6, cond_true] at hw ⊢
      exact ⟨⟨fun _ => hF.1 h6, hF.2.1, fun _ => (by first | trivial | rfl), fun h => (by first | trivial | rfl), fun h => (by first | trivial | rfl)⟩, hw⟩
    · skip
      obtain ⟨yy, v2, l2, vz, lz⟩ := x
      show J _ _ _ _ _ ((22, .bool true) :: (17, .bool true) :: _) _
      have hp6 : m 6 = true := predsT hp (by kernel_rfl)
      refine J.pr (fun hF => ?_)
      (first | refine J.pickT rfl rfl rfl ?_ | refine J.pickF rfl rfl rfl ?_)
      exact J.finX rfl (fun _ hw => ⟨⟨yy, v2, l2, vz, lz⟩, rfl, fun _ _ _ => rfl, hF, hw⟩)
    · skip
      obtain ⟨yy, v2, l2, vz, lz⟩ := x
      show J _ _ _ _ _ ((22, .bool true) :: (23, .bool true) :: _) _
      have hp6 : m 6 = true := predsT hp (by kernel_rfl)
      refine J.pr (fun hF => ?_)
      refine J.move rfl rfl ?_
      refine J.nil (JX.finB rfl (fun w1 hw => ⟨⟨⟨yy, v2, l2, vz, lz⟩, rfl, fun j h1 h2 => ?_, ?_⟩, trivial⟩))
      · match j, h1 with
        | 0, _ => (first | rfl | trivial)
        | 1, _ => (first | rfl | trivial)
        | 2, _ => (first | rfl | trivial)
        | 3, _ => (first | rfl | trivial)
        | 4, _ => (first | rfl | trivial)
        | 5, _ => (first | rfl | trivial)
        | 6, _ => (first | rfl | trivial)
        | 7, _ => (first | rfl | trivial)
        | 8, _ => (first | rfl | trivial)
        | 9, _ => (first | rfl | trivial)
        | 10, _ => (first | rfl | trivial)
        | 11, _ => (first | rfl | trivial)
        | 12, _ => (first | rfl | trivial)
        | 13, _ => (first | rfl | trivial)
        | 14, _ => (first | rfl | trivial)
        | 15, _ => (first | rfl | trivial)
        | 16, _ => (first | rfl | trivial)
        | j + 17, h1 => omega
      show ((m 5 = true → (endT (laidL 128 xs) p).1.is yy ∧ Vec 55 51 v2 (ordE (endT (laidL 128 xs) p).2).length (fE (ordE (endT (laidL 128 xs) p).2)) l2) ∧ (m 10 = true → Vec 55 51 vz (ordE (endT (laidL 128 xs) p).2).length (fE (ordE (endT (laidL 128 xs) p).2)) lz) ∧ (m 6 = true → m 5 = true) ∧ (true = true → m 5 = true) ∧ (m 14 = true → m 5 = true)) ∧ St w [] ((rt, rtabO (bif m 5 then v2 else .slice ar (ordE (laidL 128 xs)).length cr) 128) :: ((bif m 5 then l2 else lr) ++ ((bif m 5 then yy.lo ++ yy.ll else []) ++ ((bif m 10 then lz else []) ++ ((b7, cb [z.vo, z.vl] 67) :: (t1, tabO 128 m1) :: (m1, .map es2 ck) :: (b3, cb (cP p) 38) :: (z.lo ++ z.ll)))))) w1
      exact ⟨⟨hF.1, hF.2.1, hF.2.2.1, fun _ => hF.2.2.1 hp6, hF.2.2.2.2⟩, hw⟩
    · skip
      obtain ⟨yy, v2, l2, vz, lz⟩ := x
      show J _ _ _ _ _ ((24, .bool true) :: _) _
      have hp8 : m 8 = true := predsT hp (by kernel_rfl)
      refine J.pr (fun hF => ?_)
      first | refine J.skip rfl rfl rfl rfl rfl ?_ | refine J.skipU rfl rfl rfl rfl ?_ | (refine J.unguard rfl rfl rfl ?_; refine J.move rfl rfl ?_)
      exact J.finX rfl (fun _ hw => ⟨⟨yy, v2, l2, vz, lz⟩, rfl, fun _ _ _ => rfl, hF, hw⟩)
    · skip
      obtain ⟨yy, v2, l2, vz, lz⟩ := x
      show J _ _ _ _ _ ((24, .bool true) :: (24, .bool true) :: (25, .pointer (some ⟨t1, 0, none⟩)) :: _) _
      have hp8 : m 8 = true := predsT hp (by kernel_rfl)
      have hp8 : m 8 = true := predsT hp (by kernel_rfl)
      refine J.pr (fun hF => ?_)
      refine J.conseq (I' := St w [] ((rt, rtabO (bif m 5 then v2 else .slice ar (ordE (laidL 128 xs)).length cr) 128) :: ((bif m 5 then l2 else lr) ++ ((bif m 5 then yy.lo ++ yy.ll else []) ++ ((b7, cb [z.vo, z.vl] 67) :: (t1, tabO 128 m1) :: (m1, .map es2 ck) :: (b3, cb (cP p) 38) :: (z.lo ++ z.ll)))))) ?_ (fun w1 hw => by simp only [hm, cond_false] at hw; exact hw)
      refine J.unguard rfl rfl rfl ?_
      refine J.perm ([] ++ ((rt, rtabO (bif m 5 then v2 else .slice ar (ordE (laidL 128 xs)).length cr) 128) :: ((bif m 5 then l2 else lr) ++ ((bif m 5 then yy.lo ++ yy.ll else []) ++ ((b7, cb [z.vo, z.vl] 67) :: (t1, tabO 128 m1) :: (m1, .map es2 ck) :: (b3, cb (cP p) 38) :: (z.lo ++ z.ll)))))) (.refl _) ?_
      refine J.callS (α := Value × List (Nat × Obj)) (V := (·.1)) (Pr := fun x => Vec 55 51 x.1 (ordE (endT (laidL 128 xs) p).2).length (fE (ordE (endT (laidL 128 xs) p).2)) x.2) (L := (·.2)) (l1 := []) Ty.bd37 rfl rfl (fun w1 hw => all_spec t1 m1 128 ((endT (laidL 128 xs) p).2) es2 ck w1 (hw.own ((t1, tabO 128 m1)) (by repeat first | exact .head _ | apply List.Mem.tail | apply List.mem_append_right)) (hw.own ((m1, .map es2 ck)) (by repeat first | exact .head _ | apply List.Mem.tail | apply List.mem_append_right)) hT2 hl2) (fun x hvzn => ?_)
      obtain ⟨vzn, lzn⟩ := x
      simp only at hvzn ⊢
      refine J.nil (JX.finB rfl (fun w1 hw => ⟨⟨⟨yy, v2, l2, vzn, lzn⟩, rfl, fun j h1 h2 => ?_, ?_⟩, trivial⟩))
      · match j, h1 with
        | 0, _ => (first | rfl | trivial)
        | 1, _ => (first | rfl | trivial)
        | 2, _ => (first | rfl | trivial)
        | 3, _ => (first | rfl | trivial)
        | 4, _ => (first | rfl | trivial)
        | 5, _ => (first | rfl | trivial)
        | 6, _ => (first | rfl | trivial)
        | 7, _ => (first | rfl | trivial)
        | 8, _ => (first | rfl | trivial)
        | 9, _ => (first | rfl | trivial)
        | 10, _ => exact absurd (h2.symm.trans hm) (by decide)
        | 11, _ => (first | rfl | trivial)
        | 12, _ => (first | rfl | trivial)
        | 13, _ => (first | rfl | trivial)
        | 14, _ => (first | rfl | trivial)
        | 15, _ => (first | rfl | trivial)
        | 16, _ => (first | rfl | trivial)
        | j + 17, h1 => omega
      show ((m 5 = true → (endT (laidL 128 xs) p).1.is yy ∧ Vec 55 51 v2 (ordE (endT (laidL 128 xs) p).2).length (fE (ordE (endT (laidL 128 xs) p).2)) l2) ∧ (true = true → Vec 55 51 vzn (ordE (endT (laidL 128 xs) p).2).length (fE (ordE (endT (laidL 128 xs) p).2)) lzn) ∧ (m 6 = true → m 5 = true) ∧ (m 8 = true → m 5 = true) ∧ (m 14 = true → m 5 = true)) ∧ St w [] ((rt, rtabO (bif m 5 then v2 else .slice ar (ordE (laidL 128 xs)).length cr) 128) :: ((bif m 5 then l2 else lr) ++ ((bif m 5 then yy.lo ++ yy.ll else []) ++ ((bif true then lzn else []) ++ ((b7, cb [z.vo, z.vl] 67) :: (t1, tabO 128 m1) :: (m1, .map es2 ck) :: (b3, cb (cP p) 38) :: (z.lo ++ z.ll)))))) w1
      simp only [hm, cond_true, cond_false] at hw ⊢
      exact ⟨⟨hF.1, fun _ => hvzn, hF.2.2⟩, hw.perm (by (refine perm_cnt (fun _ => ?_)); simp only [cntB_append, cntB_cons, cntB_nil, Nat.add_zero, Nat.zero_add]; try ac_rfl)⟩
    · skip
      obtain ⟨yy, v2, l2, vz, lz⟩ := x
      show J _ _ _ _ _ ((24, .bool true) :: _) _
      have hp8 : m 8 = true := predsT hp (by kernel_rfl)
      refine J.pr (fun hF => ?_)
      first | refine J.skip rfl rfl rfl rfl rfl ?_ | refine J.skipU rfl rfl rfl rfl ?_ | (refine J.unguard rfl rfl rfl ?_; refine J.move rfl rfl ?_)
      exact J.finX rfl (fun _ hw => ⟨⟨yy, v2, l2, vz, lz⟩, rfl, fun _ _ _ => rfl, hF, hw⟩)
    · skip
      obtain ⟨yy, v2, l2, vz, lz⟩ := x
      show J _ _ _ _ _ ((24, .bool true) :: (27, .pointer (some ⟨rt, 0, none⟩)) :: _) _
      have hp8 : m 8 = true := predsT hp (by kernel_rfl)
      refine J.pr (fun hF => ?_)
      first | refine J.skip rfl rfl rfl rfl rfl ?_ | refine J.skipU rfl rfl rfl rfl ?_ | (refine J.unguard rfl rfl rfl ?_; refine J.nilCheck rfl rfl ?_)
      exact J.finX rfl (fun _ hw => ⟨⟨yy, v2, l2, vz, lz⟩, rfl, fun _ _ _ => rfl, hF, hw⟩)
    · skip
      obtain ⟨yy, v2, l2, vz, lz⟩ := x
      show J _ _ _ _ _ ((24, .bool true) :: (28, .pointer (some ⟨rt, 0, none⟩)) :: _) _
      have hp8 : m 8 = true := predsT hp (by kernel_rfl)
      refine J.pr (fun hF => ?_)
      first | refine J.skip rfl rfl rfl rfl rfl ?_ | refine J.skipU rfl rfl rfl rfl ?_ | (refine J.unguard rfl rfl rfl ?_; refine J.fieldAddr Ty.fd94_0 rfl rfl ?_)
      exact J.finX rfl (fun _ hw => ⟨⟨yy, v2, l2, vz, lz⟩, rfl, fun _ _ _ => rfl, hF, hw⟩)
    · skip
      obtain ⟨yy, v2, l2, vz, lz⟩ := x
      show J _ _ _ _ _ ((24, .bool true) :: (29, .pointer (some ⟨rt, 0 + 0, none⟩)) :: _) _
      have hp8 : m 8 = true := predsT hp (by kernel_rfl)
      refine J.pr (fun hF => ?_)
      have h6 : m 5 = true := hF.2.2.2.1 hp8
      obtain ⟨hy1, hv1⟩ := hF.1 h6
      refine J.conseq (I' := St w [] ((rt, rtabO v2 128) :: (l2 ++ ((yy.lo ++ yy.ll) ++ ((bif m 10 then lz else []) ++ ((b7, cb [z.vo, z.vl] 67) :: (t1, tabO 128 m1) :: (m1, .map es2 ck) :: (b3, cb (cP p) 38) :: (z.lo ++ z.ll))))))) ?_ (fun w1 hw => by simp only [h6, cond_true] at hw; exact hw)
      refine J.unguard rfl rfl rfl ?_
      refine J.load1 (v := v2) Ty.a25 rfl (fun w1 hw => (cell_of (hw.own (rt, rtabO v2 128) (by repeat first | exact .head _ | apply List.Mem.tail | apply List.mem_append_right))).trans rfl) rfl ?_
      refine J.nil (JX.finB rfl (fun w1 hw => ⟨⟨⟨yy, v2, l2, vz, lz⟩, rfl, fun j h1 h2 => ?_, ?_⟩, trivial⟩))
      · match j, h1 with
        | 0, _ => (first | rfl | trivial)
        | 1, _ => (first | rfl | trivial)
        | 2, _ => (first | rfl | trivial)
        | 3, _ => (first | rfl | trivial)
        | 4, _ => (first | rfl | trivial)
        | 5, _ => (first | rfl | trivial)
        | 6, _ => (first | rfl | trivial)
        | 7, _ => (first | rfl | trivial)
        | 8, _ => (first | rfl | trivial)
        | 9, _ => (first | rfl | trivial)
        | 10, _ => (first | rfl | trivial)
        | 11, _ => (first | rfl | trivial)
        | 12, _ => (first | rfl | trivial)
        | 13, _ => (first | rfl | trivial)
        | 14, _ => (first | rfl | trivial)
        | 15, _ => (first | rfl | trivial)
        | 16, _ => (first | rfl | trivial)
        | j + 17, h1 => omega
      show ((m 5 = true → (endT (laidL 128 xs) p).1.is yy ∧ Vec 55 51 v2 (ordE (endT (laidL 128 xs) p).2).length (fE (ordE (endT (laidL 128 xs) p).2)) l2) ∧ (m 10 = true → Vec 55 51 vz (ordE (endT (laidL 128 xs) p).2).length (fE (ordE (endT (laidL 128 xs) p).2)) lz) ∧ (m 6 = true → m 5 = true) ∧ (m 8 = true → m 5 = true) ∧ (true = true → m 5 = true)) ∧ St w [] ((rt, rtabO (bif m 5 then v2 else .slice ar (ordE (laidL 128 xs)).length cr) 128) :: ((bif m 5 then l2 else lr) ++ ((bif m 5 then yy.lo ++ yy.ll else []) ++ ((bif m 10 then lz else []) ++ ((b7, cb [z.vo, z.vl] 67) :: (t1, tabO 128 m1) :: (m1, .map es2 ck) :: (b3, cb (cP p) 38) :: (z.lo ++ z.ll)))))) w1
      simp only [h6, cond_true] at hw ⊢
      exact ⟨⟨fun _ => hF.1 h6, hF.2.1, fun h => (by first | trivial | rfl), fun h => (by first | trivial | rfl), fun h => (by first | trivial | rfl)⟩, hw⟩
    · skip
      obtain ⟨yy, v2, l2, vz, lz⟩ := x
      show J _ _ _ _ _ ((24, .bool true) :: (26, vz) :: (30, v2) :: (26, vz) :: _) _
      have hp10 : m 10 = true := predsT hp (by kernel_rfl)
      have hp14 : m 14 = true := predsT hp (by kernel_rfl)
      have hp10 : m 10 = true := predsT hp (by kernel_rfl)
      have hp8 : m 8 = true := predsT hp (by kernel_rfl)
      refine J.pr (fun hF => ?_)
      have h6 : m 5 = true := hF.2.2.2.2 hp14
      obtain ⟨hy1, hv1⟩ := hF.1 h6
      have hvz1 := hF.2.1 hp10
      refine J.conseq (I' := St w [] ((rt, rtabO v2 128) :: (l2 ++ ((yy.lo ++ yy.ll) ++ (lz ++ ((b7, cb [z.vo, z.vl] 67) :: (t1, tabO 128 m1) :: (m1, .map es2 ck) :: (b3, cb (cP p) 38) :: (z.lo ++ z.ll))))))) ?_ (fun w1 hw => by simp only [h6, hp10, cond_true] at hw; exact hw)
      refine J.unguard rfl rfl rfl ?_
      refine J.callB (v := .bool true) (fun w1 w2 hw hb => hw.step hb) Ty.bd36 rfl rfl (fun w1 hw => (by have h := rsame_spec _ _ (ordE (endT (laidL 128 xs) p).2) (ordE (endT (laidL 128 xs) p).2) w1 (vec_rowM hvz1 hw (fun q hq => by first | (simp [hq]; done) | (simp at hq; simp [hq]; done) | (simp at hq; subst hq; simp))) (vec_rowM hv1 hw (fun q hq => by first | (simp [hq]; done) | (simp at hq; simp [hq]; done) | (simp at hq; subst hq; simp))) (ordE_ok hT2) (ordE_ok hT2) (by omega) (by omega); simpa using h)) ?_
      refine J.nil (JX.finB rfl (fun w1 hw => ⟨⟨⟨yy, v2, l2, vz, lz⟩, rfl, fun j h1 h2 => ?_, ?_⟩, trivial⟩))
      · match j, h1 with
        | 0, _ => (first | rfl | trivial)
        | 1, _ => (first | rfl | trivial)
        | 2, _ => (first | rfl | trivial)
        | 3, _ => (first | rfl | trivial)
        | 4, _ => (first | rfl | trivial)
        | 5, _ => (first | rfl | trivial)
        | 6, _ => (first | rfl | trivial)
        | 7, _ => (first | rfl | trivial)
        | 8, _ => (first | rfl | trivial)
        | 9, _ => (first | rfl | trivial)
        | 10, _ => (first | rfl | trivial)
        | 11, _ => (first | rfl | trivial)
        | 12, _ => (first | rfl | trivial)
        | 13, _ => (first | rfl | trivial)
        | 14, _ => (first | rfl | trivial)
        | 15, _ => (first | rfl | trivial)
        | 16, _ => (first | rfl | trivial)
        | j + 17, h1 => omega
      show ((m 5 = true → (endT (laidL 128 xs) p).1.is yy ∧ Vec 55 51 v2 (ordE (endT (laidL 128 xs) p).2).length (fE (ordE (endT (laidL 128 xs) p).2)) l2) ∧ (m 10 = true → Vec 55 51 vz (ordE (endT (laidL 128 xs) p).2).length (fE (ordE (endT (laidL 128 xs) p).2)) lz) ∧ (m 6 = true → m 5 = true) ∧ (m 8 = true → m 5 = true) ∧ (m 14 = true → m 5 = true)) ∧ St w [] ((rt, rtabO (bif m 5 then v2 else .slice ar (ordE (laidL 128 xs)).length cr) 128) :: ((bif m 5 then l2 else lr) ++ ((bif m 5 then yy.lo ++ yy.ll else []) ++ ((bif m 10 then lz else []) ++ ((b7, cb [z.vo, z.vl] 67) :: (t1, tabO 128 m1) :: (m1, .map es2 ck) :: (b3, cb (cP p) 38) :: (z.lo ++ z.ll)))))) w1
      simp only [h6, hp10, cond_true] at hw ⊢
      exact ⟨⟨fun _ => hF.1 h6, fun _ => hvz1, fun h => (by first | trivial | rfl), fun h => (by first | trivial | rfl), fun h => (by first | trivial | rfl)⟩, hw⟩
    · skip
      obtain ⟨yy, v2, l2, vz, lz⟩ := x
      show J _ _ _ _ _ ((31, .bool true) :: (24, .bool true) :: _) _
      have hp8 : m 8 = true := predsT hp (by kernel_rfl)
      refine J.pr (fun hF => ?_)
      (first | refine J.pickT rfl rfl rfl ?_ | refine J.pickF rfl rfl rfl ?_)
      exact J.finX rfl (fun _ hw => ⟨⟨yy, v2, l2, vz, lz⟩, rfl, fun _ _ _ => rfl, hF, hw⟩)
  case htail =>
    intro x
    obtain ⟨yy, v2, l2, vz, lz⟩ := x
    show J _ _ _ _ _ ((32, .bool true) :: (31, .bool true) :: (30, v2) :: (29, .pointer (some ⟨rt, 0 + 0, none⟩)) :: (28, .pointer (some ⟨rt, 0, none⟩)) :: (27, .pointer (some ⟨rt, 0, none⟩)) :: (26, vz) :: (25, .pointer (some ⟨t1, 0, none⟩)) :: (24, .bool true) :: (23, .bool true) :: (22, .bool true) :: (21, .agg [yy.vo, yy.vl].toArray) :: (20, .agg (cP p).toArray) :: (19, .pointer (some ⟨rt, 0, none⟩)) :: (18, .agg [z.vo, z.vl].toArray) :: (17, .bool true) :: (16, .bool true) :: _) (fun w1 => ((true = true → (endT (laidL 128 xs) p).1.is yy ∧ Vec 55 51 v2 (ordE (endT (laidL 128 xs) p).2).length (fE (ordE (endT (laidL 128 xs) p).2)) l2) ∧ (true = true → Vec 55 51 vz (ordE (endT (laidL 128 xs) p).2).length (fE (ordE (endT (laidL 128 xs) p).2)) lz) ∧ (true = true → true = true) ∧ (true = true → true = true) ∧ (true = true → true = true)) ∧ St w [] ((rt, rtabO (bif true then v2 else .slice ar (ordE (laidL 128 xs)).length cr) 128) :: ((bif true then l2 else lr) ++ ((bif true then yy.lo ++ yy.ll else []) ++ ((bif true then lz else []) ++ ((b7, cb [z.vo, z.vl] 67) :: (t1, tabO 128 m1) :: (m1, .map es2 ck) :: (b3, cb (cP p) 38) :: (z.lo ++ z.ll)))))) w1)
    refine J.pr (fun hF => ?_)
    refine J.assign rfl rfl ?_
    refine J.nil ?_
    refine JX.thenN (hK3 _ _ ?_)
    refine JC.ret ?_
    refine JX.ret1 rfl rfl (fun w hw => ?_)
    exact ⟨rfl, (hw.drop (List.nil_sublist _)).below⟩

theorem tearDrops_walk (w : World) (o : Sl EV) (ho : RSl 51 72 REnt w [o.v] o) (fr : Int) (hf : (Lit.int .i64 fr).wf = true) (pc : List Value) (p : PV) (hp : RPath w pc p) :
    Calls Try.prog 10 [o.v, .int .i64 fr, .agg pc.toArray].toArray w fun r w' => r = .returned (.bool true) ∧ Bel w w' := by
  obtain ⟨rfl, hpo⟩ := hp
  exact tearDrops_spec o.v o.xs w (rslE ho) (rslE_ok ho) (rslE_len ho) fr p hpo
theorem tearDies_walk (w : World) (o : Sl EV) (ho : RSl 51 72 REnt w [o.v] o) (n : Int) (hf : (Lit.int .i64 n).wf = true) :
    Calls Try.prog 11 [o.v, .int .i64 n].toArray w fun r w' => r = .returned (.bool true) ∧ Bel w w' := tearDies_spec o.v o.xs w (rslE ho) (rslE_ok ho) (rslE_len ho) n
theorem tearEnds_walk (w : World) (o : Sl EV) (ho : RSl 51 72 REnt w [o.v] o) (pc : List Value) (p : PV) (hp : RPath w pc p) :
    Calls Try.prog 13 [o.v, .agg pc.toArray].toArray w fun r w' => r = .returned (.bool true) ∧ Bel w w' := by
  obtain ⟨rfl, hpo⟩ := hp
  exact tearEnds_spec o.v o.xs w (rslE ho) (rslE_ok ho) (rslE_len ho) p hpo
end Go.Proofs.Ytohldionclgljaa
