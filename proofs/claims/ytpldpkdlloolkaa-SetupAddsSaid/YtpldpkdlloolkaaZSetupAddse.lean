/-
  SetupAdds: texts that its proof needs, part 5.
-/
import Derived.Test.YtpldpkdlloolkaaZSetupAddsd
/-
  SetupAdds: the walk.
-/
namespace Go.Proofs.Ytpldpkdlloolkaa
open Go.J Go.RowKit
set_option linter.unusedVariables false
set_option linter.unusedSimpArgs false
set_option maxRecDepth 8000
theorem addr_zero (a : Option Addr) : a.map (·.add (0 * 1)) = a := by cases a <;> simp [Addr.add]
theorem tadd_get {L L' : List EV} {most : Int} {x : EV} (h : tadd L most x = (0, L')) : L'.length = L.length + 1 ∧ tget L' x.p = some x := by
  rcases tadd_cases L most x with ⟨_, h2, _, h4, _⟩ | ⟨h1, _⟩
  · rw [h] at h2
    simp only at h2
    subst h2
    refine ⟨by simp, ?_⟩
    unfold tget at h4 ⊢
    rw [List.find?_append, h4]
    simp
  · rw [h] at h1
    exact absurd rfl h1
theorem tadd_no {L L' : List EV} {most e : Int} {x : EV} (h : tadd L most x = (e, L')) (he : e ≠ 0) : L' = L := by
  rcases tadd_cases L most x with ⟨h1, _⟩ | ⟨_, h2, _⟩
  · rw [h] at h1
    exact absurd h1 he
  · rw [h] at h2
    exact h2

set_option maxHeartbeats 4000000 in
theorem setupAdds_spec (ev ov : Value) (xs : List EV) (os : List Bool) (most n fr : Int) (me : IDV) (f : FV) (s : FSl) (w : World) (hre : Row w ev xs.length (fE xs)) (hok : ∀ x, x ∈ xs → okE x) (hxl : xs.length ≤ 1954687338213) (hs : FRows w f s) (hg : BigF f) (hf : OkF f) (hro : Row w ov os.length (os.map bV)) (hlo2 : os.length ≤ 140737488351232) (hfr : okN fr) (cc cf : List Value) (hcc : cc = [ev, iV most] ++ cW n me ++ [ov]) (hcf : cf = cFG f s) :
    Calls Try.prog 14 [.agg cc.toArray, .int .i64 fr, .agg cf.toArray].toArray w fun r w' => r = .returned (.bool true) ∧ Bel w w' := by
  obtain ⟨ae, ce, rfl, hce, _⟩ := _root_.id hre
  obtain ⟨ao, co_, rfl, hco, _⟩ := _root_.id hro
  obtain ⟨vt1, vi1, vv1, vx1⟩ := s
  obtain ⟨at1, ct1, hh, _, _⟩ := _root_.id hs.tr
  simp only at hh
  subst hh
  obtain ⟨ai1, ci1, hh, _, _⟩ := _root_.id hs.ids
  simp only at hh
  subst hh
  obtain ⟨av1, cv1, hh, _, _⟩ := _root_.id hs.val
  simp only at hh
  subst hh
  obtain ⟨ax1, cx1, hh, _, _⟩ := _root_.id hs.txt
  simp only at hh
  subst hh
  obtain ⟨mo, hmo⟩ : ∃ mo, min (max most 0) 128 = mo := ⟨_, rfl⟩
  have hmb : mo ≤ 128 := by omega
  have hcl := cut_len f
  have hbt := hg.tr
  refine calls_of_J (args := [.agg cc.toArray, .int .i64 fr, .agg cf.toArray]) (e := [(0, .agg cc.toArray), (1, .int .i64 fr), (2, .agg cf.toArray)]) Try.func14 rfl rfl ⟨rfl, rfl, rfl, trivial⟩ (St.start w) ?_
  refine JC.seq (fun K0 hK0 => ?_)
  refine JC.region ?_
  refine J.box rfl rfl rfl (fun b3 => ?_)
  refine J.box rfl rfl rfl (fun b5 => ?_)
  refine J.assign rfl rfl ?_
  refine J.nil ?_
  refine JX.thenN (hK0 _ _ ?_)
  refine JC.seq (fun K1 hK1 => ?_)
  refine JC.region ?_
  subst hcc
  subst hcf
  refine J.fieldAddr Ty.fd85_0 rfl rfl ?_
  refine J.load1 (v := .slice ae xs.length ce) Ty.a62 rfl (fun w1 hw => by rw [cell_of (hw.own _ (.tail _ (.head _)))]; rfl) rfl ?_
  refine J.fieldAddr Ty.fd85_1 rfl rfl ?_
  refine J.load1 (v := iV most) Ty.a3 rfl (fun w1 hw => by rw [cell_of (hw.own _ (.tail _ (.head _)))]; rfl) rfl ?_
  refine J.perm ([] ++ ((b5, cb (cFG f ⟨.slice at1 f.tr.length ct1, .slice ai1 f.ids.length ci1, .slice av1 f.val.length cv1, .slice ax1 f.txt.length cx1⟩) 52) :: (b3, cb ([.slice ae xs.length ce, iV most] ++ cW n me ++ [.slice ao os.length co_]) 85) :: [])) (.refl _) ?_
  refine J.callS (α := LaidS) (V := fun x => .tuple #[.pointer (some ⟨x.t1, 0, none⟩), .pointer (some ⟨x.rt, 0, none⟩)]) (Pr := fun x => Tab (laidL mo xs) x.es x.ck ∧ Vec 34 51 x.vr (ordE (laidL mo xs)).length (fE (ordE (laidL mo xs))) x.lr) (L := fun x => x.blk mo) (l1 := []) Ty.bd45 rfl rfl (fun w1 hw => laid_spec _ xs most w1 (hre.below (hw.drop (List.nil_sublist _)).below) hok hxl hmo) (fun q hq => ?_)
  obtain ⟨t1, m1, rt, es, ck, vr, lr⟩ := q
  obtain ⟨hT, hvr⟩ := hq
  simp only [LaidS.blk, List.cons_append] at hT hvr ⊢
  obtain ⟨L, hLe⟩ : ∃ L, laidL mo xs = L := ⟨_, rfl⟩
  have hG := laidL_good mo xs
  rw [hLe] at hT hvr hG
  obtain ⟨ar, cr, rfl, hcr⟩ := hvr.form
  have hlen := hG.len
  have hol := (ordE_perm L).length_eq
  have hl128 : L.length ≤ 128 := by omega
  have ho128 : (ordE L).length ≤ 128 := by omega
  refine J.perm ((t1, tabO mo m1) :: (m1, .map es ck) :: (b5, cb (cFG f ⟨.slice at1 f.tr.length ct1, .slice ai1 f.ids.length ci1, .slice av1 f.val.length cv1, .slice ax1 f.txt.length cx1⟩) 52) :: (b3, cb ([.slice ae xs.length ce, iV most] ++ cW n me ++ [.slice ao os.length co_]) 85) :: (rt, rtabO (.slice ar (ordE L).length cr) mo) :: lr) (by (refine perm_cnt (fun _ => ?_)); simp only [cntB_append, cntB_cons, cntB_nil, Nat.add_zero, Nat.zero_add]; try ac_rfl) ?_
  refine J.move rfl rfl ?_
  refine J.extract rfl rfl rfl ?_
  refine J.extract rfl rfl rfl ?_
  refine J.assign rfl rfl ?_
  refine J.assign rfl rfl ?_
  refine J.nil ?_
  refine JX.thenN (hK1 _ _ ?_)
  refine JC.seq (fun K2 hK2 => ?_)
  refine JC.seq (fun K3 hK3 => ?_)
  refine JC.region ?_
  refine J.move rfl rfl ?_
  refine J.eqNil Ty.u29 rfl rfl rfl ?_
  refine J.move rfl rfl ?_
  refine J.unguard rfl rfl rfl ?_
  refine J.callB (v := .bool true) (fun w1 w2 hw hb => hw.step hb) Ty.bd15 rfl rfl (fun w1 hw => fixed14_spec w1) ?_
  first | refine J.skip rfl rfl rfl rfl rfl ?_ | refine J.skipU rfl rfl rfl rfl ?_ | (refine J.unguard rfl rfl rfl ?_; refine J.not rfl rfl ?_)
  (first | refine J.pickT rfl rfl rfl ?_ | refine J.pickF rfl rfl rfl ?_)
  refine J.nil ?_
  refine JX.thenN (hK3 _ _ ?_)
  first | refine JC.condF rfl ?_ | refine JC.cond rfl (fun h => by first | (exfalso; simp at h; omega) | (simp at h)) (fun _ => ?_)
  refine JC.skip ?_
  refine JX.thenN (hK2 _ _ ?_)
  refine JC.seq (fun K4 hK4 => ?_)
  refine JC.region ?_
  refine J.fieldAddr Ty.fd52_8 rfl rfl ?_
  refine J.loadO (v := .slice at1 f.tr.length ct1) Ty.a26 rfl (.tail _ (.tail _ (.head _))) rfl rfl ?_
  refine J.fieldAddr Ty.fd52_8 rfl rfl ?_
  refine J.loadO (v := .slice at1 f.tr.length ct1) Ty.a26 rfl (.tail _ (.tail _ (.head _))) rfl rfl ?_
  refine J.lenS rfl Ty.u26 rfl rfl ?_
  refine J.min2 rfl rfl rfl ?_
  refine J.name 32 rfl (show _ = .int .i64 (((cutF f).tr.length : Nat) : Int) by rw [show ((cutF f).tr.length : Int) = min (f.tr.length : Int) 200 from by show (((f.tr.take 200).length : Nat) : Int) = _; rw [List.length_take]; omega]) ?_
  have hcf1 : (cutF f).tr.length ≤ f.tr.length := by show (f.tr.take 200).length ≤ _; rw [List.length_take]; omega
  refine J.sliceS (i := 0) (j := (cutF f).tr.length) Ty.el26 Ty.s3 rfl rfl rfl rfl (by simp [bnd]) (by omega) (by omega) (by omega) rfl ?_
  refine J.name 33 rfl (show _ = Value.slice at1 (cutF f).tr.length ct1 by rw [addr_zero, ite_self]; rfl) ?_
  refine J.fieldAddr Ty.fd52_8 rfl rfl ?_
  refine J.storeO (cs := cFG f ⟨.slice at1 f.tr.length ct1, .slice ai1 f.ids.length ci1, .slice av1 f.val.length cv1, .slice ax1 f.txt.length cx1⟩) (vs := [.slice at1 (cutF f).tr.length ct1]) Ty.s26 rfl rfl rfl rfl (by simp [Value.oneCell']) (.there (.there .here)) (by simp) ?_
  refine J.perm ((t1, tabO mo m1) :: (m1, .map es ck) :: (b5, cb (cFG (cutF f) ⟨.slice at1 (cutF f).tr.length ct1, .slice ai1 (cutF f).ids.length ci1, .slice av1 (cutF f).val.length cv1, .slice ax1 (cutF f).txt.length cx1⟩) 52) :: (b3, cb ([.slice ae xs.length ce, iV most] ++ cW n me ++ [.slice ao os.length co_]) 85) :: (rt, rtabO (.slice ar (ordE L).length cr) mo) :: lr) (.refl _) ?_
  have hg1 := cut_big hg
  have hf1 := cut_ok hf
  refine J.nil ?_
  refine JX.thenN (hK4 _ _ ?_)
  refine JC.seq (fun K5 hK5 => ?_)
  by_cases hbad : badT n fr (cutF f)
  · skip
    refine JC.region ?_
    refine J.move rfl rfl ?_
    refine J.fieldAddr Ty.fd85_2 rfl rfl ?_
    refine J.loadOA (vs := cW n me) Ty.a41 Ty.s41 rfl (.tail _ (.tail _ (.tail _ (.head _)))) rfl rfl rfl ?_
    refine J.move rfl rfl ?_
    refine J.loadOA (vs := cFG (cutF f) ⟨.slice at1 (cutF f).tr.length ct1, .slice ai1 (cutF f).ids.length ci1, .slice av1 (cutF f).val.length cv1, .slice ax1 (cutF f).txt.length cx1⟩) Ty.a52 Ty.s52 rfl (.tail _ (.tail _ (.head _))) rfl rfl rfl ?_
    refine J.fieldAddr Ty.fd85_3 rfl rfl ?_
    refine J.loadO (v := .slice ao os.length co_) Ty.a28 rfl (.tail _ (.tail _ (.tail _ (.head _)))) rfl rfl ?_
    refine J.callB (v := .agg (cD nilV false false).toArray) (fun w1 w2 hw hb => hw.step hb) Ty.bd19 rfl rfl (fun w1 hw => gtake_no t1 n fr me (cutF f) ⟨.slice at1 (cutF f).tr.length ct1, .slice ai1 (cutF f).ids.length ci1, .slice av1 (cutF f).val.length cv1, .slice ax1 (cutF f).txt.length cx1⟩ _ w1 (rows_cut (hs.below (hw.drop (List.nil_sublist _)).below)) hg1 hbad) ?_
    refine J.alloc zN rfl rfl (fun b9 => ?_)
    refine J.storeW (cs := cD nilV false false) (vs := cD nilV false false) Ty.s37 rfl rfl rfl rfl rfl (by simp [Value.oneCell']) .here ?_
    refine J.perm ((b9, cb (cD nilV false false) 37) :: (t1, tabO mo m1) :: (m1, .map es ck) :: (b5, cb (cFG (cutF f) ⟨.slice at1 (cutF f).tr.length ct1, .slice ai1 (cutF f).ids.length ci1, .slice av1 (cutF f).val.length cv1, .slice ax1 (cutF f).txt.length cx1⟩) 52) :: (b3, cb ([.slice ae xs.length ce, iV most] ++ cW n me ++ [.slice ao os.length co_]) 85) :: (rt, rtabO (.slice ar (ordE L).length cr) mo) :: lr) (.refl _) ?_
    refine J.nil ?_
    refine JX.thenN (hK5 _ _ ?_)
    refine JC.seq (fun K6 hK6 => ?_)
    refine JC.region ?_
    refine J.fieldAddr Ty.fd37_0 rfl rfl ?_
    refine J.loadO (v := .slice none 0 0) Ty.a35 rfl (.head _) rfl rfl ?_
    refine J.lenS rfl Ty.u35 rfl rfl ?_
    refine J.bin rfl rfl rfl rfl ?_
    refine J.name 46 rfl (show Value.bool _ = .bool false by simp) ?_
    refine J.move rfl rfl ?_
    first | refine J.skip rfl rfl rfl rfl rfl ?_ | refine J.skipU rfl rfl rfl rfl ?_ | (refine J.unguard rfl rfl rfl ?_; refine J.fieldAddr Ty.fd37_0 rfl rfl ?_)
    refine J.skip rfl rfl rfl rfl rfl ?_
    refine J.skip rfl rfl rfl rfl rfl ?_
    refine J.skip rfl rfl rfl rfl rfl ?_
    refine J.skip rfl rfl rfl rfl rfl ?_
    refine J.skip rfl rfl rfl rfl rfl ?_
    refine J.skip rfl rfl rfl rfl rfl ?_
    (first | refine J.pickT rfl rfl rfl ?_ | refine J.pickF rfl rfl rfl ?_)
    refine J.assign rfl rfl ?_
    refine J.nil ?_
    refine JX.thenN (hK6 _ _ ?_)
    refine JC.seq (fun K7 hK7 => ?_)
    refine JC.seq (fun K8 hK8 => ?_)
    refine JC.region ?_
    refine J.move rfl rfl ?_
    refine J.not rfl rfl ?_
    refine J.move rfl rfl ?_
    first | refine J.skip rfl rfl rfl rfl rfl ?_ | refine J.skipU rfl rfl rfl rfl ?_ | (refine J.unguard rfl rfl rfl ?_; refine J.fieldAddr Ty.fd37_1 rfl rfl ?_)
    refine J.unguard rfl rfl rfl ?_
    refine J.loadO (v := .bool false) Ty.a4 rfl (.head _) rfl rfl ?_
    first | refine J.skip rfl rfl rfl rfl rfl ?_ | refine J.skipU rfl rfl rfl rfl ?_ | (refine J.unguard rfl rfl rfl ?_; refine J.not rfl rfl ?_)
    (first | refine J.pickT rfl rfl rfl ?_ | refine J.pickF rfl rfl rfl ?_)
    refine J.nil ?_
    refine JX.thenN (hK8 _ _ ?_)
    first | refine JC.condT rfl ?_ | refine JC.cond rfl (fun _ => ?_) (fun h => by first | (exfalso; simp at h; omega) | (simp at h))
    refine JC.seq (fun K9 hK9 => ?_)
    apply JC.drawX (α := Value × List (Nat × Obj)) 13 (fun x => match x with | ⟨vz, lz⟩ => [.pointer (some ⟨t1, 0, none⟩), vz, .pointer (some ⟨rt, 0, none⟩), .pointer (some ⟨rt, 0, none⟩), .pointer (some ⟨rt, 0 + 0, none⟩), .slice ar (ordE L).length cr, .bool true, .bool true, .pointer (some ⟨b9, 0 + 0, none⟩), .slice none 0 0, .int .i64 ((0 : Nat) : Int), .bool true, .bool true]) (fun m x => match x with | ⟨vz, lz⟩ => fun w1 => (m 1 = true → Vec 34 51 vz ((ordE L)).length (fE ((ordE L))) lz) ∧ St w [] ((b9, cb (cD nilV false false) 37) :: (t1, tabO mo m1) :: (m1, .map es ck) :: (b5, cb (cFG (cutF f) ⟨.slice at1 (cutF f).tr.length ct1, .slice ai1 (cutF f).ids.length ci1, .slice av1 (cutF f).val.length cv1, .slice ax1 (cutF f).txt.length cx1⟩) 52) :: (b3, cb ([.slice ae xs.length ce, iV most] ++ cW n me ++ [.slice ao os.length co_]) 85) :: (rt, rtabO (.slice ar (ordE L).length cr) mo) :: ((bif m 1 then lz else []) ++ lr)) w1) Ty.mixed rfl rfl rfl (by kernel_rfl) rfl rfl ?hinit ?hstep ?htail
    case hinit => exact fun w1 hw => ⟨(.slice none 0 0, []), fun h => (by cases h), hw.drew⟩
    case hstep =>
      refine ⟨fun m x hm hp => ?_, fun m x hm hp => ?_, fun m x hm hp => ?_, fun m x hm hp => ?_, fun m x hm hp => ?_, fun m x hm hp => ?_, fun m x hm hp => ?_, fun m x hm hp => ?_, fun m x hm hp => ?_, fun m x hm hp => ?_, fun m x hm hp => ?_, fun m x hm hp => ?_, fun m x hm hp => ?_, trivial⟩
      · skip
        obtain ⟨vz, lz⟩ := x
        show J _ _ _ _ _ (_) _
        refine J.pr (fun hF => ?_)
        refine J.move rfl rfl ?_
        exact J.finX rfl (fun _ hw => ⟨⟨vz, lz⟩, rfl, fun _ _ _ => rfl, hF, hw⟩)
      · skip
        obtain ⟨vz, lz⟩ := x
        show J _ _ _ _ _ ((63, .pointer (some ⟨t1, 0, none⟩)) :: _) _
        refine J.pr (fun hF => ?_)
        refine J.conseq (I' := St w [] ((b9, cb (cD nilV false false) 37) :: (t1, tabO mo m1) :: (m1, .map es ck) :: (b5, cb (cFG (cutF f) ⟨.slice at1 (cutF f).tr.length ct1, .slice ai1 (cutF f).ids.length ci1, .slice av1 (cutF f).val.length cv1, .slice ax1 (cutF f).txt.length cx1⟩) 52) :: (b3, cb ([.slice ae xs.length ce, iV most] ++ cW n me ++ [.slice ao os.length co_]) 85) :: (rt, rtabO (.slice ar (ordE L).length cr) mo) :: lr)) ?_ (fun w1 hw => by simp only [hm, cond_false] at hw; exact hw)
        refine J.perm ([] ++ ((b9, cb (cD nilV false false) 37) :: (t1, tabO mo m1) :: (m1, .map es ck) :: (b5, cb (cFG (cutF f) ⟨.slice at1 (cutF f).tr.length ct1, .slice ai1 (cutF f).ids.length ci1, .slice av1 (cutF f).val.length cv1, .slice ax1 (cutF f).txt.length cx1⟩) 52) :: (b3, cb ([.slice ae xs.length ce, iV most] ++ cW n me ++ [.slice ao os.length co_]) 85) :: (rt, rtabO (.slice ar (ordE L).length cr) mo) :: lr)) (.refl _) ?_
        refine J.callS (α := Value × List (Nat × Obj)) (V := (·.1)) (Pr := fun x => Vec 34 51 x.1 (ordE L).length (fE (ordE L)) x.2) (L := (·.2)) (l1 := []) Ty.bd25 rfl rfl (fun w1 hw => all_spec t1 m1 mo (L) es ck w1 (hw.own _ (.tail _ (.head _))) (hw.own _ (.tail _ (.tail _ (.head _)))) hT (by omega)) (fun x hvn => ?_)
        obtain ⟨vn, ln⟩ := x
        simp only at hvn ⊢
        refine J.nil (JX.finB rfl (fun w1 hw => ⟨⟨⟨vn, ln⟩, rfl, fun j h1 h2 => ?_, ?_⟩, trivial⟩))
        · match j, h1 with
          | 0, _ => (first | rfl | trivial)
          | 1, _ => exact absurd (h2.symm.trans hm) (by decide)
          | 2, _ => (first | rfl | trivial)
          | 3, _ => (first | rfl | trivial)
          | 4, _ => (first | rfl | trivial)
          | 5, _ => (first | rfl | trivial)
          | 6, _ => (first | rfl | trivial)
          | 7, _ => (first | rfl | trivial)
          | 8, _ => (first | rfl | trivial)
          | 9, _ => (first | rfl | trivial)
          | 10, _ => (first | rfl | trivial)
          | 11, _ => (first | rfl | trivial)
          | 12, _ => (first | rfl | trivial)
          | j + 13, h1 => omega
        show (true = true → Vec 34 51 vn ((ordE L)).length (fE ((ordE L))) ln) ∧ St w [] ((b9, cb (cD nilV false false) 37) :: (t1, tabO mo m1) :: (m1, .map es ck) :: (b5, cb (cFG (cutF f) ⟨.slice at1 (cutF f).tr.length ct1, .slice ai1 (cutF f).ids.length ci1, .slice av1 (cutF f).val.length cv1, .slice ax1 (cutF f).txt.length cx1⟩) 52) :: (b3, cb ([.slice ae xs.length ce, iV most] ++ cW n me ++ [.slice ao os.length co_]) 85) :: (rt, rtabO (.slice ar (ordE L).length cr) mo) :: ((bif true then ln else []) ++ lr)) w1
        simp only [hm, cond_true, cond_false] at hw ⊢
        exact ⟨fun _ => hvn, hw.perm (by (refine perm_cnt (fun _ => ?_)); simp only [cntB_append, cntB_cons, cntB_nil, Nat.add_zero, Nat.zero_add]; try ac_rfl)⟩
      · skip
        obtain ⟨vz, lz⟩ := x
        show J _ _ _ _ _ (_) _
        refine J.pr (fun hF => ?_)
        refine J.move rfl rfl ?_
        exact J.finX rfl (fun _ hw => ⟨⟨vz, lz⟩, rfl, fun _ _ _ => rfl, hF, hw⟩)
      · skip
        obtain ⟨vz, lz⟩ := x
        show J _ _ _ _ _ ((65, .pointer (some ⟨rt, 0, none⟩)) :: _) _
        refine J.pr (fun hF => ?_)
        refine J.nilCheck rfl rfl ?_
        exact J.finX rfl (fun _ hw => ⟨⟨vz, lz⟩, rfl, fun _ _ _ => rfl, hF, hw⟩)
      · skip
        obtain ⟨vz, lz⟩ := x
        show J _ _ _ _ _ ((66, .pointer (some ⟨rt, 0, none⟩)) :: _) _
        refine J.pr (fun hF => ?_)
        refine J.fieldAddr Ty.fd82_0 rfl rfl ?_
        exact J.finX rfl (fun _ hw => ⟨⟨vz, lz⟩, rfl, fun _ _ _ => rfl, hF, hw⟩)
      · skip
        obtain ⟨vz, lz⟩ := x
        show J _ _ _ _ _ ((67, .pointer (some ⟨rt, 0 + 0, none⟩)) :: _) _
        refine J.pr (fun hF => ?_)
        refine J.load1 (v := .slice ar (ordE L).length cr) Ty.a62 rfl (fun w1 hw => by rw [cell_of (hw.own _ (.tail _ (.tail _ (.tail _ (.tail _ (.tail _ (.head _)))))))]; rfl) rfl ?_
        exact J.finX rfl (fun _ hw => ⟨⟨vz, lz⟩, rfl, fun _ _ _ => rfl, hF, hw⟩)
      · skip
        obtain ⟨vz, lz⟩ := x
        show J _ _ _ _ _ ((64, vz) :: (68, .slice ar (ordE L).length cr) :: (64, vz) :: _) _
        have hp1 : m 1 = true := predsT hp (by kernel_rfl)
        have hp1 : m 1 = true := predsT hp (by kernel_rfl)
        refine J.pr (fun hF => ?_)
        refine J.callB (v := .bool true) (fun w1 w2 hw hb => hw.step hb) Ty.bd26 rfl rfl (fun w1 hw => (by have h := rsame_spec _ _ ((ordE L)) ((ordE L)) w1 (vec_rowM (l := (b9, cb (cD nilV false false) 37) :: (t1, tabO mo m1) :: (m1, .map es ck) :: (b5, cb (cFG (cutF f) ⟨.slice at1 (cutF f).tr.length ct1, .slice ai1 (cutF f).ids.length ci1, .slice av1 (cutF f).val.length cv1, .slice ax1 (cutF f).txt.length cx1⟩) 52) :: (b3, cb ([.slice ae xs.length ce, iV most] ++ cW n me ++ [.slice ao os.length co_]) 85) :: (rt, rtabO (.slice ar (ordE L).length cr) mo) :: (lz ++ lr)) (hF hp1) (by simp only [hp1, cond_true] at hw; exact hw) (fun q hq => by first | (simp [hq]; done) | (simp at hq; simp [hq]; done) | (simp at hq; subst hq; simp))) (vec_rowM (l := (b9, cb (cD nilV false false) 37) :: (t1, tabO mo m1) :: (m1, .map es ck) :: (b5, cb (cFG (cutF f) ⟨.slice at1 (cutF f).tr.length ct1, .slice ai1 (cutF f).ids.length ci1, .slice av1 (cutF f).val.length cv1, .slice ax1 (cutF f).txt.length cx1⟩) 52) :: (b3, cb ([.slice ae xs.length ce, iV most] ++ cW n me ++ [.slice ao os.length co_]) 85) :: (rt, rtabO (.slice ar (ordE L).length cr) mo) :: (lz ++ lr)) hvr (by simp only [hp1, cond_true] at hw; exact hw) (fun q hq => by first | (simp [hq]; done) | (simp at hq; simp [hq]; done) | (simp at hq; subst hq; simp))) (ordE_ok hT) (ordE_ok hT) (by omega) (by omega); simpa using h)) ?_
        exact J.finX rfl (fun _ hw => ⟨⟨vz, lz⟩, rfl, fun _ _ _ => rfl, hF, hw⟩)
      · skip
        obtain ⟨vz, lz⟩ := x
        show J _ _ _ _ _ ((69, .bool true) :: (69, .bool true) :: _) _
        refine J.pr (fun hF => ?_)
        refine J.move rfl rfl ?_
        exact J.finX rfl (fun _ hw => ⟨⟨vz, lz⟩, rfl, fun _ _ _ => rfl, hF, hw⟩)
      · skip
        obtain ⟨vz, lz⟩ := x
        show J _ _ _ _ _ ((70, .bool true) :: _) _
        refine J.pr (fun hF => ?_)
        first | refine J.skip rfl rfl rfl rfl rfl ?_ | refine J.skipU rfl rfl rfl rfl ?_ | (refine J.unguard rfl rfl rfl ?_; refine J.fieldAddr Ty.fd37_0 rfl rfl ?_)
        exact J.finX rfl (fun _ hw => ⟨⟨vz, lz⟩, rfl, fun _ _ _ => rfl, hF, hw⟩)
      · skip
        obtain ⟨vz, lz⟩ := x
        show J _ _ _ _ _ ((70, .bool true) :: (71, .pointer (some ⟨b9, 0 + 0, none⟩)) :: _) _
        refine J.pr (fun hF => ?_)
        refine J.unguard rfl rfl rfl ?_
        refine J.load1 (v := .slice none 0 0) Ty.a35 rfl (fun w1 hw => by rw [cell_of (hw.own _ (.head _))]; rfl) rfl ?_
        exact J.finX rfl (fun _ hw => ⟨⟨vz, lz⟩, rfl, fun _ _ _ => rfl, hF, hw⟩)
      · skip
        obtain ⟨vz, lz⟩ := x
        show J _ _ _ _ _ ((70, .bool true) :: (72, .slice none 0 0) :: _) _
        refine J.pr (fun hF => ?_)
        refine J.unguard rfl rfl rfl ?_
        refine J.lenS rfl Ty.u35 rfl rfl ?_
        refine J.name 73 rfl (show _ = .int .i64 ((0 : Nat) : Int) from rfl) ?_
        exact J.finX rfl (fun _ hw => ⟨⟨vz, lz⟩, rfl, fun _ _ _ => rfl, hF, hw⟩)
      · skip
        obtain ⟨vz, lz⟩ := x
        show J _ _ _ _ _ ((70, .bool true) :: (73, .int .i64 ((0 : Nat) : Int)) :: _) _
        refine J.pr (fun hF => ?_)
        refine J.unguard rfl rfl rfl ?_
        refine J.bin rfl rfl rfl rfl ?_
        refine J.name 74 rfl (show Value.bool _ = .bool true by simp) ?_
        exact J.finX rfl (fun _ hw => ⟨⟨vz, lz⟩, rfl, fun _ _ _ => rfl, hF, hw⟩)
      · skip
        obtain ⟨vz, lz⟩ := x
        show J _ _ _ _ _ ((74, .bool true) :: (70, .bool true) :: _) _
        refine J.pr (fun hF => ?_)
        (first | refine J.pickT rfl rfl rfl ?_ | refine J.pickF rfl rfl rfl ?_)
        exact J.finX rfl (fun _ hw => ⟨⟨vz, lz⟩, rfl, fun _ _ _ => rfl, hF, hw⟩)
    case htail =>
      intro x
      obtain ⟨vz, lz⟩ := x
      show J _ _ _ _ _ ((75, .bool true) :: (74, .bool true) :: (73, .int .i64 ((0 : Nat) : Int)) :: (72, .slice none 0 0) :: (71, .pointer (some ⟨b9, 0 + 0, none⟩)) :: (70, .bool true) :: (69, .bool true) :: (68, .slice ar (ordE L).length cr) :: (67, .pointer (some ⟨rt, 0 + 0, none⟩)) :: (66, .pointer (some ⟨rt, 0, none⟩)) :: (65, .pointer (some ⟨rt, 0, none⟩)) :: (64, vz) :: (63, .pointer (some ⟨t1, 0, none⟩)) :: _) (fun w1 => (true = true → Vec 34 51 vz ((ordE L)).length (fE ((ordE L))) lz) ∧ St w [] ((b9, cb (cD nilV false false) 37) :: (t1, tabO mo m1) :: (m1, .map es ck) :: (b5, cb (cFG (cutF f) ⟨.slice at1 (cutF f).tr.length ct1, .slice ai1 (cutF f).ids.length ci1, .slice av1 (cutF f).val.length cv1, .slice ax1 (cutF f).txt.length cx1⟩) 52) :: (b3, cb ([.slice ae xs.length ce, iV most] ++ cW n me ++ [.slice ao os.length co_]) 85) :: (rt, rtabO (.slice ar (ordE L).length cr) mo) :: ((bif true then lz else []) ++ lr)) w1)
      refine J.pr (fun hF => ?_)
      refine J.assign rfl rfl ?_
      refine J.nil ?_
      refine JX.thenN (hK9 _ _ ?_)
      refine JC.ret ?_
      refine JX.thenR ?_
      refine JX.ret1 rfl rfl (fun w hw => ?_)
      exact ⟨rfl, (hw.drop (List.nil_sublist _)).below⟩
  · skip
    obtain ⟨hk, hnd, i, hi, hi2, hat, hfrom⟩ := good_take hbad
    rcases back_go me (cutF f) os i hi2 with hbk | ⟨nb, hgo⟩
    · skip
      refine JC.region ?_
      refine J.move rfl rfl ?_
      refine J.fieldAddr Ty.fd85_2 rfl rfl ?_
      refine J.loadOA (vs := cW n me) Ty.a41 Ty.s41 rfl (.tail _ (.tail _ (.tail _ (.head _)))) rfl rfl rfl ?_
      refine J.move rfl rfl ?_
      refine J.loadOA (vs := cFG (cutF f) ⟨.slice at1 (cutF f).tr.length ct1, .slice ai1 (cutF f).ids.length ci1, .slice av1 (cutF f).val.length cv1, .slice ax1 (cutF f).txt.length cx1⟩) Ty.a52 Ty.s52 rfl (.tail _ (.tail _ (.head _))) rfl rfl rfl ?_
      refine J.fieldAddr Ty.fd85_3 rfl rfl ?_
      refine J.loadO (v := .slice ao os.length co_) Ty.a28 rfl (.tail _ (.tail _ (.tail _ (.head _)))) rfl rfl ?_
      refine J.perm ([(t1, tabO mo m1), (m1, .map es ck)] ++ ((b5, cb (cFG (cutF f) ⟨.slice at1 (cutF f).tr.length ct1, .slice ai1 (cutF f).ids.length ci1, .slice av1 (cutF f).val.length cv1, .slice ax1 (cutF f).txt.length cx1⟩) 52) :: (b3, cb ([.slice ae xs.length ce, iV most] ++ cW n me ++ [.slice ao os.length co_]) 85) :: (rt, rtabO (.slice ar (ordE L).length cr) mo) :: lr)) (.refl _) ?_
      refine J.callS (α := Nat) (V := fun x => .agg (cD (.slice (some ⟨x, 0, none⟩) 1 1) false false).toArray) (Pr := fun x => True) (L := fun x => (x, cb (cH fr (cF 5 (cutF f).p zI zI nilV)) 54) :: [(t1, tabO mo m1), (m1, .map es ck)]) (l1 := [(t1, tabO mo m1), (m1, .map es ck)]) Ty.bd19 rfl rfl (fun w1 hw => gtake_back t1 m1 mo L es ck n fr me (cutF f) ⟨.slice at1 (cutF f).tr.length ct1, .slice ai1 (cutF f).ids.length ci1, .slice av1 (cutF f).val.length cv1, .slice ax1 (cutF f).txt.length cx1⟩ _ os w1 (rows_cut (hs.below (hw.drop (List.nil_sublist _)).below)) ⟨((rows_cut hs).tr.offNew hw (fun x hx => List.mem_append_left _ hx)), (hs.ids.offNew hw (fun x hx => List.mem_append_left _ hx)), (hs.val.offNew hw (fun x hx => List.mem_append_left _ hx)), (hs.txt.offNew hw (fun x hx => List.mem_append_left _ hx))⟩ hg1 (by omega) hk hf1.p hfr i hi hi2 hat hfrom hnd (hro.below (hw.drop (List.nil_sublist _)).below) (hro.offNew hw (fun x hx => List.mem_append_left _ hx)) (by omega) hw.owns hT hbk) (fun hz hy9 => ?_)
      simp only [List.cons_append, List.nil_append] at hy9 ⊢
      refine J.perm ((t1, tabO mo m1) :: (m1, .map es ck) :: (b5, cb (cFG (cutF f) ⟨.slice at1 (cutF f).tr.length ct1, .slice ai1 (cutF f).ids.length ci1, .slice av1 (cutF f).val.length cv1, .slice ax1 (cutF f).txt.length cx1⟩) 52) :: (b3, cb ([.slice ae xs.length ce, iV most] ++ cW n me ++ [.slice ao os.length co_]) 85) :: (rt, rtabO (.slice ar (ordE L).length cr) mo) :: (lr ++ [(hz, cb (cH fr (cF 5 (cutF f).p zI zI nilV)) 54)])) (by (refine perm_cnt (fun _ => ?_)); simp only [cntB_append, cntB_cons, cntB_nil, Nat.add_zero, Nat.zero_add]; try ac_rfl) ?_
      refine J.alloc zN rfl rfl (fun b9 => ?_)
      refine J.storeW (cs := cD nilV false false) (vs := cD (.slice (some ⟨hz, 0, none⟩) 1 1) false false) Ty.s37 rfl rfl rfl rfl rfl (by simp [Value.oneCell']) .here ?_
      refine J.perm ((b9, cb (cD (.slice (some ⟨hz, 0, none⟩) 1 1) false false) 37) :: (t1, tabO mo m1) :: (m1, .map es ck) :: (b5, cb (cFG (cutF f) ⟨.slice at1 (cutF f).tr.length ct1, .slice ai1 (cutF f).ids.length ci1, .slice av1 (cutF f).val.length cv1, .slice ax1 (cutF f).txt.length cx1⟩) 52) :: (b3, cb ([.slice ae xs.length ce, iV most] ++ cW n me ++ [.slice ao os.length co_]) 85) :: (rt, rtabO (.slice ar (ordE L).length cr) mo) :: (lr ++ [(hz, cb (cH fr (cF 5 (cutF f).p zI zI nilV)) 54)])) (.refl _) ?_
      refine J.nil ?_
      refine JX.thenN (hK5 _ _ ?_)
      refine JC.seq (fun K10 hK10 => ?_)
      refine JC.region ?_
      refine J.fieldAddr Ty.fd37_0 rfl rfl ?_
      refine J.loadO (v := .slice (some ⟨hz, 0, none⟩) 1 1) Ty.a35 rfl (.head _) rfl rfl ?_
      refine J.lenS rfl Ty.u35 rfl rfl ?_
      refine J.bin rfl rfl rfl rfl ?_
      refine J.name 46 rfl (show Value.bool _ = .bool true by simp) ?_
      refine J.move rfl rfl ?_
      first | refine J.skip rfl rfl rfl rfl rfl ?_ | refine J.skipU rfl rfl rfl rfl ?_ | (refine J.unguard rfl rfl rfl ?_; refine J.fieldAddr Ty.fd37_0 rfl rfl ?_)
      refine J.unguard rfl rfl rfl ?_
      refine J.loadO (v := .slice (some ⟨hz, 0, none⟩) 1 1) Ty.a35 rfl (.head _) rfl rfl ?_
      refine J.unguard rfl rfl rfl ?_
      refine J.indexAddrS Ty.el35 Ty.s54 rfl rfl (by omega) (by omega) rfl ?_
      first | refine J.skip rfl rfl rfl rfl rfl ?_ | refine J.skipU rfl rfl rfl rfl ?_ | (refine J.unguard rfl rfl rfl ?_; refine J.fieldAddr Ty.fd54_1 rfl rfl ?_)
      first | refine J.skip rfl rfl rfl rfl rfl ?_ | refine J.skipU rfl rfl rfl rfl ?_ | (refine J.unguard rfl rfl rfl ?_; refine J.fieldAddr Ty.fd52_0 rfl rfl ?_)
      refine J.unguard rfl rfl rfl ?_
      refine J.load1 (v := iV 5) Ty.a3 rfl (fun w1 hw => by rw [cell_of (hw.own (_, cb (cH fr (cF 5 (cutF f).p zI zI nilV)) 54) (by simp))]; rfl) rfl ?_
      refine J.unguard rfl rfl rfl ?_
      refine J.bin rfl rfl rfl rfl ?_
      refine J.name 54 rfl (show Value.bool _ = .bool false by simp) ?_
      (first | refine J.pickT rfl rfl rfl ?_ | refine J.pickF rfl rfl rfl ?_)
      refine J.assign rfl rfl ?_
      refine J.nil ?_
      refine JX.thenN (hK10 _ _ ?_)
      refine JC.seq (fun K11 hK11 => ?_)
      refine JC.seq (fun K12 hK12 => ?_)
      refine JC.region ?_
      refine J.move rfl rfl ?_
      refine J.not rfl rfl ?_
      refine J.move rfl rfl ?_
      first | refine J.skip rfl rfl rfl rfl rfl ?_ | refine J.skipU rfl rfl rfl rfl ?_ | (refine J.unguard rfl rfl rfl ?_; refine J.fieldAddr Ty.fd37_1 rfl rfl ?_)
      refine J.unguard rfl rfl rfl ?_
      refine J.loadO (v := .bool false) Ty.a4 rfl (.head _) rfl rfl ?_
      first | refine J.skip rfl rfl rfl rfl rfl ?_ | refine J.skipU rfl rfl rfl rfl ?_ | (refine J.unguard rfl rfl rfl ?_; refine J.not rfl rfl ?_)
      (first | refine J.pickT rfl rfl rfl ?_ | refine J.pickF rfl rfl rfl ?_)
      refine J.nil ?_
      refine JX.thenN (hK12 _ _ ?_)
      first | refine JC.condT rfl ?_ | refine JC.cond rfl (fun _ => ?_) (fun h => by first | (exfalso; simp at h; omega) | (simp at h))
      refine JC.seq (fun K13 hK13 => ?_)
      apply JC.drawX (α := Value × List (Nat × Obj)) 13 (fun x => match x with | ⟨vz, lz⟩ => [.pointer (some ⟨t1, 0, none⟩), vz, .pointer (some ⟨rt, 0, none⟩), .pointer (some ⟨rt, 0, none⟩), .pointer (some ⟨rt, 0 + 0, none⟩), .slice ar (ordE L).length cr, .bool true, .bool true, .pointer (some ⟨b9, 0 + 0, none⟩), .slice (some ⟨hz, 0, none⟩) 1 1, .int .i64 ((1 : Nat) : Int), .bool true, .bool true]) (fun m x => match x with | ⟨vz, lz⟩ => fun w1 => (m 1 = true → Vec 34 51 vz ((ordE L)).length (fE ((ordE L))) lz) ∧ St w [] ((b9, cb (cD (.slice (some ⟨hz, 0, none⟩) 1 1) false false) 37) :: (t1, tabO mo m1) :: (m1, .map es ck) :: (b5, cb (cFG (cutF f) ⟨.slice at1 (cutF f).tr.length ct1, .slice ai1 (cutF f).ids.length ci1, .slice av1 (cutF f).val.length cv1, .slice ax1 (cutF f).txt.length cx1⟩) 52) :: (b3, cb ([.slice ae xs.length ce, iV most] ++ cW n me ++ [.slice ao os.length co_]) 85) :: (rt, rtabO (.slice ar (ordE L).length cr) mo) :: ((bif m 1 then lz else []) ++ (lr ++ [(hz, cb (cH fr (cF 5 (cutF f).p zI zI nilV)) 54)]))) w1) Ty.mixed rfl rfl rfl (by kernel_rfl) rfl rfl ?hinit ?hstep ?htail
      case hinit => exact fun w1 hw => ⟨(.slice none 0 0, []), fun h => (by cases h), hw.drew⟩
      case hstep =>
        refine ⟨fun m x hm hp => ?_, fun m x hm hp => ?_, fun m x hm hp => ?_, fun m x hm hp => ?_, fun m x hm hp => ?_, fun m x hm hp => ?_, fun m x hm hp => ?_, fun m x hm hp => ?_, fun m x hm hp => ?_, fun m x hm hp => ?_, fun m x hm hp => ?_, fun m x hm hp => ?_, fun m x hm hp => ?_, trivial⟩
        · skip
          obtain ⟨vz, lz⟩ := x
          show J _ _ _ _ _ (_) _
          refine J.pr (fun hF => ?_)
          refine J.move rfl rfl ?_
          exact J.finX rfl (fun _ hw => ⟨⟨vz, lz⟩, rfl, fun _ _ _ => rfl, hF, hw⟩)
        · skip
          obtain ⟨vz, lz⟩ := x
          show J _ _ _ _ _ ((63, .pointer (some ⟨t1, 0, none⟩)) :: _) _
          refine J.pr (fun hF => ?_)
          refine J.conseq (I' := St w [] ((b9, cb (cD (.slice (some ⟨hz, 0, none⟩) 1 1) false false) 37) :: (t1, tabO mo m1) :: (m1, .map es ck) :: (b5, cb (cFG (cutF f) ⟨.slice at1 (cutF f).tr.length ct1, .slice ai1 (cutF f).ids.length ci1, .slice av1 (cutF f).val.length cv1, .slice ax1 (cutF f).txt.length cx1⟩) 52) :: (b3, cb ([.slice ae xs.length ce, iV most] ++ cW n me ++ [.slice ao os.length co_]) 85) :: (rt, rtabO (.slice ar (ordE L).length cr) mo) :: (lr ++ [(hz, cb (cH fr (cF 5 (cutF f).p zI zI nilV)) 54)]))) ?_ (fun w1 hw => by simp only [hm, cond_false] at hw; exact hw)
          refine J.perm ([] ++ ((b9, cb (cD (.slice (some ⟨hz, 0, none⟩) 1 1) false false) 37) :: (t1, tabO mo m1) :: (m1, .map es ck) :: (b5, cb (cFG (cutF f) ⟨.slice at1 (cutF f).tr.length ct1, .slice ai1 (cutF f).ids.length ci1, .slice av1 (cutF f).val.length cv1, .slice ax1 (cutF f).txt.length cx1⟩) 52) :: (b3, cb ([.slice ae xs.length ce, iV most] ++ cW n me ++ [.slice ao os.length co_]) 85) :: (rt, rtabO (.slice ar (ordE L).length cr) mo) :: (lr ++ [(hz, cb (cH fr (cF 5 (cutF f).p zI zI nilV)) 54)]))) (.refl _) ?_
          refine J.callS (α := Value × List (Nat × Obj)) (V := (·.1)) (Pr := fun x => Vec 34 51 x.1 (ordE L).length (fE (ordE L)) x.2) (L := (·.2)) (l1 := []) Ty.bd25 rfl rfl (fun w1 hw => all_spec t1 m1 mo (L) es ck w1 (hw.own _ (.tail _ (.head _))) (hw.own _ (.tail _ (.tail _ (.head _)))) hT (by omega)) (fun x hvn => ?_)
          obtain ⟨vn, ln⟩ := x
          simp only at hvn ⊢
          refine J.nil (JX.finB rfl (fun w1 hw => ⟨⟨⟨vn, ln⟩, rfl, fun j h1 h2 => ?_, ?_⟩, trivial⟩))
          · match j, h1 with
            | 0, _ => (first | rfl | trivial)
            | 1, _ => exact absurd (h2.symm.trans hm) (by decide)
            | 2, _ => (first | rfl | trivial)
            | 3, _ => (first | rfl | trivial)
            | 4, _ => (first | rfl | trivial)
            | 5, _ => (first | rfl | trivial)
            | 6, _ => (first | rfl | trivial)
            | 7, _ => (first | rfl | trivial)
            | 8, _ => (first | rfl | trivial)
            | 9, _ => (first | rfl | trivial)
            | 10, _ => (first | rfl | trivial)
            | 11, _ => (first | rfl | trivial)
            | 12, _ => (first | rfl | trivial)
            | j + 13, h1 => omega
          show (true = true → Vec 34 51 vn ((ordE L)).length (fE ((ordE L))) ln) ∧ St w [] ((b9, cb (cD (.slice (some ⟨hz, 0, none⟩) 1 1) false false) 37) :: (t1, tabO mo m1) :: (m1, .map es ck) :: (b5, cb (cFG (cutF f) ⟨.slice at1 (cutF f).tr.length ct1, .slice ai1 (cutF f).ids.length ci1, .slice av1 (cutF f).val.length cv1, .slice ax1 (cutF f).txt.length cx1⟩) 52) :: (b3, cb ([.slice ae xs.length ce, iV most] ++ cW n me ++ [.slice ao os.length co_]) 85) :: (rt, rtabO (.slice ar (ordE L).length cr) mo) :: ((bif true then ln else []) ++ (lr ++ [(hz, cb (cH fr (cF 5 (cutF f).p zI zI nilV)) 54)]))) w1
          simp only [hm, cond_true, cond_false] at hw ⊢
          exact ⟨fun _ => hvn, hw.perm (by (refine perm_cnt (fun _ => ?_)); simp only [cntB_append, cntB_cons, cntB_nil, Nat.add_zero, Nat.zero_add]; try ac_rfl)⟩
        · skip
          obtain ⟨vz, lz⟩ := x
          show J _ _ _ _ _ (_) _
          refine J.pr (fun hF => ?_)
          refine J.move rfl rfl ?_
          exact J.finX rfl (fun _ hw => ⟨⟨vz, lz⟩, rfl, fun _ _ _ => rfl, hF, hw⟩)
        · skip
          obtain ⟨vz, lz⟩ := x
          show J _ _ _ _ _ ((65, .pointer (some ⟨rt, 0, none⟩)) :: _) _
          refine J.pr (fun hF => ?_)
          refine J.nilCheck rfl rfl ?_
          exact J.finX rfl (fun _ hw => ⟨⟨vz, lz⟩, rfl, fun _ _ _ => rfl, hF, hw⟩)
        · skip
          obtain ⟨vz, lz⟩ := x
          show J _ _ _ _ _ ((66, .pointer (some ⟨rt, 0, none⟩)) :: _) _
          refine J.pr (fun hF => ?_)
          refine J.fieldAddr Ty.fd82_0 rfl rfl ?_
          exact J.finX rfl (fun _ hw => ⟨⟨vz, lz⟩, rfl, fun _ _ _ => rfl, hF, hw⟩)
        · skip
          obtain ⟨vz, lz⟩ := x
          show J _ _ _ _ _ ((67, .pointer (some ⟨rt, 0 + 0, none⟩)) :: _) _
          refine J.pr (fun hF => ?_)
          refine J.load1 (v := .slice ar (ordE L).length cr) Ty.a62 rfl (fun w1 hw => by rw [cell_of (hw.own _ (.tail _ (.tail _ (.tail _ (.tail _ (.tail _ (.head _)))))))]; rfl) rfl ?_
          exact J.finX rfl (fun _ hw => ⟨⟨vz, lz⟩, rfl, fun _ _ _ => rfl, hF, hw⟩)
        · skip
          obtain ⟨vz, lz⟩ := x
          show J _ _ _ _ _ ((64, vz) :: (68, .slice ar (ordE L).length cr) :: (64, vz) :: _) _
          have hp1 : m 1 = true := predsT hp (by kernel_rfl)
          have hp1 : m 1 = true := predsT hp (by kernel_rfl)
          refine J.pr (fun hF => ?_)
          refine J.callB (v := .bool true) (fun w1 w2 hw hb => hw.step hb) Ty.bd26 rfl rfl (fun w1 hw => (by have h := rsame_spec _ _ ((ordE L)) ((ordE L)) w1 (vec_rowM (l := (b9, cb (cD (.slice (some ⟨hz, 0, none⟩) 1 1) false false) 37) :: (t1, tabO mo m1) :: (m1, .map es ck) :: (b5, cb (cFG (cutF f) ⟨.slice at1 (cutF f).tr.length ct1, .slice ai1 (cutF f).ids.length ci1, .slice av1 (cutF f).val.length cv1, .slice ax1 (cutF f).txt.length cx1⟩) 52) :: (b3, cb ([.slice ae xs.length ce, iV most] ++ cW n me ++ [.slice ao os.length co_]) 85) :: (rt, rtabO (.slice ar (ordE L).length cr) mo) :: (lz ++ (lr ++ [(hz, cb (cH fr (cF 5 (cutF f).p zI zI nilV)) 54)]))) (hF hp1) (by simp only [hp1, cond_true] at hw; exact hw) (fun q hq => by first | (simp [hq]; done) | (simp at hq; simp [hq]; done) | (simp at hq; subst hq; simp))) (vec_rowM (l := (b9, cb (cD (.slice (some ⟨hz, 0, none⟩) 1 1) false false) 37) :: (t1, tabO mo m1) :: (m1, .map es ck) :: (b5, cb (cFG (cutF f) ⟨.slice at1 (cutF f).tr.length ct1, .slice ai1 (cutF f).ids.length ci1, .slice av1 (cutF f).val.length cv1, .slice ax1 (cutF f).txt.length cx1⟩) 52) :: (b3, cb ([.slice ae xs.length ce, iV most] ++ cW n me ++ [.slice ao os.length co_]) 85) :: (rt, rtabO (.slice ar (ordE L).length cr) mo) :: (lz ++ (lr ++ [(hz, cb (cH fr (cF 5 (cutF f).p zI zI nilV)) 54)]))) hvr (by simp only [hp1, cond_true] at hw; exact hw) (fun q hq => by first | (simp [hq]; done) | (simp at hq; simp [hq]; done) | (simp at hq; subst hq; simp))) (ordE_ok hT) (ordE_ok hT) (by omega) (by omega); simpa using h)) ?_
          exact J.finX rfl (fun _ hw => ⟨⟨vz, lz⟩, rfl, fun _ _ _ => rfl, hF, hw⟩)
        · skip
          obtain ⟨vz, lz⟩ := x
          show J _ _ _ _ _ ((69, .bool true) :: (69, .bool true) :: _) _
          refine J.pr (fun hF => ?_)
          refine J.move rfl rfl ?_
          exact J.finX rfl (fun _ hw => ⟨⟨vz, lz⟩, rfl, fun _ _ _ => rfl, hF, hw⟩)
        · skip
          obtain ⟨vz, lz⟩ := x
          show J _ _ _ _ _ ((70, .bool true) :: _) _
          refine J.pr (fun hF => ?_)
          first | refine J.skip rfl rfl rfl rfl rfl ?_ | refine J.skipU rfl rfl rfl rfl ?_ | (refine J.unguard rfl rfl rfl ?_; refine J.fieldAddr Ty.fd37_0 rfl rfl ?_)
          exact J.finX rfl (fun _ hw => ⟨⟨vz, lz⟩, rfl, fun _ _ _ => rfl, hF, hw⟩)
        · skip
          obtain ⟨vz, lz⟩ := x
          show J _ _ _ _ _ ((70, .bool true) :: (71, .pointer (some ⟨b9, 0 + 0, none⟩)) :: _) _
          refine J.pr (fun hF => ?_)
          refine J.unguard rfl rfl rfl ?_
          refine J.load1 (v := .slice (some ⟨hz, 0, none⟩) 1 1) Ty.a35 rfl (fun w1 hw => by rw [cell_of (hw.own _ (.head _))]; rfl) rfl ?_
          exact J.finX rfl (fun _ hw => ⟨⟨vz, lz⟩, rfl, fun _ _ _ => rfl, hF, hw⟩)
        · skip
          obtain ⟨vz, lz⟩ := x
          show J _ _ _ _ _ ((70, .bool true) :: (72, .slice (some ⟨hz, 0, none⟩) 1 1) :: _) _
          refine J.pr (fun hF => ?_)
          refine J.unguard rfl rfl rfl ?_
          refine J.lenS rfl Ty.u35 rfl rfl ?_
          refine J.name 73 rfl (show _ = .int .i64 ((1 : Nat) : Int) from rfl) ?_
          exact J.finX rfl (fun _ hw => ⟨⟨vz, lz⟩, rfl, fun _ _ _ => rfl, hF, hw⟩)
        · skip
          obtain ⟨vz, lz⟩ := x
          show J _ _ _ _ _ ((70, .bool true) :: (73, .int .i64 ((1 : Nat) : Int)) :: _) _
          refine J.pr (fun hF => ?_)
          refine J.unguard rfl rfl rfl ?_
          refine J.bin rfl rfl rfl rfl ?_
          refine J.name 74 rfl (show Value.bool _ = .bool true by simp) ?_
          exact J.finX rfl (fun _ hw => ⟨⟨vz, lz⟩, rfl, fun _ _ _ => rfl, hF, hw⟩)
        · skip
          obtain ⟨vz, lz⟩ := x
          show J _ _ _ _ _ ((74, .bool true) :: (70, .bool true) :: _) _
          refine J.pr (fun hF => ?_)
          (first | refine J.pickT rfl rfl rfl ?_ | refine J.pickF rfl rfl rfl ?_)
          exact J.finX rfl (fun _ hw => ⟨⟨vz, lz⟩, rfl, fun _ _ _ => rfl, hF, hw⟩)
      case htail =>
        intro x
        obtain ⟨vz, lz⟩ := x
        show J _ _ _ _ _ ((75, .bool true) :: (74, .bool true) :: (73, .int .i64 ((1 : Nat) : Int)) :: (72, .slice (some ⟨hz, 0, none⟩) 1 1) :: (71, .pointer (some ⟨b9, 0 + 0, none⟩)) :: (70, .bool true) :: (69, .bool true) :: (68, .slice ar (ordE L).length cr) :: (67, .pointer (some ⟨rt, 0 + 0, none⟩)) :: (66, .pointer (some ⟨rt, 0, none⟩)) :: (65, .pointer (some ⟨rt, 0, none⟩)) :: (64, vz) :: (63, .pointer (some ⟨t1, 0, none⟩)) :: _) (fun w1 => (true = true → Vec 34 51 vz ((ordE L)).length (fE ((ordE L))) lz) ∧ St w [] ((b9, cb (cD (.slice (some ⟨hz, 0, none⟩) 1 1) false false) 37) :: (t1, tabO mo m1) :: (m1, .map es ck) :: (b5, cb (cFG (cutF f) ⟨.slice at1 (cutF f).tr.length ct1, .slice ai1 (cutF f).ids.length ci1, .slice av1 (cutF f).val.length cv1, .slice ax1 (cutF f).txt.length cx1⟩) 52) :: (b3, cb ([.slice ae xs.length ce, iV most] ++ cW n me ++ [.slice ao os.length co_]) 85) :: (rt, rtabO (.slice ar (ordE L).length cr) mo) :: ((bif true then lz else []) ++ (lr ++ [(hz, cb (cH fr (cF 5 (cutF f).p zI zI nilV)) 54)]))) w1)
        refine J.pr (fun hF => ?_)
        refine J.assign rfl rfl ?_
        refine J.nil ?_
        refine JX.thenN (hK13 _ _ ?_)
        refine JC.ret ?_
        refine JX.thenR ?_
        refine JX.ret1 rfl rfl (fun w hw => ?_)
        exact ⟨rfl, (hw.drop (List.nil_sublist _)).below⟩
    · skip
      obtain ⟨⟨e, L2⟩, hadd⟩ : ∃ q : Int × List EV, tadd L mo (⟨(cutF f).p, (cutF f).a, (cutF f).b, fr, nb⟩ : EV) = q := ⟨_, rfl⟩
      have hG2 := (hG.add (⟨(cutF f).p, (cutF f).a, (cutF f).b, fr, nb⟩ : EV)).len
      rw [hadd] at hG2
      simp only at hG2
      have ho2 := (ordE_perm L2).length_eq
      have hl2 : L2.length ≤ 128 := by omega
      have ho22 : (ordE L2).length ≤ 128 := by omega
      by_cases he : e = 0
      · skip
        subst he
        rcases hgo with ⟨hlast, hid, rfl⟩ | ⟨hnx, hop⟩
        · skip
          refine JC.region ?_
          refine J.move rfl rfl ?_
          refine J.fieldAddr Ty.fd85_2 rfl rfl ?_
          refine J.loadOA (vs := cW n me) Ty.a41 Ty.s41 rfl (.tail _ (.tail _ (.tail _ (.head _)))) rfl rfl rfl ?_
          refine J.move rfl rfl ?_
          refine J.loadOA (vs := cFG (cutF f) ⟨.slice at1 (cutF f).tr.length ct1, .slice ai1 (cutF f).ids.length ci1, .slice av1 (cutF f).val.length cv1, .slice ax1 (cutF f).txt.length cx1⟩) Ty.a52 Ty.s52 rfl (.tail _ (.tail _ (.head _))) rfl rfl rfl ?_
          refine J.fieldAddr Ty.fd85_3 rfl rfl ?_
          refine J.loadO (v := .slice ao os.length co_) Ty.a28 rfl (.tail _ (.tail _ (.tail _ (.head _)))) rfl rfl ?_
          refine J.perm ([(t1, tabO mo m1), (m1, .map es ck)] ++ ((b5, cb (cFG (cutF f) ⟨.slice at1 (cutF f).tr.length ct1, .slice ai1 (cutF f).ids.length ci1, .slice av1 (cutF f).val.length cv1, .slice ax1 (cutF f).txt.length cx1⟩) 52) :: (b3, cb ([.slice ae xs.length ce, iV most] ++ cW n me ++ [.slice ao os.length co_]) 85) :: (rt, rtabO (.slice ar (ordE L).length cr) mo) :: lr)) (.refl _) ?_
          refine J.callS (α := Array MapEntry × Nat) (V := fun x => .agg (cD nilV true false).toArray) (Pr := fun x => Tab L2 x.1 x.2) (L := fun x => [(t1, tabO mo m1), (m1, .map x.1 x.2)]) (l1 := [(t1, tabO mo m1), (m1, .map es ck)]) Ty.bd19 rfl rfl (fun w1 hw => gtake_mineQ t1 m1 mo L es ck n fr me (cutF f) ⟨.slice at1 (cutF f).tr.length ct1, .slice ai1 (cutF f).ids.length ci1, .slice av1 (cutF f).val.length cv1, .slice ax1 (cutF f).txt.length cx1⟩ _ os w1 (rows_cut (hs.below (hw.drop (List.nil_sublist _)).below)) ⟨((rows_cut hs).tr.offNew hw (fun x hx => List.mem_append_left _ hx)), (hs.ids.offNew hw (fun x hx => List.mem_append_left _ hx)), (hs.val.offNew hw (fun x hx => List.mem_append_left _ hx)), (hs.txt.offNew hw (fun x hx => List.mem_append_left _ hx))⟩ hg1 (by omega) hk hf1.p hfr i hi hi2 hat hfrom hnd (hro.below (hw.drop (List.nil_sublist _)).below) (hro.offNew hw (fun x hx => List.mem_append_left _ hx)) (by omega) hw.owns hT hlast hid hadd) (fun y hy9 => ?_)
          obtain ⟨es2, ck2⟩ := y
          simp only [List.cons_append, List.nil_append] at hy9 ⊢
          have hT2 := hy9
          obtain ⟨hl2n, hget⟩ := tadd_get hadd
          refine J.perm ((t1, tabO mo m1) :: (m1, .map es2 ck2) :: (b5, cb (cFG (cutF f) ⟨.slice at1 (cutF f).tr.length ct1, .slice ai1 (cutF f).ids.length ci1, .slice av1 (cutF f).val.length cv1, .slice ax1 (cutF f).txt.length cx1⟩) 52) :: (b3, cb ([.slice ae xs.length ce, iV most] ++ cW n me ++ [.slice ao os.length co_]) 85) :: (rt, rtabO (.slice ar (ordE L).length cr) mo) :: lr) (by (refine perm_cnt (fun _ => ?_)); simp only [cntB_append, cntB_cons, cntB_nil, Nat.add_zero, Nat.zero_add]; try ac_rfl) ?_
          refine J.alloc zN rfl rfl (fun b9 => ?_)
          refine J.storeW (cs := cD nilV false false) (vs := cD nilV true false) Ty.s37 rfl rfl rfl rfl rfl (by simp [Value.oneCell']) .here ?_
          refine J.perm ((b9, cb (cD nilV true false) 37) :: (t1, tabO mo m1) :: (m1, .map es2 ck2) :: (b5, cb (cFG (cutF f) ⟨.slice at1 (cutF f).tr.length ct1, .slice ai1 (cutF f).ids.length ci1, .slice av1 (cutF f).val.length cv1, .slice ax1 (cutF f).txt.length cx1⟩) 52) :: (b3, cb ([.slice ae xs.length ce, iV most] ++ cW n me ++ [.slice ao os.length co_]) 85) :: (rt, rtabO (.slice ar (ordE L).length cr) mo) :: lr) (.refl _) ?_
          refine J.nil ?_
          refine JX.thenN (hK5 _ _ ?_)
          refine JC.seq (fun K14 hK14 => ?_)
          refine JC.region ?_
          refine J.fieldAddr Ty.fd37_0 rfl rfl ?_
          refine J.loadO (v := .slice none 0 0) Ty.a35 rfl (.head _) rfl rfl ?_
          refine J.lenS rfl Ty.u35 rfl rfl ?_
          refine J.bin rfl rfl rfl rfl ?_
          refine J.name 46 rfl (show Value.bool _ = .bool false by simp) ?_
          refine J.move rfl rfl ?_
          first | refine J.skip rfl rfl rfl rfl rfl ?_ | refine J.skipU rfl rfl rfl rfl ?_ | (refine J.unguard rfl rfl rfl ?_; refine J.fieldAddr Ty.fd37_0 rfl rfl ?_)
          refine J.skip rfl rfl rfl rfl rfl ?_
          refine J.skip rfl rfl rfl rfl rfl ?_
          refine J.skip rfl rfl rfl rfl rfl ?_
          refine J.skip rfl rfl rfl rfl rfl ?_
          refine J.skip rfl rfl rfl rfl rfl ?_
          refine J.skip rfl rfl rfl rfl rfl ?_
          (first | refine J.pickT rfl rfl rfl ?_ | refine J.pickF rfl rfl rfl ?_)
          refine J.assign rfl rfl ?_
          refine J.nil ?_
          refine JX.thenN (hK14 _ _ ?_)
          refine JC.seq (fun K15 hK15 => ?_)
          refine JC.seq (fun K16 hK16 => ?_)
          refine JC.region ?_
          refine J.move rfl rfl ?_
          refine J.not rfl rfl ?_
          refine J.move rfl rfl ?_
          first | refine J.skip rfl rfl rfl rfl rfl ?_ | refine J.skipU rfl rfl rfl rfl ?_ | (refine J.unguard rfl rfl rfl ?_; refine J.fieldAddr Ty.fd37_1 rfl rfl ?_)
          refine J.unguard rfl rfl rfl ?_
          refine J.loadO (v := .bool true) Ty.a4 rfl (.head _) rfl rfl ?_
          first | refine J.skip rfl rfl rfl rfl rfl ?_ | refine J.skipU rfl rfl rfl rfl ?_ | (refine J.unguard rfl rfl rfl ?_; refine J.not rfl rfl ?_)
          (first | refine J.pickT rfl rfl rfl ?_ | refine J.pickF rfl rfl rfl ?_)
          refine J.nil ?_
          refine JX.thenN (hK16 _ _ ?_)
          first | refine JC.condF rfl ?_ | refine JC.cond rfl (fun h => by first | (exfalso; simp at h; omega) | (simp at h)) (fun _ => ?_)
          refine JC.skip ?_
          refine JX.thenN (hK15 _ _ ?_)
          refine JC.seq (fun K17 hK17 => ?_)
          refine JC.region ?_
          refine J.move rfl rfl ?_
          refine J.fieldAddr Ty.fd52_1 rfl rfl ?_
          refine J.loadOA (vs := cP (cutF f).p) Ty.a25 Ty.s25 rfl (.tail _ (.tail _ (.tail _ (.head _)))) rfl rfl rfl ?_
          refine J.callB (v := .tuple #[.agg (cE (⟨(cutF f).p, (cutF f).a, (cutF f).b, fr, -1⟩ : EV)).toArray, .bool true]) (fun w1 w2 hw hb => hw.step hb) Ty.bd23 rfl rfl (fun w1 hw => by
            have h := get_spec t1 m1 mo L2 es2 ck2 w1 (St.owns (l1 := [(t1, tabO mo m1), (m1, .map es2 ck2)]) (hw.perm (l' := [(t1, tabO mo m1), (m1, .map es2 ck2)] ++ ((b9, cb (cD nilV true false) 37) :: (b5, cb (cFG (cutF f) ⟨.slice at1 (cutF f).tr.length ct1, .slice ai1 (cutF f).ids.length ci1, .slice av1 (cutF f).val.length cv1, .slice ax1 (cutF f).txt.length cx1⟩) 52) :: (b3, cb ([.slice ae xs.length ce, iV most] ++ cW n me ++ [.slice ao os.length co_]) 85) :: (rt, rtabO (.slice ar (ordE L).length cr) mo) :: lr)) (by (refine perm_cnt (fun _ => ?_)); simp only [cntB_append, cntB_cons, cntB_nil, Nat.add_zero, Nat.zero_add]; try ac_rfl))) hT2 (cutF f).p hf1.p
            rw [show tget L2 (cutF f).p = some (⟨(cutF f).p, (cutF f).a, (cutF f).b, fr, -1⟩ : EV) from hget] at h
            exact h) ?_
          refine J.move rfl rfl ?_
          refine J.extract rfl rfl rfl ?_
          refine J.extract rfl rfl rfl ?_
          refine J.alloc Ty.zE_ rfl rfl (fun b11 => ?_)
          refine J.storeW (cs := cE zE) (vs := cE (⟨(cutF f).p, (cutF f).a, (cutF f).b, fr, -1⟩ : EV)) Ty.s34 rfl rfl rfl rfl rfl (one_cE _) .here ?_
          refine J.perm ((b11, cb (cE (⟨(cutF f).p, (cutF f).a, (cutF f).b, fr, -1⟩ : EV)) 34) :: (b9, cb (cD nilV true false) 37) :: (t1, tabO mo m1) :: (m1, .map es2 ck2) :: (b5, cb (cFG (cutF f) ⟨.slice at1 (cutF f).tr.length ct1, .slice ai1 (cutF f).ids.length ci1, .slice av1 (cutF f).val.length cv1, .slice ax1 (cutF f).txt.length cx1⟩) 52) :: (b3, cb ([.slice ae xs.length ce, iV most] ++ cW n me ++ [.slice ao os.length co_]) 85) :: (rt, rtabO (.slice ar (ordE L).length cr) mo) :: lr) (.refl _) ?_
          refine J.assign rfl rfl ?_
          refine J.nil ?_
          refine JX.thenN (hK17 _ _ ?_)
          refine JC.seq (fun K18 hK18 => ?_)
          refine JC.seq (fun K19 hK19 => ?_)
          apply JC.drawL 39 [Eqv (.bool true), Eqv (.bool false), Eqv (.bool false), Eqv (.pointer (some ⟨t1, 0, none⟩)), Eqv (.int .i64 ((L2.length : Nat) : Int)), Eqv (.pointer (some ⟨rt, 0, none⟩)), Eqv (.pointer (some ⟨rt, 0, none⟩)), Eqv (.pointer (some ⟨rt, 0 + 0, none⟩)), Eqv (.slice ar (ordE L).length cr), Eqv (.int .i64 (((ordE L).length : Nat) : Int)), Eqv (iV (((ordE L).length : Nat) + 1)), Eqv (.bool false), Eqv (.bool false), Eqv (.bool false), Eqv (.pointer (some ⟨b11, 0 + 49, none⟩)), Eqv (iV fr), Eqv (iV fr), Eqv (.bool false), Eqv (.bool false), Eqv (.bool false), Eqv (.pointer (some ⟨b11, 0 + 17, none⟩)), Eqv (.agg (cI (cutF f).a).toArray), Eqv (.pointer (some ⟨b5, 0 + 19, none⟩)), Eqv (.agg (cI (cutF f).a).toArray), Eqv (.bool false), Eqv (.bool false), Eqv (.bool false), Eqv (.pointer (some ⟨b11, 0 + 33, none⟩)), Eqv (.agg (cI (cutF f).b).toArray), Eqv (.pointer (some ⟨b5, 0 + 35, none⟩)), Eqv (.agg (cI (cutF f).b).toArray), Eqv (.bool false), Eqv (.bool false), Eqv (.bool false), Eqv (.bool false), Eqv (.pointer (some ⟨b9, 0 + 1, none⟩)), Eqv (.bool true), Eqv (.bool false), Eqv (.bool false)] Ty.mixed rfl rfl rfl (by kernel_rfl) rfl rfl (fun w w' hw hb => hw.step hb) ⟨fun _ _ _ h _ => h, fun _ _ _ h _ => h, fun _ _ _ h _ => h, fun _ _ _ h _ => h, fun _ _ _ h _ => h, fun _ _ _ h _ => h, fun _ _ _ h _ => h, fun _ _ _ h _ => h, fun _ _ _ h _ => h, fun _ _ _ h _ => h, fun _ _ _ h _ => h, fun _ _ _ h _ => h, fun _ _ _ h _ => h, fun _ _ _ h _ => h, fun _ _ _ h _ => h, fun _ _ _ h _ => h, fun _ _ _ h _ => h, fun _ _ _ h _ => h, fun _ _ _ h _ => h, fun _ _ _ h _ => h, fun _ _ _ h _ => h, fun _ _ _ h _ => h, fun _ _ _ h _ => h, fun _ _ _ h _ => h, fun _ _ _ h _ => h, fun _ _ _ h _ => h, fun _ _ _ h _ => h, fun _ _ _ h _ => h, fun _ _ _ h _ => h, fun _ _ _ h _ => h, fun _ _ _ h _ => h, fun _ _ _ h _ => h, fun _ _ _ h _ => h, fun _ _ _ h _ => h, fun _ _ _ h _ => h, fun _ _ _ h _ => h, fun _ _ _ h _ => h, fun _ _ _ h _ => h, fun _ _ _ h _ => h, trivial⟩ ?hstep ?htail
          case hstep =>
            refine ⟨fun wi => ?_, fun wi => ?_, fun wi => ?_, fun wi => ?_, fun wi => ?_, fun wi => ?_, fun wi => ?_, fun wi => ?_, fun wi => ?_, fun wi => ?_, fun wi => ?_, fun wi => ?_, fun wi => ?_, fun wi => ?_, fun wi => ?_, fun wi => ?_, fun wi => ?_, fun wi => ?_, fun wi => ?_, fun wi => ?_, fun wi => ?_, fun wi => ?_, fun wi => ?_, fun wi => ?_, fun wi => ?_, fun wi => ?_, fun wi => ?_, fun wi => ?_, fun wi => ?_, fun wi => ?_, fun wi => ?_, fun wi => ?_, fun wi => ?_, fun wi => ?_, fun wi => ?_, fun wi => ?_, fun wi => ?_, fun wi => ?_, fun wi => ?_, trivial⟩
            · skip
              refine Fin.nil ?_
              refine J.move rfl rfl ?_
              exact J.finP rfl
            · skip
              refine Fin.consE rfl (Fin.nil ?_)
              refine J.not rfl rfl ?_
              exact J.finP rfl
            · skip
              refine Fin.consE rfl (Fin.nil ?_)
              refine J.move rfl rfl ?_
              exact J.finP rfl
            · skip
              refine Fin.consE rfl (Fin.nil ?_)
              first | refine J.skip rfl rfl rfl rfl rfl ?_ | refine J.skipU rfl rfl rfl rfl ?_ | (refine J.unguard rfl rfl rfl ?_; refine J.move rfl rfl ?_)
              exact J.finP rfl
            · skip
              refine Fin.consE rfl (Fin.consE rfl (Fin.consE rfl (Fin.nil ?_)))
              refine J.unguard rfl rfl rfl ?_
              refine J.callD (v := .int .i64 ((L2.length : Nat) : Int)) Ty.bd20 rfl rfl (fun w1 hw => len_spec t1 m1 mo L2 es2 ck2 w1 (St.owns (l1 := [(t1, tabO mo m1), (m1, .map es2 ck2)]) (hw.perm (l' := [(t1, tabO mo m1), (m1, .map es2 ck2)] ++ ((b11, cb (cE (⟨(cutF f).p, (cutF f).a, (cutF f).b, fr, -1⟩ : EV)) 34) :: (b9, cb (cD nilV true false) 37) :: (b5, cb (cFG (cutF f) ⟨.slice at1 (cutF f).tr.length ct1, .slice ai1 (cutF f).ids.length ci1, .slice av1 (cutF f).val.length cv1, .slice ax1 (cutF f).txt.length cx1⟩) 52) :: (b3, cb ([.slice ae xs.length ce, iV most] ++ cW n me ++ [.slice ao os.length co_]) 85) :: (rt, rtabO (.slice ar (ordE L).length cr) mo) :: lr)) (by (refine perm_cnt (fun _ => ?_)); simp only [cntB_append, cntB_cons, cntB_nil, Nat.add_zero, Nat.zero_add]; try ac_rfl))) hT2) ?_
              exact J.finQ rfl
            · skip
              refine Fin.consE rfl (Fin.nil ?_)
              first | refine J.skip rfl rfl rfl rfl rfl ?_ | refine J.skipU rfl rfl rfl rfl ?_ | (refine J.unguard rfl rfl rfl ?_; refine J.move rfl rfl ?_)
              exact J.finP rfl
            · skip
              refine Fin.consE rfl (Fin.consE rfl (Fin.nil ?_))
              first | refine J.skip rfl rfl rfl rfl rfl ?_ | refine J.skipU rfl rfl rfl rfl ?_ | (refine J.unguard rfl rfl rfl ?_; refine J.nilCheck rfl rfl ?_)
              exact J.finP rfl
            · skip
              refine Fin.consE rfl (Fin.consE rfl (Fin.nil ?_))
              first | refine J.skip rfl rfl rfl rfl rfl ?_ | refine J.skipU rfl rfl rfl rfl ?_ | (refine J.unguard rfl rfl rfl ?_; refine J.fieldAddr Ty.fd82_0 rfl rfl ?_)
              exact J.finP rfl
            · skip
              refine Fin.consE rfl (Fin.consE rfl (Fin.nil ?_))
              refine J.unguard rfl rfl rfl ?_
              refine J.load1 (v := .slice ar (ordE L).length cr) Ty.a62 rfl (fun w1 hw => by rw [cell_of (hw.2.own _ (.tail _ (.tail _ (.tail _ (.tail _ (.tail _ (.tail _ (.head _))))))))]; rfl) rfl ?_
              exact J.finP rfl
            · skip
              refine Fin.consE rfl (Fin.consE rfl (Fin.nil ?_))
              first | refine J.skip rfl rfl rfl rfl rfl ?_ | refine J.skipU rfl rfl rfl rfl ?_ | (refine J.unguard rfl rfl rfl ?_; refine J.lenS rfl Ty.u62 rfl rfl ?_)
              exact J.finP rfl
            · skip
              refine Fin.consE rfl (Fin.consE rfl (Fin.nil ?_))
              refine J.unguard rfl rfl rfl ?_
              refine J.addN rfl rfl (by omega) (by omega) rfl ?_
              exact J.finP rfl
            · skip
              refine Fin.consE rfl (Fin.consE rfl (Fin.consE rfl (Fin.nil ?_)))
              refine J.unguard rfl rfl rfl ?_
              refine J.bin rfl rfl rfl rfl ?_
              refine J.name 94 rfl (show Value.bool _ = .bool false by simp; omega) ?_
              exact J.finP rfl
            · skip
              refine Fin.consE rfl (Fin.consE rfl (Fin.nil ?_))
              (first | refine J.pickT rfl rfl rfl ?_ | refine J.pickF rfl rfl rfl ?_)
              exact J.finP rfl
            · skip
              refine Fin.consE rfl (Fin.consE rfl (Fin.nil ?_))
              refine J.move rfl rfl ?_
              exact J.finP rfl
            · skip
              refine Fin.consE rfl (Fin.nil ?_)
              first | refine J.skip rfl rfl rfl rfl rfl ?_ | refine J.skipU rfl rfl rfl rfl ?_ | (refine J.unguard rfl rfl rfl ?_; refine J.fieldAddr Ty.fd34_3 rfl rfl ?_)
              exact J.finP rfl
            · skip
              refine Fin.consE rfl (Fin.consE rfl (Fin.nil ?_))
              refine J.unguard rfl rfl rfl ?_
              refine J.load1 (v := iV fr) Ty.a3 rfl (fun w1 hw => by rw [cell_of (hw.2.own _ (.head _))]; rfl) rfl ?_
              exact J.finP rfl
            · skip
              refine Fin.consE rfl (Fin.nil ?_)
              first | refine J.skip rfl rfl rfl rfl rfl ?_ | refine J.skipU rfl rfl rfl rfl ?_ | (refine J.unguard rfl rfl rfl ?_; refine J.move rfl rfl ?_)
              exact J.finP rfl
            · skip
              refine Fin.consE rfl (Fin.consE rfl (Fin.consE rfl (Fin.nil ?_)))
              refine J.unguard rfl rfl rfl ?_
              refine J.bin rfl rfl rfl rfl ?_
              refine J.name 100 rfl (show Value.bool _ = .bool false by simp) ?_
              exact J.finP rfl
            · skip
              refine Fin.consE rfl (Fin.consE rfl (Fin.nil ?_))
              (first | refine J.pickT rfl rfl rfl ?_ | refine J.pickF rfl rfl rfl ?_)
              exact J.finP rfl
            · skip
              refine Fin.consE rfl (Fin.consE rfl (Fin.nil ?_))
              refine J.move rfl rfl ?_
              exact J.finP rfl
            · skip
              refine Fin.consE rfl (Fin.nil ?_)
              first | refine J.skip rfl rfl rfl rfl rfl ?_ | refine J.skipU rfl rfl rfl rfl ?_ | (refine J.unguard rfl rfl rfl ?_; refine J.fieldAddr Ty.fd34_1 rfl rfl ?_)
              exact J.finP rfl
            · skip
              refine Fin.consE rfl (Fin.consE rfl (Fin.nil ?_))
              refine J.unguard rfl rfl rfl ?_
              refine J.loadA (vs := cI (cutF f).a) Ty.a23 Ty.s23 rfl rfl (fun w1 hw => Cells.of_block (hw.2.own _ (.head _)) rfl) rfl ?_
              exact J.finP rfl
            · skip
              refine Fin.consE rfl (Fin.nil ?_)
              first | refine J.skip rfl rfl rfl rfl rfl ?_ | refine J.skipU rfl rfl rfl rfl ?_ | (refine J.unguard rfl rfl rfl ?_; refine J.fieldAddr Ty.fd52_3 rfl rfl ?_)
              exact J.finP rfl
            · skip
              refine Fin.consE rfl (Fin.consE rfl (Fin.nil ?_))
              refine J.unguard rfl rfl rfl ?_
              refine J.loadA (vs := cI (cutF f).a) Ty.a23 Ty.s23 rfl rfl (fun w1 hw => Cells.of_block (hw.2.own _ (.tail _ (.tail _ (.tail _ (.tail _ (.head _)))))) rfl) rfl ?_
              exact J.finP rfl
            · skip
              refine Fin.consE rfl (Fin.consE rfl (Fin.consE rfl (Fin.nil ?_)))
              refine J.unguard rfl rfl rfl ?_
              refine J.neI Ty.QI Ty.keyI rfl rfl rfl ?_
              refine J.name 107 rfl (show Value.bool _ = .bool false by simp) ?_
              exact J.finP rfl
            · skip
              refine Fin.consE rfl (Fin.consE rfl (Fin.nil ?_))
              (first | refine J.pickT rfl rfl rfl ?_ | refine J.pickF rfl rfl rfl ?_)
              exact J.finP rfl
            · skip
              refine Fin.consE rfl (Fin.consE rfl (Fin.nil ?_))
              refine J.move rfl rfl ?_
              exact J.finP rfl
            · skip
              refine Fin.consE rfl (Fin.nil ?_)
              first | refine J.skip rfl rfl rfl rfl rfl ?_ | refine J.skipU rfl rfl rfl rfl ?_ | (refine J.unguard rfl rfl rfl ?_; refine J.fieldAddr Ty.fd34_2 rfl rfl ?_)
              exact J.finP rfl
            · skip
              refine Fin.consE rfl (Fin.consE rfl (Fin.nil ?_))
              refine J.unguard rfl rfl rfl ?_
              refine J.loadA (vs := cI (cutF f).b) Ty.a23 Ty.s23 rfl rfl (fun w1 hw => Cells.of_block (hw.2.own _ (.head _)) rfl) rfl ?_
              exact J.finP rfl
            · skip
              refine Fin.consE rfl (Fin.nil ?_)
              first | refine J.skip rfl rfl rfl rfl rfl ?_ | refine J.skipU rfl rfl rfl rfl ?_ | (refine J.unguard rfl rfl rfl ?_; refine J.fieldAddr Ty.fd52_4 rfl rfl ?_)
              exact J.finP rfl
            · skip
              refine Fin.consE rfl (Fin.consE rfl (Fin.nil ?_))
              refine J.unguard rfl rfl rfl ?_
              refine J.loadA (vs := cI (cutF f).b) Ty.a23 Ty.s23 rfl rfl (fun w1 hw => Cells.of_block (hw.2.own _ (.tail _ (.tail _ (.tail _ (.tail _ (.head _)))))) rfl) rfl ?_
              exact J.finP rfl
            · skip
              refine Fin.consE rfl (Fin.consE rfl (Fin.consE rfl (Fin.nil ?_)))
              refine J.unguard rfl rfl rfl ?_
              refine J.neI Ty.QI Ty.keyI rfl rfl rfl ?_
              refine J.name 114 rfl (show Value.bool _ = .bool false by simp) ?_
              exact J.finP rfl
            · skip
              refine Fin.consE rfl (Fin.consE rfl (Fin.nil ?_))
              (first | refine J.pickT rfl rfl rfl ?_ | refine J.pickF rfl rfl rfl ?_)
              exact J.finP rfl
            · skip
              refine Fin.consE rfl (Fin.consE rfl (Fin.nil ?_))
              refine J.move rfl rfl ?_
              exact J.finP rfl
            · skip
              refine Fin.consE rfl (Fin.nil ?_)
              first | refine J.skip rfl rfl rfl rfl rfl ?_ | refine J.skipU rfl rfl rfl rfl ?_ | (refine J.unguard rfl rfl rfl ?_; refine J.move rfl rfl ?_)
              exact J.finP rfl
            · skip
              refine Fin.consE rfl (Fin.nil ?_)
              first | refine J.skip rfl rfl rfl rfl rfl ?_ | refine J.skipU rfl rfl rfl rfl ?_ | (refine J.unguard rfl rfl rfl ?_; refine J.fieldAddr Ty.fd37_1 rfl rfl ?_)
              exact J.finP rfl
            · skip
              refine Fin.consE rfl (Fin.consE rfl (Fin.nil ?_))
              refine J.unguard rfl rfl rfl ?_
              refine J.load1 (v := .bool true) Ty.a4 rfl (fun w1 hw => by rw [cell_of (hw.2.own _ (.tail _ (.head _)))]; rfl) rfl ?_
              exact J.finP rfl
            · skip
              refine Fin.consE rfl (Fin.consE rfl (Fin.consE rfl (Fin.nil ?_)))
              refine J.unguard rfl rfl rfl ?_
              refine J.eqBool (.inl rfl) Ty.u4 rfl rfl rfl ?_
              refine J.name 120 rfl (show _ = Value.bool false by simp) ?_
              exact J.finP rfl
            · skip
              refine Fin.consE rfl (Fin.consE rfl (Fin.nil ?_))
              (first | refine J.pickT rfl rfl rfl ?_ | refine J.pickF rfl rfl rfl ?_)
              exact J.finP rfl
          case htail =>
            refine Fin.consE rfl (Fin.consE rfl (Fin.consE rfl (Fin.consE rfl (Fin.consE rfl (Fin.consE rfl (Fin.consE rfl (Fin.consE rfl (Fin.consE rfl (Fin.consE rfl (Fin.consE rfl (Fin.consE rfl (Fin.consE rfl (Fin.consE rfl (Fin.consE rfl (Fin.consE rfl (Fin.consE rfl (Fin.consE rfl (Fin.consE rfl (Fin.consE rfl (Fin.consE rfl (Fin.consE rfl (Fin.consE rfl (Fin.consE rfl (Fin.consE rfl (Fin.consE rfl (Fin.consE rfl (Fin.consE rfl (Fin.consE rfl (Fin.consE rfl (Fin.consE rfl (Fin.consE rfl (Fin.consE rfl (Fin.consE rfl (Fin.consE rfl (Fin.consE rfl (Fin.consE rfl (Fin.consE rfl (Fin.consE rfl (Fin.nil ?_)))))))))))))))))))))))))))))))))))))))
            refine J.nil ?_
            refine JX.thenN (hK19 _ _ ?_)
            first | refine JC.condF rfl ?_ | refine JC.cond rfl (fun h => by first | (exfalso; simp at h; omega) | (simp at h)) (fun _ => ?_)
            refine JC.skip ?_
            refine JX.thenN (hK18 _ _ ?_)
            refine JC.seq (fun K20 hK20 => ?_)
            apply JC.drawL 28 [Eqv (.bool false), Eqv (.bool false), Eqv (undef), Eqv (undef), Eqv (undef), Eqv (undef), Eqv (undef), Eqv (undef), Eqv (undef), Eqv (undef), Eqv (.bool false), Eqv (.bool false), Eqv (.pointer (some ⟨b9, 0 + 1, none⟩)), Eqv (.bool true), Eqv (.bool true), Eqv (.pointer (some ⟨b11, 0 + 50, none⟩)), Eqv (iV (-1)), Eqv (.bool true), Eqv (.bool true), Eqv (.bool true), Eqv (.pointer (some ⟨b5, 0 + 35, none⟩)), Eqv (.agg (cI (cutF f).b).toArray), Eqv (.pointer (some ⟨b3, 0 + 2, none⟩)), Eqv (.pointer (some ⟨b3, 0 + 2 + 1, none⟩)), Eqv (.agg (cI me).toArray), Eqv (.bool true), Eqv (.bool true), Eqv (.bool true)] Ty.mixed rfl rfl rfl (by kernel_rfl) rfl rfl (fun w w' hw hb => hw.step hb) ⟨fun _ _ _ h _ => h, fun _ _ _ h _ => h, fun _ _ _ h _ => h, fun _ _ _ h _ => h, fun _ _ _ h _ => h, fun _ _ _ h _ => h, fun _ _ _ h _ => h, fun _ _ _ h _ => h, fun _ _ _ h _ => h, fun _ _ _ h _ => h, fun _ _ _ h _ => h, fun _ _ _ h _ => h, fun _ _ _ h _ => h, fun _ _ _ h _ => h, fun _ _ _ h _ => h, fun _ _ _ h _ => h, fun _ _ _ h _ => h, fun _ _ _ h _ => h, fun _ _ _ h _ => h, fun _ _ _ h _ => h, fun _ _ _ h _ => h, fun _ _ _ h _ => h, fun _ _ _ h _ => h, fun _ _ _ h _ => h, fun _ _ _ h _ => h, fun _ _ _ h _ => h, fun _ _ _ h _ => h, fun _ _ _ h _ => h, trivial⟩ ?hstep ?htail
            case hstep =>
              refine ⟨fun wi => ?_, fun wi => ?_, fun wi => ?_, fun wi => ?_, fun wi => ?_, fun wi => ?_, fun wi => ?_, fun wi => ?_, fun wi => ?_, fun wi => ?_, fun wi => ?_, fun wi => ?_, fun wi => ?_, fun wi => ?_, fun wi => ?_, fun wi => ?_, fun wi => ?_, fun wi => ?_, fun wi => ?_, fun wi => ?_, fun wi => ?_, fun wi => ?_, fun wi => ?_, fun wi => ?_, fun wi => ?_, fun wi => ?_, fun wi => ?_, fun wi => ?_, trivial⟩
              · skip
                refine Fin.nil ?_
                refine J.move rfl rfl ?_
                exact J.finP rfl
              · skip
                refine Fin.consE rfl (Fin.nil ?_)
                refine J.move rfl rfl ?_
                exact J.finP rfl
              · skip
                refine Fin.consE rfl (Fin.nil ?_)
                first | refine J.skip rfl rfl rfl rfl rfl ?_ | refine J.skipU rfl rfl rfl rfl ?_ | (refine J.unguard rfl rfl rfl ?_; refine J.fieldAddr Ty.fd34_4 rfl rfl ?_)
                exact J.finP rfl
              · skip
                refine Fin.consE rfl (Fin.consE rfl (Fin.nil ?_))
                first | refine J.skip rfl rfl rfl rfl rfl ?_ | refine J.skipU rfl rfl rfl rfl ?_ | (refine J.unguard rfl rfl rfl ?_; refine J.load1 Ty.a3 rfl (fun w hw => (cell_of (hw.2.own (_, _) (by repeat first | exact .head _ | apply List.Mem.tail | apply List.mem_append_right))).trans (by exact rfl)) rfl ?_)
                exact J.finP rfl
              · skip
                refine Fin.consE rfl (Fin.nil ?_)
                first | refine J.skip rfl rfl rfl rfl rfl ?_ | refine J.skipU rfl rfl rfl rfl ?_ | (refine J.unguard rfl rfl rfl ?_; refine J.fieldAddr Ty.fd37_0 rfl rfl ?_)
                exact J.finP rfl
              · skip
                refine Fin.consE rfl (Fin.consE rfl (Fin.nil ?_))
                first | refine J.skip rfl rfl rfl rfl rfl ?_ | refine J.skipU rfl rfl rfl rfl ?_ | (refine J.unguard rfl rfl rfl ?_; refine J.load1 Ty.a35 rfl (fun w hw => (cell_of (hw.2.own (_, _) (by repeat first | exact .head _ | apply List.Mem.tail | apply List.mem_append_right))).trans (by exact rfl)) rfl ?_)
                exact J.finP rfl
              · skip
                refine Fin.consE rfl (Fin.consE rfl (Fin.nil ?_))
                first | refine J.skip rfl rfl rfl rfl rfl ?_ | refine J.skipU rfl rfl rfl rfl ?_ | (refine J.unguard rfl rfl rfl ?_; refine J.indexAddrS Ty.el35 Ty.s54 rfl rfl (by omega) (by omega) rfl ?_)
                exact J.finP rfl
              · skip
                refine Fin.consE rfl (Fin.consE rfl (Fin.nil ?_))
                first | refine J.skip rfl rfl rfl rfl rfl ?_ | refine J.skipU rfl rfl rfl rfl ?_ | (refine J.unguard rfl rfl rfl ?_; refine J.fieldAddr Ty.fd54_0 rfl rfl ?_)
                exact J.finP rfl
              · skip
                refine Fin.consE rfl (Fin.consE rfl (Fin.nil ?_))
                first | refine J.skip rfl rfl rfl rfl rfl ?_ | refine J.skipU rfl rfl rfl rfl ?_ | (refine J.unguard rfl rfl rfl ?_; refine J.load1 Ty.a3 rfl (fun w hw => (cell_of (hw.2.own (_, _) (by repeat first | exact .head _ | apply List.Mem.tail | apply List.mem_append_right))).trans (by exact rfl)) rfl ?_)
                exact J.finP rfl
              · skip
                refine Fin.consE rfl (Fin.consE rfl (Fin.consE rfl (Fin.nil ?_)))
                first | refine J.skip rfl rfl rfl rfl rfl ?_ | refine J.skipU rfl rfl rfl rfl ?_ | (refine J.unguard rfl rfl rfl ?_; refine J.bin rfl rfl rfl rfl ?_)
                exact J.finP rfl
              · skip
                refine Fin.consE rfl (Fin.consE rfl (Fin.nil ?_))
                (first | refine J.pickT rfl rfl rfl ?_ | refine J.pickF rfl rfl rfl ?_)
                exact J.finP rfl
              · skip
                refine Fin.consE rfl (Fin.consE rfl (Fin.nil ?_))
                refine J.move rfl rfl ?_
                exact J.finP rfl
              · skip
                refine Fin.consE rfl (Fin.nil ?_)
                first | refine J.skip rfl rfl rfl rfl rfl ?_ | refine J.skipU rfl rfl rfl rfl ?_ | (refine J.unguard rfl rfl rfl ?_; refine J.fieldAddr Ty.fd37_1 rfl rfl ?_)
                exact J.finP rfl
              · skip
                refine Fin.consE rfl (Fin.consE rfl (Fin.nil ?_))
                refine J.unguard rfl rfl rfl ?_
                refine J.load1 (v := .bool true) Ty.a4 rfl (fun w1 hw => by rw [cell_of (hw.2.own _ (.tail _ (.head _)))]; rfl) rfl ?_
                exact J.finP rfl
              · skip
                refine Fin.consE rfl (Fin.consE rfl (Fin.consE rfl (Fin.nil ?_)))
                first | refine J.skip rfl rfl rfl rfl rfl ?_ | refine J.skipU rfl rfl rfl rfl ?_ | (refine J.unguard rfl rfl rfl ?_; refine J.move rfl rfl ?_)
                exact J.finP rfl
              · skip
                refine Fin.consE rfl (Fin.nil ?_)
                first | refine J.skip rfl rfl rfl rfl rfl ?_ | refine J.skipU rfl rfl rfl rfl ?_ | (refine J.unguard rfl rfl rfl ?_; refine J.fieldAddr Ty.fd34_4 rfl rfl ?_)
                exact J.finP rfl
              · skip
                refine Fin.consE rfl (Fin.consE rfl (Fin.nil ?_))
                refine J.unguard rfl rfl rfl ?_
                refine J.load1 (v := iV (-1)) Ty.a3 rfl (fun w1 hw => by rw [cell_of (hw.2.own _ (.head _))]; rfl) rfl ?_
                exact J.finP rfl
              · skip
                refine Fin.consE rfl (Fin.consE rfl (Fin.nil ?_))
                refine J.unguard rfl rfl rfl ?_
                refine J.bin rfl rfl rfl rfl ?_
                refine J.name 139 rfl (show Value.bool _ = .bool true by simp) ?_
                exact J.finP rfl
              · skip
                refine Fin.consE rfl (Fin.consE rfl (Fin.consE rfl (Fin.nil ?_)))
                first | refine J.skip rfl rfl rfl rfl rfl ?_ | refine J.skipU rfl rfl rfl rfl ?_ | (refine J.unguard rfl rfl rfl ?_; (first | refine J.pickT rfl rfl rfl ?_ | refine J.pickF rfl rfl rfl ?_))
                exact J.finP rfl
              · skip
                refine Fin.consE rfl (Fin.consE rfl (Fin.consE rfl (Fin.nil ?_)))
                first | refine J.skip rfl rfl rfl rfl rfl ?_ | refine J.skipU rfl rfl rfl rfl ?_ | (refine J.unguard rfl rfl rfl ?_; refine J.move rfl rfl ?_)
                exact J.finP rfl
              · skip
                refine Fin.consE rfl (Fin.nil ?_)
                first | refine J.skip rfl rfl rfl rfl rfl ?_ | refine J.skipU rfl rfl rfl rfl ?_ | (refine J.unguard rfl rfl rfl ?_; refine J.fieldAddr Ty.fd52_4 rfl rfl ?_)
                exact J.finP rfl
              · skip
                refine Fin.consE rfl (Fin.consE rfl (Fin.nil ?_))
                refine J.unguard rfl rfl rfl ?_
                refine J.loadA (vs := cI (cutF f).b) Ty.a23 Ty.s23 rfl rfl (fun w1 hw => Cells.of_block (hw.2.own _ (.tail _ (.tail _ (.tail _ (.tail _ (.head _)))))) rfl) rfl ?_
                exact J.finP rfl
              · skip
                refine Fin.consE rfl (Fin.nil ?_)
                first | refine J.skip rfl rfl rfl rfl rfl ?_ | refine J.skipU rfl rfl rfl rfl ?_ | (refine J.unguard rfl rfl rfl ?_; refine J.fieldAddr Ty.fd85_2 rfl rfl ?_)
                exact J.finP rfl
              · skip
                refine Fin.consE rfl (Fin.consE rfl (Fin.nil ?_))
                first | refine J.skip rfl rfl rfl rfl rfl ?_ | refine J.skipU rfl rfl rfl rfl ?_ | (refine J.unguard rfl rfl rfl ?_; refine J.fieldAddr Ty.fd41_1 rfl rfl ?_)
                exact J.finP rfl
              · skip
                refine Fin.consE rfl (Fin.consE rfl (Fin.nil ?_))
                refine J.unguard rfl rfl rfl ?_
                refine J.loadA (vs := cI me) Ty.a23 Ty.s23 rfl rfl (fun w1 hw => Cells.of_block (hw.2.own _ (.tail _ (.tail _ (.tail _ (.tail _ (.tail _ (.head _))))))) rfl) rfl ?_
                exact J.finP rfl
              · skip
                refine Fin.consE rfl (Fin.consE rfl (Fin.consE rfl (Fin.nil ?_)))
                refine J.unguard rfl rfl rfl ?_
                refine J.eqI Ty.QI Ty.keyI rfl rfl rfl ?_
                refine J.name 147 rfl (show Value.bool _ = .bool true by simp [hid]) ?_
                exact J.finP rfl
              · skip
                refine Fin.consE rfl (Fin.consE rfl (Fin.consE rfl (Fin.nil ?_)))
                first | refine J.skip rfl rfl rfl rfl rfl ?_ | refine J.skipU rfl rfl rfl rfl ?_ | (refine J.unguard rfl rfl rfl ?_; (first | refine J.pickT rfl rfl rfl ?_ | refine J.pickF rfl rfl rfl ?_))
                exact J.finP rfl
              · skip
                refine Fin.consE rfl (Fin.consE rfl (Fin.nil ?_))
                (first | refine J.pickT rfl rfl rfl ?_ | refine J.pickF rfl rfl rfl ?_)
                exact J.finP rfl
            case htail =>
              refine Fin.consE rfl (Fin.consE rfl (Fin.consE rfl (Fin.consE rfl (Fin.consE rfl (Fin.consE rfl (Fin.consE rfl (Fin.consE rfl (Fin.consE rfl (Fin.consE rfl (Fin.consE rfl (Fin.consE rfl (Fin.consE rfl (Fin.consE rfl (Fin.consE rfl (Fin.consE rfl (Fin.consE rfl (Fin.consE rfl (Fin.consE rfl (Fin.consE rfl (Fin.consE rfl (Fin.consE rfl (Fin.consE rfl (Fin.consE rfl (Fin.consE rfl (Fin.consE rfl (Fin.consE rfl (Fin.consE rfl (Fin.nil ?_))))))))))))))))))))))))))))
              refine J.assign rfl rfl ?_
              refine J.nil ?_
              refine JX.thenN (hK20 _ _ ?_)
              refine JC.ret ?_
              refine JX.ret1 rfl rfl (fun w hw => ?_)
              exact ⟨rfl, (hw.drop (List.nil_sublist _)).below⟩
        · skip
          obtain ⟨nx, rfl⟩ : ∃ x, x = nb := ⟨_, rfl⟩
          refine JC.region ?_
          refine J.move rfl rfl ?_
          refine J.fieldAddr Ty.fd85_2 rfl rfl ?_
          refine J.loadOA (vs := cW n me) Ty.a41 Ty.s41 rfl (.tail _ (.tail _ (.tail _ (.head _)))) rfl rfl rfl ?_
          refine J.move rfl rfl ?_
          refine J.loadOA (vs := cFG (cutF f) ⟨.slice at1 (cutF f).tr.length ct1, .slice ai1 (cutF f).ids.length ci1, .slice av1 (cutF f).val.length cv1, .slice ax1 (cutF f).txt.length cx1⟩) Ty.a52 Ty.s52 rfl (.tail _ (.tail _ (.head _))) rfl rfl rfl ?_
          refine J.fieldAddr Ty.fd85_3 rfl rfl ?_
          refine J.loadO (v := .slice ao os.length co_) Ty.a28 rfl (.tail _ (.tail _ (.tail _ (.head _)))) rfl rfl ?_
          refine J.perm ([(t1, tabO mo m1), (m1, .map es ck)] ++ ((b5, cb (cFG (cutF f) ⟨.slice at1 (cutF f).tr.length ct1, .slice ai1 (cutF f).ids.length ci1, .slice av1 (cutF f).val.length cv1, .slice ax1 (cutF f).txt.length cx1⟩) 52) :: (b3, cb ([.slice ae xs.length ce, iV most] ++ cW n me ++ [.slice ao os.length co_]) 85) :: (rt, rtabO (.slice ar (ordE L).length cr) mo) :: lr)) (.refl _) ?_
          refine J.callS (α := OutS) (V := fun x => .agg (cD (.slice (some ⟨x.h, 0, none⟩) 1 1) false false).toArray) (Pr := fun x => Vec 3 1 (.slice x.a (cutF f).tr.length x.c) (cutF f).tr.length ((cutF f).tr.map iV) x.lp ∧ Tab L2 x.es x.ck) (L := fun x => (x.h, cb (cH nx (cF 4 (cutF f).p (cutF f).a (cutF f).b (.slice x.a (cutF f).tr.length x.c))) 54) :: (x.lp ++ [(t1, tabO mo m1), (m1, .map x.es x.ck)])) (l1 := [(t1, tabO mo m1), (m1, .map es ck)]) Ty.bd19 rfl rfl (fun w1 hw => gtake_onQ t1 m1 mo L es ck n fr me (cutF f) ⟨.slice at1 (cutF f).tr.length ct1, .slice ai1 (cutF f).ids.length ci1, .slice av1 (cutF f).val.length cv1, .slice ax1 (cutF f).txt.length cx1⟩ _ os w1 (rows_cut (hs.below (hw.drop (List.nil_sublist _)).below)) ⟨((rows_cut hs).tr.offNew hw (fun x hx => List.mem_append_left _ hx)), (hs.ids.offNew hw (fun x hx => List.mem_append_left _ hx)), (hs.val.offNew hw (fun x hx => List.mem_append_left _ hx)), (hs.txt.offNew hw (fun x hx => List.mem_append_left _ hx))⟩ hg1 (by omega) hk hf1.p hfr i hi hi2 hat hfrom hnd (hro.below (hw.drop (List.nil_sublist _)).below) (hro.offNew hw (fun x hx => List.mem_append_left _ hx)) (by omega) hw.owns hT nx hnx hop hadd) (fun y hy9 => ?_)
          obtain ⟨hz, az, cz1, lz1, es2, ck2⟩ := y
          obtain ⟨hvz1, hT2⟩ := hy9
          simp only [List.cons_append, List.nil_append] at hvz1 hT2 ⊢
          obtain ⟨hl2n, hget⟩ := tadd_get hadd
          refine J.perm ((t1, tabO mo m1) :: (m1, .map es2 ck2) :: (b5, cb (cFG (cutF f) ⟨.slice at1 (cutF f).tr.length ct1, .slice ai1 (cutF f).ids.length ci1, .slice av1 (cutF f).val.length cv1, .slice ax1 (cutF f).txt.length cx1⟩) 52) :: (b3, cb ([.slice ae xs.length ce, iV most] ++ cW n me ++ [.slice ao os.length co_]) 85) :: (rt, rtabO (.slice ar (ordE L).length cr) mo) :: (lr ++ ((hz, cb (cH nx (cF 4 (cutF f).p (cutF f).a (cutF f).b (.slice az (cutF f).tr.length cz1))) 54) :: lz1))) (by (refine perm_cnt (fun _ => ?_)); simp only [cntB_append, cntB_cons, cntB_nil, Nat.add_zero, Nat.zero_add]; try ac_rfl) ?_
          refine J.alloc zN rfl rfl (fun b9 => ?_)
          refine J.storeW (cs := cD nilV false false) (vs := cD (.slice (some ⟨hz, 0, none⟩) 1 1) false false) Ty.s37 rfl rfl rfl rfl rfl (by simp [Value.oneCell']) .here ?_
          refine J.perm ((b9, cb (cD (.slice (some ⟨hz, 0, none⟩) 1 1) false false) 37) :: (t1, tabO mo m1) :: (m1, .map es2 ck2) :: (b5, cb (cFG (cutF f) ⟨.slice at1 (cutF f).tr.length ct1, .slice ai1 (cutF f).ids.length ci1, .slice av1 (cutF f).val.length cv1, .slice ax1 (cutF f).txt.length cx1⟩) 52) :: (b3, cb ([.slice ae xs.length ce, iV most] ++ cW n me ++ [.slice ao os.length co_]) 85) :: (rt, rtabO (.slice ar (ordE L).length cr) mo) :: (lr ++ ((hz, cb (cH nx (cF 4 (cutF f).p (cutF f).a (cutF f).b (.slice az (cutF f).tr.length cz1))) 54) :: lz1))) (.refl _) ?_
          refine J.nil ?_
          refine JX.thenN (hK5 _ _ ?_)
          refine JC.seq (fun K21 hK21 => ?_)
          refine JC.region ?_
          refine J.fieldAddr Ty.fd37_0 rfl rfl ?_
          refine J.loadO (v := .slice (some ⟨hz, 0, none⟩) 1 1) Ty.a35 rfl (.head _) rfl rfl ?_
          refine J.lenS rfl Ty.u35 rfl rfl ?_
          refine J.bin rfl rfl rfl rfl ?_
          refine J.name 46 rfl (show Value.bool _ = .bool true by simp) ?_
          refine J.move rfl rfl ?_
          first | refine J.skip rfl rfl rfl rfl rfl ?_ | refine J.skipU rfl rfl rfl rfl ?_ | (refine J.unguard rfl rfl rfl ?_; refine J.fieldAddr Ty.fd37_0 rfl rfl ?_)
          refine J.unguard rfl rfl rfl ?_
          refine J.loadO (v := .slice (some ⟨hz, 0, none⟩) 1 1) Ty.a35 rfl (.head _) rfl rfl ?_
          refine J.unguard rfl rfl rfl ?_
          refine J.indexAddrS Ty.el35 Ty.s54 rfl rfl (by omega) (by omega) rfl ?_
          first | refine J.skip rfl rfl rfl rfl rfl ?_ | refine J.skipU rfl rfl rfl rfl ?_ | (refine J.unguard rfl rfl rfl ?_; refine J.fieldAddr Ty.fd54_1 rfl rfl ?_)
          first | refine J.skip rfl rfl rfl rfl rfl ?_ | refine J.skipU rfl rfl rfl rfl ?_ | (refine J.unguard rfl rfl rfl ?_; refine J.fieldAddr Ty.fd52_0 rfl rfl ?_)
          refine J.unguard rfl rfl rfl ?_
          refine J.load1 (v := iV 4) Ty.a3 rfl (fun w1 hw => by rw [cell_of (hw.own (_, cb (cH nx (cF 4 (cutF f).p (cutF f).a (cutF f).b (.slice az (cutF f).tr.length cz1))) 54) (by simp))]; rfl) rfl ?_
          refine J.unguard rfl rfl rfl ?_
          refine J.bin rfl rfl rfl rfl ?_
          refine J.name 54 rfl (show Value.bool _ = .bool true by simp) ?_
          (first | refine J.pickT rfl rfl rfl ?_ | refine J.pickF rfl rfl rfl ?_)
          refine J.assign rfl rfl ?_
          refine J.nil ?_
          refine JX.thenN (hK21 _ _ ?_)
          refine JC.seq (fun K22 hK22 => ?_)
          refine JC.seq (fun K23 hK23 => ?_)
          refine JC.region ?_
          refine J.move rfl rfl ?_
          refine J.not rfl rfl ?_
          refine J.move rfl rfl ?_
          first | refine J.skip rfl rfl rfl rfl rfl ?_ | refine J.skipU rfl rfl rfl rfl ?_ | (refine J.unguard rfl rfl rfl ?_; refine J.fieldAddr Ty.fd37_1 rfl rfl ?_)
          refine J.skip rfl rfl rfl rfl rfl ?_
          first | refine J.skip rfl rfl rfl rfl rfl ?_ | refine J.skipU rfl rfl rfl rfl ?_ | (refine J.unguard rfl rfl rfl ?_; refine J.not rfl rfl ?_)
          (first | refine J.pickT rfl rfl rfl ?_ | refine J.pickF rfl rfl rfl ?_)
          refine J.nil ?_
          refine JX.thenN (hK23 _ _ ?_)
          first | refine JC.condF rfl ?_ | refine JC.cond rfl (fun h => by first | (exfalso; simp at h; omega) | (simp at h)) (fun _ => ?_)
          refine JC.skip ?_
          refine JX.thenN (hK22 _ _ ?_)
          refine JC.seq (fun K24 hK24 => ?_)
          refine JC.region ?_
          refine J.move rfl rfl ?_
          refine J.fieldAddr Ty.fd52_1 rfl rfl ?_
          refine J.loadOA (vs := cP (cutF f).p) Ty.a25 Ty.s25 rfl (.tail _ (.tail _ (.tail _ (.head _)))) rfl rfl rfl ?_
          refine J.callB (v := .tuple #[.agg (cE (⟨(cutF f).p, (cutF f).a, (cutF f).b, fr, nx⟩ : EV)).toArray, .bool true]) (fun w1 w2 hw hb => hw.step hb) Ty.bd23 rfl rfl (fun w1 hw => by
            have h := get_spec t1 m1 mo L2 es2 ck2 w1 (St.owns (l1 := [(t1, tabO mo m1), (m1, .map es2 ck2)]) (hw.perm (l' := [(t1, tabO mo m1), (m1, .map es2 ck2)] ++ ((b9, cb (cD (.slice (some ⟨hz, 0, none⟩) 1 1) false false) 37) :: (b5, cb (cFG (cutF f) ⟨.slice at1 (cutF f).tr.length ct1, .slice ai1 (cutF f).ids.length ci1, .slice av1 (cutF f).val.length cv1, .slice ax1 (cutF f).txt.length cx1⟩) 52) :: (b3, cb ([.slice ae xs.length ce, iV most] ++ cW n me ++ [.slice ao os.length co_]) 85) :: (rt, rtabO (.slice ar (ordE L).length cr) mo) :: (lr ++ ((hz, cb (cH nx (cF 4 (cutF f).p (cutF f).a (cutF f).b (.slice az (cutF f).tr.length cz1))) 54) :: lz1)))) (by (refine perm_cnt (fun _ => ?_)); simp only [cntB_append, cntB_cons, cntB_nil, Nat.add_zero, Nat.zero_add]; try ac_rfl))) hT2 (cutF f).p hf1.p
            rw [show tget L2 (cutF f).p = some (⟨(cutF f).p, (cutF f).a, (cutF f).b, fr, nx⟩ : EV) from hget] at h
            exact h) ?_
          refine J.move rfl rfl ?_
          refine J.extract rfl rfl rfl ?_
          refine J.extract rfl rfl rfl ?_
          refine J.alloc Ty.zE_ rfl rfl (fun b11 => ?_)
          refine J.storeW (cs := cE zE) (vs := cE (⟨(cutF f).p, (cutF f).a, (cutF f).b, fr, nx⟩ : EV)) Ty.s34 rfl rfl rfl rfl rfl (one_cE _) .here ?_
          refine J.perm ((b11, cb (cE (⟨(cutF f).p, (cutF f).a, (cutF f).b, fr, nx⟩ : EV)) 34) :: (b9, cb (cD (.slice (some ⟨hz, 0, none⟩) 1 1) false false) 37) :: (t1, tabO mo m1) :: (m1, .map es2 ck2) :: (b5, cb (cFG (cutF f) ⟨.slice at1 (cutF f).tr.length ct1, .slice ai1 (cutF f).ids.length ci1, .slice av1 (cutF f).val.length cv1, .slice ax1 (cutF f).txt.length cx1⟩) 52) :: (b3, cb ([.slice ae xs.length ce, iV most] ++ cW n me ++ [.slice ao os.length co_]) 85) :: (rt, rtabO (.slice ar (ordE L).length cr) mo) :: (lr ++ ((hz, cb (cH nx (cF 4 (cutF f).p (cutF f).a (cutF f).b (.slice az (cutF f).tr.length cz1))) 54) :: lz1))) (.refl _) ?_
          refine J.assign rfl rfl ?_
          refine J.nil ?_
          refine JX.thenN (hK24 _ _ ?_)
          refine JC.seq (fun K25 hK25 => ?_)
          refine JC.seq (fun K26 hK26 => ?_)
          apply JC.drawL 39 [Eqv (.bool true), Eqv (.bool false), Eqv (.bool false), Eqv (.pointer (some ⟨t1, 0, none⟩)), Eqv (.int .i64 ((L2.length : Nat) : Int)), Eqv (.pointer (some ⟨rt, 0, none⟩)), Eqv (.pointer (some ⟨rt, 0, none⟩)), Eqv (.pointer (some ⟨rt, 0 + 0, none⟩)), Eqv (.slice ar (ordE L).length cr), Eqv (.int .i64 (((ordE L).length : Nat) : Int)), Eqv (iV (((ordE L).length : Nat) + 1)), Eqv (.bool false), Eqv (.bool false), Eqv (.bool false), Eqv (.pointer (some ⟨b11, 0 + 49, none⟩)), Eqv (iV fr), Eqv (iV fr), Eqv (.bool false), Eqv (.bool false), Eqv (.bool false), Eqv (.pointer (some ⟨b11, 0 + 17, none⟩)), Eqv (.agg (cI (cutF f).a).toArray), Eqv (.pointer (some ⟨b5, 0 + 19, none⟩)), Eqv (.agg (cI (cutF f).a).toArray), Eqv (.bool false), Eqv (.bool false), Eqv (.bool false), Eqv (.pointer (some ⟨b11, 0 + 33, none⟩)), Eqv (.agg (cI (cutF f).b).toArray), Eqv (.pointer (some ⟨b5, 0 + 35, none⟩)), Eqv (.agg (cI (cutF f).b).toArray), Eqv (.bool false), Eqv (.bool false), Eqv (.bool false), Eqv (.bool true), Eqv (.pointer (some ⟨b9, 0 + 1, none⟩)), Eqv (.bool false), Eqv (.bool false), Eqv (.bool false)] Ty.mixed rfl rfl rfl (by kernel_rfl) rfl rfl (fun w w' hw hb => hw.step hb) ⟨fun _ _ _ h _ => h, fun _ _ _ h _ => h, fun _ _ _ h _ => h, fun _ _ _ h _ => h, fun _ _ _ h _ => h, fun _ _ _ h _ => h, fun _ _ _ h _ => h, fun _ _ _ h _ => h, fun _ _ _ h _ => h, fun _ _ _ h _ => h, fun _ _ _ h _ => h, fun _ _ _ h _ => h, fun _ _ _ h _ => h, fun _ _ _ h _ => h, fun _ _ _ h _ => h, fun _ _ _ h _ => h, fun _ _ _ h _ => h, fun _ _ _ h _ => h, fun _ _ _ h _ => h, fun _ _ _ h _ => h, fun _ _ _ h _ => h, fun _ _ _ h _ => h, fun _ _ _ h _ => h, fun _ _ _ h _ => h, fun _ _ _ h _ => h, fun _ _ _ h _ => h, fun _ _ _ h _ => h, fun _ _ _ h _ => h, fun _ _ _ h _ => h, fun _ _ _ h _ => h, fun _ _ _ h _ => h, fun _ _ _ h _ => h, fun _ _ _ h _ => h, fun _ _ _ h _ => h, fun _ _ _ h _ => h, fun _ _ _ h _ => h, fun _ _ _ h _ => h, fun _ _ _ h _ => h, fun _ _ _ h _ => h, trivial⟩ ?hstep ?htail
          case hstep =>
            refine ⟨fun wi => ?_, fun wi => ?_, fun wi => ?_, fun wi => ?_, fun wi => ?_, fun wi => ?_, fun wi => ?_, fun wi => ?_, fun wi => ?_, fun wi => ?_, fun wi => ?_, fun wi => ?_, fun wi => ?_, fun wi => ?_, fun wi => ?_, fun wi => ?_, fun wi => ?_, fun wi => ?_, fun wi => ?_, fun wi => ?_, fun wi => ?_, fun wi => ?_, fun wi => ?_, fun wi => ?_, fun wi => ?_, fun wi => ?_, fun wi => ?_, fun wi => ?_, fun wi => ?_, fun wi => ?_, fun wi => ?_, fun wi => ?_, fun wi => ?_, fun wi => ?_, fun wi => ?_, fun wi => ?_, fun wi => ?_, fun wi => ?_, fun wi => ?_, trivial⟩
            · skip
              refine Fin.nil ?_
              refine J.move rfl rfl ?_
              exact J.finP rfl
            · skip
              refine Fin.consE rfl (Fin.nil ?_)
              refine J.not rfl rfl ?_
              exact J.finP rfl
            · skip
              refine Fin.consE rfl (Fin.nil ?_)
              refine J.move rfl rfl ?_
              exact J.finP rfl
            · skip
              refine Fin.consE rfl (Fin.nil ?_)
              first | refine J.skip rfl rfl rfl rfl rfl ?_ | refine J.skipU rfl rfl rfl rfl ?_ | (refine J.unguard rfl rfl rfl ?_; refine J.move rfl rfl ?_)
              exact J.finP rfl
            · skip
              refine Fin.consE rfl (Fin.consE rfl (Fin.consE rfl (Fin.nil ?_)))
              refine J.unguard rfl rfl rfl ?_
              refine J.callD (v := .int .i64 ((L2.length : Nat) : Int)) Ty.bd20 rfl rfl (fun w1 hw => len_spec t1 m1 mo L2 es2 ck2 w1 (St.owns (l1 := [(t1, tabO mo m1), (m1, .map es2 ck2)]) (hw.perm (l' := [(t1, tabO mo m1), (m1, .map es2 ck2)] ++ ((b11, cb (cE (⟨(cutF f).p, (cutF f).a, (cutF f).b, fr, nx⟩ : EV)) 34) :: (b9, cb (cD (.slice (some ⟨hz, 0, none⟩) 1 1) false false) 37) :: (b5, cb (cFG (cutF f) ⟨.slice at1 (cutF f).tr.length ct1, .slice ai1 (cutF f).ids.length ci1, .slice av1 (cutF f).val.length cv1, .slice ax1 (cutF f).txt.length cx1⟩) 52) :: (b3, cb ([.slice ae xs.length ce, iV most] ++ cW n me ++ [.slice ao os.length co_]) 85) :: (rt, rtabO (.slice ar (ordE L).length cr) mo) :: (lr ++ ((hz, cb (cH nx (cF 4 (cutF f).p (cutF f).a (cutF f).b (.slice az (cutF f).tr.length cz1))) 54) :: lz1)))) (by (refine perm_cnt (fun _ => ?_)); simp only [cntB_append, cntB_cons, cntB_nil, Nat.add_zero, Nat.zero_add]; try ac_rfl))) hT2) ?_
              exact J.finQ rfl
            · skip
              refine Fin.consE rfl (Fin.nil ?_)
              first | refine J.skip rfl rfl rfl rfl rfl ?_ | refine J.skipU rfl rfl rfl rfl ?_ | (refine J.unguard rfl rfl rfl ?_; refine J.move rfl rfl ?_)
              exact J.finP rfl
            · skip
              refine Fin.consE rfl (Fin.consE rfl (Fin.nil ?_))
              first | refine J.skip rfl rfl rfl rfl rfl ?_ | refine J.skipU rfl rfl rfl rfl ?_ | (refine J.unguard rfl rfl rfl ?_; refine J.nilCheck rfl rfl ?_)
              exact J.finP rfl
            · skip
              refine Fin.consE rfl (Fin.consE rfl (Fin.nil ?_))
              first | refine J.skip rfl rfl rfl rfl rfl ?_ | refine J.skipU rfl rfl rfl rfl ?_ | (refine J.unguard rfl rfl rfl ?_; refine J.fieldAddr Ty.fd82_0 rfl rfl ?_)
              exact J.finP rfl
            · skip
              refine Fin.consE rfl (Fin.consE rfl (Fin.nil ?_))
              refine J.unguard rfl rfl rfl ?_
              refine J.load1 (v := .slice ar (ordE L).length cr) Ty.a62 rfl (fun w1 hw => by rw [cell_of (hw.2.own _ (.tail _ (.tail _ (.tail _ (.tail _ (.tail _ (.tail _ (.head _))))))))]; rfl) rfl ?_
              exact J.finP rfl
            · skip
              refine Fin.consE rfl (Fin.consE rfl (Fin.nil ?_))
              first | refine J.skip rfl rfl rfl rfl rfl ?_ | refine J.skipU rfl rfl rfl rfl ?_ | (refine J.unguard rfl rfl rfl ?_; refine J.lenS rfl Ty.u62 rfl rfl ?_)
              exact J.finP rfl
            · skip
              refine Fin.consE rfl (Fin.consE rfl (Fin.nil ?_))
              refine J.unguard rfl rfl rfl ?_
              refine J.addN rfl rfl (by omega) (by omega) rfl ?_
              exact J.finP rfl
            · skip
              refine Fin.consE rfl (Fin.consE rfl (Fin.consE rfl (Fin.nil ?_)))
              refine J.unguard rfl rfl rfl ?_
              refine J.bin rfl rfl rfl rfl ?_
              refine J.name 94 rfl (show Value.bool _ = .bool false by simp; omega) ?_
              exact J.finP rfl
            · skip
              refine Fin.consE rfl (Fin.consE rfl (Fin.nil ?_))
              (first | refine J.pickT rfl rfl rfl ?_ | refine J.pickF rfl rfl rfl ?_)
              exact J.finP rfl
            · skip
              refine Fin.consE rfl (Fin.consE rfl (Fin.nil ?_))
              refine J.move rfl rfl ?_
              exact J.finP rfl
            · skip
              refine Fin.consE rfl (Fin.nil ?_)
              first | refine J.skip rfl rfl rfl rfl rfl ?_ | refine J.skipU rfl rfl rfl rfl ?_ | (refine J.unguard rfl rfl rfl ?_; refine J.fieldAddr Ty.fd34_3 rfl rfl ?_)
              exact J.finP rfl
            · skip
              refine Fin.consE rfl (Fin.consE rfl (Fin.nil ?_))
              refine J.unguard rfl rfl rfl ?_
              refine J.load1 (v := iV fr) Ty.a3 rfl (fun w1 hw => by rw [cell_of (hw.2.own _ (.head _))]; rfl) rfl ?_
              exact J.finP rfl
            · skip
              refine Fin.consE rfl (Fin.nil ?_)
              first | refine J.skip rfl rfl rfl rfl rfl ?_ | refine J.skipU rfl rfl rfl rfl ?_ | (refine J.unguard rfl rfl rfl ?_; refine J.move rfl rfl ?_)
              exact J.finP rfl
            · skip
              refine Fin.consE rfl (Fin.consE rfl (Fin.consE rfl (Fin.nil ?_)))
              refine J.unguard rfl rfl rfl ?_
              refine J.bin rfl rfl rfl rfl ?_
              refine J.name 100 rfl (show Value.bool _ = .bool false by simp) ?_
              exact J.finP rfl
            · skip
              refine Fin.consE rfl (Fin.consE rfl (Fin.nil ?_))
              (first | refine J.pickT rfl rfl rfl ?_ | refine J.pickF rfl rfl rfl ?_)
              exact J.finP rfl
            · skip
              refine Fin.consE rfl (Fin.consE rfl (Fin.nil ?_))
              refine J.move rfl rfl ?_
              exact J.finP rfl
            · skip
              refine Fin.consE rfl (Fin.nil ?_)
              first | refine J.skip rfl rfl rfl rfl rfl ?_ | refine J.skipU rfl rfl rfl rfl ?_ | (refine J.unguard rfl rfl rfl ?_; refine J.fieldAddr Ty.fd34_1 rfl rfl ?_)
              exact J.finP rfl
            · skip
              refine Fin.consE rfl (Fin.consE rfl (Fin.nil ?_))
              refine J.unguard rfl rfl rfl ?_
              refine J.loadA (vs := cI (cutF f).a) Ty.a23 Ty.s23 rfl rfl (fun w1 hw => Cells.of_block (hw.2.own _ (.head _)) rfl) rfl ?_
              exact J.finP rfl
            · skip
              refine Fin.consE rfl (Fin.nil ?_)
              first | refine J.skip rfl rfl rfl rfl rfl ?_ | refine J.skipU rfl rfl rfl rfl ?_ | (refine J.unguard rfl rfl rfl ?_; refine J.fieldAddr Ty.fd52_3 rfl rfl ?_)
              exact J.finP rfl
            · skip
              refine Fin.consE rfl (Fin.consE rfl (Fin.nil ?_))
              refine J.unguard rfl rfl rfl ?_
              refine J.loadA (vs := cI (cutF f).a) Ty.a23 Ty.s23 rfl rfl (fun w1 hw => Cells.of_block (hw.2.own _ (.tail _ (.tail _ (.tail _ (.tail _ (.head _)))))) rfl) rfl ?_
              exact J.finP rfl
            · skip
              refine Fin.consE rfl (Fin.consE rfl (Fin.consE rfl (Fin.nil ?_)))
              refine J.unguard rfl rfl rfl ?_
              refine J.neI Ty.QI Ty.keyI rfl rfl rfl ?_
              refine J.name 107 rfl (show Value.bool _ = .bool false by simp) ?_
              exact J.finP rfl
            · skip
              refine Fin.consE rfl (Fin.consE rfl (Fin.nil ?_))
              (first | refine J.pickT rfl rfl rfl ?_ | refine J.pickF rfl rfl rfl ?_)
              exact J.finP rfl
            · skip
              refine Fin.consE rfl (Fin.consE rfl (Fin.nil ?_))
              refine J.move rfl rfl ?_
              exact J.finP rfl
            · skip
              refine Fin.consE rfl (Fin.nil ?_)
              first | refine J.skip rfl rfl rfl rfl rfl ?_ | refine J.skipU rfl rfl rfl rfl ?_ | (refine J.unguard rfl rfl rfl ?_; refine J.fieldAddr Ty.fd34_2 rfl rfl ?_)
              exact J.finP rfl
            · skip
              refine Fin.consE rfl (Fin.consE rfl (Fin.nil ?_))
              refine J.unguard rfl rfl rfl ?_
              refine J.loadA (vs := cI (cutF f).b) Ty.a23 Ty.s23 rfl rfl (fun w1 hw => Cells.of_block (hw.2.own _ (.head _)) rfl) rfl ?_
              exact J.finP rfl
            · skip
              refine Fin.consE rfl (Fin.nil ?_)
              first | refine J.skip rfl rfl rfl rfl rfl ?_ | refine J.skipU rfl rfl rfl rfl ?_ | (refine J.unguard rfl rfl rfl ?_; refine J.fieldAddr Ty.fd52_4 rfl rfl ?_)
              exact J.finP rfl
            · skip
              refine Fin.consE rfl (Fin.consE rfl (Fin.nil ?_))
              refine J.unguard rfl rfl rfl ?_
              refine J.loadA (vs := cI (cutF f).b) Ty.a23 Ty.s23 rfl rfl (fun w1 hw => Cells.of_block (hw.2.own _ (.tail _ (.tail _ (.tail _ (.tail _ (.head _)))))) rfl) rfl ?_
              exact J.finP rfl
            · skip
              refine Fin.consE rfl (Fin.consE rfl (Fin.consE rfl (Fin.nil ?_)))
              refine J.unguard rfl rfl rfl ?_
              refine J.neI Ty.QI Ty.keyI rfl rfl rfl ?_
              refine J.name 114 rfl (show Value.bool _ = .bool false by simp) ?_
              exact J.finP rfl
            · skip
              refine Fin.consE rfl (Fin.consE rfl (Fin.nil ?_))
              (first | refine J.pickT rfl rfl rfl ?_ | refine J.pickF rfl rfl rfl ?_)
              exact J.finP rfl
            · skip
              refine Fin.consE rfl (Fin.consE rfl (Fin.nil ?_))
              refine J.move rfl rfl ?_
              exact J.finP rfl
            · skip
              refine Fin.consE rfl (Fin.nil ?_)
              first | refine J.skip rfl rfl rfl rfl rfl ?_ | refine J.skipU rfl rfl rfl rfl ?_ | (refine J.unguard rfl rfl rfl ?_; refine J.move rfl rfl ?_)
              exact J.finP rfl
            · skip
              refine Fin.consE rfl (Fin.nil ?_)
              first | refine J.skip rfl rfl rfl rfl rfl ?_ | refine J.skipU rfl rfl rfl rfl ?_ | (refine J.unguard rfl rfl rfl ?_; refine J.fieldAddr Ty.fd37_1 rfl rfl ?_)
              exact J.finP rfl
            · skip
              refine Fin.consE rfl (Fin.consE rfl (Fin.nil ?_))
              refine J.unguard rfl rfl rfl ?_
              refine J.load1 (v := .bool false) Ty.a4 rfl (fun w1 hw => by rw [cell_of (hw.2.own _ (.tail _ (.head _)))]; rfl) rfl ?_
              exact J.finP rfl
            · skip
              refine Fin.consE rfl (Fin.consE rfl (Fin.consE rfl (Fin.nil ?_)))
              refine J.unguard rfl rfl rfl ?_
              refine J.eqBool (.inl rfl) Ty.u4 rfl rfl rfl ?_
              refine J.name 120 rfl (show _ = Value.bool false by simp) ?_
              exact J.finP rfl
            · skip
              refine Fin.consE rfl (Fin.consE rfl (Fin.nil ?_))
              (first | refine J.pickT rfl rfl rfl ?_ | refine J.pickF rfl rfl rfl ?_)
              exact J.finP rfl
          case htail =>
            refine Fin.consE rfl (Fin.consE rfl (Fin.consE rfl (Fin.consE rfl (Fin.consE rfl (Fin.consE rfl (Fin.consE rfl (Fin.consE rfl (Fin.consE rfl (Fin.consE rfl (Fin.consE rfl (Fin.consE rfl (Fin.consE rfl (Fin.consE rfl (Fin.consE rfl (Fin.consE rfl (Fin.consE rfl (Fin.consE rfl (Fin.consE rfl (Fin.consE rfl (Fin.consE rfl (Fin.consE rfl (Fin.consE rfl (Fin.consE rfl (Fin.consE rfl (Fin.consE rfl (Fin.consE rfl (Fin.consE rfl (Fin.consE rfl (Fin.consE rfl (Fin.consE rfl (Fin.consE rfl (Fin.consE rfl (Fin.consE rfl (Fin.consE rfl (Fin.consE rfl (Fin.consE rfl (Fin.consE rfl (Fin.consE rfl (Fin.nil ?_)))))))))))))))))))))))))))))))))))))))
            refine J.nil ?_
            refine JX.thenN (hK26 _ _ ?_)
            first | refine JC.condF rfl ?_ | refine JC.cond rfl (fun h => by first | (exfalso; simp at h; omega) | (simp at h)) (fun _ => ?_)
            refine JC.skip ?_
            refine JX.thenN (hK25 _ _ ?_)
            refine JC.seq (fun K27 hK27 => ?_)
            apply JC.drawL 28 [Eqv (.bool true), Eqv (.bool true), Eqv (.pointer (some ⟨b11, 0 + 50, none⟩)), Eqv (iV nx), Eqv (.pointer (some ⟨b9, 0 + 0, none⟩)), Eqv (.slice (some ⟨hz, 0, none⟩) 1 1), Eqv (.pointer (some ⟨hz, 0 + (0 : Int).toNat * 96, none⟩)), Eqv (.pointer (some ⟨hz, 0 + (0 : Int).toNat * 96 + 0, none⟩)), Eqv (iV nx), Eqv (.bool true), Eqv (.bool true), Eqv (.bool true), Eqv (undef), Eqv (undef), Eqv (undef), Eqv (undef), Eqv (undef), Eqv (undef), Eqv (undef), Eqv (undef), Eqv (undef), Eqv (undef), Eqv (undef), Eqv (undef), Eqv (undef), Eqv (undef), Eqv (undef), Eqv (.bool true)] Ty.mixed rfl rfl rfl (by kernel_rfl) rfl rfl (fun w w' hw hb => hw.step hb) ⟨fun _ _ _ h _ => h, fun _ _ _ h _ => h, fun _ _ _ h _ => h, fun _ _ _ h _ => h, fun _ _ _ h _ => h, fun _ _ _ h _ => h, fun _ _ _ h _ => h, fun _ _ _ h _ => h, fun _ _ _ h _ => h, fun _ _ _ h _ => h, fun _ _ _ h _ => h, fun _ _ _ h _ => h, fun _ _ _ h _ => h, fun _ _ _ h _ => h, fun _ _ _ h _ => h, fun _ _ _ h _ => h, fun _ _ _ h _ => h, fun _ _ _ h _ => h, fun _ _ _ h _ => h, fun _ _ _ h _ => h, fun _ _ _ h _ => h, fun _ _ _ h _ => h, fun _ _ _ h _ => h, fun _ _ _ h _ => h, fun _ _ _ h _ => h, fun _ _ _ h _ => h, fun _ _ _ h _ => h, fun _ _ _ h _ => h, trivial⟩ ?hstep ?htail
            case hstep =>
              refine ⟨fun wi => ?_, fun wi => ?_, fun wi => ?_, fun wi => ?_, fun wi => ?_, fun wi => ?_, fun wi => ?_, fun wi => ?_, fun wi => ?_, fun wi => ?_, fun wi => ?_, fun wi => ?_, fun wi => ?_, fun wi => ?_, fun wi => ?_, fun wi => ?_, fun wi => ?_, fun wi => ?_, fun wi => ?_, fun wi => ?_, fun wi => ?_, fun wi => ?_, fun wi => ?_, fun wi => ?_, fun wi => ?_, fun wi => ?_, fun wi => ?_, fun wi => ?_, trivial⟩
              · skip
                refine Fin.nil ?_
                refine J.move rfl rfl ?_
                exact J.finP rfl
              · skip
                refine Fin.consE rfl (Fin.nil ?_)
                refine J.move rfl rfl ?_
                exact J.finP rfl
              · skip
                refine Fin.consE rfl (Fin.nil ?_)
                first | refine J.skip rfl rfl rfl rfl rfl ?_ | refine J.skipU rfl rfl rfl rfl ?_ | (refine J.unguard rfl rfl rfl ?_; refine J.fieldAddr Ty.fd34_4 rfl rfl ?_)
                exact J.finP rfl
              · skip
                refine Fin.consE rfl (Fin.consE rfl (Fin.nil ?_))
                refine J.unguard rfl rfl rfl ?_
                refine J.load1 (v := iV nx) Ty.a3 rfl (fun w1 hw => by rw [cell_of (hw.2.own _ (.head _))]; rfl) rfl ?_
                exact J.finP rfl
              · skip
                refine Fin.consE rfl (Fin.nil ?_)
                first | refine J.skip rfl rfl rfl rfl rfl ?_ | refine J.skipU rfl rfl rfl rfl ?_ | (refine J.unguard rfl rfl rfl ?_; refine J.fieldAddr Ty.fd37_0 rfl rfl ?_)
                exact J.finP rfl
              · skip
                refine Fin.consE rfl (Fin.consE rfl (Fin.nil ?_))
                refine J.unguard rfl rfl rfl ?_
                refine J.load1 (v := .slice (some ⟨hz, 0, none⟩) 1 1) Ty.a35 rfl (fun w1 hw => by rw [cell_of (hw.2.own _ (.tail _ (.head _)))]; rfl) rfl ?_
                exact J.finP rfl
              · skip
                refine Fin.consE rfl (Fin.consE rfl (Fin.nil ?_))
                refine J.unguard rfl rfl rfl ?_
                refine J.indexAddrS Ty.el35 Ty.s54 rfl rfl (by omega) (by omega) rfl ?_
                exact J.finP rfl
              · skip
                refine Fin.consE rfl (Fin.consE rfl (Fin.nil ?_))
                first | refine J.skip rfl rfl rfl rfl rfl ?_ | refine J.skipU rfl rfl rfl rfl ?_ | (refine J.unguard rfl rfl rfl ?_; refine J.fieldAddr Ty.fd54_0 rfl rfl ?_)
                exact J.finP rfl
              · skip
                refine Fin.consE rfl (Fin.consE rfl (Fin.nil ?_))
                refine J.unguard rfl rfl rfl ?_
                refine J.load1 (v := iV nx) Ty.a3 rfl (fun w1 hw => by rw [cell_of (hw.2.own (_, cb (cH nx (cF 4 (cutF f).p (cutF f).a (cutF f).b (.slice az (cutF f).tr.length cz1))) 54) (by simp))]; rfl) rfl ?_
                exact J.finP rfl
              · skip
                refine Fin.consE rfl (Fin.consE rfl (Fin.consE rfl (Fin.nil ?_)))
                refine J.unguard rfl rfl rfl ?_
                refine J.bin rfl rfl rfl rfl ?_
                refine J.name 131 rfl (show Value.bool _ = .bool true by simp) ?_
                exact J.finP rfl
              · skip
                refine Fin.consE rfl (Fin.consE rfl (Fin.nil ?_))
                (first | refine J.pickT rfl rfl rfl ?_ | refine J.pickF rfl rfl rfl ?_)
                exact J.finP rfl
              · skip
                refine Fin.consE rfl (Fin.consE rfl (Fin.nil ?_))
                refine J.move rfl rfl ?_
                exact J.finP rfl
              · skip
                refine Fin.consE rfl (Fin.nil ?_)
                first | refine J.skip rfl rfl rfl rfl rfl ?_ | refine J.skipU rfl rfl rfl rfl ?_ | (refine J.unguard rfl rfl rfl ?_; refine J.fieldAddr Ty.fd37_1 rfl rfl ?_)
                exact J.finP rfl
              · skip
                refine Fin.consE rfl (Fin.consE rfl (Fin.nil ?_))
                first | refine J.skip rfl rfl rfl rfl rfl ?_ | refine J.skipU rfl rfl rfl rfl ?_ | (refine J.unguard rfl rfl rfl ?_; refine J.load1 Ty.a4 rfl (fun w hw => (cell_of (hw.2.own (_, _) (by repeat first | exact .head _ | apply List.Mem.tail | apply List.mem_append_right))).trans (by exact rfl)) rfl ?_)
                exact J.finP rfl
              · skip
                refine Fin.consE rfl (Fin.consE rfl (Fin.consE rfl (Fin.nil ?_)))
                first | refine J.skip rfl rfl rfl rfl rfl ?_ | refine J.skipU rfl rfl rfl rfl ?_ | (refine J.unguard rfl rfl rfl ?_; refine J.move rfl rfl ?_)
                exact J.finP rfl
              · skip
                refine Fin.consE rfl (Fin.nil ?_)
                first | refine J.skip rfl rfl rfl rfl rfl ?_ | refine J.skipU rfl rfl rfl rfl ?_ | (refine J.unguard rfl rfl rfl ?_; refine J.fieldAddr Ty.fd34_4 rfl rfl ?_)
                exact J.finP rfl
              · skip
                refine Fin.consE rfl (Fin.consE rfl (Fin.nil ?_))
                first | refine J.skip rfl rfl rfl rfl rfl ?_ | refine J.skipU rfl rfl rfl rfl ?_ | (refine J.unguard rfl rfl rfl ?_; refine J.load1 Ty.a3 rfl (fun w hw => (cell_of (hw.2.own (_, _) (by repeat first | exact .head _ | apply List.Mem.tail | apply List.mem_append_right))).trans (by exact rfl)) rfl ?_)
                exact J.finP rfl
              · skip
                refine Fin.consE rfl (Fin.consE rfl (Fin.nil ?_))
                first | refine J.skip rfl rfl rfl rfl rfl ?_ | refine J.skipU rfl rfl rfl rfl ?_ | (refine J.unguard rfl rfl rfl ?_; refine J.bin rfl rfl rfl rfl ?_)
                exact J.finP rfl
              · skip
                refine Fin.consE rfl (Fin.consE rfl (Fin.consE rfl (Fin.nil ?_)))
                first | refine J.skip rfl rfl rfl rfl rfl ?_ | refine J.skipU rfl rfl rfl rfl ?_ | (refine J.unguard rfl rfl rfl ?_; (first | refine J.pickT rfl rfl rfl ?_ | refine J.pickF rfl rfl rfl ?_))
                exact J.finP rfl
              · skip
                refine Fin.consE rfl (Fin.consE rfl (Fin.consE rfl (Fin.nil ?_)))
                first | refine J.skip rfl rfl rfl rfl rfl ?_ | refine J.skipU rfl rfl rfl rfl ?_ | (refine J.unguard rfl rfl rfl ?_; refine J.move rfl rfl ?_)
                exact J.finP rfl
              · skip
                refine Fin.consE rfl (Fin.nil ?_)
                first | refine J.skip rfl rfl rfl rfl rfl ?_ | refine J.skipU rfl rfl rfl rfl ?_ | (refine J.unguard rfl rfl rfl ?_; refine J.fieldAddr Ty.fd52_4 rfl rfl ?_)
                exact J.finP rfl
              · skip
                refine Fin.consE rfl (Fin.consE rfl (Fin.nil ?_))
                first | refine J.skip rfl rfl rfl rfl rfl ?_ | refine J.skipU rfl rfl rfl rfl ?_ | (refine J.unguard rfl rfl rfl ?_; refine J.loadOA Ty.a23 Ty.s23 rfl (by repeat first | exact .head _ | apply List.Mem.tail | apply List.mem_append_right) (by exact rfl) rfl rfl ?_)
                exact J.finP rfl
              · skip
                refine Fin.consE rfl (Fin.nil ?_)
                first | refine J.skip rfl rfl rfl rfl rfl ?_ | refine J.skipU rfl rfl rfl rfl ?_ | (refine J.unguard rfl rfl rfl ?_; refine J.fieldAddr Ty.fd85_2 rfl rfl ?_)
                exact J.finP rfl
              · skip
                refine Fin.consE rfl (Fin.consE rfl (Fin.nil ?_))
                first | refine J.skip rfl rfl rfl rfl rfl ?_ | refine J.skipU rfl rfl rfl rfl ?_ | (refine J.unguard rfl rfl rfl ?_; refine J.fieldAddr Ty.fd41_1 rfl rfl ?_)
                exact J.finP rfl
              · skip
                refine Fin.consE rfl (Fin.consE rfl (Fin.nil ?_))
                first | refine J.skip rfl rfl rfl rfl rfl ?_ | refine J.skipU rfl rfl rfl rfl ?_ | (refine J.unguard rfl rfl rfl ?_; refine J.loadOA Ty.a23 Ty.s23 rfl (by repeat first | exact .head _ | apply List.Mem.tail | apply List.mem_append_right) (by exact rfl) rfl rfl ?_)
                exact J.finP rfl
              · skip
                refine Fin.consE rfl (Fin.consE rfl (Fin.consE rfl (Fin.nil ?_)))
                first | refine J.skip rfl rfl rfl rfl rfl ?_ | refine J.skipU rfl rfl rfl rfl ?_ | (refine J.unguard rfl rfl rfl ?_; refine J.eqI Ty.QI Ty.keyI rfl rfl rfl ?_)
                exact J.finP rfl
              · skip
                refine Fin.consE rfl (Fin.consE rfl (Fin.consE rfl (Fin.nil ?_)))
                first | refine J.skip rfl rfl rfl rfl rfl ?_ | refine J.skipU rfl rfl rfl rfl ?_ | (refine J.unguard rfl rfl rfl ?_; (first | refine J.pickT rfl rfl rfl ?_ | refine J.pickF rfl rfl rfl ?_))
                exact J.finP rfl
              · skip
                refine Fin.consE rfl (Fin.consE rfl (Fin.nil ?_))
                (first | refine J.pickT rfl rfl rfl ?_ | refine J.pickF rfl rfl rfl ?_)
                exact J.finP rfl
            case htail =>
              refine Fin.consE rfl (Fin.consE rfl (Fin.consE rfl (Fin.consE rfl (Fin.consE rfl (Fin.consE rfl (Fin.consE rfl (Fin.consE rfl (Fin.consE rfl (Fin.consE rfl (Fin.consE rfl (Fin.consE rfl (Fin.consE rfl (Fin.consE rfl (Fin.consE rfl (Fin.consE rfl (Fin.consE rfl (Fin.consE rfl (Fin.consE rfl (Fin.consE rfl (Fin.consE rfl (Fin.consE rfl (Fin.consE rfl (Fin.consE rfl (Fin.consE rfl (Fin.consE rfl (Fin.consE rfl (Fin.consE rfl (Fin.nil ?_))))))))))))))))))))))))))))
              refine J.assign rfl rfl ?_
              refine J.nil ?_
              refine JX.thenN (hK27 _ _ ?_)
              refine JC.ret ?_
              refine JX.ret1 rfl rfl (fun w hw => ?_)
              exact ⟨rfl, (hw.drop (List.nil_sublist _)).below⟩
      · skip
        refine JC.region ?_
        refine J.move rfl rfl ?_
        refine J.fieldAddr Ty.fd85_2 rfl rfl ?_
        refine J.loadOA (vs := cW n me) Ty.a41 Ty.s41 rfl (.tail _ (.tail _ (.tail _ (.head _)))) rfl rfl rfl ?_
        refine J.move rfl rfl ?_
        refine J.loadOA (vs := cFG (cutF f) ⟨.slice at1 (cutF f).tr.length ct1, .slice ai1 (cutF f).ids.length ci1, .slice av1 (cutF f).val.length cv1, .slice ax1 (cutF f).txt.length cx1⟩) Ty.a52 Ty.s52 rfl (.tail _ (.tail _ (.head _))) rfl rfl rfl ?_
        refine J.fieldAddr Ty.fd85_3 rfl rfl ?_
        refine J.loadO (v := .slice ao os.length co_) Ty.a28 rfl (.tail _ (.tail _ (.tail _ (.head _)))) rfl rfl ?_
        refine J.perm ([(t1, tabO mo m1), (m1, .map es ck)] ++ ((b5, cb (cFG (cutF f) ⟨.slice at1 (cutF f).tr.length ct1, .slice ai1 (cutF f).ids.length ci1, .slice av1 (cutF f).val.length cv1, .slice ax1 (cutF f).txt.length cx1⟩) 52) :: (b3, cb ([.slice ae xs.length ce, iV most] ++ cW n me ++ [.slice ao os.length co_]) 85) :: (rt, rtabO (.slice ar (ordE L).length cr) mo) :: lr)) (.refl _) ?_
        refine J.callS (α := Nat × Array MapEntry × Nat) (V := fun x => .agg (cD (.slice (some ⟨x.1, 0, none⟩) 1 1) false (e == 5)).toArray) (Pr := fun x => Tab L2 x.2.1 x.2.2) (L := fun x => (x.1, cb (cH fr (cF 5 (cutF f).p zI zI nilV)) 54) :: [(t1, tabO mo m1), (m1, .map x.2.1 x.2.2)]) (l1 := [(t1, tabO mo m1), (m1, .map es ck)]) Ty.bd19 rfl rfl (fun w1 hw => gtake_fullQ t1 m1 mo L es ck n fr me (cutF f) ⟨.slice at1 (cutF f).tr.length ct1, .slice ai1 (cutF f).ids.length ci1, .slice av1 (cutF f).val.length cv1, .slice ax1 (cutF f).txt.length cx1⟩ _ os w1 (rows_cut (hs.below (hw.drop (List.nil_sublist _)).below)) ⟨((rows_cut hs).tr.offNew hw (fun x hx => List.mem_append_left _ hx)), (hs.ids.offNew hw (fun x hx => List.mem_append_left _ hx)), (hs.val.offNew hw (fun x hx => List.mem_append_left _ hx)), (hs.txt.offNew hw (fun x hx => List.mem_append_left _ hx))⟩ hg1 (by omega) hk hf1.p hfr i hi hi2 hat hfrom hnd (hro.below (hw.drop (List.nil_sublist _)).below) (hro.offNew hw (fun x hx => List.mem_append_left _ hx)) (by omega) hw.owns hT hgo hadd he) (fun y hy9 => ?_)
        obtain ⟨hz, es2, ck2⟩ := y
        simp only [List.cons_append, List.nil_append] at hy9 ⊢
        have hT2 := hy9
        rw [tadd_no hadd he] at hT2
        refine J.perm ((t1, tabO mo m1) :: (m1, .map es2 ck2) :: (b5, cb (cFG (cutF f) ⟨.slice at1 (cutF f).tr.length ct1, .slice ai1 (cutF f).ids.length ci1, .slice av1 (cutF f).val.length cv1, .slice ax1 (cutF f).txt.length cx1⟩) 52) :: (b3, cb ([.slice ae xs.length ce, iV most] ++ cW n me ++ [.slice ao os.length co_]) 85) :: (rt, rtabO (.slice ar (ordE L).length cr) mo) :: (lr ++ [(hz, cb (cH fr (cF 5 (cutF f).p zI zI nilV)) 54)])) (by (refine perm_cnt (fun _ => ?_)); simp only [cntB_append, cntB_cons, cntB_nil, Nat.add_zero, Nat.zero_add]; try ac_rfl) ?_
        refine J.alloc zN rfl rfl (fun b9 => ?_)
        refine J.storeW (cs := cD nilV false false) (vs := cD (.slice (some ⟨hz, 0, none⟩) 1 1) false (e == 5)) Ty.s37 rfl rfl rfl rfl rfl (by simp [Value.oneCell']) .here ?_
        refine J.perm ((b9, cb (cD (.slice (some ⟨hz, 0, none⟩) 1 1) false (e == 5)) 37) :: (t1, tabO mo m1) :: (m1, .map es2 ck2) :: (b5, cb (cFG (cutF f) ⟨.slice at1 (cutF f).tr.length ct1, .slice ai1 (cutF f).ids.length ci1, .slice av1 (cutF f).val.length cv1, .slice ax1 (cutF f).txt.length cx1⟩) 52) :: (b3, cb ([.slice ae xs.length ce, iV most] ++ cW n me ++ [.slice ao os.length co_]) 85) :: (rt, rtabO (.slice ar (ordE L).length cr) mo) :: (lr ++ [(hz, cb (cH fr (cF 5 (cutF f).p zI zI nilV)) 54)])) (.refl _) ?_
        refine J.nil ?_
        refine JX.thenN (hK5 _ _ ?_)
        refine JC.seq (fun K28 hK28 => ?_)
        refine JC.region ?_
        refine J.fieldAddr Ty.fd37_0 rfl rfl ?_
        refine J.loadO (v := .slice (some ⟨hz, 0, none⟩) 1 1) Ty.a35 rfl (.head _) rfl rfl ?_
        refine J.lenS rfl Ty.u35 rfl rfl ?_
        refine J.bin rfl rfl rfl rfl ?_
        refine J.name 46 rfl (show Value.bool _ = .bool true by simp) ?_
        refine J.move rfl rfl ?_
        first | refine J.skip rfl rfl rfl rfl rfl ?_ | refine J.skipU rfl rfl rfl rfl ?_ | (refine J.unguard rfl rfl rfl ?_; refine J.fieldAddr Ty.fd37_0 rfl rfl ?_)
        refine J.unguard rfl rfl rfl ?_
        refine J.loadO (v := .slice (some ⟨hz, 0, none⟩) 1 1) Ty.a35 rfl (.head _) rfl rfl ?_
        refine J.unguard rfl rfl rfl ?_
        refine J.indexAddrS Ty.el35 Ty.s54 rfl rfl (by omega) (by omega) rfl ?_
        first | refine J.skip rfl rfl rfl rfl rfl ?_ | refine J.skipU rfl rfl rfl rfl ?_ | (refine J.unguard rfl rfl rfl ?_; refine J.fieldAddr Ty.fd54_1 rfl rfl ?_)
        first | refine J.skip rfl rfl rfl rfl rfl ?_ | refine J.skipU rfl rfl rfl rfl ?_ | (refine J.unguard rfl rfl rfl ?_; refine J.fieldAddr Ty.fd52_0 rfl rfl ?_)
        refine J.unguard rfl rfl rfl ?_
        refine J.load1 (v := iV 5) Ty.a3 rfl (fun w1 hw => by rw [cell_of (hw.own (_, cb (cH fr (cF 5 (cutF f).p zI zI nilV)) 54) (by simp))]; rfl) rfl ?_
        refine J.unguard rfl rfl rfl ?_
        refine J.bin rfl rfl rfl rfl ?_
        refine J.name 54 rfl (show Value.bool _ = .bool false by simp) ?_
        (first | refine J.pickT rfl rfl rfl ?_ | refine J.pickF rfl rfl rfl ?_)
        refine J.assign rfl rfl ?_
        refine J.nil ?_
        refine JX.thenN (hK28 _ _ ?_)
        refine JC.seq (fun K29 hK29 => ?_)
        refine JC.seq (fun K30 hK30 => ?_)
        refine JC.region ?_
        refine J.move rfl rfl ?_
        refine J.not rfl rfl ?_
        refine J.move rfl rfl ?_
        first | refine J.skip rfl rfl rfl rfl rfl ?_ | refine J.skipU rfl rfl rfl rfl ?_ | (refine J.unguard rfl rfl rfl ?_; refine J.fieldAddr Ty.fd37_1 rfl rfl ?_)
        refine J.unguard rfl rfl rfl ?_
        refine J.loadO (v := .bool false) Ty.a4 rfl (.head _) rfl rfl ?_
        first | refine J.skip rfl rfl rfl rfl rfl ?_ | refine J.skipU rfl rfl rfl rfl ?_ | (refine J.unguard rfl rfl rfl ?_; refine J.not rfl rfl ?_)
        (first | refine J.pickT rfl rfl rfl ?_ | refine J.pickF rfl rfl rfl ?_)
        refine J.nil ?_
        refine JX.thenN (hK30 _ _ ?_)
        first | refine JC.condT rfl ?_ | refine JC.cond rfl (fun _ => ?_) (fun h => by first | (exfalso; simp at h; omega) | (simp at h))
        refine JC.seq (fun K31 hK31 => ?_)
        apply JC.drawX (α := Value × List (Nat × Obj)) 13 (fun x => match x with | ⟨vz, lz⟩ => [.pointer (some ⟨t1, 0, none⟩), vz, .pointer (some ⟨rt, 0, none⟩), .pointer (some ⟨rt, 0, none⟩), .pointer (some ⟨rt, 0 + 0, none⟩), .slice ar (ordE L).length cr, .bool true, .bool true, .pointer (some ⟨b9, 0 + 0, none⟩), .slice (some ⟨hz, 0, none⟩) 1 1, .int .i64 ((1 : Nat) : Int), .bool true, .bool true]) (fun m x => match x with | ⟨vz, lz⟩ => fun w1 => (m 1 = true → Vec 34 51 vz ((ordE L)).length (fE ((ordE L))) lz) ∧ St w [] ((b9, cb (cD (.slice (some ⟨hz, 0, none⟩) 1 1) false (e == 5)) 37) :: (t1, tabO mo m1) :: (m1, .map es2 ck2) :: (b5, cb (cFG (cutF f) ⟨.slice at1 (cutF f).tr.length ct1, .slice ai1 (cutF f).ids.length ci1, .slice av1 (cutF f).val.length cv1, .slice ax1 (cutF f).txt.length cx1⟩) 52) :: (b3, cb ([.slice ae xs.length ce, iV most] ++ cW n me ++ [.slice ao os.length co_]) 85) :: (rt, rtabO (.slice ar (ordE L).length cr) mo) :: ((bif m 1 then lz else []) ++ (lr ++ [(hz, cb (cH fr (cF 5 (cutF f).p zI zI nilV)) 54)]))) w1) Ty.mixed rfl rfl rfl (by kernel_rfl) rfl rfl ?hinit ?hstep ?htail
        case hinit => exact fun w1 hw => ⟨(.slice none 0 0, []), fun h => (by cases h), hw.drew⟩
        case hstep =>
          refine ⟨fun m x hm hp => ?_, fun m x hm hp => ?_, fun m x hm hp => ?_, fun m x hm hp => ?_, fun m x hm hp => ?_, fun m x hm hp => ?_, fun m x hm hp => ?_, fun m x hm hp => ?_, fun m x hm hp => ?_, fun m x hm hp => ?_, fun m x hm hp => ?_, fun m x hm hp => ?_, fun m x hm hp => ?_, trivial⟩
          · skip
            obtain ⟨vz, lz⟩ := x
            show J _ _ _ _ _ (_) _
            refine J.pr (fun hF => ?_)
            refine J.move rfl rfl ?_
            exact J.finX rfl (fun _ hw => ⟨⟨vz, lz⟩, rfl, fun _ _ _ => rfl, hF, hw⟩)
          · skip
            obtain ⟨vz, lz⟩ := x
            show J _ _ _ _ _ ((63, .pointer (some ⟨t1, 0, none⟩)) :: _) _
            refine J.pr (fun hF => ?_)
            refine J.conseq (I' := St w [] ((b9, cb (cD (.slice (some ⟨hz, 0, none⟩) 1 1) false (e == 5)) 37) :: (t1, tabO mo m1) :: (m1, .map es2 ck2) :: (b5, cb (cFG (cutF f) ⟨.slice at1 (cutF f).tr.length ct1, .slice ai1 (cutF f).ids.length ci1, .slice av1 (cutF f).val.length cv1, .slice ax1 (cutF f).txt.length cx1⟩) 52) :: (b3, cb ([.slice ae xs.length ce, iV most] ++ cW n me ++ [.slice ao os.length co_]) 85) :: (rt, rtabO (.slice ar (ordE L).length cr) mo) :: (lr ++ [(hz, cb (cH fr (cF 5 (cutF f).p zI zI nilV)) 54)]))) ?_ (fun w1 hw => by simp only [hm, cond_false] at hw; exact hw)
            refine J.perm ([] ++ ((b9, cb (cD (.slice (some ⟨hz, 0, none⟩) 1 1) false (e == 5)) 37) :: (t1, tabO mo m1) :: (m1, .map es2 ck2) :: (b5, cb (cFG (cutF f) ⟨.slice at1 (cutF f).tr.length ct1, .slice ai1 (cutF f).ids.length ci1, .slice av1 (cutF f).val.length cv1, .slice ax1 (cutF f).txt.length cx1⟩) 52) :: (b3, cb ([.slice ae xs.length ce, iV most] ++ cW n me ++ [.slice ao os.length co_]) 85) :: (rt, rtabO (.slice ar (ordE L).length cr) mo) :: (lr ++ [(hz, cb (cH fr (cF 5 (cutF f).p zI zI nilV)) 54)]))) (.refl _) ?_
            refine J.callS (α := Value × List (Nat × Obj)) (V := (·.1)) (Pr := fun x => Vec 34 51 x.1 (ordE L).length (fE (ordE L)) x.2) (L := (·.2)) (l1 := []) Ty.bd25 rfl rfl (fun w1 hw => all_spec t1 m1 mo (L) es2 ck2 w1 (hw.own _ (.tail _ (.head _))) (hw.own _ (.tail _ (.tail _ (.head _)))) hT2 (by omega)) (fun x hvn => ?_)
            obtain ⟨vn, ln⟩ := x
            simp only at hvn ⊢
            refine J.nil (JX.finB rfl (fun w1 hw => ⟨⟨⟨vn, ln⟩, rfl, fun j h1 h2 => ?_, ?_⟩, trivial⟩))
            · match j, h1 with
              | 0, _ => (first | rfl | trivial)
              | 1, _ => exact absurd (h2.symm.trans hm) (by decide)
              | 2, _ => (first | rfl | trivial)
              | 3, _ => (first | rfl | trivial)
              | 4, _ => (first | rfl | trivial)
              | 5, _ => (first | rfl | trivial)
              | 6, _ => (first | rfl | trivial)
              | 7, _ => (first | rfl | trivial)
              | 8, _ => (first | rfl | trivial)
              | 9, _ => (first | rfl | trivial)
              | 10, _ => (first | rfl | trivial)
              | 11, _ => (first | rfl | trivial)
              | 12, _ => (first | rfl | trivial)
              | j + 13, h1 => omega
            show (true = true → Vec 34 51 vn ((ordE L)).length (fE ((ordE L))) ln) ∧ St w [] ((b9, cb (cD (.slice (some ⟨hz, 0, none⟩) 1 1) false (e == 5)) 37) :: (t1, tabO mo m1) :: (m1, .map es2 ck2) :: (b5, cb (cFG (cutF f) ⟨.slice at1 (cutF f).tr.length ct1, .slice ai1 (cutF f).ids.length ci1, .slice av1 (cutF f).val.length cv1, .slice ax1 (cutF f).txt.length cx1⟩) 52) :: (b3, cb ([.slice ae xs.length ce, iV most] ++ cW n me ++ [.slice ao os.length co_]) 85) :: (rt, rtabO (.slice ar (ordE L).length cr) mo) :: ((bif true then ln else []) ++ (lr ++ [(hz, cb (cH fr (cF 5 (cutF f).p zI zI nilV)) 54)]))) w1
            simp only [hm, cond_true, cond_false] at hw ⊢
            exact ⟨fun _ => hvn, hw.perm (by (refine perm_cnt (fun _ => ?_)); simp only [cntB_append, cntB_cons, cntB_nil, Nat.add_zero, Nat.zero_add]; try ac_rfl)⟩
          · skip
            obtain ⟨vz, lz⟩ := x
            show J _ _ _ _ _ (_) _
            refine J.pr (fun hF => ?_)
            refine J.move rfl rfl ?_
            exact J.finX rfl (fun _ hw => ⟨⟨vz, lz⟩, rfl, fun _ _ _ => rfl, hF, hw⟩)
          · skip
            obtain ⟨vz, lz⟩ := x
            show J _ _ _ _ _ ((65, .pointer (some ⟨rt, 0, none⟩)) :: _) _
            refine J.pr (fun hF => ?_)
            refine J.nilCheck rfl rfl ?_
            exact J.finX rfl (fun _ hw => ⟨⟨vz, lz⟩, rfl, fun _ _ _ => rfl, hF, hw⟩)
          · skip
            obtain ⟨vz, lz⟩ := x
            show J _ _ _ _ _ ((66, .pointer (some ⟨rt, 0, none⟩)) :: _) _
            refine J.pr (fun hF => ?_)
            refine J.fieldAddr Ty.fd82_0 rfl rfl ?_
            exact J.finX rfl (fun _ hw => ⟨⟨vz, lz⟩, rfl, fun _ _ _ => rfl, hF, hw⟩)
          · skip
            obtain ⟨vz, lz⟩ := x
            show J _ _ _ _ _ ((67, .pointer (some ⟨rt, 0 + 0, none⟩)) :: _) _
            refine J.pr (fun hF => ?_)
            refine J.load1 (v := .slice ar (ordE L).length cr) Ty.a62 rfl (fun w1 hw => by rw [cell_of (hw.own _ (.tail _ (.tail _ (.tail _ (.tail _ (.tail _ (.head _)))))))]; rfl) rfl ?_
            exact J.finX rfl (fun _ hw => ⟨⟨vz, lz⟩, rfl, fun _ _ _ => rfl, hF, hw⟩)
          · skip
            obtain ⟨vz, lz⟩ := x
            show J _ _ _ _ _ ((64, vz) :: (68, .slice ar (ordE L).length cr) :: (64, vz) :: _) _
            have hp1 : m 1 = true := predsT hp (by kernel_rfl)
            have hp1 : m 1 = true := predsT hp (by kernel_rfl)
            refine J.pr (fun hF => ?_)
            refine J.callB (v := .bool true) (fun w1 w2 hw hb => hw.step hb) Ty.bd26 rfl rfl (fun w1 hw => (by have h := rsame_spec _ _ ((ordE L)) ((ordE L)) w1 (vec_rowM (l := (b9, cb (cD (.slice (some ⟨hz, 0, none⟩) 1 1) false (e == 5)) 37) :: (t1, tabO mo m1) :: (m1, .map es2 ck2) :: (b5, cb (cFG (cutF f) ⟨.slice at1 (cutF f).tr.length ct1, .slice ai1 (cutF f).ids.length ci1, .slice av1 (cutF f).val.length cv1, .slice ax1 (cutF f).txt.length cx1⟩) 52) :: (b3, cb ([.slice ae xs.length ce, iV most] ++ cW n me ++ [.slice ao os.length co_]) 85) :: (rt, rtabO (.slice ar (ordE L).length cr) mo) :: (lz ++ (lr ++ [(hz, cb (cH fr (cF 5 (cutF f).p zI zI nilV)) 54)]))) (hF hp1) (by simp only [hp1, cond_true] at hw; exact hw) (fun q hq => by first | (simp [hq]; done) | (simp at hq; simp [hq]; done) | (simp at hq; subst hq; simp))) (vec_rowM (l := (b9, cb (cD (.slice (some ⟨hz, 0, none⟩) 1 1) false (e == 5)) 37) :: (t1, tabO mo m1) :: (m1, .map es2 ck2) :: (b5, cb (cFG (cutF f) ⟨.slice at1 (cutF f).tr.length ct1, .slice ai1 (cutF f).ids.length ci1, .slice av1 (cutF f).val.length cv1, .slice ax1 (cutF f).txt.length cx1⟩) 52) :: (b3, cb ([.slice ae xs.length ce, iV most] ++ cW n me ++ [.slice ao os.length co_]) 85) :: (rt, rtabO (.slice ar (ordE L).length cr) mo) :: (lz ++ (lr ++ [(hz, cb (cH fr (cF 5 (cutF f).p zI zI nilV)) 54)]))) hvr (by simp only [hp1, cond_true] at hw; exact hw) (fun q hq => by first | (simp [hq]; done) | (simp at hq; simp [hq]; done) | (simp at hq; subst hq; simp))) (ordE_ok hT2) (ordE_ok hT2) (by omega) (by omega); simpa using h)) ?_
            exact J.finX rfl (fun _ hw => ⟨⟨vz, lz⟩, rfl, fun _ _ _ => rfl, hF, hw⟩)
          · skip
            obtain ⟨vz, lz⟩ := x
            show J _ _ _ _ _ ((69, .bool true) :: (69, .bool true) :: _) _
            refine J.pr (fun hF => ?_)
            refine J.move rfl rfl ?_
            exact J.finX rfl (fun _ hw => ⟨⟨vz, lz⟩, rfl, fun _ _ _ => rfl, hF, hw⟩)
          · skip
            obtain ⟨vz, lz⟩ := x
            show J _ _ _ _ _ ((70, .bool true) :: _) _
            refine J.pr (fun hF => ?_)
            first | refine J.skip rfl rfl rfl rfl rfl ?_ | refine J.skipU rfl rfl rfl rfl ?_ | (refine J.unguard rfl rfl rfl ?_; refine J.fieldAddr Ty.fd37_0 rfl rfl ?_)
            exact J.finX rfl (fun _ hw => ⟨⟨vz, lz⟩, rfl, fun _ _ _ => rfl, hF, hw⟩)
          · skip
            obtain ⟨vz, lz⟩ := x
            show J _ _ _ _ _ ((70, .bool true) :: (71, .pointer (some ⟨b9, 0 + 0, none⟩)) :: _) _
            refine J.pr (fun hF => ?_)
            refine J.unguard rfl rfl rfl ?_
            refine J.load1 (v := .slice (some ⟨hz, 0, none⟩) 1 1) Ty.a35 rfl (fun w1 hw => by rw [cell_of (hw.own _ (.head _))]; rfl) rfl ?_
            exact J.finX rfl (fun _ hw => ⟨⟨vz, lz⟩, rfl, fun _ _ _ => rfl, hF, hw⟩)
          · skip
            obtain ⟨vz, lz⟩ := x
            show J _ _ _ _ _ ((70, .bool true) :: (72, .slice (some ⟨hz, 0, none⟩) 1 1) :: _) _
            refine J.pr (fun hF => ?_)
            refine J.unguard rfl rfl rfl ?_
            refine J.lenS rfl Ty.u35 rfl rfl ?_
            refine J.name 73 rfl (show _ = .int .i64 ((1 : Nat) : Int) from rfl) ?_
            exact J.finX rfl (fun _ hw => ⟨⟨vz, lz⟩, rfl, fun _ _ _ => rfl, hF, hw⟩)
          · skip
            obtain ⟨vz, lz⟩ := x
            show J _ _ _ _ _ ((70, .bool true) :: (73, .int .i64 ((1 : Nat) : Int)) :: _) _
            refine J.pr (fun hF => ?_)
            refine J.unguard rfl rfl rfl ?_
            refine J.bin rfl rfl rfl rfl ?_
            refine J.name 74 rfl (show Value.bool _ = .bool true by simp) ?_
            exact J.finX rfl (fun _ hw => ⟨⟨vz, lz⟩, rfl, fun _ _ _ => rfl, hF, hw⟩)
          · skip
            obtain ⟨vz, lz⟩ := x
            show J _ _ _ _ _ ((74, .bool true) :: (70, .bool true) :: _) _
            refine J.pr (fun hF => ?_)
            (first | refine J.pickT rfl rfl rfl ?_ | refine J.pickF rfl rfl rfl ?_)
            exact J.finX rfl (fun _ hw => ⟨⟨vz, lz⟩, rfl, fun _ _ _ => rfl, hF, hw⟩)
        case htail =>
          intro x
          obtain ⟨vz, lz⟩ := x
          show J _ _ _ _ _ ((75, .bool true) :: (74, .bool true) :: (73, .int .i64 ((1 : Nat) : Int)) :: (72, .slice (some ⟨hz, 0, none⟩) 1 1) :: (71, .pointer (some ⟨b9, 0 + 0, none⟩)) :: (70, .bool true) :: (69, .bool true) :: (68, .slice ar (ordE L).length cr) :: (67, .pointer (some ⟨rt, 0 + 0, none⟩)) :: (66, .pointer (some ⟨rt, 0, none⟩)) :: (65, .pointer (some ⟨rt, 0, none⟩)) :: (64, vz) :: (63, .pointer (some ⟨t1, 0, none⟩)) :: _) (fun w1 => (true = true → Vec 34 51 vz ((ordE L)).length (fE ((ordE L))) lz) ∧ St w [] ((b9, cb (cD (.slice (some ⟨hz, 0, none⟩) 1 1) false (e == 5)) 37) :: (t1, tabO mo m1) :: (m1, .map es2 ck2) :: (b5, cb (cFG (cutF f) ⟨.slice at1 (cutF f).tr.length ct1, .slice ai1 (cutF f).ids.length ci1, .slice av1 (cutF f).val.length cv1, .slice ax1 (cutF f).txt.length cx1⟩) 52) :: (b3, cb ([.slice ae xs.length ce, iV most] ++ cW n me ++ [.slice ao os.length co_]) 85) :: (rt, rtabO (.slice ar (ordE L).length cr) mo) :: ((bif true then lz else []) ++ (lr ++ [(hz, cb (cH fr (cF 5 (cutF f).p zI zI nilV)) 54)]))) w1)
          refine J.pr (fun hF => ?_)
          refine J.assign rfl rfl ?_
          refine J.nil ?_
          refine JX.thenN (hK31 _ _ ?_)
          refine JC.ret ?_
          refine JX.thenR ?_
          refine JX.ret1 rfl rfl (fun w hw => ?_)
          exact ⟨rfl, (hw.drop (List.nil_sublist _)).below⟩

theorem setupAdds_walk (w : World) (cc : List Value) (c : CaseV) (hc : RCase w cc c) (fr : Int) (hfr : okN fr) (xc : List Value) (x : FIn) (hx : RFin w xc x) :
    Calls Try.prog 14 [.agg cc.toArray, .int .i64 fr, .agg xc.toArray].toArray w fun r w' => r = .returned (.bool true) ∧ Bel w w' := by
  have h1 : c.o.xs.length ≤ 140737488351232 := by
    obtain ⟨_, h1, h2, _⟩ := hc.o
    have h3 : reachBytes = 140737488351232 := rfl
    omega
  exact setupAdds_spec c.e.v c.o.v c.e.xs c.o.xs c.most c.n fr c.me x.f x.s w (rslE hc.e) (rslE_ok hc.e) (rslE_len hc.e) hx.rows hx.len hx.ok (rslB hc.o) h1 hfr cc xc hc.cells hx.cells
end Go.Proofs.Ytpldpkdlloolkaa
