/-
  SetupTakes: texts that its proof needs, part 6.
-/
import Derived.Test.YtpldpkdlloolkaaZSetupTakese
/-
  SetupTakes: the walk.
-/
namespace Go.Proofs.Ytpldpkdlloolkaa
open Go.J Go.RowKit
set_option linter.unusedVariables false
set_option linter.unusedSimpArgs false
set_option maxRecDepth 8000
/-- a slice of the call's own that holds integers -/
def IBlk (v : Value) (n : Nat) (lj : List (Nat × Obj)) : Prop := n = 0 ∨ ∃ (q c : Nat) (ys : List Int) (sp : List Value), v = .slice (some ⟨q, 0, none⟩) n c ∧ lj = [(q, cb (ys.map iV ++ sp) 3)] ∧ ys.length = n ∧ n ≤ c
theorem iblk_of {v : Value} {xs : List Int} {lp : List (Nat × Obj)} (h : Vec 3 1 v xs.length (xs.map iV) lp) : IBlk v xs.length lp := by
  rcases h.2 with ⟨_, h2, _⟩ | ⟨b, c, sp, h1, h2, h3, h4⟩
  · exact .inl h2
  · exact .inr ⟨b, c, xs, sp, h1, h2, rfl, h4⟩
theorem iblk_pos {a : Option Addr} {n c : Nat} {lp : List (Nat × Obj)} (h : IBlk (.slice a n c) n lp) (h0 : 0 < n) : ∃ (q : Nat) (ys : List Int) (sp : List Value), a = some ⟨q, 0, none⟩ ∧ lp = [(q, cb (ys.map iV ++ sp) 3)] ∧ ys.length = n ∧ n ≤ c := by
  rcases h with h | ⟨q, c', ys, sp, h1, h2, h3, h4⟩
  · omega
  · simp only [Value.slice.injEq] at h1
    obtain ⟨rfl, _, rfl⟩ := h1
    exact ⟨q, ys, sp, rfl, h2, h3, h4⟩
theorem set_int {ys : List Int} {sp : List Value} {i o : Nat} {z : Int} (h : i < ys.length) (ho : o = i) : setMany (ys.map iV ++ sp) o [iV z] = (ys.set i z).map iV ++ sp := by
  subst ho
  rw [setMany_eq _ _ _ (by simp; omega)]
  simp only [List.length_singleton]
  rw [List.take_append_of_le_length (by simp; omega), List.drop_append_of_le_length (by simp; omega), List.set_eq_take_append_cons_drop, if_pos h]
  simp [List.map_take, List.map_drop]
theorem addr_zero (a : Option Addr) : a.map (·.add (0 * 1)) = a := by cases a <;> simp [Addr.add]

set_option maxHeartbeats 4000000 in
theorem setupTakes_spec (ev ov : Value) (xs : List EV) (os : List Bool) (most n fr : Int) (me : IDV) (f : FV) (s : FSl) (w : World) (hre : Row w ev xs.length (fE xs)) (hok : ∀ x, x ∈ xs → okE x) (hxl : xs.length ≤ 1954687338213) (hs : FRows w f s) (hg : BigF f) (hf : OkF f) (hro : Row w ov os.length (os.map bV)) (hlo2 : os.length ≤ 140737488351232) (hfr : okN fr) (cc cf : List Value) (hcc : cc = [ev, iV most] ++ cW n me ++ [ov]) (hcf : cf = cFG f s) :
    Calls Try.prog 13 [.agg cc.toArray, .int .i64 fr, .agg cf.toArray].toArray w fun r w' => r = .returned (.bool true) ∧ Bel w w' := by
  obtain ⟨ae, ce, rfl, hce, _⟩ := _root_.id hre
  obtain ⟨ao, co_, rfl, hco, _⟩ := _root_.id hro
  obtain ⟨vt1, vi1, vv1, vx1⟩ := s
  obtain ⟨at1, ct1, hh, _, _⟩ := _root_.id hs.tr
  simp only at hh
  subst hh
  obtain ⟨ai1, ci1, hh, _, _⟩ := _root_.id hs.ids
  simp only at hh
  subst hh
  obtain ⟨av1, cv1, hh, _, _⟩ := _root_.id hs.val
  simp only at hh
  subst hh
  obtain ⟨ax1, cx1, hh, _, _⟩ := _root_.id hs.txt
  simp only at hh
  subst hh
  obtain ⟨mo, hmo⟩ : ∃ mo, min (max most 0) 128 = mo := ⟨_, rfl⟩
  have hmb : mo ≤ 128 := by omega
  have hcl := cut_len f
  have hbt := hg.tr
  refine calls_of_J (args := [.agg cc.toArray, .int .i64 fr, .agg cf.toArray]) (e := [(0, .agg cc.toArray), (1, .int .i64 fr), (2, .agg cf.toArray)]) Try.func13 rfl rfl ⟨rfl, rfl, rfl, trivial⟩ (St.start w) ?_
  refine JC.seq (fun K0 hK0 => ?_)
  refine JC.region ?_
  refine J.box rfl rfl rfl (fun b3 => ?_)
  refine J.box rfl rfl rfl (fun b5 => ?_)
  refine J.assign rfl rfl ?_
  refine J.nil ?_
  refine JX.thenN (hK0 _ _ ?_)
  refine JC.seq (fun K1 hK1 => ?_)
  refine JC.region ?_
  subst hcc
  subst hcf
  refine J.fieldAddr Ty.fd85_0 rfl rfl ?_
  refine J.load1 (v := .slice ae xs.length ce) Ty.a62 rfl (fun w1 hw => by rw [cell_of (hw.own _ (.tail _ (.head _)))]; rfl) rfl ?_
  refine J.fieldAddr Ty.fd85_1 rfl rfl ?_
  refine J.load1 (v := iV most) Ty.a3 rfl (fun w1 hw => by rw [cell_of (hw.own _ (.tail _ (.head _)))]; rfl) rfl ?_
  refine J.perm ([] ++ ((b5, cb (cFG f ⟨.slice at1 f.tr.length ct1, .slice ai1 f.ids.length ci1, .slice av1 f.val.length cv1, .slice ax1 f.txt.length cx1⟩) 52) :: (b3, cb ([.slice ae xs.length ce, iV most] ++ cW n me ++ [.slice ao os.length co_]) 85) :: [])) (.refl _) ?_
  refine J.callS (α := LaidS) (V := fun x => .tuple #[.pointer (some ⟨x.t1, 0, none⟩), .pointer (some ⟨x.rt, 0, none⟩)]) (Pr := fun x => Tab (laidL mo xs) x.es x.ck ∧ Vec 34 51 x.vr (ordE (laidL mo xs)).length (fE (ordE (laidL mo xs))) x.lr) (L := fun x => x.blk mo) (l1 := []) Ty.bd45 rfl rfl (fun w1 hw => laid_spec _ xs most w1 (hre.below (hw.drop (List.nil_sublist _)).below) hok hxl hmo) (fun q hq => ?_)
  obtain ⟨t1, m1, rt, es, ck, vr, lr⟩ := q
  obtain ⟨hT, hvr⟩ := hq
  simp only [LaidS.blk, List.cons_append] at hT hvr ⊢
  obtain ⟨L, hLe⟩ : ∃ L, laidL mo xs = L := ⟨_, rfl⟩
  have hG := laidL_good mo xs
  rw [hLe] at hT hvr hG
  obtain ⟨ar, cr, rfl, hcr⟩ := hvr.form
  have hlen := hG.len
  have hol := (ordE_perm L).length_eq
  have hl128 : L.length ≤ 128 := by omega
  have ho128 : (ordE L).length ≤ 128 := by omega
  refine J.perm ((t1, tabO mo m1) :: (m1, .map es ck) :: (b5, cb (cFG f ⟨.slice at1 f.tr.length ct1, .slice ai1 f.ids.length ci1, .slice av1 f.val.length cv1, .slice ax1 f.txt.length cx1⟩) 52) :: (b3, cb ([.slice ae xs.length ce, iV most] ++ cW n me ++ [.slice ao os.length co_]) 85) :: (rt, rtabO (.slice ar (ordE L).length cr) mo) :: lr) (by (refine perm_cnt (fun _ => ?_)); simp only [cntB_append, cntB_cons, cntB_nil, Nat.add_zero, Nat.zero_add]; try ac_rfl) ?_
  refine J.move rfl rfl ?_
  refine J.extract rfl rfl rfl ?_
  refine J.extract rfl rfl rfl ?_
  refine J.assign rfl rfl ?_
  refine J.assign rfl rfl ?_
  refine J.nil ?_
  refine JX.thenN (hK1 _ _ ?_)
  refine JC.seq (fun K2 hK2 => ?_)
  refine JC.region ?_
  refine J.fieldAddr Ty.fd52_8 rfl rfl ?_
  refine J.loadO (v := .slice at1 f.tr.length ct1) Ty.a26 rfl (.tail _ (.tail _ (.head _))) rfl rfl ?_
  refine J.fieldAddr Ty.fd52_8 rfl rfl ?_
  refine J.loadO (v := .slice at1 f.tr.length ct1) Ty.a26 rfl (.tail _ (.tail _ (.head _))) rfl rfl ?_
  refine J.lenS rfl Ty.u26 rfl rfl ?_
  refine J.min2 rfl rfl rfl ?_
  refine J.name 27 rfl (show _ = .int .i64 (((cutF f).tr.length : Nat) : Int) by rw [show ((cutF f).tr.length : Int) = min (f.tr.length : Int) 200 from by show (((f.tr.take 200).length : Nat) : Int) = _; rw [List.length_take]; omega]) ?_
  have hcf1 : (cutF f).tr.length ≤ f.tr.length := by show (f.tr.take 200).length ≤ _; rw [List.length_take]; omega
  refine J.sliceS (i := 0) (j := (cutF f).tr.length) Ty.el26 Ty.s3 rfl rfl rfl rfl (by simp [bnd]) (by omega) (by omega) (by omega) rfl ?_
  refine J.name 28 rfl (show _ = Value.slice at1 (cutF f).tr.length ct1 by rw [addr_zero, ite_self]; rfl) ?_
  refine J.fieldAddr Ty.fd52_8 rfl rfl ?_
  refine J.storeO (cs := cFG f ⟨.slice at1 f.tr.length ct1, .slice ai1 f.ids.length ci1, .slice av1 f.val.length cv1, .slice ax1 f.txt.length cx1⟩) (vs := [.slice at1 (cutF f).tr.length ct1]) Ty.s26 rfl rfl rfl rfl (by simp [Value.oneCell']) (.there (.there .here)) (by simp) ?_
  refine J.perm ((t1, tabO mo m1) :: (m1, .map es ck) :: (b5, cb (cFG (cutF f) ⟨.slice at1 (cutF f).tr.length ct1, .slice ai1 (cutF f).ids.length ci1, .slice av1 (cutF f).val.length cv1, .slice ax1 (cutF f).txt.length cx1⟩) 52) :: (b3, cb ([.slice ae xs.length ce, iV most] ++ cW n me ++ [.slice ao os.length co_]) 85) :: (rt, rtabO (.slice ar (ordE L).length cr) mo) :: lr) (.refl _) ?_
  have hg1 := cut_big hg
  have hf1 := cut_ok hf
  refine J.nil ?_
  refine JX.thenN (hK2 _ _ ?_)
  refine JC.seq (fun K3 hK3 => ?_)
  refine JC.region ?_
  refine J.loadOA (vs := cFG (cutF f) ⟨.slice at1 (cutF f).tr.length ct1, .slice ai1 (cutF f).ids.length ci1, .slice av1 (cutF f).val.length cv1, .slice ax1 (cutF f).txt.length cx1⟩) Ty.a52 Ty.s52 rfl (.tail _ (.tail _ (.head _))) rfl rfl rfl ?_
  refine J.perm ([] ++ ((t1, tabO mo m1) :: (m1, .map es ck) :: (b5, cb (cFG (cutF f) ⟨.slice at1 (cutF f).tr.length ct1, .slice ai1 (cutF f).ids.length ci1, .slice av1 (cutF f).val.length cv1, .slice ax1 (cutF f).txt.length cx1⟩) 52) :: (b3, cb ([.slice ae xs.length ce, iV most] ++ cW n me ++ [.slice ao os.length co_]) 85) :: (rt, rtabO (.slice ar (ordE L).length cr) mo) :: lr)) (.refl _) ?_
  refine J.callS (α := CopyS) (V := fun x => .agg (cFG (cutF f) (x.s (cutF f))).toArray) (Pr := fun x => x.V (cutF f)) (L := fun x => x.l) (l1 := []) Ty.bd48 rfl rfl (fun w1 hw => copy_spec (cutF f) ⟨.slice at1 (cutF f).tr.length ct1, .slice ai1 (cutF f).ids.length ci1, .slice av1 (cutF f).val.length cv1, .slice ax1 (cutF f).txt.length cx1⟩ w1 (rows_cut (hs.below (hw.drop (List.nil_sublist _)).below)) hg1) (fun x hx => ?_)
  obtain ⟨a1, c1, l1, a2, c2, l2, a3, c3, l3, a4, c4, l4⟩ := x
  obtain ⟨hv1, hv2, hv3, hv4⟩ := hx
  simp only at hv1 hv2 hv3 hv4 ⊢
  refine J.perm ((t1, tabO mo m1) :: (m1, .map es ck) :: (b5, cb (cFG (cutF f) ⟨.slice at1 (cutF f).tr.length ct1, .slice ai1 (cutF f).ids.length ci1, .slice av1 (cutF f).val.length cv1, .slice ax1 (cutF f).txt.length cx1⟩) 52) :: (b3, cb ([.slice ae xs.length ce, iV most] ++ cW n me ++ [.slice ao os.length co_]) 85) :: (rt, rtabO (.slice ar (ordE L).length cr) mo) :: (lr ++ (l1 ++ (l2 ++ (l3 ++ l4))))) (by (refine perm_cnt (fun _ => ?_)); simp only [cntB_append, cntB_cons, cntB_nil, Nat.add_zero, Nat.zero_add]; try ac_rfl) ?_
  refine J.alloc zF_ rfl rfl (fun b9 => ?_)
  refine J.storeW (cs := cFG ⟨0, zP, false, zI, zI, 0, 0, 0, 0, 0, [], [], zI, 0, zI, [], 0, 0, []⟩ ⟨nilV, nilV, nilV, nilV⟩) (vs := cFG (cutF f) ⟨.slice a1 (cutF f).tr.length c1, .slice a2 (cutF f).ids.length c2, .slice a4 (cutF f).val.length c4, .slice a3 (cutF f).txt.length c3⟩) Ty.s52 rfl rfl rfl rfl rfl (by simp [Value.oneCell']) .here ?_
  refine J.perm ((b9, cb (cFG (cutF f) ⟨.slice a1 (cutF f).tr.length c1, .slice a2 (cutF f).ids.length c2, .slice a4 (cutF f).val.length c4, .slice a3 (cutF f).txt.length c3⟩) 52) :: (t1, tabO mo m1) :: (m1, .map es ck) :: (b5, cb (cFG (cutF f) ⟨.slice at1 (cutF f).tr.length ct1, .slice ai1 (cutF f).ids.length ci1, .slice av1 (cutF f).val.length cv1, .slice ax1 (cutF f).txt.length cx1⟩) 52) :: (b3, cb ([.slice ae xs.length ce, iV most] ++ cW n me ++ [.slice ao os.length co_]) 85) :: (rt, rtabO (.slice ar (ordE L).length cr) mo) :: (lr ++ (l1 ++ (l2 ++ (l3 ++ l4))))) (.refl _) ?_
  refine J.nil ?_
  refine JX.thenN (hK3 _ _ ?_)
  refine JC.seq (fun K4 hK4 => ?_)
  by_cases hbad : badT n fr (cutF f)
  · skip
    refine JC.region ?_
    refine J.move rfl rfl ?_
    refine J.fieldAddr Ty.fd85_2 rfl rfl ?_
    refine J.loadOA (vs := cW n me) Ty.a41 Ty.s41 rfl (.tail _ (.tail _ (.tail _ (.tail _ (.head _))))) rfl rfl rfl ?_
    refine J.move rfl rfl ?_
    refine J.loadOA (vs := cFG (cutF f) ⟨.slice a1 (cutF f).tr.length c1, .slice a2 (cutF f).ids.length c2, .slice a4 (cutF f).val.length c4, .slice a3 (cutF f).txt.length c3⟩) Ty.a52 Ty.s52 rfl (.head _) rfl rfl rfl ?_
    refine J.fieldAddr Ty.fd85_3 rfl rfl ?_
    refine J.loadO (v := .slice ao os.length co_) Ty.a28 rfl (.tail _ (.tail _ (.tail _ (.tail _ (.head _))))) rfl rfl ?_
    refine J.callB (v := .agg (cD nilV false false).toArray) (fun w1 w2 hw hb => hw.step hb) Ty.bd19 rfl rfl (fun w1 hw => gtake_no t1 n fr me (cutF f) ⟨.slice a1 (cutF f).tr.length c1, .slice a2 (cutF f).ids.length c2, .slice a4 (cutF f).val.length c4, .slice a3 (cutF f).txt.length c3⟩ _ w1 ⟨(vec_rowM hv1 hw (fun q hq => by first | (simp [hq]; done) | (simp at hq; simp [hq]; done) | (simp at hq; subst hq; simp))), (vec_rowM hv2 hw (fun q hq => by first | (simp [hq]; done) | (simp at hq; simp [hq]; done) | (simp at hq; subst hq; simp))), (vec_rowM hv4 hw (fun q hq => by first | (simp [hq]; done) | (simp at hq; simp [hq]; done) | (simp at hq; subst hq; simp))), (vec_rowM hv3 hw (fun q hq => by first | (simp [hq]; done) | (simp at hq; simp [hq]; done) | (simp at hq; subst hq; simp)))⟩ hg1 hbad) ?_
    refine J.alloc zN rfl rfl (fun b10 => ?_)
    refine J.storeW (cs := cD nilV false false) (vs := cD nilV false false) Ty.s37 rfl rfl rfl rfl rfl (by simp [Value.oneCell']) .here ?_
    refine J.nil ?_
    refine JX.thenN (hK4 _ _ ?_)
    refine JC.seq (fun K5 hK5 => ?_)
    refine JC.region ?_
    refine J.move rfl rfl ?_
    refine J.fieldAddr Ty.fd85_2 rfl rfl ?_
    refine J.fieldAddr Ty.fd41_0 rfl rfl ?_
    refine J.loadO (v := iV n) Ty.a3 rfl (.tail _ (.tail _ (.tail _ (.tail _ (.tail _ (.head _)))))) rfl rfl ?_
    refine J.fieldAddr Ty.fd85_2 rfl rfl ?_
    refine J.fieldAddr Ty.fd41_1 rfl rfl ?_
    refine J.loadOA (vs := cI me) Ty.a23 Ty.s23 rfl (.tail _ (.tail _ (.tail _ (.tail _ (.tail _ (.head _)))))) rfl rfl rfl ?_
    refine J.move rfl rfl ?_
    refine J.loadOA (vs := cFG (cutF f) ⟨.slice at1 (cutF f).tr.length ct1, .slice ai1 (cutF f).ids.length ci1, .slice av1 (cutF f).val.length cv1, .slice ax1 (cutF f).txt.length cx1⟩) Ty.a52 Ty.s52 rfl (.tail _ (.tail _ (.tail _ (.tail _ (.head _))))) rfl rfl rfl ?_
    refine J.fieldAddr Ty.fd85_3 rfl rfl ?_
    refine J.loadO (v := .slice ao os.length co_) Ty.a28 rfl (.tail _ (.tail _ (.tail _ (.tail _ (.tail _ (.head _)))))) rfl rfl ?_
    refine J.callB (v := .agg (cD nilV false false).toArray) (fun w1 w2 hw hb => hw.step hb) Ty.bd49 rfl rfl (fun w1 hw => rtake_no rt n fr me (cutF f) ⟨.slice at1 (cutF f).tr.length ct1, .slice ai1 (cutF f).ids.length ci1, .slice av1 (cutF f).val.length cv1, .slice ax1 (cutF f).txt.length cx1⟩ _ w1 (rows_cut (hs.below (hw.drop (List.nil_sublist _)).below)) hg1 hbad) ?_
    refine J.alloc zN_ rfl rfl (fun b11 => ?_)
    refine J.storeW (cs := cD nilV false false) (vs := cD nilV false false) Ty.s90 rfl rfl rfl rfl rfl (by simp [Value.oneCell']) .here ?_
    refine J.perm ((b11, cb (cD nilV false false) 90) :: (b10, cb (cD nilV false false) 37) :: (b9, cb (cFG (cutF f) ⟨.slice a1 (cutF f).tr.length c1, .slice a2 (cutF f).ids.length c2, .slice a4 (cutF f).val.length c4, .slice a3 (cutF f).txt.length c3⟩) 52) :: (t1, tabO mo m1) :: (m1, .map es ck) :: (b5, cb (cFG (cutF f) ⟨.slice at1 (cutF f).tr.length ct1, .slice ai1 (cutF f).ids.length ci1, .slice av1 (cutF f).val.length cv1, .slice ax1 (cutF f).txt.length cx1⟩) 52) :: (b3, cb ([.slice ae xs.length ce, iV most] ++ cW n me ++ [.slice ao os.length co_]) 85) :: (rt, rtabO (.slice ar (ordE L).length cr) mo) :: (lr ++ (l1 ++ (l2 ++ (l3 ++ l4))))) (by (refine perm_cnt (fun _ => ?_)); simp only [cntB_append, cntB_cons, cntB_nil, Nat.add_zero, Nat.zero_add]; try ac_rfl) ?_
    refine J.nil ?_
    refine JX.thenN (hK5 _ _ ?_)
    refine JC.seq (fun K6 hK6 => ?_)
    refine JC.region ?_
    refine J.loadOA (vs := cFG (cutF f) ⟨.slice at1 (cutF f).tr.length ct1, .slice ai1 (cutF f).ids.length ci1, .slice av1 (cutF f).val.length cv1, .slice ax1 (cutF f).txt.length cx1⟩) Ty.a52 Ty.s52 rfl (.tail _ (.tail _ (.tail _ (.tail _ (.tail _ (.head _)))))) rfl rfl rfl ?_
    refine J.loadOA (vs := cFG (cutF f) ⟨.slice a1 (cutF f).tr.length c1, .slice a2 (cutF f).ids.length c2, .slice a4 (cutF f).val.length c4, .slice a3 (cutF f).txt.length c3⟩) Ty.a52 Ty.s52 rfl (.tail _ (.tail _ (.head _))) rfl rfl rfl ?_
    refine J.callB (v := .bool true) (fun w1 w2 hw hb => hw.step hb) Ty.bd50 rfl rfl (fun w1 hw => same04_spec (cutF f) hf1 ⟨.slice at1 (cutF f).tr.length ct1, .slice ai1 (cutF f).ids.length ci1, .slice av1 (cutF f).val.length cv1, .slice ax1 (cutF f).txt.length cx1⟩ ⟨.slice a1 (cutF f).tr.length c1, .slice a2 (cutF f).ids.length c2, .slice a4 (cutF f).val.length c4, .slice a3 (cutF f).txt.length c3⟩ w1 (rows_cut (hs.below (hw.drop (List.nil_sublist _)).below)) ⟨(vec_rowM hv1 hw (fun q hq => by first | (simp [hq]; done) | (simp at hq; simp [hq]; done) | (simp at hq; subst hq; simp))), (vec_rowM hv2 hw (fun q hq => by first | (simp [hq]; done) | (simp at hq; simp [hq]; done) | (simp at hq; subst hq; simp))), (vec_rowM hv4 hw (fun q hq => by first | (simp [hq]; done) | (simp at hq; simp [hq]; done) | (simp at hq; subst hq; simp))), (vec_rowM hv3 hw (fun q hq => by first | (simp [hq]; done) | (simp at hq; simp [hq]; done) | (simp at hq; subst hq; simp)))⟩) ?_
    refine J.assign rfl rfl ?_
    refine J.nil ?_
    refine JX.thenN (hK6 _ _ ?_)
    refine JC.seq (fun K7 hK7 => ?_)
    refine JC.seq (fun K8 hK8 => ?_)
    refine JC.region ?_
    refine J.fieldAddr Ty.fd52_8 rfl rfl ?_
    refine J.loadO (v := .slice a1 (cutF f).tr.length c1) Ty.a26 rfl (.tail _ (.tail _ (.head _))) rfl rfl ?_
    refine J.lenS rfl Ty.u26 rfl rfl ?_
    refine J.move rfl rfl ?_
    refine J.nil ?_
    refine JX.thenN (hK8 _ _ ?_)
    refine JC.block ?_
    refine JC.conseq (JC.cov (f := (fun st => [(7, .pointer (some ⟨t1, 0, none⟩)), (8, .pointer (some ⟨rt, 0, none⟩)), (9, .pointer (some ⟨b9, 0, none⟩)), (10, .pointer (some ⟨b10, 0, none⟩)), (11, .pointer (some ⟨b11, 0, none⟩)), (12, .bool true), (57, .int .i64 (((cutF f).tr.length : Nat) : Int)), (58, .int .i64 ((st.1 : Nat) : Int))]) ((0, l1) : Nat × List (Nat × Obj))) ⟨rfl, rfl, rfl, rfl, rfl, rfl, rfl, rfl, trivial⟩ (JC.loop (α := Nat × List (Nat × Obj)) (fun st => [(7, .pointer (some ⟨t1, 0, none⟩)), (8, .pointer (some ⟨rt, 0, none⟩)), (9, .pointer (some ⟨b9, 0, none⟩)), (10, .pointer (some ⟨b10, 0, none⟩)), (11, .pointer (some ⟨b11, 0, none⟩)), (12, .bool true), (57, .int .i64 (((cutF f).tr.length : Nat) : Int)), (58, .int .i64 ((st.1 : Nat) : Int))]) (fun st w' => (st.1 ≤ (cutF f).tr.length ∧ IBlk (.slice a1 (cutF f).tr.length c1) (cutF f).tr.length st.2) ∧ St w [] (st.2 ++ ((b11, cb (cD nilV false false) 90) :: (b10, cb (cD nilV false false) 37) :: (b9, cb (cFG (cutF f) ⟨.slice a1 (cutF f).tr.length c1, .slice a2 (cutF f).ids.length c2, .slice a4 (cutF f).val.length c4, .slice a3 (cutF f).txt.length c3⟩) 52) :: (t1, tabO mo m1) :: (m1, .map es ck) :: (b5, cb (cFG (cutF f) ⟨.slice at1 (cutF f).tr.length ct1, .slice ai1 (cutF f).ids.length ci1, .slice av1 (cutF f).val.length cv1, .slice ax1 (cutF f).txt.length cx1⟩) 52) :: (b3, cb ([.slice ae xs.length ce, iV most] ++ cW n me ++ [.slice ao os.length co_]) 85) :: (rt, rtabO (.slice ar (ordE L).length cr) mo) :: (lr ++ (l2 ++ (l3 ++ l4))))) w') (fun st => (cutF f).tr.length - st.1) ((0, l1) : Nat × List (Nat × Obj)) (fun st => ?_))) (fun w hw => ⟨⟨Nat.zero_le _, iblk_of hv1⟩, hw.perm (by (refine perm_cnt (fun _ => ?_)); simp only [cntB_append, cntB_cons, cntB_nil, Nat.add_zero, Nat.zero_add]; try ac_rfl)⟩)
    obtain ⟨ix, lj⟩ := st
    refine JC.pr (fun hx1 => ?_)
    obtain ⟨hij, hbl⟩ := hx1
    simp only at hij hbl ⊢
    refine JC.seq (fun K9 hK9 => ?_)
    refine JC.region ?_
    refine J.bin rfl rfl rfl rfl ?_
    refine J.nil ?_
    refine JX.thenN (hK9 _ _ ?_)
    refine JC.seq (fun K10 hK10 => ?_)
    refine JC.cond rfl (fun h0 => ?_) (fun h0 => ?_)
    · skip
      have hlt : ix < (cutF f).tr.length := by simp at h0; omega
      obtain ⟨qv, ys, sp, rfl, rfl, hys, hyc⟩ := iblk_pos hbl (by omega)
      obtain ⟨yi, hyi⟩ : ∃ y, ys[ix]? = some y := ⟨_, List.getElem?_eq_getElem (by omega)⟩
      refine JC.skip ?_
      refine JX.thenN (hK10 _ _ ?_)
      refine JC.seq (fun K11 hK11 => ?_)
      refine JC.block ?_
      refine JC.seq (fun K12 hK12 => ?_)
      refine JC.region ?_
      refine J.move rfl rfl ?_
      refine J.assign rfl rfl ?_
      refine J.nil ?_
      refine JX.thenN (hK12 _ _ ?_)
      refine JC.region ?_
      refine J.fieldAddr Ty.fd52_8 rfl rfl ?_
      refine J.loadO (v := .slice (some ⟨qv, 0, none⟩) (cutF f).tr.length c1) Ty.a26 rfl (.tail _ (.tail _ (.tail _ (.head _)))) rfl rfl ?_
      refine J.move rfl rfl ?_
      refine J.indexAddrS Ty.el26 Ty.s3 rfl rfl (by omega) (by omega) rfl ?_
      refine J.load1 (v := iV yi) Ty.a3 rfl (fun w1 hw => rowI_at2 (i := ix) (Row.own (cs := ys.map iV ++ sp) (tb := 3) (fr := (0, 0)) hw (.head _) (by simp) hyc : Row w1 (.slice (some ⟨qv, 0, none⟩) (cutF f).tr.length c1) (cutF f).tr.length (ys.map iV)) hyi (by simp)) rfl ?_
      refine J.bin rfl rfl rfl rfl ?_
      refine J.name 66 rfl (show _ = iV (IntKind.wrap .i64 (yi + 1)) from rfl) ?_
      refine J.indexAddrS Ty.el26 Ty.s3 rfl rfl (by omega) (by omega) rfl ?_
      refine J.storeO (cs := ys.map iV ++ sp) (vs := [iV (IntKind.wrap .i64 (yi + 1))]) Ty.s3 rfl rfl rfl rfl (by simp [Value.oneCell']) .here (by simp; omega) ?_
      refine J.nil ?_
      refine JX.blockN ?_
      refine JX.thenN (hK11 _ _ ?_)
      refine JC.region ?_
      (first | refine J.addN rfl rfl (by omega) (by omega) rfl ?_ | refine J.bin rfl rfl rfl rfl ?_)
      refine J.move rfl rfl ?_
      refine J.nil ?_
      refine JX.thenN ?_
      refine JX.again ((ix + 1, [(qv, cb ((ys.set ix (IntKind.wrap .i64 (yi + 1))).map iV ++ sp) 3)]) : Nat × List (Nat × Obj)) ?_ ?_ ?_
      · simp only; omega
      · exact ⟨rfl, rfl, rfl, rfl, rfl, rfl, rfl, rfl, trivial⟩
      · exact fun w1 hw => ⟨⟨hlt, .inr ⟨qv, _, _, sp, rfl, rfl, by rw [List.length_set]; exact hys, hyc⟩⟩, by rw [set_int (i := ix) (by omega) (by simp)] at hw; exact hw⟩
    · skip
      refine JC.conseq (I' := St w [] ((b11, cb (cD nilV false false) 90) :: (b10, cb (cD nilV false false) 37) :: (b9, cb (cFG (cutF f) ⟨.slice a1 (cutF f).tr.length c1, .slice a2 (cutF f).ids.length c2, .slice a4 (cutF f).val.length c4, .slice a3 (cutF f).txt.length c3⟩) 52) :: (t1, tabO mo m1) :: (m1, .map es ck) :: (b5, cb (cFG (cutF f) ⟨.slice at1 (cutF f).tr.length ct1, .slice ai1 (cutF f).ids.length ci1, .slice av1 (cutF f).val.length cv1, .slice ax1 (cutF f).txt.length cx1⟩) 52) :: (b3, cb ([.slice ae xs.length ce, iV most] ++ cW n me ++ [.slice ao os.length co_]) 85) :: (rt, rtabO (.slice ar (ordE L).length cr) mo) :: lr)) ?_ (fun w1 hw => (hw.perm (l' := (lj ++ (l2 ++ (l3 ++ l4))) ++ ((b11, cb (cD nilV false false) 90) :: (b10, cb (cD nilV false false) 37) :: (b9, cb (cFG (cutF f) ⟨.slice a1 (cutF f).tr.length c1, .slice a2 (cutF f).ids.length c2, .slice a4 (cutF f).val.length c4, .slice a3 (cutF f).txt.length c3⟩) 52) :: (t1, tabO mo m1) :: (m1, .map es ck) :: (b5, cb (cFG (cutF f) ⟨.slice at1 (cutF f).tr.length ct1, .slice ai1 (cutF f).ids.length ci1, .slice av1 (cutF f).val.length cv1, .slice ax1 (cutF f).txt.length cx1⟩) 52) :: (b3, cb ([.slice ae xs.length ce, iV most] ++ cW n me ++ [.slice ao os.length co_]) 85) :: (rt, rtabO (.slice ar (ordE L).length cr) mo) :: lr)) (by (refine perm_cnt (fun _ => ?_)); simp only [cntB_append, cntB_cons, cntB_nil, Nat.add_zero, Nat.zero_add]; try ac_rfl)).drop (List.sublist_append_right _ _))
      refine JC.exit ?_
      refine JX.thenE ?_
      refine JX.thenE ?_
      refine JX.blockE ?_
      refine JX.thenN (hK7 _ _ ?_)
      refine JC.seq (fun K13 hK13 => ?_)
      apply JC.drawX (α := Value × List (Nat × Obj)) 22 (fun x => match x with | ⟨vz, lz⟩ => [.bool true, .bool true, .pointer (some ⟨t1, 0, none⟩), .bool true, .bool true, .bool true, .bool true, .bool true, .bool true, .agg (cD nilV false false).toArray, .agg (cD nilV false false).toArray, .bool true, .bool true, .bool true, .pointer (some ⟨t1, 0, none⟩), vz, .pointer (some ⟨rt, 0, none⟩), .pointer (some ⟨rt, 0, none⟩), .pointer (some ⟨rt, 0 + 0, none⟩), .slice ar (ordE L).length cr, .bool true, .bool true]) (fun m x => match x with | ⟨vz, lz⟩ => fun w1 => (m 15 = true → Vec 34 51 vz ((ordE L)).length (fE ((ordE L))) lz) ∧ St w [] ((b11, cb (cD nilV false false) 90) :: (b10, cb (cD nilV false false) 37) :: (b9, cb (cFG (cutF f) ⟨.slice a1 (cutF f).tr.length c1, .slice a2 (cutF f).ids.length c2, .slice a4 (cutF f).val.length c4, .slice a3 (cutF f).txt.length c3⟩) 52) :: (t1, tabO mo m1) :: (m1, .map es ck) :: (b5, cb (cFG (cutF f) ⟨.slice at1 (cutF f).tr.length ct1, .slice ai1 (cutF f).ids.length ci1, .slice av1 (cutF f).val.length cv1, .slice ax1 (cutF f).txt.length cx1⟩) 52) :: (b3, cb ([.slice ae xs.length ce, iV most] ++ cW n me ++ [.slice ao os.length co_]) 85) :: (rt, rtabO (.slice ar (ordE L).length cr) mo) :: ((bif m 15 then lz else []) ++ lr)) w1) Ty.mixed rfl rfl rfl (by kernel_rfl) rfl rfl ?hinit ?hstep ?htail
      case hinit => exact fun w1 hw => ⟨(.slice none 0 0, []), fun h => (by cases h), hw.drew⟩
      case hstep =>
        refine ⟨fun m x hm hp => ?_, fun m x hm hp => ?_, fun m x hm hp => ?_, fun m x hm hp => ?_, fun m x hm hp => ?_, fun m x hm hp => ?_, fun m x hm hp => ?_, fun m x hm hp => ?_, fun m x hm hp => ?_, fun m x hm hp => ?_, fun m x hm hp => ?_, fun m x hm hp => ?_, fun m x hm hp => ?_, fun m x hm hp => ?_, fun m x hm hp => ?_, fun m x hm hp => ?_, fun m x hm hp => ?_, fun m x hm hp => ?_, fun m x hm hp => ?_, fun m x hm hp => ?_, fun m x hm hp => ?_, fun m x hm hp => ?_, trivial⟩
        · skip
          obtain ⟨vz, lz⟩ := x
          show J _ _ _ _ _ (_) _
          refine J.pr (fun hF => ?_)
          refine J.callB (v := .bool true) (fun w1 w2 hw hb => hw.step hb) Ty.bd15 rfl rfl (fun w1 hw => fixed14_spec w1) ?_
          exact J.finX rfl (fun _ hw => ⟨⟨vz, lz⟩, rfl, fun _ _ _ => rfl, hF, hw⟩)
        · skip
          obtain ⟨vz, lz⟩ := x
          show J _ _ _ _ _ ((69, .bool true) :: (69, .bool true) :: _) _
          refine J.pr (fun hF => ?_)
          refine J.move rfl rfl ?_
          exact J.finX rfl (fun _ hw => ⟨⟨vz, lz⟩, rfl, fun _ _ _ => rfl, hF, hw⟩)
        · skip
          obtain ⟨vz, lz⟩ := x
          show J _ _ _ _ _ ((70, .bool true) :: _) _
          refine J.pr (fun hF => ?_)
          first | refine J.skip rfl rfl rfl rfl rfl ?_ | refine J.skipU rfl rfl rfl rfl ?_ | (refine J.unguard rfl rfl rfl ?_; refine J.move rfl rfl ?_)
          exact J.finX rfl (fun _ hw => ⟨⟨vz, lz⟩, rfl, fun _ _ _ => rfl, hF, hw⟩)
        · skip
          obtain ⟨vz, lz⟩ := x
          show J _ _ _ _ _ ((70, .bool true) :: (71, .pointer (some ⟨t1, 0, none⟩)) :: _) _
          refine J.pr (fun hF => ?_)
          first | refine J.skip rfl rfl rfl rfl rfl ?_ | refine J.skipU rfl rfl rfl rfl ?_ | (refine J.unguard rfl rfl rfl ?_; refine J.neNil Ty.u29 rfl rfl rfl ?_)
          exact J.finX rfl (fun _ hw => ⟨⟨vz, lz⟩, rfl, fun _ _ _ => rfl, hF, hw⟩)
        · skip
          obtain ⟨vz, lz⟩ := x
          show J _ _ _ _ _ ((72, .bool true) :: (70, .bool true) :: _) _
          refine J.pr (fun hF => ?_)
          (first | refine J.pickT rfl rfl rfl ?_ | refine J.pickF rfl rfl rfl ?_)
          exact J.finX rfl (fun _ hw => ⟨⟨vz, lz⟩, rfl, fun _ _ _ => rfl, hF, hw⟩)
        · skip
          obtain ⟨vz, lz⟩ := x
          show J _ _ _ _ _ ((70, .bool true) :: (73, .bool true) :: _) _
          refine J.pr (fun hF => ?_)
          refine J.move rfl rfl ?_
          exact J.finX rfl (fun _ hw => ⟨⟨vz, lz⟩, rfl, fun _ _ _ => rfl, hF, hw⟩)
        · skip
          obtain ⟨vz, lz⟩ := x
          show J _ _ _ _ _ ((74, .bool true) :: _) _
          refine J.pr (fun hF => ?_)
          first | refine J.skip rfl rfl rfl rfl rfl ?_ | refine J.skipU rfl rfl rfl rfl ?_ | (refine J.unguard rfl rfl rfl ?_; refine J.move rfl rfl ?_)
          exact J.finX rfl (fun _ hw => ⟨⟨vz, lz⟩, rfl, fun _ _ _ => rfl, hF, hw⟩)
        · skip
          obtain ⟨vz, lz⟩ := x
          show J _ _ _ _ _ ((75, .bool true) :: (74, .bool true) :: _) _
          refine J.pr (fun hF => ?_)
          (first | refine J.pickT rfl rfl rfl ?_ | refine J.pickF rfl rfl rfl ?_)
          exact J.finX rfl (fun _ hw => ⟨⟨vz, lz⟩, rfl, fun _ _ _ => rfl, hF, hw⟩)
        · skip
          obtain ⟨vz, lz⟩ := x
          show J _ _ _ _ _ ((74, .bool true) :: (76, .bool true) :: _) _
          refine J.pr (fun hF => ?_)
          refine J.move rfl rfl ?_
          exact J.finX rfl (fun _ hw => ⟨⟨vz, lz⟩, rfl, fun _ _ _ => rfl, hF, hw⟩)
        · skip
          obtain ⟨vz, lz⟩ := x
          show J _ _ _ _ _ ((77, .bool true) :: _) _
          refine J.pr (fun hF => ?_)
          refine J.unguard rfl rfl rfl ?_
          refine J.loadA (vs := cD nilV false false) Ty.a37 Ty.s37 rfl rfl (fun w1 hw => Cells.of_block (hw.own _ (.tail _ (.head _))) rfl) rfl ?_
          exact J.finX rfl (fun _ hw => ⟨⟨vz, lz⟩, rfl, fun _ _ _ => rfl, hF, hw⟩)
        · skip
          obtain ⟨vz, lz⟩ := x
          show J _ _ _ _ _ ((77, .bool true) :: _) _
          refine J.pr (fun hF => ?_)
          refine J.unguard rfl rfl rfl ?_
          refine J.loadA (vs := cD nilV false false) Ty.a90 Ty.s90 rfl rfl (fun w1 hw => Cells.of_block (hw.own _ (.head _)) rfl) rfl ?_
          exact J.finX rfl (fun _ hw => ⟨⟨vz, lz⟩, rfl, fun _ _ _ => rfl, hF, hw⟩)
        · skip
          obtain ⟨vz, lz⟩ := x
          show J _ _ _ _ _ ((77, .bool true) :: (77, .bool true) :: (79, .agg (cD nilV false false).toArray) :: (78, .agg (cD nilV false false).toArray) :: _) _
          refine J.pr (fun hF => ?_)
          refine J.unguard rfl rfl rfl ?_
          refine J.callB (v := .bool true) (fun w1 w2 hw hb => hw.step hb) Ty.bd47 rfl rfl (fun w1 hw => same_nil false false w1) ?_
          exact J.finX rfl (fun _ hw => ⟨⟨vz, lz⟩, rfl, fun _ _ _ => rfl, hF, hw⟩)
        · skip
          obtain ⟨vz, lz⟩ := x
          show J _ _ _ _ _ ((80, .bool true) :: (77, .bool true) :: _) _
          refine J.pr (fun hF => ?_)
          (first | refine J.pickT rfl rfl rfl ?_ | refine J.pickF rfl rfl rfl ?_)
          exact J.finX rfl (fun _ hw => ⟨⟨vz, lz⟩, rfl, fun _ _ _ => rfl, hF, hw⟩)
        · skip
          obtain ⟨vz, lz⟩ := x
          show J _ _ _ _ _ ((80, .bool true) :: (81, .bool true) :: _) _
          refine J.pr (fun hF => ?_)
          refine J.move rfl rfl ?_
          exact J.finX rfl (fun _ hw => ⟨⟨vz, lz⟩, rfl, fun _ _ _ => rfl, hF, hw⟩)
        · skip
          obtain ⟨vz, lz⟩ := x
          show J _ _ _ _ _ ((82, .bool true) :: _) _
          refine J.pr (fun hF => ?_)
          first | refine J.skip rfl rfl rfl rfl rfl ?_ | refine J.skipU rfl rfl rfl rfl ?_ | (refine J.unguard rfl rfl rfl ?_; refine J.move rfl rfl ?_)
          exact J.finX rfl (fun _ hw => ⟨⟨vz, lz⟩, rfl, fun _ _ _ => rfl, hF, hw⟩)
        · skip
          obtain ⟨vz, lz⟩ := x
          show J _ _ _ _ _ ((82, .bool true) :: (82, .bool true) :: (83, .pointer (some ⟨t1, 0, none⟩)) :: _) _
          refine J.pr (fun hF => ?_)
          refine J.conseq (I' := St w [] ((b11, cb (cD nilV false false) 90) :: (b10, cb (cD nilV false false) 37) :: (b9, cb (cFG (cutF f) ⟨.slice a1 (cutF f).tr.length c1, .slice a2 (cutF f).ids.length c2, .slice a4 (cutF f).val.length c4, .slice a3 (cutF f).txt.length c3⟩) 52) :: (t1, tabO mo m1) :: (m1, .map es ck) :: (b5, cb (cFG (cutF f) ⟨.slice at1 (cutF f).tr.length ct1, .slice ai1 (cutF f).ids.length ci1, .slice av1 (cutF f).val.length cv1, .slice ax1 (cutF f).txt.length cx1⟩) 52) :: (b3, cb ([.slice ae xs.length ce, iV most] ++ cW n me ++ [.slice ao os.length co_]) 85) :: (rt, rtabO (.slice ar (ordE L).length cr) mo) :: lr)) ?_ (fun w1 hw => by simp only [hm, cond_false] at hw; exact hw)
          refine J.unguard rfl rfl rfl ?_
          refine J.perm ([] ++ ((b11, cb (cD nilV false false) 90) :: (b10, cb (cD nilV false false) 37) :: (b9, cb (cFG (cutF f) ⟨.slice a1 (cutF f).tr.length c1, .slice a2 (cutF f).ids.length c2, .slice a4 (cutF f).val.length c4, .slice a3 (cutF f).txt.length c3⟩) 52) :: (t1, tabO mo m1) :: (m1, .map es ck) :: (b5, cb (cFG (cutF f) ⟨.slice at1 (cutF f).tr.length ct1, .slice ai1 (cutF f).ids.length ci1, .slice av1 (cutF f).val.length cv1, .slice ax1 (cutF f).txt.length cx1⟩) 52) :: (b3, cb ([.slice ae xs.length ce, iV most] ++ cW n me ++ [.slice ao os.length co_]) 85) :: (rt, rtabO (.slice ar (ordE L).length cr) mo) :: lr)) (.refl _) ?_
          refine J.callS (α := Value × List (Nat × Obj)) (V := (·.1)) (Pr := fun x => Vec 34 51 x.1 (ordE L).length (fE (ordE L)) x.2) (L := (·.2)) (l1 := []) Ty.bd25 rfl rfl (fun w1 hw => all_spec t1 m1 mo (L) es ck w1 (hw.own _ (.tail _ (.tail _ (.tail _ (.head _))))) (hw.own _ (.tail _ (.tail _ (.tail _ (.tail _ (.head _)))))) hT (by omega)) (fun x hvn => ?_)
          obtain ⟨vn, ln⟩ := x
          simp only at hvn ⊢
          refine J.nil (JX.finB rfl (fun w1 hw => ⟨⟨⟨vn, ln⟩, rfl, fun j h1 h2 => ?_, ?_⟩, trivial⟩))
          · match j, h1 with
            | 0, _ => (first | rfl | trivial)
            | 1, _ => (first | rfl | trivial)
            | 2, _ => (first | rfl | trivial)
            | 3, _ => (first | rfl | trivial)
            | 4, _ => (first | rfl | trivial)
            | 5, _ => (first | rfl | trivial)
            | 6, _ => (first | rfl | trivial)
            | 7, _ => (first | rfl | trivial)
            | 8, _ => (first | rfl | trivial)
            | 9, _ => (first | rfl | trivial)
            | 10, _ => (first | rfl | trivial)
            | 11, _ => (first | rfl | trivial)
            | 12, _ => (first | rfl | trivial)
            | 13, _ => (first | rfl | trivial)
            | 14, _ => (first | rfl | trivial)
            | 15, _ => exact absurd (h2.symm.trans hm) (by decide)
            | 16, _ => (first | rfl | trivial)
            | 17, _ => (first | rfl | trivial)
            | 18, _ => (first | rfl | trivial)
            | 19, _ => (first | rfl | trivial)
            | 20, _ => (first | rfl | trivial)
            | 21, _ => (first | rfl | trivial)
            | j + 22, h1 => omega
          show (true = true → Vec 34 51 vn ((ordE L)).length (fE ((ordE L))) ln) ∧ St w [] ((b11, cb (cD nilV false false) 90) :: (b10, cb (cD nilV false false) 37) :: (b9, cb (cFG (cutF f) ⟨.slice a1 (cutF f).tr.length c1, .slice a2 (cutF f).ids.length c2, .slice a4 (cutF f).val.length c4, .slice a3 (cutF f).txt.length c3⟩) 52) :: (t1, tabO mo m1) :: (m1, .map es ck) :: (b5, cb (cFG (cutF f) ⟨.slice at1 (cutF f).tr.length ct1, .slice ai1 (cutF f).ids.length ci1, .slice av1 (cutF f).val.length cv1, .slice ax1 (cutF f).txt.length cx1⟩) 52) :: (b3, cb ([.slice ae xs.length ce, iV most] ++ cW n me ++ [.slice ao os.length co_]) 85) :: (rt, rtabO (.slice ar (ordE L).length cr) mo) :: ((bif true then ln else []) ++ lr)) w1
          simp only [hm, cond_true, cond_false] at hw ⊢
          exact ⟨fun _ => hvn, hw.perm (by (refine perm_cnt (fun _ => ?_)); simp only [cntB_append, cntB_cons, cntB_nil, Nat.add_zero, Nat.zero_add]; try ac_rfl)⟩
        · skip
          obtain ⟨vz, lz⟩ := x
          show J _ _ _ _ _ ((82, .bool true) :: _) _
          refine J.pr (fun hF => ?_)
          first | refine J.skip rfl rfl rfl rfl rfl ?_ | refine J.skipU rfl rfl rfl rfl ?_ | (refine J.unguard rfl rfl rfl ?_; refine J.move rfl rfl ?_)
          exact J.finX rfl (fun _ hw => ⟨⟨vz, lz⟩, rfl, fun _ _ _ => rfl, hF, hw⟩)
        · skip
          obtain ⟨vz, lz⟩ := x
          show J _ _ _ _ _ ((82, .bool true) :: (85, .pointer (some ⟨rt, 0, none⟩)) :: _) _
          refine J.pr (fun hF => ?_)
          first | refine J.skip rfl rfl rfl rfl rfl ?_ | refine J.skipU rfl rfl rfl rfl ?_ | (refine J.unguard rfl rfl rfl ?_; refine J.nilCheck rfl rfl ?_)
          exact J.finX rfl (fun _ hw => ⟨⟨vz, lz⟩, rfl, fun _ _ _ => rfl, hF, hw⟩)
        · skip
          obtain ⟨vz, lz⟩ := x
          show J _ _ _ _ _ ((82, .bool true) :: (86, .pointer (some ⟨rt, 0, none⟩)) :: _) _
          refine J.pr (fun hF => ?_)
          first | refine J.skip rfl rfl rfl rfl rfl ?_ | refine J.skipU rfl rfl rfl rfl ?_ | (refine J.unguard rfl rfl rfl ?_; refine J.fieldAddr Ty.fd82_0 rfl rfl ?_)
          exact J.finX rfl (fun _ hw => ⟨⟨vz, lz⟩, rfl, fun _ _ _ => rfl, hF, hw⟩)
        · skip
          obtain ⟨vz, lz⟩ := x
          show J _ _ _ _ _ ((82, .bool true) :: (87, .pointer (some ⟨rt, 0 + 0, none⟩)) :: _) _
          refine J.pr (fun hF => ?_)
          refine J.unguard rfl rfl rfl ?_
          refine J.load1 (v := .slice ar (ordE L).length cr) Ty.a62 rfl (fun w1 hw => by rw [cell_of (hw.own _ (.tail _ (.tail _ (.tail _ (.tail _ (.tail _ (.tail _ (.tail _ (.head _)))))))))]; rfl) rfl ?_
          exact J.finX rfl (fun _ hw => ⟨⟨vz, lz⟩, rfl, fun _ _ _ => rfl, hF, hw⟩)
        · skip
          obtain ⟨vz, lz⟩ := x
          show J _ _ _ _ _ ((82, .bool true) :: (84, vz) :: (88, .slice ar (ordE L).length cr) :: (84, vz) :: _) _
          have hp15 : m 15 = true := predsT hp (by kernel_rfl)
          have hp15 : m 15 = true := predsT hp (by kernel_rfl)
          refine J.pr (fun hF => ?_)
          refine J.unguard rfl rfl rfl ?_
          refine J.callB (v := .bool true) (fun w1 w2 hw hb => hw.step hb) Ty.bd26 rfl rfl (fun w1 hw => (by have h := rsame_spec _ _ ((ordE L)) ((ordE L)) w1 (vec_rowM (l := (b11, cb (cD nilV false false) 90) :: (b10, cb (cD nilV false false) 37) :: (b9, cb (cFG (cutF f) ⟨.slice a1 (cutF f).tr.length c1, .slice a2 (cutF f).ids.length c2, .slice a4 (cutF f).val.length c4, .slice a3 (cutF f).txt.length c3⟩) 52) :: (t1, tabO mo m1) :: (m1, .map es ck) :: (b5, cb (cFG (cutF f) ⟨.slice at1 (cutF f).tr.length ct1, .slice ai1 (cutF f).ids.length ci1, .slice av1 (cutF f).val.length cv1, .slice ax1 (cutF f).txt.length cx1⟩) 52) :: (b3, cb ([.slice ae xs.length ce, iV most] ++ cW n me ++ [.slice ao os.length co_]) 85) :: (rt, rtabO (.slice ar (ordE L).length cr) mo) :: (lz ++ lr)) (hF hp15) (by simp only [hp15, cond_true] at hw; exact hw) (fun q hq => by first | (simp [hq]; done) | (simp at hq; simp [hq]; done) | (simp at hq; subst hq; simp))) (vec_rowM (l := (b11, cb (cD nilV false false) 90) :: (b10, cb (cD nilV false false) 37) :: (b9, cb (cFG (cutF f) ⟨.slice a1 (cutF f).tr.length c1, .slice a2 (cutF f).ids.length c2, .slice a4 (cutF f).val.length c4, .slice a3 (cutF f).txt.length c3⟩) 52) :: (t1, tabO mo m1) :: (m1, .map es ck) :: (b5, cb (cFG (cutF f) ⟨.slice at1 (cutF f).tr.length ct1, .slice ai1 (cutF f).ids.length ci1, .slice av1 (cutF f).val.length cv1, .slice ax1 (cutF f).txt.length cx1⟩) 52) :: (b3, cb ([.slice ae xs.length ce, iV most] ++ cW n me ++ [.slice ao os.length co_]) 85) :: (rt, rtabO (.slice ar (ordE L).length cr) mo) :: (lz ++ lr)) hvr (by simp only [hp15, cond_true] at hw; exact hw) (fun q hq => by first | (simp [hq]; done) | (simp at hq; simp [hq]; done) | (simp at hq; subst hq; simp))) (ordE_ok hT) (ordE_ok hT) (by omega) (by omega); simpa using h)) ?_
          exact J.finX rfl (fun _ hw => ⟨⟨vz, lz⟩, rfl, fun _ _ _ => rfl, hF, hw⟩)
        · skip
          obtain ⟨vz, lz⟩ := x
          show J _ _ _ _ _ ((89, .bool true) :: (82, .bool true) :: _) _
          refine J.pr (fun hF => ?_)
          (first | refine J.pickT rfl rfl rfl ?_ | refine J.pickF rfl rfl rfl ?_)
          exact J.finX rfl (fun _ hw => ⟨⟨vz, lz⟩, rfl, fun _ _ _ => rfl, hF, hw⟩)
      case htail =>
        intro x
        obtain ⟨vz, lz⟩ := x
        show J _ _ _ _ _ ((90, .bool true) :: (89, .bool true) :: (88, .slice ar (ordE L).length cr) :: (87, .pointer (some ⟨rt, 0 + 0, none⟩)) :: (86, .pointer (some ⟨rt, 0, none⟩)) :: (85, .pointer (some ⟨rt, 0, none⟩)) :: (84, vz) :: (83, .pointer (some ⟨t1, 0, none⟩)) :: (82, .bool true) :: (81, .bool true) :: (80, .bool true) :: (79, .agg (cD nilV false false).toArray) :: (78, .agg (cD nilV false false).toArray) :: (77, .bool true) :: (76, .bool true) :: (75, .bool true) :: (74, .bool true) :: (73, .bool true) :: (72, .bool true) :: (71, .pointer (some ⟨t1, 0, none⟩)) :: (70, .bool true) :: (69, .bool true) :: _) (fun w1 => (true = true → Vec 34 51 vz ((ordE L)).length (fE ((ordE L))) lz) ∧ St w [] ((b11, cb (cD nilV false false) 90) :: (b10, cb (cD nilV false false) 37) :: (b9, cb (cFG (cutF f) ⟨.slice a1 (cutF f).tr.length c1, .slice a2 (cutF f).ids.length c2, .slice a4 (cutF f).val.length c4, .slice a3 (cutF f).txt.length c3⟩) 52) :: (t1, tabO mo m1) :: (m1, .map es ck) :: (b5, cb (cFG (cutF f) ⟨.slice at1 (cutF f).tr.length ct1, .slice ai1 (cutF f).ids.length ci1, .slice av1 (cutF f).val.length cv1, .slice ax1 (cutF f).txt.length cx1⟩) 52) :: (b3, cb ([.slice ae xs.length ce, iV most] ++ cW n me ++ [.slice ao os.length co_]) 85) :: (rt, rtabO (.slice ar (ordE L).length cr) mo) :: ((bif true then lz else []) ++ lr)) w1)
        refine J.pr (fun hF => ?_)
        refine J.assign rfl rfl ?_
        refine J.nil ?_
        refine JX.thenN (hK13 _ _ ?_)
        refine JC.ret ?_
        refine JX.ret1 rfl rfl (fun w hw => ?_)
        exact ⟨rfl, (hw.drop (List.nil_sublist _)).below⟩
  · skip
    obtain ⟨hk, hnd, i, hi, hi2, hat, hfrom⟩ := good_take hbad
    rcases back_go me (cutF f) os i hi2 with hbk | ⟨nb, hgo⟩
    · skip
      refine JC.region ?_
      refine J.move rfl rfl ?_
      refine J.fieldAddr Ty.fd85_2 rfl rfl ?_
      refine J.loadOA (vs := cW n me) Ty.a41 Ty.s41 rfl (.tail _ (.tail _ (.tail _ (.tail _ (.head _))))) rfl rfl rfl ?_
      refine J.move rfl rfl ?_
      refine J.loadOA (vs := cFG (cutF f) ⟨.slice a1 (cutF f).tr.length c1, .slice a2 (cutF f).ids.length c2, .slice a4 (cutF f).val.length c4, .slice a3 (cutF f).txt.length c3⟩) Ty.a52 Ty.s52 rfl (.head _) rfl rfl rfl ?_
      refine J.fieldAddr Ty.fd85_3 rfl rfl ?_
      refine J.loadO (v := .slice ao os.length co_) Ty.a28 rfl (.tail _ (.tail _ (.tail _ (.tail _ (.head _))))) rfl rfl ?_
      refine J.perm ([(t1, tabO mo m1), (m1, .map es ck)] ++ ((b9, cb (cFG (cutF f) ⟨.slice a1 (cutF f).tr.length c1, .slice a2 (cutF f).ids.length c2, .slice a4 (cutF f).val.length c4, .slice a3 (cutF f).txt.length c3⟩) 52) :: (b5, cb (cFG (cutF f) ⟨.slice at1 (cutF f).tr.length ct1, .slice ai1 (cutF f).ids.length ci1, .slice av1 (cutF f).val.length cv1, .slice ax1 (cutF f).txt.length cx1⟩) 52) :: (b3, cb ([.slice ae xs.length ce, iV most] ++ cW n me ++ [.slice ao os.length co_]) 85) :: (rt, rtabO (.slice ar (ordE L).length cr) mo) :: (lr ++ (l1 ++ (l2 ++ (l3 ++ l4)))))) (by (refine perm_cnt (fun _ => ?_)); simp only [cntB_append, cntB_cons, cntB_nil, Nat.add_zero, Nat.zero_add]; try ac_rfl) ?_
      refine J.callS (α := Nat) (V := fun x => .agg (cD (.slice (some ⟨x, 0, none⟩) 1 1) false false).toArray) (Pr := fun x => True) (L := fun x => (x, cb (cH fr (cF 5 (cutF f).p zI zI nilV)) 54) :: [(t1, tabO mo m1), (m1, .map es ck)]) (l1 := [(t1, tabO mo m1), (m1, .map es ck)]) Ty.bd19 rfl rfl (fun w1 hw => gtake_back t1 m1 mo L es ck n fr me (cutF f) ⟨.slice a1 (cutF f).tr.length c1, .slice a2 (cutF f).ids.length c2, .slice a4 (cutF f).val.length c4, .slice a3 (cutF f).txt.length c3⟩ _ os w1 ⟨(vec_rowM hv1 hw (fun q hq => by first | (simp [hq]; done) | (simp at hq; simp [hq]; done) | (simp at hq; subst hq; simp))), (vec_rowM hv2 hw (fun q hq => by first | (simp [hq]; done) | (simp at hq; simp [hq]; done) | (simp at hq; subst hq; simp))), (vec_rowM hv4 hw (fun q hq => by first | (simp [hq]; done) | (simp at hq; simp [hq]; done) | (simp at hq; subst hq; simp))), (vec_rowM hv3 hw (fun q hq => by first | (simp [hq]; done) | (simp at hq; simp [hq]; done) | (simp at hq; subst hq; simp)))⟩ ⟨(hv1.off (hw.perm (l' := [(t1, tabO mo m1), (m1, .map es ck)] ++ (l1 ++ ((b9, cb (cFG (cutF f) ⟨.slice a1 (cutF f).tr.length c1, .slice a2 (cutF f).ids.length c2, .slice a4 (cutF f).val.length c4, .slice a3 (cutF f).txt.length c3⟩) 52) :: (b5, cb (cFG (cutF f) ⟨.slice at1 (cutF f).tr.length ct1, .slice ai1 (cutF f).ids.length ci1, .slice av1 (cutF f).val.length cv1, .slice ax1 (cutF f).txt.length cx1⟩) 52) :: (b3, cb ([.slice ae xs.length ce, iV most] ++ cW n me ++ [.slice ao os.length co_]) 85) :: (rt, rtabO (.slice ar (ordE L).length cr) mo) :: (lr ++ (l2 ++ l3 ++ l4))))) (by (refine perm_cnt (fun _ => ?_)); simp only [cntB_append, cntB_cons, cntB_nil, Nat.add_zero, Nat.zero_add]; try ac_rfl))), (hv2.off (hw.perm (l' := [(t1, tabO mo m1), (m1, .map es ck)] ++ (l2 ++ ((b9, cb (cFG (cutF f) ⟨.slice a1 (cutF f).tr.length c1, .slice a2 (cutF f).ids.length c2, .slice a4 (cutF f).val.length c4, .slice a3 (cutF f).txt.length c3⟩) 52) :: (b5, cb (cFG (cutF f) ⟨.slice at1 (cutF f).tr.length ct1, .slice ai1 (cutF f).ids.length ci1, .slice av1 (cutF f).val.length cv1, .slice ax1 (cutF f).txt.length cx1⟩) 52) :: (b3, cb ([.slice ae xs.length ce, iV most] ++ cW n me ++ [.slice ao os.length co_]) 85) :: (rt, rtabO (.slice ar (ordE L).length cr) mo) :: (lr ++ (l1 ++ l3 ++ l4))))) (by (refine perm_cnt (fun _ => ?_)); simp only [cntB_append, cntB_cons, cntB_nil, Nat.add_zero, Nat.zero_add]; try ac_rfl))), (hv4.off (hw.perm (l' := [(t1, tabO mo m1), (m1, .map es ck)] ++ (l4 ++ ((b9, cb (cFG (cutF f) ⟨.slice a1 (cutF f).tr.length c1, .slice a2 (cutF f).ids.length c2, .slice a4 (cutF f).val.length c4, .slice a3 (cutF f).txt.length c3⟩) 52) :: (b5, cb (cFG (cutF f) ⟨.slice at1 (cutF f).tr.length ct1, .slice ai1 (cutF f).ids.length ci1, .slice av1 (cutF f).val.length cv1, .slice ax1 (cutF f).txt.length cx1⟩) 52) :: (b3, cb ([.slice ae xs.length ce, iV most] ++ cW n me ++ [.slice ao os.length co_]) 85) :: (rt, rtabO (.slice ar (ordE L).length cr) mo) :: (lr ++ (l1 ++ l2 ++ l3))))) (by (refine perm_cnt (fun _ => ?_)); simp only [cntB_append, cntB_cons, cntB_nil, Nat.add_zero, Nat.zero_add]; try ac_rfl))), (hv3.off (hw.perm (l' := [(t1, tabO mo m1), (m1, .map es ck)] ++ (l3 ++ ((b9, cb (cFG (cutF f) ⟨.slice a1 (cutF f).tr.length c1, .slice a2 (cutF f).ids.length c2, .slice a4 (cutF f).val.length c4, .slice a3 (cutF f).txt.length c3⟩) 52) :: (b5, cb (cFG (cutF f) ⟨.slice at1 (cutF f).tr.length ct1, .slice ai1 (cutF f).ids.length ci1, .slice av1 (cutF f).val.length cv1, .slice ax1 (cutF f).txt.length cx1⟩) 52) :: (b3, cb ([.slice ae xs.length ce, iV most] ++ cW n me ++ [.slice ao os.length co_]) 85) :: (rt, rtabO (.slice ar (ordE L).length cr) mo) :: (lr ++ (l1 ++ l2 ++ l4))))) (by (refine perm_cnt (fun _ => ?_)); simp only [cntB_append, cntB_cons, cntB_nil, Nat.add_zero, Nat.zero_add]; try ac_rfl)))⟩ hg1 (by omega) hk hf1.p hfr i hi hi2 hat hfrom hnd (hro.below (hw.drop (List.nil_sublist _)).below) (hro.offNew hw (fun x hx => List.mem_append_left _ hx)) (by omega) hw.owns hT hbk) (fun hz hy9 => ?_)
      simp only [List.cons_append, List.nil_append] at hy9 ⊢
      refine J.perm ((b9, cb (cFG (cutF f) ⟨.slice a1 (cutF f).tr.length c1, .slice a2 (cutF f).ids.length c2, .slice a4 (cutF f).val.length c4, .slice a3 (cutF f).txt.length c3⟩) 52) :: (t1, tabO mo m1) :: (m1, .map es ck) :: (b5, cb (cFG (cutF f) ⟨.slice at1 (cutF f).tr.length ct1, .slice ai1 (cutF f).ids.length ci1, .slice av1 (cutF f).val.length cv1, .slice ax1 (cutF f).txt.length cx1⟩) 52) :: (b3, cb ([.slice ae xs.length ce, iV most] ++ cW n me ++ [.slice ao os.length co_]) 85) :: (rt, rtabO (.slice ar (ordE L).length cr) mo) :: (lr ++ ((hz, cb (cH fr (cF 5 (cutF f).p zI zI nilV)) 54) :: (l1 ++ (l2 ++ (l3 ++ l4)))))) (by (refine perm_cnt (fun _ => ?_)); simp only [cntB_append, cntB_cons, cntB_nil, Nat.add_zero, Nat.zero_add]; try ac_rfl) ?_
      refine J.alloc zN rfl rfl (fun b10 => ?_)
      refine J.storeW (cs := cD nilV false false) (vs := cD (.slice (some ⟨hz, 0, none⟩) 1 1) false false) Ty.s37 rfl rfl rfl rfl rfl (by simp [Value.oneCell']) .here ?_
      refine J.nil ?_
      refine JX.thenN (hK4 _ _ ?_)
      refine JC.seq (fun K14 hK14 => ?_)
      refine JC.region ?_
      refine J.move rfl rfl ?_
      refine J.fieldAddr Ty.fd85_2 rfl rfl ?_
      refine J.fieldAddr Ty.fd41_0 rfl rfl ?_
      refine J.loadO (v := iV n) Ty.a3 rfl (.tail _ (.tail _ (.tail _ (.tail _ (.tail _ (.head _)))))) rfl rfl ?_
      refine J.fieldAddr Ty.fd85_2 rfl rfl ?_
      refine J.fieldAddr Ty.fd41_1 rfl rfl ?_
      refine J.loadOA (vs := cI me) Ty.a23 Ty.s23 rfl (.tail _ (.tail _ (.tail _ (.tail _ (.tail _ (.head _)))))) rfl rfl rfl ?_
      refine J.move rfl rfl ?_
      refine J.loadOA (vs := cFG (cutF f) ⟨.slice at1 (cutF f).tr.length ct1, .slice ai1 (cutF f).ids.length ci1, .slice av1 (cutF f).val.length cv1, .slice ax1 (cutF f).txt.length cx1⟩) Ty.a52 Ty.s52 rfl (.tail _ (.tail _ (.tail _ (.tail _ (.head _))))) rfl rfl rfl ?_
      refine J.fieldAddr Ty.fd85_3 rfl rfl ?_
      refine J.loadO (v := .slice ao os.length co_) Ty.a28 rfl (.tail _ (.tail _ (.tail _ (.tail _ (.tail _ (.head _)))))) rfl rfl ?_
      refine J.perm (((rt, rtabO (.slice ar (ordE L).length cr) mo) :: lr) ++ ((b10, cb (cD (.slice (some ⟨hz, 0, none⟩) 1 1) false false) 37) :: (b9, cb (cFG (cutF f) ⟨.slice a1 (cutF f).tr.length c1, .slice a2 (cutF f).ids.length c2, .slice a4 (cutF f).val.length c4, .slice a3 (cutF f).txt.length c3⟩) 52) :: (t1, tabO mo m1) :: (m1, .map es ck) :: (b5, cb (cFG (cutF f) ⟨.slice at1 (cutF f).tr.length ct1, .slice ai1 (cutF f).ids.length ci1, .slice av1 (cutF f).val.length cv1, .slice ax1 (cutF f).txt.length cx1⟩) 52) :: (b3, cb ([.slice ae xs.length ce, iV most] ++ cW n me ++ [.slice ao os.length co_]) 85) :: ((hz, cb (cH fr (cF 5 (cutF f).p zI zI nilV)) 54) :: (l1 ++ (l2 ++ (l3 ++ l4)))))) (by (refine perm_cnt (fun _ => ?_)); simp only [cntB_append, cntB_cons, cntB_nil, Nat.add_zero, Nat.zero_add]; try ac_rfl) ?_
      refine J.callS (α := Nat) (V := fun x => .agg (cD (.slice (some ⟨x, 0, none⟩) 1 1) false false).toArray) (Pr := fun x => True) (L := fun x => (x, cb (cH fr (cF 5 (cutF f).p zI zI nilV)) 54) :: ((rt, rtabO (.slice ar (ordE L).length cr) mo) :: lr)) (l1 := ((rt, rtabO (.slice ar (ordE L).length cr) mo) :: lr)) Ty.bd49 rfl rfl (fun w1 hw => rtake_back rt _ mo L lr es ck n fr me (cutF f) ⟨.slice at1 (cutF f).tr.length ct1, .slice ai1 (cutF f).ids.length ci1, .slice av1 (cutF f).val.length cv1, .slice ax1 (cutF f).txt.length cx1⟩ _ os w1 (rows_cut (hs.below (hw.drop (List.nil_sublist _)).below)) ⟨((rows_cut hs).tr.offNew hw (fun x hx => List.mem_append_left _ hx)), (hs.ids.offNew hw (fun x hx => List.mem_append_left _ hx)), (hs.val.offNew hw (fun x hx => List.mem_append_left _ hx)), (hs.txt.offNew hw (fun x hx => List.mem_append_left _ hx))⟩ hg1 (by omega) hk hf1.p hfr i hi hi2 hat hfrom hnd (hro.below (hw.drop (List.nil_sublist _)).below) (hro.offNew hw (fun x hx => List.mem_append_left _ hx)) (by omega) hw.owns hT hl128 hvr hbk) (fun hy hy9 => ?_)
      simp only [List.cons_append, List.nil_append] at hy9 ⊢
      refine J.perm ((b10, cb (cD (.slice (some ⟨hz, 0, none⟩) 1 1) false false) 37) :: (b9, cb (cFG (cutF f) ⟨.slice a1 (cutF f).tr.length c1, .slice a2 (cutF f).ids.length c2, .slice a4 (cutF f).val.length c4, .slice a3 (cutF f).txt.length c3⟩) 52) :: (t1, tabO mo m1) :: (m1, .map es ck) :: (b5, cb (cFG (cutF f) ⟨.slice at1 (cutF f).tr.length ct1, .slice ai1 (cutF f).ids.length ci1, .slice av1 (cutF f).val.length cv1, .slice ax1 (cutF f).txt.length cx1⟩) 52) :: (b3, cb ([.slice ae xs.length ce, iV most] ++ cW n me ++ [.slice ao os.length co_]) 85) :: (rt, rtabO (.slice ar (ordE L).length cr) mo) :: ((lr ++ [(hz, cb (cH fr (cF 5 (cutF f).p zI zI nilV)) 54), (hy, cb (cH fr (cF 5 (cutF f).p zI zI nilV)) 54)]) ++ (l1 ++ (l2 ++ (l3 ++ l4))))) (by (refine perm_cnt (fun _ => ?_)); simp only [cntB_append, cntB_cons, cntB_nil, Nat.add_zero, Nat.zero_add]; try ac_rfl) ?_
      refine J.alloc zN_ rfl rfl (fun b11 => ?_)
      refine J.storeW (cs := cD nilV false false) (vs := cD (.slice (some ⟨hy, 0, none⟩) 1 1) false false) Ty.s90 rfl rfl rfl rfl rfl (by simp [Value.oneCell']) .here ?_
      refine J.perm ((b11, cb (cD (.slice (some ⟨hy, 0, none⟩) 1 1) false false) 90) :: (b10, cb (cD (.slice (some ⟨hz, 0, none⟩) 1 1) false false) 37) :: (b9, cb (cFG (cutF f) ⟨.slice a1 (cutF f).tr.length c1, .slice a2 (cutF f).ids.length c2, .slice a4 (cutF f).val.length c4, .slice a3 (cutF f).txt.length c3⟩) 52) :: (t1, tabO mo m1) :: (m1, .map es ck) :: (b5, cb (cFG (cutF f) ⟨.slice at1 (cutF f).tr.length ct1, .slice ai1 (cutF f).ids.length ci1, .slice av1 (cutF f).val.length cv1, .slice ax1 (cutF f).txt.length cx1⟩) 52) :: (b3, cb ([.slice ae xs.length ce, iV most] ++ cW n me ++ [.slice ao os.length co_]) 85) :: (rt, rtabO (.slice ar (ordE L).length cr) mo) :: ((lr ++ [(hz, cb (cH fr (cF 5 (cutF f).p zI zI nilV)) 54), (hy, cb (cH fr (cF 5 (cutF f).p zI zI nilV)) 54)]) ++ (l1 ++ (l2 ++ (l3 ++ l4))))) (by (refine perm_cnt (fun _ => ?_)); simp only [cntB_append, cntB_cons, cntB_nil, Nat.add_zero, Nat.zero_add]; try ac_rfl) ?_
      refine J.nil ?_
      refine JX.thenN (hK14 _ _ ?_)
      refine JC.seq (fun K15 hK15 => ?_)
      refine JC.region ?_
      refine J.loadOA (vs := cFG (cutF f) ⟨.slice at1 (cutF f).tr.length ct1, .slice ai1 (cutF f).ids.length ci1, .slice av1 (cutF f).val.length cv1, .slice ax1 (cutF f).txt.length cx1⟩) Ty.a52 Ty.s52 rfl (.tail _ (.tail _ (.tail _ (.tail _ (.tail _ (.head _)))))) rfl rfl rfl ?_
      refine J.loadOA (vs := cFG (cutF f) ⟨.slice a1 (cutF f).tr.length c1, .slice a2 (cutF f).ids.length c2, .slice a4 (cutF f).val.length c4, .slice a3 (cutF f).txt.length c3⟩) Ty.a52 Ty.s52 rfl (.tail _ (.tail _ (.head _))) rfl rfl rfl ?_
      refine J.callB (v := .bool true) (fun w1 w2 hw hb => hw.step hb) Ty.bd50 rfl rfl (fun w1 hw => same04_spec (cutF f) hf1 ⟨.slice at1 (cutF f).tr.length ct1, .slice ai1 (cutF f).ids.length ci1, .slice av1 (cutF f).val.length cv1, .slice ax1 (cutF f).txt.length cx1⟩ ⟨.slice a1 (cutF f).tr.length c1, .slice a2 (cutF f).ids.length c2, .slice a4 (cutF f).val.length c4, .slice a3 (cutF f).txt.length c3⟩ w1 (rows_cut (hs.below (hw.drop (List.nil_sublist _)).below)) ⟨(vec_rowM hv1 hw (fun q hq => by first | (simp [hq]; done) | (simp at hq; simp [hq]; done) | (simp at hq; subst hq; simp))), (vec_rowM hv2 hw (fun q hq => by first | (simp [hq]; done) | (simp at hq; simp [hq]; done) | (simp at hq; subst hq; simp))), (vec_rowM hv4 hw (fun q hq => by first | (simp [hq]; done) | (simp at hq; simp [hq]; done) | (simp at hq; subst hq; simp))), (vec_rowM hv3 hw (fun q hq => by first | (simp [hq]; done) | (simp at hq; simp [hq]; done) | (simp at hq; subst hq; simp)))⟩) ?_
      refine J.assign rfl rfl ?_
      refine J.nil ?_
      refine JX.thenN (hK15 _ _ ?_)
      refine JC.seq (fun K16 hK16 => ?_)
      refine JC.seq (fun K17 hK17 => ?_)
      refine JC.region ?_
      refine J.fieldAddr Ty.fd52_8 rfl rfl ?_
      refine J.loadO (v := .slice a1 (cutF f).tr.length c1) Ty.a26 rfl (.tail _ (.tail _ (.head _))) rfl rfl ?_
      refine J.lenS rfl Ty.u26 rfl rfl ?_
      refine J.move rfl rfl ?_
      refine J.nil ?_
      refine JX.thenN (hK17 _ _ ?_)
      refine JC.block ?_
      refine JC.conseq (JC.cov (f := (fun st => [(7, .pointer (some ⟨t1, 0, none⟩)), (8, .pointer (some ⟨rt, 0, none⟩)), (9, .pointer (some ⟨b9, 0, none⟩)), (10, .pointer (some ⟨b10, 0, none⟩)), (11, .pointer (some ⟨b11, 0, none⟩)), (12, .bool true), (57, .int .i64 (((cutF f).tr.length : Nat) : Int)), (58, .int .i64 ((st.1 : Nat) : Int))]) ((0, l1) : Nat × List (Nat × Obj))) ⟨rfl, rfl, rfl, rfl, rfl, rfl, rfl, rfl, trivial⟩ (JC.loop (α := Nat × List (Nat × Obj)) (fun st => [(7, .pointer (some ⟨t1, 0, none⟩)), (8, .pointer (some ⟨rt, 0, none⟩)), (9, .pointer (some ⟨b9, 0, none⟩)), (10, .pointer (some ⟨b10, 0, none⟩)), (11, .pointer (some ⟨b11, 0, none⟩)), (12, .bool true), (57, .int .i64 (((cutF f).tr.length : Nat) : Int)), (58, .int .i64 ((st.1 : Nat) : Int))]) (fun st w' => (st.1 ≤ (cutF f).tr.length ∧ IBlk (.slice a1 (cutF f).tr.length c1) (cutF f).tr.length st.2) ∧ St w [] (st.2 ++ ((b11, cb (cD (.slice (some ⟨hy, 0, none⟩) 1 1) false false) 90) :: (b10, cb (cD (.slice (some ⟨hz, 0, none⟩) 1 1) false false) 37) :: (b9, cb (cFG (cutF f) ⟨.slice a1 (cutF f).tr.length c1, .slice a2 (cutF f).ids.length c2, .slice a4 (cutF f).val.length c4, .slice a3 (cutF f).txt.length c3⟩) 52) :: (t1, tabO mo m1) :: (m1, .map es ck) :: (b5, cb (cFG (cutF f) ⟨.slice at1 (cutF f).tr.length ct1, .slice ai1 (cutF f).ids.length ci1, .slice av1 (cutF f).val.length cv1, .slice ax1 (cutF f).txt.length cx1⟩) 52) :: (b3, cb ([.slice ae xs.length ce, iV most] ++ cW n me ++ [.slice ao os.length co_]) 85) :: (rt, rtabO (.slice ar (ordE L).length cr) mo) :: ((lr ++ [(hz, cb (cH fr (cF 5 (cutF f).p zI zI nilV)) 54), (hy, cb (cH fr (cF 5 (cutF f).p zI zI nilV)) 54)]) ++ (l2 ++ (l3 ++ l4))))) w') (fun st => (cutF f).tr.length - st.1) ((0, l1) : Nat × List (Nat × Obj)) (fun st => ?_))) (fun w hw => ⟨⟨Nat.zero_le _, iblk_of hv1⟩, hw.perm (by (refine perm_cnt (fun _ => ?_)); simp only [cntB_append, cntB_cons, cntB_nil, Nat.add_zero, Nat.zero_add]; try ac_rfl)⟩)
      obtain ⟨ix, lj⟩ := st
      refine JC.pr (fun hx1 => ?_)
      obtain ⟨hij, hbl⟩ := hx1
      simp only at hij hbl ⊢
      refine JC.seq (fun K18 hK18 => ?_)
      refine JC.region ?_
      refine J.bin rfl rfl rfl rfl ?_
      refine J.nil ?_
      refine JX.thenN (hK18 _ _ ?_)
      refine JC.seq (fun K19 hK19 => ?_)
      refine JC.cond rfl (fun h0 => ?_) (fun h0 => ?_)
      · skip
        have hlt : ix < (cutF f).tr.length := by simp at h0; omega
        obtain ⟨qv, ys, sp, rfl, rfl, hys, hyc⟩ := iblk_pos hbl (by omega)
        obtain ⟨yi, hyi⟩ : ∃ y, ys[ix]? = some y := ⟨_, List.getElem?_eq_getElem (by omega)⟩
        refine JC.skip ?_
        refine JX.thenN (hK19 _ _ ?_)
        refine JC.seq (fun K20 hK20 => ?_)
        refine JC.block ?_
        refine JC.seq (fun K21 hK21 => ?_)
        refine JC.region ?_
        refine J.move rfl rfl ?_
        refine J.assign rfl rfl ?_
        refine J.nil ?_
        refine JX.thenN (hK21 _ _ ?_)
        refine JC.region ?_
        refine J.fieldAddr Ty.fd52_8 rfl rfl ?_
        refine J.loadO (v := .slice (some ⟨qv, 0, none⟩) (cutF f).tr.length c1) Ty.a26 rfl (.tail _ (.tail _ (.tail _ (.head _)))) rfl rfl ?_
        refine J.move rfl rfl ?_
        refine J.indexAddrS Ty.el26 Ty.s3 rfl rfl (by omega) (by omega) rfl ?_
        refine J.load1 (v := iV yi) Ty.a3 rfl (fun w1 hw => rowI_at2 (i := ix) (Row.own (cs := ys.map iV ++ sp) (tb := 3) (fr := (0, 0)) hw (.head _) (by simp) hyc : Row w1 (.slice (some ⟨qv, 0, none⟩) (cutF f).tr.length c1) (cutF f).tr.length (ys.map iV)) hyi (by simp)) rfl ?_
        refine J.bin rfl rfl rfl rfl ?_
        refine J.name 66 rfl (show _ = iV (IntKind.wrap .i64 (yi + 1)) from rfl) ?_
        refine J.indexAddrS Ty.el26 Ty.s3 rfl rfl (by omega) (by omega) rfl ?_
        refine J.storeO (cs := ys.map iV ++ sp) (vs := [iV (IntKind.wrap .i64 (yi + 1))]) Ty.s3 rfl rfl rfl rfl (by simp [Value.oneCell']) .here (by simp; omega) ?_
        refine J.nil ?_
        refine JX.blockN ?_
        refine JX.thenN (hK20 _ _ ?_)
        refine JC.region ?_
        (first | refine J.addN rfl rfl (by omega) (by omega) rfl ?_ | refine J.bin rfl rfl rfl rfl ?_)
        refine J.move rfl rfl ?_
        refine J.nil ?_
        refine JX.thenN ?_
        refine JX.again ((ix + 1, [(qv, cb ((ys.set ix (IntKind.wrap .i64 (yi + 1))).map iV ++ sp) 3)]) : Nat × List (Nat × Obj)) ?_ ?_ ?_
        · simp only; omega
        · exact ⟨rfl, rfl, rfl, rfl, rfl, rfl, rfl, rfl, trivial⟩
        · exact fun w1 hw => ⟨⟨hlt, .inr ⟨qv, _, _, sp, rfl, rfl, by rw [List.length_set]; exact hys, hyc⟩⟩, by rw [set_int (i := ix) (by omega) (by simp)] at hw; exact hw⟩
      · skip
        refine JC.conseq (I' := St w [] ((b11, cb (cD (.slice (some ⟨hy, 0, none⟩) 1 1) false false) 90) :: (b10, cb (cD (.slice (some ⟨hz, 0, none⟩) 1 1) false false) 37) :: (b9, cb (cFG (cutF f) ⟨.slice a1 (cutF f).tr.length c1, .slice a2 (cutF f).ids.length c2, .slice a4 (cutF f).val.length c4, .slice a3 (cutF f).txt.length c3⟩) 52) :: (t1, tabO mo m1) :: (m1, .map es ck) :: (b5, cb (cFG (cutF f) ⟨.slice at1 (cutF f).tr.length ct1, .slice ai1 (cutF f).ids.length ci1, .slice av1 (cutF f).val.length cv1, .slice ax1 (cutF f).txt.length cx1⟩) 52) :: (b3, cb ([.slice ae xs.length ce, iV most] ++ cW n me ++ [.slice ao os.length co_]) 85) :: (rt, rtabO (.slice ar (ordE L).length cr) mo) :: (lr ++ [(hz, cb (cH fr (cF 5 (cutF f).p zI zI nilV)) 54), (hy, cb (cH fr (cF 5 (cutF f).p zI zI nilV)) 54)]))) ?_ (fun w1 hw => (hw.perm (l' := (lj ++ (l2 ++ (l3 ++ l4))) ++ ((b11, cb (cD (.slice (some ⟨hy, 0, none⟩) 1 1) false false) 90) :: (b10, cb (cD (.slice (some ⟨hz, 0, none⟩) 1 1) false false) 37) :: (b9, cb (cFG (cutF f) ⟨.slice a1 (cutF f).tr.length c1, .slice a2 (cutF f).ids.length c2, .slice a4 (cutF f).val.length c4, .slice a3 (cutF f).txt.length c3⟩) 52) :: (t1, tabO mo m1) :: (m1, .map es ck) :: (b5, cb (cFG (cutF f) ⟨.slice at1 (cutF f).tr.length ct1, .slice ai1 (cutF f).ids.length ci1, .slice av1 (cutF f).val.length cv1, .slice ax1 (cutF f).txt.length cx1⟩) 52) :: (b3, cb ([.slice ae xs.length ce, iV most] ++ cW n me ++ [.slice ao os.length co_]) 85) :: (rt, rtabO (.slice ar (ordE L).length cr) mo) :: (lr ++ [(hz, cb (cH fr (cF 5 (cutF f).p zI zI nilV)) 54), (hy, cb (cH fr (cF 5 (cutF f).p zI zI nilV)) 54)]))) (by (refine perm_cnt (fun _ => ?_)); simp only [cntB_append, cntB_cons, cntB_nil, Nat.add_zero, Nat.zero_add]; try ac_rfl)).drop (List.sublist_append_right _ _))
        refine JC.exit ?_
        refine JX.thenE ?_
        refine JX.thenE ?_
        refine JX.blockE ?_
        refine JX.thenN (hK16 _ _ ?_)
        refine JC.seq (fun K22 hK22 => ?_)
        apply JC.drawX (α := Value × List (Nat × Obj)) 22 (fun x => match x with | ⟨vz, lz⟩ => [.bool true, .bool true, .pointer (some ⟨t1, 0, none⟩), .bool true, .bool true, .bool true, .bool true, .bool true, .bool true, .agg (cD (.slice (some ⟨hz, 0, none⟩) 1 1) false false).toArray, .agg (cD (.slice (some ⟨hy, 0, none⟩) 1 1) false false).toArray, .bool true, .bool true, .bool true, .pointer (some ⟨t1, 0, none⟩), vz, .pointer (some ⟨rt, 0, none⟩), .pointer (some ⟨rt, 0, none⟩), .pointer (some ⟨rt, 0 + 0, none⟩), .slice ar (ordE L).length cr, .bool true, .bool true]) (fun m x => match x with | ⟨vz, lz⟩ => fun w1 => (m 15 = true → Vec 34 51 vz ((ordE L)).length (fE ((ordE L))) lz) ∧ St w [] ((b11, cb (cD (.slice (some ⟨hy, 0, none⟩) 1 1) false false) 90) :: (b10, cb (cD (.slice (some ⟨hz, 0, none⟩) 1 1) false false) 37) :: (b9, cb (cFG (cutF f) ⟨.slice a1 (cutF f).tr.length c1, .slice a2 (cutF f).ids.length c2, .slice a4 (cutF f).val.length c4, .slice a3 (cutF f).txt.length c3⟩) 52) :: (t1, tabO mo m1) :: (m1, .map es ck) :: (b5, cb (cFG (cutF f) ⟨.slice at1 (cutF f).tr.length ct1, .slice ai1 (cutF f).ids.length ci1, .slice av1 (cutF f).val.length cv1, .slice ax1 (cutF f).txt.length cx1⟩) 52) :: (b3, cb ([.slice ae xs.length ce, iV most] ++ cW n me ++ [.slice ao os.length co_]) 85) :: (rt, rtabO (.slice ar (ordE L).length cr) mo) :: ((bif m 15 then lz else []) ++ (lr ++ [(hz, cb (cH fr (cF 5 (cutF f).p zI zI nilV)) 54), (hy, cb (cH fr (cF 5 (cutF f).p zI zI nilV)) 54)]))) w1) Ty.mixed rfl rfl rfl (by kernel_rfl) rfl rfl ?hinit ?hstep ?htail
        case hinit => exact fun w1 hw => ⟨(.slice none 0 0, []), fun h => (by cases h), hw.drew⟩
        case hstep =>
          refine ⟨fun m x hm hp => ?_, fun m x hm hp => ?_, fun m x hm hp => ?_, fun m x hm hp => ?_, fun m x hm hp => ?_, fun m x hm hp => ?_, fun m x hm hp => ?_, fun m x hm hp => ?_, fun m x hm hp => ?_, fun m x hm hp => ?_, fun m x hm hp => ?_, fun m x hm hp => ?_, fun m x hm hp => ?_, fun m x hm hp => ?_, fun m x hm hp => ?_, fun m x hm hp => ?_, fun m x hm hp => ?_, fun m x hm hp => ?_, fun m x hm hp => ?_, fun m x hm hp => ?_, fun m x hm hp => ?_, fun m x hm hp => ?_, trivial⟩
          · skip
            obtain ⟨vz, lz⟩ := x
            show J _ _ _ _ _ (_) _
            refine J.pr (fun hF => ?_)
            refine J.callB (v := .bool true) (fun w1 w2 hw hb => hw.step hb) Ty.bd15 rfl rfl (fun w1 hw => fixed14_spec w1) ?_
            exact J.finX rfl (fun _ hw => ⟨⟨vz, lz⟩, rfl, fun _ _ _ => rfl, hF, hw⟩)
          · skip
            obtain ⟨vz, lz⟩ := x
            show J _ _ _ _ _ ((69, .bool true) :: (69, .bool true) :: _) _
            refine J.pr (fun hF => ?_)
            refine J.move rfl rfl ?_
            exact J.finX rfl (fun _ hw => ⟨⟨vz, lz⟩, rfl, fun _ _ _ => rfl, hF, hw⟩)
          · skip
            obtain ⟨vz, lz⟩ := x
            show J _ _ _ _ _ ((70, .bool true) :: _) _
            refine J.pr (fun hF => ?_)
            first | refine J.skip rfl rfl rfl rfl rfl ?_ | refine J.skipU rfl rfl rfl rfl ?_ | (refine J.unguard rfl rfl rfl ?_; refine J.move rfl rfl ?_)
            exact J.finX rfl (fun _ hw => ⟨⟨vz, lz⟩, rfl, fun _ _ _ => rfl, hF, hw⟩)
          · skip
            obtain ⟨vz, lz⟩ := x
            show J _ _ _ _ _ ((70, .bool true) :: (71, .pointer (some ⟨t1, 0, none⟩)) :: _) _
            refine J.pr (fun hF => ?_)
            first | refine J.skip rfl rfl rfl rfl rfl ?_ | refine J.skipU rfl rfl rfl rfl ?_ | (refine J.unguard rfl rfl rfl ?_; refine J.neNil Ty.u29 rfl rfl rfl ?_)
            exact J.finX rfl (fun _ hw => ⟨⟨vz, lz⟩, rfl, fun _ _ _ => rfl, hF, hw⟩)
          · skip
            obtain ⟨vz, lz⟩ := x
            show J _ _ _ _ _ ((72, .bool true) :: (70, .bool true) :: _) _
            refine J.pr (fun hF => ?_)
            (first | refine J.pickT rfl rfl rfl ?_ | refine J.pickF rfl rfl rfl ?_)
            exact J.finX rfl (fun _ hw => ⟨⟨vz, lz⟩, rfl, fun _ _ _ => rfl, hF, hw⟩)
          · skip
            obtain ⟨vz, lz⟩ := x
            show J _ _ _ _ _ ((70, .bool true) :: (73, .bool true) :: _) _
            refine J.pr (fun hF => ?_)
            refine J.move rfl rfl ?_
            exact J.finX rfl (fun _ hw => ⟨⟨vz, lz⟩, rfl, fun _ _ _ => rfl, hF, hw⟩)
          · skip
            obtain ⟨vz, lz⟩ := x
            show J _ _ _ _ _ ((74, .bool true) :: _) _
            refine J.pr (fun hF => ?_)
            first | refine J.skip rfl rfl rfl rfl rfl ?_ | refine J.skipU rfl rfl rfl rfl ?_ | (refine J.unguard rfl rfl rfl ?_; refine J.move rfl rfl ?_)
            exact J.finX rfl (fun _ hw => ⟨⟨vz, lz⟩, rfl, fun _ _ _ => rfl, hF, hw⟩)
          · skip
            obtain ⟨vz, lz⟩ := x
            show J _ _ _ _ _ ((75, .bool true) :: (74, .bool true) :: _) _
            refine J.pr (fun hF => ?_)
            (first | refine J.pickT rfl rfl rfl ?_ | refine J.pickF rfl rfl rfl ?_)
            exact J.finX rfl (fun _ hw => ⟨⟨vz, lz⟩, rfl, fun _ _ _ => rfl, hF, hw⟩)
          · skip
            obtain ⟨vz, lz⟩ := x
            show J _ _ _ _ _ ((74, .bool true) :: (76, .bool true) :: _) _
            refine J.pr (fun hF => ?_)
            refine J.move rfl rfl ?_
            exact J.finX rfl (fun _ hw => ⟨⟨vz, lz⟩, rfl, fun _ _ _ => rfl, hF, hw⟩)
          · skip
            obtain ⟨vz, lz⟩ := x
            show J _ _ _ _ _ ((77, .bool true) :: _) _
            refine J.pr (fun hF => ?_)
            refine J.unguard rfl rfl rfl ?_
            refine J.loadA (vs := cD (.slice (some ⟨hz, 0, none⟩) 1 1) false false) Ty.a37 Ty.s37 rfl rfl (fun w1 hw => Cells.of_block (hw.own _ (.tail _ (.head _))) rfl) rfl ?_
            exact J.finX rfl (fun _ hw => ⟨⟨vz, lz⟩, rfl, fun _ _ _ => rfl, hF, hw⟩)
          · skip
            obtain ⟨vz, lz⟩ := x
            show J _ _ _ _ _ ((77, .bool true) :: _) _
            refine J.pr (fun hF => ?_)
            refine J.unguard rfl rfl rfl ?_
            refine J.loadA (vs := cD (.slice (some ⟨hy, 0, none⟩) 1 1) false false) Ty.a90 Ty.s90 rfl rfl (fun w1 hw => Cells.of_block (hw.own _ (.head _)) rfl) rfl ?_
            exact J.finX rfl (fun _ hw => ⟨⟨vz, lz⟩, rfl, fun _ _ _ => rfl, hF, hw⟩)
          · skip
            obtain ⟨vz, lz⟩ := x
            show J _ _ _ _ _ ((77, .bool true) :: (77, .bool true) :: (79, .agg (cD (.slice (some ⟨hy, 0, none⟩) 1 1) false false).toArray) :: (78, .agg (cD (.slice (some ⟨hz, 0, none⟩) 1 1) false false).toArray) :: _) _
            refine J.pr (fun hF => ?_)
            refine J.unguard rfl rfl rfl ?_
            refine J.callB (v := .bool true) (fun w1 w2 hw hb => hw.step hb) Ty.bd47 rfl rfl (fun w1 hw => same_hop (n1 := fr) hw false false hf1.p (by simp) (by simp)) ?_
            exact J.finX rfl (fun _ hw => ⟨⟨vz, lz⟩, rfl, fun _ _ _ => rfl, hF, hw⟩)
          · skip
            obtain ⟨vz, lz⟩ := x
            show J _ _ _ _ _ ((80, .bool true) :: (77, .bool true) :: _) _
            refine J.pr (fun hF => ?_)
            (first | refine J.pickT rfl rfl rfl ?_ | refine J.pickF rfl rfl rfl ?_)
            exact J.finX rfl (fun _ hw => ⟨⟨vz, lz⟩, rfl, fun _ _ _ => rfl, hF, hw⟩)
          · skip
            obtain ⟨vz, lz⟩ := x
            show J _ _ _ _ _ ((80, .bool true) :: (81, .bool true) :: _) _
            refine J.pr (fun hF => ?_)
            refine J.move rfl rfl ?_
            exact J.finX rfl (fun _ hw => ⟨⟨vz, lz⟩, rfl, fun _ _ _ => rfl, hF, hw⟩)
          · skip
            obtain ⟨vz, lz⟩ := x
            show J _ _ _ _ _ ((82, .bool true) :: _) _
            refine J.pr (fun hF => ?_)
            first | refine J.skip rfl rfl rfl rfl rfl ?_ | refine J.skipU rfl rfl rfl rfl ?_ | (refine J.unguard rfl rfl rfl ?_; refine J.move rfl rfl ?_)
            exact J.finX rfl (fun _ hw => ⟨⟨vz, lz⟩, rfl, fun _ _ _ => rfl, hF, hw⟩)
          · skip
            obtain ⟨vz, lz⟩ := x
            show J _ _ _ _ _ ((82, .bool true) :: (82, .bool true) :: (83, .pointer (some ⟨t1, 0, none⟩)) :: _) _
            refine J.pr (fun hF => ?_)
            refine J.conseq (I' := St w [] ((b11, cb (cD (.slice (some ⟨hy, 0, none⟩) 1 1) false false) 90) :: (b10, cb (cD (.slice (some ⟨hz, 0, none⟩) 1 1) false false) 37) :: (b9, cb (cFG (cutF f) ⟨.slice a1 (cutF f).tr.length c1, .slice a2 (cutF f).ids.length c2, .slice a4 (cutF f).val.length c4, .slice a3 (cutF f).txt.length c3⟩) 52) :: (t1, tabO mo m1) :: (m1, .map es ck) :: (b5, cb (cFG (cutF f) ⟨.slice at1 (cutF f).tr.length ct1, .slice ai1 (cutF f).ids.length ci1, .slice av1 (cutF f).val.length cv1, .slice ax1 (cutF f).txt.length cx1⟩) 52) :: (b3, cb ([.slice ae xs.length ce, iV most] ++ cW n me ++ [.slice ao os.length co_]) 85) :: (rt, rtabO (.slice ar (ordE L).length cr) mo) :: (lr ++ [(hz, cb (cH fr (cF 5 (cutF f).p zI zI nilV)) 54), (hy, cb (cH fr (cF 5 (cutF f).p zI zI nilV)) 54)]))) ?_ (fun w1 hw => by simp only [hm, cond_false] at hw; exact hw)
            refine J.unguard rfl rfl rfl ?_
            refine J.perm ([] ++ ((b11, cb (cD (.slice (some ⟨hy, 0, none⟩) 1 1) false false) 90) :: (b10, cb (cD (.slice (some ⟨hz, 0, none⟩) 1 1) false false) 37) :: (b9, cb (cFG (cutF f) ⟨.slice a1 (cutF f).tr.length c1, .slice a2 (cutF f).ids.length c2, .slice a4 (cutF f).val.length c4, .slice a3 (cutF f).txt.length c3⟩) 52) :: (t1, tabO mo m1) :: (m1, .map es ck) :: (b5, cb (cFG (cutF f) ⟨.slice at1 (cutF f).tr.length ct1, .slice ai1 (cutF f).ids.length ci1, .slice av1 (cutF f).val.length cv1, .slice ax1 (cutF f).txt.length cx1⟩) 52) :: (b3, cb ([.slice ae xs.length ce, iV most] ++ cW n me ++ [.slice ao os.length co_]) 85) :: (rt, rtabO (.slice ar (ordE L).length cr) mo) :: (lr ++ [(hz, cb (cH fr (cF 5 (cutF f).p zI zI nilV)) 54), (hy, cb (cH fr (cF 5 (cutF f).p zI zI nilV)) 54)]))) (.refl _) ?_
            refine J.callS (α := Value × List (Nat × Obj)) (V := (·.1)) (Pr := fun x => Vec 34 51 x.1 (ordE L).length (fE (ordE L)) x.2) (L := (·.2)) (l1 := []) Ty.bd25 rfl rfl (fun w1 hw => all_spec t1 m1 mo (L) es ck w1 (hw.own _ (.tail _ (.tail _ (.tail _ (.head _))))) (hw.own _ (.tail _ (.tail _ (.tail _ (.tail _ (.head _)))))) hT (by omega)) (fun x hvn => ?_)
            obtain ⟨vn, ln⟩ := x
            simp only at hvn ⊢
            refine J.nil (JX.finB rfl (fun w1 hw => ⟨⟨⟨vn, ln⟩, rfl, fun j h1 h2 => ?_, ?_⟩, trivial⟩))
            · match j, h1 with
              | 0, _ => (first | rfl | trivial)
              | 1, _ => (first | rfl | trivial)
              | 2, _ => (first | rfl | trivial)
              | 3, _ => (first | rfl | trivial)
              | 4, _ => (first | rfl | trivial)
              | 5, _ => (first | rfl | trivial)
              | 6, _ => (first | rfl | trivial)
              | 7, _ => (first | rfl | trivial)
              | 8, _ => (first | rfl | trivial)
              | 9, _ => (first | rfl | trivial)
              | 10, _ => (first | rfl | trivial)
              | 11, _ => (first | rfl | trivial)
              | 12, _ => (first | rfl | trivial)
              | 13, _ => (first | rfl | trivial)
              | 14, _ => (first | rfl | trivial)
              | 15, _ => exact absurd (h2.symm.trans hm) (by decide)
              | 16, _ => (first | rfl | trivial)
              | 17, _ => (first | rfl | trivial)
              | 18, _ => (first | rfl | trivial)
              | 19, _ => (first | rfl | trivial)
              | 20, _ => (first | rfl | trivial)
              | 21, _ => (first | rfl | trivial)
              | j + 22, h1 => omega
            show (true = true → Vec 34 51 vn ((ordE L)).length (fE ((ordE L))) ln) ∧ St w [] ((b11, cb (cD (.slice (some ⟨hy, 0, none⟩) 1 1) false false) 90) :: (b10, cb (cD (.slice (some ⟨hz, 0, none⟩) 1 1) false false) 37) :: (b9, cb (cFG (cutF f) ⟨.slice a1 (cutF f).tr.length c1, .slice a2 (cutF f).ids.length c2, .slice a4 (cutF f).val.length c4, .slice a3 (cutF f).txt.length c3⟩) 52) :: (t1, tabO mo m1) :: (m1, .map es ck) :: (b5, cb (cFG (cutF f) ⟨.slice at1 (cutF f).tr.length ct1, .slice ai1 (cutF f).ids.length ci1, .slice av1 (cutF f).val.length cv1, .slice ax1 (cutF f).txt.length cx1⟩) 52) :: (b3, cb ([.slice ae xs.length ce, iV most] ++ cW n me ++ [.slice ao os.length co_]) 85) :: (rt, rtabO (.slice ar (ordE L).length cr) mo) :: ((bif true then ln else []) ++ (lr ++ [(hz, cb (cH fr (cF 5 (cutF f).p zI zI nilV)) 54), (hy, cb (cH fr (cF 5 (cutF f).p zI zI nilV)) 54)]))) w1
            simp only [hm, cond_true, cond_false] at hw ⊢
            exact ⟨fun _ => hvn, hw.perm (by (refine perm_cnt (fun _ => ?_)); simp only [cntB_append, cntB_cons, cntB_nil, Nat.add_zero, Nat.zero_add]; try ac_rfl)⟩
          · skip
            obtain ⟨vz, lz⟩ := x
            show J _ _ _ _ _ ((82, .bool true) :: _) _
            refine J.pr (fun hF => ?_)
            first | refine J.skip rfl rfl rfl rfl rfl ?_ | refine J.skipU rfl rfl rfl rfl ?_ | (refine J.unguard rfl rfl rfl ?_; refine J.move rfl rfl ?_)
            exact J.finX rfl (fun _ hw => ⟨⟨vz, lz⟩, rfl, fun _ _ _ => rfl, hF, hw⟩)
          · skip
            obtain ⟨vz, lz⟩ := x
            show J _ _ _ _ _ ((82, .bool true) :: (85, .pointer (some ⟨rt, 0, none⟩)) :: _) _
            refine J.pr (fun hF => ?_)
            first | refine J.skip rfl rfl rfl rfl rfl ?_ | refine J.skipU rfl rfl rfl rfl ?_ | (refine J.unguard rfl rfl rfl ?_; refine J.nilCheck rfl rfl ?_)
            exact J.finX rfl (fun _ hw => ⟨⟨vz, lz⟩, rfl, fun _ _ _ => rfl, hF, hw⟩)
          · skip
            obtain ⟨vz, lz⟩ := x
            show J _ _ _ _ _ ((82, .bool true) :: (86, .pointer (some ⟨rt, 0, none⟩)) :: _) _
            refine J.pr (fun hF => ?_)
            first | refine J.skip rfl rfl rfl rfl rfl ?_ | refine J.skipU rfl rfl rfl rfl ?_ | (refine J.unguard rfl rfl rfl ?_; refine J.fieldAddr Ty.fd82_0 rfl rfl ?_)
            exact J.finX rfl (fun _ hw => ⟨⟨vz, lz⟩, rfl, fun _ _ _ => rfl, hF, hw⟩)
          · skip
            obtain ⟨vz, lz⟩ := x
            show J _ _ _ _ _ ((82, .bool true) :: (87, .pointer (some ⟨rt, 0 + 0, none⟩)) :: _) _
            refine J.pr (fun hF => ?_)
            refine J.unguard rfl rfl rfl ?_
            refine J.load1 (v := .slice ar (ordE L).length cr) Ty.a62 rfl (fun w1 hw => by rw [cell_of (hw.own _ (.tail _ (.tail _ (.tail _ (.tail _ (.tail _ (.tail _ (.tail _ (.head _)))))))))]; rfl) rfl ?_
            exact J.finX rfl (fun _ hw => ⟨⟨vz, lz⟩, rfl, fun _ _ _ => rfl, hF, hw⟩)
          · skip
            obtain ⟨vz, lz⟩ := x
            show J _ _ _ _ _ ((82, .bool true) :: (84, vz) :: (88, .slice ar (ordE L).length cr) :: (84, vz) :: _) _
            have hp15 : m 15 = true := predsT hp (by kernel_rfl)
            have hp15 : m 15 = true := predsT hp (by kernel_rfl)
            refine J.pr (fun hF => ?_)
            refine J.unguard rfl rfl rfl ?_
            refine J.callB (v := .bool true) (fun w1 w2 hw hb => hw.step hb) Ty.bd26 rfl rfl (fun w1 hw => (by have h := rsame_spec _ _ ((ordE L)) ((ordE L)) w1 (vec_rowM (l := (b11, cb (cD (.slice (some ⟨hy, 0, none⟩) 1 1) false false) 90) :: (b10, cb (cD (.slice (some ⟨hz, 0, none⟩) 1 1) false false) 37) :: (b9, cb (cFG (cutF f) ⟨.slice a1 (cutF f).tr.length c1, .slice a2 (cutF f).ids.length c2, .slice a4 (cutF f).val.length c4, .slice a3 (cutF f).txt.length c3⟩) 52) :: (t1, tabO mo m1) :: (m1, .map es ck) :: (b5, cb (cFG (cutF f) ⟨.slice at1 (cutF f).tr.length ct1, .slice ai1 (cutF f).ids.length ci1, .slice av1 (cutF f).val.length cv1, .slice ax1 (cutF f).txt.length cx1⟩) 52) :: (b3, cb ([.slice ae xs.length ce, iV most] ++ cW n me ++ [.slice ao os.length co_]) 85) :: (rt, rtabO (.slice ar (ordE L).length cr) mo) :: (lz ++ (lr ++ [(hz, cb (cH fr (cF 5 (cutF f).p zI zI nilV)) 54), (hy, cb (cH fr (cF 5 (cutF f).p zI zI nilV)) 54)]))) (hF hp15) (by simp only [hp15, cond_true] at hw; exact hw) (fun q hq => by first | (simp [hq]; done) | (simp at hq; simp [hq]; done) | (simp at hq; subst hq; simp))) (vec_rowM (l := (b11, cb (cD (.slice (some ⟨hy, 0, none⟩) 1 1) false false) 90) :: (b10, cb (cD (.slice (some ⟨hz, 0, none⟩) 1 1) false false) 37) :: (b9, cb (cFG (cutF f) ⟨.slice a1 (cutF f).tr.length c1, .slice a2 (cutF f).ids.length c2, .slice a4 (cutF f).val.length c4, .slice a3 (cutF f).txt.length c3⟩) 52) :: (t1, tabO mo m1) :: (m1, .map es ck) :: (b5, cb (cFG (cutF f) ⟨.slice at1 (cutF f).tr.length ct1, .slice ai1 (cutF f).ids.length ci1, .slice av1 (cutF f).val.length cv1, .slice ax1 (cutF f).txt.length cx1⟩) 52) :: (b3, cb ([.slice ae xs.length ce, iV most] ++ cW n me ++ [.slice ao os.length co_]) 85) :: (rt, rtabO (.slice ar (ordE L).length cr) mo) :: (lz ++ (lr ++ [(hz, cb (cH fr (cF 5 (cutF f).p zI zI nilV)) 54), (hy, cb (cH fr (cF 5 (cutF f).p zI zI nilV)) 54)]))) hvr (by simp only [hp15, cond_true] at hw; exact hw) (fun q hq => by first | (simp [hq]; done) | (simp at hq; simp [hq]; done) | (simp at hq; subst hq; simp))) (ordE_ok hT) (ordE_ok hT) (by omega) (by omega); simpa using h)) ?_
            exact J.finX rfl (fun _ hw => ⟨⟨vz, lz⟩, rfl, fun _ _ _ => rfl, hF, hw⟩)
          · skip
            obtain ⟨vz, lz⟩ := x
            show J _ _ _ _ _ ((89, .bool true) :: (82, .bool true) :: _) _
            refine J.pr (fun hF => ?_)
            (first | refine J.pickT rfl rfl rfl ?_ | refine J.pickF rfl rfl rfl ?_)
            exact J.finX rfl (fun _ hw => ⟨⟨vz, lz⟩, rfl, fun _ _ _ => rfl, hF, hw⟩)
        case htail =>
          intro x
          obtain ⟨vz, lz⟩ := x
          show J _ _ _ _ _ ((90, .bool true) :: (89, .bool true) :: (88, .slice ar (ordE L).length cr) :: (87, .pointer (some ⟨rt, 0 + 0, none⟩)) :: (86, .pointer (some ⟨rt, 0, none⟩)) :: (85, .pointer (some ⟨rt, 0, none⟩)) :: (84, vz) :: (83, .pointer (some ⟨t1, 0, none⟩)) :: (82, .bool true) :: (81, .bool true) :: (80, .bool true) :: (79, .agg (cD (.slice (some ⟨hy, 0, none⟩) 1 1) false false).toArray) :: (78, .agg (cD (.slice (some ⟨hz, 0, none⟩) 1 1) false false).toArray) :: (77, .bool true) :: (76, .bool true) :: (75, .bool true) :: (74, .bool true) :: (73, .bool true) :: (72, .bool true) :: (71, .pointer (some ⟨t1, 0, none⟩)) :: (70, .bool true) :: (69, .bool true) :: _) (fun w1 => (true = true → Vec 34 51 vz ((ordE L)).length (fE ((ordE L))) lz) ∧ St w [] ((b11, cb (cD (.slice (some ⟨hy, 0, none⟩) 1 1) false false) 90) :: (b10, cb (cD (.slice (some ⟨hz, 0, none⟩) 1 1) false false) 37) :: (b9, cb (cFG (cutF f) ⟨.slice a1 (cutF f).tr.length c1, .slice a2 (cutF f).ids.length c2, .slice a4 (cutF f).val.length c4, .slice a3 (cutF f).txt.length c3⟩) 52) :: (t1, tabO mo m1) :: (m1, .map es ck) :: (b5, cb (cFG (cutF f) ⟨.slice at1 (cutF f).tr.length ct1, .slice ai1 (cutF f).ids.length ci1, .slice av1 (cutF f).val.length cv1, .slice ax1 (cutF f).txt.length cx1⟩) 52) :: (b3, cb ([.slice ae xs.length ce, iV most] ++ cW n me ++ [.slice ao os.length co_]) 85) :: (rt, rtabO (.slice ar (ordE L).length cr) mo) :: ((bif true then lz else []) ++ (lr ++ [(hz, cb (cH fr (cF 5 (cutF f).p zI zI nilV)) 54), (hy, cb (cH fr (cF 5 (cutF f).p zI zI nilV)) 54)]))) w1)
          refine J.pr (fun hF => ?_)
          refine J.assign rfl rfl ?_
          refine J.nil ?_
          refine JX.thenN (hK22 _ _ ?_)
          refine JC.ret ?_
          refine JX.ret1 rfl rfl (fun w hw => ?_)
          exact ⟨rfl, (hw.drop (List.nil_sublist _)).below⟩
    · skip
      obtain ⟨⟨e, L2⟩, hadd⟩ : ∃ q : Int × List EV, tadd L mo (⟨(cutF f).p, (cutF f).a, (cutF f).b, fr, nb⟩ : EV) = q := ⟨_, rfl⟩
      have hG2 := (hG.add (⟨(cutF f).p, (cutF f).a, (cutF f).b, fr, nb⟩ : EV)).len
      rw [hadd] at hG2
      simp only at hG2
      have ho2 := (ordE_perm L2).length_eq
      have hl2 : L2.length ≤ 128 := by omega
      have ho22 : (ordE L2).length ≤ 128 := by omega
      by_cases he : e = 0
      · skip
        subst he
        rcases hgo with ⟨hlast, hid, rfl⟩ | ⟨hnx, hop⟩
        · skip
          refine JC.region ?_
          refine J.move rfl rfl ?_
          refine J.fieldAddr Ty.fd85_2 rfl rfl ?_
          refine J.loadOA (vs := cW n me) Ty.a41 Ty.s41 rfl (.tail _ (.tail _ (.tail _ (.tail _ (.head _))))) rfl rfl rfl ?_
          refine J.move rfl rfl ?_
          refine J.loadOA (vs := cFG (cutF f) ⟨.slice a1 (cutF f).tr.length c1, .slice a2 (cutF f).ids.length c2, .slice a4 (cutF f).val.length c4, .slice a3 (cutF f).txt.length c3⟩) Ty.a52 Ty.s52 rfl (.head _) rfl rfl rfl ?_
          refine J.fieldAddr Ty.fd85_3 rfl rfl ?_
          refine J.loadO (v := .slice ao os.length co_) Ty.a28 rfl (.tail _ (.tail _ (.tail _ (.tail _ (.head _))))) rfl rfl ?_
          refine J.perm ([(t1, tabO mo m1), (m1, .map es ck)] ++ ((b9, cb (cFG (cutF f) ⟨.slice a1 (cutF f).tr.length c1, .slice a2 (cutF f).ids.length c2, .slice a4 (cutF f).val.length c4, .slice a3 (cutF f).txt.length c3⟩) 52) :: (b5, cb (cFG (cutF f) ⟨.slice at1 (cutF f).tr.length ct1, .slice ai1 (cutF f).ids.length ci1, .slice av1 (cutF f).val.length cv1, .slice ax1 (cutF f).txt.length cx1⟩) 52) :: (b3, cb ([.slice ae xs.length ce, iV most] ++ cW n me ++ [.slice ao os.length co_]) 85) :: (rt, rtabO (.slice ar (ordE L).length cr) mo) :: (lr ++ (l1 ++ (l2 ++ (l3 ++ l4)))))) (by (refine perm_cnt (fun _ => ?_)); simp only [cntB_append, cntB_cons, cntB_nil, Nat.add_zero, Nat.zero_add]; try ac_rfl) ?_
          refine J.callS (α := Array MapEntry × Nat) (V := fun x => .agg (cD nilV true false).toArray) (Pr := fun x => Tab L2 x.1 x.2) (L := fun x => [(t1, tabO mo m1), (m1, .map x.1 x.2)]) (l1 := [(t1, tabO mo m1), (m1, .map es ck)]) Ty.bd19 rfl rfl (fun w1 hw => gtake_mineQ t1 m1 mo L es ck n fr me (cutF f) ⟨.slice a1 (cutF f).tr.length c1, .slice a2 (cutF f).ids.length c2, .slice a4 (cutF f).val.length c4, .slice a3 (cutF f).txt.length c3⟩ _ os w1 ⟨(vec_rowM hv1 hw (fun q hq => by first | (simp [hq]; done) | (simp at hq; simp [hq]; done) | (simp at hq; subst hq; simp))), (vec_rowM hv2 hw (fun q hq => by first | (simp [hq]; done) | (simp at hq; simp [hq]; done) | (simp at hq; subst hq; simp))), (vec_rowM hv4 hw (fun q hq => by first | (simp [hq]; done) | (simp at hq; simp [hq]; done) | (simp at hq; subst hq; simp))), (vec_rowM hv3 hw (fun q hq => by first | (simp [hq]; done) | (simp at hq; simp [hq]; done) | (simp at hq; subst hq; simp)))⟩ ⟨(hv1.off (hw.perm (l' := [(t1, tabO mo m1), (m1, .map es ck)] ++ (l1 ++ ((b9, cb (cFG (cutF f) ⟨.slice a1 (cutF f).tr.length c1, .slice a2 (cutF f).ids.length c2, .slice a4 (cutF f).val.length c4, .slice a3 (cutF f).txt.length c3⟩) 52) :: (b5, cb (cFG (cutF f) ⟨.slice at1 (cutF f).tr.length ct1, .slice ai1 (cutF f).ids.length ci1, .slice av1 (cutF f).val.length cv1, .slice ax1 (cutF f).txt.length cx1⟩) 52) :: (b3, cb ([.slice ae xs.length ce, iV most] ++ cW n me ++ [.slice ao os.length co_]) 85) :: (rt, rtabO (.slice ar (ordE L).length cr) mo) :: (lr ++ (l2 ++ l3 ++ l4))))) (by (refine perm_cnt (fun _ => ?_)); simp only [cntB_append, cntB_cons, cntB_nil, Nat.add_zero, Nat.zero_add]; try ac_rfl))), (hv2.off (hw.perm (l' := [(t1, tabO mo m1), (m1, .map es ck)] ++ (l2 ++ ((b9, cb (cFG (cutF f) ⟨.slice a1 (cutF f).tr.length c1, .slice a2 (cutF f).ids.length c2, .slice a4 (cutF f).val.length c4, .slice a3 (cutF f).txt.length c3⟩) 52) :: (b5, cb (cFG (cutF f) ⟨.slice at1 (cutF f).tr.length ct1, .slice ai1 (cutF f).ids.length ci1, .slice av1 (cutF f).val.length cv1, .slice ax1 (cutF f).txt.length cx1⟩) 52) :: (b3, cb ([.slice ae xs.length ce, iV most] ++ cW n me ++ [.slice ao os.length co_]) 85) :: (rt, rtabO (.slice ar (ordE L).length cr) mo) :: (lr ++ (l1 ++ l3 ++ l4))))) (by (refine perm_cnt (fun _ => ?_)); simp only [cntB_append, cntB_cons, cntB_nil, Nat.add_zero, Nat.zero_add]; try ac_rfl))), (hv4.off (hw.perm (l' := [(t1, tabO mo m1), (m1, .map es ck)] ++ (l4 ++ ((b9, cb (cFG (cutF f) ⟨.slice a1 (cutF f).tr.length c1, .slice a2 (cutF f).ids.length c2, .slice a4 (cutF f).val.length c4, .slice a3 (cutF f).txt.length c3⟩) 52) :: (b5, cb (cFG (cutF f) ⟨.slice at1 (cutF f).tr.length ct1, .slice ai1 (cutF f).ids.length ci1, .slice av1 (cutF f).val.length cv1, .slice ax1 (cutF f).txt.length cx1⟩) 52) :: (b3, cb ([.slice ae xs.length ce, iV most] ++ cW n me ++ [.slice ao os.length co_]) 85) :: (rt, rtabO (.slice ar (ordE L).length cr) mo) :: (lr ++ (l1 ++ l2 ++ l3))))) (by (refine perm_cnt (fun _ => ?_)); simp only [cntB_append, cntB_cons, cntB_nil, Nat.add_zero, Nat.zero_add]; try ac_rfl))), (hv3.off (hw.perm (l' := [(t1, tabO mo m1), (m1, .map es ck)] ++ (l3 ++ ((b9, cb (cFG (cutF f) ⟨.slice a1 (cutF f).tr.length c1, .slice a2 (cutF f).ids.length c2, .slice a4 (cutF f).val.length c4, .slice a3 (cutF f).txt.length c3⟩) 52) :: (b5, cb (cFG (cutF f) ⟨.slice at1 (cutF f).tr.length ct1, .slice ai1 (cutF f).ids.length ci1, .slice av1 (cutF f).val.length cv1, .slice ax1 (cutF f).txt.length cx1⟩) 52) :: (b3, cb ([.slice ae xs.length ce, iV most] ++ cW n me ++ [.slice ao os.length co_]) 85) :: (rt, rtabO (.slice ar (ordE L).length cr) mo) :: (lr ++ (l1 ++ l2 ++ l4))))) (by (refine perm_cnt (fun _ => ?_)); simp only [cntB_append, cntB_cons, cntB_nil, Nat.add_zero, Nat.zero_add]; try ac_rfl)))⟩ hg1 (by omega) hk hf1.p hfr i hi hi2 hat hfrom hnd (hro.below (hw.drop (List.nil_sublist _)).below) (hro.offNew hw (fun x hx => List.mem_append_left _ hx)) (by omega) hw.owns hT hlast hid hadd) (fun y hy9 => ?_)
          obtain ⟨es2, ck2⟩ := y
          simp only [List.cons_append, List.nil_append] at hy9 ⊢
          have hT2 := hy9
          refine J.perm ((b9, cb (cFG (cutF f) ⟨.slice a1 (cutF f).tr.length c1, .slice a2 (cutF f).ids.length c2, .slice a4 (cutF f).val.length c4, .slice a3 (cutF f).txt.length c3⟩) 52) :: (t1, tabO mo m1) :: (m1, .map es2 ck2) :: (b5, cb (cFG (cutF f) ⟨.slice at1 (cutF f).tr.length ct1, .slice ai1 (cutF f).ids.length ci1, .slice av1 (cutF f).val.length cv1, .slice ax1 (cutF f).txt.length cx1⟩) 52) :: (b3, cb ([.slice ae xs.length ce, iV most] ++ cW n me ++ [.slice ao os.length co_]) 85) :: (rt, rtabO (.slice ar (ordE L).length cr) mo) :: (lr ++ (l1 ++ (l2 ++ (l3 ++ l4))))) (by (refine perm_cnt (fun _ => ?_)); simp only [cntB_append, cntB_cons, cntB_nil, Nat.add_zero, Nat.zero_add]; try ac_rfl) ?_
          refine J.alloc zN rfl rfl (fun b10 => ?_)
          refine J.storeW (cs := cD nilV false false) (vs := cD nilV true false) Ty.s37 rfl rfl rfl rfl rfl (by simp [Value.oneCell']) .here ?_
          refine J.nil ?_
          refine JX.thenN (hK4 _ _ ?_)
          refine JC.seq (fun K23 hK23 => ?_)
          refine JC.region ?_
          refine J.move rfl rfl ?_
          refine J.fieldAddr Ty.fd85_2 rfl rfl ?_
          refine J.fieldAddr Ty.fd41_0 rfl rfl ?_
          refine J.loadO (v := iV n) Ty.a3 rfl (.tail _ (.tail _ (.tail _ (.tail _ (.tail _ (.head _)))))) rfl rfl ?_
          refine J.fieldAddr Ty.fd85_2 rfl rfl ?_
          refine J.fieldAddr Ty.fd41_1 rfl rfl ?_
          refine J.loadOA (vs := cI me) Ty.a23 Ty.s23 rfl (.tail _ (.tail _ (.tail _ (.tail _ (.tail _ (.head _)))))) rfl rfl rfl ?_
          refine J.move rfl rfl ?_
          refine J.loadOA (vs := cFG (cutF f) ⟨.slice at1 (cutF f).tr.length ct1, .slice ai1 (cutF f).ids.length ci1, .slice av1 (cutF f).val.length cv1, .slice ax1 (cutF f).txt.length cx1⟩) Ty.a52 Ty.s52 rfl (.tail _ (.tail _ (.tail _ (.tail _ (.head _))))) rfl rfl rfl ?_
          refine J.fieldAddr Ty.fd85_3 rfl rfl ?_
          refine J.loadO (v := .slice ao os.length co_) Ty.a28 rfl (.tail _ (.tail _ (.tail _ (.tail _ (.tail _ (.head _)))))) rfl rfl ?_
          refine J.perm (((rt, rtabO (.slice ar (ordE L).length cr) mo) :: lr) ++ ((b10, cb (cD nilV true false) 37) :: (b9, cb (cFG (cutF f) ⟨.slice a1 (cutF f).tr.length c1, .slice a2 (cutF f).ids.length c2, .slice a4 (cutF f).val.length c4, .slice a3 (cutF f).txt.length c3⟩) 52) :: (t1, tabO mo m1) :: (m1, .map es2 ck2) :: (b5, cb (cFG (cutF f) ⟨.slice at1 (cutF f).tr.length ct1, .slice ai1 (cutF f).ids.length ci1, .slice av1 (cutF f).val.length cv1, .slice ax1 (cutF f).txt.length cx1⟩) 52) :: (b3, cb ([.slice ae xs.length ce, iV most] ++ cW n me ++ [.slice ao os.length co_]) 85) :: (l1 ++ (l2 ++ (l3 ++ l4))))) (by (refine perm_cnt (fun _ => ?_)); simp only [cntB_append, cntB_cons, cntB_nil, Nat.add_zero, Nat.zero_add]; try ac_rfl) ?_
          refine J.callS (α := Value × List (Nat × Obj)) (V := fun x => .agg (cD nilV true false).toArray) (Pr := fun x => Vec 34 51 x.1 (ordE L2).length (fE (ordE L2)) x.2) (L := fun x => (rt, rtabO x.1 mo) :: x.2) (l1 := ((rt, rtabO (.slice ar (ordE L).length cr) mo) :: lr)) Ty.bd49 rfl rfl (fun w1 hw => rtake_mine rt _ mo L lr es ck n fr me (cutF f) ⟨.slice at1 (cutF f).tr.length ct1, .slice ai1 (cutF f).ids.length ci1, .slice av1 (cutF f).val.length cv1, .slice ax1 (cutF f).txt.length cx1⟩ _ os w1 (rows_cut (hs.below (hw.drop (List.nil_sublist _)).below)) ⟨((rows_cut hs).tr.offNew hw (fun x hx => List.mem_append_left _ hx)), (hs.ids.offNew hw (fun x hx => List.mem_append_left _ hx)), (hs.val.offNew hw (fun x hx => List.mem_append_left _ hx)), (hs.txt.offNew hw (fun x hx => List.mem_append_left _ hx))⟩ hg1 hk hf1.p hfr i hi hi2 hat hfrom hnd (hro.below (hw.drop (List.nil_sublist _)).below) (hro.offNew hw (fun x hx => List.mem_append_left _ hx)) (by omega) hw.owns hT hl128 hvr hlast hid hadd) (fun y hy9 => ?_)
          obtain ⟨v5, lr2⟩ := y
          simp only [List.cons_append, List.nil_append] at hy9 ⊢
          have hv5 := hy9
          obtain ⟨a5, c5, rfl, hc5⟩ := hv5.form
          refine J.perm ((b10, cb (cD nilV true false) 37) :: (b9, cb (cFG (cutF f) ⟨.slice a1 (cutF f).tr.length c1, .slice a2 (cutF f).ids.length c2, .slice a4 (cutF f).val.length c4, .slice a3 (cutF f).txt.length c3⟩) 52) :: (t1, tabO mo m1) :: (m1, .map es2 ck2) :: (b5, cb (cFG (cutF f) ⟨.slice at1 (cutF f).tr.length ct1, .slice ai1 (cutF f).ids.length ci1, .slice av1 (cutF f).val.length cv1, .slice ax1 (cutF f).txt.length cx1⟩) 52) :: (b3, cb ([.slice ae xs.length ce, iV most] ++ cW n me ++ [.slice ao os.length co_]) 85) :: (rt, rtabO (.slice a5 (ordE L2).length c5) mo) :: (lr2 ++ (l1 ++ (l2 ++ (l3 ++ l4))))) (by (refine perm_cnt (fun _ => ?_)); simp only [cntB_append, cntB_cons, cntB_nil, Nat.add_zero, Nat.zero_add]; try ac_rfl) ?_
          refine J.alloc zN_ rfl rfl (fun b11 => ?_)
          refine J.storeW (cs := cD nilV false false) (vs := cD nilV true false) Ty.s90 rfl rfl rfl rfl rfl (by simp [Value.oneCell']) .here ?_
          refine J.perm ((b11, cb (cD nilV true false) 90) :: (b10, cb (cD nilV true false) 37) :: (b9, cb (cFG (cutF f) ⟨.slice a1 (cutF f).tr.length c1, .slice a2 (cutF f).ids.length c2, .slice a4 (cutF f).val.length c4, .slice a3 (cutF f).txt.length c3⟩) 52) :: (t1, tabO mo m1) :: (m1, .map es2 ck2) :: (b5, cb (cFG (cutF f) ⟨.slice at1 (cutF f).tr.length ct1, .slice ai1 (cutF f).ids.length ci1, .slice av1 (cutF f).val.length cv1, .slice ax1 (cutF f).txt.length cx1⟩) 52) :: (b3, cb ([.slice ae xs.length ce, iV most] ++ cW n me ++ [.slice ao os.length co_]) 85) :: (rt, rtabO (.slice a5 (ordE L2).length c5) mo) :: (lr2 ++ (l1 ++ (l2 ++ (l3 ++ l4))))) (by (refine perm_cnt (fun _ => ?_)); simp only [cntB_append, cntB_cons, cntB_nil, Nat.add_zero, Nat.zero_add]; try ac_rfl) ?_
          refine J.nil ?_
          refine JX.thenN (hK23 _ _ ?_)
          refine JC.seq (fun K24 hK24 => ?_)
          refine JC.region ?_
          refine J.loadOA (vs := cFG (cutF f) ⟨.slice at1 (cutF f).tr.length ct1, .slice ai1 (cutF f).ids.length ci1, .slice av1 (cutF f).val.length cv1, .slice ax1 (cutF f).txt.length cx1⟩) Ty.a52 Ty.s52 rfl (.tail _ (.tail _ (.tail _ (.tail _ (.tail _ (.head _)))))) rfl rfl rfl ?_
          refine J.loadOA (vs := cFG (cutF f) ⟨.slice a1 (cutF f).tr.length c1, .slice a2 (cutF f).ids.length c2, .slice a4 (cutF f).val.length c4, .slice a3 (cutF f).txt.length c3⟩) Ty.a52 Ty.s52 rfl (.tail _ (.tail _ (.head _))) rfl rfl rfl ?_
          refine J.callB (v := .bool true) (fun w1 w2 hw hb => hw.step hb) Ty.bd50 rfl rfl (fun w1 hw => same04_spec (cutF f) hf1 ⟨.slice at1 (cutF f).tr.length ct1, .slice ai1 (cutF f).ids.length ci1, .slice av1 (cutF f).val.length cv1, .slice ax1 (cutF f).txt.length cx1⟩ ⟨.slice a1 (cutF f).tr.length c1, .slice a2 (cutF f).ids.length c2, .slice a4 (cutF f).val.length c4, .slice a3 (cutF f).txt.length c3⟩ w1 (rows_cut (hs.below (hw.drop (List.nil_sublist _)).below)) ⟨(vec_rowM hv1 hw (fun q hq => by first | (simp [hq]; done) | (simp at hq; simp [hq]; done) | (simp at hq; subst hq; simp))), (vec_rowM hv2 hw (fun q hq => by first | (simp [hq]; done) | (simp at hq; simp [hq]; done) | (simp at hq; subst hq; simp))), (vec_rowM hv4 hw (fun q hq => by first | (simp [hq]; done) | (simp at hq; simp [hq]; done) | (simp at hq; subst hq; simp))), (vec_rowM hv3 hw (fun q hq => by first | (simp [hq]; done) | (simp at hq; simp [hq]; done) | (simp at hq; subst hq; simp)))⟩) ?_
          refine J.assign rfl rfl ?_
          refine J.nil ?_
          refine JX.thenN (hK24 _ _ ?_)
          refine JC.seq (fun K25 hK25 => ?_)
          refine JC.seq (fun K26 hK26 => ?_)
          refine JC.region ?_
          refine J.fieldAddr Ty.fd52_8 rfl rfl ?_
          refine J.loadO (v := .slice a1 (cutF f).tr.length c1) Ty.a26 rfl (.tail _ (.tail _ (.head _))) rfl rfl ?_
          refine J.lenS rfl Ty.u26 rfl rfl ?_
          refine J.move rfl rfl ?_
          refine J.nil ?_
          refine JX.thenN (hK26 _ _ ?_)
          refine JC.block ?_
          refine JC.conseq (JC.cov (f := (fun st => [(7, .pointer (some ⟨t1, 0, none⟩)), (8, .pointer (some ⟨rt, 0, none⟩)), (9, .pointer (some ⟨b9, 0, none⟩)), (10, .pointer (some ⟨b10, 0, none⟩)), (11, .pointer (some ⟨b11, 0, none⟩)), (12, .bool true), (57, .int .i64 (((cutF f).tr.length : Nat) : Int)), (58, .int .i64 ((st.1 : Nat) : Int))]) ((0, l1) : Nat × List (Nat × Obj))) ⟨rfl, rfl, rfl, rfl, rfl, rfl, rfl, rfl, trivial⟩ (JC.loop (α := Nat × List (Nat × Obj)) (fun st => [(7, .pointer (some ⟨t1, 0, none⟩)), (8, .pointer (some ⟨rt, 0, none⟩)), (9, .pointer (some ⟨b9, 0, none⟩)), (10, .pointer (some ⟨b10, 0, none⟩)), (11, .pointer (some ⟨b11, 0, none⟩)), (12, .bool true), (57, .int .i64 (((cutF f).tr.length : Nat) : Int)), (58, .int .i64 ((st.1 : Nat) : Int))]) (fun st w' => (st.1 ≤ (cutF f).tr.length ∧ IBlk (.slice a1 (cutF f).tr.length c1) (cutF f).tr.length st.2) ∧ St w [] (st.2 ++ ((b11, cb (cD nilV true false) 90) :: (b10, cb (cD nilV true false) 37) :: (b9, cb (cFG (cutF f) ⟨.slice a1 (cutF f).tr.length c1, .slice a2 (cutF f).ids.length c2, .slice a4 (cutF f).val.length c4, .slice a3 (cutF f).txt.length c3⟩) 52) :: (t1, tabO mo m1) :: (m1, .map es2 ck2) :: (b5, cb (cFG (cutF f) ⟨.slice at1 (cutF f).tr.length ct1, .slice ai1 (cutF f).ids.length ci1, .slice av1 (cutF f).val.length cv1, .slice ax1 (cutF f).txt.length cx1⟩) 52) :: (b3, cb ([.slice ae xs.length ce, iV most] ++ cW n me ++ [.slice ao os.length co_]) 85) :: (rt, rtabO (.slice a5 (ordE L2).length c5) mo) :: (lr2 ++ (l2 ++ (l3 ++ l4))))) w') (fun st => (cutF f).tr.length - st.1) ((0, l1) : Nat × List (Nat × Obj)) (fun st => ?_))) (fun w hw => ⟨⟨Nat.zero_le _, iblk_of hv1⟩, hw.perm (by (refine perm_cnt (fun _ => ?_)); simp only [cntB_append, cntB_cons, cntB_nil, Nat.add_zero, Nat.zero_add]; try ac_rfl)⟩)
          obtain ⟨ix, lj⟩ := st
          refine JC.pr (fun hx1 => ?_)
          obtain ⟨hij, hbl⟩ := hx1
          simp only at hij hbl ⊢
          refine JC.seq (fun K27 hK27 => ?_)
          refine JC.region ?_
          refine J.bin rfl rfl rfl rfl ?_
          refine J.nil ?_
          refine JX.thenN (hK27 _ _ ?_)
          refine JC.seq (fun K28 hK28 => ?_)
          refine JC.cond rfl (fun h0 => ?_) (fun h0 => ?_)
          · skip
            have hlt : ix < (cutF f).tr.length := by simp at h0; omega
            obtain ⟨qv, ys, sp, rfl, rfl, hys, hyc⟩ := iblk_pos hbl (by omega)
            obtain ⟨yi, hyi⟩ : ∃ y, ys[ix]? = some y := ⟨_, List.getElem?_eq_getElem (by omega)⟩
            refine JC.skip ?_
            refine JX.thenN (hK28 _ _ ?_)
            refine JC.seq (fun K29 hK29 => ?_)
            refine JC.block ?_
            refine JC.seq (fun K30 hK30 => ?_)
            refine JC.region ?_
            refine J.move rfl rfl ?_
            refine J.assign rfl rfl ?_
            refine J.nil ?_
            refine JX.thenN (hK30 _ _ ?_)
            refine JC.region ?_
            refine J.fieldAddr Ty.fd52_8 rfl rfl ?_
            refine J.loadO (v := .slice (some ⟨qv, 0, none⟩) (cutF f).tr.length c1) Ty.a26 rfl (.tail _ (.tail _ (.tail _ (.head _)))) rfl rfl ?_
            refine J.move rfl rfl ?_
            refine J.indexAddrS Ty.el26 Ty.s3 rfl rfl (by omega) (by omega) rfl ?_
            refine J.load1 (v := iV yi) Ty.a3 rfl (fun w1 hw => rowI_at2 (i := ix) (Row.own (cs := ys.map iV ++ sp) (tb := 3) (fr := (0, 0)) hw (.head _) (by simp) hyc : Row w1 (.slice (some ⟨qv, 0, none⟩) (cutF f).tr.length c1) (cutF f).tr.length (ys.map iV)) hyi (by simp)) rfl ?_
            refine J.bin rfl rfl rfl rfl ?_
            refine J.name 66 rfl (show _ = iV (IntKind.wrap .i64 (yi + 1)) from rfl) ?_
            refine J.indexAddrS Ty.el26 Ty.s3 rfl rfl (by omega) (by omega) rfl ?_
            refine J.storeO (cs := ys.map iV ++ sp) (vs := [iV (IntKind.wrap .i64 (yi + 1))]) Ty.s3 rfl rfl rfl rfl (by simp [Value.oneCell']) .here (by simp; omega) ?_
            refine J.nil ?_
            refine JX.blockN ?_
            refine JX.thenN (hK29 _ _ ?_)
            refine JC.region ?_
            (first | refine J.addN rfl rfl (by omega) (by omega) rfl ?_ | refine J.bin rfl rfl rfl rfl ?_)
            refine J.move rfl rfl ?_
            refine J.nil ?_
            refine JX.thenN ?_
            refine JX.again ((ix + 1, [(qv, cb ((ys.set ix (IntKind.wrap .i64 (yi + 1))).map iV ++ sp) 3)]) : Nat × List (Nat × Obj)) ?_ ?_ ?_
            · simp only; omega
            · exact ⟨rfl, rfl, rfl, rfl, rfl, rfl, rfl, rfl, trivial⟩
            · exact fun w1 hw => ⟨⟨hlt, .inr ⟨qv, _, _, sp, rfl, rfl, by rw [List.length_set]; exact hys, hyc⟩⟩, by rw [set_int (i := ix) (by omega) (by simp)] at hw; exact hw⟩
          · skip
            refine JC.conseq (I' := St w [] ((b11, cb (cD nilV true false) 90) :: (b10, cb (cD nilV true false) 37) :: (b9, cb (cFG (cutF f) ⟨.slice a1 (cutF f).tr.length c1, .slice a2 (cutF f).ids.length c2, .slice a4 (cutF f).val.length c4, .slice a3 (cutF f).txt.length c3⟩) 52) :: (t1, tabO mo m1) :: (m1, .map es2 ck2) :: (b5, cb (cFG (cutF f) ⟨.slice at1 (cutF f).tr.length ct1, .slice ai1 (cutF f).ids.length ci1, .slice av1 (cutF f).val.length cv1, .slice ax1 (cutF f).txt.length cx1⟩) 52) :: (b3, cb ([.slice ae xs.length ce, iV most] ++ cW n me ++ [.slice ao os.length co_]) 85) :: (rt, rtabO (.slice a5 (ordE L2).length c5) mo) :: lr2)) ?_ (fun w1 hw => (hw.perm (l' := (lj ++ (l2 ++ (l3 ++ l4))) ++ ((b11, cb (cD nilV true false) 90) :: (b10, cb (cD nilV true false) 37) :: (b9, cb (cFG (cutF f) ⟨.slice a1 (cutF f).tr.length c1, .slice a2 (cutF f).ids.length c2, .slice a4 (cutF f).val.length c4, .slice a3 (cutF f).txt.length c3⟩) 52) :: (t1, tabO mo m1) :: (m1, .map es2 ck2) :: (b5, cb (cFG (cutF f) ⟨.slice at1 (cutF f).tr.length ct1, .slice ai1 (cutF f).ids.length ci1, .slice av1 (cutF f).val.length cv1, .slice ax1 (cutF f).txt.length cx1⟩) 52) :: (b3, cb ([.slice ae xs.length ce, iV most] ++ cW n me ++ [.slice ao os.length co_]) 85) :: (rt, rtabO (.slice a5 (ordE L2).length c5) mo) :: lr2)) (by (refine perm_cnt (fun _ => ?_)); simp only [cntB_append, cntB_cons, cntB_nil, Nat.add_zero, Nat.zero_add]; try ac_rfl)).drop (List.sublist_append_right _ _))
            refine JC.exit ?_
            refine JX.thenE ?_
            refine JX.thenE ?_
            refine JX.blockE ?_
            refine JX.thenN (hK25 _ _ ?_)
            refine JC.seq (fun K31 hK31 => ?_)
            apply JC.drawX (α := Value × List (Nat × Obj)) 22 (fun x => match x with | ⟨vz, lz⟩ => [.bool true, .bool true, .pointer (some ⟨t1, 0, none⟩), .bool true, .bool true, .bool true, .bool true, .bool true, .bool true, .agg (cD nilV true false).toArray, .agg (cD nilV true false).toArray, .bool true, .bool true, .bool true, .pointer (some ⟨t1, 0, none⟩), vz, .pointer (some ⟨rt, 0, none⟩), .pointer (some ⟨rt, 0, none⟩), .pointer (some ⟨rt, 0 + 0, none⟩), .slice a5 (ordE L2).length c5, .bool true, .bool true]) (fun m x => match x with | ⟨vz, lz⟩ => fun w1 => (m 15 = true → Vec 34 51 vz ((ordE L2)).length (fE ((ordE L2))) lz) ∧ St w [] ((b11, cb (cD nilV true false) 90) :: (b10, cb (cD nilV true false) 37) :: (b9, cb (cFG (cutF f) ⟨.slice a1 (cutF f).tr.length c1, .slice a2 (cutF f).ids.length c2, .slice a4 (cutF f).val.length c4, .slice a3 (cutF f).txt.length c3⟩) 52) :: (t1, tabO mo m1) :: (m1, .map es2 ck2) :: (b5, cb (cFG (cutF f) ⟨.slice at1 (cutF f).tr.length ct1, .slice ai1 (cutF f).ids.length ci1, .slice av1 (cutF f).val.length cv1, .slice ax1 (cutF f).txt.length cx1⟩) 52) :: (b3, cb ([.slice ae xs.length ce, iV most] ++ cW n me ++ [.slice ao os.length co_]) 85) :: (rt, rtabO (.slice a5 (ordE L2).length c5) mo) :: ((bif m 15 then lz else []) ++ lr2)) w1) Ty.mixed rfl rfl rfl (by kernel_rfl) rfl rfl ?hinit ?hstep ?htail
            case hinit => exact fun w1 hw => ⟨(.slice none 0 0, []), fun h => (by cases h), hw.drew⟩
            case hstep =>
              refine ⟨fun m x hm hp => ?_, fun m x hm hp => ?_, fun m x hm hp => ?_, fun m x hm hp => ?_, fun m x hm hp => ?_, fun m x hm hp => ?_, fun m x hm hp => ?_, fun m x hm hp => ?_, fun m x hm hp => ?_, fun m x hm hp => ?_, fun m x hm hp => ?_, fun m x hm hp => ?_, fun m x hm hp => ?_, fun m x hm hp => ?_, fun m x hm hp => ?_, fun m x hm hp => ?_, fun m x hm hp => ?_, fun m x hm hp => ?_, fun m x hm hp => ?_, fun m x hm hp => ?_, fun m x hm hp => ?_, fun m x hm hp => ?_, trivial⟩
              · skip
                obtain ⟨vz, lz⟩ := x
                show J _ _ _ _ _ (_) _
                refine J.pr (fun hF => ?_)
                refine J.callB (v := .bool true) (fun w1 w2 hw hb => hw.step hb) Ty.bd15 rfl rfl (fun w1 hw => fixed14_spec w1) ?_
                exact J.finX rfl (fun _ hw => ⟨⟨vz, lz⟩, rfl, fun _ _ _ => rfl, hF, hw⟩)
              · skip
                obtain ⟨vz, lz⟩ := x
                show J _ _ _ _ _ ((69, .bool true) :: (69, .bool true) :: _) _
                refine J.pr (fun hF => ?_)
                refine J.move rfl rfl ?_
                exact J.finX rfl (fun _ hw => ⟨⟨vz, lz⟩, rfl, fun _ _ _ => rfl, hF, hw⟩)
              · skip
                obtain ⟨vz, lz⟩ := x
                show J _ _ _ _ _ ((70, .bool true) :: _) _
                refine J.pr (fun hF => ?_)
                first | refine J.skip rfl rfl rfl rfl rfl ?_ | refine J.skipU rfl rfl rfl rfl ?_ | (refine J.unguard rfl rfl rfl ?_; refine J.move rfl rfl ?_)
                exact J.finX rfl (fun _ hw => ⟨⟨vz, lz⟩, rfl, fun _ _ _ => rfl, hF, hw⟩)
              · skip
                obtain ⟨vz, lz⟩ := x
                show J _ _ _ _ _ ((70, .bool true) :: (71, .pointer (some ⟨t1, 0, none⟩)) :: _) _
                refine J.pr (fun hF => ?_)
                first | refine J.skip rfl rfl rfl rfl rfl ?_ | refine J.skipU rfl rfl rfl rfl ?_ | (refine J.unguard rfl rfl rfl ?_; refine J.neNil Ty.u29 rfl rfl rfl ?_)
                exact J.finX rfl (fun _ hw => ⟨⟨vz, lz⟩, rfl, fun _ _ _ => rfl, hF, hw⟩)
              · skip
                obtain ⟨vz, lz⟩ := x
                show J _ _ _ _ _ ((72, .bool true) :: (70, .bool true) :: _) _
                refine J.pr (fun hF => ?_)
                (first | refine J.pickT rfl rfl rfl ?_ | refine J.pickF rfl rfl rfl ?_)
                exact J.finX rfl (fun _ hw => ⟨⟨vz, lz⟩, rfl, fun _ _ _ => rfl, hF, hw⟩)
              · skip
                obtain ⟨vz, lz⟩ := x
                show J _ _ _ _ _ ((70, .bool true) :: (73, .bool true) :: _) _
                refine J.pr (fun hF => ?_)
                refine J.move rfl rfl ?_
                exact J.finX rfl (fun _ hw => ⟨⟨vz, lz⟩, rfl, fun _ _ _ => rfl, hF, hw⟩)
              · skip
                obtain ⟨vz, lz⟩ := x
                show J _ _ _ _ _ ((74, .bool true) :: _) _
                refine J.pr (fun hF => ?_)
                first | refine J.skip rfl rfl rfl rfl rfl ?_ | refine J.skipU rfl rfl rfl rfl ?_ | (refine J.unguard rfl rfl rfl ?_; refine J.move rfl rfl ?_)
                exact J.finX rfl (fun _ hw => ⟨⟨vz, lz⟩, rfl, fun _ _ _ => rfl, hF, hw⟩)
              · skip
                obtain ⟨vz, lz⟩ := x
                show J _ _ _ _ _ ((75, .bool true) :: (74, .bool true) :: _) _
                refine J.pr (fun hF => ?_)
                (first | refine J.pickT rfl rfl rfl ?_ | refine J.pickF rfl rfl rfl ?_)
                exact J.finX rfl (fun _ hw => ⟨⟨vz, lz⟩, rfl, fun _ _ _ => rfl, hF, hw⟩)
              · skip
                obtain ⟨vz, lz⟩ := x
                show J _ _ _ _ _ ((74, .bool true) :: (76, .bool true) :: _) _
                refine J.pr (fun hF => ?_)
                refine J.move rfl rfl ?_
                exact J.finX rfl (fun _ hw => ⟨⟨vz, lz⟩, rfl, fun _ _ _ => rfl, hF, hw⟩)
              · skip
                obtain ⟨vz, lz⟩ := x
                show J _ _ _ _ _ ((77, .bool true) :: _) _
                refine J.pr (fun hF => ?_)
                refine J.unguard rfl rfl rfl ?_
                refine J.loadA (vs := cD nilV true false) Ty.a37 Ty.s37 rfl rfl (fun w1 hw => Cells.of_block (hw.own _ (.tail _ (.head _))) rfl) rfl ?_
                exact J.finX rfl (fun _ hw => ⟨⟨vz, lz⟩, rfl, fun _ _ _ => rfl, hF, hw⟩)
              · skip
                obtain ⟨vz, lz⟩ := x
                show J _ _ _ _ _ ((77, .bool true) :: _) _
                refine J.pr (fun hF => ?_)
                refine J.unguard rfl rfl rfl ?_
                refine J.loadA (vs := cD nilV true false) Ty.a90 Ty.s90 rfl rfl (fun w1 hw => Cells.of_block (hw.own _ (.head _)) rfl) rfl ?_
                exact J.finX rfl (fun _ hw => ⟨⟨vz, lz⟩, rfl, fun _ _ _ => rfl, hF, hw⟩)
              · skip
                obtain ⟨vz, lz⟩ := x
                show J _ _ _ _ _ ((77, .bool true) :: (77, .bool true) :: (79, .agg (cD nilV true false).toArray) :: (78, .agg (cD nilV true false).toArray) :: _) _
                refine J.pr (fun hF => ?_)
                refine J.unguard rfl rfl rfl ?_
                refine J.callB (v := .bool true) (fun w1 w2 hw hb => hw.step hb) Ty.bd47 rfl rfl (fun w1 hw => same_nil true false w1) ?_
                exact J.finX rfl (fun _ hw => ⟨⟨vz, lz⟩, rfl, fun _ _ _ => rfl, hF, hw⟩)
              · skip
                obtain ⟨vz, lz⟩ := x
                show J _ _ _ _ _ ((80, .bool true) :: (77, .bool true) :: _) _
                refine J.pr (fun hF => ?_)
                (first | refine J.pickT rfl rfl rfl ?_ | refine J.pickF rfl rfl rfl ?_)
                exact J.finX rfl (fun _ hw => ⟨⟨vz, lz⟩, rfl, fun _ _ _ => rfl, hF, hw⟩)
              · skip
                obtain ⟨vz, lz⟩ := x
                show J _ _ _ _ _ ((80, .bool true) :: (81, .bool true) :: _) _
                refine J.pr (fun hF => ?_)
                refine J.move rfl rfl ?_
                exact J.finX rfl (fun _ hw => ⟨⟨vz, lz⟩, rfl, fun _ _ _ => rfl, hF, hw⟩)
              · skip
                obtain ⟨vz, lz⟩ := x
                show J _ _ _ _ _ ((82, .bool true) :: _) _
                refine J.pr (fun hF => ?_)
                first | refine J.skip rfl rfl rfl rfl rfl ?_ | refine J.skipU rfl rfl rfl rfl ?_ | (refine J.unguard rfl rfl rfl ?_; refine J.move rfl rfl ?_)
                exact J.finX rfl (fun _ hw => ⟨⟨vz, lz⟩, rfl, fun _ _ _ => rfl, hF, hw⟩)
              · skip
                obtain ⟨vz, lz⟩ := x
                show J _ _ _ _ _ ((82, .bool true) :: (82, .bool true) :: (83, .pointer (some ⟨t1, 0, none⟩)) :: _) _
                refine J.pr (fun hF => ?_)
                refine J.conseq (I' := St w [] ((b11, cb (cD nilV true false) 90) :: (b10, cb (cD nilV true false) 37) :: (b9, cb (cFG (cutF f) ⟨.slice a1 (cutF f).tr.length c1, .slice a2 (cutF f).ids.length c2, .slice a4 (cutF f).val.length c4, .slice a3 (cutF f).txt.length c3⟩) 52) :: (t1, tabO mo m1) :: (m1, .map es2 ck2) :: (b5, cb (cFG (cutF f) ⟨.slice at1 (cutF f).tr.length ct1, .slice ai1 (cutF f).ids.length ci1, .slice av1 (cutF f).val.length cv1, .slice ax1 (cutF f).txt.length cx1⟩) 52) :: (b3, cb ([.slice ae xs.length ce, iV most] ++ cW n me ++ [.slice ao os.length co_]) 85) :: (rt, rtabO (.slice a5 (ordE L2).length c5) mo) :: lr2)) ?_ (fun w1 hw => by simp only [hm, cond_false] at hw; exact hw)
                refine J.unguard rfl rfl rfl ?_
                refine J.perm ([] ++ ((b11, cb (cD nilV true false) 90) :: (b10, cb (cD nilV true false) 37) :: (b9, cb (cFG (cutF f) ⟨.slice a1 (cutF f).tr.length c1, .slice a2 (cutF f).ids.length c2, .slice a4 (cutF f).val.length c4, .slice a3 (cutF f).txt.length c3⟩) 52) :: (t1, tabO mo m1) :: (m1, .map es2 ck2) :: (b5, cb (cFG (cutF f) ⟨.slice at1 (cutF f).tr.length ct1, .slice ai1 (cutF f).ids.length ci1, .slice av1 (cutF f).val.length cv1, .slice ax1 (cutF f).txt.length cx1⟩) 52) :: (b3, cb ([.slice ae xs.length ce, iV most] ++ cW n me ++ [.slice ao os.length co_]) 85) :: (rt, rtabO (.slice a5 (ordE L2).length c5) mo) :: lr2)) (.refl _) ?_
                refine J.callS (α := Value × List (Nat × Obj)) (V := (·.1)) (Pr := fun x => Vec 34 51 x.1 (ordE L2).length (fE (ordE L2)) x.2) (L := (·.2)) (l1 := []) Ty.bd25 rfl rfl (fun w1 hw => all_spec t1 m1 mo (L2) es2 ck2 w1 (hw.own _ (.tail _ (.tail _ (.tail _ (.head _))))) (hw.own _ (.tail _ (.tail _ (.tail _ (.tail _ (.head _)))))) hT2 (by omega)) (fun x hvn => ?_)
                obtain ⟨vn, ln⟩ := x
                simp only at hvn ⊢
                refine J.nil (JX.finB rfl (fun w1 hw => ⟨⟨⟨vn, ln⟩, rfl, fun j h1 h2 => ?_, ?_⟩, trivial⟩))
                · match j, h1 with
                  | 0, _ => (first | rfl | trivial)
                  | 1, _ => (first | rfl | trivial)
                  | 2, _ => (first | rfl | trivial)
                  | 3, _ => (first | rfl | trivial)
                  | 4, _ => (first | rfl | trivial)
                  | 5, _ => (first | rfl | trivial)
                  | 6, _ => (first | rfl | trivial)
                  | 7, _ => (first | rfl | trivial)
                  | 8, _ => (first | rfl | trivial)
                  | 9, _ => (first | rfl | trivial)
                  | 10, _ => (first | rfl | trivial)
                  | 11, _ => (first | rfl | trivial)
                  | 12, _ => (first | rfl | trivial)
                  | 13, _ => (first | rfl | trivial)
                  | 14, _ => (first | rfl | trivial)
                  | 15, _ => exact absurd (h2.symm.trans hm) (by decide)
                  | 16, _ => (first | rfl | trivial)
                  | 17, _ => (first | rfl | trivial)
                  | 18, _ => (first | rfl | trivial)
                  | 19, _ => (first | rfl | trivial)
                  | 20, _ => (first | rfl | trivial)
                  | 21, _ => (first | rfl | trivial)
                  | j + 22, h1 => omega
                show (true = true → Vec 34 51 vn ((ordE L2)).length (fE ((ordE L2))) ln) ∧ St w [] ((b11, cb (cD nilV true false) 90) :: (b10, cb (cD nilV true false) 37) :: (b9, cb (cFG (cutF f) ⟨.slice a1 (cutF f).tr.length c1, .slice a2 (cutF f).ids.length c2, .slice a4 (cutF f).val.length c4, .slice a3 (cutF f).txt.length c3⟩) 52) :: (t1, tabO mo m1) :: (m1, .map es2 ck2) :: (b5, cb (cFG (cutF f) ⟨.slice at1 (cutF f).tr.length ct1, .slice ai1 (cutF f).ids.length ci1, .slice av1 (cutF f).val.length cv1, .slice ax1 (cutF f).txt.length cx1⟩) 52) :: (b3, cb ([.slice ae xs.length ce, iV most] ++ cW n me ++ [.slice ao os.length co_]) 85) :: (rt, rtabO (.slice a5 (ordE L2).length c5) mo) :: ((bif true then ln else []) ++ lr2)) w1
                simp only [hm, cond_true, cond_false] at hw ⊢
                exact ⟨fun _ => hvn, hw.perm (by (refine perm_cnt (fun _ => ?_)); simp only [cntB_append, cntB_cons, cntB_nil, Nat.add_zero, Nat.zero_add]; try ac_rfl)⟩
              · skip
                obtain ⟨vz, lz⟩ := x
                show J _ _ _ _ _ ((82, .bool true) :: _) _
                refine J.pr (fun hF => ?_)
                first | refine J.skip rfl rfl rfl rfl rfl ?_ | refine J.skipU rfl rfl rfl rfl ?_ | (refine J.unguard rfl rfl rfl ?_; refine J.move rfl rfl ?_)
                exact J.finX rfl (fun _ hw => ⟨⟨vz, lz⟩, rfl, fun _ _ _ => rfl, hF, hw⟩)
              · skip
                obtain ⟨vz, lz⟩ := x
                show J _ _ _ _ _ ((82, .bool true) :: (85, .pointer (some ⟨rt, 0, none⟩)) :: _) _
                refine J.pr (fun hF => ?_)
                first | refine J.skip rfl rfl rfl rfl rfl ?_ | refine J.skipU rfl rfl rfl rfl ?_ | (refine J.unguard rfl rfl rfl ?_; refine J.nilCheck rfl rfl ?_)
                exact J.finX rfl (fun _ hw => ⟨⟨vz, lz⟩, rfl, fun _ _ _ => rfl, hF, hw⟩)
              · skip
                obtain ⟨vz, lz⟩ := x
                show J _ _ _ _ _ ((82, .bool true) :: (86, .pointer (some ⟨rt, 0, none⟩)) :: _) _
                refine J.pr (fun hF => ?_)
                first | refine J.skip rfl rfl rfl rfl rfl ?_ | refine J.skipU rfl rfl rfl rfl ?_ | (refine J.unguard rfl rfl rfl ?_; refine J.fieldAddr Ty.fd82_0 rfl rfl ?_)
                exact J.finX rfl (fun _ hw => ⟨⟨vz, lz⟩, rfl, fun _ _ _ => rfl, hF, hw⟩)
              · skip
                obtain ⟨vz, lz⟩ := x
                show J _ _ _ _ _ ((82, .bool true) :: (87, .pointer (some ⟨rt, 0 + 0, none⟩)) :: _) _
                refine J.pr (fun hF => ?_)
                refine J.unguard rfl rfl rfl ?_
                refine J.load1 (v := .slice a5 (ordE L2).length c5) Ty.a62 rfl (fun w1 hw => by rw [cell_of (hw.own _ (.tail _ (.tail _ (.tail _ (.tail _ (.tail _ (.tail _ (.tail _ (.head _)))))))))]; rfl) rfl ?_
                exact J.finX rfl (fun _ hw => ⟨⟨vz, lz⟩, rfl, fun _ _ _ => rfl, hF, hw⟩)
              · skip
                obtain ⟨vz, lz⟩ := x
                show J _ _ _ _ _ ((82, .bool true) :: (84, vz) :: (88, .slice a5 (ordE L2).length c5) :: (84, vz) :: _) _
                have hp15 : m 15 = true := predsT hp (by kernel_rfl)
                have hp15 : m 15 = true := predsT hp (by kernel_rfl)
                refine J.pr (fun hF => ?_)
                refine J.unguard rfl rfl rfl ?_
                refine J.callB (v := .bool true) (fun w1 w2 hw hb => hw.step hb) Ty.bd26 rfl rfl (fun w1 hw => (by have h := rsame_spec _ _ ((ordE L2)) ((ordE L2)) w1 (vec_rowM (l := (b11, cb (cD nilV true false) 90) :: (b10, cb (cD nilV true false) 37) :: (b9, cb (cFG (cutF f) ⟨.slice a1 (cutF f).tr.length c1, .slice a2 (cutF f).ids.length c2, .slice a4 (cutF f).val.length c4, .slice a3 (cutF f).txt.length c3⟩) 52) :: (t1, tabO mo m1) :: (m1, .map es2 ck2) :: (b5, cb (cFG (cutF f) ⟨.slice at1 (cutF f).tr.length ct1, .slice ai1 (cutF f).ids.length ci1, .slice av1 (cutF f).val.length cv1, .slice ax1 (cutF f).txt.length cx1⟩) 52) :: (b3, cb ([.slice ae xs.length ce, iV most] ++ cW n me ++ [.slice ao os.length co_]) 85) :: (rt, rtabO (.slice a5 (ordE L2).length c5) mo) :: (lz ++ lr2)) (hF hp15) (by simp only [hp15, cond_true] at hw; exact hw) (fun q hq => by first | (simp [hq]; done) | (simp at hq; simp [hq]; done) | (simp at hq; subst hq; simp))) (vec_rowM (l := (b11, cb (cD nilV true false) 90) :: (b10, cb (cD nilV true false) 37) :: (b9, cb (cFG (cutF f) ⟨.slice a1 (cutF f).tr.length c1, .slice a2 (cutF f).ids.length c2, .slice a4 (cutF f).val.length c4, .slice a3 (cutF f).txt.length c3⟩) 52) :: (t1, tabO mo m1) :: (m1, .map es2 ck2) :: (b5, cb (cFG (cutF f) ⟨.slice at1 (cutF f).tr.length ct1, .slice ai1 (cutF f).ids.length ci1, .slice av1 (cutF f).val.length cv1, .slice ax1 (cutF f).txt.length cx1⟩) 52) :: (b3, cb ([.slice ae xs.length ce, iV most] ++ cW n me ++ [.slice ao os.length co_]) 85) :: (rt, rtabO (.slice a5 (ordE L2).length c5) mo) :: (lz ++ lr2)) hv5 (by simp only [hp15, cond_true] at hw; exact hw) (fun q hq => by first | (simp [hq]; done) | (simp at hq; simp [hq]; done) | (simp at hq; subst hq; simp))) (ordE_ok hT2) (ordE_ok hT2) (by omega) (by omega); simpa using h)) ?_
                exact J.finX rfl (fun _ hw => ⟨⟨vz, lz⟩, rfl, fun _ _ _ => rfl, hF, hw⟩)
              · skip
                obtain ⟨vz, lz⟩ := x
                show J _ _ _ _ _ ((89, .bool true) :: (82, .bool true) :: _) _
                refine J.pr (fun hF => ?_)
                (first | refine J.pickT rfl rfl rfl ?_ | refine J.pickF rfl rfl rfl ?_)
                exact J.finX rfl (fun _ hw => ⟨⟨vz, lz⟩, rfl, fun _ _ _ => rfl, hF, hw⟩)
            case htail =>
              intro x
              obtain ⟨vz, lz⟩ := x
              show J _ _ _ _ _ ((90, .bool true) :: (89, .bool true) :: (88, .slice a5 (ordE L2).length c5) :: (87, .pointer (some ⟨rt, 0 + 0, none⟩)) :: (86, .pointer (some ⟨rt, 0, none⟩)) :: (85, .pointer (some ⟨rt, 0, none⟩)) :: (84, vz) :: (83, .pointer (some ⟨t1, 0, none⟩)) :: (82, .bool true) :: (81, .bool true) :: (80, .bool true) :: (79, .agg (cD nilV true false).toArray) :: (78, .agg (cD nilV true false).toArray) :: (77, .bool true) :: (76, .bool true) :: (75, .bool true) :: (74, .bool true) :: (73, .bool true) :: (72, .bool true) :: (71, .pointer (some ⟨t1, 0, none⟩)) :: (70, .bool true) :: (69, .bool true) :: _) (fun w1 => (true = true → Vec 34 51 vz ((ordE L2)).length (fE ((ordE L2))) lz) ∧ St w [] ((b11, cb (cD nilV true false) 90) :: (b10, cb (cD nilV true false) 37) :: (b9, cb (cFG (cutF f) ⟨.slice a1 (cutF f).tr.length c1, .slice a2 (cutF f).ids.length c2, .slice a4 (cutF f).val.length c4, .slice a3 (cutF f).txt.length c3⟩) 52) :: (t1, tabO mo m1) :: (m1, .map es2 ck2) :: (b5, cb (cFG (cutF f) ⟨.slice at1 (cutF f).tr.length ct1, .slice ai1 (cutF f).ids.length ci1, .slice av1 (cutF f).val.length cv1, .slice ax1 (cutF f).txt.length cx1⟩) 52) :: (b3, cb ([.slice ae xs.length ce, iV most] ++ cW n me ++ [.slice ao os.length co_]) 85) :: (rt, rtabO (.slice a5 (ordE L2).length c5) mo) :: ((bif true then lz else []) ++ lr2)) w1)
              refine J.pr (fun hF => ?_)
              refine J.assign rfl rfl ?_
              refine J.nil ?_
              refine JX.thenN (hK31 _ _ ?_)
              refine JC.ret ?_
              refine JX.ret1 rfl rfl (fun w hw => ?_)
              exact ⟨rfl, (hw.drop (List.nil_sublist _)).below⟩
        · skip
          obtain ⟨nx, rfl⟩ : ∃ x, x = nb := ⟨_, rfl⟩
          refine JC.region ?_
          refine J.move rfl rfl ?_
          refine J.fieldAddr Ty.fd85_2 rfl rfl ?_
          refine J.loadOA (vs := cW n me) Ty.a41 Ty.s41 rfl (.tail _ (.tail _ (.tail _ (.tail _ (.head _))))) rfl rfl rfl ?_
          refine J.move rfl rfl ?_
          refine J.loadOA (vs := cFG (cutF f) ⟨.slice a1 (cutF f).tr.length c1, .slice a2 (cutF f).ids.length c2, .slice a4 (cutF f).val.length c4, .slice a3 (cutF f).txt.length c3⟩) Ty.a52 Ty.s52 rfl (.head _) rfl rfl rfl ?_
          refine J.fieldAddr Ty.fd85_3 rfl rfl ?_
          refine J.loadO (v := .slice ao os.length co_) Ty.a28 rfl (.tail _ (.tail _ (.tail _ (.tail _ (.head _))))) rfl rfl ?_
          refine J.perm ([(t1, tabO mo m1), (m1, .map es ck)] ++ ((b9, cb (cFG (cutF f) ⟨.slice a1 (cutF f).tr.length c1, .slice a2 (cutF f).ids.length c2, .slice a4 (cutF f).val.length c4, .slice a3 (cutF f).txt.length c3⟩) 52) :: (b5, cb (cFG (cutF f) ⟨.slice at1 (cutF f).tr.length ct1, .slice ai1 (cutF f).ids.length ci1, .slice av1 (cutF f).val.length cv1, .slice ax1 (cutF f).txt.length cx1⟩) 52) :: (b3, cb ([.slice ae xs.length ce, iV most] ++ cW n me ++ [.slice ao os.length co_]) 85) :: (rt, rtabO (.slice ar (ordE L).length cr) mo) :: (lr ++ (l1 ++ (l2 ++ (l3 ++ l4)))))) (by (refine perm_cnt (fun _ => ?_)); simp only [cntB_append, cntB_cons, cntB_nil, Nat.add_zero, Nat.zero_add]; try ac_rfl) ?_
          refine J.callS (α := OutS) (V := fun x => .agg (cD (.slice (some ⟨x.h, 0, none⟩) 1 1) false false).toArray) (Pr := fun x => Vec 3 1 (.slice x.a (cutF f).tr.length x.c) (cutF f).tr.length ((cutF f).tr.map iV) x.lp ∧ Tab L2 x.es x.ck) (L := fun x => (x.h, cb (cH nx (cF 4 (cutF f).p (cutF f).a (cutF f).b (.slice x.a (cutF f).tr.length x.c))) 54) :: (x.lp ++ [(t1, tabO mo m1), (m1, .map x.es x.ck)])) (l1 := [(t1, tabO mo m1), (m1, .map es ck)]) Ty.bd19 rfl rfl (fun w1 hw => gtake_onQ t1 m1 mo L es ck n fr me (cutF f) ⟨.slice a1 (cutF f).tr.length c1, .slice a2 (cutF f).ids.length c2, .slice a4 (cutF f).val.length c4, .slice a3 (cutF f).txt.length c3⟩ _ os w1 ⟨(vec_rowM hv1 hw (fun q hq => by first | (simp [hq]; done) | (simp at hq; simp [hq]; done) | (simp at hq; subst hq; simp))), (vec_rowM hv2 hw (fun q hq => by first | (simp [hq]; done) | (simp at hq; simp [hq]; done) | (simp at hq; subst hq; simp))), (vec_rowM hv4 hw (fun q hq => by first | (simp [hq]; done) | (simp at hq; simp [hq]; done) | (simp at hq; subst hq; simp))), (vec_rowM hv3 hw (fun q hq => by first | (simp [hq]; done) | (simp at hq; simp [hq]; done) | (simp at hq; subst hq; simp)))⟩ ⟨(hv1.off (hw.perm (l' := [(t1, tabO mo m1), (m1, .map es ck)] ++ (l1 ++ ((b9, cb (cFG (cutF f) ⟨.slice a1 (cutF f).tr.length c1, .slice a2 (cutF f).ids.length c2, .slice a4 (cutF f).val.length c4, .slice a3 (cutF f).txt.length c3⟩) 52) :: (b5, cb (cFG (cutF f) ⟨.slice at1 (cutF f).tr.length ct1, .slice ai1 (cutF f).ids.length ci1, .slice av1 (cutF f).val.length cv1, .slice ax1 (cutF f).txt.length cx1⟩) 52) :: (b3, cb ([.slice ae xs.length ce, iV most] ++ cW n me ++ [.slice ao os.length co_]) 85) :: (rt, rtabO (.slice ar (ordE L).length cr) mo) :: (lr ++ (l2 ++ l3 ++ l4))))) (by (refine perm_cnt (fun _ => ?_)); simp only [cntB_append, cntB_cons, cntB_nil, Nat.add_zero, Nat.zero_add]; try ac_rfl))), (hv2.off (hw.perm (l' := [(t1, tabO mo m1), (m1, .map es ck)] ++ (l2 ++ ((b9, cb (cFG (cutF f) ⟨.slice a1 (cutF f).tr.length c1, .slice a2 (cutF f).ids.length c2, .slice a4 (cutF f).val.length c4, .slice a3 (cutF f).txt.length c3⟩) 52) :: (b5, cb (cFG (cutF f) ⟨.slice at1 (cutF f).tr.length ct1, .slice ai1 (cutF f).ids.length ci1, .slice av1 (cutF f).val.length cv1, .slice ax1 (cutF f).txt.length cx1⟩) 52) :: (b3, cb ([.slice ae xs.length ce, iV most] ++ cW n me ++ [.slice ao os.length co_]) 85) :: (rt, rtabO (.slice ar (ordE L).length cr) mo) :: (lr ++ (l1 ++ l3 ++ l4))))) (by (refine perm_cnt (fun _ => ?_)); simp only [cntB_append, cntB_cons, cntB_nil, Nat.add_zero, Nat.zero_add]; try ac_rfl))), (hv4.off (hw.perm (l' := [(t1, tabO mo m1), (m1, .map es ck)] ++ (l4 ++ ((b9, cb (cFG (cutF f) ⟨.slice a1 (cutF f).tr.length c1, .slice a2 (cutF f).ids.length c2, .slice a4 (cutF f).val.length c4, .slice a3 (cutF f).txt.length c3⟩) 52) :: (b5, cb (cFG (cutF f) ⟨.slice at1 (cutF f).tr.length ct1, .slice ai1 (cutF f).ids.length ci1, .slice av1 (cutF f).val.length cv1, .slice ax1 (cutF f).txt.length cx1⟩) 52) :: (b3, cb ([.slice ae xs.length ce, iV most] ++ cW n me ++ [.slice ao os.length co_]) 85) :: (rt, rtabO (.slice ar (ordE L).length cr) mo) :: (lr ++ (l1 ++ l2 ++ l3))))) (by (refine perm_cnt (fun _ => ?_)); simp only [cntB_append, cntB_cons, cntB_nil, Nat.add_zero, Nat.zero_add]; try ac_rfl))), (hv3.off (hw.perm (l' := [(t1, tabO mo m1), (m1, .map es ck)] ++ (l3 ++ ((b9, cb (cFG (cutF f) ⟨.slice a1 (cutF f).tr.length c1, .slice a2 (cutF f).ids.length c2, .slice a4 (cutF f).val.length c4, .slice a3 (cutF f).txt.length c3⟩) 52) :: (b5, cb (cFG (cutF f) ⟨.slice at1 (cutF f).tr.length ct1, .slice ai1 (cutF f).ids.length ci1, .slice av1 (cutF f).val.length cv1, .slice ax1 (cutF f).txt.length cx1⟩) 52) :: (b3, cb ([.slice ae xs.length ce, iV most] ++ cW n me ++ [.slice ao os.length co_]) 85) :: (rt, rtabO (.slice ar (ordE L).length cr) mo) :: (lr ++ (l1 ++ l2 ++ l4))))) (by (refine perm_cnt (fun _ => ?_)); simp only [cntB_append, cntB_cons, cntB_nil, Nat.add_zero, Nat.zero_add]; try ac_rfl)))⟩ hg1 (by omega) hk hf1.p hfr i hi hi2 hat hfrom hnd (hro.below (hw.drop (List.nil_sublist _)).below) (hro.offNew hw (fun x hx => List.mem_append_left _ hx)) (by omega) hw.owns hT nx hnx hop hadd) (fun y hy9 => ?_)
          obtain ⟨hz, az, cz1, lz1, es2, ck2⟩ := y
          obtain ⟨hvz1, hT2⟩ := hy9
          simp only [List.cons_append, List.nil_append] at hvz1 hT2 ⊢
          refine J.perm ((b9, cb (cFG (cutF f) ⟨.slice a1 (cutF f).tr.length c1, .slice a2 (cutF f).ids.length c2, .slice a4 (cutF f).val.length c4, .slice a3 (cutF f).txt.length c3⟩) 52) :: (t1, tabO mo m1) :: (m1, .map es2 ck2) :: (b5, cb (cFG (cutF f) ⟨.slice at1 (cutF f).tr.length ct1, .slice ai1 (cutF f).ids.length ci1, .slice av1 (cutF f).val.length cv1, .slice ax1 (cutF f).txt.length cx1⟩) 52) :: (b3, cb ([.slice ae xs.length ce, iV most] ++ cW n me ++ [.slice ao os.length co_]) 85) :: (rt, rtabO (.slice ar (ordE L).length cr) mo) :: (lr ++ ((hz, cb (cH nx (cF 4 (cutF f).p (cutF f).a (cutF f).b (.slice az (cutF f).tr.length cz1))) 54) :: (lz1 ++ (l1 ++ (l2 ++ (l3 ++ l4))))))) (by (refine perm_cnt (fun _ => ?_)); simp only [cntB_append, cntB_cons, cntB_nil, Nat.add_zero, Nat.zero_add]; try ac_rfl) ?_
          refine J.alloc zN rfl rfl (fun b10 => ?_)
          refine J.storeW (cs := cD nilV false false) (vs := cD (.slice (some ⟨hz, 0, none⟩) 1 1) false false) Ty.s37 rfl rfl rfl rfl rfl (by simp [Value.oneCell']) .here ?_
          refine J.nil ?_
          refine JX.thenN (hK4 _ _ ?_)
          refine JC.seq (fun K32 hK32 => ?_)
          refine JC.region ?_
          refine J.move rfl rfl ?_
          refine J.fieldAddr Ty.fd85_2 rfl rfl ?_
          refine J.fieldAddr Ty.fd41_0 rfl rfl ?_
          refine J.loadO (v := iV n) Ty.a3 rfl (.tail _ (.tail _ (.tail _ (.tail _ (.tail _ (.head _)))))) rfl rfl ?_
          refine J.fieldAddr Ty.fd85_2 rfl rfl ?_
          refine J.fieldAddr Ty.fd41_1 rfl rfl ?_
          refine J.loadOA (vs := cI me) Ty.a23 Ty.s23 rfl (.tail _ (.tail _ (.tail _ (.tail _ (.tail _ (.head _)))))) rfl rfl rfl ?_
          refine J.move rfl rfl ?_
          refine J.loadOA (vs := cFG (cutF f) ⟨.slice at1 (cutF f).tr.length ct1, .slice ai1 (cutF f).ids.length ci1, .slice av1 (cutF f).val.length cv1, .slice ax1 (cutF f).txt.length cx1⟩) Ty.a52 Ty.s52 rfl (.tail _ (.tail _ (.tail _ (.tail _ (.head _))))) rfl rfl rfl ?_
          refine J.fieldAddr Ty.fd85_3 rfl rfl ?_
          refine J.loadO (v := .slice ao os.length co_) Ty.a28 rfl (.tail _ (.tail _ (.tail _ (.tail _ (.tail _ (.head _)))))) rfl rfl ?_
          refine J.perm (((rt, rtabO (.slice ar (ordE L).length cr) mo) :: lr) ++ ((b10, cb (cD (.slice (some ⟨hz, 0, none⟩) 1 1) false false) 37) :: (b9, cb (cFG (cutF f) ⟨.slice a1 (cutF f).tr.length c1, .slice a2 (cutF f).ids.length c2, .slice a4 (cutF f).val.length c4, .slice a3 (cutF f).txt.length c3⟩) 52) :: (t1, tabO mo m1) :: (m1, .map es2 ck2) :: (b5, cb (cFG (cutF f) ⟨.slice at1 (cutF f).tr.length ct1, .slice ai1 (cutF f).ids.length ci1, .slice av1 (cutF f).val.length cv1, .slice ax1 (cutF f).txt.length cx1⟩) 52) :: (b3, cb ([.slice ae xs.length ce, iV most] ++ cW n me ++ [.slice ao os.length co_]) 85) :: ((hz, cb (cH nx (cF 4 (cutF f).p (cutF f).a (cutF f).b (.slice az (cutF f).tr.length cz1))) 54) :: (lz1 ++ (l1 ++ (l2 ++ (l3 ++ l4))))))) (by (refine perm_cnt (fun _ => ?_)); simp only [cntB_append, cntB_cons, cntB_nil, Nat.add_zero, Nat.zero_add]; try ac_rfl) ?_
          refine J.callS (α := OutR) (V := fun x => .agg (cD (.slice (some ⟨x.h, 0, none⟩) 1 1) false false).toArray) (Pr := fun x => Vec 3 1 (.slice x.a (cutF f).tr.length x.c) (cutF f).tr.length ((cutF f).tr.map iV) x.lp ∧ Vec 34 51 x.v (ordE L2).length (fE (ordE L2)) x.lr) (L := fun x => (x.h, cb (cH nx (cF 4 (cutF f).p (cutF f).a (cutF f).b (.slice x.a (cutF f).tr.length x.c))) 54) :: (x.lp ++ (rt, rtabO x.v mo) :: x.lr)) (l1 := ((rt, rtabO (.slice ar (ordE L).length cr) mo) :: lr)) Ty.bd49 rfl rfl (fun w1 hw => rtake_on rt _ mo L lr es ck n fr me (cutF f) ⟨.slice at1 (cutF f).tr.length ct1, .slice ai1 (cutF f).ids.length ci1, .slice av1 (cutF f).val.length cv1, .slice ax1 (cutF f).txt.length cx1⟩ _ os w1 (rows_cut (hs.below (hw.drop (List.nil_sublist _)).below)) ⟨((rows_cut hs).tr.offNew hw (fun x hx => List.mem_append_left _ hx)), (hs.ids.offNew hw (fun x hx => List.mem_append_left _ hx)), (hs.val.offNew hw (fun x hx => List.mem_append_left _ hx)), (hs.txt.offNew hw (fun x hx => List.mem_append_left _ hx))⟩ hg1 hk hf1.p hfr i hi hi2 hat hfrom hnd (hro.below (hw.drop (List.nil_sublist _)).below) (hro.offNew hw (fun x hx => List.mem_append_left _ hx)) (by omega) hw.owns hT hl128 hvr nx hnx hop hadd) (fun y hy9 => ?_)
          obtain ⟨hy, ay, cy1, ly1, v5, lr2⟩ := y
          obtain ⟨hvy1, hv5⟩ := hy9
          simp only [List.cons_append, List.nil_append] at hvy1 hv5 ⊢
          obtain ⟨a5, c5, rfl, hc5⟩ := hv5.form
          refine J.perm ((b10, cb (cD (.slice (some ⟨hz, 0, none⟩) 1 1) false false) 37) :: (b9, cb (cFG (cutF f) ⟨.slice a1 (cutF f).tr.length c1, .slice a2 (cutF f).ids.length c2, .slice a4 (cutF f).val.length c4, .slice a3 (cutF f).txt.length c3⟩) 52) :: (t1, tabO mo m1) :: (m1, .map es2 ck2) :: (b5, cb (cFG (cutF f) ⟨.slice at1 (cutF f).tr.length ct1, .slice ai1 (cutF f).ids.length ci1, .slice av1 (cutF f).val.length cv1, .slice ax1 (cutF f).txt.length cx1⟩) 52) :: (b3, cb ([.slice ae xs.length ce, iV most] ++ cW n me ++ [.slice ao os.length co_]) 85) :: (rt, rtabO (.slice a5 (ordE L2).length c5) mo) :: ((lr2 ++ ((hz, cb (cH nx (cF 4 (cutF f).p (cutF f).a (cutF f).b (.slice az (cutF f).tr.length cz1))) 54) :: (lz1 ++ ((hy, cb (cH nx (cF 4 (cutF f).p (cutF f).a (cutF f).b (.slice ay (cutF f).tr.length cy1))) 54) :: ly1)))) ++ (l1 ++ (l2 ++ (l3 ++ l4))))) (by (refine perm_cnt (fun _ => ?_)); simp only [cntB_append, cntB_cons, cntB_nil, Nat.add_zero, Nat.zero_add]; try ac_rfl) ?_
          refine J.alloc zN_ rfl rfl (fun b11 => ?_)
          refine J.storeW (cs := cD nilV false false) (vs := cD (.slice (some ⟨hy, 0, none⟩) 1 1) false false) Ty.s90 rfl rfl rfl rfl rfl (by simp [Value.oneCell']) .here ?_
          refine J.perm ((b11, cb (cD (.slice (some ⟨hy, 0, none⟩) 1 1) false false) 90) :: (b10, cb (cD (.slice (some ⟨hz, 0, none⟩) 1 1) false false) 37) :: (b9, cb (cFG (cutF f) ⟨.slice a1 (cutF f).tr.length c1, .slice a2 (cutF f).ids.length c2, .slice a4 (cutF f).val.length c4, .slice a3 (cutF f).txt.length c3⟩) 52) :: (t1, tabO mo m1) :: (m1, .map es2 ck2) :: (b5, cb (cFG (cutF f) ⟨.slice at1 (cutF f).tr.length ct1, .slice ai1 (cutF f).ids.length ci1, .slice av1 (cutF f).val.length cv1, .slice ax1 (cutF f).txt.length cx1⟩) 52) :: (b3, cb ([.slice ae xs.length ce, iV most] ++ cW n me ++ [.slice ao os.length co_]) 85) :: (rt, rtabO (.slice a5 (ordE L2).length c5) mo) :: ((lr2 ++ ((hz, cb (cH nx (cF 4 (cutF f).p (cutF f).a (cutF f).b (.slice az (cutF f).tr.length cz1))) 54) :: (lz1 ++ ((hy, cb (cH nx (cF 4 (cutF f).p (cutF f).a (cutF f).b (.slice ay (cutF f).tr.length cy1))) 54) :: ly1)))) ++ (l1 ++ (l2 ++ (l3 ++ l4))))) (by (refine perm_cnt (fun _ => ?_)); simp only [cntB_append, cntB_cons, cntB_nil, Nat.add_zero, Nat.zero_add]; try ac_rfl) ?_
          refine J.nil ?_
          refine JX.thenN (hK32 _ _ ?_)
          refine JC.seq (fun K33 hK33 => ?_)
          refine JC.region ?_
          refine J.loadOA (vs := cFG (cutF f) ⟨.slice at1 (cutF f).tr.length ct1, .slice ai1 (cutF f).ids.length ci1, .slice av1 (cutF f).val.length cv1, .slice ax1 (cutF f).txt.length cx1⟩) Ty.a52 Ty.s52 rfl (.tail _ (.tail _ (.tail _ (.tail _ (.tail _ (.head _)))))) rfl rfl rfl ?_
          refine J.loadOA (vs := cFG (cutF f) ⟨.slice a1 (cutF f).tr.length c1, .slice a2 (cutF f).ids.length c2, .slice a4 (cutF f).val.length c4, .slice a3 (cutF f).txt.length c3⟩) Ty.a52 Ty.s52 rfl (.tail _ (.tail _ (.head _))) rfl rfl rfl ?_
          refine J.callB (v := .bool true) (fun w1 w2 hw hb => hw.step hb) Ty.bd50 rfl rfl (fun w1 hw => same04_spec (cutF f) hf1 ⟨.slice at1 (cutF f).tr.length ct1, .slice ai1 (cutF f).ids.length ci1, .slice av1 (cutF f).val.length cv1, .slice ax1 (cutF f).txt.length cx1⟩ ⟨.slice a1 (cutF f).tr.length c1, .slice a2 (cutF f).ids.length c2, .slice a4 (cutF f).val.length c4, .slice a3 (cutF f).txt.length c3⟩ w1 (rows_cut (hs.below (hw.drop (List.nil_sublist _)).below)) ⟨(vec_rowM hv1 hw (fun q hq => by first | (simp [hq]; done) | (simp at hq; simp [hq]; done) | (simp at hq; subst hq; simp))), (vec_rowM hv2 hw (fun q hq => by first | (simp [hq]; done) | (simp at hq; simp [hq]; done) | (simp at hq; subst hq; simp))), (vec_rowM hv4 hw (fun q hq => by first | (simp [hq]; done) | (simp at hq; simp [hq]; done) | (simp at hq; subst hq; simp))), (vec_rowM hv3 hw (fun q hq => by first | (simp [hq]; done) | (simp at hq; simp [hq]; done) | (simp at hq; subst hq; simp)))⟩) ?_
          refine J.assign rfl rfl ?_
          refine J.nil ?_
          refine JX.thenN (hK33 _ _ ?_)
          refine JC.seq (fun K34 hK34 => ?_)
          refine JC.seq (fun K35 hK35 => ?_)
          refine JC.region ?_
          refine J.fieldAddr Ty.fd52_8 rfl rfl ?_
          refine J.loadO (v := .slice a1 (cutF f).tr.length c1) Ty.a26 rfl (.tail _ (.tail _ (.head _))) rfl rfl ?_
          refine J.lenS rfl Ty.u26 rfl rfl ?_
          refine J.move rfl rfl ?_
          refine J.nil ?_
          refine JX.thenN (hK35 _ _ ?_)
          refine JC.block ?_
          refine JC.conseq (JC.cov (f := (fun st => [(7, .pointer (some ⟨t1, 0, none⟩)), (8, .pointer (some ⟨rt, 0, none⟩)), (9, .pointer (some ⟨b9, 0, none⟩)), (10, .pointer (some ⟨b10, 0, none⟩)), (11, .pointer (some ⟨b11, 0, none⟩)), (12, .bool true), (57, .int .i64 (((cutF f).tr.length : Nat) : Int)), (58, .int .i64 ((st.1 : Nat) : Int))]) ((0, l1) : Nat × List (Nat × Obj))) ⟨rfl, rfl, rfl, rfl, rfl, rfl, rfl, rfl, trivial⟩ (JC.loop (α := Nat × List (Nat × Obj)) (fun st => [(7, .pointer (some ⟨t1, 0, none⟩)), (8, .pointer (some ⟨rt, 0, none⟩)), (9, .pointer (some ⟨b9, 0, none⟩)), (10, .pointer (some ⟨b10, 0, none⟩)), (11, .pointer (some ⟨b11, 0, none⟩)), (12, .bool true), (57, .int .i64 (((cutF f).tr.length : Nat) : Int)), (58, .int .i64 ((st.1 : Nat) : Int))]) (fun st w' => (st.1 ≤ (cutF f).tr.length ∧ IBlk (.slice a1 (cutF f).tr.length c1) (cutF f).tr.length st.2) ∧ St w [] (st.2 ++ ((b11, cb (cD (.slice (some ⟨hy, 0, none⟩) 1 1) false false) 90) :: (b10, cb (cD (.slice (some ⟨hz, 0, none⟩) 1 1) false false) 37) :: (b9, cb (cFG (cutF f) ⟨.slice a1 (cutF f).tr.length c1, .slice a2 (cutF f).ids.length c2, .slice a4 (cutF f).val.length c4, .slice a3 (cutF f).txt.length c3⟩) 52) :: (t1, tabO mo m1) :: (m1, .map es2 ck2) :: (b5, cb (cFG (cutF f) ⟨.slice at1 (cutF f).tr.length ct1, .slice ai1 (cutF f).ids.length ci1, .slice av1 (cutF f).val.length cv1, .slice ax1 (cutF f).txt.length cx1⟩) 52) :: (b3, cb ([.slice ae xs.length ce, iV most] ++ cW n me ++ [.slice ao os.length co_]) 85) :: (rt, rtabO (.slice a5 (ordE L2).length c5) mo) :: ((lr2 ++ ((hz, cb (cH nx (cF 4 (cutF f).p (cutF f).a (cutF f).b (.slice az (cutF f).tr.length cz1))) 54) :: (lz1 ++ ((hy, cb (cH nx (cF 4 (cutF f).p (cutF f).a (cutF f).b (.slice ay (cutF f).tr.length cy1))) 54) :: ly1)))) ++ (l2 ++ (l3 ++ l4))))) w') (fun st => (cutF f).tr.length - st.1) ((0, l1) : Nat × List (Nat × Obj)) (fun st => ?_))) (fun w hw => ⟨⟨Nat.zero_le _, iblk_of hv1⟩, hw.perm (by (refine perm_cnt (fun _ => ?_)); simp only [cntB_append, cntB_cons, cntB_nil, Nat.add_zero, Nat.zero_add]; try ac_rfl)⟩)
          obtain ⟨ix, lj⟩ := st
          refine JC.pr (fun hx1 => ?_)
          obtain ⟨hij, hbl⟩ := hx1
          simp only at hij hbl ⊢
          refine JC.seq (fun K36 hK36 => ?_)
          refine JC.region ?_
          refine J.bin rfl rfl rfl rfl ?_
          refine J.nil ?_
          refine JX.thenN (hK36 _ _ ?_)
          refine JC.seq (fun K37 hK37 => ?_)
          refine JC.cond rfl (fun h0 => ?_) (fun h0 => ?_)
          · skip
            have hlt : ix < (cutF f).tr.length := by simp at h0; omega
            obtain ⟨qv, ys, sp, rfl, rfl, hys, hyc⟩ := iblk_pos hbl (by omega)
            obtain ⟨yi, hyi⟩ : ∃ y, ys[ix]? = some y := ⟨_, List.getElem?_eq_getElem (by omega)⟩
            refine JC.skip ?_
            refine JX.thenN (hK37 _ _ ?_)
            refine JC.seq (fun K38 hK38 => ?_)
            refine JC.block ?_
            refine JC.seq (fun K39 hK39 => ?_)
            refine JC.region ?_
            refine J.move rfl rfl ?_
            refine J.assign rfl rfl ?_
            refine J.nil ?_
            refine JX.thenN (hK39 _ _ ?_)
            refine JC.region ?_
            refine J.fieldAddr Ty.fd52_8 rfl rfl ?_
            refine J.loadO (v := .slice (some ⟨qv, 0, none⟩) (cutF f).tr.length c1) Ty.a26 rfl (.tail _ (.tail _ (.tail _ (.head _)))) rfl rfl ?_
            refine J.move rfl rfl ?_
            refine J.indexAddrS Ty.el26 Ty.s3 rfl rfl (by omega) (by omega) rfl ?_
            refine J.load1 (v := iV yi) Ty.a3 rfl (fun w1 hw => rowI_at2 (i := ix) (Row.own (cs := ys.map iV ++ sp) (tb := 3) (fr := (0, 0)) hw (.head _) (by simp) hyc : Row w1 (.slice (some ⟨qv, 0, none⟩) (cutF f).tr.length c1) (cutF f).tr.length (ys.map iV)) hyi (by simp)) rfl ?_
            refine J.bin rfl rfl rfl rfl ?_
            refine J.name 66 rfl (show _ = iV (IntKind.wrap .i64 (yi + 1)) from rfl) ?_
            refine J.indexAddrS Ty.el26 Ty.s3 rfl rfl (by omega) (by omega) rfl ?_
            refine J.storeO (cs := ys.map iV ++ sp) (vs := [iV (IntKind.wrap .i64 (yi + 1))]) Ty.s3 rfl rfl rfl rfl (by simp [Value.oneCell']) .here (by simp; omega) ?_
            refine J.nil ?_
            refine JX.blockN ?_
            refine JX.thenN (hK38 _ _ ?_)
            refine JC.region ?_
            (first | refine J.addN rfl rfl (by omega) (by omega) rfl ?_ | refine J.bin rfl rfl rfl rfl ?_)
            refine J.move rfl rfl ?_
            refine J.nil ?_
            refine JX.thenN ?_
            refine JX.again ((ix + 1, [(qv, cb ((ys.set ix (IntKind.wrap .i64 (yi + 1))).map iV ++ sp) 3)]) : Nat × List (Nat × Obj)) ?_ ?_ ?_
            · simp only; omega
            · exact ⟨rfl, rfl, rfl, rfl, rfl, rfl, rfl, rfl, trivial⟩
            · exact fun w1 hw => ⟨⟨hlt, .inr ⟨qv, _, _, sp, rfl, rfl, by rw [List.length_set]; exact hys, hyc⟩⟩, by rw [set_int (i := ix) (by omega) (by simp)] at hw; exact hw⟩
          · skip
            refine JC.conseq (I' := St w [] ((b11, cb (cD (.slice (some ⟨hy, 0, none⟩) 1 1) false false) 90) :: (b10, cb (cD (.slice (some ⟨hz, 0, none⟩) 1 1) false false) 37) :: (b9, cb (cFG (cutF f) ⟨.slice a1 (cutF f).tr.length c1, .slice a2 (cutF f).ids.length c2, .slice a4 (cutF f).val.length c4, .slice a3 (cutF f).txt.length c3⟩) 52) :: (t1, tabO mo m1) :: (m1, .map es2 ck2) :: (b5, cb (cFG (cutF f) ⟨.slice at1 (cutF f).tr.length ct1, .slice ai1 (cutF f).ids.length ci1, .slice av1 (cutF f).val.length cv1, .slice ax1 (cutF f).txt.length cx1⟩) 52) :: (b3, cb ([.slice ae xs.length ce, iV most] ++ cW n me ++ [.slice ao os.length co_]) 85) :: (rt, rtabO (.slice a5 (ordE L2).length c5) mo) :: (lr2 ++ ((hz, cb (cH nx (cF 4 (cutF f).p (cutF f).a (cutF f).b (.slice az (cutF f).tr.length cz1))) 54) :: (lz1 ++ ((hy, cb (cH nx (cF 4 (cutF f).p (cutF f).a (cutF f).b (.slice ay (cutF f).tr.length cy1))) 54) :: ly1)))))) ?_ (fun w1 hw => (hw.perm (l' := (lj ++ (l2 ++ (l3 ++ l4))) ++ ((b11, cb (cD (.slice (some ⟨hy, 0, none⟩) 1 1) false false) 90) :: (b10, cb (cD (.slice (some ⟨hz, 0, none⟩) 1 1) false false) 37) :: (b9, cb (cFG (cutF f) ⟨.slice a1 (cutF f).tr.length c1, .slice a2 (cutF f).ids.length c2, .slice a4 (cutF f).val.length c4, .slice a3 (cutF f).txt.length c3⟩) 52) :: (t1, tabO mo m1) :: (m1, .map es2 ck2) :: (b5, cb (cFG (cutF f) ⟨.slice at1 (cutF f).tr.length ct1, .slice ai1 (cutF f).ids.length ci1, .slice av1 (cutF f).val.length cv1, .slice ax1 (cutF f).txt.length cx1⟩) 52) :: (b3, cb ([.slice ae xs.length ce, iV most] ++ cW n me ++ [.slice ao os.length co_]) 85) :: (rt, rtabO (.slice a5 (ordE L2).length c5) mo) :: (lr2 ++ ((hz, cb (cH nx (cF 4 (cutF f).p (cutF f).a (cutF f).b (.slice az (cutF f).tr.length cz1))) 54) :: (lz1 ++ ((hy, cb (cH nx (cF 4 (cutF f).p (cutF f).a (cutF f).b (.slice ay (cutF f).tr.length cy1))) 54) :: ly1)))))) (by (refine perm_cnt (fun _ => ?_)); simp only [cntB_append, cntB_cons, cntB_nil, Nat.add_zero, Nat.zero_add]; try ac_rfl)).drop (List.sublist_append_right _ _))
            refine JC.exit ?_
            refine JX.thenE ?_
            refine JX.thenE ?_
            refine JX.blockE ?_
            refine JX.thenN (hK34 _ _ ?_)
            refine JC.seq (fun K40 hK40 => ?_)
            apply JC.drawX (α := Value × List (Nat × Obj)) 22 (fun x => match x with | ⟨vz, lz⟩ => [.bool true, .bool true, .pointer (some ⟨t1, 0, none⟩), .bool true, .bool true, .bool true, .bool true, .bool true, .bool true, .agg (cD (.slice (some ⟨hz, 0, none⟩) 1 1) false false).toArray, .agg (cD (.slice (some ⟨hy, 0, none⟩) 1 1) false false).toArray, .bool true, .bool true, .bool true, .pointer (some ⟨t1, 0, none⟩), vz, .pointer (some ⟨rt, 0, none⟩), .pointer (some ⟨rt, 0, none⟩), .pointer (some ⟨rt, 0 + 0, none⟩), .slice a5 (ordE L2).length c5, .bool true, .bool true]) (fun m x => match x with | ⟨vz, lz⟩ => fun w1 => (m 15 = true → Vec 34 51 vz ((ordE L2)).length (fE ((ordE L2))) lz) ∧ St w [] ((b11, cb (cD (.slice (some ⟨hy, 0, none⟩) 1 1) false false) 90) :: (b10, cb (cD (.slice (some ⟨hz, 0, none⟩) 1 1) false false) 37) :: (b9, cb (cFG (cutF f) ⟨.slice a1 (cutF f).tr.length c1, .slice a2 (cutF f).ids.length c2, .slice a4 (cutF f).val.length c4, .slice a3 (cutF f).txt.length c3⟩) 52) :: (t1, tabO mo m1) :: (m1, .map es2 ck2) :: (b5, cb (cFG (cutF f) ⟨.slice at1 (cutF f).tr.length ct1, .slice ai1 (cutF f).ids.length ci1, .slice av1 (cutF f).val.length cv1, .slice ax1 (cutF f).txt.length cx1⟩) 52) :: (b3, cb ([.slice ae xs.length ce, iV most] ++ cW n me ++ [.slice ao os.length co_]) 85) :: (rt, rtabO (.slice a5 (ordE L2).length c5) mo) :: ((bif m 15 then lz else []) ++ (lr2 ++ ((hz, cb (cH nx (cF 4 (cutF f).p (cutF f).a (cutF f).b (.slice az (cutF f).tr.length cz1))) 54) :: (lz1 ++ ((hy, cb (cH nx (cF 4 (cutF f).p (cutF f).a (cutF f).b (.slice ay (cutF f).tr.length cy1))) 54) :: ly1)))))) w1) Ty.mixed rfl rfl rfl (by kernel_rfl) rfl rfl ?hinit ?hstep ?htail
            case hinit => exact fun w1 hw => ⟨(.slice none 0 0, []), fun h => (by cases h), hw.drew⟩
            case hstep =>
              refine ⟨fun m x hm hp => ?_, fun m x hm hp => ?_, fun m x hm hp => ?_, fun m x hm hp => ?_, fun m x hm hp => ?_, fun m x hm hp => ?_, fun m x hm hp => ?_, fun m x hm hp => ?_, fun m x hm hp => ?_, fun m x hm hp => ?_, fun m x hm hp => ?_, fun m x hm hp => ?_, fun m x hm hp => ?_, fun m x hm hp => ?_, fun m x hm hp => ?_, fun m x hm hp => ?_, fun m x hm hp => ?_, fun m x hm hp => ?_, fun m x hm hp => ?_, fun m x hm hp => ?_, fun m x hm hp => ?_, fun m x hm hp => ?_, trivial⟩
              · skip
                obtain ⟨vz, lz⟩ := x
                show J _ _ _ _ _ (_) _
                refine J.pr (fun hF => ?_)
                refine J.callB (v := .bool true) (fun w1 w2 hw hb => hw.step hb) Ty.bd15 rfl rfl (fun w1 hw => fixed14_spec w1) ?_
                exact J.finX rfl (fun _ hw => ⟨⟨vz, lz⟩, rfl, fun _ _ _ => rfl, hF, hw⟩)
              · skip
                obtain ⟨vz, lz⟩ := x
                show J _ _ _ _ _ ((69, .bool true) :: (69, .bool true) :: _) _
                refine J.pr (fun hF => ?_)
                refine J.move rfl rfl ?_
                exact J.finX rfl (fun _ hw => ⟨⟨vz, lz⟩, rfl, fun _ _ _ => rfl, hF, hw⟩)
              · skip
                obtain ⟨vz, lz⟩ := x
                show J _ _ _ _ _ ((70, .bool true) :: _) _
                refine J.pr (fun hF => ?_)
                first | refine J.skip rfl rfl rfl rfl rfl ?_ | refine J.skipU rfl rfl rfl rfl ?_ | (refine J.unguard rfl rfl rfl ?_; refine J.move rfl rfl ?_)
                exact J.finX rfl (fun _ hw => ⟨⟨vz, lz⟩, rfl, fun _ _ _ => rfl, hF, hw⟩)
              · skip
                obtain ⟨vz, lz⟩ := x
                show J _ _ _ _ _ ((70, .bool true) :: (71, .pointer (some ⟨t1, 0, none⟩)) :: _) _
                refine J.pr (fun hF => ?_)
                first | refine J.skip rfl rfl rfl rfl rfl ?_ | refine J.skipU rfl rfl rfl rfl ?_ | (refine J.unguard rfl rfl rfl ?_; refine J.neNil Ty.u29 rfl rfl rfl ?_)
                exact J.finX rfl (fun _ hw => ⟨⟨vz, lz⟩, rfl, fun _ _ _ => rfl, hF, hw⟩)
              · skip
                obtain ⟨vz, lz⟩ := x
                show J _ _ _ _ _ ((72, .bool true) :: (70, .bool true) :: _) _
                refine J.pr (fun hF => ?_)
                (first | refine J.pickT rfl rfl rfl ?_ | refine J.pickF rfl rfl rfl ?_)
                exact J.finX rfl (fun _ hw => ⟨⟨vz, lz⟩, rfl, fun _ _ _ => rfl, hF, hw⟩)
              · skip
                obtain ⟨vz, lz⟩ := x
                show J _ _ _ _ _ ((70, .bool true) :: (73, .bool true) :: _) _
                refine J.pr (fun hF => ?_)
                refine J.move rfl rfl ?_
                exact J.finX rfl (fun _ hw => ⟨⟨vz, lz⟩, rfl, fun _ _ _ => rfl, hF, hw⟩)
              · skip
                obtain ⟨vz, lz⟩ := x
                show J _ _ _ _ _ ((74, .bool true) :: _) _
                refine J.pr (fun hF => ?_)
                first | refine J.skip rfl rfl rfl rfl rfl ?_ | refine J.skipU rfl rfl rfl rfl ?_ | (refine J.unguard rfl rfl rfl ?_; refine J.move rfl rfl ?_)
                exact J.finX rfl (fun _ hw => ⟨⟨vz, lz⟩, rfl, fun _ _ _ => rfl, hF, hw⟩)
              · skip
                obtain ⟨vz, lz⟩ := x
                show J _ _ _ _ _ ((75, .bool true) :: (74, .bool true) :: _) _
                refine J.pr (fun hF => ?_)
                (first | refine J.pickT rfl rfl rfl ?_ | refine J.pickF rfl rfl rfl ?_)
                exact J.finX rfl (fun _ hw => ⟨⟨vz, lz⟩, rfl, fun _ _ _ => rfl, hF, hw⟩)
              · skip
                obtain ⟨vz, lz⟩ := x
                show J _ _ _ _ _ ((74, .bool true) :: (76, .bool true) :: _) _
                refine J.pr (fun hF => ?_)
                refine J.move rfl rfl ?_
                exact J.finX rfl (fun _ hw => ⟨⟨vz, lz⟩, rfl, fun _ _ _ => rfl, hF, hw⟩)
              · skip
                obtain ⟨vz, lz⟩ := x
                show J _ _ _ _ _ ((77, .bool true) :: _) _
                refine J.pr (fun hF => ?_)
                refine J.unguard rfl rfl rfl ?_
                refine J.loadA (vs := cD (.slice (some ⟨hz, 0, none⟩) 1 1) false false) Ty.a37 Ty.s37 rfl rfl (fun w1 hw => Cells.of_block (hw.own _ (.tail _ (.head _))) rfl) rfl ?_
                exact J.finX rfl (fun _ hw => ⟨⟨vz, lz⟩, rfl, fun _ _ _ => rfl, hF, hw⟩)
              · skip
                obtain ⟨vz, lz⟩ := x
                show J _ _ _ _ _ ((77, .bool true) :: _) _
                refine J.pr (fun hF => ?_)
                refine J.unguard rfl rfl rfl ?_
                refine J.loadA (vs := cD (.slice (some ⟨hy, 0, none⟩) 1 1) false false) Ty.a90 Ty.s90 rfl rfl (fun w1 hw => Cells.of_block (hw.own _ (.head _)) rfl) rfl ?_
                exact J.finX rfl (fun _ hw => ⟨⟨vz, lz⟩, rfl, fun _ _ _ => rfl, hF, hw⟩)
              · skip
                obtain ⟨vz, lz⟩ := x
                show J _ _ _ _ _ ((77, .bool true) :: (77, .bool true) :: (79, .agg (cD (.slice (some ⟨hy, 0, none⟩) 1 1) false false).toArray) :: (78, .agg (cD (.slice (some ⟨hz, 0, none⟩) 1 1) false false).toArray) :: _) _
                refine J.pr (fun hF => ?_)
                refine J.unguard rfl rfl rfl ?_
                refine J.callB (v := .bool true) (fun w1 w2 hw hb => hw.step hb) Ty.bd47 rfl rfl (fun w1 hw => same_on hw false false (me := (cutF f).a) (b := (cutF f).b) (n1 := nx) hf1.p hcl hvz1 hvy1 (by simp) (by simp) (fun q hq => by simp [hq]) (fun q hq => by simp [hq])) ?_
                exact J.finX rfl (fun _ hw => ⟨⟨vz, lz⟩, rfl, fun _ _ _ => rfl, hF, hw⟩)
              · skip
                obtain ⟨vz, lz⟩ := x
                show J _ _ _ _ _ ((80, .bool true) :: (77, .bool true) :: _) _
                refine J.pr (fun hF => ?_)
                (first | refine J.pickT rfl rfl rfl ?_ | refine J.pickF rfl rfl rfl ?_)
                exact J.finX rfl (fun _ hw => ⟨⟨vz, lz⟩, rfl, fun _ _ _ => rfl, hF, hw⟩)
              · skip
                obtain ⟨vz, lz⟩ := x
                show J _ _ _ _ _ ((80, .bool true) :: (81, .bool true) :: _) _
                refine J.pr (fun hF => ?_)
                refine J.move rfl rfl ?_
                exact J.finX rfl (fun _ hw => ⟨⟨vz, lz⟩, rfl, fun _ _ _ => rfl, hF, hw⟩)
              · skip
                obtain ⟨vz, lz⟩ := x
                show J _ _ _ _ _ ((82, .bool true) :: _) _
                refine J.pr (fun hF => ?_)
                first | refine J.skip rfl rfl rfl rfl rfl ?_ | refine J.skipU rfl rfl rfl rfl ?_ | (refine J.unguard rfl rfl rfl ?_; refine J.move rfl rfl ?_)
                exact J.finX rfl (fun _ hw => ⟨⟨vz, lz⟩, rfl, fun _ _ _ => rfl, hF, hw⟩)
              · skip
                obtain ⟨vz, lz⟩ := x
                show J _ _ _ _ _ ((82, .bool true) :: (82, .bool true) :: (83, .pointer (some ⟨t1, 0, none⟩)) :: _) _
                refine J.pr (fun hF => ?_)
                refine J.conseq (I' := St w [] ((b11, cb (cD (.slice (some ⟨hy, 0, none⟩) 1 1) false false) 90) :: (b10, cb (cD (.slice (some ⟨hz, 0, none⟩) 1 1) false false) 37) :: (b9, cb (cFG (cutF f) ⟨.slice a1 (cutF f).tr.length c1, .slice a2 (cutF f).ids.length c2, .slice a4 (cutF f).val.length c4, .slice a3 (cutF f).txt.length c3⟩) 52) :: (t1, tabO mo m1) :: (m1, .map es2 ck2) :: (b5, cb (cFG (cutF f) ⟨.slice at1 (cutF f).tr.length ct1, .slice ai1 (cutF f).ids.length ci1, .slice av1 (cutF f).val.length cv1, .slice ax1 (cutF f).txt.length cx1⟩) 52) :: (b3, cb ([.slice ae xs.length ce, iV most] ++ cW n me ++ [.slice ao os.length co_]) 85) :: (rt, rtabO (.slice a5 (ordE L2).length c5) mo) :: (lr2 ++ ((hz, cb (cH nx (cF 4 (cutF f).p (cutF f).a (cutF f).b (.slice az (cutF f).tr.length cz1))) 54) :: (lz1 ++ ((hy, cb (cH nx (cF 4 (cutF f).p (cutF f).a (cutF f).b (.slice ay (cutF f).tr.length cy1))) 54) :: ly1)))))) ?_ (fun w1 hw => by simp only [hm, cond_false] at hw; exact hw)
                refine J.unguard rfl rfl rfl ?_
                refine J.perm ([] ++ ((b11, cb (cD (.slice (some ⟨hy, 0, none⟩) 1 1) false false) 90) :: (b10, cb (cD (.slice (some ⟨hz, 0, none⟩) 1 1) false false) 37) :: (b9, cb (cFG (cutF f) ⟨.slice a1 (cutF f).tr.length c1, .slice a2 (cutF f).ids.length c2, .slice a4 (cutF f).val.length c4, .slice a3 (cutF f).txt.length c3⟩) 52) :: (t1, tabO mo m1) :: (m1, .map es2 ck2) :: (b5, cb (cFG (cutF f) ⟨.slice at1 (cutF f).tr.length ct1, .slice ai1 (cutF f).ids.length ci1, .slice av1 (cutF f).val.length cv1, .slice ax1 (cutF f).txt.length cx1⟩) 52) :: (b3, cb ([.slice ae xs.length ce, iV most] ++ cW n me ++ [.slice ao os.length co_]) 85) :: (rt, rtabO (.slice a5 (ordE L2).length c5) mo) :: (lr2 ++ ((hz, cb (cH nx (cF 4 (cutF f).p (cutF f).a (cutF f).b (.slice az (cutF f).tr.length cz1))) 54) :: (lz1 ++ ((hy, cb (cH nx (cF 4 (cutF f).p (cutF f).a (cutF f).b (.slice ay (cutF f).tr.length cy1))) 54) :: ly1)))))) (.refl _) ?_
                refine J.callS (α := Value × List (Nat × Obj)) (V := (·.1)) (Pr := fun x => Vec 34 51 x.1 (ordE L2).length (fE (ordE L2)) x.2) (L := (·.2)) (l1 := []) Ty.bd25 rfl rfl (fun w1 hw => all_spec t1 m1 mo (L2) es2 ck2 w1 (hw.own _ (.tail _ (.tail _ (.tail _ (.head _))))) (hw.own _ (.tail _ (.tail _ (.tail _ (.tail _ (.head _)))))) hT2 (by omega)) (fun x hvn => ?_)
                obtain ⟨vn, ln⟩ := x
                simp only at hvn ⊢
                refine J.nil (JX.finB rfl (fun w1 hw => ⟨⟨⟨vn, ln⟩, rfl, fun j h1 h2 => ?_, ?_⟩, trivial⟩))
                · match j, h1 with
                  | 0, _ => (first | rfl | trivial)
                  | 1, _ => (first | rfl | trivial)
                  | 2, _ => (first | rfl | trivial)
                  | 3, _ => (first | rfl | trivial)
                  | 4, _ => (first | rfl | trivial)
                  | 5, _ => (first | rfl | trivial)
                  | 6, _ => (first | rfl | trivial)
                  | 7, _ => (first | rfl | trivial)
                  | 8, _ => (first | rfl | trivial)
                  | 9, _ => (first | rfl | trivial)
                  | 10, _ => (first | rfl | trivial)
                  | 11, _ => (first | rfl | trivial)
                  | 12, _ => (first | rfl | trivial)
                  | 13, _ => (first | rfl | trivial)
                  | 14, _ => (first | rfl | trivial)
                  | 15, _ => exact absurd (h2.symm.trans hm) (by decide)
                  | 16, _ => (first | rfl | trivial)
                  | 17, _ => (first | rfl | trivial)
                  | 18, _ => (first | rfl | trivial)
                  | 19, _ => (first | rfl | trivial)
                  | 20, _ => (first | rfl | trivial)
                  | 21, _ => (first | rfl | trivial)
                  | j + 22, h1 => omega
                show (true = true → Vec 34 51 vn ((ordE L2)).length (fE ((ordE L2))) ln) ∧ St w [] ((b11, cb (cD (.slice (some ⟨hy, 0, none⟩) 1 1) false false) 90) :: (b10, cb (cD (.slice (some ⟨hz, 0, none⟩) 1 1) false false) 37) :: (b9, cb (cFG (cutF f) ⟨.slice a1 (cutF f).tr.length c1, .slice a2 (cutF f).ids.length c2, .slice a4 (cutF f).val.length c4, .slice a3 (cutF f).txt.length c3⟩) 52) :: (t1, tabO mo m1) :: (m1, .map es2 ck2) :: (b5, cb (cFG (cutF f) ⟨.slice at1 (cutF f).tr.length ct1, .slice ai1 (cutF f).ids.length ci1, .slice av1 (cutF f).val.length cv1, .slice ax1 (cutF f).txt.length cx1⟩) 52) :: (b3, cb ([.slice ae xs.length ce, iV most] ++ cW n me ++ [.slice ao os.length co_]) 85) :: (rt, rtabO (.slice a5 (ordE L2).length c5) mo) :: ((bif true then ln else []) ++ (lr2 ++ ((hz, cb (cH nx (cF 4 (cutF f).p (cutF f).a (cutF f).b (.slice az (cutF f).tr.length cz1))) 54) :: (lz1 ++ ((hy, cb (cH nx (cF 4 (cutF f).p (cutF f).a (cutF f).b (.slice ay (cutF f).tr.length cy1))) 54) :: ly1)))))) w1
                simp only [hm, cond_true, cond_false] at hw ⊢
                exact ⟨fun _ => hvn, hw.perm (by (refine perm_cnt (fun _ => ?_)); simp only [cntB_append, cntB_cons, cntB_nil, Nat.add_zero, Nat.zero_add]; try ac_rfl)⟩
              · skip
                obtain ⟨vz, lz⟩ := x
                show J _ _ _ _ _ ((82, .bool true) :: _) _
                refine J.pr (fun hF => ?_)
                first | refine J.skip rfl rfl rfl rfl rfl ?_ | refine J.skipU rfl rfl rfl rfl ?_ | (refine J.unguard rfl rfl rfl ?_; refine J.move rfl rfl ?_)
                exact J.finX rfl (fun _ hw => ⟨⟨vz, lz⟩, rfl, fun _ _ _ => rfl, hF, hw⟩)
              · skip
                obtain ⟨vz, lz⟩ := x
                show J _ _ _ _ _ ((82, .bool true) :: (85, .pointer (some ⟨rt, 0, none⟩)) :: _) _
                refine J.pr (fun hF => ?_)
                first | refine J.skip rfl rfl rfl rfl rfl ?_ | refine J.skipU rfl rfl rfl rfl ?_ | (refine J.unguard rfl rfl rfl ?_; refine J.nilCheck rfl rfl ?_)
                exact J.finX rfl (fun _ hw => ⟨⟨vz, lz⟩, rfl, fun _ _ _ => rfl, hF, hw⟩)
              · skip
                obtain ⟨vz, lz⟩ := x
                show J _ _ _ _ _ ((82, .bool true) :: (86, .pointer (some ⟨rt, 0, none⟩)) :: _) _
                refine J.pr (fun hF => ?_)
                first | refine J.skip rfl rfl rfl rfl rfl ?_ | refine J.skipU rfl rfl rfl rfl ?_ | (refine J.unguard rfl rfl rfl ?_; refine J.fieldAddr Ty.fd82_0 rfl rfl ?_)
                exact J.finX rfl (fun _ hw => ⟨⟨vz, lz⟩, rfl, fun _ _ _ => rfl, hF, hw⟩)
              · skip
                obtain ⟨vz, lz⟩ := x
                show J _ _ _ _ _ ((82, .bool true) :: (87, .pointer (some ⟨rt, 0 + 0, none⟩)) :: _) _
                refine J.pr (fun hF => ?_)
                refine J.unguard rfl rfl rfl ?_
                refine J.load1 (v := .slice a5 (ordE L2).length c5) Ty.a62 rfl (fun w1 hw => by rw [cell_of (hw.own _ (.tail _ (.tail _ (.tail _ (.tail _ (.tail _ (.tail _ (.tail _ (.head _)))))))))]; rfl) rfl ?_
                exact J.finX rfl (fun _ hw => ⟨⟨vz, lz⟩, rfl, fun _ _ _ => rfl, hF, hw⟩)
              · skip
                obtain ⟨vz, lz⟩ := x
                show J _ _ _ _ _ ((82, .bool true) :: (84, vz) :: (88, .slice a5 (ordE L2).length c5) :: (84, vz) :: _) _
                have hp15 : m 15 = true := predsT hp (by kernel_rfl)
                have hp15 : m 15 = true := predsT hp (by kernel_rfl)
                refine J.pr (fun hF => ?_)
                refine J.unguard rfl rfl rfl ?_
                refine J.callB (v := .bool true) (fun w1 w2 hw hb => hw.step hb) Ty.bd26 rfl rfl (fun w1 hw => (by have h := rsame_spec _ _ ((ordE L2)) ((ordE L2)) w1 (vec_rowM (l := (b11, cb (cD (.slice (some ⟨hy, 0, none⟩) 1 1) false false) 90) :: (b10, cb (cD (.slice (some ⟨hz, 0, none⟩) 1 1) false false) 37) :: (b9, cb (cFG (cutF f) ⟨.slice a1 (cutF f).tr.length c1, .slice a2 (cutF f).ids.length c2, .slice a4 (cutF f).val.length c4, .slice a3 (cutF f).txt.length c3⟩) 52) :: (t1, tabO mo m1) :: (m1, .map es2 ck2) :: (b5, cb (cFG (cutF f) ⟨.slice at1 (cutF f).tr.length ct1, .slice ai1 (cutF f).ids.length ci1, .slice av1 (cutF f).val.length cv1, .slice ax1 (cutF f).txt.length cx1⟩) 52) :: (b3, cb ([.slice ae xs.length ce, iV most] ++ cW n me ++ [.slice ao os.length co_]) 85) :: (rt, rtabO (.slice a5 (ordE L2).length c5) mo) :: (lz ++ (lr2 ++ ((hz, cb (cH nx (cF 4 (cutF f).p (cutF f).a (cutF f).b (.slice az (cutF f).tr.length cz1))) 54) :: (lz1 ++ ((hy, cb (cH nx (cF 4 (cutF f).p (cutF f).a (cutF f).b (.slice ay (cutF f).tr.length cy1))) 54) :: ly1)))))) (hF hp15) (by simp only [hp15, cond_true] at hw; exact hw) (fun q hq => by first | (simp [hq]; done) | (simp at hq; simp [hq]; done) | (simp at hq; subst hq; simp))) (vec_rowM (l := (b11, cb (cD (.slice (some ⟨hy, 0, none⟩) 1 1) false false) 90) :: (b10, cb (cD (.slice (some ⟨hz, 0, none⟩) 1 1) false false) 37) :: (b9, cb (cFG (cutF f) ⟨.slice a1 (cutF f).tr.length c1, .slice a2 (cutF f).ids.length c2, .slice a4 (cutF f).val.length c4, .slice a3 (cutF f).txt.length c3⟩) 52) :: (t1, tabO mo m1) :: (m1, .map es2 ck2) :: (b5, cb (cFG (cutF f) ⟨.slice at1 (cutF f).tr.length ct1, .slice ai1 (cutF f).ids.length ci1, .slice av1 (cutF f).val.length cv1, .slice ax1 (cutF f).txt.length cx1⟩) 52) :: (b3, cb ([.slice ae xs.length ce, iV most] ++ cW n me ++ [.slice ao os.length co_]) 85) :: (rt, rtabO (.slice a5 (ordE L2).length c5) mo) :: (lz ++ (lr2 ++ ((hz, cb (cH nx (cF 4 (cutF f).p (cutF f).a (cutF f).b (.slice az (cutF f).tr.length cz1))) 54) :: (lz1 ++ ((hy, cb (cH nx (cF 4 (cutF f).p (cutF f).a (cutF f).b (.slice ay (cutF f).tr.length cy1))) 54) :: ly1)))))) hv5 (by simp only [hp15, cond_true] at hw; exact hw) (fun q hq => by first | (simp [hq]; done) | (simp at hq; simp [hq]; done) | (simp at hq; subst hq; simp))) (ordE_ok hT2) (ordE_ok hT2) (by omega) (by omega); simpa using h)) ?_
                exact J.finX rfl (fun _ hw => ⟨⟨vz, lz⟩, rfl, fun _ _ _ => rfl, hF, hw⟩)
              · skip
                obtain ⟨vz, lz⟩ := x
                show J _ _ _ _ _ ((89, .bool true) :: (82, .bool true) :: _) _
                refine J.pr (fun hF => ?_)
                (first | refine J.pickT rfl rfl rfl ?_ | refine J.pickF rfl rfl rfl ?_)
                exact J.finX rfl (fun _ hw => ⟨⟨vz, lz⟩, rfl, fun _ _ _ => rfl, hF, hw⟩)
            case htail =>
              intro x
              obtain ⟨vz, lz⟩ := x
              show J _ _ _ _ _ ((90, .bool true) :: (89, .bool true) :: (88, .slice a5 (ordE L2).length c5) :: (87, .pointer (some ⟨rt, 0 + 0, none⟩)) :: (86, .pointer (some ⟨rt, 0, none⟩)) :: (85, .pointer (some ⟨rt, 0, none⟩)) :: (84, vz) :: (83, .pointer (some ⟨t1, 0, none⟩)) :: (82, .bool true) :: (81, .bool true) :: (80, .bool true) :: (79, .agg (cD (.slice (some ⟨hy, 0, none⟩) 1 1) false false).toArray) :: (78, .agg (cD (.slice (some ⟨hz, 0, none⟩) 1 1) false false).toArray) :: (77, .bool true) :: (76, .bool true) :: (75, .bool true) :: (74, .bool true) :: (73, .bool true) :: (72, .bool true) :: (71, .pointer (some ⟨t1, 0, none⟩)) :: (70, .bool true) :: (69, .bool true) :: _) (fun w1 => (true = true → Vec 34 51 vz ((ordE L2)).length (fE ((ordE L2))) lz) ∧ St w [] ((b11, cb (cD (.slice (some ⟨hy, 0, none⟩) 1 1) false false) 90) :: (b10, cb (cD (.slice (some ⟨hz, 0, none⟩) 1 1) false false) 37) :: (b9, cb (cFG (cutF f) ⟨.slice a1 (cutF f).tr.length c1, .slice a2 (cutF f).ids.length c2, .slice a4 (cutF f).val.length c4, .slice a3 (cutF f).txt.length c3⟩) 52) :: (t1, tabO mo m1) :: (m1, .map es2 ck2) :: (b5, cb (cFG (cutF f) ⟨.slice at1 (cutF f).tr.length ct1, .slice ai1 (cutF f).ids.length ci1, .slice av1 (cutF f).val.length cv1, .slice ax1 (cutF f).txt.length cx1⟩) 52) :: (b3, cb ([.slice ae xs.length ce, iV most] ++ cW n me ++ [.slice ao os.length co_]) 85) :: (rt, rtabO (.slice a5 (ordE L2).length c5) mo) :: ((bif true then lz else []) ++ (lr2 ++ ((hz, cb (cH nx (cF 4 (cutF f).p (cutF f).a (cutF f).b (.slice az (cutF f).tr.length cz1))) 54) :: (lz1 ++ ((hy, cb (cH nx (cF 4 (cutF f).p (cutF f).a (cutF f).b (.slice ay (cutF f).tr.length cy1))) 54) :: ly1)))))) w1)
              refine J.pr (fun hF => ?_)
              refine J.assign rfl rfl ?_
              refine J.nil ?_
              refine JX.thenN (hK40 _ _ ?_)
              refine JC.ret ?_
              refine JX.ret1 rfl rfl (fun w hw => ?_)
              exact ⟨rfl, (hw.drop (List.nil_sublist _)).below⟩
      · skip
        refine JC.region ?_
        refine J.move rfl rfl ?_
        refine J.fieldAddr Ty.fd85_2 rfl rfl ?_
        refine J.loadOA (vs := cW n me) Ty.a41 Ty.s41 rfl (.tail _ (.tail _ (.tail _ (.tail _ (.head _))))) rfl rfl rfl ?_
        refine J.move rfl rfl ?_
        refine J.loadOA (vs := cFG (cutF f) ⟨.slice a1 (cutF f).tr.length c1, .slice a2 (cutF f).ids.length c2, .slice a4 (cutF f).val.length c4, .slice a3 (cutF f).txt.length c3⟩) Ty.a52 Ty.s52 rfl (.head _) rfl rfl rfl ?_
        refine J.fieldAddr Ty.fd85_3 rfl rfl ?_
        refine J.loadO (v := .slice ao os.length co_) Ty.a28 rfl (.tail _ (.tail _ (.tail _ (.tail _ (.head _))))) rfl rfl ?_
        refine J.perm ([(t1, tabO mo m1), (m1, .map es ck)] ++ ((b9, cb (cFG (cutF f) ⟨.slice a1 (cutF f).tr.length c1, .slice a2 (cutF f).ids.length c2, .slice a4 (cutF f).val.length c4, .slice a3 (cutF f).txt.length c3⟩) 52) :: (b5, cb (cFG (cutF f) ⟨.slice at1 (cutF f).tr.length ct1, .slice ai1 (cutF f).ids.length ci1, .slice av1 (cutF f).val.length cv1, .slice ax1 (cutF f).txt.length cx1⟩) 52) :: (b3, cb ([.slice ae xs.length ce, iV most] ++ cW n me ++ [.slice ao os.length co_]) 85) :: (rt, rtabO (.slice ar (ordE L).length cr) mo) :: (lr ++ (l1 ++ (l2 ++ (l3 ++ l4)))))) (by (refine perm_cnt (fun _ => ?_)); simp only [cntB_append, cntB_cons, cntB_nil, Nat.add_zero, Nat.zero_add]; try ac_rfl) ?_
        refine J.callS (α := Nat × Array MapEntry × Nat) (V := fun x => .agg (cD (.slice (some ⟨x.1, 0, none⟩) 1 1) false (e == 5)).toArray) (Pr := fun x => Tab L2 x.2.1 x.2.2) (L := fun x => (x.1, cb (cH fr (cF 5 (cutF f).p zI zI nilV)) 54) :: [(t1, tabO mo m1), (m1, .map x.2.1 x.2.2)]) (l1 := [(t1, tabO mo m1), (m1, .map es ck)]) Ty.bd19 rfl rfl (fun w1 hw => gtake_fullQ t1 m1 mo L es ck n fr me (cutF f) ⟨.slice a1 (cutF f).tr.length c1, .slice a2 (cutF f).ids.length c2, .slice a4 (cutF f).val.length c4, .slice a3 (cutF f).txt.length c3⟩ _ os w1 ⟨(vec_rowM hv1 hw (fun q hq => by first | (simp [hq]; done) | (simp at hq; simp [hq]; done) | (simp at hq; subst hq; simp))), (vec_rowM hv2 hw (fun q hq => by first | (simp [hq]; done) | (simp at hq; simp [hq]; done) | (simp at hq; subst hq; simp))), (vec_rowM hv4 hw (fun q hq => by first | (simp [hq]; done) | (simp at hq; simp [hq]; done) | (simp at hq; subst hq; simp))), (vec_rowM hv3 hw (fun q hq => by first | (simp [hq]; done) | (simp at hq; simp [hq]; done) | (simp at hq; subst hq; simp)))⟩ ⟨(hv1.off (hw.perm (l' := [(t1, tabO mo m1), (m1, .map es ck)] ++ (l1 ++ ((b9, cb (cFG (cutF f) ⟨.slice a1 (cutF f).tr.length c1, .slice a2 (cutF f).ids.length c2, .slice a4 (cutF f).val.length c4, .slice a3 (cutF f).txt.length c3⟩) 52) :: (b5, cb (cFG (cutF f) ⟨.slice at1 (cutF f).tr.length ct1, .slice ai1 (cutF f).ids.length ci1, .slice av1 (cutF f).val.length cv1, .slice ax1 (cutF f).txt.length cx1⟩) 52) :: (b3, cb ([.slice ae xs.length ce, iV most] ++ cW n me ++ [.slice ao os.length co_]) 85) :: (rt, rtabO (.slice ar (ordE L).length cr) mo) :: (lr ++ (l2 ++ l3 ++ l4))))) (by (refine perm_cnt (fun _ => ?_)); simp only [cntB_append, cntB_cons, cntB_nil, Nat.add_zero, Nat.zero_add]; try ac_rfl))), (hv2.off (hw.perm (l' := [(t1, tabO mo m1), (m1, .map es ck)] ++ (l2 ++ ((b9, cb (cFG (cutF f) ⟨.slice a1 (cutF f).tr.length c1, .slice a2 (cutF f).ids.length c2, .slice a4 (cutF f).val.length c4, .slice a3 (cutF f).txt.length c3⟩) 52) :: (b5, cb (cFG (cutF f) ⟨.slice at1 (cutF f).tr.length ct1, .slice ai1 (cutF f).ids.length ci1, .slice av1 (cutF f).val.length cv1, .slice ax1 (cutF f).txt.length cx1⟩) 52) :: (b3, cb ([.slice ae xs.length ce, iV most] ++ cW n me ++ [.slice ao os.length co_]) 85) :: (rt, rtabO (.slice ar (ordE L).length cr) mo) :: (lr ++ (l1 ++ l3 ++ l4))))) (by (refine perm_cnt (fun _ => ?_)); simp only [cntB_append, cntB_cons, cntB_nil, Nat.add_zero, Nat.zero_add]; try ac_rfl))), (hv4.off (hw.perm (l' := [(t1, tabO mo m1), (m1, .map es ck)] ++ (l4 ++ ((b9, cb (cFG (cutF f) ⟨.slice a1 (cutF f).tr.length c1, .slice a2 (cutF f).ids.length c2, .slice a4 (cutF f).val.length c4, .slice a3 (cutF f).txt.length c3⟩) 52) :: (b5, cb (cFG (cutF f) ⟨.slice at1 (cutF f).tr.length ct1, .slice ai1 (cutF f).ids.length ci1, .slice av1 (cutF f).val.length cv1, .slice ax1 (cutF f).txt.length cx1⟩) 52) :: (b3, cb ([.slice ae xs.length ce, iV most] ++ cW n me ++ [.slice ao os.length co_]) 85) :: (rt, rtabO (.slice ar (ordE L).length cr) mo) :: (lr ++ (l1 ++ l2 ++ l3))))) (by (refine perm_cnt (fun _ => ?_)); simp only [cntB_append, cntB_cons, cntB_nil, Nat.add_zero, Nat.zero_add]; try ac_rfl))), (hv3.off (hw.perm (l' := [(t1, tabO mo m1), (m1, .map es ck)] ++ (l3 ++ ((b9, cb (cFG (cutF f) ⟨.slice a1 (cutF f).tr.length c1, .slice a2 (cutF f).ids.length c2, .slice a4 (cutF f).val.length c4, .slice a3 (cutF f).txt.length c3⟩) 52) :: (b5, cb (cFG (cutF f) ⟨.slice at1 (cutF f).tr.length ct1, .slice ai1 (cutF f).ids.length ci1, .slice av1 (cutF f).val.length cv1, .slice ax1 (cutF f).txt.length cx1⟩) 52) :: (b3, cb ([.slice ae xs.length ce, iV most] ++ cW n me ++ [.slice ao os.length co_]) 85) :: (rt, rtabO (.slice ar (ordE L).length cr) mo) :: (lr ++ (l1 ++ l2 ++ l4))))) (by (refine perm_cnt (fun _ => ?_)); simp only [cntB_append, cntB_cons, cntB_nil, Nat.add_zero, Nat.zero_add]; try ac_rfl)))⟩ hg1 (by omega) hk hf1.p hfr i hi hi2 hat hfrom hnd (hro.below (hw.drop (List.nil_sublist _)).below) (hro.offNew hw (fun x hx => List.mem_append_left _ hx)) (by omega) hw.owns hT hgo hadd he) (fun y hy9 => ?_)
        obtain ⟨hz, es2, ck2⟩ := y
        simp only [List.cons_append, List.nil_append] at hy9 ⊢
        have hT2 := hy9
        refine J.perm ((b9, cb (cFG (cutF f) ⟨.slice a1 (cutF f).tr.length c1, .slice a2 (cutF f).ids.length c2, .slice a4 (cutF f).val.length c4, .slice a3 (cutF f).txt.length c3⟩) 52) :: (t1, tabO mo m1) :: (m1, .map es2 ck2) :: (b5, cb (cFG (cutF f) ⟨.slice at1 (cutF f).tr.length ct1, .slice ai1 (cutF f).ids.length ci1, .slice av1 (cutF f).val.length cv1, .slice ax1 (cutF f).txt.length cx1⟩) 52) :: (b3, cb ([.slice ae xs.length ce, iV most] ++ cW n me ++ [.slice ao os.length co_]) 85) :: (rt, rtabO (.slice ar (ordE L).length cr) mo) :: (lr ++ ((hz, cb (cH fr (cF 5 (cutF f).p zI zI nilV)) 54) :: (l1 ++ (l2 ++ (l3 ++ l4)))))) (by (refine perm_cnt (fun _ => ?_)); simp only [cntB_append, cntB_cons, cntB_nil, Nat.add_zero, Nat.zero_add]; try ac_rfl) ?_
        refine J.alloc zN rfl rfl (fun b10 => ?_)
        refine J.storeW (cs := cD nilV false false) (vs := cD (.slice (some ⟨hz, 0, none⟩) 1 1) false (e == 5)) Ty.s37 rfl rfl rfl rfl rfl (by simp [Value.oneCell']) .here ?_
        refine J.nil ?_
        refine JX.thenN (hK4 _ _ ?_)
        refine JC.seq (fun K41 hK41 => ?_)
        refine JC.region ?_
        refine J.move rfl rfl ?_
        refine J.fieldAddr Ty.fd85_2 rfl rfl ?_
        refine J.fieldAddr Ty.fd41_0 rfl rfl ?_
        refine J.loadO (v := iV n) Ty.a3 rfl (.tail _ (.tail _ (.tail _ (.tail _ (.tail _ (.head _)))))) rfl rfl ?_
        refine J.fieldAddr Ty.fd85_2 rfl rfl ?_
        refine J.fieldAddr Ty.fd41_1 rfl rfl ?_
        refine J.loadOA (vs := cI me) Ty.a23 Ty.s23 rfl (.tail _ (.tail _ (.tail _ (.tail _ (.tail _ (.head _)))))) rfl rfl rfl ?_
        refine J.move rfl rfl ?_
        refine J.loadOA (vs := cFG (cutF f) ⟨.slice at1 (cutF f).tr.length ct1, .slice ai1 (cutF f).ids.length ci1, .slice av1 (cutF f).val.length cv1, .slice ax1 (cutF f).txt.length cx1⟩) Ty.a52 Ty.s52 rfl (.tail _ (.tail _ (.tail _ (.tail _ (.head _))))) rfl rfl rfl ?_
        refine J.fieldAddr Ty.fd85_3 rfl rfl ?_
        refine J.loadO (v := .slice ao os.length co_) Ty.a28 rfl (.tail _ (.tail _ (.tail _ (.tail _ (.tail _ (.head _)))))) rfl rfl ?_
        refine J.perm (((rt, rtabO (.slice ar (ordE L).length cr) mo) :: lr) ++ ((b10, cb (cD (.slice (some ⟨hz, 0, none⟩) 1 1) false (e == 5)) 37) :: (b9, cb (cFG (cutF f) ⟨.slice a1 (cutF f).tr.length c1, .slice a2 (cutF f).ids.length c2, .slice a4 (cutF f).val.length c4, .slice a3 (cutF f).txt.length c3⟩) 52) :: (t1, tabO mo m1) :: (m1, .map es2 ck2) :: (b5, cb (cFG (cutF f) ⟨.slice at1 (cutF f).tr.length ct1, .slice ai1 (cutF f).ids.length ci1, .slice av1 (cutF f).val.length cv1, .slice ax1 (cutF f).txt.length cx1⟩) 52) :: (b3, cb ([.slice ae xs.length ce, iV most] ++ cW n me ++ [.slice ao os.length co_]) 85) :: ((hz, cb (cH fr (cF 5 (cutF f).p zI zI nilV)) 54) :: (l1 ++ (l2 ++ (l3 ++ l4)))))) (by (refine perm_cnt (fun _ => ?_)); simp only [cntB_append, cntB_cons, cntB_nil, Nat.add_zero, Nat.zero_add]; try ac_rfl) ?_
        refine J.callS (α := Nat × Value × List (Nat × Obj)) (V := fun x => .agg (cD (.slice (some ⟨x.1, 0, none⟩) 1 1) false (e == 5)).toArray) (Pr := fun x => Vec 34 51 x.2.1 (ordE L2).length (fE (ordE L2)) x.2.2) (L := fun x => (x.1, cb (cH fr (cF 5 (cutF f).p zI zI nilV)) 54) :: (rt, rtabO x.2.1 mo) :: x.2.2) (l1 := ((rt, rtabO (.slice ar (ordE L).length cr) mo) :: lr)) Ty.bd49 rfl rfl (fun w1 hw => rtake_fullQ rt _ mo L lr es ck n fr me (cutF f) ⟨.slice at1 (cutF f).tr.length ct1, .slice ai1 (cutF f).ids.length ci1, .slice av1 (cutF f).val.length cv1, .slice ax1 (cutF f).txt.length cx1⟩ _ os w1 (rows_cut (hs.below (hw.drop (List.nil_sublist _)).below)) ⟨((rows_cut hs).tr.offNew hw (fun x hx => List.mem_append_left _ hx)), (hs.ids.offNew hw (fun x hx => List.mem_append_left _ hx)), (hs.val.offNew hw (fun x hx => List.mem_append_left _ hx)), (hs.txt.offNew hw (fun x hx => List.mem_append_left _ hx))⟩ hg1 (by omega) hk hf1.p hfr i hi hi2 hat hfrom hnd (hro.below (hw.drop (List.nil_sublist _)).below) (hro.offNew hw (fun x hx => List.mem_append_left _ hx)) (by omega) hw.owns hT hl128 hvr hgo hadd he) (fun y hy9 => ?_)
        obtain ⟨hy, v5, lr2⟩ := y
        simp only [List.cons_append, List.nil_append] at hy9 ⊢
        have hv5 := hy9
        obtain ⟨a5, c5, rfl, hc5⟩ := hv5.form
        refine J.perm ((b10, cb (cD (.slice (some ⟨hz, 0, none⟩) 1 1) false (e == 5)) 37) :: (b9, cb (cFG (cutF f) ⟨.slice a1 (cutF f).tr.length c1, .slice a2 (cutF f).ids.length c2, .slice a4 (cutF f).val.length c4, .slice a3 (cutF f).txt.length c3⟩) 52) :: (t1, tabO mo m1) :: (m1, .map es2 ck2) :: (b5, cb (cFG (cutF f) ⟨.slice at1 (cutF f).tr.length ct1, .slice ai1 (cutF f).ids.length ci1, .slice av1 (cutF f).val.length cv1, .slice ax1 (cutF f).txt.length cx1⟩) 52) :: (b3, cb ([.slice ae xs.length ce, iV most] ++ cW n me ++ [.slice ao os.length co_]) 85) :: (rt, rtabO (.slice a5 (ordE L2).length c5) mo) :: ((lr2 ++ [(hz, cb (cH fr (cF 5 (cutF f).p zI zI nilV)) 54), (hy, cb (cH fr (cF 5 (cutF f).p zI zI nilV)) 54)]) ++ (l1 ++ (l2 ++ (l3 ++ l4))))) (by (refine perm_cnt (fun _ => ?_)); simp only [cntB_append, cntB_cons, cntB_nil, Nat.add_zero, Nat.zero_add]; try ac_rfl) ?_
        refine J.alloc zN_ rfl rfl (fun b11 => ?_)
        refine J.storeW (cs := cD nilV false false) (vs := cD (.slice (some ⟨hy, 0, none⟩) 1 1) false (e == 5)) Ty.s90 rfl rfl rfl rfl rfl (by simp [Value.oneCell']) .here ?_
        refine J.perm ((b11, cb (cD (.slice (some ⟨hy, 0, none⟩) 1 1) false (e == 5)) 90) :: (b10, cb (cD (.slice (some ⟨hz, 0, none⟩) 1 1) false (e == 5)) 37) :: (b9, cb (cFG (cutF f) ⟨.slice a1 (cutF f).tr.length c1, .slice a2 (cutF f).ids.length c2, .slice a4 (cutF f).val.length c4, .slice a3 (cutF f).txt.length c3⟩) 52) :: (t1, tabO mo m1) :: (m1, .map es2 ck2) :: (b5, cb (cFG (cutF f) ⟨.slice at1 (cutF f).tr.length ct1, .slice ai1 (cutF f).ids.length ci1, .slice av1 (cutF f).val.length cv1, .slice ax1 (cutF f).txt.length cx1⟩) 52) :: (b3, cb ([.slice ae xs.length ce, iV most] ++ cW n me ++ [.slice ao os.length co_]) 85) :: (rt, rtabO (.slice a5 (ordE L2).length c5) mo) :: ((lr2 ++ [(hz, cb (cH fr (cF 5 (cutF f).p zI zI nilV)) 54), (hy, cb (cH fr (cF 5 (cutF f).p zI zI nilV)) 54)]) ++ (l1 ++ (l2 ++ (l3 ++ l4))))) (by (refine perm_cnt (fun _ => ?_)); simp only [cntB_append, cntB_cons, cntB_nil, Nat.add_zero, Nat.zero_add]; try ac_rfl) ?_
        refine J.nil ?_
        refine JX.thenN (hK41 _ _ ?_)
        refine JC.seq (fun K42 hK42 => ?_)
        refine JC.region ?_
        refine J.loadOA (vs := cFG (cutF f) ⟨.slice at1 (cutF f).tr.length ct1, .slice ai1 (cutF f).ids.length ci1, .slice av1 (cutF f).val.length cv1, .slice ax1 (cutF f).txt.length cx1⟩) Ty.a52 Ty.s52 rfl (.tail _ (.tail _ (.tail _ (.tail _ (.tail _ (.head _)))))) rfl rfl rfl ?_
        refine J.loadOA (vs := cFG (cutF f) ⟨.slice a1 (cutF f).tr.length c1, .slice a2 (cutF f).ids.length c2, .slice a4 (cutF f).val.length c4, .slice a3 (cutF f).txt.length c3⟩) Ty.a52 Ty.s52 rfl (.tail _ (.tail _ (.head _))) rfl rfl rfl ?_
        refine J.callB (v := .bool true) (fun w1 w2 hw hb => hw.step hb) Ty.bd50 rfl rfl (fun w1 hw => same04_spec (cutF f) hf1 ⟨.slice at1 (cutF f).tr.length ct1, .slice ai1 (cutF f).ids.length ci1, .slice av1 (cutF f).val.length cv1, .slice ax1 (cutF f).txt.length cx1⟩ ⟨.slice a1 (cutF f).tr.length c1, .slice a2 (cutF f).ids.length c2, .slice a4 (cutF f).val.length c4, .slice a3 (cutF f).txt.length c3⟩ w1 (rows_cut (hs.below (hw.drop (List.nil_sublist _)).below)) ⟨(vec_rowM hv1 hw (fun q hq => by first | (simp [hq]; done) | (simp at hq; simp [hq]; done) | (simp at hq; subst hq; simp))), (vec_rowM hv2 hw (fun q hq => by first | (simp [hq]; done) | (simp at hq; simp [hq]; done) | (simp at hq; subst hq; simp))), (vec_rowM hv4 hw (fun q hq => by first | (simp [hq]; done) | (simp at hq; simp [hq]; done) | (simp at hq; subst hq; simp))), (vec_rowM hv3 hw (fun q hq => by first | (simp [hq]; done) | (simp at hq; simp [hq]; done) | (simp at hq; subst hq; simp)))⟩) ?_
        refine J.assign rfl rfl ?_
        refine J.nil ?_
        refine JX.thenN (hK42 _ _ ?_)
        refine JC.seq (fun K43 hK43 => ?_)
        refine JC.seq (fun K44 hK44 => ?_)
        refine JC.region ?_
        refine J.fieldAddr Ty.fd52_8 rfl rfl ?_
        refine J.loadO (v := .slice a1 (cutF f).tr.length c1) Ty.a26 rfl (.tail _ (.tail _ (.head _))) rfl rfl ?_
        refine J.lenS rfl Ty.u26 rfl rfl ?_
        refine J.move rfl rfl ?_
        refine J.nil ?_
        refine JX.thenN (hK44 _ _ ?_)
        refine JC.block ?_
        refine JC.conseq (JC.cov (f := (fun st => [(7, .pointer (some ⟨t1, 0, none⟩)), (8, .pointer (some ⟨rt, 0, none⟩)), (9, .pointer (some ⟨b9, 0, none⟩)), (10, .pointer (some ⟨b10, 0, none⟩)), (11, .pointer (some ⟨b11, 0, none⟩)), (12, .bool true), (57, .int .i64 (((cutF f).tr.length : Nat) : Int)), (58, .int .i64 ((st.1 : Nat) : Int))]) ((0, l1) : Nat × List (Nat × Obj))) ⟨rfl, rfl, rfl, rfl, rfl, rfl, rfl, rfl, trivial⟩ (JC.loop (α := Nat × List (Nat × Obj)) (fun st => [(7, .pointer (some ⟨t1, 0, none⟩)), (8, .pointer (some ⟨rt, 0, none⟩)), (9, .pointer (some ⟨b9, 0, none⟩)), (10, .pointer (some ⟨b10, 0, none⟩)), (11, .pointer (some ⟨b11, 0, none⟩)), (12, .bool true), (57, .int .i64 (((cutF f).tr.length : Nat) : Int)), (58, .int .i64 ((st.1 : Nat) : Int))]) (fun st w' => (st.1 ≤ (cutF f).tr.length ∧ IBlk (.slice a1 (cutF f).tr.length c1) (cutF f).tr.length st.2) ∧ St w [] (st.2 ++ ((b11, cb (cD (.slice (some ⟨hy, 0, none⟩) 1 1) false (e == 5)) 90) :: (b10, cb (cD (.slice (some ⟨hz, 0, none⟩) 1 1) false (e == 5)) 37) :: (b9, cb (cFG (cutF f) ⟨.slice a1 (cutF f).tr.length c1, .slice a2 (cutF f).ids.length c2, .slice a4 (cutF f).val.length c4, .slice a3 (cutF f).txt.length c3⟩) 52) :: (t1, tabO mo m1) :: (m1, .map es2 ck2) :: (b5, cb (cFG (cutF f) ⟨.slice at1 (cutF f).tr.length ct1, .slice ai1 (cutF f).ids.length ci1, .slice av1 (cutF f).val.length cv1, .slice ax1 (cutF f).txt.length cx1⟩) 52) :: (b3, cb ([.slice ae xs.length ce, iV most] ++ cW n me ++ [.slice ao os.length co_]) 85) :: (rt, rtabO (.slice a5 (ordE L2).length c5) mo) :: ((lr2 ++ [(hz, cb (cH fr (cF 5 (cutF f).p zI zI nilV)) 54), (hy, cb (cH fr (cF 5 (cutF f).p zI zI nilV)) 54)]) ++ (l2 ++ (l3 ++ l4))))) w') (fun st => (cutF f).tr.length - st.1) ((0, l1) : Nat × List (Nat × Obj)) (fun st => ?_))) (fun w hw => ⟨⟨Nat.zero_le _, iblk_of hv1⟩, hw.perm (by (refine perm_cnt (fun _ => ?_)); simp only [cntB_append, cntB_cons, cntB_nil, Nat.add_zero, Nat.zero_add]; try ac_rfl)⟩)
        obtain ⟨ix, lj⟩ := st
        refine JC.pr (fun hx1 => ?_)
        obtain ⟨hij, hbl⟩ := hx1
        simp only at hij hbl ⊢
        refine JC.seq (fun K45 hK45 => ?_)
        refine JC.region ?_
        refine J.bin rfl rfl rfl rfl ?_
        refine J.nil ?_
        refine JX.thenN (hK45 _ _ ?_)
        refine JC.seq (fun K46 hK46 => ?_)
        refine JC.cond rfl (fun h0 => ?_) (fun h0 => ?_)
        · skip
          have hlt : ix < (cutF f).tr.length := by simp at h0; omega
          obtain ⟨qv, ys, sp, rfl, rfl, hys, hyc⟩ := iblk_pos hbl (by omega)
          obtain ⟨yi, hyi⟩ : ∃ y, ys[ix]? = some y := ⟨_, List.getElem?_eq_getElem (by omega)⟩
          refine JC.skip ?_
          refine JX.thenN (hK46 _ _ ?_)
          refine JC.seq (fun K47 hK47 => ?_)
          refine JC.block ?_
          refine JC.seq (fun K48 hK48 => ?_)
          refine JC.region ?_
          refine J.move rfl rfl ?_
          refine J.assign rfl rfl ?_
          refine J.nil ?_
          refine JX.thenN (hK48 _ _ ?_)
          refine JC.region ?_
          refine J.fieldAddr Ty.fd52_8 rfl rfl ?_
          refine J.loadO (v := .slice (some ⟨qv, 0, none⟩) (cutF f).tr.length c1) Ty.a26 rfl (.tail _ (.tail _ (.tail _ (.head _)))) rfl rfl ?_
          refine J.move rfl rfl ?_
          refine J.indexAddrS Ty.el26 Ty.s3 rfl rfl (by omega) (by omega) rfl ?_
          refine J.load1 (v := iV yi) Ty.a3 rfl (fun w1 hw => rowI_at2 (i := ix) (Row.own (cs := ys.map iV ++ sp) (tb := 3) (fr := (0, 0)) hw (.head _) (by simp) hyc : Row w1 (.slice (some ⟨qv, 0, none⟩) (cutF f).tr.length c1) (cutF f).tr.length (ys.map iV)) hyi (by simp)) rfl ?_
          refine J.bin rfl rfl rfl rfl ?_
          refine J.name 66 rfl (show _ = iV (IntKind.wrap .i64 (yi + 1)) from rfl) ?_
          refine J.indexAddrS Ty.el26 Ty.s3 rfl rfl (by omega) (by omega) rfl ?_
          refine J.storeO (cs := ys.map iV ++ sp) (vs := [iV (IntKind.wrap .i64 (yi + 1))]) Ty.s3 rfl rfl rfl rfl (by simp [Value.oneCell']) .here (by simp; omega) ?_
          refine J.nil ?_
          refine JX.blockN ?_
          refine JX.thenN (hK47 _ _ ?_)
          refine JC.region ?_
          (first | refine J.addN rfl rfl (by omega) (by omega) rfl ?_ | refine J.bin rfl rfl rfl rfl ?_)
          refine J.move rfl rfl ?_
          refine J.nil ?_
          refine JX.thenN ?_
          refine JX.again ((ix + 1, [(qv, cb ((ys.set ix (IntKind.wrap .i64 (yi + 1))).map iV ++ sp) 3)]) : Nat × List (Nat × Obj)) ?_ ?_ ?_
          · simp only; omega
          · exact ⟨rfl, rfl, rfl, rfl, rfl, rfl, rfl, rfl, trivial⟩
          · exact fun w1 hw => ⟨⟨hlt, .inr ⟨qv, _, _, sp, rfl, rfl, by rw [List.length_set]; exact hys, hyc⟩⟩, by rw [set_int (i := ix) (by omega) (by simp)] at hw; exact hw⟩
        · skip
          refine JC.conseq (I' := St w [] ((b11, cb (cD (.slice (some ⟨hy, 0, none⟩) 1 1) false (e == 5)) 90) :: (b10, cb (cD (.slice (some ⟨hz, 0, none⟩) 1 1) false (e == 5)) 37) :: (b9, cb (cFG (cutF f) ⟨.slice a1 (cutF f).tr.length c1, .slice a2 (cutF f).ids.length c2, .slice a4 (cutF f).val.length c4, .slice a3 (cutF f).txt.length c3⟩) 52) :: (t1, tabO mo m1) :: (m1, .map es2 ck2) :: (b5, cb (cFG (cutF f) ⟨.slice at1 (cutF f).tr.length ct1, .slice ai1 (cutF f).ids.length ci1, .slice av1 (cutF f).val.length cv1, .slice ax1 (cutF f).txt.length cx1⟩) 52) :: (b3, cb ([.slice ae xs.length ce, iV most] ++ cW n me ++ [.slice ao os.length co_]) 85) :: (rt, rtabO (.slice a5 (ordE L2).length c5) mo) :: (lr2 ++ [(hz, cb (cH fr (cF 5 (cutF f).p zI zI nilV)) 54), (hy, cb (cH fr (cF 5 (cutF f).p zI zI nilV)) 54)]))) ?_ (fun w1 hw => (hw.perm (l' := (lj ++ (l2 ++ (l3 ++ l4))) ++ ((b11, cb (cD (.slice (some ⟨hy, 0, none⟩) 1 1) false (e == 5)) 90) :: (b10, cb (cD (.slice (some ⟨hz, 0, none⟩) 1 1) false (e == 5)) 37) :: (b9, cb (cFG (cutF f) ⟨.slice a1 (cutF f).tr.length c1, .slice a2 (cutF f).ids.length c2, .slice a4 (cutF f).val.length c4, .slice a3 (cutF f).txt.length c3⟩) 52) :: (t1, tabO mo m1) :: (m1, .map es2 ck2) :: (b5, cb (cFG (cutF f) ⟨.slice at1 (cutF f).tr.length ct1, .slice ai1 (cutF f).ids.length ci1, .slice av1 (cutF f).val.length cv1, .slice ax1 (cutF f).txt.length cx1⟩) 52) :: (b3, cb ([.slice ae xs.length ce, iV most] ++ cW n me ++ [.slice ao os.length co_]) 85) :: (rt, rtabO (.slice a5 (ordE L2).length c5) mo) :: (lr2 ++ [(hz, cb (cH fr (cF 5 (cutF f).p zI zI nilV)) 54), (hy, cb (cH fr (cF 5 (cutF f).p zI zI nilV)) 54)]))) (by (refine perm_cnt (fun _ => ?_)); simp only [cntB_append, cntB_cons, cntB_nil, Nat.add_zero, Nat.zero_add]; try ac_rfl)).drop (List.sublist_append_right _ _))
          refine JC.exit ?_
          refine JX.thenE ?_
          refine JX.thenE ?_
          refine JX.blockE ?_
          refine JX.thenN (hK43 _ _ ?_)
          refine JC.seq (fun K49 hK49 => ?_)
          apply JC.drawX (α := Value × List (Nat × Obj)) 22 (fun x => match x with | ⟨vz, lz⟩ => [.bool true, .bool true, .pointer (some ⟨t1, 0, none⟩), .bool true, .bool true, .bool true, .bool true, .bool true, .bool true, .agg (cD (.slice (some ⟨hz, 0, none⟩) 1 1) false (e == 5)).toArray, .agg (cD (.slice (some ⟨hy, 0, none⟩) 1 1) false (e == 5)).toArray, .bool true, .bool true, .bool true, .pointer (some ⟨t1, 0, none⟩), vz, .pointer (some ⟨rt, 0, none⟩), .pointer (some ⟨rt, 0, none⟩), .pointer (some ⟨rt, 0 + 0, none⟩), .slice a5 (ordE L2).length c5, .bool true, .bool true]) (fun m x => match x with | ⟨vz, lz⟩ => fun w1 => (m 15 = true → Vec 34 51 vz ((ordE L2)).length (fE ((ordE L2))) lz) ∧ St w [] ((b11, cb (cD (.slice (some ⟨hy, 0, none⟩) 1 1) false (e == 5)) 90) :: (b10, cb (cD (.slice (some ⟨hz, 0, none⟩) 1 1) false (e == 5)) 37) :: (b9, cb (cFG (cutF f) ⟨.slice a1 (cutF f).tr.length c1, .slice a2 (cutF f).ids.length c2, .slice a4 (cutF f).val.length c4, .slice a3 (cutF f).txt.length c3⟩) 52) :: (t1, tabO mo m1) :: (m1, .map es2 ck2) :: (b5, cb (cFG (cutF f) ⟨.slice at1 (cutF f).tr.length ct1, .slice ai1 (cutF f).ids.length ci1, .slice av1 (cutF f).val.length cv1, .slice ax1 (cutF f).txt.length cx1⟩) 52) :: (b3, cb ([.slice ae xs.length ce, iV most] ++ cW n me ++ [.slice ao os.length co_]) 85) :: (rt, rtabO (.slice a5 (ordE L2).length c5) mo) :: ((bif m 15 then lz else []) ++ (lr2 ++ [(hz, cb (cH fr (cF 5 (cutF f).p zI zI nilV)) 54), (hy, cb (cH fr (cF 5 (cutF f).p zI zI nilV)) 54)]))) w1) Ty.mixed rfl rfl rfl (by kernel_rfl) rfl rfl ?hinit ?hstep ?htail
          case hinit => exact fun w1 hw => ⟨(.slice none 0 0, []), fun h => (by cases h), hw.drew⟩
          case hstep =>
            refine ⟨fun m x hm hp => ?_, fun m x hm hp => ?_, fun m x hm hp => ?_, fun m x hm hp => ?_, fun m x hm hp => ?_, fun m x hm hp => ?_, fun m x hm hp => ?_, fun m x hm hp => ?_, fun m x hm hp => ?_, fun m x hm hp => ?_, fun m x hm hp => ?_, fun m x hm hp => ?_, fun m x hm hp => ?_, fun m x hm hp => ?_, fun m x hm hp => ?_, fun m x hm hp => ?_, fun m x hm hp => ?_, fun m x hm hp => ?_, fun m x hm hp => ?_, fun m x hm hp => ?_, fun m x hm hp => ?_, fun m x hm hp => ?_, trivial⟩
            · skip
              obtain ⟨vz, lz⟩ := x
              show J _ _ _ _ _ (_) _
              refine J.pr (fun hF => ?_)
              refine J.callB (v := .bool true) (fun w1 w2 hw hb => hw.step hb) Ty.bd15 rfl rfl (fun w1 hw => fixed14_spec w1) ?_
              exact J.finX rfl (fun _ hw => ⟨⟨vz, lz⟩, rfl, fun _ _ _ => rfl, hF, hw⟩)
            · skip
              obtain ⟨vz, lz⟩ := x
              show J _ _ _ _ _ ((69, .bool true) :: (69, .bool true) :: _) _
              refine J.pr (fun hF => ?_)
              refine J.move rfl rfl ?_
              exact J.finX rfl (fun _ hw => ⟨⟨vz, lz⟩, rfl, fun _ _ _ => rfl, hF, hw⟩)
            · skip
              obtain ⟨vz, lz⟩ := x
              show J _ _ _ _ _ ((70, .bool true) :: _) _
              refine J.pr (fun hF => ?_)
              first | refine J.skip rfl rfl rfl rfl rfl ?_ | refine J.skipU rfl rfl rfl rfl ?_ | (refine J.unguard rfl rfl rfl ?_; refine J.move rfl rfl ?_)
              exact J.finX rfl (fun _ hw => ⟨⟨vz, lz⟩, rfl, fun _ _ _ => rfl, hF, hw⟩)
            · skip
              obtain ⟨vz, lz⟩ := x
              show J _ _ _ _ _ ((70, .bool true) :: (71, .pointer (some ⟨t1, 0, none⟩)) :: _) _
              refine J.pr (fun hF => ?_)
              first | refine J.skip rfl rfl rfl rfl rfl ?_ | refine J.skipU rfl rfl rfl rfl ?_ | (refine J.unguard rfl rfl rfl ?_; refine J.neNil Ty.u29 rfl rfl rfl ?_)
              exact J.finX rfl (fun _ hw => ⟨⟨vz, lz⟩, rfl, fun _ _ _ => rfl, hF, hw⟩)
            · skip
              obtain ⟨vz, lz⟩ := x
              show J _ _ _ _ _ ((72, .bool true) :: (70, .bool true) :: _) _
              refine J.pr (fun hF => ?_)
              (first | refine J.pickT rfl rfl rfl ?_ | refine J.pickF rfl rfl rfl ?_)
              exact J.finX rfl (fun _ hw => ⟨⟨vz, lz⟩, rfl, fun _ _ _ => rfl, hF, hw⟩)
            · skip
              obtain ⟨vz, lz⟩ := x
              show J _ _ _ _ _ ((70, .bool true) :: (73, .bool true) :: _) _
              refine J.pr (fun hF => ?_)
              refine J.move rfl rfl ?_
              exact J.finX rfl (fun _ hw => ⟨⟨vz, lz⟩, rfl, fun _ _ _ => rfl, hF, hw⟩)
            · skip
              obtain ⟨vz, lz⟩ := x
              show J _ _ _ _ _ ((74, .bool true) :: _) _
              refine J.pr (fun hF => ?_)
              first | refine J.skip rfl rfl rfl rfl rfl ?_ | refine J.skipU rfl rfl rfl rfl ?_ | (refine J.unguard rfl rfl rfl ?_; refine J.move rfl rfl ?_)
              exact J.finX rfl (fun _ hw => ⟨⟨vz, lz⟩, rfl, fun _ _ _ => rfl, hF, hw⟩)
            · skip
              obtain ⟨vz, lz⟩ := x
              show J _ _ _ _ _ ((75, .bool true) :: (74, .bool true) :: _) _
              refine J.pr (fun hF => ?_)
              (first | refine J.pickT rfl rfl rfl ?_ | refine J.pickF rfl rfl rfl ?_)
              exact J.finX rfl (fun _ hw => ⟨⟨vz, lz⟩, rfl, fun _ _ _ => rfl, hF, hw⟩)
            · skip
              obtain ⟨vz, lz⟩ := x
              show J _ _ _ _ _ ((74, .bool true) :: (76, .bool true) :: _) _
              refine J.pr (fun hF => ?_)
              refine J.move rfl rfl ?_
              exact J.finX rfl (fun _ hw => ⟨⟨vz, lz⟩, rfl, fun _ _ _ => rfl, hF, hw⟩)
            · skip
              obtain ⟨vz, lz⟩ := x
              show J _ _ _ _ _ ((77, .bool true) :: _) _
              refine J.pr (fun hF => ?_)
              refine J.unguard rfl rfl rfl ?_
              refine J.loadA (vs := cD (.slice (some ⟨hz, 0, none⟩) 1 1) false (e == 5)) Ty.a37 Ty.s37 rfl rfl (fun w1 hw => Cells.of_block (hw.own _ (.tail _ (.head _))) rfl) rfl ?_
              exact J.finX rfl (fun _ hw => ⟨⟨vz, lz⟩, rfl, fun _ _ _ => rfl, hF, hw⟩)
            · skip
              obtain ⟨vz, lz⟩ := x
              show J _ _ _ _ _ ((77, .bool true) :: _) _
              refine J.pr (fun hF => ?_)
              refine J.unguard rfl rfl rfl ?_
              refine J.loadA (vs := cD (.slice (some ⟨hy, 0, none⟩) 1 1) false (e == 5)) Ty.a90 Ty.s90 rfl rfl (fun w1 hw => Cells.of_block (hw.own _ (.head _)) rfl) rfl ?_
              exact J.finX rfl (fun _ hw => ⟨⟨vz, lz⟩, rfl, fun _ _ _ => rfl, hF, hw⟩)
            · skip
              obtain ⟨vz, lz⟩ := x
              show J _ _ _ _ _ ((77, .bool true) :: (77, .bool true) :: (79, .agg (cD (.slice (some ⟨hy, 0, none⟩) 1 1) false (e == 5)).toArray) :: (78, .agg (cD (.slice (some ⟨hz, 0, none⟩) 1 1) false (e == 5)).toArray) :: _) _
              refine J.pr (fun hF => ?_)
              refine J.unguard rfl rfl rfl ?_
              refine J.callB (v := .bool true) (fun w1 w2 hw hb => hw.step hb) Ty.bd47 rfl rfl (fun w1 hw => same_hop (n1 := fr) hw false (e == 5) hf1.p (by simp) (by simp)) ?_
              exact J.finX rfl (fun _ hw => ⟨⟨vz, lz⟩, rfl, fun _ _ _ => rfl, hF, hw⟩)
            · skip
              obtain ⟨vz, lz⟩ := x
              show J _ _ _ _ _ ((80, .bool true) :: (77, .bool true) :: _) _
              refine J.pr (fun hF => ?_)
              (first | refine J.pickT rfl rfl rfl ?_ | refine J.pickF rfl rfl rfl ?_)
              exact J.finX rfl (fun _ hw => ⟨⟨vz, lz⟩, rfl, fun _ _ _ => rfl, hF, hw⟩)
            · skip
              obtain ⟨vz, lz⟩ := x
              show J _ _ _ _ _ ((80, .bool true) :: (81, .bool true) :: _) _
              refine J.pr (fun hF => ?_)
              refine J.move rfl rfl ?_
              exact J.finX rfl (fun _ hw => ⟨⟨vz, lz⟩, rfl, fun _ _ _ => rfl, hF, hw⟩)
            · skip
              obtain ⟨vz, lz⟩ := x
              show J _ _ _ _ _ ((82, .bool true) :: _) _
              refine J.pr (fun hF => ?_)
              first | refine J.skip rfl rfl rfl rfl rfl ?_ | refine J.skipU rfl rfl rfl rfl ?_ | (refine J.unguard rfl rfl rfl ?_; refine J.move rfl rfl ?_)
              exact J.finX rfl (fun _ hw => ⟨⟨vz, lz⟩, rfl, fun _ _ _ => rfl, hF, hw⟩)
            · skip
              obtain ⟨vz, lz⟩ := x
              show J _ _ _ _ _ ((82, .bool true) :: (82, .bool true) :: (83, .pointer (some ⟨t1, 0, none⟩)) :: _) _
              refine J.pr (fun hF => ?_)
              refine J.conseq (I' := St w [] ((b11, cb (cD (.slice (some ⟨hy, 0, none⟩) 1 1) false (e == 5)) 90) :: (b10, cb (cD (.slice (some ⟨hz, 0, none⟩) 1 1) false (e == 5)) 37) :: (b9, cb (cFG (cutF f) ⟨.slice a1 (cutF f).tr.length c1, .slice a2 (cutF f).ids.length c2, .slice a4 (cutF f).val.length c4, .slice a3 (cutF f).txt.length c3⟩) 52) :: (t1, tabO mo m1) :: (m1, .map es2 ck2) :: (b5, cb (cFG (cutF f) ⟨.slice at1 (cutF f).tr.length ct1, .slice ai1 (cutF f).ids.length ci1, .slice av1 (cutF f).val.length cv1, .slice ax1 (cutF f).txt.length cx1⟩) 52) :: (b3, cb ([.slice ae xs.length ce, iV most] ++ cW n me ++ [.slice ao os.length co_]) 85) :: (rt, rtabO (.slice a5 (ordE L2).length c5) mo) :: (lr2 ++ [(hz, cb (cH fr (cF 5 (cutF f).p zI zI nilV)) 54), (hy, cb (cH fr (cF 5 (cutF f).p zI zI nilV)) 54)]))) ?_ (fun w1 hw => by simp only [hm, cond_false] at hw; exact hw)
              refine J.unguard rfl rfl rfl ?_
              refine J.perm ([] ++ ((b11, cb (cD (.slice (some ⟨hy, 0, none⟩) 1 1) false (e == 5)) 90) :: (b10, cb (cD (.slice (some ⟨hz, 0, none⟩) 1 1) false (e == 5)) 37) :: (b9, cb (cFG (cutF f) ⟨.slice a1 (cutF f).tr.length c1, .slice a2 (cutF f).ids.length c2, .slice a4 (cutF f).val.length c4, .slice a3 (cutF f).txt.length c3⟩) 52) :: (t1, tabO mo m1) :: (m1, .map es2 ck2) :: (b5, cb (cFG (cutF f) ⟨.slice at1 (cutF f).tr.length ct1, .slice ai1 (cutF f).ids.length ci1, .slice av1 (cutF f).val.length cv1, .slice ax1 (cutF f).txt.length cx1⟩) 52) :: (b3, cb ([.slice ae xs.length ce, iV most] ++ cW n me ++ [.slice ao os.length co_]) 85) :: (rt, rtabO (.slice a5 (ordE L2).length c5) mo) :: (lr2 ++ [(hz, cb (cH fr (cF 5 (cutF f).p zI zI nilV)) 54), (hy, cb (cH fr (cF 5 (cutF f).p zI zI nilV)) 54)]))) (.refl _) ?_
              refine J.callS (α := Value × List (Nat × Obj)) (V := (·.1)) (Pr := fun x => Vec 34 51 x.1 (ordE L2).length (fE (ordE L2)) x.2) (L := (·.2)) (l1 := []) Ty.bd25 rfl rfl (fun w1 hw => all_spec t1 m1 mo (L2) es2 ck2 w1 (hw.own _ (.tail _ (.tail _ (.tail _ (.head _))))) (hw.own _ (.tail _ (.tail _ (.tail _ (.tail _ (.head _)))))) hT2 (by omega)) (fun x hvn => ?_)
              obtain ⟨vn, ln⟩ := x
              simp only at hvn ⊢
              refine J.nil (JX.finB rfl (fun w1 hw => ⟨⟨⟨vn, ln⟩, rfl, fun j h1 h2 => ?_, ?_⟩, trivial⟩))
              · match j, h1 with
                | 0, _ => (first | rfl | trivial)
                | 1, _ => (first | rfl | trivial)
                | 2, _ => (first | rfl | trivial)
                | 3, _ => (first | rfl | trivial)
                | 4, _ => (first | rfl | trivial)
                | 5, _ => (first | rfl | trivial)
                | 6, _ => (first | rfl | trivial)
                | 7, _ => (first | rfl | trivial)
                | 8, _ => (first | rfl | trivial)
                | 9, _ => (first | rfl | trivial)
                | 10, _ => (first | rfl | trivial)
                | 11, _ => (first | rfl | trivial)
                | 12, _ => (first | rfl | trivial)
                | 13, _ => (first | rfl | trivial)
                | 14, _ => (first | rfl | trivial)
                | 15, _ => exact absurd (h2.symm.trans hm) (by decide)
                | 16, _ => (first | rfl | trivial)
                | 17, _ => (first | rfl | trivial)
                | 18, _ => (first | rfl | trivial)
                | 19, _ => (first | rfl | trivial)
                | 20, _ => (first | rfl | trivial)
                | 21, _ => (first | rfl | trivial)
                | j + 22, h1 => omega
              show (true = true → Vec 34 51 vn ((ordE L2)).length (fE ((ordE L2))) ln) ∧ St w [] ((b11, cb (cD (.slice (some ⟨hy, 0, none⟩) 1 1) false (e == 5)) 90) :: (b10, cb (cD (.slice (some ⟨hz, 0, none⟩) 1 1) false (e == 5)) 37) :: (b9, cb (cFG (cutF f) ⟨.slice a1 (cutF f).tr.length c1, .slice a2 (cutF f).ids.length c2, .slice a4 (cutF f).val.length c4, .slice a3 (cutF f).txt.length c3⟩) 52) :: (t1, tabO mo m1) :: (m1, .map es2 ck2) :: (b5, cb (cFG (cutF f) ⟨.slice at1 (cutF f).tr.length ct1, .slice ai1 (cutF f).ids.length ci1, .slice av1 (cutF f).val.length cv1, .slice ax1 (cutF f).txt.length cx1⟩) 52) :: (b3, cb ([.slice ae xs.length ce, iV most] ++ cW n me ++ [.slice ao os.length co_]) 85) :: (rt, rtabO (.slice a5 (ordE L2).length c5) mo) :: ((bif true then ln else []) ++ (lr2 ++ [(hz, cb (cH fr (cF 5 (cutF f).p zI zI nilV)) 54), (hy, cb (cH fr (cF 5 (cutF f).p zI zI nilV)) 54)]))) w1
              simp only [hm, cond_true, cond_false] at hw ⊢
              exact ⟨fun _ => hvn, hw.perm (by (refine perm_cnt (fun _ => ?_)); simp only [cntB_append, cntB_cons, cntB_nil, Nat.add_zero, Nat.zero_add]; try ac_rfl)⟩
            · skip
              obtain ⟨vz, lz⟩ := x
              show J _ _ _ _ _ ((82, .bool true) :: _) _
              refine J.pr (fun hF => ?_)
              first | refine J.skip rfl rfl rfl rfl rfl ?_ | refine J.skipU rfl rfl rfl rfl ?_ | (refine J.unguard rfl rfl rfl ?_; refine J.move rfl rfl ?_)
              exact J.finX rfl (fun _ hw => ⟨⟨vz, lz⟩, rfl, fun _ _ _ => rfl, hF, hw⟩)
            · skip
              obtain ⟨vz, lz⟩ := x
              show J _ _ _ _ _ ((82, .bool true) :: (85, .pointer (some ⟨rt, 0, none⟩)) :: _) _
              refine J.pr (fun hF => ?_)
              first | refine J.skip rfl rfl rfl rfl rfl ?_ | refine J.skipU rfl rfl rfl rfl ?_ | (refine J.unguard rfl rfl rfl ?_; refine J.nilCheck rfl rfl ?_)
              exact J.finX rfl (fun _ hw => ⟨⟨vz, lz⟩, rfl, fun _ _ _ => rfl, hF, hw⟩)
            · skip
              obtain ⟨vz, lz⟩ := x
              show J _ _ _ _ _ ((82, .bool true) :: (86, .pointer (some ⟨rt, 0, none⟩)) :: _) _
              refine J.pr (fun hF => ?_)
              first | refine J.skip rfl rfl rfl rfl rfl ?_ | refine J.skipU rfl rfl rfl rfl ?_ | (refine J.unguard rfl rfl rfl ?_; refine J.fieldAddr Ty.fd82_0 rfl rfl ?_)
              exact J.finX rfl (fun _ hw => ⟨⟨vz, lz⟩, rfl, fun _ _ _ => rfl, hF, hw⟩)
            · skip
              obtain ⟨vz, lz⟩ := x
              show J _ _ _ _ _ ((82, .bool true) :: (87, .pointer (some ⟨rt, 0 + 0, none⟩)) :: _) _
              refine J.pr (fun hF => ?_)
              refine J.unguard rfl rfl rfl ?_
              refine J.load1 (v := .slice a5 (ordE L2).length c5) Ty.a62 rfl (fun w1 hw => by rw [cell_of (hw.own _ (.tail _ (.tail _ (.tail _ (.tail _ (.tail _ (.tail _ (.tail _ (.head _)))))))))]; rfl) rfl ?_
              exact J.finX rfl (fun _ hw => ⟨⟨vz, lz⟩, rfl, fun _ _ _ => rfl, hF, hw⟩)
            · skip
              obtain ⟨vz, lz⟩ := x
              show J _ _ _ _ _ ((82, .bool true) :: (84, vz) :: (88, .slice a5 (ordE L2).length c5) :: (84, vz) :: _) _
              have hp15 : m 15 = true := predsT hp (by kernel_rfl)
              have hp15 : m 15 = true := predsT hp (by kernel_rfl)
              refine J.pr (fun hF => ?_)
              refine J.unguard rfl rfl rfl ?_
              refine J.callB (v := .bool true) (fun w1 w2 hw hb => hw.step hb) Ty.bd26 rfl rfl (fun w1 hw => (by have h := rsame_spec _ _ ((ordE L2)) ((ordE L2)) w1 (vec_rowM (l := (b11, cb (cD (.slice (some ⟨hy, 0, none⟩) 1 1) false (e == 5)) 90) :: (b10, cb (cD (.slice (some ⟨hz, 0, none⟩) 1 1) false (e == 5)) 37) :: (b9, cb (cFG (cutF f) ⟨.slice a1 (cutF f).tr.length c1, .slice a2 (cutF f).ids.length c2, .slice a4 (cutF f).val.length c4, .slice a3 (cutF f).txt.length c3⟩) 52) :: (t1, tabO mo m1) :: (m1, .map es2 ck2) :: (b5, cb (cFG (cutF f) ⟨.slice at1 (cutF f).tr.length ct1, .slice ai1 (cutF f).ids.length ci1, .slice av1 (cutF f).val.length cv1, .slice ax1 (cutF f).txt.length cx1⟩) 52) :: (b3, cb ([.slice ae xs.length ce, iV most] ++ cW n me ++ [.slice ao os.length co_]) 85) :: (rt, rtabO (.slice a5 (ordE L2).length c5) mo) :: (lz ++ (lr2 ++ [(hz, cb (cH fr (cF 5 (cutF f).p zI zI nilV)) 54), (hy, cb (cH fr (cF 5 (cutF f).p zI zI nilV)) 54)]))) (hF hp15) (by simp only [hp15, cond_true] at hw; exact hw) (fun q hq => by first | (simp [hq]; done) | (simp at hq; simp [hq]; done) | (simp at hq; subst hq; simp))) (vec_rowM (l := (b11, cb (cD (.slice (some ⟨hy, 0, none⟩) 1 1) false (e == 5)) 90) :: (b10, cb (cD (.slice (some ⟨hz, 0, none⟩) 1 1) false (e == 5)) 37) :: (b9, cb (cFG (cutF f) ⟨.slice a1 (cutF f).tr.length c1, .slice a2 (cutF f).ids.length c2, .slice a4 (cutF f).val.length c4, .slice a3 (cutF f).txt.length c3⟩) 52) :: (t1, tabO mo m1) :: (m1, .map es2 ck2) :: (b5, cb (cFG (cutF f) ⟨.slice at1 (cutF f).tr.length ct1, .slice ai1 (cutF f).ids.length ci1, .slice av1 (cutF f).val.length cv1, .slice ax1 (cutF f).txt.length cx1⟩) 52) :: (b3, cb ([.slice ae xs.length ce, iV most] ++ cW n me ++ [.slice ao os.length co_]) 85) :: (rt, rtabO (.slice a5 (ordE L2).length c5) mo) :: (lz ++ (lr2 ++ [(hz, cb (cH fr (cF 5 (cutF f).p zI zI nilV)) 54), (hy, cb (cH fr (cF 5 (cutF f).p zI zI nilV)) 54)]))) hv5 (by simp only [hp15, cond_true] at hw; exact hw) (fun q hq => by first | (simp [hq]; done) | (simp at hq; simp [hq]; done) | (simp at hq; subst hq; simp))) (ordE_ok hT2) (ordE_ok hT2) (by omega) (by omega); simpa using h)) ?_
              exact J.finX rfl (fun _ hw => ⟨⟨vz, lz⟩, rfl, fun _ _ _ => rfl, hF, hw⟩)
            · skip
              obtain ⟨vz, lz⟩ := x
              show J _ _ _ _ _ ((89, .bool true) :: (82, .bool true) :: _) _
              refine J.pr (fun hF => ?_)
              (first | refine J.pickT rfl rfl rfl ?_ | refine J.pickF rfl rfl rfl ?_)
              exact J.finX rfl (fun _ hw => ⟨⟨vz, lz⟩, rfl, fun _ _ _ => rfl, hF, hw⟩)
          case htail =>
            intro x
            obtain ⟨vz, lz⟩ := x
            show J _ _ _ _ _ ((90, .bool true) :: (89, .bool true) :: (88, .slice a5 (ordE L2).length c5) :: (87, .pointer (some ⟨rt, 0 + 0, none⟩)) :: (86, .pointer (some ⟨rt, 0, none⟩)) :: (85, .pointer (some ⟨rt, 0, none⟩)) :: (84, vz) :: (83, .pointer (some ⟨t1, 0, none⟩)) :: (82, .bool true) :: (81, .bool true) :: (80, .bool true) :: (79, .agg (cD (.slice (some ⟨hy, 0, none⟩) 1 1) false (e == 5)).toArray) :: (78, .agg (cD (.slice (some ⟨hz, 0, none⟩) 1 1) false (e == 5)).toArray) :: (77, .bool true) :: (76, .bool true) :: (75, .bool true) :: (74, .bool true) :: (73, .bool true) :: (72, .bool true) :: (71, .pointer (some ⟨t1, 0, none⟩)) :: (70, .bool true) :: (69, .bool true) :: _) (fun w1 => (true = true → Vec 34 51 vz ((ordE L2)).length (fE ((ordE L2))) lz) ∧ St w [] ((b11, cb (cD (.slice (some ⟨hy, 0, none⟩) 1 1) false (e == 5)) 90) :: (b10, cb (cD (.slice (some ⟨hz, 0, none⟩) 1 1) false (e == 5)) 37) :: (b9, cb (cFG (cutF f) ⟨.slice a1 (cutF f).tr.length c1, .slice a2 (cutF f).ids.length c2, .slice a4 (cutF f).val.length c4, .slice a3 (cutF f).txt.length c3⟩) 52) :: (t1, tabO mo m1) :: (m1, .map es2 ck2) :: (b5, cb (cFG (cutF f) ⟨.slice at1 (cutF f).tr.length ct1, .slice ai1 (cutF f).ids.length ci1, .slice av1 (cutF f).val.length cv1, .slice ax1 (cutF f).txt.length cx1⟩) 52) :: (b3, cb ([.slice ae xs.length ce, iV most] ++ cW n me ++ [.slice ao os.length co_]) 85) :: (rt, rtabO (.slice a5 (ordE L2).length c5) mo) :: ((bif true then lz else []) ++ (lr2 ++ [(hz, cb (cH fr (cF 5 (cutF f).p zI zI nilV)) 54), (hy, cb (cH fr (cF 5 (cutF f).p zI zI nilV)) 54)]))) w1)
            refine J.pr (fun hF => ?_)
            refine J.assign rfl rfl ?_
            refine J.nil ?_
            refine JX.thenN (hK49 _ _ ?_)
            refine JC.ret ?_
            refine JX.ret1 rfl rfl (fun w hw => ?_)
            exact ⟨rfl, (hw.drop (List.nil_sublist _)).below⟩

theorem setupTakes_walk (w : World) (cc : List Value) (c : CaseV) (hc : RCase w cc c) (fr : Int) (hfr : okN fr) (xc : List Value) (x : FIn) (hx : RFin w xc x) :
    Calls Try.prog 13 [.agg cc.toArray, .int .i64 fr, .agg xc.toArray].toArray w fun r w' => r = .returned (.bool true) ∧ Bel w w' := by
  have h1 : c.o.xs.length ≤ 140737488351232 := by
    obtain ⟨_, h1, h2, _⟩ := hc.o
    have h3 : reachBytes = 140737488351232 := rfl
    omega
  exact setupTakes_spec c.e.v c.o.v c.e.xs c.o.xs c.most c.n fr c.me x.f x.s w (rslE hc.e) (rslE_ok hc.e) (rslE_len hc.e) hx.rows hx.len hx.ok (rslB hc.o) h1 hfr cc xc hc.cells hx.cells
end Go.Proofs.Ytpldpkdlloolkaa
