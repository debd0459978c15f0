/-
  A table of entries, and the document's: contract.
-/
import Derived.Test.YtpldpkdlloolkaaUn
namespace Go.Proofs.Ytpldpkdlloolkaa
open Go.J Go.RowKit
set_option linter.unusedVariables false
set_option linter.unusedSimpArgs false
set_option maxRecDepth 4000
structure LaidS where
  t1 : Nat
  m1 : Nat
  rt : Nat
  es : Array MapEntry
  ck : Nat
  vr : Value
  lr : List (Nat × Obj)
abbrev LaidS.blk (x : LaidS) (mo : Int) : List (Nat × Obj) := (x.t1, tabO mo x.m1) :: (x.m1, .map x.es x.ck) :: (x.rt, rtabO x.vr mo) :: x.lr

set_option maxHeartbeats 1000000 in
theorem laid_spec (v : Value) (xs : List EV) (most : Int) (w : World) (hrv : Row w v xs.length (fE xs)) (hok : ∀ x, x ∈ xs → okE x) (hxl : xs.length ≤ 1954687338213) {mo : Int} (hmo : min (max most 0) 128 = mo) :
    Calls Try.prog 45 [v, .int .i64 most].toArray w fun r w' => ∃ x : LaidS, r = .returned (.tuple #[.pointer (some ⟨x.t1, 0, none⟩), .pointer (some ⟨x.rt, 0, none⟩)]) ∧ (Tab (laidL mo xs) x.es x.ck ∧ Vec 34 51 x.vr (ordE (laidL mo xs)).length (fE (ordE (laidL mo xs))) x.lr) ∧ St w [] (x.blk mo) w' := by
  obtain ⟨av, cv, rfl, hcv, _⟩ := id hrv
  have hmb : mo ≤ 128 := by omega
  have hmb0 : 0 ≤ mo := by omega
  have hvr0 : Vec 34 51 (.slice none 0 0) (ordE (laidL mo (xs.take 0))).length (fE (ordE (laidL mo (xs.take 0)))) [] := by rw [show ordE (laidL mo (xs.take 0)) = [] from by simp [ordE, laidL]]; exact Vec.nil _ _
  refine calls_of_J (args := [.slice av xs.length cv, .int .i64 most]) (e := [(0, .slice av xs.length cv), (1, .int .i64 most)]) Try.func45 rfl rfl ⟨rfl, rfl, trivial⟩ (St.start w) ?_
  refine JC.seq (fun K0 hK0 => ?_)
  refine JC.region ?_
  refine J.assign rfl rfl ?_
  refine J.assign rfl rfl ?_
  refine J.nil ?_
  refine JX.thenN (hK0 _ _ ?_)
  refine JC.seq (fun K1 hK1 => ?_)
  refine JC.region ?_
  refine J.move rfl rfl ?_
  refine J.perm ([] ++ ([])) (.refl _) ?_
  refine J.callS (α := Nat × Nat) (V := fun x => .pointer (some ⟨x.1, 0, none⟩)) (Pr := fun _ => True) (L := fun x => [(x.1, tabO (min (max (most) 0) 128) x.2), (x.2, .map #[] 0)]) (l1 := []) Ty.bd16 rfl rfl (fun w1 hw => (new_spec most w1).mono fun _ _ ⟨x, h1, h2⟩ => ⟨x, h1, trivial, h2⟩) (fun x _ => ?_)
  obtain ⟨t1, m1⟩ := x
  simp only [List.cons_append, List.nil_append]
  rw [hmo]
  refine J.assign rfl rfl ?_
  refine J.nil ?_
  refine JX.thenN (hK1 _ _ ?_)
  refine JC.seq (fun K2 hK2 => ?_)
  refine JC.region ?_
  refine J.move rfl rfl ?_
  refine J.perm ([] ++ ((t1, tabO mo m1) :: (m1, .map #[] 0) :: [])) (.refl _) ?_
  refine J.callS (α := Nat) (V := fun x => .pointer (some ⟨x, 0, none⟩)) (Pr := fun _ => True) (L := fun x => [(x, rtabO (.slice none 0 0) (min (max (most) 0) 128))]) (l1 := []) Ty.bd37 rfl rfl (fun w1 hw => (rnew_spec most w1).mono fun _ _ ⟨x, h1, h2⟩ => ⟨x, h1, trivial, h2⟩) (fun rt _ => ?_)
  simp only [List.cons_append, List.nil_append]
  rw [hmo]
  refine J.assign rfl rfl ?_
  refine J.nil ?_
  refine JX.thenN (hK2 _ _ ?_)
  refine JC.seq (fun K3 hK3 => ?_)
  refine JC.seq (fun K4 hK4 => ?_)
  refine JC.region ?_
  refine J.move rfl rfl ?_
  refine J.lenS rfl Ty.u62 rfl rfl ?_
  refine J.move rfl rfl ?_
  refine J.nil ?_
  refine JX.thenN (hK4 _ _ ?_)
  refine JC.block ?_
  refine JC.conseq (JC.cov (f := (fun st => [(6, .pointer (some ⟨t1, 0, none⟩)), (7, .pointer (some ⟨rt, 0, none⟩)), (14, .slice av xs.length cv), (15, .int .i64 ((xs.length : Nat) : Int)), (16, .int .i64 ((st.1 : Nat) : Int))]) ((0, #[], 0, .slice none 0 0, []) : Nat × Array MapEntry × Nat × Value × List (Nat × Obj))) ⟨rfl, rfl, rfl, rfl, rfl, trivial⟩ (JC.loop (α := Nat × Array MapEntry × Nat × Value × List (Nat × Obj)) (fun st => [(6, .pointer (some ⟨t1, 0, none⟩)), (7, .pointer (some ⟨rt, 0, none⟩)), (14, .slice av xs.length cv), (15, .int .i64 ((xs.length : Nat) : Int)), (16, .int .i64 ((st.1 : Nat) : Int))]) (fun st w' => (st.1 ≤ xs.length ∧ Tab (laidL mo (xs.take st.1)) st.2.1 st.2.2.1 ∧ Vec 34 51 st.2.2.2.1 (ordE (laidL mo (xs.take st.1))).length (fE (ordE (laidL mo (xs.take st.1)))) st.2.2.2.2) ∧ St w [] ((t1, tabO mo m1) :: (m1, .map st.2.1 st.2.2.1) :: (rt, rtabO st.2.2.2.1 mo) :: st.2.2.2.2) w') (fun st => xs.length - st.1) ((0, #[], 0, .slice none 0 0, []) : Nat × Array MapEntry × Nat × Value × List (Nat × Obj)) (fun st => ?_))) (fun w hw => ⟨⟨Nat.zero_le _, Tab.nil, hvr0⟩, hw.perm (by (refine perm_cnt (fun _ => ?_)); simp only [cntB_append, cntB_cons, cntB_nil, Nat.add_zero, Nat.zero_add]; try ac_rfl)⟩)
  obtain ⟨i, es, ck, vr, lr⟩ := st
  refine JC.pr (fun hx1 => ?_)
  obtain ⟨hi, hT, hvr⟩ := hx1
  simp only at hi hT hvr ⊢
  obtain ⟨L, hLe⟩ : ∃ L, laidL mo (xs.take i) = L := ⟨_, rfl⟩
  have hgood := laidL_good mo (xs.take i)
  rw [hLe] at hT hvr hgood
  obtain ⟨ar, cr, rfl, hcr⟩ := hvr.form
  have hlen := hgood.len
  have hol := (ordE_perm L).length_eq
  have hl128 : L.length ≤ 128 := by omega
  have ho128 : (ordE L).length ≤ 128 := by omega
  refine JC.seq (fun K5 hK5 => ?_)
  refine JC.region ?_
  refine J.bin rfl rfl rfl rfl ?_
  refine J.nil ?_
  refine JX.thenN (hK5 _ _ ?_)
  refine JC.seq (fun K6 hK6 => ?_)
  refine JC.cond rfl (fun h0 => ?_) (fun h0 => ?_)
  · skip
    have hlt : i < xs.length := by simp at h0; omega
    have hflx := fE_length xs
    have hclx := (Row.some hrv (by omega))
    obtain ⟨qx, ox, cx', hqe, _, _⟩ := hclx
    simp only [Value.slice.injEq] at hqe
    obtain ⟨rfl, _, rfl⟩ := hqe
    obtain ⟨xa, hxa⟩ : ∃ x, xs[i]? = some x := ⟨_, List.getElem?_eq_getElem hlt⟩
    have hxo := hok xa (List.mem_of_getElem? hxa)
    refine JC.skip ?_
    refine JX.thenN (hK6 _ _ ?_)
    refine JC.seq (fun K7 hK7 => ?_)
    refine JC.block ?_
    refine JC.seq (fun K8 hK8 => ?_)
    refine JC.region ?_
    refine J.indexAddrS Ty.el62 Ty.s34 rfl rfl (by omega) (by omega) rfl ?_
    refine J.loadA (vs := cE xa) Ty.a34 Ty.s34 rfl rfl (fun w1 hw => rowE_at (hrv.below (hw.drop (List.nil_sublist _)).below) hxa (by omega)) rfl ?_
    refine J.alloc Ty.zE_ rfl rfl (fun b9 => ?_)
    refine J.storeW (cs := cE zE) (vs := cE xa) Ty.s34 rfl rfl rfl rfl rfl (one_cE _) .here ?_
    refine J.nil ?_
    refine JX.thenN (hK8 _ _ ?_)
    refine JC.seq (fun K9 hK9 => ?_)
    refine JC.region ?_
    refine J.move rfl rfl ?_
    refine J.loadOA (vs := cE xa) Ty.a34 Ty.s34 rfl (.head _) rfl rfl rfl ?_
    refine J.perm ([(t1, tabO mo m1), (m1, .map es ck)] ++ ((b9, cb (cE xa) 34) :: (rt, rtabO (.slice ar (ordE L).length cr) mo) :: lr)) (by (refine perm_cnt (fun _ => ?_)); simp only [cntB_append, cntB_cons, cntB_nil, Nat.add_zero, Nat.zero_add]; try ac_rfl) ?_
    refine J.callS (α := Array MapEntry × Nat) (V := fun _ => .int .i64 (tadd (L) mo xa).1) (Pr := fun y => Tab (tadd (L) mo xa).2 y.1 y.2) (L := fun y => [(t1, tabO mo m1), (m1, .map y.1 y.2)]) (l1 := [(t1, tabO mo m1), (m1, .map es ck)]) Ty.bd17 rfl rfl (fun w1 hw => (add_spec t1 m1 mo (L) es ck w1 hw.owns hT xa hxo).mono fun _ _ ⟨y, h1, h2, h3⟩ => ⟨y, h1, h2, h3⟩) (fun y hT2 => ?_)
    obtain ⟨es2, ck2⟩ := y
    simp only [List.cons_append, List.nil_append] at hT2 ⊢
    refine J.nil ?_
    refine JX.thenN (hK9 _ _ ?_)
    refine JC.region ?_
    refine J.move rfl rfl ?_
    refine J.loadOA (vs := cE xa) Ty.a34 Ty.s34 rfl (.tail _ (.tail _ (.head _))) rfl rfl rfl ?_
    refine J.perm ((((rt, rtabO (.slice ar (ordE L).length cr) mo)) :: lr) ++ ((b9, cb (cE xa) 34) :: (t1, tabO mo m1) :: (m1, .map es2 ck2) :: [])) (by (refine perm_cnt (fun _ => ?_)); simp only [cntB_append, cntB_cons, cntB_nil, Nat.add_zero, Nat.zero_add]; try ac_rfl) ?_
    refine J.callS (α := Value × List (Nat × Obj)) (V := fun _ => .int .i64 (tadd L mo xa).1) (Pr := fun y => Vec 34 51 y.1 (ordE (tadd L mo xa).2).length (fE (ordE (tadd L mo xa).2)) y.2) (L := fun y => (rt, rtabO y.1 mo) :: y.2) (l1 := (((rt, rtabO (.slice ar (ordE L).length cr) mo)) :: lr)) Ty.bd38 rfl rfl (fun w1 hw => (radd_spec rt _ mo (ordE L) lr w1 hw.owns hvr (ordE_ok hT) (by omega) xa hxo).mono fun _ _ ⟨y, h1, h2, h3⟩ => by rw [radd_ord hT.dist] at h1 h2; exact ⟨y, h1, h2, h3⟩) (fun y hv7 => ?_)
    obtain ⟨v7, l7⟩ := y
    simp only [List.cons_append, List.nil_append] at hv7 ⊢
    refine J.conseq (I' := St w [] ((t1, tabO mo m1) :: (m1, .map es2 ck2) :: (rt, rtabO v7 mo) :: l7)) ?_ (fun w1 hw => (hw.perm (l' := (b9, cb (cE xa) 34) :: (t1, tabO mo m1) :: (m1, .map es2 ck2) :: (rt, rtabO v7 mo) :: l7) (by (refine perm_cnt (fun _ => ?_)); simp only [cntB_append, cntB_cons, cntB_nil, Nat.add_zero, Nat.zero_add]; try ac_rfl)).drop (List.sublist_cons_self _ _))
    refine J.nil ?_
    refine JX.blockN ?_
    refine JX.thenN (hK7 _ _ ?_)
    refine JC.region ?_
    (first | refine J.addN rfl rfl (by omega) (by omega) rfl ?_ | refine J.bin rfl rfl rfl rfl ?_)
    refine J.move rfl rfl ?_
    refine J.nil ?_
    refine JX.thenN ?_
    refine JX.again ((i + 1, es2, ck2, v7, l7) : Nat × Array MapEntry × Nat × Value × List (Nat × Obj)) ?_ ?_ ?_
    · simp only; omega
    · exact ⟨rfl, rfl, rfl, rfl, rfl, trivial⟩
    · exact fun w1 hw => ⟨⟨hlt, by rw [take_snocE hxa, laidL_snoc, hLe]; exact hT2, by rw [take_snocE hxa, laidL_snoc, hLe]; exact hv7⟩, hw⟩
  · skip
    have hge : i = xs.length := by simp at h0; omega
    rw [List.take_of_length_le (by omega)] at hLe
    subst hLe
    refine JC.exit ?_
    refine JX.thenE ?_
    refine JX.thenE ?_
    refine JX.blockE ?_
    refine JX.thenN (hK3 _ _ ?_)
    refine JC.seq (fun K10 hK10 => ?_)
    refine JC.region ?_
    refine J.move rfl rfl ?_
    refine J.move rfl rfl ?_
    refine J.assign rfl rfl ?_
    refine J.assign rfl rfl ?_
    refine J.nil ?_
    refine JX.thenN (hK10 _ _ ?_)
    refine JC.ret ?_
    refine JX.ret2 rfl rfl rfl (fun w hw => ?_)
    exact ⟨⟨t1, m1, rt, es, ck, .slice ar (ordE (laidL mo xs)).length cr, lr⟩, rfl, ⟨hT, hvr⟩, hw⟩

end Go.Proofs.Ytpldpkdlloolkaa
