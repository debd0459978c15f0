/-
  Layer 13's small functions: a table of entries, identities of one digit, choices compared and turned: contracts.
-/
import Derived.Test.YtohldionclgljaaNd
namespace Go.Proofs.Ytohldionclgljaa
open Go.J Go.RowKit
set_option linter.unusedVariables false
set_option linter.unusedSimpArgs false
set_option maxRecDepth 8000
structure LaidS where
  t1 : Nat
  m1 : Nat
  rt : Nat
  es : Array MapEntry
  ck : Nat
  vr : Value
  lr : List (Nat × Obj)
abbrev LaidS.blk (x : LaidS) (mo : Int) : List (Nat × Obj) := (x.t1, tabO mo x.m1) :: (x.m1, .map x.es x.ck) :: (x.rt, rtabO x.vr mo) :: x.lr
/-- the identity of one digit -/
def idN (k : UInt8) : IDV := fun i => if i = 15 then k else 0
/-- the sum -/
noncomputable def addI (a b : IDV) : IDV := subI a (subI zI b)

set_option maxHeartbeats 1000000 in
theorem laid13_spec (v : Value) (xs : List EV) (w : World) (hrv : Row w v xs.length (fE xs)) (hok : ∀ x, x ∈ xs → okE x) (hxl : xs.length ≤ 1954687338213) :
    Calls Try.prog 14 [v].toArray w fun r w' => ∃ x : LaidS, r = .returned (.tuple #[.pointer (some ⟨x.t1, 0, none⟩), x.vr]) ∧ (Tab (laidL 128 xs) x.es x.ck ∧ Vec 55 51 x.vr (ordE (laidL 128 xs)).length (fE (ordE (laidL 128 xs))) x.lr) ∧ St w [] (x.blk 128) w' := by
  obtain ⟨av, cv, rfl, hcv, _⟩ := id hrv
  have hvr0 : Vec 55 51 (.slice none 0 0) (ordE (laidL 128 (xs.take 0))).length (fE (ordE (laidL 128 (xs.take 0)))) [] := by rw [show ordE (laidL 128 (xs.take 0)) = [] from by simp [ordE, laidL]]; exact Vec.nil _ _
  refine calls_of_J (args := [.slice av xs.length cv]) (e := [(0, .slice av xs.length cv)]) Try.func14 rfl rfl ⟨rfl, trivial⟩ (St.start w) ?_
  refine JC.seq (fun K0 hK0 => ?_)
  refine JC.region ?_
  refine J.assign rfl rfl ?_
  refine J.assign rfl rfl ?_
  refine J.nil ?_
  refine JX.thenN (hK0 _ _ ?_)
  refine JC.seq (fun K1 hK1 => ?_)
  refine JC.region ?_
  refine J.perm ([] ++ ([])) (.refl _) ?_
  refine J.callS (α := Nat × Nat) (V := fun x => .pointer (some ⟨x.1, 0, none⟩)) (Pr := fun _ => True) (L := fun x => [(x.1, tabO (min (max (128) 0) 128) x.2), (x.2, .map #[] 0)]) (l1 := []) Ty.bd42 rfl rfl (fun w1 hw => (new_spec 128 w1).mono fun _ _ ⟨x, h1, h2⟩ => ⟨x, h1, trivial, h2⟩) (fun x _ => ?_)
  obtain ⟨t1, m1⟩ := x
  simp only [List.cons_append, List.nil_append]
  rw [show min (max (128 : Int) 0) 128 = 128 by decide]
  refine J.assign rfl rfl ?_
  refine J.nil ?_
  refine JX.thenN (hK1 _ _ ?_)
  refine JC.seq (fun K2 hK2 => ?_)
  refine JC.region ?_
  refine J.perm ([] ++ ((t1, tabO 128 m1) :: (m1, .map #[] 0) :: [])) (.refl _) ?_
  refine J.callS (α := Nat) (V := fun x => .pointer (some ⟨x, 0, none⟩)) (Pr := fun _ => True) (L := fun x => [(x, rtabO (.slice none 0 0) (min (max (128) 0) 128))]) (l1 := []) Ty.bd43 rfl rfl (fun w1 hw => (rnew_spec 128 w1).mono fun _ _ ⟨x, h1, h2⟩ => ⟨x, h1, trivial, h2⟩) (fun rt _ => ?_)
  simp only [List.cons_append, List.nil_append]
  rw [show min (max (128 : Int) 0) 128 = 128 by decide]
  refine J.assign rfl rfl ?_
  refine J.nil ?_
  refine JX.thenN (hK2 _ _ ?_)
  refine JC.seq (fun K3 hK3 => ?_)
  refine JC.seq (fun K4 hK4 => ?_)
  refine JC.region ?_
  refine J.move rfl rfl ?_
  refine J.lenS rfl Ty.u25 rfl rfl ?_
  refine J.move rfl rfl ?_
  refine J.nil ?_
  refine JX.thenN (hK4 _ _ ?_)
  refine JC.block ?_
  refine JC.conseq (JC.cov (f := (fun st => [(4, .pointer (some ⟨t1, 0, none⟩)), (5, .pointer (some ⟨rt, 0, none⟩)), (10, .slice av xs.length cv), (11, .int .i64 ((xs.length : Nat) : Int)), (12, .int .i64 ((st.1 : Nat) : Int))]) ((0, #[], 0, .slice none 0 0, []) : Nat × Array MapEntry × Nat × Value × List (Nat × Obj))) ⟨rfl, rfl, rfl, rfl, rfl, trivial⟩ (JC.loop (α := Nat × Array MapEntry × Nat × Value × List (Nat × Obj)) (fun st => [(4, .pointer (some ⟨t1, 0, none⟩)), (5, .pointer (some ⟨rt, 0, none⟩)), (10, .slice av xs.length cv), (11, .int .i64 ((xs.length : Nat) : Int)), (12, .int .i64 ((st.1 : Nat) : Int))]) (fun st w' => (st.1 ≤ xs.length ∧ Tab (laidL 128 (xs.take st.1)) st.2.1 st.2.2.1 ∧ Vec 55 51 st.2.2.2.1 (ordE (laidL 128 (xs.take st.1))).length (fE (ordE (laidL 128 (xs.take st.1)))) st.2.2.2.2) ∧ St w [] ((t1, tabO 128 m1) :: (m1, .map st.2.1 st.2.2.1) :: (rt, rtabO st.2.2.2.1 128) :: st.2.2.2.2) w') (fun st => xs.length - st.1) ((0, #[], 0, .slice none 0 0, []) : Nat × Array MapEntry × Nat × Value × List (Nat × Obj)) (fun st => ?_))) (fun w hw => ⟨⟨Nat.zero_le _, Tab.nil, hvr0⟩, hw.perm (by (refine perm_cnt (fun _ => ?_)); simp only [cntB_append, cntB_cons, cntB_nil, Nat.add_zero, Nat.zero_add]; try ac_rfl)⟩)
  obtain ⟨i, es, ck, vr, lr⟩ := st
  refine JC.pr (fun hx1 => ?_)
  obtain ⟨hi, hT, hvr⟩ := hx1
  simp only at hi hT hvr ⊢
  obtain ⟨L, hLe⟩ : ∃ L, laidL 128 (xs.take i) = L := ⟨_, rfl⟩
  have hgood := laidL_good 128 (xs.take i)
  rw [hLe] at hT hvr hgood
  obtain ⟨ar, cr, rfl, hcr⟩ := hvr.form
  have hlen := hgood.len
  have hol := (ordE_perm L).length_eq
  have hl128 : L.length ≤ 128 := by omega
  have ho128 : (ordE L).length ≤ 128 := by omega
  refine JC.seq (fun K5 hK5 => ?_)
  refine JC.region ?_
  refine J.bin rfl rfl rfl rfl ?_
  refine J.nil ?_
  refine JX.thenN (hK5 _ _ ?_)
  refine JC.seq (fun K6 hK6 => ?_)
  refine JC.cond rfl (fun h0 => ?_) (fun h0 => ?_)
  · skip
    have hlt : i < xs.length := by simp at h0; omega
    have hflx := fE_length xs
    have hclx := (Row.some hrv (by omega))
    obtain ⟨qx, ox, cx', hqe, _, _⟩ := hclx
    simp only [Value.slice.injEq] at hqe
    obtain ⟨rfl, _, rfl⟩ := hqe
    obtain ⟨xa, hxa⟩ : ∃ x, xs[i]? = some x := ⟨_, List.getElem?_eq_getElem hlt⟩
    have hxo := hok xa (List.mem_of_getElem? hxa)
    refine JC.skip ?_
    refine JX.thenN (hK6 _ _ ?_)
    refine JC.seq (fun K7 hK7 => ?_)
    refine JC.block ?_
    refine JC.seq (fun K8 hK8 => ?_)
    refine JC.region ?_
    refine J.indexAddrS Ty.el25 Ty.s55 rfl rfl (by omega) (by omega) rfl ?_
    refine J.loadA (vs := cE xa) Ty.a55 Ty.s55 rfl rfl (fun w1 hw => rowE_at (hrv.below (hw.drop (List.nil_sublist _)).below) hxa (by omega)) rfl ?_
    refine J.alloc Ty.zE_ rfl rfl (fun b7 => ?_)
    refine J.storeW (cs := cE zE) (vs := cE xa) Ty.s55 rfl rfl rfl rfl rfl (one_cE _) .here ?_
    refine J.nil ?_
    refine JX.thenN (hK8 _ _ ?_)
    refine JC.seq (fun K9 hK9 => ?_)
    refine JC.region ?_
    refine J.move rfl rfl ?_
    refine J.loadOA (vs := cE xa) Ty.a55 Ty.s55 rfl (.head _) rfl rfl rfl ?_
    refine J.perm ([(t1, tabO 128 m1), (m1, .map es ck)] ++ ((b7, cb (cE xa) 55) :: (rt, rtabO (.slice ar (ordE L).length cr) 128) :: lr)) (by (refine perm_cnt (fun _ => ?_)); simp only [cntB_append, cntB_cons, cntB_nil, Nat.add_zero, Nat.zero_add]; try ac_rfl) ?_
    refine J.callS (α := Array MapEntry × Nat) (V := fun _ => .int .i64 (tadd (L) 128 xa).1) (Pr := fun y => Tab (tadd (L) 128 xa).2 y.1 y.2) (L := fun y => [(t1, tabO 128 m1), (m1, .map y.1 y.2)]) (l1 := [(t1, tabO 128 m1), (m1, .map es ck)]) Ty.bd44 rfl rfl (fun w1 hw => (add_spec t1 m1 128 (L) es ck w1 hw.owns hT xa hxo).mono fun _ _ ⟨y, h1, h2, h3⟩ => ⟨y, h1, h2, h3⟩) (fun y hT2 => ?_)
    obtain ⟨es2, ck2⟩ := y
    simp only [List.cons_append, List.nil_append] at hT2 ⊢
    refine J.nil ?_
    refine JX.thenN (hK9 _ _ ?_)
    refine JC.region ?_
    refine J.move rfl rfl ?_
    refine J.loadOA (vs := cE xa) Ty.a55 Ty.s55 rfl (.tail _ (.tail _ (.head _))) rfl rfl rfl ?_
    refine J.perm ((((rt, rtabO (.slice ar (ordE L).length cr) 128)) :: lr) ++ ((b7, cb (cE xa) 55) :: (t1, tabO 128 m1) :: (m1, .map es2 ck2) :: [])) (by (refine perm_cnt (fun _ => ?_)); simp only [cntB_append, cntB_cons, cntB_nil, Nat.add_zero, Nat.zero_add]; try ac_rfl) ?_
    refine J.callS (α := Value × List (Nat × Obj)) (V := fun _ => .int .i64 (tadd L 128 xa).1) (Pr := fun y => Vec 55 51 y.1 (ordE (tadd L 128 xa).2).length (fE (ordE (tadd L 128 xa).2)) y.2) (L := fun y => (rt, rtabO y.1 128) :: y.2) (l1 := (((rt, rtabO (.slice ar (ordE L).length cr) 128)) :: lr)) Ty.bd45 rfl rfl (fun w1 hw => (radd_spec rt _ 128 (ordE L) lr w1 hw.owns hvr (ordE_ok hT) (by omega) xa hxo).mono fun _ _ ⟨y, h1, h2, h3⟩ => by rw [radd_ord hT.dist] at h1 h2; exact ⟨y, h1, h2, h3⟩) (fun y hv7 => ?_)
    obtain ⟨v7, l7⟩ := y
    simp only [List.cons_append, List.nil_append] at hv7 ⊢
    refine J.conseq (I' := St w [] ((t1, tabO 128 m1) :: (m1, .map es2 ck2) :: (rt, rtabO v7 128) :: l7)) ?_ (fun w1 hw => (hw.perm (l' := (b7, cb (cE xa) 55) :: (t1, tabO 128 m1) :: (m1, .map es2 ck2) :: (rt, rtabO v7 128) :: l7) (by (refine perm_cnt (fun _ => ?_)); simp only [cntB_append, cntB_cons, cntB_nil, Nat.add_zero, Nat.zero_add]; try ac_rfl)).drop (List.sublist_cons_self _ _))
    refine J.nil ?_
    refine JX.blockN ?_
    refine JX.thenN (hK7 _ _ ?_)
    refine JC.region ?_
    (first | refine J.addN rfl rfl (by omega) (by omega) rfl ?_ | refine J.bin rfl rfl rfl rfl ?_)
    refine J.move rfl rfl ?_
    refine J.nil ?_
    refine JX.thenN ?_
    refine JX.again ((i + 1, es2, ck2, v7, l7) : Nat × Array MapEntry × Nat × Value × List (Nat × Obj)) ?_ ?_ ?_
    · simp only; omega
    · exact ⟨rfl, rfl, rfl, rfl, rfl, trivial⟩
    · exact fun w1 hw => ⟨⟨hlt, by rw [take_snocE hxa, laidL_snoc, hLe]; exact hT2, by rw [take_snocE hxa, laidL_snoc, hLe]; exact hv7⟩, hw⟩
  · skip
    have hge : i = xs.length := by simp at h0; omega
    rw [List.take_of_length_le (by omega)] at hLe
    subst hLe
    refine JC.exit ?_
    refine JX.thenE ?_
    refine JX.thenE ?_
    refine JX.blockE ?_
    refine JX.thenN (hK3 _ _ ?_)
    refine JC.seq (fun K10 hK10 => ?_)
    apply JC.drawL 7 [Eqv (.pointer (some ⟨t1, 0, none⟩)), Eqv (.pointer (some ⟨rt, 0, none⟩)), Eqv (.pointer (some ⟨rt, 0, none⟩)), Eqv (.pointer (some ⟨rt, 0 + 0, none⟩)), Eqv (.slice ar (ordE (laidL 128 xs)).length cr), Eqv (.pointer (some ⟨t1, 0, none⟩)), Eqv (.slice ar (ordE (laidL 128 xs)).length cr)] Ty.mixed rfl rfl rfl (by kernel_rfl) rfl rfl (fun w w' hw hb => hw.step hb) ⟨fun _ _ _ h _ => h, fun _ _ _ h _ => h, fun _ _ _ h _ => h, fun _ _ _ h _ => h, fun _ _ _ h _ => h, fun _ _ _ h _ => h, fun _ _ _ h _ => h, trivial⟩ ?hstep ?htail
    case hstep =>
      refine ⟨fun wi => ?_, fun wi => ?_, fun wi => ?_, fun wi => ?_, fun wi => ?_, fun wi => ?_, fun wi => ?_, trivial⟩
      · skip
        refine Fin.nil ?_
        refine J.move rfl rfl ?_
        exact J.finP rfl
      · skip
        refine Fin.nil ?_
        refine J.move rfl rfl ?_
        exact J.finP rfl
      · skip
        refine Fin.consE rfl (Fin.nil ?_)
        refine J.nilCheck rfl rfl ?_
        exact J.finP rfl
      · skip
        refine Fin.consE rfl (Fin.nil ?_)
        refine J.fieldAddr Ty.fd94_0 rfl rfl ?_
        exact J.finP rfl
      · skip
        refine Fin.consE rfl (Fin.nil ?_)
        refine J.load1 (v := .slice ar (ordE (laidL 128 xs)).length cr) Ty.a25 rfl (fun w1 hw => by rw [cell_of (hw.2.own _ (.tail _ (.tail _ (.head _))))]; rfl) rfl ?_
        exact J.finP rfl
      · skip
        refine Fin.consE rfl (Fin.consE rfl (Fin.nil ?_))
        refine J.assign rfl rfl ?_
        exact J.finP rfl
      · skip
        refine Fin.consE rfl (Fin.consE rfl (Fin.consE rfl (Fin.consE rfl (Fin.consE rfl (Fin.consE rfl (Fin.consE rfl (Fin.consE rfl (Fin.nil ?_))))))))
        refine J.assign rfl rfl ?_
        exact J.finP rfl
    case htail =>
      refine Fin.consE rfl (Fin.consE rfl (Fin.consE rfl (Fin.consE rfl (Fin.consE rfl (Fin.consE rfl (Fin.consE rfl (Fin.nil ?_)))))))
      refine J.nil ?_
      refine JX.thenN (hK10 _ _ ?_)
      refine JC.ret ?_
      refine JX.ret2 rfl rfl rfl (fun w hw => ?_)
      exact ⟨⟨t1, m1, rt, es, ck, .slice ar (ordE (laidL 128 xs)).length cr, lr⟩, rfl, ⟨hT, hvr⟩, hw⟩

theorem n13_spec (k : UInt8) (w : World) :
    Calls Try.prog 46 [u8 k].toArray w fun r w' => r = .returned (.agg (cI (idN k)).toArray) ∧ Bel w w' := by
  refine calls_of_J (args := [u8 k]) (e := [(0, u8 k)]) Try.func46 rfl rfl ⟨rfl, trivial⟩ (St.start w) ?_
  refine JC.seq (fun K0 hK0 => ?_)
  refine JC.region ?_
  refine J.alloc Ty.zID rfl rfl (fun b2 => ?_)
  refine J.nil ?_
  refine JX.thenN (hK0 _ _ ?_)
  refine JC.seq (fun K1 hK1 => ?_)
  refine JC.region ?_
  refine J.move rfl rfl ?_
  refine J.buildA (cs := cI (idN k)) Ty.ar23 Ty.s5 Ty.z23 rfl (by kernel_rfl) rfl ?_
  refine J.storeW Ty.s23 rfl rfl rfl rfl rfl (by simp [Value.oneCell']) (by repeat first | exact .here | apply Up.there) ?_
  refine J.nil ?_
  refine JX.thenN (hK1 _ _ ?_)
  refine JC.ret ?_
  refine JX.retC rfl rfl Ty.a23 Ty.s23 (vs := cI (idN k)) rfl (fun w1 hw => Cells.of_block (hw.own _ (.head _)) rfl) (fun w1 hw => ?_)
  exact ⟨rfl, (hw.drop (List.nil_sublist _)).below⟩

theorem plain13_spec (a : CV) (w : World) :
    Calls Try.prog 23 [.agg (cC a).toArray].toArray w fun r w' => r = .returned (.agg (cC a).toArray) ∧ Bel w w' := by
  refine calls_of_J (args := [.agg (cC a).toArray]) (e := [(0, .agg (cC a).toArray)]) Try.func23 rfl rfl ⟨rfl, trivial⟩ (St.start w) ?_
  refine JC.seq (fun K0 hK0 => ?_)
  refine JC.region ?_
  refine J.box rfl rfl rfl (fun b1 => ?_)
  refine J.alloc zC42 rfl rfl (fun b2 => ?_)
  refine J.nil ?_
  refine JX.thenN (hK0 _ _ ?_)
  refine JC.seq (fun K1 hK1 => ?_)
  refine JC.region ?_
  refine J.fieldAddr Ty.fd40_0 rfl rfl ?_
  refine J.loadOA (vs := cI a.id) Ty.a23 Ty.s23 rfl (by repeat first | exact .head _ | apply List.Mem.tail | apply List.mem_append_right) (by exact rfl) rfl rfl ?_
  refine J.fieldAddr Ty.fd40_1 rfl rfl ?_
  refine J.loadO Ty.a4 rfl (by repeat first | exact .head _ | apply List.Mem.tail | apply List.mem_append_right) (by exact rfl) rfl ?_
  refine J.fieldAddr Ty.fd40_2 rfl rfl ?_
  refine J.loadOA (vs := cP a.p) Ty.a38 Ty.s38 rfl (by repeat first | exact .head _ | apply List.Mem.tail | apply List.mem_append_right) (by exact rfl) rfl rfl ?_
  refine J.fieldAddr Ty.fd40_3 rfl rfl ?_
  refine J.loadO Ty.a3 rfl (by repeat first | exact .head _ | apply List.Mem.tail | apply List.mem_append_right) (by exact rfl) rfl ?_
  refine J.buildS (cs := cC a) Ty.pl42 zC42 rfl (by kernel_rfl) rfl ?_
  refine J.storeW Ty.s42 rfl rfl rfl rfl rfl (by simp [Value.oneCell']) (by repeat first | exact .here | apply Up.there) ?_
  refine J.nil ?_
  refine JX.thenN (hK1 _ _ ?_)
  refine JC.ret ?_
  refine JX.retC rfl rfl Ty.a42 Ty.s42 (vs := cC a) rfl (fun w1 hw => Cells.of_block (hw.own _ (.head _)) rfl) (fun w1 hw => ?_)
  exact ⟨rfl, (hw.drop (List.nil_sublist _)).below⟩

theorem same13_spec (c : CV) (w : World) (hc : okC c) :
    Calls Try.prog 18 [.agg (cC c).toArray, .agg (cC c).toArray].toArray w fun r w' => r = .returned (.bool true) ∧ Bel w w' := by
  refine calls_of_J (args := [.agg (cC c).toArray, .agg (cC c).toArray]) (e := [(0, .agg (cC c).toArray), (1, .agg (cC c).toArray)]) Try.func18 rfl rfl ⟨rfl, rfl, trivial⟩ (St.start w) ?_
  refine JC.seq (fun K0 hK0 => ?_)
  refine JC.region ?_
  refine J.box rfl rfl rfl (fun b2 => ?_)
  refine J.box rfl rfl rfl (fun b3 => ?_)
  refine J.assign rfl rfl ?_
  refine J.nil ?_
  refine JX.thenN (hK0 _ _ ?_)
  refine JC.seq (fun K1 hK1 => ?_)
  refine JC.region ?_
  refine J.fieldAddr Ty.fd40_0 rfl rfl ?_
  refine J.loadOA (vs := cI c.id) Ty.a23 Ty.s23 rfl (by repeat first | exact .head _ | apply List.Mem.tail | apply List.mem_append_right) (by exact rfl) rfl rfl ?_
  refine J.fieldAddr Ty.fd42_0 rfl rfl ?_
  refine J.loadOA (vs := cI c.id) Ty.a23 Ty.s23 rfl (by repeat first | exact .head _ | apply List.Mem.tail | apply List.mem_append_right) (by exact rfl) rfl rfl ?_
  refine J.eqI Ty.QI Ty.keyI rfl rfl rfl ?_
  refine J.name 9 rfl (show _ = Value.bool true by simp) ?_
  refine J.move rfl rfl ?_
  first | refine J.skip rfl rfl rfl rfl rfl ?_ | refine J.skipU rfl rfl rfl rfl ?_ | (refine J.unguard rfl rfl rfl ?_; refine J.fieldAddr Ty.fd40_1 rfl rfl ?_)
  first | refine J.skip rfl rfl rfl rfl rfl ?_ | refine J.skipU rfl rfl rfl rfl ?_ | (refine J.unguard rfl rfl rfl ?_; refine J.loadO Ty.a4 rfl (by repeat first | exact .head _ | apply List.Mem.tail | apply List.mem_append_right) (by exact rfl) rfl ?_)
  first | refine J.skip rfl rfl rfl rfl rfl ?_ | refine J.skipU rfl rfl rfl rfl ?_ | (refine J.unguard rfl rfl rfl ?_; refine J.fieldAddr Ty.fd42_1 rfl rfl ?_)
  first | refine J.skip rfl rfl rfl rfl rfl ?_ | refine J.skipU rfl rfl rfl rfl ?_ | (refine J.unguard rfl rfl rfl ?_; refine J.loadO Ty.a4 rfl (by repeat first | exact .head _ | apply List.Mem.tail | apply List.mem_append_right) (by exact rfl) rfl ?_)
  first | refine J.skip rfl rfl rfl rfl rfl ?_ | refine J.skipU rfl rfl rfl rfl ?_ | (refine J.unguard rfl rfl rfl ?_; refine J.eqBool (.inl rfl) Ty.u4 rfl rfl rfl ?_; refine J.name 15 rfl (show _ = Value.bool true by simp) ?_)
  (first | refine J.pickT rfl rfl rfl ?_ | refine J.pickF rfl rfl rfl ?_)
  refine J.move rfl rfl ?_
  first | refine J.skip rfl rfl rfl rfl rfl ?_ | refine J.skipU rfl rfl rfl rfl ?_ | (refine J.unguard rfl rfl rfl ?_; refine J.fieldAddr Ty.fd40_2 rfl rfl ?_)
  first | refine J.skip rfl rfl rfl rfl rfl ?_ | refine J.skipU rfl rfl rfl rfl ?_ | (refine J.unguard rfl rfl rfl ?_; refine J.loadOA (vs := cP c.p) Ty.a38 Ty.s38 rfl (by repeat first | exact .head _ | apply List.Mem.tail | apply List.mem_append_right) (by exact rfl) rfl rfl ?_)
  first | refine J.skip rfl rfl rfl rfl rfl ?_ | refine J.skipU rfl rfl rfl rfl ?_ | (refine J.unguard rfl rfl rfl ?_; refine J.fieldAddr Ty.fd42_2 rfl rfl ?_)
  first | refine J.skip rfl rfl rfl rfl rfl ?_ | refine J.skipU rfl rfl rfl rfl ?_ | (refine J.unguard rfl rfl rfl ?_; refine J.loadOA (vs := cP c.p) Ty.a38 Ty.s38 rfl (by repeat first | exact .head _ | apply List.Mem.tail | apply List.mem_append_right) (by exact rfl) rfl rfl ?_)
  first | refine J.skip rfl rfl rfl rfl rfl ?_ | refine J.skipU rfl rfl rfl rfl ?_ | (refine J.unguard rfl rfl rfl ?_; refine J.eqP Ty.QP Ty.keyP rfl rfl hc.1 hc.1 rfl ?_; refine J.name 22 rfl (show _ = Value.bool true by simp) ?_)
  (first | refine J.pickT rfl rfl rfl ?_ | refine J.pickF rfl rfl rfl ?_)
  refine J.move rfl rfl ?_
  first | refine J.skip rfl rfl rfl rfl rfl ?_ | refine J.skipU rfl rfl rfl rfl ?_ | (refine J.unguard rfl rfl rfl ?_; refine J.fieldAddr Ty.fd40_3 rfl rfl ?_)
  first | refine J.skip rfl rfl rfl rfl rfl ?_ | refine J.skipU rfl rfl rfl rfl ?_ | (refine J.unguard rfl rfl rfl ?_; refine J.loadO Ty.a3 rfl (by repeat first | exact .head _ | apply List.Mem.tail | apply List.mem_append_right) (by exact rfl) rfl ?_)
  first | refine J.skip rfl rfl rfl rfl rfl ?_ | refine J.skipU rfl rfl rfl rfl ?_ | (refine J.unguard rfl rfl rfl ?_; refine J.fieldAddr Ty.fd42_3 rfl rfl ?_)
  first | refine J.skip rfl rfl rfl rfl rfl ?_ | refine J.skipU rfl rfl rfl rfl ?_ | (refine J.unguard rfl rfl rfl ?_; refine J.loadO Ty.a3 rfl (by repeat first | exact .head _ | apply List.Mem.tail | apply List.mem_append_right) (by exact rfl) rfl ?_)
  first | refine J.skip rfl rfl rfl rfl rfl ?_ | refine J.skipU rfl rfl rfl rfl ?_ | (refine J.unguard rfl rfl rfl ?_; refine J.bin rfl rfl rfl rfl ?_; refine J.name 29 rfl (show _ = Value.bool true by simp) ?_)
  (first | refine J.pickT rfl rfl rfl ?_ | refine J.pickF rfl rfl rfl ?_)
  refine J.assign rfl rfl ?_
  refine J.nil ?_
  refine JX.thenN (hK1 _ _ ?_)
  refine JC.ret ?_
  refine JX.ret1 rfl rfl (fun w hw => ?_)
  exact ⟨rfl, (hw.drop (List.nil_sublist _)).below⟩

theorem add01_spec (a b : IDV) (w : World) :
    Calls Try.prog 26 [.agg (cI a).toArray, .agg (cI b).toArray].toArray w fun r w' => r = .returned (.agg (cI (addI a b)).toArray) ∧ Bel w w' := by
  refine calls_of_J (args := [.agg (cI a).toArray, .agg (cI b).toArray]) (e := [(0, .agg (cI a).toArray), (1, .agg (cI b).toArray)]) Try.func26 rfl rfl ⟨rfl, rfl, trivial⟩ (St.start w) ?_
  refine JC.seq (fun K0 hK0 => ?_)
  refine JC.region ?_
  refine J.box rfl rfl rfl (fun b2 => ?_)
  refine J.box rfl rfl rfl (fun b3 => ?_)
  refine J.alloc Ty.zID rfl rfl (fun b4 => ?_)
  refine J.nil ?_
  refine JX.thenN (hK0 _ _ ?_)
  refine JC.seq (fun K1 hK1 => ?_)
  apply JC.drawL 5 [Eqv (.agg (cI a).toArray), Eqv (.agg (cI zI).toArray), Eqv (.agg (cI b).toArray), Eqv (.agg (cI (subI zI b)).toArray), Eqv (.agg (cI (addI a b)).toArray)] Ty.mixed rfl rfl rfl (by kernel_rfl) rfl rfl (fun w w' hw hb => hw.step hb) ⟨fun _ _ _ h _ => h, fun _ _ _ h _ => h, fun _ _ _ h _ => h, fun _ _ _ h _ => h, fun _ _ _ h _ => h, trivial⟩ ?hstep ?htail
  case hstep =>
    refine ⟨fun wi => ?_, fun wi => ?_, fun wi => ?_, fun wi => ?_, fun wi => ?_, trivial⟩
    · skip
      refine Fin.nil ?_
      refine J.loadA (vs := cI a) Ty.a23 Ty.s23 rfl rfl (fun w1 hw => Cells.of_block (hw.2.own _ (.tail _ (.tail _ (.head _)))) rfl) rfl ?_
      exact J.finP rfl
    · skip
      refine Fin.nil ?_
      refine J.buildA (cs := cI zI) Ty.ar23 Ty.s5 Ty.zID rfl (by kernel_rfl) rfl ?_
      exact J.finP rfl
    · skip
      refine Fin.nil ?_
      refine J.loadA (vs := cI b) Ty.a23 Ty.s23 rfl rfl (fun w1 hw => Cells.of_block (hw.2.own _ (.tail _ (.head _))) rfl) rfl ?_
      exact J.finP rfl
    · skip
      refine Fin.consE rfl (Fin.consE rfl (Fin.nil ?_))
      refine J.callD (v := .agg (cI (subI zI b)).toArray) Ty.bd52 rfl rfl (fun w1 hw => rsub_spec zI b w1) ?_
      exact J.finQ rfl
    · skip
      refine Fin.consE rfl (Fin.consE rfl (Fin.consE rfl (Fin.nil ?_)))
      refine J.callD (v := .agg (cI (subI a (subI zI b))).toArray) Ty.bd52 rfl rfl (fun w1 hw => rsub_spec a (subI zI b) w1) ?_
      exact J.finQ rfl
  case htail =>
    refine Fin.consE rfl (Fin.consE rfl (Fin.consE rfl (Fin.consE rfl (Fin.consE rfl (Fin.nil ?_)))))
    refine J.storeW (cs := cI zI) (vs := cI (addI a b)) Ty.s23 rfl rfl rfl rfl rfl (one_cI _) .here ?_
    refine J.nil ?_
    refine JX.thenN (hK1 _ _ ?_)
    refine JC.ret ?_
    refine JX.retC rfl rfl Ty.a23 Ty.s23 (vs := cI (addI a b)) rfl (fun w1 hw => Cells.of_block (hw.own _ (.head _)) rfl) (fun w1 hw => ?_)
    exact ⟨rfl, (hw.drop (List.nil_sublist _)).below⟩

theorem turn_spec (b : Nat) (c by_ : IDV) (w : World) (hw0 : Own w [(b, cb (cI by_) 23)]) :
    Calls Try.prog 25 [.agg (cI c).toArray, .pointer (some ⟨b, 0, none⟩)].toArray w fun r w' => r = .returned (.agg (cI (addI c by_)).toArray) ∧ Bel w w' := by
  refine calls_of_J (args := [.agg (cI c).toArray, .pointer (some ⟨b, 0, none⟩)]) (e := [(0, .agg (cI c).toArray), (1, .pointer (some ⟨b, 0, none⟩))]) Try.func25 rfl rfl ⟨rfl, rfl, trivial⟩ (hw0.st) ?_
  refine JC.seq (fun K0 hK0 => ?_)
  refine JC.region ?_
  refine J.box rfl rfl rfl (fun b2 => ?_)
  refine J.alloc Ty.zID rfl rfl (fun b3 => ?_)
  refine J.nil ?_
  refine JX.thenN (hK0 _ _ ?_)
  refine JC.seq (fun K1 hK1 => ?_)
  refine JC.region ?_
  refine J.loadOA (vs := cI c) Ty.a23 Ty.s23 rfl (by repeat first | exact .head _ | apply List.Mem.tail | apply List.mem_append_right) (by exact rfl) rfl rfl ?_
  refine J.loadOA (vs := cI by_) Ty.a23 Ty.s23 rfl (by repeat first | exact .head _ | apply List.Mem.tail | apply List.mem_append_right) (by exact rfl) rfl rfl ?_
  refine J.callB (v := .agg (cI (addI c by_)).toArray) (fun w1 w2 hw hb => hw.step hb) Ty.bd26 rfl rfl (fun w1 hw => add01_spec c by_ w1) ?_
  refine J.storeW (cs := cI zI) (vs := cI (addI c by_)) Ty.s23 rfl rfl rfl rfl rfl (one_cI _) .here ?_
  refine J.nil ?_
  refine JX.thenN (hK1 _ _ ?_)
  refine JC.ret ?_
  refine JX.retC rfl rfl Ty.a23 Ty.s23 (vs := cI (addI c by_)) rfl (fun w1 hw => Cells.of_block (hw.own _ (.head _)) rfl) (fun w1 hw => ?_)
  exact ⟨rfl, St.same hw0 hw (fun q hq => by simp at hq; subst hq; simp)⟩

end Go.Proofs.Ytohldionclgljaa
