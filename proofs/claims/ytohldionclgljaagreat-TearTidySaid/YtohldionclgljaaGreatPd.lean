/-
  Layer 15's small functions and its example: contracts.
-/
import Derived.Test.YtohldionclgljaaGreatPc
namespace Go.Proofs.YtohldionclgljaaGreat
open Go.J Go.RowKit
set_option linter.unusedVariables false
set_option linter.unusedSimpArgs false
set_option maxRecDepth 8000
structure LaidS where
  t1 : Nat
  m1 : Nat
  rt : Nat
  es : Array MapEntry
  ck : Nat
  vr : Value
  lr : List (Nat × Obj)
abbrev LaidS.blk (x : LaidS) (mo : Int) : List (Nat × Obj) := (x.t1, tabO mo x.m1) :: (x.m1, .map x.es x.ck) :: (x.rt, rtabO x.vr mo) :: x.lr
def okT (T : TV) : Prop := (∀ q, q ∈ T.out → okN q.2.n) ∧ ∀ p, p ∈ T.lost → okN p.n
theorem ok_no : okT noT := ⟨fun q h => (by cases h), fun p h => (by cases h)⟩
theorem len_no : noT.out.length + noT.lost.length ≤ 1000 := by decide
theorem ok_hop {n : Int} {p : PV} {T : TV} (hp : okN p.n) (h : okT T) : okT (hopT n p T) := by
  unfold hopT
  split
  · exact ⟨fun q hq => (List.mem_append.1 hq).elim (h.1 q) (fun h => by simp at h; subst h; exact hp), h.2⟩
  · exact ⟨h.1, fun q hq => (List.mem_append.1 hq).elim (h.2 q) (fun h => by simp at h; subst h; exact hp)⟩
theorem ok_drop {L : List EV} {fr : Int} {p : PV} (hp : okN p.n) : okT (dropT L fr p).1 := by
  unfold dropT
  split
  · exact ok_no
  · split
    · exact ok_no
    · exact ok_hop hp ok_no
theorem ok_end {L : List EV} {p : PV} (hp : okN p.n) : okT (endT L p).1 := by
  unfold endT
  split
  · exact ok_no
  · split
    · exact ok_no
    · exact ok_hop hp (ok_hop hp ok_no)
theorem ok_fold {n : Int} : ∀ (l : List EV) (s : TV × List EV), (∀ x, x ∈ l → okN x.p.n) → okT s.1 → okT (l.foldl (stepD n) s).1
  | [], _, _, h => h
  | x :: l, s, hl, h => ok_fold l _ (fun y hy => hl y (.tail _ hy)) (ok_hop (hl x (.head _)) h)
theorem ok_dead {L : List EV} {n : Int} (h : ∀ x, x ∈ L → okE x) : okT (deadT L n).1 := ok_fold _ _ (fun x hx => (h x (vs_mem hx).1).1) ok_no
theorem len_drop {L : List EV} {fr : Int} {p : PV} : (dropT L fr p).1.out.length + (dropT L fr p).1.lost.length ≤ 1000 := by
  unfold dropT
  split
  · exact len_no
  · split
    · exact len_no
    · rw [hop_len]; decide
theorem len_end {L : List EV} {p : PV} : (endT L p).1.out.length + (endT L p).1.lost.length ≤ 1000 := by
  unfold endT
  split
  · exact len_no
  · split
    · exact len_no
    · rw [hop_len, hop_len]; decide
theorem len_dead {L : List EV} {n : Int} (h : L.length ≤ 128) : (deadT L n).1.out.length + (deadT L n).1.lost.length ≤ 1000 := by
  unfold deadT
  rw [fold_len]
  have h1 := List.length_filter_le (viaB n) (ordE L)
  have h2 := (ordE_perm L).length_eq
  simp only [noT, List.length_nil]
  omega
/-- a Drop as a frame -/
abbrev dF (p : PV) : FV := ⟨5, p, false, zI, zI, 0, 0, 0, 0, 0, [], [], zI, 0, zI, [], 0, 0, []⟩
theorem dF_ok {p : PV} (h : okN p.n) : OkF (dF p) := by
  have h0 : okN 0 := okN1 (by decide) (by decide)
  exact ⟨h, h0, h0, h0, h0, h0, by simp, by simp⟩
theorem nil_row (w : World) : Row w nilV 0 [] := ⟨none, 0, rfl, Nat.le_refl _, .inl rfl⟩
theorem dF_rows (w : World) (p : PV) : FRows w (dF p) ⟨nilV, nilV, nilV, nilV⟩ := ⟨nil_row w, nil_row w, nil_row w, nil_row w⟩
theorem hop_frame (q : Int × PV) : ((cHp q).drop 1).take (cF 5 q.2 zI zI nilV).length = cF 5 q.2 zI zI nilV := by
  show (cF 5 q.2 zI zI nilV).take (cF 5 q.2 zI zI nilV).length = cF 5 q.2 zI zI nilV
  exact List.take_length
theorem hop_len95 (q : Int × PV) : 1 + (cF 5 q.2 zI zI nilV).length ≤ (cHp q).length := by
  show 1 + (cF 5 q.2 zI zI nilV).length ≤ (cF 5 q.2 zI zI nilV).length + 1
  omega
theorem cFG_dF (p : PV) : cFG (dF p) ⟨nilV, nilV, nilV, nilV⟩ = cF 5 p zI zI nilV := by
  simp [cFG, cF]
theorem rowH_at {w : World} {b o k c q i : Nat} {xs : List (Int × PV)} {a : Int × PV} (h : Row w (.slice (some ⟨b, o, none⟩) k c) k (fHp xs)) (hi : xs[i]? = some a) (hq : q = o + i * 96) : Cells w b q (cHp a) := rowG_at cHp_length h hi hq

set_option maxHeartbeats 1000000 in
theorem samePaths_spec (v1 v2 : Value) (xs : List PV) (w : World) (h1r : Row w v1 xs.length (fP xs)) (h2r : Row w v2 xs.length (fP xs)) (hok : ∀ p, p ∈ xs → okN p.n) (hl : xs.length ≤ 1000) :
    Calls Tryz.prog 12 [v1, v2].toArray w fun r w' => r = .returned (.bool true) ∧ Bel w w' := by
  obtain ⟨a1, c1, rfl, hc1, _⟩ := id h1r
  obtain ⟨a2, c2, rfl, hc2, _⟩ := id h2r
  refine calls_of_J (args := [.slice a1 xs.length c1, .slice a2 xs.length c2]) (e := [(0, .slice a1 xs.length c1), (1, .slice a2 xs.length c2)]) Tryz.func12 rfl rfl ⟨rfl, rfl, trivial⟩ (St.start w) ?_
  refine JC.seq (fun K0 hK0 => ?_)
  refine JC.region ?_
  refine J.assign rfl rfl ?_
  refine J.nil ?_
  refine JX.thenN (hK0 _ _ ?_)
  refine JC.seq (fun K1 hK1 => ?_)
  refine JC.seq (fun K2 hK2 => ?_)
  refine JC.region ?_
  refine J.move rfl rfl ?_
  refine J.lenS rfl Ty.u43 rfl rfl ?_
  refine J.move rfl rfl ?_
  refine J.lenS rfl Ty.u43 rfl rfl ?_
  refine J.bin rfl rfl rfl rfl ?_
  refine J.name 10 rfl (show _ = Value.bool false by simp) ?_
  refine J.nil ?_
  refine JX.thenN (hK2 _ _ ?_)
  first | refine JC.condF rfl ?_ | refine JC.cond rfl (fun h => by first | (exfalso; simp at h; omega) | (simp at h)) (fun _ => ?_)
  refine JC.skip ?_
  refine JX.thenN (hK1 _ _ ?_)
  refine JC.seq (fun K3 hK3 => ?_)
  refine JC.seq (fun K4 hK4 => ?_)
  refine JC.region ?_
  refine J.assign rfl rfl ?_
  refine J.nil ?_
  refine JX.thenN (hK4 _ _ ?_)
  refine JC.block ?_
  refine JC.conseq (JC.cov (f := (fun i => [(0, .slice a1 xs.length c1), (1, .slice a2 xs.length c2), (5, .int .i64 ((i : Nat) : Int))]) 0) ⟨rfl, rfl, rfl, trivial⟩ (JC.loop (α := Nat) (fun i => [(0, .slice a1 xs.length c1), (1, .slice a2 xs.length c2), (5, .int .i64 ((i : Nat) : Int))]) (fun i w' => i ≤ xs.length ∧ St w [] [] w') (fun i => xs.length - i) 0 (fun i => ?_))) (fun w hw => ⟨Nat.zero_le _, hw⟩)
  refine JC.pr (fun hi => ?_)
  refine JC.seq (fun K5 hK5 => ?_)
  refine JC.seq (fun K6 hK6 => ?_)
  refine JC.region ?_
  refine J.move rfl rfl ?_
  refine J.move rfl rfl ?_
  refine J.lenS rfl Ty.u43 rfl rfl ?_
  refine J.bin rfl rfl rfl rfl ?_
  refine J.nil ?_
  refine JX.thenN (hK6 _ _ ?_)
  refine JC.cond rfl (fun h1 => ?_) (fun h1 => ?_)
  · skip
    have hlt : i < xs.length := by simp at h1; omega
    obtain ⟨q1, o1, c1x, hqe, _, _⟩ := Row.some h1r (by rw [fP_length]; omega)
    simp only [Value.slice.injEq] at hqe
    obtain ⟨rfl, _, rfl⟩ := hqe
    obtain ⟨q2, o2, c2x, hqe, _, _⟩ := Row.some h2r (by rw [fP_length]; omega)
    simp only [Value.slice.injEq] at hqe
    obtain ⟨rfl, _, rfl⟩ := hqe
    obtain ⟨xa, hxa⟩ : ∃ x, xs[i]? = some x := ⟨_, List.getElem?_eq_getElem hlt⟩
    have hxo := hok xa (List.mem_of_getElem? hxa)
    refine JC.skip ?_
    refine JX.thenN (hK5 _ _ ?_)
    refine JC.seq (fun K7 hK7 => ?_)
    refine JC.block ?_
    refine JC.seq (fun K8 hK8 => ?_)
    apply JC.drawL 9 [Eqv (.slice (some ⟨q1, o1, none⟩) xs.length c1), Eqv (.int .i64 ((i : Nat) : Int)), Eqv (.pointer (some ⟨q1, o1 + (i : Int).toNat * 17, none⟩)), Eqv (.agg (cP xa).toArray), Eqv (.slice (some ⟨q2, o2, none⟩) xs.length c2), Eqv (.int .i64 ((i : Nat) : Int)), Eqv (.pointer (some ⟨q2, o2 + (i : Int).toNat * 17, none⟩)), Eqv (.agg (cP xa).toArray), Eqv (.bool false)] Ty.mixed rfl rfl rfl (by kernel_rfl) rfl rfl (fun w w' hw hb => hw.step hb) ⟨fun _ _ _ h _ => h, fun _ _ _ h _ => h, fun _ _ _ h _ => h, fun _ _ _ h _ => h, fun _ _ _ h _ => h, fun _ _ _ h _ => h, fun _ _ _ h _ => h, fun _ _ _ h _ => h, fun _ _ _ h _ => h, trivial⟩ ?hstep ?htail
    case hstep =>
      refine ⟨fun wi => ?_, fun wi => ?_, fun wi => ?_, fun wi => ?_, fun wi => ?_, fun wi => ?_, fun wi => ?_, fun wi => ?_, fun wi => ?_, trivial⟩
      · skip
        refine Fin.nil ?_
        refine J.move rfl rfl ?_
        exact J.finP rfl
      · skip
        refine Fin.nil ?_
        refine J.move rfl rfl ?_
        exact J.finP rfl
      · skip
        refine Fin.consE rfl (Fin.consE rfl (Fin.nil ?_))
        refine J.indexAddrS Ty.el43 Ty.s31 rfl rfl (by omega) (by omega) rfl ?_
        exact J.finP rfl
      · skip
        refine Fin.consE rfl (Fin.nil ?_)
        refine J.loadA (vs := cP xa) Ty.a31 Ty.s31 rfl rfl (fun w1 hw => rowP_at (h1r.below (hw.2.drop (List.nil_sublist _)).below) hxa (by simp)) rfl ?_
        exact J.finP rfl
      · skip
        refine Fin.nil ?_
        refine J.move rfl rfl ?_
        exact J.finP rfl
      · skip
        refine Fin.nil ?_
        refine J.move rfl rfl ?_
        exact J.finP rfl
      · skip
        refine Fin.consE rfl (Fin.consE rfl (Fin.nil ?_))
        refine J.indexAddrS Ty.el43 Ty.s31 rfl rfl (by omega) (by omega) rfl ?_
        exact J.finP rfl
      · skip
        refine Fin.consE rfl (Fin.nil ?_)
        refine J.loadA (vs := cP xa) Ty.a31 Ty.s31 rfl rfl (fun w1 hw => rowP_at (h2r.below (hw.2.drop (List.nil_sublist _)).below) hxa (by simp)) rfl ?_
        exact J.finP rfl
      · skip
        refine Fin.consE rfl (Fin.consE rfl (Fin.nil ?_))
        refine J.neP Ty.QP Ty.keyP rfl rfl hxo hxo rfl ?_
        refine J.name 25 rfl (show _ = Value.bool false by simp) ?_
        exact J.finP rfl
    case htail =>
      refine Fin.consE rfl (Fin.consE rfl (Fin.consE rfl (Fin.consE rfl (Fin.consE rfl (Fin.consE rfl (Fin.consE rfl (Fin.consE rfl (Fin.consE rfl (Fin.nil ?_)))))))))
      refine J.nil ?_
      refine JX.thenN (hK8 _ _ ?_)
      first | refine JC.condF rfl ?_ | refine JC.cond rfl (fun h => by first | (exfalso; simp at h; omega) | (simp at h)) (fun _ => ?_)
      refine JC.skip ?_
      refine JX.blockN ?_
      refine JX.thenN (hK7 _ _ ?_)
      refine JC.region ?_
      refine J.move rfl rfl ?_
      (first | refine J.addN rfl rfl (by omega) (by omega) rfl ?_ | refine J.bin rfl rfl rfl rfl ?_)
      refine J.assign rfl rfl ?_
      refine J.nil ?_
      refine JX.thenN ?_
      refine JX.again (i + 1) ?_ ?_ ?_
      · omega
      · exact ⟨rfl, rfl, rfl, trivial⟩
      · exact fun w1 hw => ⟨hlt, hw⟩
  · skip
    skip
    refine JC.exit ?_
    refine JX.thenE ?_
    refine JX.thenE ?_
    refine JX.blockE ?_
    refine JX.thenN (hK3 _ _ ?_)
    refine JC.seq (fun K9 hK9 => ?_)
    refine JC.region ?_
    refine J.assign rfl rfl ?_
    refine J.nil ?_
    refine JX.thenN (hK9 _ _ ?_)
    refine JC.ret ?_
    refine JX.ret1 rfl rfl (fun w hw => ?_)
    exact ⟨rfl, (hw.drop (List.nil_sublist _)).below⟩

theorem cells_part {w : World} {b o k : Nat} {xs ys : List Value} (h : Cells w b o xs) (hy : (xs.drop k).take ys.length = ys) (hl : k + ys.length ≤ xs.length) : Cells w b (o + k) ys := by
  intro j hj
  have e : ys[j]? = ((xs.drop k).take ys.length)[j]? := by rw [hy]
  rw [e, List.getElem?_take_of_lt hj, List.getElem?_drop, Nat.add_assoc]
  exact h (k + j) (by omega)

set_option maxHeartbeats 1000000 in
theorem laid15_spec (v : Value) (xs : List EV) (w : World) (hrv : Row w v xs.length (fE xs)) (hok : ∀ x, x ∈ xs → okE x) (hxl : xs.length ≤ 1954687338213) :
    Calls Tryz.prog 5 [v].toArray w fun r w' => ∃ x : LaidS, r = .returned (.tuple #[.pointer (some ⟨x.t1, 0, none⟩), .pointer (some ⟨x.rt, 0, none⟩)]) ∧ (Tab (laidL 128 xs) x.es x.ck ∧ Vec 33 51 x.vr (ordE (laidL 128 xs)).length (fE (ordE (laidL 128 xs))) x.lr) ∧ St w [] (x.blk 128) w' := by
  obtain ⟨av, cv, rfl, hcv, _⟩ := id hrv
  have hvr0 : Vec 33 51 (.slice none 0 0) (ordE (laidL 128 (xs.take 0))).length (fE (ordE (laidL 128 (xs.take 0)))) [] := by rw [show ordE (laidL 128 (xs.take 0)) = [] from by simp [ordE, laidL]]; exact Vec.nil _ _
  refine calls_of_J (args := [.slice av xs.length cv]) (e := [(0, .slice av xs.length cv)]) Tryz.func5 rfl rfl ⟨rfl, trivial⟩ (St.start w) ?_
  refine JC.seq (fun K0 hK0 => ?_)
  refine JC.region ?_
  refine J.assign rfl rfl ?_
  refine J.assign rfl rfl ?_
  refine J.nil ?_
  refine JX.thenN (hK0 _ _ ?_)
  refine JC.seq (fun K1 hK1 => ?_)
  refine JC.region ?_
  refine J.perm ([] ++ ([])) (.refl _) ?_
  refine J.callS (α := Nat × Nat) (V := fun x => .pointer (some ⟨x.1, 0, none⟩)) (Pr := fun _ => True) (L := fun x => [(x.1, tabO (min (max (128) 0) 128) x.2), (x.2, .map #[] 0)]) (l1 := []) Ty.bd23 rfl rfl (fun w1 hw => (new_spec 128 w1).mono fun _ _ ⟨x, h1, h2⟩ => ⟨x, h1, trivial, h2⟩) (fun x _ => ?_)
  obtain ⟨t1, m1⟩ := x
  simp only [List.cons_append, List.nil_append]
  rw [show min (max (128 : Int) 0) 128 = 128 by decide]
  refine J.assign rfl rfl ?_
  refine J.nil ?_
  refine JX.thenN (hK1 _ _ ?_)
  refine JC.seq (fun K2 hK2 => ?_)
  refine JC.region ?_
  refine J.perm ([] ++ ((t1, tabO 128 m1) :: (m1, .map #[] 0) :: [])) (.refl _) ?_
  refine J.callS (α := Nat) (V := fun x => .pointer (some ⟨x, 0, none⟩)) (Pr := fun _ => True) (L := fun x => [(x, rtabO (.slice none 0 0) (min (max (128) 0) 128))]) (l1 := []) Ty.bd24 rfl rfl (fun w1 hw => (rnew_spec 128 w1).mono fun _ _ ⟨x, h1, h2⟩ => ⟨x, h1, trivial, h2⟩) (fun rt _ => ?_)
  simp only [List.cons_append, List.nil_append]
  rw [show min (max (128 : Int) 0) 128 = 128 by decide]
  refine J.assign rfl rfl ?_
  refine J.nil ?_
  refine JX.thenN (hK2 _ _ ?_)
  refine JC.seq (fun K3 hK3 => ?_)
  refine JC.seq (fun K4 hK4 => ?_)
  refine JC.region ?_
  refine J.move rfl rfl ?_
  refine J.lenS rfl Ty.u22 rfl rfl ?_
  refine J.move rfl rfl ?_
  refine J.nil ?_
  refine JX.thenN (hK4 _ _ ?_)
  refine JC.block ?_
  refine JC.conseq (JC.cov (f := (fun st => [(4, .pointer (some ⟨t1, 0, none⟩)), (5, .pointer (some ⟨rt, 0, none⟩)), (10, .slice av xs.length cv), (11, .int .i64 ((xs.length : Nat) : Int)), (12, .int .i64 ((st.1 : Nat) : Int))]) ((0, #[], 0, .slice none 0 0, []) : Nat × Array MapEntry × Nat × Value × List (Nat × Obj))) ⟨rfl, rfl, rfl, rfl, rfl, trivial⟩ (JC.loop (α := Nat × Array MapEntry × Nat × Value × List (Nat × Obj)) (fun st => [(4, .pointer (some ⟨t1, 0, none⟩)), (5, .pointer (some ⟨rt, 0, none⟩)), (10, .slice av xs.length cv), (11, .int .i64 ((xs.length : Nat) : Int)), (12, .int .i64 ((st.1 : Nat) : Int))]) (fun st w' => (st.1 ≤ xs.length ∧ Tab (laidL 128 (xs.take st.1)) st.2.1 st.2.2.1 ∧ Vec 33 51 st.2.2.2.1 (ordE (laidL 128 (xs.take st.1))).length (fE (ordE (laidL 128 (xs.take st.1)))) st.2.2.2.2) ∧ St w [] ((t1, tabO 128 m1) :: (m1, .map st.2.1 st.2.2.1) :: (rt, rtabO st.2.2.2.1 128) :: st.2.2.2.2) w') (fun st => xs.length - st.1) ((0, #[], 0, .slice none 0 0, []) : Nat × Array MapEntry × Nat × Value × List (Nat × Obj)) (fun st => ?_))) (fun w hw => ⟨⟨Nat.zero_le _, Tab.nil, hvr0⟩, hw.perm (by (refine perm_cnt (fun _ => ?_)); simp only [cntB_append, cntB_cons, cntB_nil, Nat.add_zero, Nat.zero_add]; try ac_rfl)⟩)
  obtain ⟨i, es, ck, vr, lr⟩ := st
  refine JC.pr (fun hx1 => ?_)
  obtain ⟨hi, hT, hvr⟩ := hx1
  simp only at hi hT hvr ⊢
  obtain ⟨L, hLe⟩ : ∃ L, laidL 128 (xs.take i) = L := ⟨_, rfl⟩
  have hgood := laidL_good 128 (xs.take i)
  rw [hLe] at hT hvr hgood
  obtain ⟨ar, cr, rfl, hcr⟩ := hvr.form
  have hlen := hgood.len
  have hol := (ordE_perm L).length_eq
  have hl128 : L.length ≤ 128 := by omega
  have ho128 : (ordE L).length ≤ 128 := by omega
  refine JC.seq (fun K5 hK5 => ?_)
  refine JC.region ?_
  refine J.bin rfl rfl rfl rfl ?_
  refine J.nil ?_
  refine JX.thenN (hK5 _ _ ?_)
  refine JC.seq (fun K6 hK6 => ?_)
  refine JC.cond rfl (fun h0 => ?_) (fun h0 => ?_)
  · skip
    have hlt : i < xs.length := by simp at h0; omega
    have hflx := fE_length xs
    have hclx := (Row.some hrv (by omega))
    obtain ⟨qx, ox, cx', hqe, _, _⟩ := hclx
    simp only [Value.slice.injEq] at hqe
    obtain ⟨rfl, _, rfl⟩ := hqe
    obtain ⟨xa, hxa⟩ : ∃ x, xs[i]? = some x := ⟨_, List.getElem?_eq_getElem hlt⟩
    have hxo := hok xa (List.mem_of_getElem? hxa)
    refine JC.skip ?_
    refine JX.thenN (hK6 _ _ ?_)
    refine JC.seq (fun K7 hK7 => ?_)
    refine JC.block ?_
    refine JC.seq (fun K8 hK8 => ?_)
    refine JC.region ?_
    refine J.indexAddrS Ty.el22 Ty.s33 rfl rfl (by omega) (by omega) rfl ?_
    refine J.loadA (vs := cE xa) Ty.a33 Ty.s33 rfl rfl (fun w1 hw => rowE_at (hrv.below (hw.drop (List.nil_sublist _)).below) hxa (by omega)) rfl ?_
    refine J.alloc Ty.zE_ rfl rfl (fun b7 => ?_)
    refine J.storeW (cs := cE zE) (vs := cE xa) Ty.s33 rfl rfl rfl rfl rfl (one_cE _) .here ?_
    refine J.nil ?_
    refine JX.thenN (hK8 _ _ ?_)
    refine JC.seq (fun K9 hK9 => ?_)
    refine JC.region ?_
    refine J.move rfl rfl ?_
    refine J.loadOA (vs := cE xa) Ty.a33 Ty.s33 rfl (.head _) rfl rfl rfl ?_
    refine J.perm ([(t1, tabO 128 m1), (m1, .map es ck)] ++ ((b7, cb (cE xa) 33) :: (rt, rtabO (.slice ar (ordE L).length cr) 128) :: lr)) (by (refine perm_cnt (fun _ => ?_)); simp only [cntB_append, cntB_cons, cntB_nil, Nat.add_zero, Nat.zero_add]; try ac_rfl) ?_
    refine J.callS (α := Array MapEntry × Nat) (V := fun _ => .int .i64 (tadd (L) 128 xa).1) (Pr := fun y => Tab (tadd (L) 128 xa).2 y.1 y.2) (L := fun y => [(t1, tabO 128 m1), (m1, .map y.1 y.2)]) (l1 := [(t1, tabO 128 m1), (m1, .map es ck)]) Ty.bd25 rfl rfl (fun w1 hw => (add_spec t1 m1 128 (L) es ck w1 hw.owns hT xa hxo).mono fun _ _ ⟨y, h1, h2, h3⟩ => ⟨y, h1, h2, h3⟩) (fun y hT2 => ?_)
    obtain ⟨es2, ck2⟩ := y
    simp only [List.cons_append, List.nil_append] at hT2 ⊢
    refine J.nil ?_
    refine JX.thenN (hK9 _ _ ?_)
    refine JC.region ?_
    refine J.move rfl rfl ?_
    refine J.loadOA (vs := cE xa) Ty.a33 Ty.s33 rfl (.tail _ (.tail _ (.head _))) rfl rfl rfl ?_
    refine J.perm ((((rt, rtabO (.slice ar (ordE L).length cr) 128)) :: lr) ++ ((b7, cb (cE xa) 33) :: (t1, tabO 128 m1) :: (m1, .map es2 ck2) :: [])) (by (refine perm_cnt (fun _ => ?_)); simp only [cntB_append, cntB_cons, cntB_nil, Nat.add_zero, Nat.zero_add]; try ac_rfl) ?_
    refine J.callS (α := Value × List (Nat × Obj)) (V := fun _ => .int .i64 (tadd L 128 xa).1) (Pr := fun y => Vec 33 51 y.1 (ordE (tadd L 128 xa).2).length (fE (ordE (tadd L 128 xa).2)) y.2) (L := fun y => (rt, rtabO y.1 128) :: y.2) (l1 := (((rt, rtabO (.slice ar (ordE L).length cr) 128)) :: lr)) Ty.bd26 rfl rfl (fun w1 hw => (radd_spec rt _ 128 (ordE L) lr w1 hw.owns hvr (ordE_ok hT) (by omega) xa hxo).mono fun _ _ ⟨y, h1, h2, h3⟩ => by rw [radd_ord hT.dist] at h1 h2; exact ⟨y, h1, h2, h3⟩) (fun y hv7 => ?_)
    obtain ⟨v7, l7⟩ := y
    simp only [List.cons_append, List.nil_append] at hv7 ⊢
    refine J.conseq (I' := St w [] ((t1, tabO 128 m1) :: (m1, .map es2 ck2) :: (rt, rtabO v7 128) :: l7)) ?_ (fun w1 hw => (hw.perm (l' := (b7, cb (cE xa) 33) :: (t1, tabO 128 m1) :: (m1, .map es2 ck2) :: (rt, rtabO v7 128) :: l7) (by (refine perm_cnt (fun _ => ?_)); simp only [cntB_append, cntB_cons, cntB_nil, Nat.add_zero, Nat.zero_add]; try ac_rfl)).drop (List.sublist_cons_self _ _))
    refine J.nil ?_
    refine JX.blockN ?_
    refine JX.thenN (hK7 _ _ ?_)
    refine JC.region ?_
    (first | refine J.addN rfl rfl (by omega) (by omega) rfl ?_ | refine J.bin rfl rfl rfl rfl ?_)
    refine J.move rfl rfl ?_
    refine J.nil ?_
    refine JX.thenN ?_
    refine JX.again ((i + 1, es2, ck2, v7, l7) : Nat × Array MapEntry × Nat × Value × List (Nat × Obj)) ?_ ?_ ?_
    · simp only; omega
    · exact ⟨rfl, rfl, rfl, rfl, rfl, trivial⟩
    · exact fun w1 hw => ⟨⟨hlt, by rw [take_snocE hxa, laidL_snoc, hLe]; exact hT2, by rw [take_snocE hxa, laidL_snoc, hLe]; exact hv7⟩, hw⟩
  · skip
    have hge : i = xs.length := by simp at h0; omega
    rw [List.take_of_length_le (by omega)] at hLe
    subst hLe
    refine JC.exit ?_
    refine JX.thenE ?_
    refine JX.thenE ?_
    refine JX.blockE ?_
    refine JX.thenN (hK3 _ _ ?_)
    refine JC.seq (fun K10 hK10 => ?_)
    refine JC.region ?_
    refine J.move rfl rfl ?_
    refine J.move rfl rfl ?_
    refine J.assign rfl rfl ?_
    refine J.assign rfl rfl ?_
    refine J.nil ?_
    refine JX.thenN (hK10 _ _ ?_)
    refine JC.ret ?_
    refine JX.ret2 rfl rfl rfl (fun w hw => ?_)
    exact ⟨⟨t1, m1, rt, es, ck, .slice ar (ordE (laidL 128 xs)).length cr, lr⟩, rfl, ⟨hT, hvr⟩, hw⟩

def ey1 : EV := ⟨⟨zI, 1⟩, zI, idB, 0, 2⟩
def ey2 : EV := ⟨⟨zI, 2⟩, zI, idB, -1, 0⟩
theorem ok_ey1 : okE ey1 := ⟨okN1 (by decide) (by decide), okN1 (by decide) (by decide), okN1 (by decide) (by decide)⟩
theorem ok_ey2 : okE ey2 := ⟨okN1 (by decide) (by decide), okN1 (by decide) (by decide), okN1 (by decide) (by decide)⟩
theorem right_ey1 : rightP ey1 := ⟨zI_idB, by decide, by decide, by decide⟩
theorem right_ey2 : rightP ey2 := ⟨zI_idB, by decide, by decide, by decide⟩
theorem ey_ne : ey1.p ≠ ey2.p := fun e => by have := congrArg PV.n e; simp [ey1, ey2] at this
theorem laid_ey : laidL 128 [ey1, ey2] = [ey1, ey2] := by
  show (tadd (tadd [] 128 ey1).2 128 ey2).2 = [ey1, ey2]
  rw [tadd_ok right_ey1 rfl (by decide)]
  show (tadd [ey1] 128 ey2).2 = [ey1, ey2]
  rw [tadd_ok right_ey2 (by unfold tget; simp [ey_ne]) (by decide)]
  rfl
theorem ord_ey : ordE [ey1, ey2] = [ey1, ey2] := by
  have h : ltP ey2.p ey1.p = false := by
    cases h : ltP ey2.p ey1.p
    · rfl
    · have := ltP_iff.1 h; simp [ey1, ey2] at this
  simp [ordE, List.mergeSort, h]
theorem drop_ey : dropT [ey1, ey2] 4 ⟨zI, 1⟩ = (noT, [ey1, ey2]) := by
  have : tget [ey1, ey2] ⟨zI, 1⟩ = some ey1 := by unfold tget; simp [ey1]
  unfold dropT
  rw [this]
  simp [ey1]
theorem del_ey : delL (delL [ey1, ey2] ey1.p) ey2.p = [] := by
  unfold delL
  simp
theorem dead_ey : deadT [ey1, ey2] 0 = (⟨[(2, ⟨zI, 1⟩)], [⟨zI, 2⟩]⟩, []) := by
  unfold deadT
  rw [ord_ey, show [ey1, ey2].filter (viaB 0) = [ey1, ey2] from rfl]
  show stepD 0 (stepD 0 (noT, [ey1, ey2]) ey1) ey2 = _
  unfold stepD
  rw [del_ey]
  rfl

set_option maxHeartbeats 2000000 in
theorem fixed15_spec (w : World) :
    Calls Tryz.prog 8 [].toArray w fun r w' => r = .returned (.bool true) ∧ Bel w w' := by
  refine calls_of_J (args := []) (e := []) Tryz.func8 rfl rfl trivial (St.start w) ?_
  refine JC.seq (fun K0 hK0 => ?_)
  refine JC.region ?_
  refine J.assign rfl rfl ?_
  refine J.nil ?_
  refine JX.thenN (hK0 _ _ ?_)
  refine JC.seq (fun K1 hK1 => ?_)
  refine JC.region ?_
  refine J.buildS (cs := cP (⟨zI, 1⟩ : PV)) Ty.pl31 zPa rfl (by kernel_rfl) rfl ?_
  refine J.buildA (cs := cI idB) Ty.ar24 Ty.s5 Ty.z24 rfl (by kernel_rfl) rfl ?_
  refine J.buildS (cs := cE ey1) Ty.pl33 Ty.zE_ rfl (by kernel_rfl) rfl ?_
  refine J.buildS (cs := cP (⟨zI, 2⟩ : PV)) Ty.pl31 zPa rfl (by kernel_rfl) rfl ?_
  refine J.buildA (cs := cI idB) Ty.ar24 Ty.s5 Ty.z24 rfl (by kernel_rfl) rfl ?_
  refine J.buildS (cs := cE ey2) Ty.pl33 Ty.zE_ rfl (by kernel_rfl) rfl ?_
  refine J.buildSl (cs := cE ey1 ++ cE ey2) Ty.el22 Ty.s33 Ty.zE_ rfl rfl rfl rfl (by kernel_rfl) rfl rfl (fun b12 => ?_)
  refine J.perm ([] ++ ((b12, cb (cE ey1 ++ cE ey2) 33) :: [])) (.refl _) ?_
  refine J.callS (α := LaidS) (V := fun x => .tuple #[.pointer (some ⟨x.t1, 0, none⟩), .pointer (some ⟨x.rt, 0, none⟩)]) (Pr := fun x => Tab (laidL 128 ([ey1, ey2])) x.es x.ck ∧ Vec 33 51 x.vr (ordE (laidL 128 ([ey1, ey2]))).length (fE (ordE (laidL 128 ([ey1, ey2])))) x.lr) (L := fun x => x.blk 128) (l1 := []) Ty.bd5 rfl rfl (fun w1 hw => laid15_spec _ ([ey1, ey2]) w1 (Row.own (cs := cE ey1 ++ cE ey2) (tb := 33) (fr := (0, 0)) hw (.head _) rfl (Nat.le_refl _) : Row w1 (.slice (some ⟨b12, 0, none⟩) 2 2) 2 (fE [ey1, ey2])) (fun x hx => by simp at hx; rcases hx with rfl | rfl; exact ok_ey1; exact ok_ey2) (by decide)) (fun x hx9 => ?_)
  obtain ⟨t1, m1, rt, es, ck, vr, lr⟩ := x
  obtain ⟨hT, hvr⟩ := hx9
  simp only [LaidS.blk, List.cons_append] at hT hvr ⊢
  rw [laid_ey] at hT
  refine J.perm ((t1, tabO 128 m1) :: (m1, .map es ck) :: (rt, rtabO vr 128) :: ((b12, cb (cE ey1 ++ cE ey2) 33) :: lr)) (by (refine perm_cnt (fun _ => ?_)); simp only [cntB_append, cntB_cons, cntB_nil, Nat.add_zero, Nat.zero_add]; try ac_rfl) ?_
  refine J.move rfl rfl ?_
  refine J.extract rfl rfl rfl ?_
  refine J.extract rfl rfl rfl ?_
  refine J.assign rfl rfl ?_
  refine J.assign rfl rfl ?_
  refine J.nil ?_
  refine JX.thenN (hK1 _ _ ?_)
  refine JC.seq (fun K2 hK2 => ?_)
  refine JC.seq (fun K3 hK3 => ?_)
  refine JC.region ?_
  refine J.move rfl rfl ?_
  refine J.eqNil Ty.u26 rfl rfl rfl ?_
  refine J.nil ?_
  refine JX.thenN (hK3 _ _ ?_)
  first | refine JC.condF rfl ?_ | refine JC.cond rfl (fun h => by first | (exfalso; simp at h; omega) | (simp at h)) (fun _ => ?_)
  refine JC.skip ?_
  refine JX.thenN (hK2 _ _ ?_)
  refine JC.seq (fun K4 hK4 => ?_)
  refine JC.region ?_
  refine J.move rfl rfl ?_
  refine J.buildS (cs := cP (⟨zI, 1⟩ : PV)) Ty.pl31 zPa rfl (by kernel_rfl) rfl ?_
  refine J.perm ([(t1, tabO 128 m1), (m1, .map es ck)] ++ ((b12, cb (cE ey1 ++ cE ey2) 33) :: (rt, rtabO vr 128) :: lr)) (by (refine perm_cnt (fun _ => ?_)); simp only [cntB_append, cntB_cons, cntB_nil, Nat.add_zero, Nat.zero_add]; try ac_rfl) ?_
  refine J.callS (α := TS × Array MapEntry) (V := fun y => .agg [y.1.vo, y.1.vl].toArray) (Pr := fun y => ((noT, [ey1, ey2]) : TV × List EV).1.is y.1 ∧ Tab ((noT, [ey1, ey2]) : TV × List EV).2 y.2 ck) (L := fun y => (y.1.lo ++ y.1.ll) ++ [(t1, tabO 128 m1), (m1, .map y.2 ck)]) (l1 := [(t1, tabO 128 m1), (m1, .map es ck)]) Ty.bd30 rfl rfl (fun w1 hw => (by have h := tdrop_spec t1 m1 128 [ey1, ey2] es ck w1 hw.owns hT 4 ⟨zI, 1⟩ (okN1 (by decide) (by decide)); rw [drop_ey] at h; exact h)) (fun y hy => ?_)
  obtain ⟨y, es2⟩ := y
  obtain ⟨hy, hT2⟩ := hy
  simp only [List.cons_append, List.nil_append] at hy hT2 ⊢
  refine J.alloc zTo rfl rfl (fun b3 => ?_)
  refine J.storeW (cs := [nilV, nilV]) (vs := [y.vo, y.vl]) Ty.s55 rfl rfl rfl rfl rfl (two_one hy) .here ?_
  refine J.nil ?_
  refine JX.thenN (hK4 _ _ ?_)
  refine JC.seq (fun K5 hK5 => ?_)
  refine JC.region ?_
  refine J.move rfl rfl ?_
  refine J.perm ([(t1, tabO 128 m1), (m1, .map es2 ck)] ++ ((y.lo ++ (y.ll ++ ((b3, cb [y.vo, y.vl] 55) :: (b12, cb (cE ey1 ++ cE ey2) 33) :: (rt, rtabO vr 128) :: lr))))) (by (refine perm_cnt (fun _ => ?_)); simp only [cntB_append, cntB_cons, cntB_nil, Nat.add_zero, Nat.zero_add]; try ac_rfl) ?_
  refine J.callS (α := TS × Array MapEntry) (V := fun y => .agg [y.1.vo, y.1.vl].toArray) (Pr := fun y => (((⟨[(2, ⟨zI, 1⟩)], [⟨zI, 2⟩]⟩ : TV), []) : TV × List EV).1.is y.1 ∧ Tab (((⟨[(2, ⟨zI, 1⟩)], [⟨zI, 2⟩]⟩ : TV), []) : TV × List EV).2 y.2 ck) (L := fun y => (y.1.lo ++ y.1.ll) ++ [(t1, tabO 128 m1), (m1, .map y.2 ck)]) (l1 := [(t1, tabO 128 m1), (m1, .map es2 ck)]) Ty.bd31 rfl rfl (fun w1 hw => (by have h := tdead_spec t1 m1 128 [ey1, ey2] es2 ck w1 hw.owns hT2 (by decide) 0; rw [dead_ey] at h; exact h)) (fun z hz => ?_)
  obtain ⟨z, es3⟩ := z
  obtain ⟨hz, hT3⟩ := hz
  simp only [List.cons_append, List.nil_append] at hz hT3 ⊢
  refine J.alloc zTo rfl rfl (fun b4 => ?_)
  refine J.storeW (cs := [nilV, nilV]) (vs := [z.vo, z.vl]) Ty.s55 rfl rfl rfl rfl rfl (two_one hz) .here ?_
  obtain ⟨yo, cyo, hyo, _⟩ := hy.1.form
  obtain ⟨yl, cyl, hyl, _⟩ := hy.2.form
  obtain ⟨zo, czo, hzo, _⟩ := hz.1.form
  obtain ⟨zl, czl, hzl, _⟩ := hz.2.form
  obtain ⟨qo, hqo⟩ : ∃ q, zo = some ⟨q, 0, none⟩ := by
    rcases hz.1.2 with ⟨h9, h8, _⟩ | ⟨q, c9, sp, h9, _⟩
    · cases h8
    · rw [hzo] at h9; simp only [Value.slice.injEq] at h9; exact ⟨q, h9.1⟩
  obtain ⟨ql, hql⟩ : ∃ q, zl = some ⟨q, 0, none⟩ := by
    rcases hz.2.2 with ⟨h9, h8, _⟩ | ⟨q, c9, sp, h9, _⟩
    · cases h8
    · rw [hzl] at h9; simp only [Value.slice.injEq] at h9; exact ⟨q, h9.1⟩
  subst hqo hql
  refine J.perm ((b4, cb [z.vo, z.vl] 55) :: (b3, cb [y.vo, y.vl] 55) :: (t1, tabO 128 m1) :: (m1, .map es3 ck) :: (z.lo ++ (z.ll ++ (y.lo ++ (y.ll ++ ((b12, cb (cE ey1 ++ cE ey2) 33) :: (rt, rtabO vr 128) :: lr)))))) (by (refine perm_cnt (fun _ => ?_)); simp only [cntB_append, cntB_cons, cntB_nil, Nat.add_zero, Nat.zero_add]; try ac_rfl) ?_
  refine J.nil ?_
  refine JX.thenN (hK5 _ _ ?_)
  refine JC.seq (fun K6 hK6 => ?_)
  refine JC.region ?_
  refine J.fieldAddr Ty.fd55_0 rfl rfl ?_
  refine J.load1 (v := .slice yo 0 cyo) Ty.a53 rfl (fun w1 hw => by rw [← (show y.vo = .slice yo 0 cyo from hyo)]; exact (cell_of (hw.own ((b3, cb [y.vo, y.vl] 55)) (by repeat first | exact .head _ | apply List.Mem.tail | apply List.mem_append_right))).trans rfl) rfl ?_
  refine J.lenS rfl Ty.u53 rfl rfl ?_
  refine J.fieldAddr Ty.fd55_1 rfl rfl ?_
  refine J.load1 (v := .slice yl 0 cyl) Ty.a43 rfl (fun w1 hw => by rw [← (show y.vl = .slice yl 0 cyl from hyl)]; exact (cell_of (hw.own ((b3, cb [y.vo, y.vl] 55)) (by repeat first | exact .head _ | apply List.Mem.tail | apply List.mem_append_right))).trans rfl) rfl ?_
  refine J.lenS rfl Ty.u43 rfl rfl ?_
  refine J.bin rfl rfl rfl rfl ?_
  refine J.name 29 rfl (show _ = Value.int .i64 0 by rfl) ?_
  refine J.bin rfl rfl rfl rfl ?_
  refine J.name 30 rfl (show _ = Value.bool true by rfl) ?_
  refine J.move rfl rfl ?_
  first | refine J.skip rfl rfl rfl rfl rfl ?_ | refine J.skipU rfl rfl rfl rfl ?_ | (refine J.unguard rfl rfl rfl ?_; refine J.fieldAddr Ty.fd55_0 rfl rfl ?_)
  first | refine J.skip rfl rfl rfl rfl rfl ?_ | refine J.skipU rfl rfl rfl rfl ?_ | (refine J.unguard rfl rfl rfl ?_; refine J.load1 (v := .slice (some ⟨qo, 0, none⟩) 1 czo) Ty.a53 rfl (fun w1 hw => by rw [← (show z.vo = .slice (some ⟨qo, 0, none⟩) 1 czo from hzo)]; exact (cell_of (hw.own ((b4, cb [z.vo, z.vl] 55)) (by repeat first | exact .head _ | apply List.Mem.tail | apply List.mem_append_right))).trans rfl) rfl ?_)
  first | refine J.skip rfl rfl rfl rfl rfl ?_ | refine J.skipU rfl rfl rfl rfl ?_ | (refine J.unguard rfl rfl rfl ?_; refine J.lenS rfl Ty.u53 rfl rfl ?_)
  first | refine J.skip rfl rfl rfl rfl rfl ?_ | refine J.skipU rfl rfl rfl rfl ?_ | (refine J.unguard rfl rfl rfl ?_; refine J.bin rfl rfl rfl rfl ?_; refine J.name 35 rfl (show _ = Value.bool true by rfl) ?_)
  (first | refine J.pickT rfl rfl rfl ?_ | refine J.pickF rfl rfl rfl ?_)
  refine J.move rfl rfl ?_
  first | refine J.skip rfl rfl rfl rfl rfl ?_ | refine J.skipU rfl rfl rfl rfl ?_ | (refine J.unguard rfl rfl rfl ?_; refine J.fieldAddr Ty.fd55_0 rfl rfl ?_)
  first | refine J.skip rfl rfl rfl rfl rfl ?_ | refine J.skipU rfl rfl rfl rfl ?_ | (refine J.unguard rfl rfl rfl ?_; refine J.load1 (v := .slice (some ⟨qo, 0, none⟩) 1 czo) Ty.a53 rfl (fun w1 hw => by rw [← (show z.vo = .slice (some ⟨qo, 0, none⟩) 1 czo from hzo)]; exact (cell_of (hw.own ((b4, cb [z.vo, z.vl] 55)) (by repeat first | exact .head _ | apply List.Mem.tail | apply List.mem_append_right))).trans rfl) rfl ?_)
  first | refine J.skip rfl rfl rfl rfl rfl ?_ | refine J.skipU rfl rfl rfl rfl ?_ | (refine J.unguard rfl rfl rfl ?_; refine J.indexAddrS Ty.el53 Ty.s79 rfl rfl (by omega) (by omega) rfl ?_)
  first | refine J.skip rfl rfl rfl rfl rfl ?_ | refine J.skipU rfl rfl rfl rfl ?_ | (refine J.unguard rfl rfl rfl ?_; refine J.fieldAddr Ty.fd79_0 rfl rfl ?_)
  first | refine J.skip rfl rfl rfl rfl rfl ?_ | refine J.skipU rfl rfl rfl rfl ?_ | (refine J.unguard rfl rfl rfl ?_; refine J.load1 (v := iV 2) Ty.a3 rfl (fun w1 hw => Cells.get (i := 0) (rowH_at (i := 0) (hzo ▸ vec_rowM hz.1 hw (fun q hq => by first | (simp [hq]; done) | (simp at hq; simp [hq]; done) | (simp at hq; subst hq; simp)) : Row w1 (.slice (some ⟨qo, 0, none⟩) 1 czo) 1 (fHp [((2 : Int), (⟨zI, 1⟩ : PV))])) rfl rfl) rfl rfl) rfl ?_)
  first | refine J.skip rfl rfl rfl rfl rfl ?_ | refine J.skipU rfl rfl rfl rfl ?_ | (refine J.unguard rfl rfl rfl ?_; refine J.bin rfl rfl rfl rfl ?_; refine J.name 43 rfl (show _ = Value.bool true by rfl) ?_)
  (first | refine J.pickT rfl rfl rfl ?_ | refine J.pickF rfl rfl rfl ?_)
  refine J.move rfl rfl ?_
  first | refine J.skip rfl rfl rfl rfl rfl ?_ | refine J.skipU rfl rfl rfl rfl ?_ | (refine J.unguard rfl rfl rfl ?_; refine J.fieldAddr Ty.fd55_0 rfl rfl ?_)
  first | refine J.skip rfl rfl rfl rfl rfl ?_ | refine J.skipU rfl rfl rfl rfl ?_ | (refine J.unguard rfl rfl rfl ?_; refine J.load1 (v := .slice (some ⟨qo, 0, none⟩) 1 czo) Ty.a53 rfl (fun w1 hw => by rw [← (show z.vo = .slice (some ⟨qo, 0, none⟩) 1 czo from hzo)]; exact (cell_of (hw.own ((b4, cb [z.vo, z.vl] 55)) (by repeat first | exact .head _ | apply List.Mem.tail | apply List.mem_append_right))).trans rfl) rfl ?_)
  first | refine J.skip rfl rfl rfl rfl rfl ?_ | refine J.skipU rfl rfl rfl rfl ?_ | (refine J.unguard rfl rfl rfl ?_; refine J.indexAddrS Ty.el53 Ty.s79 rfl rfl (by omega) (by omega) rfl ?_)
  first | refine J.skip rfl rfl rfl rfl rfl ?_ | refine J.skipU rfl rfl rfl rfl ?_ | (refine J.unguard rfl rfl rfl ?_; refine J.fieldAddr Ty.fd79_1 rfl rfl ?_)
  first | refine J.skip rfl rfl rfl rfl rfl ?_ | refine J.skipU rfl rfl rfl rfl ?_ | (refine J.unguard rfl rfl rfl ?_; refine J.fieldAddr Ty.fd77_1 rfl rfl ?_)
  first | refine J.skip rfl rfl rfl rfl rfl ?_ | refine J.skipU rfl rfl rfl rfl ?_ | (refine J.unguard rfl rfl rfl ?_; refine J.fieldAddr Ty.fd31_1 rfl rfl ?_)
  first | refine J.skip rfl rfl rfl rfl rfl ?_ | refine J.skipU rfl rfl rfl rfl ?_ | (refine J.unguard rfl rfl rfl ?_; refine J.load1 (v := iV 1) Ty.a2 rfl (fun w1 hw => Cells.get (i := 18) (rowH_at (i := 0) (hzo ▸ vec_rowM hz.1 hw (fun q hq => by first | (simp [hq]; done) | (simp at hq; simp [hq]; done) | (simp at hq; subst hq; simp)) : Row w1 (.slice (some ⟨qo, 0, none⟩) 1 czo) 1 (fHp [((2 : Int), (⟨zI, 1⟩ : PV))])) rfl rfl) rfl rfl) rfl ?_)
  first | refine J.skip rfl rfl rfl rfl rfl ?_ | refine J.skipU rfl rfl rfl rfl ?_ | (refine J.unguard rfl rfl rfl ?_; refine J.bin rfl rfl rfl rfl ?_; refine J.name 53 rfl (show _ = Value.bool true by rfl) ?_)
  (first | refine J.pickT rfl rfl rfl ?_ | refine J.pickF rfl rfl rfl ?_)
  refine J.move rfl rfl ?_
  first | refine J.skip rfl rfl rfl rfl rfl ?_ | refine J.skipU rfl rfl rfl rfl ?_ | (refine J.unguard rfl rfl rfl ?_; refine J.fieldAddr Ty.fd55_1 rfl rfl ?_)
  first | refine J.skip rfl rfl rfl rfl rfl ?_ | refine J.skipU rfl rfl rfl rfl ?_ | (refine J.unguard rfl rfl rfl ?_; refine J.load1 (v := .slice (some ⟨ql, 0, none⟩) 1 czl) Ty.a43 rfl (fun w1 hw => by rw [← (show z.vl = .slice (some ⟨ql, 0, none⟩) 1 czl from hzl)]; exact (cell_of (hw.own ((b4, cb [z.vo, z.vl] 55)) (by repeat first | exact .head _ | apply List.Mem.tail | apply List.mem_append_right))).trans rfl) rfl ?_)
  first | refine J.skip rfl rfl rfl rfl rfl ?_ | refine J.skipU rfl rfl rfl rfl ?_ | (refine J.unguard rfl rfl rfl ?_; refine J.lenS rfl Ty.u43 rfl rfl ?_)
  first | refine J.skip rfl rfl rfl rfl rfl ?_ | refine J.skipU rfl rfl rfl rfl ?_ | (refine J.unguard rfl rfl rfl ?_; refine J.bin rfl rfl rfl rfl ?_; refine J.name 59 rfl (show _ = Value.bool true by rfl) ?_)
  (first | refine J.pickT rfl rfl rfl ?_ | refine J.pickF rfl rfl rfl ?_)
  refine J.move rfl rfl ?_
  first | refine J.skip rfl rfl rfl rfl rfl ?_ | refine J.skipU rfl rfl rfl rfl ?_ | (refine J.unguard rfl rfl rfl ?_; refine J.fieldAddr Ty.fd55_1 rfl rfl ?_)
  first | refine J.skip rfl rfl rfl rfl rfl ?_ | refine J.skipU rfl rfl rfl rfl ?_ | (refine J.unguard rfl rfl rfl ?_; refine J.load1 (v := .slice (some ⟨ql, 0, none⟩) 1 czl) Ty.a43 rfl (fun w1 hw => by rw [← (show z.vl = .slice (some ⟨ql, 0, none⟩) 1 czl from hzl)]; exact (cell_of (hw.own ((b4, cb [z.vo, z.vl] 55)) (by repeat first | exact .head _ | apply List.Mem.tail | apply List.mem_append_right))).trans rfl) rfl ?_)
  first | refine J.skip rfl rfl rfl rfl rfl ?_ | refine J.skipU rfl rfl rfl rfl ?_ | (refine J.unguard rfl rfl rfl ?_; refine J.indexAddrS Ty.el43 Ty.s31 rfl rfl (by omega) (by omega) rfl ?_)
  first | refine J.skip rfl rfl rfl rfl rfl ?_ | refine J.skipU rfl rfl rfl rfl ?_ | (refine J.unguard rfl rfl rfl ?_; refine J.fieldAddr Ty.fd31_1 rfl rfl ?_)
  first | refine J.skip rfl rfl rfl rfl rfl ?_ | refine J.skipU rfl rfl rfl rfl ?_ | (refine J.unguard rfl rfl rfl ?_; refine J.load1 (v := iV 2) Ty.a2 rfl (fun w1 hw => Cells.get (i := 16) (rowP_at (i := 0) (hzl ▸ vec_rowM hz.2 hw (fun q hq => by first | (simp [hq]; done) | (simp at hq; simp [hq]; done) | (simp at hq; subst hq; simp)) : Row w1 (.slice (some ⟨ql, 0, none⟩) 1 czl) 1 (fP [(⟨zI, 2⟩ : PV)])) rfl rfl) rfl rfl) rfl ?_)
  first | refine J.skip rfl rfl rfl rfl rfl ?_ | refine J.skipU rfl rfl rfl rfl ?_ | (refine J.unguard rfl rfl rfl ?_; refine J.bin rfl rfl rfl rfl ?_; refine J.name 67 rfl (show _ = Value.bool true by rfl) ?_)
  (first | refine J.pickT rfl rfl rfl ?_ | refine J.pickF rfl rfl rfl ?_)
  refine J.move rfl rfl ?_
  first | refine J.skip rfl rfl rfl rfl rfl ?_ | refine J.skipU rfl rfl rfl rfl ?_ | (refine J.unguard rfl rfl rfl ?_; refine J.move rfl rfl ?_)
  first | refine J.skip rfl rfl rfl rfl rfl ?_ | refine J.skipU rfl rfl rfl rfl ?_ | (refine J.unguard rfl rfl rfl ?_; refine J.callB (v := .int .i64 0) (fun w1 w2 hw hb => hw.step hb) Ty.bd32 rfl rfl (fun w1 hw => len_spec t1 m1 128 [] es3 ck w1 (St.owns (l1 := [(t1, tabO 128 m1), (m1, .map es3 ck)]) (l := (b4, cb [z.vo, z.vl] 55) :: (b3, cb [y.vo, y.vl] 55) :: (z.lo ++ (z.ll ++ (y.lo ++ (y.ll ++ ((b12, cb (cE ey1 ++ cE ey2) 33) :: (rt, rtabO vr 128) :: lr)))))) (hw.perm (by (refine perm_cnt (fun _ => ?_)); simp only [cntB_append, cntB_cons, cntB_nil, Nat.add_zero, Nat.zero_add]; try ac_rfl))) hT3) ?_)
  first | refine J.skip rfl rfl rfl rfl rfl ?_ | refine J.skipU rfl rfl rfl rfl ?_ | (refine J.unguard rfl rfl rfl ?_; refine J.bin rfl rfl rfl rfl ?_; refine J.name 72 rfl (show _ = Value.bool true by rfl) ?_)
  (first | refine J.pickT rfl rfl rfl ?_ | refine J.pickF rfl rfl rfl ?_)
  refine J.assign rfl rfl ?_
  refine J.nil ?_
  refine JX.thenN (hK6 _ _ ?_)
  refine JC.ret ?_
  refine JX.ret1 rfl rfl (fun w hw => ?_)
  exact ⟨rfl, (hw.drop (List.nil_sublist _)).below⟩

end Go.Proofs.YtohldionclgljaaGreat
