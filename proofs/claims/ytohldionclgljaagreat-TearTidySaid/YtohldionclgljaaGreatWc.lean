/-
  Friends, Spare, First of the program and of the document: contracts.
-/
import Derived.Test.YtohldionclgljaaGreatLe
import Derived.Test.YtohldionclgljaaGreatPd
namespace Go.Proofs.YtohldionclgljaaGreat
open Go.J Go.RowKit
set_option linter.unusedVariables false
set_option linter.unusedSimpArgs false
set_option maxRecDepth 8000
/-- an own path's other end -/
def othE (x : EV) : IDV := (otherV x).1
def frI (O : List EV) (me : IDV) : List IDV := sortI (O.map othE) me
noncomputable def wnI (O : List EV) (me : IDV) (half : Int) : List IDV := wantI me (frI O me) half
noncomputable def spP (O : List EV) (W : List IDV) : List PV := (O.filter (fun x => !decide (othE x ∈ W))).map (·.p)
def fiE (O : List EV) (id : IDV) : Option EV := O.find? (fun x => decide (othE x = id))
theorem map_step {O : List EV} {i : Nat} {x : EV} (h : O[i]? = some x) : (O.take (i + 1)).map othE = (O.take i).map othE ++ [othE x] := by
  obtain ⟨hi, rfl⟩ := List.getElem?_eq_some_iff.1 h
  rw [take_add_one hi, List.map_append]
  rfl
theorem sp_yes {O : List EV} {W : List IDV} {i : Nat} {x : EV} (h : O[i]? = some x) (hx : decide (othE x ∈ W) = false) : spP (O.take (i + 1)) W = spP (O.take i) W ++ [x.p] := by
  obtain ⟨hi, rfl⟩ := List.getElem?_eq_some_iff.1 h
  unfold spP
  rw [take_add_one hi, List.filter_append, List.map_append, List.filter_cons, if_pos (by rw [hx]; rfl)]
  rfl
theorem sp_no {O : List EV} {W : List IDV} {i : Nat} {x : EV} (h : O[i]? = some x) (hx : decide (othE x ∈ W) = true) : spP (O.take (i + 1)) W = spP (O.take i) W := by
  obtain ⟨hi, rfl⟩ := List.getElem?_eq_some_iff.1 h
  unfold spP
  rw [take_add_one hi, List.filter_append, List.map_append, List.filter_cons, if_neg (by rw [hx]; decide)]
  simp
theorem sp_le (O : List EV) (W : List IDV) : (spP O W).length ≤ O.length := by
  unfold spP
  rw [List.length_map]
  exact List.length_filter_le _ _
theorem fI_snoc {K : List IDV} {c : IDV} {v : Value} {l : List (Nat × Obj)} (h : Vec 24 16 v (K.length + 1) (fI K ++ cI c) l) : Vec 24 16 v (K ++ [c]).length (fI (K ++ [c])) l := by
  rw [List.length_append, show fI (K ++ [c]) = fI K ++ cI c from by simp [fI]]
  exact h

set_option maxHeartbeats 1000000 in
theorem friends_spec (t mb : Nat) (most : Int) (L : List EV) (es : Array MapEntry) (clock : Nat) (w : World) (ht : w.heap[t]? = some (tabO most mb)) (hmm : w.heap[mb]? = some (.map es clock)) (hT : Tab L es clock) (hn : L.length ≤ 1099511627776) (me : IDV) :
    Calls Tryz.prog 10 [.pointer (some ⟨t, 0, none⟩), .agg (cI me).toArray].toArray w fun r w' => ∃ x : Value × List (Nat × Obj), r = .returned x.1 ∧ Vec 24 16 x.1 (frI ((ordE L).filter ownB) me).length (fI (frI ((ordE L).filter ownB) me)) x.2 ∧ St w [] x.2 w' := by
  have hol := List.length_filter_le ownB (ordE L)
  have hpl := (ordE_perm L).length_eq
  have hOok : ∀ x, x ∈ (ordE L).filter ownB → okE x := fun x hx => hT.ok x ((ordE_perm L).mem_iff.1 (List.mem_filter.1 hx).1)
  refine calls_of_J (args := [.pointer (some ⟨t, 0, none⟩), .agg (cI me).toArray]) (e := [(0, .pointer (some ⟨t, 0, none⟩)), (1, .agg (cI me).toArray)]) Tryz.func10 rfl rfl ⟨rfl, rfl, trivial⟩ (St.start w) ?_
  refine JC.seq (fun K0 hK0 => ?_)
  refine JC.region ?_
  refine J.box rfl rfl rfl (fun b3 => ?_)
  refine J.assign rfl rfl ?_
  refine J.nil ?_
  refine JX.thenN (hK0 _ _ ?_)
  refine JC.seq (fun K1 hK1 => ?_)
  refine JC.region ?_
  refine J.assign rfl rfl ?_
  refine J.nil ?_
  refine JX.thenN (hK1 _ _ ?_)
  refine JC.seq (fun K2 hK2 => ?_)
  refine JC.seq (fun K3 hK3 => ?_)
  refine JC.region ?_
  refine J.move rfl rfl ?_
  refine J.perm ([] ++ ((b3, cb (cI me) 24) :: [])) (.refl _) ?_
  refine J.callS (α := Value × List (Nat × Obj)) (V := (·.1)) (Pr := fun x => Vec 33 51 x.1 (((ordE L).filter ownB)).length (fE (((ordE L).filter ownB))) x.2) (L := (·.2)) (l1 := []) Ty.bd20 rfl rfl (fun w1 hw => own_spec t mb most L es clock w1 (by rw [hw.keep t (lt_of_some ht) (by simp)]; exact ht) (by rw [hw.keep mb (lt_of_some hmm) (by simp)]; exact hmm) hT hn) (fun x hvo => ?_)
  obtain ⟨vo, lo⟩ := x
  simp only at hvo ⊢
  obtain ⟨ao, co, rfl, hco⟩ := hvo.form
  refine J.lenS rfl Ty.u22 rfl rfl ?_
  refine J.move rfl rfl ?_
  refine J.nil ?_
  refine JX.thenN (hK3 _ _ ?_)
  refine JC.block ?_
  refine JC.conseq (JC.cov (f := (fun st => [(3, .pointer (some ⟨b3, 0, none⟩)), (5, st.2.1), (12, .slice ao ((ordE L).filter ownB).length co), (13, .int .i64 ((((ordE L).filter ownB).length : Nat) : Int)), (14, .int .i64 ((st.1 : Nat) : Int))]) ((0, .slice none 0 0, []) : Nat × Value × List (Nat × Obj))) ⟨rfl, rfl, rfl, rfl, rfl, trivial⟩ (JC.loop (α := Nat × Value × List (Nat × Obj)) (fun st => [(3, .pointer (some ⟨b3, 0, none⟩)), (5, st.2.1), (12, .slice ao ((ordE L).filter ownB).length co), (13, .int .i64 ((((ordE L).filter ownB).length : Nat) : Int)), (14, .int .i64 ((st.1 : Nat) : Int))]) (fun st w' => (st.1 ≤ ((ordE L).filter ownB).length ∧ Vec 24 16 st.2.1 (((((ordE L).filter ownB).take st.1).map othE)).length (fI (((((ordE L).filter ownB).take st.1).map othE))) st.2.2) ∧ St w [] ((b3, cb (cI me) 24) :: (st.2.2 ++ lo)) w') (fun st => ((ordE L).filter ownB).length - st.1) ((0, .slice none 0 0, []) : Nat × Value × List (Nat × Obj)) (fun st => ?_))) (fun w hw => ⟨⟨Nat.zero_le _, Vec.nil _ _⟩, hw.perm (by (refine perm_cnt (fun _ => ?_)); simp only [cntB_append, cntB_cons, cntB_nil, Nat.add_zero, Nat.zero_add]; try ac_rfl)⟩)
  obtain ⟨i, v5, l5⟩ := st
  refine JC.pr (fun hx1 => ?_)
  obtain ⟨hi, hv5⟩ := hx1
  simp only at hi hv5 ⊢
  have hml : ((((ordE L).filter ownB).take i).map othE).length ≤ i := by rw [List.length_map, List.length_take]; omega
  refine JC.seq (fun K4 hK4 => ?_)
  refine JC.region ?_
  refine J.bin rfl rfl rfl rfl ?_
  refine J.nil ?_
  refine JX.thenN (hK4 _ _ ?_)
  refine JC.seq (fun K5 hK5 => ?_)
  refine JC.cond rfl (fun h0 => ?_) (fun h0 => ?_)
  · skip
    have hlt : i < ((ordE L).filter ownB).length := by simp at h0; omega
    obtain ⟨qo, rfl⟩ : ∃ q, ao = some ⟨q, 0, none⟩ := by
      obtain ⟨q, sp, h9, _⟩ := vec_pos hvo (by omega)
      exact ⟨q, h9⟩
    obtain ⟨xe, hxe⟩ : ∃ x, ((ordE L).filter ownB)[i]? = some x := ⟨_, List.getElem?_eq_getElem hlt⟩
    have hxo := hOok xe (List.mem_of_getElem? hxe)
    refine JC.skip ?_
    refine JX.thenN (hK5 _ _ ?_)
    refine JC.seq (fun K6 hK6 => ?_)
    refine JC.block ?_
    refine JC.seq (fun K7 hK7 => ?_)
    refine JC.region ?_
    refine J.indexAddrS Ty.el22 Ty.s33 rfl rfl (by omega) (by omega) rfl ?_
    refine J.loadA (vs := cE xe) Ty.a33 Ty.s33 rfl rfl (fun w1 hw => rowE_at (o := 0) (vec_rowM hvo hw (fun q hq => by first | (simp [hq]; done) | (simp at hq; simp [hq]; done) | (simp at hq; subst hq; simp))) hxe (by omega)) rfl ?_
    refine J.alloc Ty.zE_ rfl rfl (fun b7 => ?_)
    refine J.storeW (cs := cE zE) (vs := cE xe) Ty.s33 rfl rfl rfl rfl rfl (one_cE _) .here ?_
    refine J.nil ?_
    refine JX.thenN (hK7 _ _ ?_)
    refine JC.seq (fun K8 hK8 => ?_)
    refine JC.region ?_
    refine J.loadOA (vs := cE xe) Ty.a33 Ty.s33 rfl (.head _) rfl rfl rfl ?_
    refine J.callB (v := .tuple #[.agg (cI (otherV xe).1).toArray, .int .i64 (otherV xe).2.1, .bool (otherV xe).2.2]) (fun w1 w2 hw hb => hw.step hb) Ty.bd21 rfl rfl (fun w1 hw => other_spec xe w1) ?_
    refine J.move rfl rfl ?_
    refine J.extract rfl rfl rfl ?_
    refine J.extract rfl rfl rfl ?_
    refine J.extract rfl rfl rfl ?_
    refine J.alloc Ty.zID rfl rfl (fun b8 => ?_)
    refine J.storeW (cs := cI zI) (vs := cI (othE xe)) Ty.s24 rfl rfl rfl rfl rfl (one_cI _) .here ?_
    refine J.assign rfl rfl ?_
    refine J.assign rfl rfl ?_
    refine J.nil ?_
    refine JX.thenN (hK8 _ _ ?_)
    refine JC.region ?_
    refine J.move rfl rfl ?_
    refine J.loadOA (vs := cI (othE xe)) Ty.a24 Ty.s24 rfl (.head _) rfl rfl rfl ?_
    refine J.buildSl (cs := cI (othE xe)) Ty.el39 Ty.s24 Ty.zID rfl rfl rfl rfl (by kernel_rfl) rfl rfl (fun b26 => ?_)
    refine J.perm (l5 ++ ((b26, cb (cI (othE xe)) 24) :: (b8, cb (cI (othE xe)) 24) :: (b7, cb (cE xe) 33) :: (b3, cb (cI me) 24) :: lo)) (by (refine perm_cnt (fun _ => ?_)); simp only [cntB_append, cntB_cons, cntB_nil, Nat.add_zero, Nat.zero_add]; try ac_rfl) ?_
    refine J.append (lp := l5) (xs := fI ((((ordE L).filter ownB).take i).map othE)) (ys := cI (othE xe)) (k := ((((ordE L).filter ownB).take i).map othE).length) (m := 1) Ty.el39 Ty.s24 Ty.b24 Ty.zID rfl (.inl ⟨24, Ty.u39⟩) rfl rfl hv5 (fun w3 hw3 => .inl (Row.own (cs := cI (othE xe)) (tb := 24) (fr := (0, 0)) hw3 (by repeat first | exact .head _ | apply List.Mem.tail | apply List.mem_append_right) rfl (Nat.le_refl _))) rfl (one_cI _) (by omega) (by omega) rfl (fun vn ln hvn => ?_)
    refine J.assign rfl rfl ?_
    refine J.nil ?_
    refine JX.blockN ?_
    refine JX.thenN (hK6 _ _ ?_)
    refine JC.region ?_
    (first | refine J.addN rfl rfl (by omega) (by omega) rfl ?_ | refine J.bin rfl rfl rfl rfl ?_)
    refine J.move rfl rfl ?_
    refine J.nil ?_
    refine JX.thenN ?_
    refine JX.again ((i + 1, vn, ln) : Nat × Value × List (Nat × Obj)) ?_ ?_ ?_
    · simp only; omega
    · exact ⟨rfl, rfl, rfl, rfl, rfl, trivial⟩
    · exact fun w1 hw => ⟨⟨hlt, by simp only; rw [map_step hxe]; exact fI_snoc hvn⟩, (hw.perm (l' := [(b26, cb (cI (othE xe)) 24), (b8, cb (cI (othE xe)) 24)] ++ ((b7, cb (cE xe) 33) :: (b3, cb (cI me) 24) :: (ln ++ lo))) (by (refine perm_cnt (fun _ => ?_)); simp only [cntB_append, cntB_cons, cntB_nil, Nat.add_zero, Nat.zero_add]; try ac_rfl)).drop (.cons _ (.cons _ (.cons _ (List.Sublist.refl _))))⟩
  · skip
    have hge : i = ((ordE L).filter ownB).length := by simp at h0; omega
    subst hge
    rw [List.take_length] at *
    have hml2 : (((ordE L).filter ownB).map othE).length = ((ordE L).filter ownB).length := List.length_map _
    refine JC.exit ?_
    refine JX.thenE ?_
    refine JX.thenE ?_
    refine JX.blockE ?_
    refine JX.thenN (hK2 _ _ ?_)
    refine JC.seq (fun K9 hK9 => ?_)
    refine JC.region ?_
    refine J.loadOA (vs := cI me) Ty.a24 Ty.s24 rfl (.head _) rfl rfl rfl ?_
    refine J.move rfl rfl ?_
    refine J.perm ([] ++ ((b3, cb (cI me) 24) :: (l5 ++ lo))) (.refl _) ?_
    refine J.callS (α := Value × List (Nat × Obj)) (V := (·.1)) (Pr := fun x => Vec 24 16 x.1 (frI ((ordE L).filter ownB) me).length (fI (frI ((ordE L).filter ownB) me)) x.2) (L := (·.2)) (l1 := []) Ty.bd33 rfl rfl (fun w1 hw => (sorted_spec me _ (((ordE L).filter ownB).map othE) w1 (vec_rowM hv5 hw (fun q hq => by first | (simp [hq]; done) | (simp at hq; simp [hq]; done) | (simp at hq; subst hq; simp))) (by omega))) (fun x hvs => ?_)
    obtain ⟨vs, ls⟩ := x
    simp only at hvs ⊢
    refine J.assign rfl rfl ?_
    refine J.nil ?_
    refine JX.thenN (hK9 _ _ ?_)
    refine JC.ret ?_
    refine JX.ret1 rfl rfl (fun w hw => ?_)
    exact ⟨(vs, ls), rfl, hvs, hw.drop (List.sublist_append_left _ _)⟩

set_option maxHeartbeats 1000000 in
theorem rfriends_spec (rt : Nat) (v : Value) (most : Int) (R : List EV) (w : World) (hrt : w.heap[rt]? = some (rtabO v most)) (hrv : Row w v R.length (fE R)) (hR : ∀ x, x ∈ R → okE x) (hrl : R.length ≤ 1099511627776) (me : IDV) :
    Calls Tryz.prog 11 [.pointer (some ⟨rt, 0, none⟩), .agg (cI me).toArray].toArray w fun r w' => ∃ x : Value × List (Nat × Obj), r = .returned x.1 ∧ Vec 24 16 x.1 (frI (R.filter ownB) me).length (fI (frI (R.filter ownB) me)) x.2 ∧ St w [] x.2 w' := by
  have hol := List.length_filter_le ownB R
  have hOok : ∀ x, x ∈ R.filter ownB → okE x := fun x hx => hR x (List.mem_filter.1 hx).1
  refine calls_of_J (args := [.pointer (some ⟨rt, 0, none⟩), .agg (cI me).toArray]) (e := [(0, .pointer (some ⟨rt, 0, none⟩)), (1, .agg (cI me).toArray)]) Tryz.func11 rfl rfl ⟨rfl, rfl, trivial⟩ (St.start w) ?_
  refine JC.seq (fun K0 hK0 => ?_)
  refine JC.region ?_
  refine J.box rfl rfl rfl (fun b3 => ?_)
  refine J.assign rfl rfl ?_
  refine J.nil ?_
  refine JX.thenN (hK0 _ _ ?_)
  refine JC.seq (fun K1 hK1 => ?_)
  refine JC.region ?_
  refine J.assign rfl rfl ?_
  refine J.nil ?_
  refine JX.thenN (hK1 _ _ ?_)
  refine JC.seq (fun K2 hK2 => ?_)
  refine JC.region ?_
  refine J.move rfl rfl ?_
  refine J.perm ([] ++ ((b3, cb (cI me) 24) :: [])) (.refl _) ?_
  refine J.callS (α := Value × List (Nat × Obj)) (V := (·.1)) (Pr := fun x => Vec 33 51 x.1 ((R.filter ownB)).length (fE ((R.filter ownB))) x.2) (L := (·.2)) (l1 := []) Ty.bd28 rfl rfl (fun w1 hw => rown_spec rt v most R w1 (by rw [hw.keep rt (lt_of_some hrt) (by simp)]; exact hrt) (hrv.below (hw.drop (List.nil_sublist _)).below) hR hrl) (fun x hvo => ?_)
  obtain ⟨vo, lo⟩ := x
  simp only at hvo ⊢
  obtain ⟨ao, co, rfl, hco⟩ := hvo.form
  refine J.assign rfl rfl ?_
  refine J.nil ?_
  refine JX.thenN (hK2 _ _ ?_)
  refine JC.seq (fun K3 hK3 => ?_)
  refine JC.seq (fun K4 hK4 => ?_)
  refine JC.region ?_
  refine J.assign rfl rfl ?_
  refine J.nil ?_
  refine JX.thenN (hK4 _ _ ?_)
  refine JC.block ?_
  refine JC.conseq (JC.cov (f := (fun st => [(3, .pointer (some ⟨b3, 0, none⟩)), (5, st.2.1), (6, .slice ao (R.filter ownB).length co), (7, .int .i64 ((st.1 : Nat) : Int))]) ((0, .slice none 0 0, []) : Nat × Value × List (Nat × Obj))) ⟨rfl, rfl, rfl, rfl, trivial⟩ (JC.loop (α := Nat × Value × List (Nat × Obj)) (fun st => [(3, .pointer (some ⟨b3, 0, none⟩)), (5, st.2.1), (6, .slice ao (R.filter ownB).length co), (7, .int .i64 ((st.1 : Nat) : Int))]) (fun st w' => (st.1 ≤ (R.filter ownB).length ∧ Vec 24 16 st.2.1 ((((R.filter ownB).take st.1).map othE)).length (fI ((((R.filter ownB).take st.1).map othE))) st.2.2) ∧ St w [] ((b3, cb (cI me) 24) :: (st.2.2 ++ lo)) w') (fun st => (R.filter ownB).length - st.1) ((0, .slice none 0 0, []) : Nat × Value × List (Nat × Obj)) (fun st => ?_))) (fun w hw => ⟨⟨Nat.zero_le _, Vec.nil _ _⟩, hw.perm (by (refine perm_cnt (fun _ => ?_)); simp only [cntB_append, cntB_cons, cntB_nil, Nat.add_zero, Nat.zero_add]; try ac_rfl)⟩)
  obtain ⟨i, v5, l5⟩ := st
  refine JC.pr (fun hx1 => ?_)
  obtain ⟨hi, hv5⟩ := hx1
  simp only at hi hv5 ⊢
  have hml : (((R.filter ownB).take i).map othE).length ≤ i := by rw [List.length_map, List.length_take]; omega
  refine JC.seq (fun K5 hK5 => ?_)
  refine JC.seq (fun K6 hK6 => ?_)
  refine JC.region ?_
  refine J.move rfl rfl ?_
  refine J.move rfl rfl ?_
  refine J.lenS rfl Ty.u22 rfl rfl ?_
  refine J.bin rfl rfl rfl rfl ?_
  refine J.nil ?_
  refine JX.thenN (hK6 _ _ ?_)
  refine JC.cond rfl (fun h0 => ?_) (fun h0 => ?_)
  · skip
    have hlt : i < (R.filter ownB).length := by simp at h0; omega
    obtain ⟨qo, rfl⟩ : ∃ q, ao = some ⟨q, 0, none⟩ := by
      obtain ⟨q, sp, h9, _⟩ := vec_pos hvo (by omega)
      exact ⟨q, h9⟩
    obtain ⟨xe, hxe⟩ : ∃ x, (R.filter ownB)[i]? = some x := ⟨_, List.getElem?_eq_getElem hlt⟩
    have hxo := hOok xe (List.mem_of_getElem? hxe)
    refine JC.skip ?_
    refine JX.thenN (hK5 _ _ ?_)
    refine JC.seq (fun K7 hK7 => ?_)
    refine JC.block ?_
    refine JC.seq (fun K8 hK8 => ?_)
    refine JC.region ?_
    refine J.move rfl rfl ?_
    refine J.move rfl rfl ?_
    refine J.indexAddrS Ty.el22 Ty.s33 rfl rfl (by omega) (by omega) rfl ?_
    refine J.loadA (vs := cE xe) Ty.a33 Ty.s33 rfl rfl (fun w1 hw => rowE_at (o := 0) (vec_rowM hvo hw (fun q hq => by first | (simp [hq]; done) | (simp at hq; simp [hq]; done) | (simp at hq; subst hq; simp))) hxe (by omega)) rfl ?_
    refine J.callB (v := .tuple #[.agg (cI (otherV xe).1).toArray, .int .i64 (otherV xe).2.1, .bool (otherV xe).2.2]) (fun w1 w2 hw hb => hw.step hb) Ty.bd29 rfl rfl (fun w1 hw => rother_spec xe w1) ?_
    refine J.move rfl rfl ?_
    refine J.extract rfl rfl rfl ?_
    refine J.extract rfl rfl rfl ?_
    refine J.extract rfl rfl rfl ?_
    refine J.alloc Ty.zID rfl rfl (fun b8 => ?_)
    refine J.storeW (cs := cI zI) (vs := cI (othE xe)) Ty.s24 rfl rfl rfl rfl rfl (one_cI _) .here ?_
    refine J.assign rfl rfl ?_
    refine J.assign rfl rfl ?_
    refine J.nil ?_
    refine JX.thenN (hK8 _ _ ?_)
    refine JC.region ?_
    refine J.move rfl rfl ?_
    refine J.loadOA (vs := cI (othE xe)) Ty.a24 Ty.s24 rfl (.head _) rfl rfl rfl ?_
    refine J.buildSl (cs := cI (othE xe)) Ty.el39 Ty.s24 Ty.zID rfl rfl rfl rfl (by kernel_rfl) rfl rfl (fun b30 => ?_)
    refine J.perm (l5 ++ ((b30, cb (cI (othE xe)) 24) :: (b8, cb (cI (othE xe)) 24) :: (b3, cb (cI me) 24) :: lo)) (by (refine perm_cnt (fun _ => ?_)); simp only [cntB_append, cntB_cons, cntB_nil, Nat.add_zero, Nat.zero_add]; try ac_rfl) ?_
    refine J.append (lp := l5) (xs := fI (((R.filter ownB).take i).map othE)) (ys := cI (othE xe)) (k := (((R.filter ownB).take i).map othE).length) (m := 1) Ty.el39 Ty.s24 Ty.b24 Ty.zID rfl (.inl ⟨24, Ty.u39⟩) rfl rfl hv5 (fun w3 hw3 => .inl (Row.own (cs := cI (othE xe)) (tb := 24) (fr := (0, 0)) hw3 (by repeat first | exact .head _ | apply List.Mem.tail | apply List.mem_append_right) rfl (Nat.le_refl _))) rfl (one_cI _) (by omega) (by omega) rfl (fun vn ln hvn => ?_)
    refine J.assign rfl rfl ?_
    refine J.nil ?_
    refine JX.blockN ?_
    refine JX.thenN (hK7 _ _ ?_)
    refine JC.region ?_
    refine J.move rfl rfl ?_
    (first | refine J.addN rfl rfl (by omega) (by omega) rfl ?_ | refine J.bin rfl rfl rfl rfl ?_)
    refine J.assign rfl rfl ?_
    refine J.nil ?_
    refine JX.thenN ?_
    refine JX.again ((i + 1, vn, ln) : Nat × Value × List (Nat × Obj)) ?_ ?_ ?_
    · simp only; omega
    · exact ⟨rfl, rfl, rfl, rfl, trivial⟩
    · exact fun w1 hw => ⟨⟨hlt, by simp only; rw [map_step hxe]; exact fI_snoc hvn⟩, (hw.perm (l' := [(b30, cb (cI (othE xe)) 24), (b8, cb (cI (othE xe)) 24)] ++ ((b3, cb (cI me) 24) :: (ln ++ lo))) (by (refine perm_cnt (fun _ => ?_)); simp only [cntB_append, cntB_cons, cntB_nil, Nat.add_zero, Nat.zero_add]; try ac_rfl)).drop (.cons _ (.cons _ (List.Sublist.refl _)))⟩
  · skip
    have hge : i = (R.filter ownB).length := by simp at h0; omega
    subst hge
    rw [List.take_length] at *
    have hml2 : ((R.filter ownB).map othE).length = (R.filter ownB).length := List.length_map _
    refine JC.exit ?_
    refine JX.thenE ?_
    refine JX.thenE ?_
    refine JX.blockE ?_
    refine JX.thenN (hK3 _ _ ?_)
    refine JC.seq (fun K9 hK9 => ?_)
    refine JC.region ?_
    refine J.loadOA (vs := cI me) Ty.a24 Ty.s24 rfl (.head _) rfl rfl rfl ?_
    refine J.move rfl rfl ?_
    refine J.perm ([] ++ ((b3, cb (cI me) 24) :: (l5 ++ lo))) (.refl _) ?_
    refine J.callS (α := Value × List (Nat × Obj)) (V := (·.1)) (Pr := fun x => Vec 24 16 x.1 (frI (R.filter ownB) me).length (fI (frI (R.filter ownB) me)) x.2) (L := (·.2)) (l1 := []) Ty.bd34 rfl rfl (fun w1 hw => (rsorted_spec me _ ((R.filter ownB).map othE) w1 (vec_rowM hv5 hw (fun q hq => by first | (simp [hq]; done) | (simp at hq; simp [hq]; done) | (simp at hq; subst hq; simp))) (by omega))) (fun x hvs => ?_)
    obtain ⟨vs, ls⟩ := x
    simp only at hvs ⊢
    refine J.assign rfl rfl ?_
    refine J.nil ?_
    refine JX.thenN (hK9 _ _ ?_)
    refine JC.ret ?_
    refine JX.ret1 rfl rfl (fun w hw => ?_)
    exact ⟨(vs, ls), rfl, hvs, hw.drop (List.sublist_append_left _ _)⟩

theorem cmpI_eq0 (a b : IDV) : cmpI a b = 0 ↔ a = b := by
  have h := cmpI_ne a b
  constructor
  · intro e
    by_cases h2 : a = b
    · exact h2
    · exact absurd e (h.2 h2)
  · intro e
    by_cases h2 : cmpI a b = 0
    · exact h2
    · exact absurd e (h.1 h2)
theorem fi_no {O : List EV} {id : IDV} (h : ∀ x, x ∈ O → othE x ≠ id) : fiE O id = none := List.find?_eq_none.2 fun x hx => by simpa using h x hx
theorem fi_yes {O : List EV} {id : IDV} {i : Nat} {x : EV} (h : O[i]? = some x) (hb : ∀ y, y ∈ O.take i → othE y ≠ id) (hx : othE x = id) : fiE O id = some x := by
  obtain ⟨hi, hx0⟩ := List.getElem?_eq_some_iff.1 h
  have e : O = O.take i ++ x :: O.drop (i + 1) := by rw [← hx0, List.getElem_cons_drop, List.take_append_drop]
  unfold fiE
  rw [e, List.find?_append, List.find?_eq_none.2 (fun y hy => by simpa using hb y hy), List.find?_cons]
  simp [hx]
theorem fi_step {O : List EV} {id : IDV} {i : Nat} {x : EV} (h : O[i]? = some x) (hb : ∀ y, y ∈ O.take i → othE y ≠ id) (hx : othE x ≠ id) : ∀ y, y ∈ O.take (i + 1) → othE y ≠ id := by
  obtain ⟨hi, rfl⟩ := List.getElem?_eq_some_iff.1 h
  rw [take_add_one hi]
  intro y hy
  rcases List.mem_append.1 hy with hy | hy
  · exact hb y hy
  · simp at hy; subst hy; exact hx

set_option maxHeartbeats 1000000 in
theorem first_spec (t mb : Nat) (most : Int) (L : List EV) (es : Array MapEntry) (clock : Nat) (w : World) (ht : w.heap[t]? = some (tabO most mb)) (hmm : w.heap[mb]? = some (.map es clock)) (hT : Tab L es clock) (hn : L.length ≤ 1099511627776) (id : IDV) :
    Calls Tryz.prog 6 [.pointer (some ⟨t, 0, none⟩), .agg (cI id).toArray].toArray w fun r w' => r = .returned (.tuple #[.agg (cE ((fiE ((ordE L).filter ownB) id).getD zE)).toArray, .bool (fiE ((ordE L).filter ownB) id).isSome]) ∧ Bel w w' := by
  have hol := List.length_filter_le ownB (ordE L)
  have hpl := (ordE_perm L).length_eq
  have hOok : ∀ x, x ∈ (ordE L).filter ownB → okE x := fun x hx => hT.ok x ((ordE_perm L).mem_iff.1 (List.mem_filter.1 hx).1)
  refine calls_of_J (args := [.pointer (some ⟨t, 0, none⟩), .agg (cI id).toArray]) (e := [(0, .pointer (some ⟨t, 0, none⟩)), (1, .agg (cI id).toArray)]) Tryz.func6 rfl rfl ⟨rfl, rfl, trivial⟩ (St.start w) ?_
  refine JC.seq (fun K0 hK0 => ?_)
  refine JC.region ?_
  refine J.box rfl rfl rfl (fun b3 => ?_)
  refine J.alloc Ty.zE_ rfl rfl (fun b4 => ?_)
  refine J.assign rfl rfl ?_
  refine J.nil ?_
  refine JX.thenN (hK0 _ _ ?_)
  refine JC.seq (fun K1 hK1 => ?_)
  refine JC.seq (fun K2 hK2 => ?_)
  refine JC.region ?_
  refine J.move rfl rfl ?_
  refine J.perm ([] ++ ((b4, cb (cE zE) 33) :: (b3, cb (cI id) 24) :: [])) (.refl _) ?_
  refine J.callS (α := Value × List (Nat × Obj)) (V := (·.1)) (Pr := fun x => Vec 33 51 x.1 (((ordE L).filter ownB)).length (fE (((ordE L).filter ownB))) x.2) (L := (·.2)) (l1 := []) Ty.bd20 rfl rfl (fun w1 hw => own_spec t mb most L es clock w1 (by rw [hw.keep t (lt_of_some ht) (by simp)]; exact ht) (by rw [hw.keep mb (lt_of_some hmm) (by simp)]; exact hmm) hT hn) (fun x hvo => ?_)
  obtain ⟨vo, lo⟩ := x
  simp only at hvo ⊢
  obtain ⟨ao, co, rfl, hco⟩ := hvo.form
  refine J.lenS rfl Ty.u22 rfl rfl ?_
  refine J.move rfl rfl ?_
  refine J.nil ?_
  refine JX.thenN (hK2 _ _ ?_)
  refine JC.block ?_
  refine JC.conseq (JC.cov (f := (fun i => [(3, .pointer (some ⟨b3, 0, none⟩)), (4, .pointer (some ⟨b4, 0, none⟩)), (12, .slice ao ((ordE L).filter ownB).length co), (13, .int .i64 ((((ordE L).filter ownB).length : Nat) : Int)), (14, .int .i64 ((i : Nat) : Int))]) 0) ⟨rfl, rfl, rfl, rfl, rfl, trivial⟩ (JC.loop (α := Nat) (fun i => [(3, .pointer (some ⟨b3, 0, none⟩)), (4, .pointer (some ⟨b4, 0, none⟩)), (12, .slice ao ((ordE L).filter ownB).length co), (13, .int .i64 ((((ordE L).filter ownB).length : Nat) : Int)), (14, .int .i64 ((i : Nat) : Int))]) (fun i w' => (i ≤ ((ordE L).filter ownB).length ∧ ∀ y, y ∈ ((ordE L).filter ownB).take i → othE y ≠ id) ∧ St w [] ((b4, cb (cE zE) 33) :: (b3, cb (cI id) 24) :: lo) w') (fun i => ((ordE L).filter ownB).length - i) 0 (fun i => ?_))) (fun w hw => ⟨⟨Nat.zero_le _, fun y hy => by simp at hy⟩, hw.perm (by (refine perm_cnt (fun _ => ?_)); simp only [cntB_append, cntB_cons, cntB_nil, Nat.add_zero, Nat.zero_add]; try ac_rfl)⟩)
  refine JC.pr (fun hx1 => ?_)
  obtain ⟨hi, hb⟩ := hx1
  refine JC.seq (fun K3 hK3 => ?_)
  refine JC.region ?_
  refine J.bin rfl rfl rfl rfl ?_
  refine J.nil ?_
  refine JX.thenN (hK3 _ _ ?_)
  refine JC.seq (fun K4 hK4 => ?_)
  refine JC.cond rfl (fun h0 => ?_) (fun h0 => ?_)
  · skip
    have hlt : i < ((ordE L).filter ownB).length := by simp at h0; omega
    obtain ⟨qo, rfl⟩ : ∃ q, ao = some ⟨q, 0, none⟩ := by
      obtain ⟨q, sp, h9, _⟩ := vec_pos hvo (by omega)
      exact ⟨q, h9⟩
    obtain ⟨xe, hxe⟩ : ∃ x, ((ordE L).filter ownB)[i]? = some x := ⟨_, List.getElem?_eq_getElem hlt⟩
    have hxo := hOok xe (List.mem_of_getElem? hxe)
    refine JC.skip ?_
    refine JX.thenN (hK4 _ _ ?_)
    refine JC.seq (fun K5 hK5 => ?_)
    refine JC.block ?_
    refine JC.seq (fun K6 hK6 => ?_)
    refine JC.region ?_
    refine J.indexAddrS Ty.el22 Ty.s33 rfl rfl (by omega) (by omega) rfl ?_
    refine J.loadA (vs := cE xe) Ty.a33 Ty.s33 rfl rfl (fun w1 hw => rowE_at (o := 0) (vec_rowM hvo hw (fun q hq => by first | (simp [hq]; done) | (simp at hq; simp [hq]; done) | (simp at hq; subst hq; simp))) hxe (by omega)) rfl ?_
    refine J.alloc Ty.zE_ rfl rfl (fun b7 => ?_)
    refine J.storeW (cs := cE zE) (vs := cE xe) Ty.s33 rfl rfl rfl rfl rfl (one_cE _) .here ?_
    refine J.nil ?_
    refine JX.thenN (hK6 _ _ ?_)
    refine JC.seq (fun K7 hK7 => ?_)
    refine JC.region ?_
    refine J.loadOA (vs := cE xe) Ty.a33 Ty.s33 rfl (.head _) rfl rfl rfl ?_
    refine J.callB (v := .tuple #[.agg (cI (otherV xe).1).toArray, .int .i64 (otherV xe).2.1, .bool (otherV xe).2.2]) (fun w1 w2 hw hb => hw.step hb) Ty.bd21 rfl rfl (fun w1 hw => other_spec xe w1) ?_
    refine J.move rfl rfl ?_
    refine J.extract rfl rfl rfl ?_
    refine J.extract rfl rfl rfl ?_
    refine J.extract rfl rfl rfl ?_
    refine J.alloc Ty.zID rfl rfl (fun b8 => ?_)
    refine J.storeW (cs := cI zI) (vs := cI (othE xe)) Ty.s24 rfl rfl rfl rfl rfl (one_cI _) .here ?_
    refine J.assign rfl rfl ?_
    refine J.assign rfl rfl ?_
    refine J.nil ?_
    refine JX.thenN (hK7 _ _ ?_)
    refine JC.seq (fun K8 hK8 => ?_)
    by_cases hx : othE xe = id
    · skip
      refine JC.region ?_
      refine J.loadOA (vs := cI (othE xe)) Ty.a24 Ty.s24 rfl (.head _) rfl rfl rfl ?_
      refine J.loadOA (vs := cI id) Ty.a24 Ty.s24 rfl (.tail _ (.tail _ (.tail _ (.head _)))) rfl rfl rfl ?_
      refine J.callB (v := .int .i64 (cmpI (othE xe) id)) (fun w1 w2 hw hb => hw.step hb) Ty.bd27 rfl rfl (fun w1 hw => compare_spec _ _ w1) ?_
      refine J.bin rfl rfl rfl rfl ?_
      refine J.name 27 rfl (show _ = Value.bool true by simp [cmpI_eq0, hx]) ?_
      refine J.nil ?_
      refine JX.thenN (hK8 _ _ ?_)
      first | refine JC.condT rfl ?_ | refine JC.cond rfl (fun _ => ?_) (fun h => by first | (exfalso; simp at h; omega) | (simp at h))
      refine JC.seq (fun K9 hK9 => ?_)
      refine JC.region ?_
      refine J.loadOA (vs := cE xe) Ty.a33 Ty.s33 rfl (.tail _ (.head _)) rfl rfl rfl ?_
      refine J.storeW (cs := cE zE) (vs := cE xe) Ty.s33 rfl rfl rfl rfl rfl (one_cE _) (by repeat first | exact .here | apply Up.there) ?_
      refine J.assign rfl rfl ?_
      refine J.nil ?_
      refine JX.thenN (hK9 _ _ ?_)
      refine JC.ret ?_
      refine JX.blockR ?_
      refine JX.thenR ?_
      refine JX.thenR ?_
      refine JX.blockR ?_
      refine JX.thenR ?_
      refine JX.retCT rfl rfl rfl Ty.a33 Ty.s33 (vs := cE xe) rfl (fun w1 hw => Cells.of_block (hw.own _ (.tail _ (.tail _ (.head _)))) rfl) (fun w1 hw => ?_)
      exact ⟨by rw [fi_yes hxe hb hx]; rfl, (hw.drop (List.nil_sublist _)).below⟩
    · skip
      refine JC.region ?_
      refine J.loadOA (vs := cI (othE xe)) Ty.a24 Ty.s24 rfl (.head _) rfl rfl rfl ?_
      refine J.loadOA (vs := cI id) Ty.a24 Ty.s24 rfl (.tail _ (.tail _ (.tail _ (.head _)))) rfl rfl rfl ?_
      refine J.callB (v := .int .i64 (cmpI (othE xe) id)) (fun w1 w2 hw hb => hw.step hb) Ty.bd27 rfl rfl (fun w1 hw => compare_spec _ _ w1) ?_
      refine J.bin rfl rfl rfl rfl ?_
      refine J.name 27 rfl (show _ = Value.bool false by simp [cmpI_eq0, hx]) ?_
      refine J.nil ?_
      refine JX.thenN (hK8 _ _ ?_)
      first | refine JC.condF rfl ?_ | refine JC.cond rfl (fun h => by first | (exfalso; simp at h; omega) | (simp at h)) (fun _ => ?_)
      refine JC.skip ?_
      refine JX.blockN ?_
      refine JX.thenN (hK5 _ _ ?_)
      refine JC.region ?_
      (first | refine J.addN rfl rfl (by omega) (by omega) rfl ?_ | refine J.bin rfl rfl rfl rfl ?_)
      refine J.move rfl rfl ?_
      refine J.nil ?_
      refine JX.thenN ?_
      refine JX.again (i + 1) ?_ ?_ ?_
      · omega
      · exact ⟨rfl, rfl, rfl, rfl, rfl, trivial⟩
      · exact fun w1 hw => ⟨⟨hlt, fi_step hxe hb hx⟩, hw.drop (.cons _ (.cons _ (List.Sublist.refl _)))⟩
  · skip
    have hge : i = ((ordE L).filter ownB).length := by simp at h0; omega
    subst hge
    rw [List.take_length] at *
    refine JC.exit ?_
    refine JX.thenE ?_
    refine JX.thenE ?_
    refine JX.blockE ?_
    refine JX.thenN (hK1 _ _ ?_)
    refine JC.seq (fun K10 hK10 => ?_)
    refine JC.region ?_
    refine J.buildS (cs := cE zE) Ty.pl33 Ty.zE_ rfl (by kernel_rfl) rfl ?_
    refine J.storeW (cs := cE zE) (vs := cE zE) Ty.s33 rfl rfl rfl rfl rfl (one_cE _) .here ?_
    refine J.assign rfl rfl ?_
    refine J.nil ?_
    refine JX.thenN (hK10 _ _ ?_)
    refine JC.ret ?_
    refine JX.retCT rfl rfl rfl Ty.a33 Ty.s33 (vs := cE zE) rfl (fun w1 hw => Cells.of_block (hw.own _ (.head _)) rfl) (fun w1 hw => ?_)
    exact ⟨by rw [fi_no hb]; rfl, (hw.drop (List.nil_sublist _)).below⟩

set_option maxHeartbeats 1000000 in
theorem rfirst_spec (rt : Nat) (v : Value) (most : Int) (R : List EV) (w : World) (hrt : w.heap[rt]? = some (rtabO v most)) (hrv : Row w v R.length (fE R)) (hR : ∀ x, x ∈ R → okE x) (hrl : R.length ≤ 1099511627776) (id : IDV) :
    Calls Tryz.prog 7 [.pointer (some ⟨rt, 0, none⟩), .agg (cI id).toArray].toArray w fun r w' => r = .returned (.tuple #[.agg (cE ((fiE (R.filter ownB) id).getD zE)).toArray, .bool (fiE (R.filter ownB) id).isSome]) ∧ Bel w w' := by
  have hol := List.length_filter_le ownB R
  have hOok : ∀ x, x ∈ R.filter ownB → okE x := fun x hx => hR x (List.mem_filter.1 hx).1
  refine calls_of_J (args := [.pointer (some ⟨rt, 0, none⟩), .agg (cI id).toArray]) (e := [(0, .pointer (some ⟨rt, 0, none⟩)), (1, .agg (cI id).toArray)]) Tryz.func7 rfl rfl ⟨rfl, rfl, trivial⟩ (St.start w) ?_
  refine JC.seq (fun K0 hK0 => ?_)
  refine JC.region ?_
  refine J.box rfl rfl rfl (fun b3 => ?_)
  refine J.alloc Ty.zE_ rfl rfl (fun b4 => ?_)
  refine J.assign rfl rfl ?_
  refine J.nil ?_
  refine JX.thenN (hK0 _ _ ?_)
  refine JC.seq (fun K1 hK1 => ?_)
  refine JC.region ?_
  refine J.move rfl rfl ?_
  refine J.perm ([] ++ ((b4, cb (cE zE) 33) :: (b3, cb (cI id) 24) :: [])) (.refl _) ?_
  refine J.callS (α := Value × List (Nat × Obj)) (V := (·.1)) (Pr := fun x => Vec 33 51 x.1 ((R.filter ownB)).length (fE ((R.filter ownB))) x.2) (L := (·.2)) (l1 := []) Ty.bd28 rfl rfl (fun w1 hw => rown_spec rt v most R w1 (by rw [hw.keep rt (lt_of_some hrt) (by simp)]; exact hrt) (hrv.below (hw.drop (List.nil_sublist _)).below) hR hrl) (fun x hvo => ?_)
  obtain ⟨vo, lo⟩ := x
  simp only at hvo ⊢
  obtain ⟨ao, co, rfl, hco⟩ := hvo.form
  refine J.assign rfl rfl ?_
  refine J.nil ?_
  refine JX.thenN (hK1 _ _ ?_)
  refine JC.seq (fun K2 hK2 => ?_)
  refine JC.seq (fun K3 hK3 => ?_)
  refine JC.region ?_
  refine J.assign rfl rfl ?_
  refine J.nil ?_
  refine JX.thenN (hK3 _ _ ?_)
  refine JC.block ?_
  refine JC.conseq (JC.cov (f := (fun i => [(3, .pointer (some ⟨b3, 0, none⟩)), (4, .pointer (some ⟨b4, 0, none⟩)), (6, .slice ao (R.filter ownB).length co), (7, .int .i64 ((i : Nat) : Int))]) 0) ⟨rfl, rfl, rfl, rfl, trivial⟩ (JC.loop (α := Nat) (fun i => [(3, .pointer (some ⟨b3, 0, none⟩)), (4, .pointer (some ⟨b4, 0, none⟩)), (6, .slice ao (R.filter ownB).length co), (7, .int .i64 ((i : Nat) : Int))]) (fun i w' => (i ≤ (R.filter ownB).length ∧ ∀ y, y ∈ (R.filter ownB).take i → othE y ≠ id) ∧ St w [] ((b4, cb (cE zE) 33) :: (b3, cb (cI id) 24) :: lo) w') (fun i => (R.filter ownB).length - i) 0 (fun i => ?_))) (fun w hw => ⟨⟨Nat.zero_le _, fun y hy => by simp at hy⟩, hw.perm (by (refine perm_cnt (fun _ => ?_)); simp only [cntB_append, cntB_cons, cntB_nil, Nat.add_zero, Nat.zero_add]; try ac_rfl)⟩)
  refine JC.pr (fun hx1 => ?_)
  obtain ⟨hi, hb⟩ := hx1
  refine JC.seq (fun K4 hK4 => ?_)
  refine JC.seq (fun K5 hK5 => ?_)
  refine JC.region ?_
  refine J.move rfl rfl ?_
  refine J.move rfl rfl ?_
  refine J.lenS rfl Ty.u22 rfl rfl ?_
  refine J.bin rfl rfl rfl rfl ?_
  refine J.nil ?_
  refine JX.thenN (hK5 _ _ ?_)
  refine JC.cond rfl (fun h0 => ?_) (fun h0 => ?_)
  · skip
    have hlt : i < (R.filter ownB).length := by simp at h0; omega
    obtain ⟨qo, rfl⟩ : ∃ q, ao = some ⟨q, 0, none⟩ := by
      obtain ⟨q, sp, h9, _⟩ := vec_pos hvo (by omega)
      exact ⟨q, h9⟩
    obtain ⟨xe, hxe⟩ : ∃ x, (R.filter ownB)[i]? = some x := ⟨_, List.getElem?_eq_getElem hlt⟩
    have hxo := hOok xe (List.mem_of_getElem? hxe)
    refine JC.skip ?_
    refine JX.thenN (hK4 _ _ ?_)
    refine JC.seq (fun K6 hK6 => ?_)
    refine JC.block ?_
    refine JC.seq (fun K7 hK7 => ?_)
    refine JC.region ?_
    refine J.move rfl rfl ?_
    refine J.move rfl rfl ?_
    refine J.indexAddrS Ty.el22 Ty.s33 rfl rfl (by omega) (by omega) rfl ?_
    refine J.loadA (vs := cE xe) Ty.a33 Ty.s33 rfl rfl (fun w1 hw => rowE_at (o := 0) (vec_rowM hvo hw (fun q hq => by first | (simp [hq]; done) | (simp at hq; simp [hq]; done) | (simp at hq; subst hq; simp))) hxe (by omega)) rfl ?_
    refine J.callB (v := .tuple #[.agg (cI (otherV xe).1).toArray, .int .i64 (otherV xe).2.1, .bool (otherV xe).2.2]) (fun w1 w2 hw hb => hw.step hb) Ty.bd29 rfl rfl (fun w1 hw => rother_spec xe w1) ?_
    refine J.move rfl rfl ?_
    refine J.extract rfl rfl rfl ?_
    refine J.extract rfl rfl rfl ?_
    refine J.extract rfl rfl rfl ?_
    refine J.alloc Ty.zID rfl rfl (fun b8 => ?_)
    refine J.storeW (cs := cI zI) (vs := cI (othE xe)) Ty.s24 rfl rfl rfl rfl rfl (one_cI _) .here ?_
    refine J.assign rfl rfl ?_
    refine J.assign rfl rfl ?_
    refine J.nil ?_
    refine JX.thenN (hK7 _ _ ?_)
    refine JC.seq (fun K8 hK8 => ?_)
    by_cases hx : othE xe = id
    · skip
      refine JC.region ?_
      refine J.loadOA (vs := cI (othE xe)) Ty.a24 Ty.s24 rfl (.head _) rfl rfl rfl ?_
      refine J.loadOA (vs := cI id) Ty.a24 Ty.s24 rfl (.tail _ (.tail _ (.head _))) rfl rfl rfl ?_
      refine J.eqI Ty.QI Ty.keyI rfl rfl rfl ?_
      refine J.name 30 rfl (show _ = Value.bool true by simp [hx]) ?_
      refine J.nil ?_
      refine JX.thenN (hK8 _ _ ?_)
      first | refine JC.condT rfl ?_ | refine JC.cond rfl (fun _ => ?_) (fun h => by first | (exfalso; simp at h; omega) | (simp at h))
      refine JC.seq (fun K9 hK9 => ?_)
      refine JC.region ?_
      refine J.move rfl rfl ?_
      refine J.move rfl rfl ?_
      refine J.indexAddrS Ty.el22 Ty.s33 rfl rfl (by omega) (by omega) rfl ?_
      refine J.loadA (vs := cE xe) Ty.a33 Ty.s33 rfl rfl (fun w1 hw => rowE_at (o := 0) (vec_rowM hvo hw (fun q hq => by first | (simp [hq]; done) | (simp at hq; simp [hq]; done) | (simp at hq; subst hq; simp))) hxe (by omega)) rfl ?_
      refine J.storeW (cs := cE zE) (vs := cE xe) Ty.s33 rfl rfl rfl rfl rfl (one_cE _) (by repeat first | exact .here | apply Up.there) ?_
      refine J.assign rfl rfl ?_
      refine J.nil ?_
      refine JX.thenN (hK9 _ _ ?_)
      refine JC.ret ?_
      refine JX.blockR ?_
      refine JX.thenR ?_
      refine JX.thenR ?_
      refine JX.blockR ?_
      refine JX.thenR ?_
      refine JX.retCT rfl rfl rfl Ty.a33 Ty.s33 (vs := cE xe) rfl (fun w1 hw => Cells.of_block (hw.own _ (.tail _ (.head _))) rfl) (fun w1 hw => ?_)
      exact ⟨by rw [fi_yes hxe hb hx]; rfl, (hw.drop (List.nil_sublist _)).below⟩
    · skip
      refine JC.region ?_
      refine J.loadOA (vs := cI (othE xe)) Ty.a24 Ty.s24 rfl (.head _) rfl rfl rfl ?_
      refine J.loadOA (vs := cI id) Ty.a24 Ty.s24 rfl (.tail _ (.tail _ (.head _))) rfl rfl rfl ?_
      refine J.eqI Ty.QI Ty.keyI rfl rfl rfl ?_
      refine J.name 30 rfl (show _ = Value.bool false by simp [hx]) ?_
      refine J.nil ?_
      refine JX.thenN (hK8 _ _ ?_)
      first | refine JC.condF rfl ?_ | refine JC.cond rfl (fun h => by first | (exfalso; simp at h; omega) | (simp at h)) (fun _ => ?_)
      refine JC.skip ?_
      refine JX.blockN ?_
      refine JX.thenN (hK6 _ _ ?_)
      refine JC.region ?_
      refine J.move rfl rfl ?_
      (first | refine J.addN rfl rfl (by omega) (by omega) rfl ?_ | refine J.bin rfl rfl rfl rfl ?_)
      refine J.assign rfl rfl ?_
      refine J.nil ?_
      refine JX.thenN ?_
      refine JX.again (i + 1) ?_ ?_ ?_
      · omega
      · exact ⟨rfl, rfl, rfl, rfl, trivial⟩
      · exact fun w1 hw => ⟨⟨hlt, fi_step hxe hb hx⟩, hw.drop (.cons _ (List.Sublist.refl _))⟩
  · skip
    have hge : i = (R.filter ownB).length := by simp at h0; omega
    subst hge
    rw [List.take_length] at *
    refine JC.exit ?_
    refine JX.thenE ?_
    refine JX.thenE ?_
    refine JX.blockE ?_
    refine JX.thenN (hK2 _ _ ?_)
    refine JC.seq (fun K10 hK10 => ?_)
    refine JC.region ?_
    refine J.buildS (cs := cE zE) Ty.pl33 Ty.zE_ rfl (by kernel_rfl) rfl ?_
    refine J.storeW (cs := cE zE) (vs := cE zE) Ty.s33 rfl rfl rfl rfl rfl (one_cE _) .here ?_
    refine J.assign rfl rfl ?_
    refine J.nil ?_
    refine JX.thenN (hK10 _ _ ?_)
    refine JC.ret ?_
    refine JX.retCT rfl rfl rfl Ty.a33 Ty.s33 (vs := cE zE) rfl (fun w1 hw => Cells.of_block (hw.own _ (.head _)) rfl) (fun w1 hw => ?_)
    exact ⟨by rw [fi_no hb]; rfl, (hw.drop (List.nil_sublist _)).below⟩

end Go.Proofs.YtohldionclgljaaGreat
/-
  Spare, Twins of the program and of the document: contracts.
-/
namespace Go.Proofs.YtohldionclgljaaGreat
open Go.J Go.RowKit
set_option linter.unusedVariables false
set_option linter.unusedSimpArgs false
set_option maxRecDepth 8000
/-- the own paths beside an earlier one to the same end, of the first i -/
def twP (O : List EV) : Nat → List PV
  | 0 => []
  | i + 1 => twP O i ++ (match O[i]? with | some x => (if othE x ∈ (O.take i).map othE then [x.p] else []) | none => [])
theorem tw_yes {O : List EV} {i : Nat} {x : EV} (h : O[i]? = some x) (hx : othE x ∈ (O.take i).map othE) : twP O (i + 1) = twP O i ++ [x.p] := by
  show twP O i ++ _ = _
  rw [h]
  simp only
  rw [if_pos hx]
theorem tw_no {O : List EV} {i : Nat} {x : EV} (h : O[i]? = some x) (hx : ¬ othE x ∈ (O.take i).map othE) : twP O (i + 1) = twP O i := by
  show twP O i ++ _ = _
  rw [h]
  simp only
  rw [if_neg hx, List.append_nil]
theorem tw_le (O : List EV) : ∀ i, (twP O i).length ≤ i
  | 0 => Nat.le_refl _
  | i + 1 => by
    have ih := tw_le O i
    show (twP O i ++ _).length ≤ _
    rw [List.length_append]
    cases O[i]? with
    | none => simp; omega
    | some x => simp only; split <;> simp <;> omega
theorem wn_len (me : IDV) (xs : List IDV) (half : Int) : (wantI me xs half).length ≤ xs.length := Nat.le_trans (List.length_filter_le _ _) (sortI_le _ _)
theorem fr_len (O : List EV) (me : IDV) : (frI O me).length ≤ O.length := Nat.le_trans (sortI_le _ _) (Nat.le_of_eq (List.length_map _))

set_option maxHeartbeats 1000000 in
theorem spare_spec (t mb : Nat) (most : Int) (L : List EV) (es : Array MapEntry) (clock : Nat) (w : World) (ht : w.heap[t]? = some (tabO most mb)) (hmm : w.heap[mb]? = some (.map es clock)) (hT : Tab L es clock) (hn : L.length ≤ 1099511627776) (me : IDV) (half : Int) :
    Calls Tryz.prog 13 [.pointer (some ⟨t, 0, none⟩), .agg (cI me).toArray, .int .i64 half].toArray w fun r w' => ∃ x : Value × List (Nat × Obj), r = .returned x.1 ∧ Vec 31 17 x.1 (spP ((ordE L).filter ownB) (wnI ((ordE L).filter ownB) me half)).length (fP (spP ((ordE L).filter ownB) (wnI ((ordE L).filter ownB) me half))) x.2 ∧ St w [] x.2 w' := by
  have hol := List.length_filter_le ownB (ordE L)
  have hpl := (ordE_perm L).length_eq
  have hOok : ∀ x, x ∈ (ordE L).filter ownB → okE x := fun x hx => hT.ok x ((ordE_perm L).mem_iff.1 (List.mem_filter.1 hx).1)
  have hfl := fr_len ((ordE L).filter ownB) me
  have hwl : (wnI ((ordE L).filter ownB) me half).length ≤ ((ordE L).filter ownB).length := Nat.le_trans (wn_len _ _ _) hfl
  refine calls_of_J (args := [.pointer (some ⟨t, 0, none⟩), .agg (cI me).toArray, .int .i64 half]) (e := [(0, .pointer (some ⟨t, 0, none⟩)), (1, .agg (cI me).toArray), (2, .int .i64 half)]) Tryz.func13 rfl rfl ⟨rfl, rfl, rfl, trivial⟩ (St.start w) ?_
  refine JC.seq (fun K0 hK0 => ?_)
  refine JC.region ?_
  refine J.box rfl rfl rfl (fun b4 => ?_)
  refine J.assign rfl rfl ?_
  refine J.nil ?_
  refine JX.thenN (hK0 _ _ ?_)
  refine JC.seq (fun K1 hK1 => ?_)
  apply JC.drawX (α := Value × List (Nat × Obj) × Value × List (Nat × Obj)) 6 (fun x => match x with | ⟨v17, l17, v19, l19⟩ => [.agg (cI me).toArray, .pointer (some ⟨t, 0, none⟩), .agg (cI me).toArray, v17, .int .i64 half, v19]) (fun m x => match x with | ⟨v17, l17, v19, l19⟩ => fun w1 => ((m 3 = true → Vec 24 16 v17 ((frI ((ordE L).filter ownB) me)).length (fI ((frI ((ordE L).filter ownB) me))) l17) ∧ (m 5 = true → Vec 24 16 v19 ((wnI ((ordE L).filter ownB) me half)).length (fI ((wnI ((ordE L).filter ownB) me half))) l19)) ∧ St w [] ((bif m 5 then l19 else []) ++ ((bif m 3 then l17 else []) ++ ((b4, cb (cI me) 24) :: []))) w1) Ty.mixed rfl rfl rfl (by kernel_rfl) rfl rfl ?hinit ?hstep ?htail
  case hinit => exact fun w1 hw => ⟨(.slice none 0 0, [], .slice none 0 0, []), ⟨fun h => (by cases h), fun h => (by cases h)⟩, hw.drew⟩
  case hstep =>
    refine ⟨fun m x hm hp => ?_, fun m x hm hp => ?_, fun m x hm hp => ?_, fun m x hm hp => ?_, fun m x hm hp => ?_, fun m x hm hp => ?_, trivial⟩
    · skip
      obtain ⟨v17, l17, v19, l19⟩ := x
      show J _ _ _ _ _ (_) _
      refine J.pr (fun hF => ?_)
      refine J.loadA (vs := cI me) Ty.a24 Ty.s24 rfl rfl (fun w1 hw => Cells.of_block (hw.own ((b4, cb (cI me) 24)) (by repeat first | exact .head _ | apply List.Mem.tail | apply List.mem_append_right)) rfl) rfl ?_
      exact J.finX rfl (fun _ hw => ⟨⟨v17, l17, v19, l19⟩, rfl, fun _ _ _ => rfl, hF, hw⟩)
    · skip
      obtain ⟨v17, l17, v19, l19⟩ := x
      show J _ _ _ _ _ (_) _
      refine J.pr (fun hF => ?_)
      refine J.move rfl rfl ?_
      exact J.finX rfl (fun _ hw => ⟨⟨v17, l17, v19, l19⟩, rfl, fun _ _ _ => rfl, hF, hw⟩)
    · skip
      obtain ⟨v17, l17, v19, l19⟩ := x
      show J _ _ _ _ _ (_) _
      refine J.pr (fun hF => ?_)
      refine J.loadA (vs := cI me) Ty.a24 Ty.s24 rfl rfl (fun w1 hw => Cells.of_block (hw.own ((b4, cb (cI me) 24)) (by repeat first | exact .head _ | apply List.Mem.tail | apply List.mem_append_right)) rfl) rfl ?_
      exact J.finX rfl (fun _ hw => ⟨⟨v17, l17, v19, l19⟩, rfl, fun _ _ _ => rfl, hF, hw⟩)
    · skip
      obtain ⟨v17, l17, v19, l19⟩ := x
      show J _ _ _ _ _ ((16, .agg (cI me).toArray) :: (15, .pointer (some ⟨t, 0, none⟩)) :: _) _
      refine J.pr (fun hF => ?_)
      refine J.perm ([] ++ ((bif m 5 then l19 else []) ++ ((bif m 3 then l17 else []) ++ ((b4, cb (cI me) 24) :: [])))) (.refl _) ?_
      refine J.callS (α := Value × List (Nat × Obj)) (V := (·.1)) (Pr := fun x => Vec 24 16 x.1 ((frI ((ordE L).filter ownB) me)).length (fI ((frI ((ordE L).filter ownB) me))) x.2) (L := (·.2)) (l1 := []) Ty.bd10 rfl rfl (fun w1 hw => friends_spec t mb most L es clock w1 (by rw [hw.keep t (lt_of_some ht) (by simp)]; exact ht) (by rw [hw.keep mb (lt_of_some hmm) (by simp)]; exact hmm) hT hn me) (fun x hvn => ?_)
      obtain ⟨vn, ln⟩ := x
      simp only at hvn ⊢
      refine J.nil (JX.finB rfl (fun w1 hw => ⟨⟨⟨vn, ln, v19, l19⟩, rfl, fun j h1 h2 => ?_, ?_⟩, trivial⟩))
      · match j, h1 with
        | 0, _ => (first | rfl | trivial)
        | 1, _ => (first | rfl | trivial)
        | 2, _ => (first | rfl | trivial)
        | 3, _ => exact absurd (h2.symm.trans hm) (by decide)
        | 4, _ => (first | rfl | trivial)
        | 5, _ => (first | rfl | trivial)
        | j + 6, h1 => omega
      show ((true = true → Vec 24 16 vn ((frI ((ordE L).filter ownB) me)).length (fI ((frI ((ordE L).filter ownB) me))) ln) ∧ (m 5 = true → Vec 24 16 v19 ((wnI ((ordE L).filter ownB) me half)).length (fI ((wnI ((ordE L).filter ownB) me half))) l19)) ∧ St w [] ((bif m 5 then l19 else []) ++ ((bif true then ln else []) ++ ((b4, cb (cI me) 24) :: []))) w1
      simp only [hm, cond_true, cond_false] at hw ⊢
      exact ⟨⟨fun _ => hvn, hF.2⟩, hw.perm (by (refine perm_cnt (fun _ => ?_)); simp only [cntB_append, cntB_cons, cntB_nil, Nat.add_zero, Nat.zero_add]; try ac_rfl)⟩
    · skip
      obtain ⟨v17, l17, v19, l19⟩ := x
      show J _ _ _ _ _ (_) _
      refine J.pr (fun hF => ?_)
      refine J.move rfl rfl ?_
      exact J.finX rfl (fun _ hw => ⟨⟨v17, l17, v19, l19⟩, rfl, fun _ _ _ => rfl, hF, hw⟩)
    · skip
      obtain ⟨v17, l17, v19, l19⟩ := x
      show J _ _ _ _ _ ((17, v17) :: (18, .int .i64 half) :: (17, v17) :: (14, .agg (cI me).toArray) :: _) _
      have hp3 : m 3 = true := predsT hp (by kernel_rfl)
      have hp3 : m 3 = true := predsT hp (by kernel_rfl)
      refine J.pr (fun hF => ?_)
      refine J.conseq (I' := St w [] ((bif m 5 then l19 else []) ++ (l17 ++ ((b4, cb (cI me) 24) :: [])))) ?_ (fun w1 hw => by simp only [hp3, cond_true] at hw; exact hw)
      refine J.perm ([] ++ ((bif m 5 then l19 else []) ++ (l17 ++ ((b4, cb (cI me) 24) :: [])))) (.refl _) ?_
      refine J.callS (α := Value × List (Nat × Obj)) (V := (·.1)) (Pr := fun x => Vec 24 16 x.1 ((wnI ((ordE L).filter ownB) me half)).length (fI ((wnI ((ordE L).filter ownB) me half))) x.2) (L := (·.2)) (l1 := []) Ty.bd35 rfl rfl (fun w1 hw => want_spec me _ (frI ((ordE L).filter ownB) me) half w1 (vec_rowM (hF.1 hp3) hw (fun q hq => by first | (simp [hq]; done) | (simp at hq; simp [hq]; done) | (simp at hq; subst hq; simp))) (by omega)) (fun x hvn => ?_)
      obtain ⟨vn, ln⟩ := x
      simp only at hvn ⊢
      refine J.nil (JX.finB rfl (fun w1 hw => ⟨⟨⟨v17, l17, vn, ln⟩, rfl, fun j h1 h2 => ?_, ?_⟩, trivial⟩))
      · match j, h1 with
        | 0, _ => (first | rfl | trivial)
        | 1, _ => (first | rfl | trivial)
        | 2, _ => (first | rfl | trivial)
        | 3, _ => (first | rfl | trivial)
        | 4, _ => (first | rfl | trivial)
        | 5, _ => exact absurd (h2.symm.trans hm) (by decide)
        | j + 6, h1 => omega
      show ((m 3 = true → Vec 24 16 v17 ((frI ((ordE L).filter ownB) me)).length (fI ((frI ((ordE L).filter ownB) me))) l17) ∧ (true = true → Vec 24 16 vn ((wnI ((ordE L).filter ownB) me half)).length (fI ((wnI ((ordE L).filter ownB) me half))) ln)) ∧ St w [] ((bif true then ln else []) ++ ((bif m 3 then l17 else []) ++ ((b4, cb (cI me) 24) :: []))) w1
      simp only [hm, hp3, cond_true, cond_false] at hw ⊢
      exact ⟨⟨fun _ => hF.1 hp3, fun _ => hvn⟩, hw.perm (by (refine perm_cnt (fun _ => ?_)); simp only [cntB_append, cntB_cons, cntB_nil, Nat.add_zero, Nat.zero_add]; try ac_rfl)⟩
  case htail =>
    intro x
    obtain ⟨v17, l17, v19, l19⟩ := x
    show J _ _ _ _ _ ((19, v19) :: (18, .int .i64 half) :: (17, v17) :: (16, .agg (cI me).toArray) :: (15, .pointer (some ⟨t, 0, none⟩)) :: (14, .agg (cI me).toArray) :: _) (fun w1 => ((true = true → Vec 24 16 v17 ((frI ((ordE L).filter ownB) me)).length (fI ((frI ((ordE L).filter ownB) me))) l17) ∧ (true = true → Vec 24 16 v19 ((wnI ((ordE L).filter ownB) me half)).length (fI ((wnI ((ordE L).filter ownB) me half))) l19)) ∧ St w [] ((bif true then l19 else []) ++ ((bif true then l17 else []) ++ ((b4, cb (cI me) 24) :: []))) w1)
    refine J.pr (fun hF => ?_)
    have hv19 := hF.2 rfl
    refine J.conseq (I' := St w [] (l19 ++ (l17 ++ ((b4, cb (cI me) 24) :: [])))) ?_ (fun w1 hw => by simp only [cond_true] at hw; exact hw)
    refine J.assign rfl rfl ?_
    refine J.nil ?_
    refine JX.thenN (hK1 _ _ ?_)
    refine JC.seq (fun K2 hK2 => ?_)
    refine JC.region ?_
    refine J.assign rfl rfl ?_
    refine J.nil ?_
    refine JX.thenN (hK2 _ _ ?_)
    refine JC.seq (fun K3 hK3 => ?_)
    refine JC.seq (fun K4 hK4 => ?_)
    refine JC.region ?_
    refine J.move rfl rfl ?_
    refine J.perm ([] ++ (l19 ++ (l17 ++ ((b4, cb (cI me) 24) :: [])))) (.refl _) ?_
    refine J.callS (α := Value × List (Nat × Obj)) (V := (·.1)) (Pr := fun x => Vec 33 51 x.1 (((ordE L).filter ownB)).length (fE (((ordE L).filter ownB))) x.2) (L := (·.2)) (l1 := []) Ty.bd20 rfl rfl (fun w1 hw => own_spec t mb most L es clock w1 (by rw [hw.keep t (lt_of_some ht) (by simp)]; exact ht) (by rw [hw.keep mb (lt_of_some hmm) (by simp)]; exact hmm) hT hn) (fun x hvo => ?_)
    obtain ⟨vo, lo⟩ := x
    simp only at hvo ⊢
    obtain ⟨ao, co, rfl, hco⟩ := hvo.form
    refine J.lenS rfl Ty.u22 rfl rfl ?_
    refine J.move rfl rfl ?_
    refine J.nil ?_
    refine JX.thenN (hK4 _ _ ?_)
    refine JC.block ?_
    refine JC.conseq (JC.cov (f := (fun st => [(7, v19), (8, st.2.1), (21, .slice ao ((ordE L).filter ownB).length co), (22, .int .i64 ((((ordE L).filter ownB).length : Nat) : Int)), (23, .int .i64 ((st.1 : Nat) : Int))]) ((0, .slice none 0 0, []) : Nat × Value × List (Nat × Obj))) ⟨rfl, rfl, rfl, rfl, rfl, trivial⟩ (JC.loop (α := Nat × Value × List (Nat × Obj)) (fun st => [(7, v19), (8, st.2.1), (21, .slice ao ((ordE L).filter ownB).length co), (22, .int .i64 ((((ordE L).filter ownB).length : Nat) : Int)), (23, .int .i64 ((st.1 : Nat) : Int))]) (fun st w' => (st.1 ≤ ((ordE L).filter ownB).length ∧ Vec 31 17 st.2.1 ((spP (((ordE L).filter ownB).take st.1) (wnI ((ordE L).filter ownB) me half))).length (fP ((spP (((ordE L).filter ownB).take st.1) (wnI ((ordE L).filter ownB) me half)))) st.2.2) ∧ St w [] (st.2.2 ++ (l19 ++ (l17 ++ ((b4, cb (cI me) 24) :: lo)))) w') (fun st => ((ordE L).filter ownB).length - st.1) ((0, .slice none 0 0, []) : Nat × Value × List (Nat × Obj)) (fun st => ?_))) (fun w hw => ⟨⟨Nat.zero_le _, Vec.nil _ _⟩, hw.perm (by (refine perm_cnt (fun _ => ?_)); simp only [cntB_append, cntB_cons, cntB_nil, Nat.add_zero, Nat.zero_add]; try ac_rfl)⟩)
    obtain ⟨i, v8, l8⟩ := st
    refine JC.pr (fun hx1 => ?_)
    obtain ⟨hi, hv8⟩ := hx1
    simp only at hi hv8 ⊢
    have hml : (spP (((ordE L).filter ownB).take i) (wnI ((ordE L).filter ownB) me half)).length ≤ i := Nat.le_trans (sp_le _ _) (by rw [List.length_take]; omega)
    refine JC.seq (fun K5 hK5 => ?_)
    refine JC.region ?_
    refine J.bin rfl rfl rfl rfl ?_
    refine J.nil ?_
    refine JX.thenN (hK5 _ _ ?_)
    refine JC.seq (fun K6 hK6 => ?_)
    refine JC.cond rfl (fun h0 => ?_) (fun h0 => ?_)
    · skip
      have hlt : i < ((ordE L).filter ownB).length := by simp at h0; omega
      obtain ⟨qo, rfl⟩ : ∃ q, ao = some ⟨q, 0, none⟩ := by
        obtain ⟨q, sp, h9, _⟩ := vec_pos hvo (by omega)
        exact ⟨q, h9⟩
      obtain ⟨xe, hxe⟩ : ∃ x, ((ordE L).filter ownB)[i]? = some x := ⟨_, List.getElem?_eq_getElem hlt⟩
      have hxo := hOok xe (List.mem_of_getElem? hxe)
      refine JC.skip ?_
      refine JX.thenN (hK6 _ _ ?_)
      refine JC.seq (fun K7 hK7 => ?_)
      refine JC.block ?_
      refine JC.seq (fun K8 hK8 => ?_)
      refine JC.region ?_
      refine J.indexAddrS Ty.el22 Ty.s33 rfl rfl (by omega) (by omega) rfl ?_
      refine J.loadA (vs := cE xe) Ty.a33 Ty.s33 rfl rfl (fun w1 hw => rowE_at (o := 0) (vec_rowM hvo hw (fun q hq => by first | (simp [hq]; done) | (simp at hq; simp [hq]; done) | (simp at hq; subst hq; simp))) hxe (by omega)) rfl ?_
      refine J.alloc Ty.zE_ rfl rfl (fun b10 => ?_)
      refine J.storeW (cs := cE zE) (vs := cE xe) Ty.s33 rfl rfl rfl rfl rfl (one_cE _) .here ?_
      refine J.nil ?_
      refine JX.thenN (hK8 _ _ ?_)
      refine JC.seq (fun K9 hK9 => ?_)
      refine JC.region ?_
      refine J.loadOA (vs := cE xe) Ty.a33 Ty.s33 rfl (.head _) rfl rfl rfl ?_
      refine J.callB (v := .tuple #[.agg (cI (otherV xe).1).toArray, .int .i64 (otherV xe).2.1, .bool (otherV xe).2.2]) (fun w1 w2 hw hb => hw.step hb) Ty.bd21 rfl rfl (fun w1 hw => other_spec xe w1) ?_
      refine J.move rfl rfl ?_
      refine J.extract rfl rfl rfl ?_
      refine J.extract rfl rfl rfl ?_
      refine J.extract rfl rfl rfl ?_
      refine J.alloc Ty.zID rfl rfl (fun b11 => ?_)
      refine J.storeW (cs := cI zI) (vs := cI (othE xe)) Ty.s24 rfl rfl rfl rfl rfl (one_cI _) .here ?_
      refine J.assign rfl rfl ?_
      refine J.assign rfl rfl ?_
      refine J.nil ?_
      refine JX.thenN (hK9 _ _ ?_)
      refine JC.seq (fun K10 hK10 => ?_)
      refine JC.region ?_
      refine J.move rfl rfl ?_
      refine J.loadOA (vs := cI (othE xe)) Ty.a24 Ty.s24 rfl (.head _) rfl rfl rfl ?_
      refine J.callB (v := .bool (decide (othE xe ∈ (wnI ((ordE L).filter ownB) me half)))) (fun w1 w2 hw hb => hw.step hb) Ty.bd36 rfl rfl (fun w1 hw => hasI_spec _ (wnI ((ordE L).filter ownB) me half) (othE xe) w1 (vec_rowM hv19 hw (fun q hq => by first | (simp [hq]; done) | (simp at hq; simp [hq]; done) | (simp at hq; subst hq; simp))) (by omega)) ?_
      refine J.not rfl rfl ?_
      refine J.nil ?_
      refine JX.thenN (hK10 _ _ ?_)
      refine JC.cond rfl (fun h1 => ?_) (fun h1 => ?_)
      · skip
        have hx : decide (othE xe ∈ (wnI ((ordE L).filter ownB) me half)) = false := by
          revert h1
          cases decide (othE xe ∈ (wnI ((ordE L).filter ownB) me half)) <;> simp
        refine JC.region ?_
        refine J.move rfl rfl ?_
        refine J.fieldAddr Ty.fd33_0 rfl rfl ?_
        refine J.loadOA (vs := cP xe.p) Ty.a31 Ty.s31 rfl (.tail _ (.head _)) rfl rfl rfl ?_
        refine J.buildSl (cs := cP xe.p) Ty.el43 Ty.s31 zPa rfl rfl rfl rfl (by kernel_rfl) rfl rfl (fun b40 => ?_)
        refine J.perm (l8 ++ ((b40, cb (cP xe.p) 31) :: (b11, cb (cI (othE xe)) 24) :: (b10, cb (cE xe) 33) :: l19 ++ (l17 ++ ((b4, cb (cI me) 24) :: lo)))) (by (refine perm_cnt (fun _ => ?_)); simp only [cntB_append, cntB_cons, cntB_nil, Nat.add_zero, Nat.zero_add]; try ac_rfl) ?_
        refine J.append (lp := l8) (xs := fP (spP (((ordE L).filter ownB).take i) (wnI ((ordE L).filter ownB) me half))) (ys := cP xe.p) (k := (spP (((ordE L).filter ownB).take i) (wnI ((ordE L).filter ownB) me half)).length) (m := 1) Ty.el43 Ty.s31 Ty.b31 zPa rfl (.inl ⟨31, Ty.u43⟩) rfl rfl hv8 (fun w3 hw3 => .inl (Row.own (cs := cP xe.p) (tb := 31) (fr := (0, 0)) hw3 (by repeat first | exact .head _ | apply List.Mem.tail | apply List.mem_append_right) rfl (Nat.le_refl _))) rfl (one_cP _) (by omega) (by omega) rfl (fun vn ln hvn => ?_)
        refine J.assign rfl rfl ?_
        refine J.nil ?_
        refine JX.blockN ?_
        refine JX.thenN (hK7 _ _ ?_)
        refine JC.region ?_
        (first | refine J.addN rfl rfl (by omega) (by omega) rfl ?_ | refine J.bin rfl rfl rfl rfl ?_)
        refine J.move rfl rfl ?_
        refine J.nil ?_
        refine JX.thenN ?_
        refine JX.again ((i + 1, vn, ln) : Nat × Value × List (Nat × Obj)) ?_ ?_ ?_
        · simp only; omega
        · exact ⟨rfl, rfl, rfl, rfl, rfl, trivial⟩
        · exact fun w1 hw => ⟨⟨hlt, by simp only; rw [sp_yes hxe hx]; exact snocP hvn⟩, (hw.perm (l' := (b40, cb (cP xe.p) 31) :: (b11, cb (cI (othE xe)) 24) :: (b10, cb (cE xe) 33) :: ln ++ (l19 ++ (l17 ++ ((b4, cb (cI me) 24) :: lo)))) (by (refine perm_cnt (fun _ => ?_)); simp only [cntB_append, cntB_cons, cntB_nil, Nat.add_zero, Nat.zero_add]; try ac_rfl)).drop (.cons _ (.cons _ (.cons _ (List.Sublist.refl _))))⟩
      · skip
        have hx : decide (othE xe ∈ (wnI ((ordE L).filter ownB) me half)) = true := by
          revert h1
          cases decide (othE xe ∈ (wnI ((ordE L).filter ownB) me half)) <;> simp
        refine JC.skip ?_
        refine JX.blockN ?_
        refine JX.thenN (hK7 _ _ ?_)
        refine JC.region ?_
        (first | refine J.addN rfl rfl (by omega) (by omega) rfl ?_ | refine J.bin rfl rfl rfl rfl ?_)
        refine J.move rfl rfl ?_
        refine J.nil ?_
        refine JX.thenN ?_
        refine JX.again ((i + 1, v8, l8) : Nat × Value × List (Nat × Obj)) ?_ ?_ ?_
        · simp only; omega
        · exact ⟨rfl, rfl, rfl, rfl, rfl, trivial⟩
        · exact fun w1 hw => ⟨⟨hlt, by simp only; rw [sp_no hxe hx]; exact hv8⟩, hw.drop (.cons _ (.cons _ (List.Sublist.refl _)))⟩
    · skip
      have hge : i = ((ordE L).filter ownB).length := by simp at h0; omega
      subst hge
      rw [List.take_length] at *
      refine JC.exit ?_
      refine JX.thenE ?_
      refine JX.thenE ?_
      refine JX.blockE ?_
      refine JX.thenN (hK3 _ _ ?_)
      refine JC.seq (fun K11 hK11 => ?_)
      refine JC.region ?_
      refine J.move rfl rfl ?_
      refine J.assign rfl rfl ?_
      refine J.nil ?_
      refine JX.thenN (hK11 _ _ ?_)
      refine JC.ret ?_
      refine JX.ret1 rfl rfl (fun w hw => ?_)
      exact ⟨(v8, l8), rfl, hv8, hw.drop (List.sublist_append_left _ _)⟩

set_option maxHeartbeats 1000000 in
theorem rspare_spec (rt : Nat) (v : Value) (most : Int) (R : List EV) (w : World) (hrt : w.heap[rt]? = some (rtabO v most)) (hrv : Row w v R.length (fE R)) (hR : ∀ x, x ∈ R → okE x) (hrl : R.length ≤ 1099511627776) (me : IDV) (half : Int) :
    Calls Tryz.prog 14 [.pointer (some ⟨rt, 0, none⟩), .agg (cI me).toArray, .int .i64 half].toArray w fun r w' => ∃ x : Value × List (Nat × Obj), r = .returned x.1 ∧ Vec 31 17 x.1 (spP (R.filter ownB) (wnI (R.filter ownB) me half)).length (fP (spP (R.filter ownB) (wnI (R.filter ownB) me half))) x.2 ∧ St w [] x.2 w' := by
  have hol := List.length_filter_le ownB R
  have hOok : ∀ x, x ∈ R.filter ownB → okE x := fun x hx => hR x (List.mem_filter.1 hx).1
  have hfl := fr_len (R.filter ownB) me
  have hwl : (wnI (R.filter ownB) me half).length ≤ (R.filter ownB).length := Nat.le_trans (wn_len _ _ _) hfl
  refine calls_of_J (args := [.pointer (some ⟨rt, 0, none⟩), .agg (cI me).toArray, .int .i64 half]) (e := [(0, .pointer (some ⟨rt, 0, none⟩)), (1, .agg (cI me).toArray), (2, .int .i64 half)]) Tryz.func14 rfl rfl ⟨rfl, rfl, rfl, trivial⟩ (St.start w) ?_
  refine JC.seq (fun K0 hK0 => ?_)
  refine JC.region ?_
  refine J.box rfl rfl rfl (fun b4 => ?_)
  refine J.assign rfl rfl ?_
  refine J.nil ?_
  refine JX.thenN (hK0 _ _ ?_)
  refine JC.seq (fun K1 hK1 => ?_)
  apply JC.drawX (α := Value × List (Nat × Obj) × Value × List (Nat × Obj)) 6 (fun x => match x with | ⟨v17, l17, v19, l19⟩ => [.agg (cI me).toArray, .pointer (some ⟨rt, 0, none⟩), .agg (cI me).toArray, v17, .int .i64 half, v19]) (fun m x => match x with | ⟨v17, l17, v19, l19⟩ => fun w1 => ((m 3 = true → Vec 24 16 v17 ((frI (R.filter ownB) me)).length (fI ((frI (R.filter ownB) me))) l17) ∧ (m 5 = true → Vec 24 16 v19 ((wnI (R.filter ownB) me half)).length (fI ((wnI (R.filter ownB) me half))) l19)) ∧ St w [] ((bif m 5 then l19 else []) ++ ((bif m 3 then l17 else []) ++ ((b4, cb (cI me) 24) :: []))) w1) Ty.mixed rfl rfl rfl (by kernel_rfl) rfl rfl ?hinit ?hstep ?htail
  case hinit => exact fun w1 hw => ⟨(.slice none 0 0, [], .slice none 0 0, []), ⟨fun h => (by cases h), fun h => (by cases h)⟩, hw.drew⟩
  case hstep =>
    refine ⟨fun m x hm hp => ?_, fun m x hm hp => ?_, fun m x hm hp => ?_, fun m x hm hp => ?_, fun m x hm hp => ?_, fun m x hm hp => ?_, trivial⟩
    · skip
      obtain ⟨v17, l17, v19, l19⟩ := x
      show J _ _ _ _ _ (_) _
      refine J.pr (fun hF => ?_)
      refine J.loadA (vs := cI me) Ty.a24 Ty.s24 rfl rfl (fun w1 hw => Cells.of_block (hw.own ((b4, cb (cI me) 24)) (by repeat first | exact .head _ | apply List.Mem.tail | apply List.mem_append_right)) rfl) rfl ?_
      exact J.finX rfl (fun _ hw => ⟨⟨v17, l17, v19, l19⟩, rfl, fun _ _ _ => rfl, hF, hw⟩)
    · skip
      obtain ⟨v17, l17, v19, l19⟩ := x
      show J _ _ _ _ _ (_) _
      refine J.pr (fun hF => ?_)
      refine J.move rfl rfl ?_
      exact J.finX rfl (fun _ hw => ⟨⟨v17, l17, v19, l19⟩, rfl, fun _ _ _ => rfl, hF, hw⟩)
    · skip
      obtain ⟨v17, l17, v19, l19⟩ := x
      show J _ _ _ _ _ (_) _
      refine J.pr (fun hF => ?_)
      refine J.loadA (vs := cI me) Ty.a24 Ty.s24 rfl rfl (fun w1 hw => Cells.of_block (hw.own ((b4, cb (cI me) 24)) (by repeat first | exact .head _ | apply List.Mem.tail | apply List.mem_append_right)) rfl) rfl ?_
      exact J.finX rfl (fun _ hw => ⟨⟨v17, l17, v19, l19⟩, rfl, fun _ _ _ => rfl, hF, hw⟩)
    · skip
      obtain ⟨v17, l17, v19, l19⟩ := x
      show J _ _ _ _ _ ((16, .agg (cI me).toArray) :: (15, .pointer (some ⟨rt, 0, none⟩)) :: _) _
      refine J.pr (fun hF => ?_)
      refine J.perm ([] ++ ((bif m 5 then l19 else []) ++ ((bif m 3 then l17 else []) ++ ((b4, cb (cI me) 24) :: [])))) (.refl _) ?_
      refine J.callS (α := Value × List (Nat × Obj)) (V := (·.1)) (Pr := fun x => Vec 24 16 x.1 ((frI (R.filter ownB) me)).length (fI ((frI (R.filter ownB) me))) x.2) (L := (·.2)) (l1 := []) Ty.bd11 rfl rfl (fun w1 hw => rfriends_spec rt v most R w1 (by rw [hw.keep rt (lt_of_some hrt) (by simp)]; exact hrt) (hrv.below (hw.drop (List.nil_sublist _)).below) hR hrl me) (fun x hvn => ?_)
      obtain ⟨vn, ln⟩ := x
      simp only at hvn ⊢
      refine J.nil (JX.finB rfl (fun w1 hw => ⟨⟨⟨vn, ln, v19, l19⟩, rfl, fun j h1 h2 => ?_, ?_⟩, trivial⟩))
      · match j, h1 with
        | 0, _ => (first | rfl | trivial)
        | 1, _ => (first | rfl | trivial)
        | 2, _ => (first | rfl | trivial)
        | 3, _ => exact absurd (h2.symm.trans hm) (by decide)
        | 4, _ => (first | rfl | trivial)
        | 5, _ => (first | rfl | trivial)
        | j + 6, h1 => omega
      show ((true = true → Vec 24 16 vn ((frI (R.filter ownB) me)).length (fI ((frI (R.filter ownB) me))) ln) ∧ (m 5 = true → Vec 24 16 v19 ((wnI (R.filter ownB) me half)).length (fI ((wnI (R.filter ownB) me half))) l19)) ∧ St w [] ((bif m 5 then l19 else []) ++ ((bif true then ln else []) ++ ((b4, cb (cI me) 24) :: []))) w1
      simp only [hm, cond_true, cond_false] at hw ⊢
      exact ⟨⟨fun _ => hvn, hF.2⟩, hw.perm (by (refine perm_cnt (fun _ => ?_)); simp only [cntB_append, cntB_cons, cntB_nil, Nat.add_zero, Nat.zero_add]; try ac_rfl)⟩
    · skip
      obtain ⟨v17, l17, v19, l19⟩ := x
      show J _ _ _ _ _ (_) _
      refine J.pr (fun hF => ?_)
      refine J.move rfl rfl ?_
      exact J.finX rfl (fun _ hw => ⟨⟨v17, l17, v19, l19⟩, rfl, fun _ _ _ => rfl, hF, hw⟩)
    · skip
      obtain ⟨v17, l17, v19, l19⟩ := x
      show J _ _ _ _ _ ((17, v17) :: (18, .int .i64 half) :: (17, v17) :: (14, .agg (cI me).toArray) :: _) _
      have hp3 : m 3 = true := predsT hp (by kernel_rfl)
      have hp3 : m 3 = true := predsT hp (by kernel_rfl)
      refine J.pr (fun hF => ?_)
      refine J.conseq (I' := St w [] ((bif m 5 then l19 else []) ++ (l17 ++ ((b4, cb (cI me) 24) :: [])))) ?_ (fun w1 hw => by simp only [hp3, cond_true] at hw; exact hw)
      refine J.perm ([] ++ ((bif m 5 then l19 else []) ++ (l17 ++ ((b4, cb (cI me) 24) :: [])))) (.refl _) ?_
      refine J.callS (α := Value × List (Nat × Obj)) (V := (·.1)) (Pr := fun x => Vec 24 16 x.1 ((wnI (R.filter ownB) me half)).length (fI ((wnI (R.filter ownB) me half))) x.2) (L := (·.2)) (l1 := []) Ty.bd22 rfl rfl (fun w1 hw => rwant_spec me _ (frI (R.filter ownB) me) half w1 (vec_rowM (hF.1 hp3) hw (fun q hq => by first | (simp [hq]; done) | (simp at hq; simp [hq]; done) | (simp at hq; subst hq; simp))) (by omega)) (fun x hvn => ?_)
      obtain ⟨vn, ln⟩ := x
      simp only at hvn ⊢
      refine J.nil (JX.finB rfl (fun w1 hw => ⟨⟨⟨v17, l17, vn, ln⟩, rfl, fun j h1 h2 => ?_, ?_⟩, trivial⟩))
      · match j, h1 with
        | 0, _ => (first | rfl | trivial)
        | 1, _ => (first | rfl | trivial)
        | 2, _ => (first | rfl | trivial)
        | 3, _ => (first | rfl | trivial)
        | 4, _ => (first | rfl | trivial)
        | 5, _ => exact absurd (h2.symm.trans hm) (by decide)
        | j + 6, h1 => omega
      show ((m 3 = true → Vec 24 16 v17 ((frI (R.filter ownB) me)).length (fI ((frI (R.filter ownB) me))) l17) ∧ (true = true → Vec 24 16 vn ((wnI (R.filter ownB) me half)).length (fI ((wnI (R.filter ownB) me half))) ln)) ∧ St w [] ((bif true then ln else []) ++ ((bif m 3 then l17 else []) ++ ((b4, cb (cI me) 24) :: []))) w1
      simp only [hm, hp3, cond_true, cond_false] at hw ⊢
      exact ⟨⟨fun _ => hF.1 hp3, fun _ => hvn⟩, hw.perm (by (refine perm_cnt (fun _ => ?_)); simp only [cntB_append, cntB_cons, cntB_nil, Nat.add_zero, Nat.zero_add]; try ac_rfl)⟩
  case htail =>
    intro x
    obtain ⟨v17, l17, v19, l19⟩ := x
    show J _ _ _ _ _ ((19, v19) :: (18, .int .i64 half) :: (17, v17) :: (16, .agg (cI me).toArray) :: (15, .pointer (some ⟨rt, 0, none⟩)) :: (14, .agg (cI me).toArray) :: _) (fun w1 => ((true = true → Vec 24 16 v17 ((frI (R.filter ownB) me)).length (fI ((frI (R.filter ownB) me))) l17) ∧ (true = true → Vec 24 16 v19 ((wnI (R.filter ownB) me half)).length (fI ((wnI (R.filter ownB) me half))) l19)) ∧ St w [] ((bif true then l19 else []) ++ ((bif true then l17 else []) ++ ((b4, cb (cI me) 24) :: []))) w1)
    refine J.pr (fun hF => ?_)
    have hv19 := hF.2 rfl
    refine J.conseq (I' := St w [] (l19 ++ (l17 ++ ((b4, cb (cI me) 24) :: [])))) ?_ (fun w1 hw => by simp only [cond_true] at hw; exact hw)
    refine J.assign rfl rfl ?_
    refine J.nil ?_
    refine JX.thenN (hK1 _ _ ?_)
    refine JC.seq (fun K2 hK2 => ?_)
    refine JC.region ?_
    refine J.assign rfl rfl ?_
    refine J.nil ?_
    refine JX.thenN (hK2 _ _ ?_)
    refine JC.seq (fun K3 hK3 => ?_)
    refine JC.region ?_
    refine J.move rfl rfl ?_
    refine J.perm ([] ++ (l19 ++ (l17 ++ ((b4, cb (cI me) 24) :: [])))) (.refl _) ?_
    refine J.callS (α := Value × List (Nat × Obj)) (V := (·.1)) (Pr := fun x => Vec 33 51 x.1 ((R.filter ownB)).length (fE ((R.filter ownB))) x.2) (L := (·.2)) (l1 := []) Ty.bd28 rfl rfl (fun w1 hw => rown_spec rt v most R w1 (by rw [hw.keep rt (lt_of_some hrt) (by simp)]; exact hrt) (hrv.below (hw.drop (List.nil_sublist _)).below) hR hrl) (fun x hvo => ?_)
    obtain ⟨vo, lo⟩ := x
    simp only at hvo ⊢
    obtain ⟨ao, co, rfl, hco⟩ := hvo.form
    refine J.assign rfl rfl ?_
    refine J.nil ?_
    refine JX.thenN (hK3 _ _ ?_)
    refine JC.seq (fun K4 hK4 => ?_)
    refine JC.seq (fun K5 hK5 => ?_)
    refine JC.region ?_
    refine J.assign rfl rfl ?_
    refine J.nil ?_
    refine JX.thenN (hK5 _ _ ?_)
    refine JC.block ?_
    refine JC.conseq (JC.cov (f := (fun st => [(7, v19), (8, st.2.1), (9, .slice ao (R.filter ownB).length co), (10, .int .i64 ((st.1 : Nat) : Int))]) ((0, .slice none 0 0, []) : Nat × Value × List (Nat × Obj))) ⟨rfl, rfl, rfl, rfl, trivial⟩ (JC.loop (α := Nat × Value × List (Nat × Obj)) (fun st => [(7, v19), (8, st.2.1), (9, .slice ao (R.filter ownB).length co), (10, .int .i64 ((st.1 : Nat) : Int))]) (fun st w' => (st.1 ≤ (R.filter ownB).length ∧ Vec 31 17 st.2.1 ((spP ((R.filter ownB).take st.1) (wnI (R.filter ownB) me half))).length (fP ((spP ((R.filter ownB).take st.1) (wnI (R.filter ownB) me half)))) st.2.2) ∧ St w [] (st.2.2 ++ (l19 ++ (l17 ++ ((b4, cb (cI me) 24) :: lo)))) w') (fun st => (R.filter ownB).length - st.1) ((0, .slice none 0 0, []) : Nat × Value × List (Nat × Obj)) (fun st => ?_))) (fun w hw => ⟨⟨Nat.zero_le _, Vec.nil _ _⟩, hw.perm (by (refine perm_cnt (fun _ => ?_)); simp only [cntB_append, cntB_cons, cntB_nil, Nat.add_zero, Nat.zero_add]; try ac_rfl)⟩)
    obtain ⟨i, v8, l8⟩ := st
    refine JC.pr (fun hx1 => ?_)
    obtain ⟨hi, hv8⟩ := hx1
    simp only at hi hv8 ⊢
    have hml : (spP ((R.filter ownB).take i) (wnI (R.filter ownB) me half)).length ≤ i := Nat.le_trans (sp_le _ _) (by rw [List.length_take]; omega)
    refine JC.seq (fun K6 hK6 => ?_)
    refine JC.seq (fun K7 hK7 => ?_)
    refine JC.region ?_
    refine J.move rfl rfl ?_
    refine J.move rfl rfl ?_
    refine J.lenS rfl Ty.u22 rfl rfl ?_
    refine J.bin rfl rfl rfl rfl ?_
    refine J.nil ?_
    refine JX.thenN (hK7 _ _ ?_)
    refine JC.cond rfl (fun h0 => ?_) (fun h0 => ?_)
    · skip
      have hlt : i < (R.filter ownB).length := by simp at h0; omega
      obtain ⟨qo, rfl⟩ : ∃ q, ao = some ⟨q, 0, none⟩ := by
        obtain ⟨q, sp, h9, _⟩ := vec_pos hvo (by omega)
        exact ⟨q, h9⟩
      obtain ⟨xe, hxe⟩ : ∃ x, (R.filter ownB)[i]? = some x := ⟨_, List.getElem?_eq_getElem hlt⟩
      have hxo := hOok xe (List.mem_of_getElem? hxe)
      refine JC.skip ?_
      refine JX.thenN (hK6 _ _ ?_)
      refine JC.seq (fun K8 hK8 => ?_)
      refine JC.block ?_
      refine JC.seq (fun K9 hK9 => ?_)
      refine JC.region ?_
      refine J.move rfl rfl ?_
      refine J.move rfl rfl ?_
      refine J.indexAddrS Ty.el22 Ty.s33 rfl rfl (by omega) (by omega) rfl ?_
      refine J.loadA (vs := cE xe) Ty.a33 Ty.s33 rfl rfl (fun w1 hw => rowE_at (o := 0) (vec_rowM hvo hw (fun q hq => by first | (simp [hq]; done) | (simp at hq; simp [hq]; done) | (simp at hq; subst hq; simp))) hxe (by omega)) rfl ?_
      refine J.callB (v := .tuple #[.agg (cI (otherV xe).1).toArray, .int .i64 (otherV xe).2.1, .bool (otherV xe).2.2]) (fun w1 w2 hw hb => hw.step hb) Ty.bd29 rfl rfl (fun w1 hw => rother_spec xe w1) ?_
      refine J.move rfl rfl ?_
      refine J.extract rfl rfl rfl ?_
      refine J.extract rfl rfl rfl ?_
      refine J.extract rfl rfl rfl ?_
      refine J.alloc Ty.zID rfl rfl (fun b11 => ?_)
      refine J.storeW (cs := cI zI) (vs := cI (othE xe)) Ty.s24 rfl rfl rfl rfl rfl (one_cI _) .here ?_
      refine J.assign rfl rfl ?_
      refine J.assign rfl rfl ?_
      refine J.nil ?_
      refine JX.thenN (hK9 _ _ ?_)
      refine JC.seq (fun K10 hK10 => ?_)
      refine JC.region ?_
      refine J.move rfl rfl ?_
      refine J.loadOA (vs := cI (othE xe)) Ty.a24 Ty.s24 rfl (.head _) rfl rfl rfl ?_
      refine J.callB (v := .bool (decide (othE xe ∈ (wnI (R.filter ownB) me half)))) (fun w1 w2 hw hb => hw.step hb) Ty.bd37 rfl rfl (fun w1 hw => rhas_spec _ (wnI (R.filter ownB) me half) (othE xe) w1 (vec_rowM hv19 hw (fun q hq => by first | (simp [hq]; done) | (simp at hq; simp [hq]; done) | (simp at hq; subst hq; simp))) (by omega)) ?_
      refine J.not rfl rfl ?_
      refine J.nil ?_
      refine JX.thenN (hK10 _ _ ?_)
      refine JC.cond rfl (fun h1 => ?_) (fun h1 => ?_)
      · skip
        have hx : decide (othE xe ∈ (wnI (R.filter ownB) me half)) = false := by
          revert h1
          cases decide (othE xe ∈ (wnI (R.filter ownB) me half)) <;> simp
        refine JC.region ?_
        refine J.move rfl rfl ?_
        refine J.move rfl rfl ?_
        refine J.move rfl rfl ?_
        refine J.indexAddrS Ty.el22 Ty.s33 rfl rfl (by omega) (by omega) rfl ?_
        refine J.fieldAddr Ty.fd33_0 rfl rfl ?_
        refine J.loadA (vs := cP xe.p) Ty.a31 Ty.s31 rfl rfl (fun w1 hw => cells_part (k := 0) (rowE_at (o := 0) (vec_rowM hvo hw (fun q hq => by first | (simp [hq]; done) | (simp at hq; simp [hq]; done) | (simp at hq; subst hq; simp))) hxe rfl) rfl (by show 0 + 17 ≤ 51; decide)) rfl ?_
        refine J.buildSl (cs := cP xe.p) Ty.el43 Ty.s31 zPa rfl rfl rfl rfl (by kernel_rfl) rfl rfl (fun b47 => ?_)
        refine J.perm (l8 ++ ((b47, cb (cP xe.p) 31) :: (b11, cb (cI (othE xe)) 24) :: l19 ++ (l17 ++ ((b4, cb (cI me) 24) :: lo)))) (by (refine perm_cnt (fun _ => ?_)); simp only [cntB_append, cntB_cons, cntB_nil, Nat.add_zero, Nat.zero_add]; try ac_rfl) ?_
        refine J.append (lp := l8) (xs := fP (spP ((R.filter ownB).take i) (wnI (R.filter ownB) me half))) (ys := cP xe.p) (k := (spP ((R.filter ownB).take i) (wnI (R.filter ownB) me half)).length) (m := 1) Ty.el43 Ty.s31 Ty.b31 zPa rfl (.inl ⟨31, Ty.u43⟩) rfl rfl hv8 (fun w3 hw3 => .inl (Row.own (cs := cP xe.p) (tb := 31) (fr := (0, 0)) hw3 (by repeat first | exact .head _ | apply List.Mem.tail | apply List.mem_append_right) rfl (Nat.le_refl _))) rfl (one_cP _) (by omega) (by omega) rfl (fun vn ln hvn => ?_)
        refine J.assign rfl rfl ?_
        refine J.nil ?_
        refine JX.blockN ?_
        refine JX.thenN (hK8 _ _ ?_)
        refine JC.region ?_
        refine J.move rfl rfl ?_
        (first | refine J.addN rfl rfl (by omega) (by omega) rfl ?_ | refine J.bin rfl rfl rfl rfl ?_)
        refine J.assign rfl rfl ?_
        refine J.nil ?_
        refine JX.thenN ?_
        refine JX.again ((i + 1, vn, ln) : Nat × Value × List (Nat × Obj)) ?_ ?_ ?_
        · simp only; omega
        · exact ⟨rfl, rfl, rfl, rfl, trivial⟩
        · exact fun w1 hw => ⟨⟨hlt, by simp only; rw [sp_yes hxe hx]; exact snocP hvn⟩, (hw.perm (l' := (b47, cb (cP xe.p) 31) :: (b11, cb (cI (othE xe)) 24) :: ln ++ (l19 ++ (l17 ++ ((b4, cb (cI me) 24) :: lo)))) (by (refine perm_cnt (fun _ => ?_)); simp only [cntB_append, cntB_cons, cntB_nil, Nat.add_zero, Nat.zero_add]; try ac_rfl)).drop (.cons _ (.cons _ (List.Sublist.refl _)))⟩
      · skip
        have hx : decide (othE xe ∈ (wnI (R.filter ownB) me half)) = true := by
          revert h1
          cases decide (othE xe ∈ (wnI (R.filter ownB) me half)) <;> simp
        refine JC.skip ?_
        refine JX.blockN ?_
        refine JX.thenN (hK8 _ _ ?_)
        refine JC.region ?_
        refine J.move rfl rfl ?_
        (first | refine J.addN rfl rfl (by omega) (by omega) rfl ?_ | refine J.bin rfl rfl rfl rfl ?_)
        refine J.assign rfl rfl ?_
        refine J.nil ?_
        refine JX.thenN ?_
        refine JX.again ((i + 1, v8, l8) : Nat × Value × List (Nat × Obj)) ?_ ?_ ?_
        · simp only; omega
        · exact ⟨rfl, rfl, rfl, rfl, trivial⟩
        · exact fun w1 hw => ⟨⟨hlt, by simp only; rw [sp_no hxe hx]; exact hv8⟩, hw.drop (.cons _ (List.Sublist.refl _))⟩
    · skip
      have hge : i = (R.filter ownB).length := by simp at h0; omega
      subst hge
      rw [List.take_length] at *
      refine JC.exit ?_
      refine JX.thenE ?_
      refine JX.thenE ?_
      refine JX.blockE ?_
      refine JX.thenN (hK4 _ _ ?_)
      refine JC.seq (fun K11 hK11 => ?_)
      refine JC.region ?_
      refine J.move rfl rfl ?_
      refine J.assign rfl rfl ?_
      refine J.nil ?_
      refine JX.thenN (hK11 _ _ ?_)
      refine JC.ret ?_
      refine JX.ret1 rfl rfl (fun w hw => ?_)
      exact ⟨(v8, l8), rfl, hv8, hw.drop (List.sublist_append_left _ _)⟩

end Go.Proofs.YtohldionclgljaaGreat
/-
  Twins of the program and of the document: contracts.
-/
namespace Go.Proofs.YtohldionclgljaaGreat
open Go.J Go.RowKit
set_option linter.unusedVariables false
set_option linter.unusedSimpArgs false
set_option maxRecDepth 8000

set_option maxHeartbeats 1000000 in
theorem twins_spec (t mb : Nat) (most : Int) (L : List EV) (es : Array MapEntry) (clock : Nat) (w : World) (ht : w.heap[t]? = some (tabO most mb)) (hmm : w.heap[mb]? = some (.map es clock)) (hT : Tab L es clock) (hn : L.length ≤ 1099511627776) :
    Calls Tryz.prog 15 [.pointer (some ⟨t, 0, none⟩)].toArray w fun r w' => ∃ x : Value × List (Nat × Obj), r = .returned x.1 ∧ Vec 31 17 x.1 (twP ((ordE L).filter ownB) ((ordE L).filter ownB).length).length (fP (twP ((ordE L).filter ownB) ((ordE L).filter ownB).length)) x.2 ∧ St w [] x.2 w' := by
  have hol := List.length_filter_le ownB (ordE L)
  have hpl := (ordE_perm L).length_eq
  have hOok : ∀ x, x ∈ (ordE L).filter ownB → okE x := fun x hx => hT.ok x ((ordE_perm L).mem_iff.1 (List.mem_filter.1 hx).1)
  refine calls_of_J (args := [.pointer (some ⟨t, 0, none⟩)]) (e := [(0, .pointer (some ⟨t, 0, none⟩))]) Tryz.func15 rfl rfl ⟨rfl, trivial⟩ (St.start w) ?_
  refine JC.seq (fun K0 hK0 => ?_)
  refine JC.region ?_
  refine J.assign rfl rfl ?_
  refine J.nil ?_
  refine JX.thenN (hK0 _ _ ?_)
  refine JC.seq (fun K1 hK1 => ?_)
  refine JC.region ?_
  refine J.assign rfl rfl ?_
  refine J.nil ?_
  refine JX.thenN (hK1 _ _ ?_)
  refine JC.seq (fun K2 hK2 => ?_)
  refine JC.region ?_
  refine J.assign rfl rfl ?_
  refine J.nil ?_
  refine JX.thenN (hK2 _ _ ?_)
  refine JC.seq (fun K3 hK3 => ?_)
  refine JC.seq (fun K4 hK4 => ?_)
  refine JC.region ?_
  refine J.move rfl rfl ?_
  refine J.perm ([] ++ ([])) (.refl _) ?_
  refine J.callS (α := Value × List (Nat × Obj)) (V := (·.1)) (Pr := fun x => Vec 33 51 x.1 (((ordE L).filter ownB)).length (fE (((ordE L).filter ownB))) x.2) (L := (·.2)) (l1 := []) Ty.bd20 rfl rfl (fun w1 hw => own_spec t mb most L es clock w1 (by rw [hw.keep t (lt_of_some ht) (by simp)]; exact ht) (by rw [hw.keep mb (lt_of_some hmm) (by simp)]; exact hmm) hT hn) (fun x hvo => ?_)
  obtain ⟨vo, lo⟩ := x
  simp only at hvo ⊢
  obtain ⟨ao, co, rfl, hco⟩ := hvo.form
  refine J.lenS rfl Ty.u22 rfl rfl ?_
  refine J.move rfl rfl ?_
  refine J.nil ?_
  refine JX.thenN (hK4 _ _ ?_)
  refine JC.block ?_
  refine JC.conseq (JC.cov (f := (fun st => [(3, st.2.1), (4, st.2.2.2.1), (11, .slice ao ((ordE L).filter ownB).length co), (12, .int .i64 ((((ordE L).filter ownB).length : Nat) : Int)), (13, .int .i64 ((st.1 : Nat) : Int))]) ((0, .slice none 0 0, [], .slice none 0 0, []) : Nat × Value × List (Nat × Obj) × Value × List (Nat × Obj))) ⟨rfl, rfl, rfl, rfl, rfl, trivial⟩ (JC.loop (α := Nat × Value × List (Nat × Obj) × Value × List (Nat × Obj)) (fun st => [(3, st.2.1), (4, st.2.2.2.1), (11, .slice ao ((ordE L).filter ownB).length co), (12, .int .i64 ((((ordE L).filter ownB).length : Nat) : Int)), (13, .int .i64 ((st.1 : Nat) : Int))]) (fun st w' => (st.1 ≤ ((ordE L).filter ownB).length ∧ Vec 24 16 st.2.1 (((((ordE L).filter ownB).take st.1).map othE)).length (fI (((((ordE L).filter ownB).take st.1).map othE))) st.2.2.1 ∧ Vec 31 17 st.2.2.2.1 ((twP ((ordE L).filter ownB) st.1)).length (fP ((twP ((ordE L).filter ownB) st.1))) st.2.2.2.2) ∧ St w [] (st.2.2.1 ++ (st.2.2.2.2 ++ lo)) w') (fun st => ((ordE L).filter ownB).length - st.1) ((0, .slice none 0 0, [], .slice none 0 0, []) : Nat × Value × List (Nat × Obj) × Value × List (Nat × Obj)) (fun st => ?_))) (fun w hw => ⟨⟨Nat.zero_le _, Vec.nil _ _, Vec.nil _ _⟩, hw.perm (by (refine perm_cnt (fun _ => ?_)); simp only [cntB_append, cntB_cons, cntB_nil, Nat.add_zero, Nat.zero_add]; try ac_rfl)⟩)
  obtain ⟨i, v3, l3, v4, l4⟩ := st
  refine JC.pr (fun hx1 => ?_)
  obtain ⟨hi, hv3, hv4⟩ := hx1
  simp only at hi hv3 hv4 ⊢
  have hml : ((((ordE L).filter ownB).take i).map othE).length ≤ i := by rw [List.length_map, List.length_take]; omega
  have htl := tw_le ((ordE L).filter ownB) i
  refine JC.seq (fun K5 hK5 => ?_)
  refine JC.region ?_
  refine J.bin rfl rfl rfl rfl ?_
  refine J.nil ?_
  refine JX.thenN (hK5 _ _ ?_)
  refine JC.seq (fun K6 hK6 => ?_)
  refine JC.cond rfl (fun h0 => ?_) (fun h0 => ?_)
  · skip
    have hlt : i < ((ordE L).filter ownB).length := by simp at h0; omega
    obtain ⟨qo, rfl⟩ : ∃ q, ao = some ⟨q, 0, none⟩ := by
      obtain ⟨q, sp, h9, _⟩ := vec_pos hvo (by omega)
      exact ⟨q, h9⟩
    obtain ⟨xe, hxe⟩ : ∃ x, ((ordE L).filter ownB)[i]? = some x := ⟨_, List.getElem?_eq_getElem hlt⟩
    have hxo := hOok xe (List.mem_of_getElem? hxe)
    refine JC.skip ?_
    refine JX.thenN (hK6 _ _ ?_)
    refine JC.seq (fun K7 hK7 => ?_)
    refine JC.block ?_
    refine JC.seq (fun K8 hK8 => ?_)
    refine JC.region ?_
    refine J.indexAddrS Ty.el22 Ty.s33 rfl rfl (by omega) (by omega) rfl ?_
    refine J.loadA (vs := cE xe) Ty.a33 Ty.s33 rfl rfl (fun w1 hw => rowE_at (o := 0) (vec_rowM hvo hw (fun q hq => by first | (simp [hq]; done) | (simp at hq; simp [hq]; done) | (simp at hq; subst hq; simp))) hxe (by omega)) rfl ?_
    refine J.alloc Ty.zE_ rfl rfl (fun b6 => ?_)
    refine J.storeW (cs := cE zE) (vs := cE xe) Ty.s33 rfl rfl rfl rfl rfl (one_cE _) .here ?_
    refine J.nil ?_
    refine JX.thenN (hK8 _ _ ?_)
    refine JC.seq (fun K9 hK9 => ?_)
    refine JC.region ?_
    refine J.loadOA (vs := cE xe) Ty.a33 Ty.s33 rfl (.head _) rfl rfl rfl ?_
    refine J.callB (v := .tuple #[.agg (cI (otherV xe).1).toArray, .int .i64 (otherV xe).2.1, .bool (otherV xe).2.2]) (fun w1 w2 hw hb => hw.step hb) Ty.bd21 rfl rfl (fun w1 hw => other_spec xe w1) ?_
    refine J.move rfl rfl ?_
    refine J.extract rfl rfl rfl ?_
    refine J.extract rfl rfl rfl ?_
    refine J.extract rfl rfl rfl ?_
    refine J.alloc Ty.zID rfl rfl (fun b7 => ?_)
    refine J.storeW (cs := cI zI) (vs := cI (othE xe)) Ty.s24 rfl rfl rfl rfl rfl (one_cI _) .here ?_
    refine J.assign rfl rfl ?_
    refine J.assign rfl rfl ?_
    refine J.nil ?_
    refine JX.thenN (hK9 _ _ ?_)
    refine JC.seq (fun K10 hK10 => ?_)
    refine JC.seq (fun K11 hK11 => ?_)
    refine JC.region ?_
    refine J.move rfl rfl ?_
    refine J.loadOA (vs := cI (othE xe)) Ty.a24 Ty.s24 rfl (.head _) rfl rfl rfl ?_
    refine J.callB (v := .bool (decide (othE xe ∈ ((((ordE L).filter ownB).take i).map othE)))) (fun w1 w2 hw hb => hw.step hb) Ty.bd36 rfl rfl (fun w1 hw => hasI_spec _ ((((ordE L).filter ownB).take i).map othE) (othE xe) w1 (vec_rowM hv3 hw (fun q hq => by first | (simp [hq]; done) | (simp at hq; simp [hq]; done) | (simp at hq; subst hq; simp))) (by omega)) ?_
    refine J.nil ?_
    refine JX.thenN (hK11 _ _ ?_)
    refine JC.cond rfl (fun h1 => ?_) (fun h1 => ?_)
    · skip
      have hx : othE xe ∈ ((((ordE L).filter ownB).take i).map othE) := by simpa using h1
      refine JC.region ?_
      refine J.move rfl rfl ?_
      refine J.fieldAddr Ty.fd33_0 rfl rfl ?_
      refine J.loadOA (vs := cP xe.p) Ty.a31 Ty.s31 rfl (.tail _ (.head _)) rfl rfl rfl ?_
      refine J.buildSl (cs := cP xe.p) Ty.el43 Ty.s31 zPa rfl rfl rfl rfl (by kernel_rfl) rfl rfl (fun b29 => ?_)
      refine J.perm (l4 ++ ((b29, cb (cP xe.p) 31) :: (b7, cb (cI (othE xe)) 24) :: (b6, cb (cE xe) 33) :: (l3 ++ lo))) (by (refine perm_cnt (fun _ => ?_)); simp only [cntB_append, cntB_cons, cntB_nil, Nat.add_zero, Nat.zero_add]; try ac_rfl) ?_
      refine J.append (lp := l4) (xs := fP (twP ((ordE L).filter ownB) i)) (ys := cP xe.p) (k := (twP ((ordE L).filter ownB) i).length) (m := 1) Ty.el43 Ty.s31 Ty.b31 zPa rfl (.inl ⟨31, Ty.u43⟩) rfl rfl hv4 (fun w3 hw3 => .inl (Row.own (cs := cP xe.p) (tb := 31) (fr := (0, 0)) hw3 (by repeat first | exact .head _ | apply List.Mem.tail | apply List.mem_append_right) rfl (Nat.le_refl _))) rfl (one_cP _) (by omega) (by omega) rfl (fun vn4 ln4 hvn4 => ?_)
      refine J.assign rfl rfl ?_
      refine J.nil ?_
      refine JX.thenN (hK10 _ _ ?_)
      refine JC.conseq (I' := St w [] ((b7, cb (cI (othE xe)) 24) :: (b6, cb (cE xe) 33) :: (l3 ++ (ln4 ++ lo)))) ?_ (fun w1 hw => (hw.perm (l' := (b29, cb (cP xe.p) 31) :: (b7, cb (cI (othE xe)) 24) :: (b6, cb (cE xe) 33) :: (l3 ++ (ln4 ++ lo))) (by (refine perm_cnt (fun _ => ?_)); simp only [cntB_append, cntB_cons, cntB_nil, Nat.add_zero, Nat.zero_add]; try ac_rfl)).drop (List.sublist_cons_self _ _))
      refine JC.region ?_
      refine J.move rfl rfl ?_
      refine J.loadOA (vs := cI (othE xe)) Ty.a24 Ty.s24 rfl (.head _) rfl rfl rfl ?_
      refine J.buildSl (cs := cI (othE xe)) Ty.el39 Ty.s24 Ty.zID rfl rfl rfl rfl (by kernel_rfl) rfl rfl (fun b33 => ?_)
      refine J.perm (l3 ++ ((b33, cb (cI (othE xe)) 24) :: (b7, cb (cI (othE xe)) 24) :: (b6, cb (cE xe) 33) :: (ln4 ++ lo))) (by (refine perm_cnt (fun _ => ?_)); simp only [cntB_append, cntB_cons, cntB_nil, Nat.add_zero, Nat.zero_add]; try ac_rfl) ?_
      refine J.append (lp := l3) (xs := fI ((((ordE L).filter ownB).take i).map othE)) (ys := cI (othE xe)) (k := ((((ordE L).filter ownB).take i).map othE).length) (m := 1) Ty.el39 Ty.s24 Ty.b24 Ty.zID rfl (.inl ⟨24, Ty.u39⟩) rfl rfl hv3 (fun w3 hw3 => .inl (Row.own (cs := cI (othE xe)) (tb := 24) (fr := (0, 0)) hw3 (by repeat first | exact .head _ | apply List.Mem.tail | apply List.mem_append_right) rfl (Nat.le_refl _))) rfl (one_cI _) (by omega) (by omega) rfl (fun vn ln hvn => ?_)
      refine J.assign rfl rfl ?_
      refine J.nil ?_
      refine JX.blockN ?_
      refine JX.thenN (hK7 _ _ ?_)
      refine JC.region ?_
      (first | refine J.addN rfl rfl (by omega) (by omega) rfl ?_ | refine J.bin rfl rfl rfl rfl ?_)
      refine J.move rfl rfl ?_
      refine J.nil ?_
      refine JX.thenN ?_
      refine JX.again ((i + 1, vn, ln, vn4, ln4) : Nat × Value × List (Nat × Obj) × Value × List (Nat × Obj)) ?_ ?_ ?_
      · simp only; omega
      · exact ⟨rfl, rfl, rfl, rfl, rfl, trivial⟩
      · exact fun w1 hw => ⟨⟨hlt, by simp only; rw [map_step hxe]; exact fI_snoc hvn, by simp only; rw [tw_yes hxe hx]; exact snocP hvn4⟩, (hw.perm (l' := (b33, cb (cI (othE xe)) 24) :: (b7, cb (cI (othE xe)) 24) :: (b6, cb (cE xe) 33) :: (ln ++ (ln4 ++ lo))) (by (refine perm_cnt (fun _ => ?_)); simp only [cntB_append, cntB_cons, cntB_nil, Nat.add_zero, Nat.zero_add]; try ac_rfl)).drop (.cons _ (.cons _ (.cons _ (List.Sublist.refl _))))⟩
    · skip
      have hx : ¬ othE xe ∈ ((((ordE L).filter ownB).take i).map othE) := by simpa using h1
      refine JC.skip ?_
      refine JX.thenN (hK10 _ _ ?_)
      refine JC.region ?_
      refine J.move rfl rfl ?_
      refine J.loadOA (vs := cI (othE xe)) Ty.a24 Ty.s24 rfl (.head _) rfl rfl rfl ?_
      refine J.buildSl (cs := cI (othE xe)) Ty.el39 Ty.s24 Ty.zID rfl rfl rfl rfl (by kernel_rfl) rfl rfl (fun b33 => ?_)
      refine J.perm (l3 ++ ((b33, cb (cI (othE xe)) 24) :: (b7, cb (cI (othE xe)) 24) :: (b6, cb (cE xe) 33) :: (l4 ++ lo))) (by (refine perm_cnt (fun _ => ?_)); simp only [cntB_append, cntB_cons, cntB_nil, Nat.add_zero, Nat.zero_add]; try ac_rfl) ?_
      refine J.append (lp := l3) (xs := fI ((((ordE L).filter ownB).take i).map othE)) (ys := cI (othE xe)) (k := ((((ordE L).filter ownB).take i).map othE).length) (m := 1) Ty.el39 Ty.s24 Ty.b24 Ty.zID rfl (.inl ⟨24, Ty.u39⟩) rfl rfl hv3 (fun w3 hw3 => .inl (Row.own (cs := cI (othE xe)) (tb := 24) (fr := (0, 0)) hw3 (by repeat first | exact .head _ | apply List.Mem.tail | apply List.mem_append_right) rfl (Nat.le_refl _))) rfl (one_cI _) (by omega) (by omega) rfl (fun vn ln hvn => ?_)
      refine J.assign rfl rfl ?_
      refine J.nil ?_
      refine JX.blockN ?_
      refine JX.thenN (hK7 _ _ ?_)
      refine JC.region ?_
      (first | refine J.addN rfl rfl (by omega) (by omega) rfl ?_ | refine J.bin rfl rfl rfl rfl ?_)
      refine J.move rfl rfl ?_
      refine J.nil ?_
      refine JX.thenN ?_
      refine JX.again ((i + 1, vn, ln, v4, l4) : Nat × Value × List (Nat × Obj) × Value × List (Nat × Obj)) ?_ ?_ ?_
      · simp only; omega
      · exact ⟨rfl, rfl, rfl, rfl, rfl, trivial⟩
      · exact fun w1 hw => ⟨⟨hlt, by simp only; rw [map_step hxe]; exact fI_snoc hvn, by simp only; rw [tw_no hxe hx]; exact hv4⟩, (hw.perm (l' := (b33, cb (cI (othE xe)) 24) :: (b7, cb (cI (othE xe)) 24) :: (b6, cb (cE xe) 33) :: (ln ++ (l4 ++ lo))) (by (refine perm_cnt (fun _ => ?_)); simp only [cntB_append, cntB_cons, cntB_nil, Nat.add_zero, Nat.zero_add]; try ac_rfl)).drop (.cons _ (.cons _ (.cons _ (List.Sublist.refl _))))⟩
  · skip
    have hge : i = ((ordE L).filter ownB).length := by simp at h0; omega
    subst hge
    refine JC.exit ?_
    refine JX.thenE ?_
    refine JX.thenE ?_
    refine JX.blockE ?_
    refine JX.thenN (hK3 _ _ ?_)
    refine JC.seq (fun K12 hK12 => ?_)
    refine JC.region ?_
    refine J.move rfl rfl ?_
    refine J.assign rfl rfl ?_
    refine J.nil ?_
    refine JX.thenN (hK12 _ _ ?_)
    refine JC.ret ?_
    refine JX.ret1 rfl rfl (fun w hw => ?_)
    exact ⟨(v4, l4), rfl, hv4, (hw.perm (l' := l3 ++ (lo ++ l4)) (by (refine perm_cnt (fun _ => ?_)); simp only [cntB_append, cntB_cons, cntB_nil, Nat.add_zero, Nat.zero_add]; try ac_rfl)).drop (((List.sublist_append_right _ _)).trans (List.sublist_append_right _ _))⟩

set_option maxHeartbeats 1000000 in
theorem rtwins_spec (rt : Nat) (v : Value) (most : Int) (R : List EV) (w : World) (hrt : w.heap[rt]? = some (rtabO v most)) (hrv : Row w v R.length (fE R)) (hR : ∀ x, x ∈ R → okE x) (hrl : R.length ≤ 1099511627776) :
    Calls Tryz.prog 16 [.pointer (some ⟨rt, 0, none⟩)].toArray w fun r w' => ∃ x : Value × List (Nat × Obj), r = .returned x.1 ∧ Vec 31 17 x.1 (twP (R.filter ownB) (R.filter ownB).length).length (fP (twP (R.filter ownB) (R.filter ownB).length)) x.2 ∧ St w [] x.2 w' := by
  have hol := List.length_filter_le ownB R
  have hOok : ∀ x, x ∈ R.filter ownB → okE x := fun x hx => hR x (List.mem_filter.1 hx).1
  refine calls_of_J (args := [.pointer (some ⟨rt, 0, none⟩)]) (e := [(0, .pointer (some ⟨rt, 0, none⟩))]) Tryz.func16 rfl rfl ⟨rfl, trivial⟩ (St.start w) ?_
  refine JC.seq (fun K0 hK0 => ?_)
  refine JC.region ?_
  refine J.assign rfl rfl ?_
  refine J.nil ?_
  refine JX.thenN (hK0 _ _ ?_)
  refine JC.seq (fun K1 hK1 => ?_)
  refine JC.region ?_
  refine J.assign rfl rfl ?_
  refine J.nil ?_
  refine JX.thenN (hK1 _ _ ?_)
  refine JC.seq (fun K2 hK2 => ?_)
  refine JC.region ?_
  refine J.move rfl rfl ?_
  refine J.perm ([] ++ ([])) (.refl _) ?_
  refine J.callS (α := Value × List (Nat × Obj)) (V := (·.1)) (Pr := fun x => Vec 33 51 x.1 ((R.filter ownB)).length (fE ((R.filter ownB))) x.2) (L := (·.2)) (l1 := []) Ty.bd28 rfl rfl (fun w1 hw => rown_spec rt v most R w1 (by rw [hw.keep rt (lt_of_some hrt) (by simp)]; exact hrt) (hrv.below (hw.drop (List.nil_sublist _)).below) hR hrl) (fun x hvo => ?_)
  obtain ⟨vo, lo⟩ := x
  simp only at hvo ⊢
  obtain ⟨ao, co, rfl, hco⟩ := hvo.form
  refine J.assign rfl rfl ?_
  refine J.nil ?_
  refine JX.thenN (hK2 _ _ ?_)
  refine JC.seq (fun K3 hK3 => ?_)
  refine JC.seq (fun K4 hK4 => ?_)
  refine JC.region ?_
  refine J.assign rfl rfl ?_
  refine J.nil ?_
  refine JX.thenN (hK4 _ _ ?_)
  refine JC.block ?_
  refine JC.conseq (JC.cov (f := (fun st => [(3, st.2.1), (4, .slice ao (R.filter ownB).length co), (5, .int .i64 ((st.1 : Nat) : Int))]) ((0, .slice none 0 0, []) : Nat × Value × List (Nat × Obj))) ⟨rfl, rfl, rfl, trivial⟩ (JC.loop (α := Nat × Value × List (Nat × Obj)) (fun st => [(3, st.2.1), (4, .slice ao (R.filter ownB).length co), (5, .int .i64 ((st.1 : Nat) : Int))]) (fun st w' => (st.1 ≤ (R.filter ownB).length ∧ Vec 31 17 st.2.1 ((twP (R.filter ownB) st.1)).length (fP ((twP (R.filter ownB) st.1))) st.2.2) ∧ St w [] (st.2.2 ++ lo) w') (fun st => (R.filter ownB).length - st.1) ((0, .slice none 0 0, []) : Nat × Value × List (Nat × Obj)) (fun st => ?_))) (fun w hw => ⟨⟨Nat.zero_le _, Vec.nil _ _⟩, hw.perm (by (refine perm_cnt (fun _ => ?_)); simp only [cntB_append, cntB_cons, cntB_nil, Nat.add_zero, Nat.zero_add]; try ac_rfl)⟩)
  obtain ⟨i, v3, l3⟩ := st
  refine JC.pr (fun hx1 => ?_)
  obtain ⟨hi, hv3⟩ := hx1
  simp only at hi hv3 ⊢
  have htl := tw_le (R.filter ownB) i
  refine JC.seq (fun K5 hK5 => ?_)
  refine JC.seq (fun K6 hK6 => ?_)
  refine JC.region ?_
  refine J.move rfl rfl ?_
  refine J.move rfl rfl ?_
  refine J.lenS rfl Ty.u22 rfl rfl ?_
  refine J.bin rfl rfl rfl rfl ?_
  refine J.nil ?_
  refine JX.thenN (hK6 _ _ ?_)
  refine JC.cond rfl (fun h0 => ?_) (fun h0 => ?_)
  · skip
    have hlt : i < (R.filter ownB).length := by simp at h0; omega
    obtain ⟨qo, rfl⟩ : ∃ q, ao = some ⟨q, 0, none⟩ := by
      obtain ⟨q, sp, h9, _⟩ := vec_pos hvo (by omega)
      exact ⟨q, h9⟩
    obtain ⟨xe, hxe⟩ : ∃ x, (R.filter ownB)[i]? = some x := ⟨_, List.getElem?_eq_getElem hlt⟩
    have hxo := hOok xe (List.mem_of_getElem? hxe)
    refine JC.skip ?_
    refine JX.thenN (hK5 _ _ ?_)
    refine JC.seq (fun K7 hK7 => ?_)
    refine JC.block ?_
    refine JC.seq (fun K8 hK8 => ?_)
    refine JC.region ?_
    refine J.move rfl rfl ?_
    refine J.move rfl rfl ?_
    refine J.indexAddrS Ty.el22 Ty.s33 rfl rfl (by omega) (by omega) rfl ?_
    refine J.loadA (vs := cE xe) Ty.a33 Ty.s33 rfl rfl (fun w1 hw => rowE_at (o := 0) (vec_rowM hvo hw (fun q hq => by first | (simp [hq]; done) | (simp at hq; simp [hq]; done) | (simp at hq; subst hq; simp))) hxe (by omega)) rfl ?_
    refine J.callB (v := .tuple #[.agg (cI (otherV xe).1).toArray, .int .i64 (otherV xe).2.1, .bool (otherV xe).2.2]) (fun w1 w2 hw hb => hw.step hb) Ty.bd29 rfl rfl (fun w1 hw => rother_spec xe w1) ?_
    refine J.move rfl rfl ?_
    refine J.extract rfl rfl rfl ?_
    refine J.extract rfl rfl rfl ?_
    refine J.extract rfl rfl rfl ?_
    refine J.alloc Ty.zID rfl rfl (fun b6 => ?_)
    refine J.storeW (cs := cI zI) (vs := cI (othE xe)) Ty.s24 rfl rfl rfl rfl rfl (one_cI _) .here ?_
    refine J.assign rfl rfl ?_
    refine J.assign rfl rfl ?_
    refine J.nil ?_
    refine JX.thenN (hK8 _ _ ?_)
    refine JC.seq (fun K9 hK9 => ?_)
    refine JC.region ?_
    refine J.assign rfl rfl ?_
    refine J.nil ?_
    refine JX.thenN (hK9 _ _ ?_)
    refine JC.block ?_
    refine JC.conseq (JC.cov (f := (fun k => [(3, v3), (4, .slice (some ⟨qo, 0, none⟩) (R.filter ownB).length co), (5, .int .i64 ((i : Nat) : Int)), (6, .pointer (some ⟨b6, 0, none⟩)), (9, .int .i64 ((k : Nat) : Int))]) 0) ⟨rfl, rfl, rfl, rfl, rfl, trivial⟩ (JC.loop (α := Nat) (fun k => [(3, v3), (4, .slice (some ⟨qo, 0, none⟩) (R.filter ownB).length co), (5, .int .i64 ((i : Nat) : Int)), (6, .pointer (some ⟨b6, 0, none⟩)), (9, .int .i64 ((k : Nat) : Int))]) (fun k w' => (k ≤ i ∧ ∀ y, y ∈ (R.filter ownB).take k → othE y ≠ othE xe) ∧ St w [] ((b6, cb (cI (othE xe)) 24) :: (l3 ++ lo)) w') (fun k => i - k) 0 (fun k => ?_))) (fun w hw => ⟨⟨Nat.zero_le _, fun y hy => by simp at hy⟩, hw⟩)
    refine JC.pr (fun hx2 => ?_)
    obtain ⟨hk, hb⟩ := hx2
    refine JC.seq (fun K10 hK10 => ?_)
    refine JC.seq (fun K11 hK11 => ?_)
    refine JC.region ?_
    refine J.move rfl rfl ?_
    refine J.move rfl rfl ?_
    refine J.bin rfl rfl rfl rfl ?_
    refine J.nil ?_
    refine JX.thenN (hK11 _ _ ?_)
    refine JC.cond rfl (fun h1 => ?_) (fun h1 => ?_)
    · skip
      have hlk : k < i := by simp at h1; omega
      obtain ⟨ye, hye⟩ : ∃ x, (R.filter ownB)[k]? = some x := ⟨_, List.getElem?_eq_getElem (by omega)⟩
      refine JC.skip ?_
      refine JX.thenN (hK10 _ _ ?_)
      refine JC.seq (fun K12 hK12 => ?_)
      refine JC.block ?_
      refine JC.seq (fun K13 hK13 => ?_)
      refine JC.region ?_
      refine J.move rfl rfl ?_
      refine J.move rfl rfl ?_
      refine J.indexAddrS Ty.el22 Ty.s33 rfl rfl (by omega) (by omega) rfl ?_
      refine J.loadA (vs := cE ye) Ty.a33 Ty.s33 rfl rfl (fun w1 hw => rowE_at (o := 0) (vec_rowM hvo hw (fun q hq => by first | (simp [hq]; done) | (simp at hq; simp [hq]; done) | (simp at hq; subst hq; simp))) hye (by omega)) rfl ?_
      refine J.callB (v := .tuple #[.agg (cI (otherV ye).1).toArray, .int .i64 (otherV ye).2.1, .bool (otherV ye).2.2]) (fun w1 w2 hw hb => hw.step hb) Ty.bd29 rfl rfl (fun w1 hw => rother_spec ye w1) ?_
      refine J.move rfl rfl ?_
      refine J.extract rfl rfl rfl ?_
      refine J.extract rfl rfl rfl ?_
      refine J.extract rfl rfl rfl ?_
      refine J.alloc Ty.zID rfl rfl (fun b10 => ?_)
      refine J.storeW (cs := cI zI) (vs := cI (othE ye)) Ty.s24 rfl rfl rfl rfl rfl (one_cI _) .here ?_
      refine J.assign rfl rfl ?_
      refine J.assign rfl rfl ?_
      refine J.nil ?_
      refine JX.thenN (hK13 _ _ ?_)
      refine JC.seq (fun K14 hK14 => ?_)
      by_cases he : othE xe = othE ye
      · skip
        have hx : othE xe ∈ ((R.filter ownB).take i).map othE := by
          rw [he]
          refine List.mem_map_of_mem (List.mem_of_getElem? (i := k) ?_)
          rw [List.getElem?_take_of_lt hlk]
          exact hye
        refine JC.region ?_
        refine J.loadOA (vs := cI (othE xe)) Ty.a24 Ty.s24 rfl (.tail _ (.head _)) rfl rfl rfl ?_
        refine J.loadOA (vs := cI (othE ye)) Ty.a24 Ty.s24 rfl (.head _) rfl rfl rfl ?_
        refine J.eqI Ty.QI Ty.keyI rfl rfl rfl ?_
        refine J.name 46 rfl (show _ = Value.bool true by simp [he]) ?_
        refine J.nil ?_
        refine JX.thenN (hK14 _ _ ?_)
        first | refine JC.condT rfl ?_ | refine JC.cond rfl (fun _ => ?_) (fun h => by first | (exfalso; simp at h; omega) | (simp at h))
        refine JC.seq (fun K15 hK15 => ?_)
        refine JC.region ?_
        refine J.move rfl rfl ?_
        refine J.move rfl rfl ?_
        refine J.move rfl rfl ?_
        refine J.indexAddrS Ty.el22 Ty.s33 rfl rfl (by omega) (by omega) rfl ?_
        refine J.fieldAddr Ty.fd33_0 rfl rfl ?_
        refine J.loadA (vs := cP xe.p) Ty.a31 Ty.s31 rfl rfl (fun w1 hw => cells_part (k := 0) (rowE_at (o := 0) (vec_rowM hvo hw (fun q hq => by first | (simp [hq]; done) | (simp at hq; simp [hq]; done) | (simp at hq; subst hq; simp))) hxe rfl) rfl (by show 0 + 17 ≤ 51; decide)) rfl ?_
        refine J.buildSl (cs := cP xe.p) Ty.el43 Ty.s31 zPa rfl rfl rfl rfl (by kernel_rfl) rfl rfl (fun b53 => ?_)
        refine J.perm (l3 ++ ((b53, cb (cP xe.p) 31) :: (b10, cb (cI (othE ye)) 24) :: (b6, cb (cI (othE xe)) 24) :: lo)) (by (refine perm_cnt (fun _ => ?_)); simp only [cntB_append, cntB_cons, cntB_nil, Nat.add_zero, Nat.zero_add]; try ac_rfl) ?_
        refine J.append (lp := l3) (xs := fP (twP (R.filter ownB) i)) (ys := cP xe.p) (k := (twP (R.filter ownB) i).length) (m := 1) Ty.el43 Ty.s31 Ty.b31 zPa rfl (.inl ⟨31, Ty.u43⟩) rfl rfl hv3 (fun w3 hw3 => .inl (Row.own (cs := cP xe.p) (tb := 31) (fr := (0, 0)) hw3 (by repeat first | exact .head _ | apply List.Mem.tail | apply List.mem_append_right) rfl (Nat.le_refl _))) rfl (one_cP _) (by omega) (by omega) rfl (fun vn ln hvn => ?_)
        refine J.assign rfl rfl ?_
        refine J.nil ?_
        refine JX.thenN (hK15 _ _ ?_)
        refine JC.exit ?_
        refine JX.blockO rfl ?_
        refine JX.thenE ?_
        refine JX.thenE ?_
        refine JX.blockE ?_
        refine JX.blockN ?_
        refine JX.thenN (hK7 _ _ ?_)
        refine JC.region ?_
        refine J.move rfl rfl ?_
        (first | refine J.addN rfl rfl (by omega) (by omega) rfl ?_ | refine J.bin rfl rfl rfl rfl ?_)
        refine J.assign rfl rfl ?_
        refine J.nil ?_
        refine JX.thenN ?_
        refine JX.again ((i + 1, vn, ln) : Nat × Value × List (Nat × Obj)) ?_ ?_ ?_
        · simp only; omega
        · exact ⟨rfl, rfl, rfl, trivial⟩
        · exact fun w1 hw => ⟨⟨hlt, by simp only; rw [tw_yes hxe hx]; exact snocP hvn⟩, (hw.perm (l' := (b53, cb (cP xe.p) 31) :: (b10, cb (cI (othE ye)) 24) :: (b6, cb (cI (othE xe)) 24) :: (ln ++ lo)) (by (refine perm_cnt (fun _ => ?_)); simp only [cntB_append, cntB_cons, cntB_nil, Nat.add_zero, Nat.zero_add]; try ac_rfl)).drop (.cons _ (.cons _ (.cons _ (List.Sublist.refl _))))⟩
      · skip
        refine JC.region ?_
        refine J.loadOA (vs := cI (othE xe)) Ty.a24 Ty.s24 rfl (.tail _ (.head _)) rfl rfl rfl ?_
        refine J.loadOA (vs := cI (othE ye)) Ty.a24 Ty.s24 rfl (.head _) rfl rfl rfl ?_
        refine J.eqI Ty.QI Ty.keyI rfl rfl rfl ?_
        refine J.name 46 rfl (show _ = Value.bool false by simp [he]) ?_
        refine J.nil ?_
        refine JX.thenN (hK14 _ _ ?_)
        first | refine JC.condF rfl ?_ | refine JC.cond rfl (fun h => by first | (exfalso; simp at h; omega) | (simp at h)) (fun _ => ?_)
        refine JC.skip ?_
        refine JX.blockN ?_
        refine JX.thenN (hK12 _ _ ?_)
        refine JC.region ?_
        refine J.move rfl rfl ?_
        (first | refine J.addN rfl rfl (by omega) (by omega) rfl ?_ | refine J.bin rfl rfl rfl rfl ?_)
        refine J.assign rfl rfl ?_
        refine J.nil ?_
        refine JX.thenN ?_
        refine JX.again (k + 1) ?_ ?_ ?_
        · omega
        · exact ⟨rfl, rfl, rfl, rfl, rfl, trivial⟩
        · exact fun w1 hw => ⟨⟨hlk, fi_step hye hb (fun e => he e.symm)⟩, hw.drop (List.sublist_cons_self _ _)⟩
    · skip
      have hke : i = k := by simp at h1; omega
      subst hke
      have hx : ¬ othE xe ∈ ((R.filter ownB).take i).map othE := by
        intro h9
        obtain ⟨y, hy, e⟩ := List.mem_map.1 h9
        exact hb y hy e
      refine JC.exit ?_
      refine JX.thenE ?_
      refine JX.thenE ?_
      refine JX.blockE ?_
      refine JX.blockN ?_
      refine JX.thenN (hK7 _ _ ?_)
      refine JC.region ?_
      refine J.move rfl rfl ?_
      (first | refine J.addN rfl rfl (by omega) (by omega) rfl ?_ | refine J.bin rfl rfl rfl rfl ?_)
      refine J.assign rfl rfl ?_
      refine J.nil ?_
      refine JX.thenN ?_
      refine JX.again ((i + 1, v3, l3) : Nat × Value × List (Nat × Obj)) ?_ ?_ ?_
      · simp only; omega
      · exact ⟨rfl, rfl, rfl, trivial⟩
      · exact fun w1 hw => ⟨⟨hlt, by simp only; rw [tw_no hxe hx]; exact hv3⟩, hw.drop (List.sublist_cons_self _ _)⟩
  · skip
    have hge : i = (R.filter ownB).length := by simp at h0; omega
    subst hge
    refine JC.exit ?_
    refine JX.thenE ?_
    refine JX.thenE ?_
    refine JX.blockE ?_
    refine JX.thenN (hK3 _ _ ?_)
    refine JC.seq (fun K16 hK16 => ?_)
    refine JC.region ?_
    refine J.move rfl rfl ?_
    refine J.assign rfl rfl ?_
    refine J.nil ?_
    refine JX.thenN (hK16 _ _ ?_)
    refine JC.ret ?_
    refine JX.ret1 rfl rfl (fun w hw => ?_)
    exact ⟨(v3, l3), rfl, hv3, hw.drop (List.sublist_append_left _ _)⟩

end Go.Proofs.YtohldionclgljaaGreat
