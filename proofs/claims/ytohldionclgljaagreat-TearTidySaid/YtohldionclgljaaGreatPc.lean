/-
  Dead, the program's and the document's: contracts.
-/
import Derived.Test.YtohldionclgljaaGreatPb
namespace Go.Proofs.YtohldionclgljaaGreat
open Go.J Go.RowKit
set_option linter.unusedVariables false
set_option linter.unusedSimpArgs false
set_option maxRecDepth 8000
def stepD (n : Int) (s : TV × List EV) (x : EV) : TV × List EV := (hopT (if x.na = n then x.nb else x.na) x.p s.1, delL s.2 x.p)
/-- what the death of a session does -/
def deadT (L : List EV) (n : Int) : TV × List EV := ((ordE L).filter (viaB n)).foldl (stepD n) (noT, L)
theorem fold_len (n : Int) : ∀ (l : List EV) (s : TV × List EV), (l.foldl (stepD n) s).1.out.length + (l.foldl (stepD n) s).1.lost.length = s.1.out.length + s.1.lost.length + l.length
  | [], s => by simp
  | x :: l, s => by
    rw [List.foldl_cons, fold_len n l, List.length_cons]
    simp only [stepD, hop_len]
    omega
theorem tget_del_ne {L : List EV} {p q : PV} (h : q ≠ p) : tget (delL L p) q = tget L q := by
  unfold tget delL
  rw [List.find?_filter]
  congr 1
  funext x
  by_cases e : x.p = q
  · simp [e, h]
  · simp [e]
theorem fold_get {n : Int} {x : EV} : ∀ (l : List EV) (s : TV × List EV), (∀ y, y ∈ l → y.p ≠ x.p) → tget s.2 x.p = some x → tget (l.foldl (stepD n) s).2 x.p = some x
  | [], _, _, h => h
  | y :: l, s, hl, h => fold_get l _ (fun z hz => hl z (.tail _ hz)) (by
    show tget (delL s.2 y.p) x.p = some x
    rw [tget_del_ne (fun e => hl y (.head _) e.symm)]
    exact h)
theorem fold_good {n : Int} {most : Int} : ∀ (l : List EV) (s : TV × List EV), GoodL s.2 most → GoodL (l.foldl (stepD n) s).2 most
  | [], _, h => h
  | y :: l, s, h => fold_good l _ (h.del y.p)
theorem fold_dist {n : Int} : ∀ (l : List EV) (s : TV × List EV), s.2.Pairwise (fun x y => x.p ≠ y.p) → (l.foldl (stepD n) s).2.Pairwise (fun x y => x.p ≠ y.p)
  | [], _, h => h
  | y :: l, s, h => fold_dist l _ (List.Pairwise.sublist List.filter_sublist h)
theorem fold_sublen {n : Int} : ∀ (l : List EV) (s : TV × List EV), (l.foldl (stepD n) s).2.length ≤ s.2.length
  | [], _ => Nat.le_refl _
  | y :: l, s => Nat.le_trans (fold_sublen l _) (List.length_filter_le _ _)
theorem vs_dist {L : List EV} (hd : L.Pairwise (fun x y => x.p ≠ y.p)) (n : Int) : ((ordE L).filter (viaB n)).Pairwise (fun x y => x.p ≠ y.p) :=
  List.Pairwise.sublist List.filter_sublist ((ordE_perm L).symm.pairwise hd (fun {a b} h => h.symm))
theorem vs_mem {L : List EV} {n : Int} {x : EV} (h : x ∈ ((ordE L).filter (viaB n))) : x ∈ L ∧ 0 ≤ n ∧ (x.na = n ∨ x.nb = n) := by
  obtain ⟨h1, h2⟩ := List.mem_filter.1 h
  refine ⟨(ordE_perm L).mem_iff.1 h1, ?_⟩
  unfold viaB at h2
  simpa using h2
theorem vs_get {L : List EV} (hd : L.Pairwise (fun x y => x.p ≠ y.p)) {n : Int} {i : Nat} {x : EV} (h : ((ordE L).filter (viaB n))[i]? = some x) : tget ((((ordE L).filter (viaB n)).take i).foldl (stepD n) (noT, L)).2 x.p = some x := by
  refine fold_get _ _ (fun y hy => ?_) (tget_some hd (vs_mem (List.mem_of_getElem? h)).1)
  obtain ⟨j, hj, rfl⟩ := List.getElem_of_mem hy
  obtain ⟨hi, rfl⟩ := List.getElem?_eq_some_iff.1 h
  rw [List.getElem_take]
  have hji : j < i := by rw [List.length_take] at hj; omega
  exact List.pairwise_iff_getElem.1 (vs_dist hd n) j i (by omega) hi hji
theorem drop_via {L : List EV} (hd : L.Pairwise (fun x y => x.p ≠ y.p)) {n : Int} {i : Nat} {x : EV} (h : ((ordE L).filter (viaB n))[i]? = some x) : dropT ((((ordE L).filter (viaB n)).take i).foldl (stepD n) (noT, L)).2 n x.p = (hopT (if x.na = n then x.nb else x.na) x.p noT, delL ((((ordE L).filter (viaB n)).take i).foldl (stepD n) (noT, L)).2 x.p) := by
  obtain ⟨_, h0, h1⟩ := vs_mem (List.mem_of_getElem? h)
  unfold dropT
  rw [vs_get hd h]
  simp only
  rw [if_neg]
  rintro (h2 | ⟨h2, h3⟩)
  · omega
  · rcases h1 with h1 | h1
    · exact h2 h1
    · exact h3 h1
theorem hop_app (n : Int) (p : PV) (T : TV) : hopT n p T = ⟨T.out ++ (hopT n p noT).out, T.lost ++ (hopT n p noT).lost⟩ := by
  unfold hopT
  split <;> simp [noT]
theorem fold_step {L : List EV} {n : Int} {i : Nat} {x : EV} (h : ((ordE L).filter (viaB n))[i]? = some x) : ((((ordE L).filter (viaB n)).take (i + 1)).foldl (stepD n) (noT, L)) = stepD n ((((ordE L).filter (viaB n)).take i).foldl (stepD n) (noT, L)) x := by
  obtain ⟨hi, rfl⟩ := List.getElem?_eq_some_iff.1 h
  rw [take_add_one hi, List.foldl_append]
  rfl
theorem app_is {T U : TV} {v1 v2 : Value} {l1 l2 : List (Nat × Obj)} (h1 : Vec 79 96 v1 (T.out.length + U.out.length) (fHp T.out ++ fHp U.out) l1) (h2 : Vec 31 17 v2 (T.lost.length + U.lost.length) (fP T.lost ++ fP U.lost) l2) :
    (⟨T.out ++ U.out, T.lost ++ U.lost⟩ : TV).is ⟨v1, l1, v2, l2⟩ := by
  refine ⟨?_, ?_⟩
  · show Vec 79 96 v1 (T.out ++ U.out).length (fHp (T.out ++ U.out)) l1
    rw [List.length_append, show fHp (T.out ++ U.out) = fHp T.out ++ fHp U.out from List.flatMap_append]; exact h1
  · show Vec 31 17 v2 (T.lost ++ U.lost).length (fP (T.lost ++ U.lost)) l2
    rw [List.length_append, show fP (T.lost ++ U.lost) = fP T.lost ++ fP U.lost from List.flatMap_append]; exact h2

set_option maxHeartbeats 2000000 in
theorem tdead_spec (t1 m1 : Nat) (mo : Int) (L : List EV) (es : Array MapEntry) (ck : Nat) (w : World) (hw0 : Own w [(t1, tabO mo m1), (m1, .map es ck)]) (hT : Tab L es ck) (hl : L.length ≤ 128) (n : Int) :
    Calls Tryz.prog 31 [.pointer (some ⟨t1, 0, none⟩), .int .i64 n].toArray w fun r w' => ∃ y : TS × Array MapEntry, r = .returned (.agg [y.1.vo, y.1.vl].toArray) ∧ ((deadT L n).1.is y.1 ∧ Tab (deadT L n).2 y.2 ck) ∧ St w [t1, m1] ((y.1.lo ++ y.1.ll) ++ [(t1, tabO mo m1), (m1, .map y.2 ck)]) w' := by
  have hokL := hT.ok
  have hvl : ((ordE L).filter (viaB n)).length ≤ L.length := by have h1 := List.length_filter_le (viaB n) (ordE L); have h2 := (ordE_perm L).length_eq; omega
  refine calls_of_J (args := [.pointer (some ⟨t1, 0, none⟩), .int .i64 n]) (e := [(0, .pointer (some ⟨t1, 0, none⟩)), (1, .int .i64 n)]) Tryz.func31 rfl rfl ⟨rfl, rfl, trivial⟩ (hw0.st) ?_
  refine JC.seq (fun K0 hK0 => ?_)
  refine JC.region ?_
  refine J.alloc zTo rfl rfl (fun b4 => ?_)
  refine J.nil ?_
  refine JX.thenN (hK0 _ _ ?_)
  refine JC.seq (fun K1 hK1 => ?_)
  refine JC.region ?_
  refine J.alloc zTo rfl rfl (fun b5 => ?_)
  refine J.nil ?_
  refine JX.thenN (hK1 _ _ ?_)
  refine JC.seq (fun K2 hK2 => ?_)
  refine JC.seq (fun K3 hK3 => ?_)
  refine JC.region ?_
  refine J.move rfl rfl ?_
  refine J.move rfl rfl ?_
  refine J.perm ([] ++ ((b5, cb [nilV, nilV] 55) :: (b4, cb [nilV, nilV] 55) :: (t1, tabO mo m1) :: (m1, .map es ck) :: [])) (.refl _) ?_
  refine J.callS (α := Value × List (Nat × Obj)) (V := (·.1)) (Pr := fun x => Vec 33 51 x.1 (((ordE L).filter (viaB n))).length (fE (((ordE L).filter (viaB n)))) x.2) (L := (·.2)) (l1 := []) Ty.bd52 rfl rfl (fun w1 hw => via_spec t1 m1 mo (L) es ck w1 (hw.own _ (.tail _ (.tail _ (.head _)))) (hw.own _ (.tail _ (.tail _ (.tail _ (.head _))))) hT (by omega) n) (fun x hvw => ?_)
  obtain ⟨vw, lw⟩ := x
  simp only at hvw ⊢
  obtain ⟨aw, cw, rfl, hcw⟩ := hvw.form
  refine J.perm ((b5, cb [nilV, nilV] 55) :: (b4, cb [nilV, nilV] 55) :: (t1, tabO mo m1) :: (m1, .map es ck) :: lw) (by (refine perm_cnt (fun _ => ?_)); simp only [cntB_append, cntB_cons, cntB_nil, Nat.add_zero, Nat.zero_add]; try ac_rfl) ?_
  refine J.lenS rfl Ty.u22 rfl rfl ?_
  refine J.move rfl rfl ?_
  refine J.nil ?_
  refine JX.thenN (hK3 _ _ ?_)
  refine JC.block ?_
  refine JC.conseq (JC.cov (f := (fun st => [(0, .pointer (some ⟨t1, 0, none⟩)), (1, .int .i64 n), (4, .pointer (some ⟨b4, 0, none⟩)), (5, .pointer (some ⟨b5, 0, none⟩)), (10, .slice aw ((ordE L).filter (viaB n)).length cw), (11, .int .i64 ((((ordE L).filter (viaB n)).length : Nat) : Int)), (12, .int .i64 ((st.1 : Nat) : Int))]) ((0, noS, es) : Nat × TS × Array MapEntry)) ⟨rfl, rfl, rfl, rfl, rfl, rfl, rfl, trivial⟩ (JC.loop (α := Nat × TS × Array MapEntry) (fun st => [(0, .pointer (some ⟨t1, 0, none⟩)), (1, .int .i64 n), (4, .pointer (some ⟨b4, 0, none⟩)), (5, .pointer (some ⟨b5, 0, none⟩)), (10, .slice aw ((ordE L).filter (viaB n)).length cw), (11, .int .i64 ((((ordE L).filter (viaB n)).length : Nat) : Int)), (12, .int .i64 ((st.1 : Nat) : Int))]) (fun st w' => (st.1 ≤ ((ordE L).filter (viaB n)).length ∧ ((((ordE L).filter (viaB n)).take st.1).foldl (stepD n) (noT, L)).1.is st.2.1 ∧ Tab ((((ordE L).filter (viaB n)).take st.1).foldl (stepD n) (noT, L)).2 st.2.2 ck) ∧ St w [t1, m1] ((b5, cb [st.2.1.vo, st.2.1.vl] 55) :: (b4, cb [nilV, nilV] 55) :: (t1, tabO mo m1) :: (m1, .map st.2.2 ck) :: (st.2.1.lo ++ (st.2.1.ll ++ lw))) w') (fun st => ((ordE L).filter (viaB n)).length - st.1) ((0, noS, es) : Nat × TS × Array MapEntry) (fun st => ?_))) (fun w hw => ⟨⟨Nat.zero_le _, no_is, hT⟩, hw⟩)
  obtain ⟨i, y, es1⟩ := st
  refine JC.pr (fun hx1 => ?_)
  obtain ⟨hi, hy, hT1⟩ := hx1
  simp only at hi hy hT1 ⊢
  have hfl : ((((ordE L).filter (viaB n)).take i).foldl (stepD n) (noT, L)).1.out.length + ((((ordE L).filter (viaB n)).take i).foldl (stepD n) (noT, L)).1.lost.length = min i ((ordE L).filter (viaB n)).length := by rw [fold_len, List.length_take]; simp [noT]
  refine JC.seq (fun K4 hK4 => ?_)
  refine JC.region ?_
  refine J.bin rfl rfl rfl rfl ?_
  refine J.nil ?_
  refine JX.thenN (hK4 _ _ ?_)
  refine JC.seq (fun K5 hK5 => ?_)
  refine JC.cond rfl (fun h0 => ?_) (fun h0 => ?_)
  · skip
    have hlt : i < ((ordE L).filter (viaB n)).length := by simp at h0; omega
    obtain ⟨qw, rfl⟩ : ∃ q, aw = some ⟨q, 0, none⟩ := by
      rcases hvw.2 with ⟨_, h9, _⟩ | ⟨q, c9, sp, h9, _⟩
      · omega
      · simp only [Value.slice.injEq] at h9; exact ⟨q, h9.1⟩
    obtain ⟨xe, hxe⟩ : ∃ x, ((ordE L).filter (viaB n))[i]? = some x := ⟨_, List.getElem?_eq_getElem hlt⟩
    have hxok : okE xe := hokL xe (vs_mem (List.mem_of_getElem? hxe)).1
    refine JC.skip ?_
    refine JX.thenN (hK5 _ _ ?_)
    refine JC.seq (fun K6 hK6 => ?_)
    refine JC.block ?_
    refine JC.seq (fun K7 hK7 => ?_)
    refine JC.region ?_
    refine J.indexAddrS Ty.el22 Ty.s33 rfl rfl (by omega) (by omega) rfl ?_
    refine J.loadA (vs := cE xe) Ty.a33 Ty.s33 rfl rfl (fun w1 hw => rowE_at (o := 0) (vec_rowM hvw hw (fun q hq => by first | (simp [hq]; done) | (simp at hq; simp [hq]; done) | (simp at hq; subst hq; simp))) hxe (by omega)) rfl ?_
    refine J.alloc Ty.zE_ rfl rfl (fun b7 => ?_)
    refine J.storeW (cs := cE zE) (vs := cE xe) Ty.s33 rfl rfl rfl rfl rfl (one_cE _) .here ?_
    refine J.nil ?_
    refine JX.thenN (hK7 _ _ ?_)
    refine JC.seq (fun K8 hK8 => ?_)
    refine JC.region ?_
    refine J.move rfl rfl ?_
    refine J.fieldAddr Ty.fd33_0 rfl rfl ?_
    refine J.loadOA (vs := cP xe.p) Ty.a31 Ty.s31 rfl (by repeat first | exact .head _ | apply List.Mem.tail | apply List.mem_append_right) (by exact rfl) rfl rfl ?_
    refine J.perm ([(t1, tabO mo m1), (m1, .map es1 ck)] ++ ((b7, cb (cE xe) 33) :: (b5, cb [y.vo, y.vl] 55) :: (b4, cb [nilV, nilV] 55) :: (y.lo ++ (y.ll ++ lw)))) (by (refine perm_cnt (fun _ => ?_)); simp only [cntB_append, cntB_cons, cntB_nil, Nat.add_zero, Nat.zero_add]; try ac_rfl) ?_
    refine J.callS (α := Array MapEntry) (V := fun _ => .tuple #[.agg (cE ((tget (((((ordE L).filter (viaB n)).take i).foldl (stepD n) (noT, L)).2) xe.p).getD zE)).toArray, .bool (tget (((((ordE L).filter (viaB n)).take i).foldl (stepD n) (noT, L)).2) xe.p).isSome]) (Pr := fun y => Tab (delL (((((ordE L).filter (viaB n)).take i).foldl (stepD n) (noT, L)).2) xe.p) y ck) (L := fun y => [(t1, tabO mo m1), (m1, .map y ck)]) (l1 := [(t1, tabO mo m1), (m1, .map es1 ck)]) Ty.bd41 rfl rfl (fun w1 hw => (remove_spec t1 m1 mo (((((ordE L).filter (viaB n)).take i).foldl (stepD n) (noT, L)).2) es1 ck w1 hw.owns hT1 xe.p hxok.1).mono fun _ _ ⟨y, h1, h2, h3⟩ => ⟨y, h1, h2, h3⟩) (fun es2 hT2 => ?_)
    simp only [List.cons_append, List.nil_append]
    refine J.nil ?_
    refine JX.thenN (hK8 _ _ ?_)
    refine JC.seq (fun K9 hK9 => ?_)
    refine JC.region ?_
    refine J.fieldAddr Ty.fd33_3 rfl rfl ?_
    refine J.loadO Ty.a3 rfl (by repeat first | exact .head _ | apply List.Mem.tail | apply List.mem_append_right) (by exact rfl) rfl ?_
    refine J.move rfl rfl ?_
    refine J.bin rfl rfl rfl rfl ?_
    refine J.nil ?_
    refine JX.thenN (hK9 _ _ ?_)
    refine JC.cond rfl (fun h1 => ?_) (fun h1 => ?_)
    · skip
      have hsd : xe.na = n := by simpa using h1
      refine JC.region ?_
      refine J.fieldAddr Ty.fd33_4 rfl rfl ?_
      refine J.loadO Ty.a3 rfl (by repeat first | exact .head _ | apply List.Mem.tail | apply List.mem_append_right) (by exact rfl) rfl ?_
      refine J.fieldAddr Ty.fd33_0 rfl rfl ?_
      refine J.loadOA (vs := cP xe.p) Ty.a31 Ty.s31 rfl (by repeat first | exact .head _ | apply List.Mem.tail | apply List.mem_append_right) (by exact rfl) rfl rfl ?_
      refine J.perm (((b5, cb [y.vo, y.vl] 55) :: (y.lo ++ y.ll)) ++ ((b7, cb (cE xe) 33) :: (b4, cb [nilV, nilV] 55) :: (t1, tabO mo m1) :: (m1, .map es2 ck) :: lw)) (by (refine perm_cnt (fun _ => ?_)); simp only [cntB_append, cntB_cons, cntB_nil, Nat.add_zero, Nat.zero_add]; try ac_rfl) ?_
      refine J.callS (α := TS) (V := fun _ => .tuple #[]) (Pr := fun y => (hopT xe.nb xe.p ((((ordE L).filter (viaB n)).take i).foldl (stepD n) (noT, L)).1).is y) (L := fun y => (b5, cb [y.vo, y.vl] 55) :: (y.lo ++ y.ll)) (l1 := (b5, cb [y.vo, y.vl] 55) :: (y.lo ++ y.ll)) Ty.bd42 rfl rfl (fun w1 hw => (hop_spec b5 ((((ordE L).filter (viaB n)).take i).foldl (stepD n) (noT, L)).1 y w1 hw.owns hy (by omega) xe.nb xe.p).mono fun _ _ ⟨y, h1, h2, h3⟩ => ⟨y, h1, h2, h3⟩) (fun y2 hy2 => ?_)
      simp only [List.cons_append, List.nil_append]
      refine J.nil ?_
      refine JX.blockN ?_
      refine JX.thenN (hK6 _ _ ?_)
      refine JC.region ?_
      (first | refine J.addN rfl rfl (by omega) (by omega) rfl ?_ | refine J.bin rfl rfl rfl rfl ?_)
      refine J.move rfl rfl ?_
      refine J.nil ?_
      refine JX.thenN ?_
      refine JX.again ((i + 1, y2, es2) : Nat × TS × Array MapEntry) ?_ ?_ ?_
      · simp only; omega
      · exact ⟨rfl, rfl, rfl, rfl, rfl, rfl, rfl, trivial⟩
      · exact fun w1 hw => ⟨⟨hlt, by rw [fold_step hxe]; simp only [stepD]; rw [if_pos hsd]; exact hy2, by rw [fold_step hxe]; exact hT2⟩, (hw.perm (l' := (b7, cb (cE xe) 33) :: ((b5, cb [y2.vo, y2.vl] 55) :: (b4, cb [nilV, nilV] 55) :: (t1, tabO mo m1) :: (m1, .map es2 ck) :: (y2.lo ++ (y2.ll ++ lw)))) (by (refine perm_cnt (fun _ => ?_)); simp only [cntB_append, cntB_cons, cntB_nil, Nat.add_zero, Nat.zero_add]; try ac_rfl)).drop (List.sublist_cons_self _ _)⟩
    · skip
      have hsd : ¬ xe.na = n := by simpa using h1
      refine JC.region ?_
      refine J.fieldAddr Ty.fd33_3 rfl rfl ?_
      refine J.loadO Ty.a3 rfl (by repeat first | exact .head _ | apply List.Mem.tail | apply List.mem_append_right) (by exact rfl) rfl ?_
      refine J.fieldAddr Ty.fd33_0 rfl rfl ?_
      refine J.loadOA (vs := cP xe.p) Ty.a31 Ty.s31 rfl (by repeat first | exact .head _ | apply List.Mem.tail | apply List.mem_append_right) (by exact rfl) rfl rfl ?_
      refine J.perm (((b5, cb [y.vo, y.vl] 55) :: (y.lo ++ y.ll)) ++ ((b7, cb (cE xe) 33) :: (b4, cb [nilV, nilV] 55) :: (t1, tabO mo m1) :: (m1, .map es2 ck) :: lw)) (by (refine perm_cnt (fun _ => ?_)); simp only [cntB_append, cntB_cons, cntB_nil, Nat.add_zero, Nat.zero_add]; try ac_rfl) ?_
      refine J.callS (α := TS) (V := fun _ => .tuple #[]) (Pr := fun y => (hopT xe.na xe.p ((((ordE L).filter (viaB n)).take i).foldl (stepD n) (noT, L)).1).is y) (L := fun y => (b5, cb [y.vo, y.vl] 55) :: (y.lo ++ y.ll)) (l1 := (b5, cb [y.vo, y.vl] 55) :: (y.lo ++ y.ll)) Ty.bd42 rfl rfl (fun w1 hw => (hop_spec b5 ((((ordE L).filter (viaB n)).take i).foldl (stepD n) (noT, L)).1 y w1 hw.owns hy (by omega) xe.na xe.p).mono fun _ _ ⟨y, h1, h2, h3⟩ => ⟨y, h1, h2, h3⟩) (fun y2 hy2 => ?_)
      simp only [List.cons_append, List.nil_append]
      refine J.nil ?_
      refine JX.blockN ?_
      refine JX.thenN (hK6 _ _ ?_)
      refine JC.region ?_
      (first | refine J.addN rfl rfl (by omega) (by omega) rfl ?_ | refine J.bin rfl rfl rfl rfl ?_)
      refine J.move rfl rfl ?_
      refine J.nil ?_
      refine JX.thenN ?_
      refine JX.again ((i + 1, y2, es2) : Nat × TS × Array MapEntry) ?_ ?_ ?_
      · simp only; omega
      · exact ⟨rfl, rfl, rfl, rfl, rfl, rfl, rfl, trivial⟩
      · exact fun w1 hw => ⟨⟨hlt, by rw [fold_step hxe]; simp only [stepD]; rw [if_neg hsd]; exact hy2, by rw [fold_step hxe]; exact hT2⟩, (hw.perm (l' := (b7, cb (cE xe) 33) :: ((b5, cb [y2.vo, y2.vl] 55) :: (b4, cb [nilV, nilV] 55) :: (t1, tabO mo m1) :: (m1, .map es2 ck) :: (y2.lo ++ (y2.ll ++ lw)))) (by (refine perm_cnt (fun _ => ?_)); simp only [cntB_append, cntB_cons, cntB_nil, Nat.add_zero, Nat.zero_add]; try ac_rfl)).drop (List.sublist_cons_self _ _)⟩
  · skip
    have hge : i = ((ordE L).filter (viaB n)).length := by simp at h0; omega
    subst hge
    rw [List.take_length] at hy hT1
    refine JC.exit ?_
    refine JX.thenE ?_
    refine JX.thenE ?_
    refine JX.blockE ?_
    refine JX.thenN (hK2 _ _ ?_)
    refine JC.seq (fun K10 hK10 => ?_)
    refine JC.region ?_
    refine J.loadOA (vs := [y.vo, y.vl]) Ty.a55 Ty.s55 rfl (by repeat first | exact .head _ | apply List.Mem.tail | apply List.mem_append_right) rfl rfl rfl ?_
    refine J.storeW (cs := [nilV, nilV]) (vs := [y.vo, y.vl]) Ty.s55 rfl rfl rfl rfl rfl (two_one hy) (by repeat first | exact .here | apply Up.there) ?_
    refine J.nil ?_
    refine JX.thenN (hK10 _ _ ?_)
    refine JC.ret ?_
    refine JX.retC rfl rfl Ty.a55 Ty.s55 (vs := [y.vo, y.vl]) rfl (fun w1 hw => Cells.of_block (hw.own ((b4, cb [y.vo, y.vl] 55)) (by repeat first | exact .head _ | apply List.Mem.tail | apply List.mem_append_right)) rfl) (fun w1 hw => ?_)
    exact ⟨(y, es1), rfl, ⟨hy, hT1⟩, (hw.perm (l' := ([(b5, cb [y.vo, y.vl] 55), (b4, cb [y.vo, y.vl] 55)] ++ lw) ++ ((y.lo ++ y.ll) ++ [(t1, tabO mo m1), (m1, .map es1 ck)])) (by (refine perm_cnt (fun _ => ?_)); simp only [cntB_append, cntB_cons, cntB_nil, Nat.add_zero, Nat.zero_add]; try ac_rfl)).drop (List.sublist_append_right _ _)⟩

theorem fone {α : Type} {c : α → List Value} (hc : ∀ (x : α) (v : Value), v ∈ c x → v.oneCell' = true) {xs : List α} {q : Value} (hq : q ∈ xs.flatMap c) : q.oneCell' = true := by
  obtain ⟨x, _, h⟩ := List.mem_flatMap.1 hq
  exact hc x q h
theorem fold_ok {n : Int} : ∀ (l : List EV) (s : TV × List EV), (∀ x, x ∈ s.2 → okE x) → ∀ x, x ∈ (l.foldl (stepD n) s).2 → okE x
  | [], _, h => h
  | y :: l, s, h => fold_ok l _ (fun x hx => h x (List.mem_filter.1 hx).1)

end Go.Proofs.YtohldionclgljaaGreat
