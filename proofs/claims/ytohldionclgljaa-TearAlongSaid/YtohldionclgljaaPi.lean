/-
  The line of nodes that a path lies on: contract.
-/
import Derived.Test.YtohldionclgljaaPh
namespace Go.Proofs.Ytohldionclgljaa
open Go.J Go.RowKit
set_option linter.unusedVariables false
set_option linter.unusedSimpArgs false
set_option maxRecDepth 8000
structure LnS where
  vp : Value
  lp : List (Nat × Obj)
  vw : Value
  lw : List (Nat × Obj)
  ts : List NT
def okW (W : List Int) (n : Int) (j : Nat) : Bool := decide (0 ≤ n ∧ n < 6) && (W.take j).all (fun m => decide (m ≠ n))
theorem okW_step {W : List Int} {n m : Int} {j : Nat} (h : W[j]? = some m) : okW W n (j + 1) = (okW W n j && decide (m ≠ n)) := by
  obtain ⟨hi, rfl⟩ := List.getElem?_eq_some_iff.1 h
  unfold okW
  rw [take_add_one hi, List.all_append, Bool.and_assoc]
  simp
theorem okW_yes {W : List Int} {n : Int} (h : okW W n W.length = true) : addW W n = W ++ [n] := by
  unfold okW at h
  rw [List.take_length, Bool.and_eq_true, decide_eq_true_eq, List.all_eq_true] at h
  unfold addW
  rw [if_pos ⟨h.1, fun m hm => by simpa using h.2 m hm⟩]
theorem okW_no {W : List Int} {n : Int} (h : okW W n W.length = false) : addW W n = W := by
  unfold addW
  rw [if_neg]
  intro h2
  have : okW W n W.length = true := by
    unfold okW
    rw [List.take_length, Bool.and_eq_true, decide_eq_true_eq, List.all_eq_true]
    exact ⟨h2.1, fun m hm => by simpa using h2.2 m hm⟩
  rw [h] at this
  cases this
theorem getD_at {W : List Int} {i : Nat} (h : i < W.length) : W[i]? = some (W.getD i 0) := by
  rw [List.getD_eq_getElem?_getD, List.getElem?_eq_getElem h]
  rfl

set_option maxHeartbeats 2000000 in
theorem line_spec (v : Value) (way : List Int) (p : PV) (w : World) (hr : Row w v way.length (way.map iV)) (hlw2 : way.length ≤ 17592186043904) (hp : okN p.n) :
    Calls Try.prog 28 [v, .agg (cP p).toArray].toArray w fun r w' => ∃ x : LnS, r = .returned (.tuple #[x.vp, x.vw]) ∧ (Vec 28 1 x.vp x.ts.length (pts x.ts) x.lp ∧ Vec 3 1 x.vw (lineW way).length ((lineW way).map iV) x.lw ∧ x.ts.length = (lineW way).length ∧ TabsOf x.ts (fun i => (tadd [] 2 (lineE p (lineW way) i)).2)) ∧ St w [] (x.lp ++ (x.lw ++ blks x.ts)) w' := by
  obtain ⟨av, cv, rfl, hcv, _⟩ := id hr
  refine calls_of_J (args := [.slice av way.length cv, .agg (cP p).toArray]) (e := [(0, .slice av way.length cv), (1, .agg (cP p).toArray)]) Try.func28 rfl rfl ⟨rfl, rfl, trivial⟩ (St.start w) ?_
  refine JC.seq (fun K0 hK0 => ?_)
  refine JC.region ?_
  refine J.box rfl rfl rfl (fun b3 => ?_)
  refine J.assign rfl rfl ?_
  refine J.assign rfl rfl ?_
  refine J.nil ?_
  refine JX.thenN (hK0 _ _ ?_)
  refine JC.seq (fun K1 hK1 => ?_)
  refine JC.region ?_
  refine J.assign rfl rfl ?_
  refine J.nil ?_
  refine JX.thenN (hK1 _ _ ?_)
  refine JC.seq (fun K2 hK2 => ?_)
  refine JC.seq (fun K3 hK3 => ?_)
  refine JC.region ?_
  refine J.move rfl rfl ?_
  refine J.lenS rfl Ty.u59 rfl rfl ?_
  refine J.move rfl rfl ?_
  refine J.nil ?_
  refine JX.thenN (hK3 _ _ ?_)
  refine JC.block ?_
  refine JC.conseq (JC.cov (f := (fun st => [(3, .pointer (some ⟨b3, 0, none⟩)), (6, st.2.1), (16, .slice av way.length cv), (17, .int .i64 ((way.length : Nat) : Int)), (18, .int .i64 ((st.1 : Nat) : Int))]) ((0, .slice none 0 0, []) : Nat × Value × List (Nat × Obj))) ⟨rfl, rfl, rfl, rfl, rfl, trivial⟩ (JC.loop (α := Nat × Value × List (Nat × Obj)) (fun st => [(3, .pointer (some ⟨b3, 0, none⟩)), (6, st.2.1), (16, .slice av way.length cv), (17, .int .i64 ((way.length : Nat) : Int)), (18, .int .i64 ((st.1 : Nat) : Int))]) (fun st w' => (st.1 ≤ way.length ∧ Vec 3 1 st.2.1 (lineW (way.take st.1)).length ((lineW (way.take st.1)).map iV) st.2.2) ∧ St w [] ((b3, cb (cP p) 38) :: st.2.2) w') (fun st => way.length - st.1) ((0, .slice none 0 0, []) : Nat × Value × List (Nat × Obj)) (fun st => ?_))) (fun w hw => ⟨⟨Nat.zero_le _, Vec.nil _ _⟩, hw⟩)
  obtain ⟨i, v6, lw⟩ := st
  refine JC.pr (fun hx1 => ?_)
  obtain ⟨hi, hvw⟩ := hx1
  simp only at hi hvw ⊢
  obtain ⟨aw, cw, rfl, hcw⟩ := hvw.form
  have hWl : (lineW (way.take i)).length ≤ i := Nat.le_trans (lineW_len _) (by rw [List.length_take]; omega)
  refine JC.seq (fun K4 hK4 => ?_)
  refine JC.region ?_
  refine J.bin rfl rfl rfl rfl ?_
  refine J.nil ?_
  refine JX.thenN (hK4 _ _ ?_)
  refine JC.seq (fun K5 hK5 => ?_)
  refine JC.cond rfl (fun h0 => ?_) (fun h0 => ?_)
  · skip
    have hlt : i < way.length := by simp at h0; omega
    obtain ⟨qx, ox, cx9, hqe, _, _⟩ := Row.some hr (by rw [List.length_map]; omega)
    simp only [Value.slice.injEq] at hqe
    obtain ⟨rfl, _, rfl⟩ := hqe
    obtain ⟨xa, hxa⟩ : ∃ x, way[i]? = some x := ⟨_, List.getElem?_eq_getElem hlt⟩
    refine JC.skip ?_
    refine JX.thenN (hK5 _ _ ?_)
    refine JC.seq (fun K6 hK6 => ?_)
    refine JC.block ?_
    refine JC.seq (fun K7 hK7 => ?_)
    refine JC.region ?_
    refine J.indexAddrS Ty.el59 Ty.s3 rfl rfl (by omega) (by omega) rfl ?_
    refine J.load1 (v := iV xa) Ty.a3 rfl (fun w1 hw => rowI_at2 (i := i) (hr.below (hw.drop (List.nil_sublist _)).below) hxa (by simp)) rfl ?_
    refine J.assign rfl rfl ?_
    refine J.nil ?_
    refine JX.thenN (hK7 _ _ ?_)
    refine JC.seq (fun K8 hK8 => ?_)
    by_cases hn0 : 0 ≤ xa
    · skip
      by_cases hn6 : xa < 6
      · skip
        refine JC.region ?_
        refine J.move rfl rfl ?_
        refine J.bin rfl rfl rfl rfl ?_
        refine J.name 23 rfl (show _ = Value.bool true by simp [hn0]) ?_
        refine J.move rfl rfl ?_
        first | refine J.skip rfl rfl rfl rfl rfl ?_ | refine J.skipU rfl rfl rfl rfl ?_ | (refine J.unguard rfl rfl rfl ?_; refine J.move rfl rfl ?_)
        first | refine J.skip rfl rfl rfl rfl rfl ?_ | refine J.skipU rfl rfl rfl rfl ?_ | (refine J.unguard rfl rfl rfl ?_; refine J.bin rfl rfl rfl rfl ?_; refine J.name 26 rfl (show _ = Value.bool true by simp [hn6]) ?_)
        (first | refine J.pickT rfl rfl rfl ?_ | refine J.pickF rfl rfl rfl ?_)
        refine J.assign rfl rfl ?_
        refine J.nil ?_
        refine JX.thenN (hK8 _ _ ?_)
        refine JC.seq (fun K9 hK9 => ?_)
        refine JC.seq (fun K10 hK10 => ?_)
        refine JC.region ?_
        refine J.move rfl rfl ?_
        refine J.lenS rfl Ty.u59 rfl rfl ?_
        refine J.move rfl rfl ?_
        refine J.nil ?_
        refine JX.thenN (hK10 _ _ ?_)
        refine JC.block ?_
        refine JC.conseq (JC.cov (f := (fun st => [(3, .pointer (some ⟨b3, 0, none⟩)), (6, .slice aw (lineW (way.take i)).length cw), (16, .slice (some ⟨qx, ox, none⟩) way.length cv), (17, .int .i64 ((way.length : Nat) : Int)), (18, .int .i64 ((i : Nat) : Int)), (8, iV xa), (9, .bool st.2), (28, .slice aw (lineW (way.take i)).length cw), (29, .int .i64 (((lineW (way.take i)).length : Nat) : Int)), (30, .int .i64 ((st.1 : Nat) : Int))]) ((0, true) : Nat × Bool)) ⟨rfl, rfl, rfl, rfl, rfl, rfl, rfl, rfl, rfl, rfl, trivial⟩ (JC.loop (α := Nat × Bool) (fun st => [(3, .pointer (some ⟨b3, 0, none⟩)), (6, .slice aw (lineW (way.take i)).length cw), (16, .slice (some ⟨qx, ox, none⟩) way.length cv), (17, .int .i64 ((way.length : Nat) : Int)), (18, .int .i64 ((i : Nat) : Int)), (8, iV xa), (9, .bool st.2), (28, .slice aw (lineW (way.take i)).length cw), (29, .int .i64 (((lineW (way.take i)).length : Nat) : Int)), (30, .int .i64 ((st.1 : Nat) : Int))]) (fun st w' => (st.1 ≤ (lineW (way.take i)).length ∧ st.2 = okW (lineW (way.take i)) xa st.1) ∧ St w [] ((b3, cb (cP p) 38) :: lw) w') (fun st => (lineW (way.take i)).length - st.1) ((0, true) : Nat × Bool) (fun st => ?_))) (fun w hw => ⟨⟨Nat.zero_le _, by simp [okW, hn0, hn6]⟩, hw⟩)
        obtain ⟨j, bo⟩ := st
        refine JC.pr (fun hx2 => ?_)
        obtain ⟨hj, hbo⟩ := hx2
        simp only at hj hbo ⊢
        refine JC.seq (fun K11 hK11 => ?_)
        refine JC.region ?_
        refine J.bin rfl rfl rfl rfl ?_
        refine J.nil ?_
        refine JX.thenN (hK11 _ _ ?_)
        refine JC.seq (fun K12 hK12 => ?_)
        refine JC.cond rfl (fun h1 => ?_) (fun h1 => ?_)
        · skip
          have hltj : j < (lineW (way.take i)).length := by simp at h1; omega
          obtain ⟨qaw, rfl⟩ : ∃ q, aw = some ⟨q, 0, none⟩ := by
            obtain ⟨q, sp, h9, _⟩ := vec_pos hvw (by omega)
            exact ⟨q, h9⟩
          obtain ⟨ma, hma⟩ : ∃ x, (lineW (way.take i))[j]? = some x := ⟨_, List.getElem?_eq_getElem hltj⟩
          refine JC.skip ?_
          refine JX.thenN (hK12 _ _ ?_)
          refine JC.seq (fun K13 hK13 => ?_)
          refine JC.block ?_
          refine JC.seq (fun K14 hK14 => ?_)
          refine JC.region ?_
          refine J.indexAddrS Ty.el59 Ty.s3 rfl rfl (by omega) (by omega) rfl ?_
          refine J.load1 (v := iV ma) Ty.a3 rfl (fun w1 hw => rowI_at2 (i := j) (vec_rowM hvw hw (fun q hq => by first | (simp [hq]; done) | (simp at hq; simp [hq]; done) | (simp at hq; subst hq; simp))) hma (by simp)) rfl ?_
          refine J.assign rfl rfl ?_
          refine J.nil ?_
          refine JX.thenN (hK14 _ _ ?_)
          cases bo with
          | false =>
            refine JC.region ?_
            refine J.move rfl rfl ?_
            refine J.move rfl rfl ?_
            first | refine J.skip rfl rfl rfl rfl rfl ?_ | refine J.skipU rfl rfl rfl rfl ?_ | (refine J.unguard rfl rfl rfl ?_; refine J.move rfl rfl ?_)
            first | refine J.skip rfl rfl rfl rfl rfl ?_ | refine J.skipU rfl rfl rfl rfl ?_ | (refine J.unguard rfl rfl rfl ?_; refine J.move rfl rfl ?_)
            first | refine J.skip rfl rfl rfl rfl rfl ?_ | refine J.skipU rfl rfl rfl rfl ?_ | (refine J.unguard rfl rfl rfl ?_; skip)
            (first | refine J.pickT rfl rfl rfl ?_ | refine J.pickF rfl rfl rfl ?_)
            refine J.assign rfl rfl ?_
            refine J.nil ?_
            refine JX.blockN ?_
            refine JX.thenN (hK13 _ _ ?_)
            refine JC.region ?_
            (first | refine J.addN rfl rfl (by omega) (by omega) rfl ?_ | refine J.bin rfl rfl rfl rfl ?_)
            refine J.move rfl rfl ?_
            refine J.nil ?_
            refine JX.thenN ?_
            refine JX.again ((j + 1, false) : Nat × Bool) ?_ ?_ ?_
            · simp only; omega
            · exact ⟨rfl, rfl, rfl, rfl, rfl, rfl, rfl, rfl, rfl, rfl, trivial⟩
            · exact fun w1 hw => ⟨⟨hltj, by rw [okW_step hma, ← hbo, Bool.false_and]⟩, hw⟩
          | true =>
            refine JC.region ?_
            refine J.move rfl rfl ?_
            refine J.move rfl rfl ?_
            first | refine J.skip rfl rfl rfl rfl rfl ?_ | refine J.skipU rfl rfl rfl rfl ?_ | (refine J.unguard rfl rfl rfl ?_; refine J.move rfl rfl ?_)
            first | refine J.skip rfl rfl rfl rfl rfl ?_ | refine J.skipU rfl rfl rfl rfl ?_ | (refine J.unguard rfl rfl rfl ?_; refine J.move rfl rfl ?_)
            first | refine J.skip rfl rfl rfl rfl rfl ?_ | refine J.skipU rfl rfl rfl rfl ?_ | (refine J.unguard rfl rfl rfl ?_; refine J.bin rfl rfl rfl rfl ?_; refine J.name 38 rfl (show _ = Value.bool (decide (ma ≠ xa)) by congr 1; rw [Bool.eq_iff_iff]; simp) ?_)
            (first | refine J.pickT rfl rfl rfl ?_ | refine J.pickF rfl rfl rfl ?_)
            refine J.assign rfl rfl ?_
            refine J.nil ?_
            refine JX.blockN ?_
            refine JX.thenN (hK13 _ _ ?_)
            refine JC.region ?_
            (first | refine J.addN rfl rfl (by omega) (by omega) rfl ?_ | refine J.bin rfl rfl rfl rfl ?_)
            refine J.move rfl rfl ?_
            refine J.nil ?_
            refine JX.thenN ?_
            refine JX.again ((j + 1, decide (ma ≠ xa)) : Nat × Bool) ?_ ?_ ?_
            · simp only; omega
            · exact ⟨rfl, rfl, rfl, rfl, rfl, rfl, rfl, rfl, rfl, rfl, trivial⟩
            · exact fun w1 hw => ⟨⟨hltj, by rw [okW_step hma, ← hbo, Bool.true_and]⟩, hw⟩
        · skip
          have hgej : j = (lineW (way.take i)).length := by simp at h1; omega
          subst hgej
          refine JC.exit ?_
          refine JX.thenE ?_
          refine JX.thenE ?_
          refine JX.blockE ?_
          refine JX.thenN (hK9 _ _ ?_)
          refine JC.seq (fun K15 hK15 => ?_)
          refine JC.region ?_
          refine J.move rfl rfl ?_
          refine J.nil ?_
          refine JX.thenN (hK15 _ _ ?_)
          refine JC.cond rfl (fun h2 => ?_) (fun h2 => ?_)
          · skip
            have hok : okW (lineW (way.take i)) xa (lineW (way.take i)).length = true := by rw [← hbo]; exact h2
            refine JC.region ?_
            refine J.move rfl rfl ?_
            refine J.move rfl rfl ?_
            refine J.buildSl (cs := [iV xa]) Ty.el59 Ty.s3 Ty.z3 rfl rfl rfl rfl rfl rfl rfl (fun b44 => ?_)
            refine J.perm (lw ++ ((b44, cb [iV xa] 3) :: (b3, cb (cP p) 38) :: [])) (by (refine perm_cnt (fun _ => ?_)); simp only [cntB_append, cntB_cons, cntB_nil, Nat.add_zero, Nat.zero_add]; try ac_rfl) ?_
            refine J.append (lp := lw) (xs := (lineW (way.take i)).map iV) (ys := [iV xa]) (k := (lineW (way.take i)).length) (m := 1) Ty.el59 Ty.s3 Ty.b3 Ty.z3 rfl (.inl ⟨3, Ty.u59⟩) rfl rfl hvw (fun w3 hw3 => .inl (Row.own (cs := [iV xa]) (tb := 3) (fr := (0, 0)) hw3 (by repeat first | exact .head _ | apply List.Mem.tail | apply List.mem_append_right) rfl (Nat.le_refl _))) rfl (fun y hy => by simp at hy; subst hy; rfl) (by omega) (by omega) rfl (fun vn ln hvn => ?_)
            refine J.assign rfl rfl ?_
            refine J.nil ?_
            refine JX.blockN ?_
            refine JX.thenN (hK6 _ _ ?_)
            refine JC.region ?_
            (first | refine J.addN rfl rfl (by omega) (by omega) rfl ?_ | refine J.bin rfl rfl rfl rfl ?_)
            refine J.move rfl rfl ?_
            refine J.nil ?_
            have hWn : lineW (way.take (i + 1)) = (lineW (way.take i)) ++ [xa] := by rw [lineW_step hxa, okW_yes hok]
            refine JX.thenN ?_
            refine JX.again ((i + 1, vn, ln) : Nat × Value × List (Nat × Obj)) ?_ ?_ ?_
            · simp only; omega
            · exact ⟨rfl, rfl, rfl, rfl, rfl, trivial⟩
            · exact fun w1 hw => ⟨⟨hlt, by simp only; rw [hWn, List.length_append, List.map_append]; exact hvn⟩, (hw.perm (l' := (b44, cb [iV xa] 3) :: (b3, cb (cP p) 38) :: ln) (by (refine perm_cnt (fun _ => ?_)); simp only [cntB_append, cntB_cons, cntB_nil, Nat.add_zero, Nat.zero_add]; try ac_rfl)).drop (List.sublist_cons_self _ _)⟩
          · skip
            have hok : okW (lineW (way.take i)) xa (lineW (way.take i)).length = false := by rw [← hbo]; exact h2
            refine JC.skip ?_
            refine JX.blockN ?_
            refine JX.thenN (hK6 _ _ ?_)
            refine JC.region ?_
            (first | refine J.addN rfl rfl (by omega) (by omega) rfl ?_ | refine J.bin rfl rfl rfl rfl ?_)
            refine J.move rfl rfl ?_
            refine J.nil ?_
            have hWn : lineW (way.take (i + 1)) = (lineW (way.take i)) := by rw [lineW_step hxa, okW_no hok]
            refine JX.thenN ?_
            refine JX.again ((i + 1, .slice aw (lineW (way.take i)).length cw, lw) : Nat × Value × List (Nat × Obj)) ?_ ?_ ?_
            · simp only; omega
            · exact ⟨rfl, rfl, rfl, rfl, rfl, trivial⟩
            · exact fun w1 hw => ⟨⟨hlt, by simp only; rw [hWn]; exact hvw⟩, hw⟩
      · skip
        refine JC.region ?_
        refine J.move rfl rfl ?_
        refine J.bin rfl rfl rfl rfl ?_
        refine J.name 23 rfl (show _ = Value.bool true by simp [hn0]) ?_
        refine J.move rfl rfl ?_
        first | refine J.skip rfl rfl rfl rfl rfl ?_ | refine J.skipU rfl rfl rfl rfl ?_ | (refine J.unguard rfl rfl rfl ?_; refine J.move rfl rfl ?_)
        first | refine J.skip rfl rfl rfl rfl rfl ?_ | refine J.skipU rfl rfl rfl rfl ?_ | (refine J.unguard rfl rfl rfl ?_; refine J.bin rfl rfl rfl rfl ?_; refine J.name 26 rfl (show _ = Value.bool false by simp [hn6]) ?_)
        (first | refine J.pickT rfl rfl rfl ?_ | refine J.pickF rfl rfl rfl ?_)
        refine J.assign rfl rfl ?_
        refine J.nil ?_
        refine JX.thenN (hK8 _ _ ?_)
        refine JC.seq (fun K16 hK16 => ?_)
        refine JC.seq (fun K17 hK17 => ?_)
        refine JC.region ?_
        refine J.move rfl rfl ?_
        refine J.lenS rfl Ty.u59 rfl rfl ?_
        refine J.move rfl rfl ?_
        refine J.nil ?_
        refine JX.thenN (hK17 _ _ ?_)
        refine JC.block ?_
        refine JC.conseq (JC.cov (f := (fun st => [(3, .pointer (some ⟨b3, 0, none⟩)), (6, .slice aw (lineW (way.take i)).length cw), (16, .slice (some ⟨qx, ox, none⟩) way.length cv), (17, .int .i64 ((way.length : Nat) : Int)), (18, .int .i64 ((i : Nat) : Int)), (8, iV xa), (9, .bool st.2), (28, .slice aw (lineW (way.take i)).length cw), (29, .int .i64 (((lineW (way.take i)).length : Nat) : Int)), (30, .int .i64 ((st.1 : Nat) : Int))]) ((0, false) : Nat × Bool)) ⟨rfl, rfl, rfl, rfl, rfl, rfl, rfl, rfl, rfl, rfl, trivial⟩ (JC.loop (α := Nat × Bool) (fun st => [(3, .pointer (some ⟨b3, 0, none⟩)), (6, .slice aw (lineW (way.take i)).length cw), (16, .slice (some ⟨qx, ox, none⟩) way.length cv), (17, .int .i64 ((way.length : Nat) : Int)), (18, .int .i64 ((i : Nat) : Int)), (8, iV xa), (9, .bool st.2), (28, .slice aw (lineW (way.take i)).length cw), (29, .int .i64 (((lineW (way.take i)).length : Nat) : Int)), (30, .int .i64 ((st.1 : Nat) : Int))]) (fun st w' => (st.1 ≤ (lineW (way.take i)).length ∧ st.2 = okW (lineW (way.take i)) xa st.1) ∧ St w [] ((b3, cb (cP p) 38) :: lw) w') (fun st => (lineW (way.take i)).length - st.1) ((0, false) : Nat × Bool) (fun st => ?_))) (fun w hw => ⟨⟨Nat.zero_le _, by simp [okW, hn0, hn6]⟩, hw⟩)
        obtain ⟨j, bo⟩ := st
        refine JC.pr (fun hx2 => ?_)
        obtain ⟨hj, hbo⟩ := hx2
        simp only at hj hbo ⊢
        refine JC.seq (fun K18 hK18 => ?_)
        refine JC.region ?_
        refine J.bin rfl rfl rfl rfl ?_
        refine J.nil ?_
        refine JX.thenN (hK18 _ _ ?_)
        refine JC.seq (fun K19 hK19 => ?_)
        refine JC.cond rfl (fun h1 => ?_) (fun h1 => ?_)
        · skip
          have hltj : j < (lineW (way.take i)).length := by simp at h1; omega
          obtain ⟨qaw, rfl⟩ : ∃ q, aw = some ⟨q, 0, none⟩ := by
            obtain ⟨q, sp, h9, _⟩ := vec_pos hvw (by omega)
            exact ⟨q, h9⟩
          obtain ⟨ma, hma⟩ : ∃ x, (lineW (way.take i))[j]? = some x := ⟨_, List.getElem?_eq_getElem hltj⟩
          refine JC.skip ?_
          refine JX.thenN (hK19 _ _ ?_)
          refine JC.seq (fun K20 hK20 => ?_)
          refine JC.block ?_
          refine JC.seq (fun K21 hK21 => ?_)
          refine JC.region ?_
          refine J.indexAddrS Ty.el59 Ty.s3 rfl rfl (by omega) (by omega) rfl ?_
          refine J.load1 (v := iV ma) Ty.a3 rfl (fun w1 hw => rowI_at2 (i := j) (vec_rowM hvw hw (fun q hq => by first | (simp [hq]; done) | (simp at hq; simp [hq]; done) | (simp at hq; subst hq; simp))) hma (by simp)) rfl ?_
          refine J.assign rfl rfl ?_
          refine J.nil ?_
          refine JX.thenN (hK21 _ _ ?_)
          cases bo with
          | false =>
            refine JC.region ?_
            refine J.move rfl rfl ?_
            refine J.move rfl rfl ?_
            first | refine J.skip rfl rfl rfl rfl rfl ?_ | refine J.skipU rfl rfl rfl rfl ?_ | (refine J.unguard rfl rfl rfl ?_; refine J.move rfl rfl ?_)
            first | refine J.skip rfl rfl rfl rfl rfl ?_ | refine J.skipU rfl rfl rfl rfl ?_ | (refine J.unguard rfl rfl rfl ?_; refine J.move rfl rfl ?_)
            first | refine J.skip rfl rfl rfl rfl rfl ?_ | refine J.skipU rfl rfl rfl rfl ?_ | (refine J.unguard rfl rfl rfl ?_; skip)
            (first | refine J.pickT rfl rfl rfl ?_ | refine J.pickF rfl rfl rfl ?_)
            refine J.assign rfl rfl ?_
            refine J.nil ?_
            refine JX.blockN ?_
            refine JX.thenN (hK20 _ _ ?_)
            refine JC.region ?_
            (first | refine J.addN rfl rfl (by omega) (by omega) rfl ?_ | refine J.bin rfl rfl rfl rfl ?_)
            refine J.move rfl rfl ?_
            refine J.nil ?_
            refine JX.thenN ?_
            refine JX.again ((j + 1, false) : Nat × Bool) ?_ ?_ ?_
            · simp only; omega
            · exact ⟨rfl, rfl, rfl, rfl, rfl, rfl, rfl, rfl, rfl, rfl, trivial⟩
            · exact fun w1 hw => ⟨⟨hltj, by rw [okW_step hma, ← hbo, Bool.false_and]⟩, hw⟩
          | true =>
            refine JC.region ?_
            refine J.move rfl rfl ?_
            refine J.move rfl rfl ?_
            first | refine J.skip rfl rfl rfl rfl rfl ?_ | refine J.skipU rfl rfl rfl rfl ?_ | (refine J.unguard rfl rfl rfl ?_; refine J.move rfl rfl ?_)
            first | refine J.skip rfl rfl rfl rfl rfl ?_ | refine J.skipU rfl rfl rfl rfl ?_ | (refine J.unguard rfl rfl rfl ?_; refine J.move rfl rfl ?_)
            first | refine J.skip rfl rfl rfl rfl rfl ?_ | refine J.skipU rfl rfl rfl rfl ?_ | (refine J.unguard rfl rfl rfl ?_; refine J.bin rfl rfl rfl rfl ?_; refine J.name 38 rfl (show _ = Value.bool (decide (ma ≠ xa)) by congr 1; rw [Bool.eq_iff_iff]; simp) ?_)
            (first | refine J.pickT rfl rfl rfl ?_ | refine J.pickF rfl rfl rfl ?_)
            refine J.assign rfl rfl ?_
            refine J.nil ?_
            refine JX.blockN ?_
            refine JX.thenN (hK20 _ _ ?_)
            refine JC.region ?_
            (first | refine J.addN rfl rfl (by omega) (by omega) rfl ?_ | refine J.bin rfl rfl rfl rfl ?_)
            refine J.move rfl rfl ?_
            refine J.nil ?_
            refine JX.thenN ?_
            refine JX.again ((j + 1, decide (ma ≠ xa)) : Nat × Bool) ?_ ?_ ?_
            · simp only; omega
            · exact ⟨rfl, rfl, rfl, rfl, rfl, rfl, rfl, rfl, rfl, rfl, trivial⟩
            · exact fun w1 hw => ⟨⟨hltj, by rw [okW_step hma, ← hbo, Bool.true_and]⟩, hw⟩
        · skip
          have hgej : j = (lineW (way.take i)).length := by simp at h1; omega
          subst hgej
          refine JC.exit ?_
          refine JX.thenE ?_
          refine JX.thenE ?_
          refine JX.blockE ?_
          refine JX.thenN (hK16 _ _ ?_)
          refine JC.seq (fun K22 hK22 => ?_)
          refine JC.region ?_
          refine J.move rfl rfl ?_
          refine J.nil ?_
          refine JX.thenN (hK22 _ _ ?_)
          refine JC.cond rfl (fun h2 => ?_) (fun h2 => ?_)
          · skip
            have hok : okW (lineW (way.take i)) xa (lineW (way.take i)).length = true := by rw [← hbo]; exact h2
            refine JC.region ?_
            refine J.move rfl rfl ?_
            refine J.move rfl rfl ?_
            refine J.buildSl (cs := [iV xa]) Ty.el59 Ty.s3 Ty.z3 rfl rfl rfl rfl rfl rfl rfl (fun b44 => ?_)
            refine J.perm (lw ++ ((b44, cb [iV xa] 3) :: (b3, cb (cP p) 38) :: [])) (by (refine perm_cnt (fun _ => ?_)); simp only [cntB_append, cntB_cons, cntB_nil, Nat.add_zero, Nat.zero_add]; try ac_rfl) ?_
            refine J.append (lp := lw) (xs := (lineW (way.take i)).map iV) (ys := [iV xa]) (k := (lineW (way.take i)).length) (m := 1) Ty.el59 Ty.s3 Ty.b3 Ty.z3 rfl (.inl ⟨3, Ty.u59⟩) rfl rfl hvw (fun w3 hw3 => .inl (Row.own (cs := [iV xa]) (tb := 3) (fr := (0, 0)) hw3 (by repeat first | exact .head _ | apply List.Mem.tail | apply List.mem_append_right) rfl (Nat.le_refl _))) rfl (fun y hy => by simp at hy; subst hy; rfl) (by omega) (by omega) rfl (fun vn ln hvn => ?_)
            refine J.assign rfl rfl ?_
            refine J.nil ?_
            refine JX.blockN ?_
            refine JX.thenN (hK6 _ _ ?_)
            refine JC.region ?_
            (first | refine J.addN rfl rfl (by omega) (by omega) rfl ?_ | refine J.bin rfl rfl rfl rfl ?_)
            refine J.move rfl rfl ?_
            refine J.nil ?_
            have hWn : lineW (way.take (i + 1)) = (lineW (way.take i)) ++ [xa] := by rw [lineW_step hxa, okW_yes hok]
            refine JX.thenN ?_
            refine JX.again ((i + 1, vn, ln) : Nat × Value × List (Nat × Obj)) ?_ ?_ ?_
            · simp only; omega
            · exact ⟨rfl, rfl, rfl, rfl, rfl, trivial⟩
            · exact fun w1 hw => ⟨⟨hlt, by simp only; rw [hWn, List.length_append, List.map_append]; exact hvn⟩, (hw.perm (l' := (b44, cb [iV xa] 3) :: (b3, cb (cP p) 38) :: ln) (by (refine perm_cnt (fun _ => ?_)); simp only [cntB_append, cntB_cons, cntB_nil, Nat.add_zero, Nat.zero_add]; try ac_rfl)).drop (List.sublist_cons_self _ _)⟩
          · skip
            have hok : okW (lineW (way.take i)) xa (lineW (way.take i)).length = false := by rw [← hbo]; exact h2
            refine JC.skip ?_
            refine JX.blockN ?_
            refine JX.thenN (hK6 _ _ ?_)
            refine JC.region ?_
            (first | refine J.addN rfl rfl (by omega) (by omega) rfl ?_ | refine J.bin rfl rfl rfl rfl ?_)
            refine J.move rfl rfl ?_
            refine J.nil ?_
            have hWn : lineW (way.take (i + 1)) = (lineW (way.take i)) := by rw [lineW_step hxa, okW_no hok]
            refine JX.thenN ?_
            refine JX.again ((i + 1, .slice aw (lineW (way.take i)).length cw, lw) : Nat × Value × List (Nat × Obj)) ?_ ?_ ?_
            · simp only; omega
            · exact ⟨rfl, rfl, rfl, rfl, rfl, trivial⟩
            · exact fun w1 hw => ⟨⟨hlt, by simp only; rw [hWn]; exact hvw⟩, hw⟩
    · skip
      have hn6 : True := trivial
      refine JC.region ?_
      refine J.move rfl rfl ?_
      refine J.bin rfl rfl rfl rfl ?_
      refine J.name 23 rfl (show _ = Value.bool false by simp; omega) ?_
      refine J.move rfl rfl ?_
      first | refine J.skip rfl rfl rfl rfl rfl ?_ | refine J.skipU rfl rfl rfl rfl ?_ | (refine J.unguard rfl rfl rfl ?_; refine J.move rfl rfl ?_)
      first | refine J.skip rfl rfl rfl rfl rfl ?_ | refine J.skipU rfl rfl rfl rfl ?_ | (refine J.unguard rfl rfl rfl ?_; skip)
      (first | refine J.pickT rfl rfl rfl ?_ | refine J.pickF rfl rfl rfl ?_)
      refine J.assign rfl rfl ?_
      refine J.nil ?_
      refine JX.thenN (hK8 _ _ ?_)
      refine JC.seq (fun K23 hK23 => ?_)
      refine JC.seq (fun K24 hK24 => ?_)
      refine JC.region ?_
      refine J.move rfl rfl ?_
      refine J.lenS rfl Ty.u59 rfl rfl ?_
      refine J.move rfl rfl ?_
      refine J.nil ?_
      refine JX.thenN (hK24 _ _ ?_)
      refine JC.block ?_
      refine JC.conseq (JC.cov (f := (fun st => [(3, .pointer (some ⟨b3, 0, none⟩)), (6, .slice aw (lineW (way.take i)).length cw), (16, .slice (some ⟨qx, ox, none⟩) way.length cv), (17, .int .i64 ((way.length : Nat) : Int)), (18, .int .i64 ((i : Nat) : Int)), (8, iV xa), (9, .bool st.2), (28, .slice aw (lineW (way.take i)).length cw), (29, .int .i64 (((lineW (way.take i)).length : Nat) : Int)), (30, .int .i64 ((st.1 : Nat) : Int))]) ((0, false) : Nat × Bool)) ⟨rfl, rfl, rfl, rfl, rfl, rfl, rfl, rfl, rfl, rfl, trivial⟩ (JC.loop (α := Nat × Bool) (fun st => [(3, .pointer (some ⟨b3, 0, none⟩)), (6, .slice aw (lineW (way.take i)).length cw), (16, .slice (some ⟨qx, ox, none⟩) way.length cv), (17, .int .i64 ((way.length : Nat) : Int)), (18, .int .i64 ((i : Nat) : Int)), (8, iV xa), (9, .bool st.2), (28, .slice aw (lineW (way.take i)).length cw), (29, .int .i64 (((lineW (way.take i)).length : Nat) : Int)), (30, .int .i64 ((st.1 : Nat) : Int))]) (fun st w' => (st.1 ≤ (lineW (way.take i)).length ∧ st.2 = okW (lineW (way.take i)) xa st.1) ∧ St w [] ((b3, cb (cP p) 38) :: lw) w') (fun st => (lineW (way.take i)).length - st.1) ((0, false) : Nat × Bool) (fun st => ?_))) (fun w hw => ⟨⟨Nat.zero_le _, by simp [okW, hn0, hn6]⟩, hw⟩)
      obtain ⟨j, bo⟩ := st
      refine JC.pr (fun hx2 => ?_)
      obtain ⟨hj, hbo⟩ := hx2
      simp only at hj hbo ⊢
      refine JC.seq (fun K25 hK25 => ?_)
      refine JC.region ?_
      refine J.bin rfl rfl rfl rfl ?_
      refine J.nil ?_
      refine JX.thenN (hK25 _ _ ?_)
      refine JC.seq (fun K26 hK26 => ?_)
      refine JC.cond rfl (fun h1 => ?_) (fun h1 => ?_)
      · skip
        have hltj : j < (lineW (way.take i)).length := by simp at h1; omega
        obtain ⟨qaw, rfl⟩ : ∃ q, aw = some ⟨q, 0, none⟩ := by
          obtain ⟨q, sp, h9, _⟩ := vec_pos hvw (by omega)
          exact ⟨q, h9⟩
        obtain ⟨ma, hma⟩ : ∃ x, (lineW (way.take i))[j]? = some x := ⟨_, List.getElem?_eq_getElem hltj⟩
        refine JC.skip ?_
        refine JX.thenN (hK26 _ _ ?_)
        refine JC.seq (fun K27 hK27 => ?_)
        refine JC.block ?_
        refine JC.seq (fun K28 hK28 => ?_)
        refine JC.region ?_
        refine J.indexAddrS Ty.el59 Ty.s3 rfl rfl (by omega) (by omega) rfl ?_
        refine J.load1 (v := iV ma) Ty.a3 rfl (fun w1 hw => rowI_at2 (i := j) (vec_rowM hvw hw (fun q hq => by first | (simp [hq]; done) | (simp at hq; simp [hq]; done) | (simp at hq; subst hq; simp))) hma (by simp)) rfl ?_
        refine J.assign rfl rfl ?_
        refine J.nil ?_
        refine JX.thenN (hK28 _ _ ?_)
        cases bo with
        | false =>
          refine JC.region ?_
          refine J.move rfl rfl ?_
          refine J.move rfl rfl ?_
          first | refine J.skip rfl rfl rfl rfl rfl ?_ | refine J.skipU rfl rfl rfl rfl ?_ | (refine J.unguard rfl rfl rfl ?_; refine J.move rfl rfl ?_)
          first | refine J.skip rfl rfl rfl rfl rfl ?_ | refine J.skipU rfl rfl rfl rfl ?_ | (refine J.unguard rfl rfl rfl ?_; refine J.move rfl rfl ?_)
          first | refine J.skip rfl rfl rfl rfl rfl ?_ | refine J.skipU rfl rfl rfl rfl ?_ | (refine J.unguard rfl rfl rfl ?_; skip)
          (first | refine J.pickT rfl rfl rfl ?_ | refine J.pickF rfl rfl rfl ?_)
          refine J.assign rfl rfl ?_
          refine J.nil ?_
          refine JX.blockN ?_
          refine JX.thenN (hK27 _ _ ?_)
          refine JC.region ?_
          (first | refine J.addN rfl rfl (by omega) (by omega) rfl ?_ | refine J.bin rfl rfl rfl rfl ?_)
          refine J.move rfl rfl ?_
          refine J.nil ?_
          refine JX.thenN ?_
          refine JX.again ((j + 1, false) : Nat × Bool) ?_ ?_ ?_
          · simp only; omega
          · exact ⟨rfl, rfl, rfl, rfl, rfl, rfl, rfl, rfl, rfl, rfl, trivial⟩
          · exact fun w1 hw => ⟨⟨hltj, by rw [okW_step hma, ← hbo, Bool.false_and]⟩, hw⟩
        | true =>
          refine JC.region ?_
          refine J.move rfl rfl ?_
          refine J.move rfl rfl ?_
          first | refine J.skip rfl rfl rfl rfl rfl ?_ | refine J.skipU rfl rfl rfl rfl ?_ | (refine J.unguard rfl rfl rfl ?_; refine J.move rfl rfl ?_)
          first | refine J.skip rfl rfl rfl rfl rfl ?_ | refine J.skipU rfl rfl rfl rfl ?_ | (refine J.unguard rfl rfl rfl ?_; refine J.move rfl rfl ?_)
          first | refine J.skip rfl rfl rfl rfl rfl ?_ | refine J.skipU rfl rfl rfl rfl ?_ | (refine J.unguard rfl rfl rfl ?_; refine J.bin rfl rfl rfl rfl ?_; refine J.name 38 rfl (show _ = Value.bool (decide (ma ≠ xa)) by congr 1; rw [Bool.eq_iff_iff]; simp) ?_)
          (first | refine J.pickT rfl rfl rfl ?_ | refine J.pickF rfl rfl rfl ?_)
          refine J.assign rfl rfl ?_
          refine J.nil ?_
          refine JX.blockN ?_
          refine JX.thenN (hK27 _ _ ?_)
          refine JC.region ?_
          (first | refine J.addN rfl rfl (by omega) (by omega) rfl ?_ | refine J.bin rfl rfl rfl rfl ?_)
          refine J.move rfl rfl ?_
          refine J.nil ?_
          refine JX.thenN ?_
          refine JX.again ((j + 1, decide (ma ≠ xa)) : Nat × Bool) ?_ ?_ ?_
          · simp only; omega
          · exact ⟨rfl, rfl, rfl, rfl, rfl, rfl, rfl, rfl, rfl, rfl, trivial⟩
          · exact fun w1 hw => ⟨⟨hltj, by rw [okW_step hma, ← hbo, Bool.true_and]⟩, hw⟩
      · skip
        have hgej : j = (lineW (way.take i)).length := by simp at h1; omega
        subst hgej
        refine JC.exit ?_
        refine JX.thenE ?_
        refine JX.thenE ?_
        refine JX.blockE ?_
        refine JX.thenN (hK23 _ _ ?_)
        refine JC.seq (fun K29 hK29 => ?_)
        refine JC.region ?_
        refine J.move rfl rfl ?_
        refine J.nil ?_
        refine JX.thenN (hK29 _ _ ?_)
        refine JC.cond rfl (fun h2 => ?_) (fun h2 => ?_)
        · skip
          have hok : okW (lineW (way.take i)) xa (lineW (way.take i)).length = true := by rw [← hbo]; exact h2
          refine JC.region ?_
          refine J.move rfl rfl ?_
          refine J.move rfl rfl ?_
          refine J.buildSl (cs := [iV xa]) Ty.el59 Ty.s3 Ty.z3 rfl rfl rfl rfl rfl rfl rfl (fun b44 => ?_)
          refine J.perm (lw ++ ((b44, cb [iV xa] 3) :: (b3, cb (cP p) 38) :: [])) (by (refine perm_cnt (fun _ => ?_)); simp only [cntB_append, cntB_cons, cntB_nil, Nat.add_zero, Nat.zero_add]; try ac_rfl) ?_
          refine J.append (lp := lw) (xs := (lineW (way.take i)).map iV) (ys := [iV xa]) (k := (lineW (way.take i)).length) (m := 1) Ty.el59 Ty.s3 Ty.b3 Ty.z3 rfl (.inl ⟨3, Ty.u59⟩) rfl rfl hvw (fun w3 hw3 => .inl (Row.own (cs := [iV xa]) (tb := 3) (fr := (0, 0)) hw3 (by repeat first | exact .head _ | apply List.Mem.tail | apply List.mem_append_right) rfl (Nat.le_refl _))) rfl (fun y hy => by simp at hy; subst hy; rfl) (by omega) (by omega) rfl (fun vn ln hvn => ?_)
          refine J.assign rfl rfl ?_
          refine J.nil ?_
          refine JX.blockN ?_
          refine JX.thenN (hK6 _ _ ?_)
          refine JC.region ?_
          (first | refine J.addN rfl rfl (by omega) (by omega) rfl ?_ | refine J.bin rfl rfl rfl rfl ?_)
          refine J.move rfl rfl ?_
          refine J.nil ?_
          have hWn : lineW (way.take (i + 1)) = (lineW (way.take i)) ++ [xa] := by rw [lineW_step hxa, okW_yes hok]
          refine JX.thenN ?_
          refine JX.again ((i + 1, vn, ln) : Nat × Value × List (Nat × Obj)) ?_ ?_ ?_
          · simp only; omega
          · exact ⟨rfl, rfl, rfl, rfl, rfl, trivial⟩
          · exact fun w1 hw => ⟨⟨hlt, by simp only; rw [hWn, List.length_append, List.map_append]; exact hvn⟩, (hw.perm (l' := (b44, cb [iV xa] 3) :: (b3, cb (cP p) 38) :: ln) (by (refine perm_cnt (fun _ => ?_)); simp only [cntB_append, cntB_cons, cntB_nil, Nat.add_zero, Nat.zero_add]; try ac_rfl)).drop (List.sublist_cons_self _ _)⟩
        · skip
          have hok : okW (lineW (way.take i)) xa (lineW (way.take i)).length = false := by rw [← hbo]; exact h2
          refine JC.skip ?_
          refine JX.blockN ?_
          refine JX.thenN (hK6 _ _ ?_)
          refine JC.region ?_
          (first | refine J.addN rfl rfl (by omega) (by omega) rfl ?_ | refine J.bin rfl rfl rfl rfl ?_)
          refine J.move rfl rfl ?_
          refine J.nil ?_
          have hWn : lineW (way.take (i + 1)) = (lineW (way.take i)) := by rw [lineW_step hxa, okW_no hok]
          refine JX.thenN ?_
          refine JX.again ((i + 1, .slice aw (lineW (way.take i)).length cw, lw) : Nat × Value × List (Nat × Obj)) ?_ ?_ ?_
          · simp only; omega
          · exact ⟨rfl, rfl, rfl, rfl, rfl, trivial⟩
          · exact fun w1 hw => ⟨⟨hlt, by simp only; rw [hWn]; exact hvw⟩, hw⟩
  · skip
    have hge : i = way.length := by simp at h0; omega
    subst hge
    rw [List.take_length] at *
    refine JC.exit ?_
    refine JX.thenE ?_
    refine JX.thenE ?_
    refine JX.blockE ?_
    refine JX.thenN (hK2 _ _ ?_)
    refine JC.seq (fun K30 hK30 => ?_)
    refine JC.region ?_
    refine J.assign rfl rfl ?_
    refine J.nil ?_
    refine JX.thenN (hK30 _ _ ?_)
    refine JC.seq (fun K31 hK31 => ?_)
    refine JC.seq (fun K32 hK32 => ?_)
    refine JC.region ?_
    refine J.move rfl rfl ?_
    refine J.lenS rfl Ty.u59 rfl rfl ?_
    refine J.move rfl rfl ?_
    refine J.nil ?_
    refine JX.thenN (hK32 _ _ ?_)
    refine JC.block ?_
    refine JC.conseq (JC.cov (f := (fun st => [(3, .pointer (some ⟨b3, 0, none⟩)), (6, .slice aw (lineW way).length cw), (12, st.2.2.1), (47, .slice aw (lineW way).length cw), (48, .int .i64 (((lineW way).length : Nat) : Int)), (49, .int .i64 ((st.1 : Nat) : Int))]) ((0, [], .slice none 0 0, []) : Nat × List NT × Value × List (Nat × Obj))) ⟨rfl, rfl, rfl, rfl, rfl, rfl, trivial⟩ (JC.loop (α := Nat × List NT × Value × List (Nat × Obj)) (fun st => [(3, .pointer (some ⟨b3, 0, none⟩)), (6, .slice aw (lineW way).length cw), (12, st.2.2.1), (47, .slice aw (lineW way).length cw), (48, .int .i64 (((lineW way).length : Nat) : Int)), (49, .int .i64 ((st.1 : Nat) : Int))]) (fun st w' => (st.1 ≤ (lineW way).length ∧ st.2.1.length = st.1 ∧ Vec 28 1 st.2.2.1 st.2.1.length (pts st.2.1) st.2.2.2 ∧ TabsOf st.2.1 (fun i => (tadd [] 2 (lineE p (lineW way) i)).2)) ∧ St w [] ((b3, cb (cP p) 38) :: (st.2.2.2 ++ (lw ++ blks st.2.1))) w') (fun st => (lineW way).length - st.1) ((0, [], .slice none 0 0, []) : Nat × List NT × Value × List (Nat × Obj)) (fun st => ?_))) (fun w hw => ⟨⟨Nat.zero_le _, rfl, Vec.nil _ _, fun i x h => by simp at h⟩, hw.perm (by simp [blks])⟩)
    obtain ⟨i, ts, vp, lp⟩ := st
    refine JC.pr (fun hx3 => ?_)
    obtain ⟨hi, htl, hvp, hts⟩ := hx3
    simp only at hi htl hvp hts ⊢
    refine JC.seq (fun K33 hK33 => ?_)
    refine JC.region ?_
    refine J.bin rfl rfl rfl rfl ?_
    refine J.nil ?_
    refine JX.thenN (hK33 _ _ ?_)
    refine JC.seq (fun K34 hK34 => ?_)
    refine JC.cond rfl (fun h3 => ?_) (fun h3 => ?_)
    · skip
      have hlt : i < (lineW way).length := by simp at h3; omega
      have hxo := okE_line hp (lineW_good way) hlt
      obtain ⟨qaw, rfl⟩ : ∃ q, aw = some ⟨q, 0, none⟩ := by
        obtain ⟨q, sp, h9, _⟩ := vec_pos hvw (by omega)
        exact ⟨q, h9⟩
      refine JC.skip ?_
      refine JX.thenN (hK34 _ _ ?_)
      refine JC.seq (fun K35 hK35 => ?_)
      refine JC.block ?_
      refine JC.seq (fun K36 hK36 => ?_)
      refine JC.region ?_
      refine J.move rfl rfl ?_
      refine J.assign rfl rfl ?_
      refine J.nil ?_
      refine JX.thenN (hK36 _ _ ?_)
      refine JC.seq (fun K37 hK37 => ?_)
      refine JC.region ?_
      refine J.perm ([] ++ ((b3, cb (cP p) 38) :: (lp ++ (lw ++ blks ts)))) (.refl _) ?_
      refine J.callS (α := Nat × Nat) (V := fun x => .pointer (some ⟨x.1, 0, none⟩)) (Pr := fun _ => True) (L := fun x => [(x.1, tabO (min (max (2) 0) 128) x.2), (x.2, .map #[] 0)]) (l1 := []) Ty.bd42 rfl rfl (fun w1 hw => (new_spec 2 w1).mono fun _ _ ⟨x, h1, h2⟩ => ⟨x, h1, trivial, h2⟩) (fun x _ => ?_)
      obtain ⟨t1, m1⟩ := x
      simp only [List.cons_append, List.nil_append]
      rw [show min (max (2 : Int) 0) 128 = 2 by decide]
      refine J.assign rfl rfl ?_
      refine J.nil ?_
      refine JX.thenN (hK37 _ _ ?_)
      refine JC.seq (fun K38 hK38 => ?_)
      refine JC.region ?_
      refine J.loadOA (vs := cP p) Ty.a38 Ty.s38 rfl (by repeat first | exact .head _ | apply List.Mem.tail | apply List.mem_append_right) (by exact rfl) rfl rfl ?_
      refine J.buildA (cs := cI idB) Ty.ar23 Ty.s5 Ty.z23 rfl (by kernel_rfl) rfl ?_
      refine J.buildA (cs := cI id2) Ty.ar23 Ty.s5 Ty.z23 rfl (by kernel_rfl) rfl ?_
      refine J.buildS (cs := cE (⟨p, idB, id2, -1, -1⟩ : EV)) Ty.pl55 Ty.zE_ rfl (by kernel_rfl) rfl ?_
      refine J.alloc Ty.zE_ rfl rfl (fun b15 => ?_)
      refine J.storeW (cs := cE zE) (vs := cE ⟨p, idB, id2, -1, -1⟩) Ty.s55 rfl rfl rfl rfl rfl (one_cE _) .here ?_
      refine J.nil ?_
      refine JX.thenN (hK38 _ _ ?_)
      refine JC.seq (fun K39 hK39 => ?_)
      refine JC.seq (fun K40 hK40 => ?_)
      refine JC.region ?_
      refine J.move rfl rfl ?_
      refine J.bin rfl rfl rfl rfl ?_
      refine J.nil ?_
      refine JX.thenN (hK40 _ _ ?_)
      refine JC.cond rfl (fun h4 => ?_) (fun h4 => ?_)
      · skip
        have hp4 : 0 < i := by simp at h4; omega
        refine JC.region ?_
        refine J.move rfl rfl ?_
        refine J.move rfl rfl ?_
        (first | refine J.subN rfl rfl (by omega) (by omega) rfl ?_ | refine J.bin rfl rfl rfl rfl ?_)
        refine J.indexAddrS Ty.el59 Ty.s3 rfl rfl (by omega) (by omega) rfl ?_
        refine J.load1 (v := iV ((lineW way).getD (i - 1) 0)) Ty.a3 rfl (fun w1 hw => rowI_at2 (i := i - 1) (vec_rowM hvw hw (fun q hq => by first | (simp [hq]; done) | (simp at hq; simp [hq]; done) | (simp at hq; subst hq; simp))) (getD_at (by omega)) (by omega)) rfl ?_
        refine J.fieldAddr Ty.fd55_3 rfl rfl ?_
        refine J.storeO (cs := cE ⟨p, idB, id2, -1, -1⟩) (vs := [iV ((lineW way).getD (i - 1) 0)]) Ty.s3 rfl rfl rfl rfl (by simp [Value.oneCell']) .here (by show 0 + 49 + 1 ≤ 51; decide) ?_
        refine J.perm ((b15, cb (cE ⟨p, idB, id2, ((lineW way).getD (i - 1) 0), -1⟩) 55) :: (t1, tabO 2 m1) :: (m1, .map #[] 0) :: (b3, cb (cP p) 38) :: (lp ++ (lw ++ blks ts))) (.refl _) ?_
        refine J.nil ?_
        refine JX.thenN (hK39 _ _ ?_)
        refine JC.seq (fun K41 hK41 => ?_)
        refine JC.seq (fun K42 hK42 => ?_)
        refine JC.region ?_
        refine J.move rfl rfl ?_
        (first | refine J.addN rfl rfl (by omega) (by omega) rfl ?_ | refine J.bin rfl rfl rfl rfl ?_)
        refine J.move rfl rfl ?_
        refine J.lenS rfl Ty.u59 rfl rfl ?_
        refine J.bin rfl rfl rfl rfl ?_
        refine J.nil ?_
        refine JX.thenN (hK42 _ _ ?_)
        refine JC.cond rfl (fun h5 => ?_) (fun h5 => ?_)
        · skip
          have hp5 : i + 1 < (lineW way).length := by simp at h5; omega
          refine JC.region ?_
          refine J.move rfl rfl ?_
          refine J.move rfl rfl ?_
          (first | refine J.addN rfl rfl (by omega) (by omega) rfl ?_ | refine J.bin rfl rfl rfl rfl ?_)
          refine J.indexAddrS Ty.el59 Ty.s3 rfl rfl (by omega) (by omega) rfl ?_
          refine J.load1 (v := iV ((lineW way).getD (i + 1) 0)) Ty.a3 rfl (fun w1 hw => rowI_at2 (i := i + 1) (vec_rowM hvw hw (fun q hq => by first | (simp [hq]; done) | (simp at hq; simp [hq]; done) | (simp at hq; subst hq; simp))) (getD_at (by omega)) (by omega)) rfl ?_
          refine J.fieldAddr Ty.fd55_4 rfl rfl ?_
          refine J.storeO (cs := cE ⟨p, idB, id2, ((lineW way).getD (i - 1) 0), -1⟩) (vs := [iV ((lineW way).getD (i + 1) 0)]) Ty.s3 rfl rfl rfl rfl (by simp [Value.oneCell']) .here (by show 0 + 50 + 1 ≤ 51; decide) ?_
          refine J.perm ((b15, cb (cE ⟨p, idB, id2, ((lineW way).getD (i - 1) 0), ((lineW way).getD (i + 1) 0)⟩) 55) :: (t1, tabO 2 m1) :: (m1, .map #[] 0) :: (b3, cb (cP p) 38) :: (lp ++ (lw ++ blks ts))) (.refl _) ?_
          refine J.nil ?_
          refine JX.thenN (hK41 _ _ ?_)
          refine JC.seq (fun K43 hK43 => ?_)
          have he : lineE p (lineW way) i = ⟨p, idB, id2, ((lineW way).getD (i - 1) 0), ((lineW way).getD (i + 1) 0)⟩ := by unfold lineE preW nxtW; rw [if_pos hp4, if_pos hp5]
          refine JC.region ?_
          refine J.move rfl rfl ?_
          refine J.perm ((b15, cb (cE (lineE p (lineW way) i)) 55) :: (t1, tabO 2 m1) :: (m1, .map #[] 0) :: (b3, cb (cP p) 38) :: (lp ++ (lw ++ blks ts))) (by rw [he] <;> exact .refl _) ?_
          refine J.loadOA (vs := cE (lineE p (lineW way) i)) Ty.a55 Ty.s55 rfl (.head _) rfl rfl rfl ?_
          refine J.perm ([(t1, tabO 2 m1), (m1, .map #[] 0)] ++ ((b15, cb (cE (lineE p (lineW way) i)) 55) :: (b3, cb (cP p) 38) :: (lp ++ (lw ++ blks ts)))) (by (refine perm_cnt (fun _ => ?_)); simp only [cntB_append, cntB_cons, cntB_nil, Nat.add_zero, Nat.zero_add]; try ac_rfl) ?_
          refine J.callS (α := Array MapEntry × Nat) (V := fun _ => .int .i64 (tadd ([]) 2 (lineE p (lineW way) i)).1) (Pr := fun y => Tab (tadd ([]) 2 (lineE p (lineW way) i)).2 y.1 y.2) (L := fun y => [(t1, tabO 2 m1), (m1, .map y.1 y.2)]) (l1 := [(t1, tabO 2 m1), (m1, .map #[] 0)]) Ty.bd44 rfl rfl (fun w1 hw => (add_spec t1 m1 2 ([]) #[] 0 w1 hw.owns Tab.nil (lineE p (lineW way) i) hxo).mono fun _ _ ⟨y, h1, h2, h3⟩ => ⟨y, h1, h2, h3⟩) (fun y hT2 => ?_)
          obtain ⟨es2, ck2⟩ := y
          simp only [List.cons_append, List.nil_append] at hT2 ⊢
          refine J.nil ?_
          refine JX.thenN (hK43 _ _ ?_)
          refine JC.region ?_
          refine J.move rfl rfl ?_
          refine J.move rfl rfl ?_
          refine J.buildSl (cs := [.pointer (some ⟨t1, 0, none⟩)]) Ty.el60 Ty.s28 Ty.z28 rfl rfl rfl rfl rfl rfl rfl (fun b81 => ?_)
          refine J.perm (lp ++ ((b81, cb [.pointer (some ⟨t1, 0, none⟩)] 28) :: (t1, tabO 2 m1) :: (m1, .map es2 ck2) :: (b15, cb (cE (lineE p (lineW way) i)) 55) :: (b3, cb (cP p) 38) :: (lw ++ blks ts))) (by (refine perm_cnt (fun _ => ?_)); simp only [cntB_append, cntB_cons, cntB_nil, Nat.add_zero, Nat.zero_add]; try ac_rfl) ?_
          refine J.append (lp := lp) (xs := pts ts) (ys := [.pointer (some ⟨t1, 0, none⟩)]) (k := ts.length) (m := 1) Ty.el60 Ty.s28 Ty.b28 Ty.z28 rfl (.inl ⟨28, Ty.u60⟩) rfl rfl hvp (fun w3 hw3 => .inl (Row.own (cs := [.pointer (some ⟨t1, 0, none⟩)]) (tb := 28) (fr := (0, 0)) hw3 (by repeat first | exact .head _ | apply List.Mem.tail | apply List.mem_append_right) rfl (Nat.le_refl _))) rfl (fun y hy => by simp at hy; subst hy; rfl) (by omega) (by omega) rfl (fun vn ln hvn => ?_)
          refine J.assign rfl rfl ?_
          refine J.nil ?_
          refine JX.blockN ?_
          refine JX.thenN (hK35 _ _ ?_)
          refine JC.region ?_
          (first | refine J.addN rfl rfl (by omega) (by omega) rfl ?_ | refine J.bin rfl rfl rfl rfl ?_)
          refine J.move rfl rfl ?_
          refine J.nil ?_
          refine JX.thenN ?_
          refine JX.again ((i + 1, ts ++ [⟨t1, m1, (tadd [] 2 (lineE p (lineW way) i)).2, es2, ck2⟩], vn, ln) : Nat × List NT × Value × List (Nat × Obj)) ?_ ?_ ?_
          · simp only; omega
          · exact ⟨rfl, rfl, rfl, rfl, rfl, rfl, trivial⟩
          · exact fun w1 hw => ⟨⟨hlt, by simp only [List.length_append, List.length_singleton]; omega, by simp only; rw [List.length_append, show pts (ts ++ [⟨t1, m1, (tadd [] 2 (lineE p (lineW way) i)).2, es2, ck2⟩]) = pts ts ++ [.pointer (some ⟨t1, 0, none⟩)] from List.map_append]; exact hvn, hts.snoc hT2 (by rw [htl])⟩, (hw.perm (l' := (b81, cb [.pointer (some ⟨t1, 0, none⟩)] 28) :: (b15, cb (cE (lineE p (lineW way) i)) 55) :: (b3, cb (cP p) 38) :: (ln ++ (lw ++ blks (ts ++ [⟨t1, m1, (tadd [] 2 (lineE p (lineW way) i)).2, es2, ck2⟩])))) (by simp only [blks_snoc]; exact (by (refine perm_cnt (fun _ => ?_)); simp only [cntB_append, cntB_cons, cntB_nil, Nat.add_zero, Nat.zero_add]; try ac_rfl))).drop (.cons _ (.cons _ (List.Sublist.refl _)))⟩
        · skip
          have hp5 : ¬ i + 1 < (lineW way).length := by simp at h5; omega
          refine JC.skip ?_
          refine JX.thenN (hK41 _ _ ?_)
          refine JC.seq (fun K44 hK44 => ?_)
          have he : lineE p (lineW way) i = ⟨p, idB, id2, ((lineW way).getD (i - 1) 0), -1⟩ := by unfold lineE preW nxtW; rw [if_pos hp4, if_neg hp5]
          refine JC.region ?_
          refine J.move rfl rfl ?_
          refine J.perm ((b15, cb (cE (lineE p (lineW way) i)) 55) :: (t1, tabO 2 m1) :: (m1, .map #[] 0) :: (b3, cb (cP p) 38) :: (lp ++ (lw ++ blks ts))) (by rw [he] <;> exact .refl _) ?_
          refine J.loadOA (vs := cE (lineE p (lineW way) i)) Ty.a55 Ty.s55 rfl (.head _) rfl rfl rfl ?_
          refine J.perm ([(t1, tabO 2 m1), (m1, .map #[] 0)] ++ ((b15, cb (cE (lineE p (lineW way) i)) 55) :: (b3, cb (cP p) 38) :: (lp ++ (lw ++ blks ts)))) (by (refine perm_cnt (fun _ => ?_)); simp only [cntB_append, cntB_cons, cntB_nil, Nat.add_zero, Nat.zero_add]; try ac_rfl) ?_
          refine J.callS (α := Array MapEntry × Nat) (V := fun _ => .int .i64 (tadd ([]) 2 (lineE p (lineW way) i)).1) (Pr := fun y => Tab (tadd ([]) 2 (lineE p (lineW way) i)).2 y.1 y.2) (L := fun y => [(t1, tabO 2 m1), (m1, .map y.1 y.2)]) (l1 := [(t1, tabO 2 m1), (m1, .map #[] 0)]) Ty.bd44 rfl rfl (fun w1 hw => (add_spec t1 m1 2 ([]) #[] 0 w1 hw.owns Tab.nil (lineE p (lineW way) i) hxo).mono fun _ _ ⟨y, h1, h2, h3⟩ => ⟨y, h1, h2, h3⟩) (fun y hT2 => ?_)
          obtain ⟨es2, ck2⟩ := y
          simp only [List.cons_append, List.nil_append] at hT2 ⊢
          refine J.nil ?_
          refine JX.thenN (hK44 _ _ ?_)
          refine JC.region ?_
          refine J.move rfl rfl ?_
          refine J.move rfl rfl ?_
          refine J.buildSl (cs := [.pointer (some ⟨t1, 0, none⟩)]) Ty.el60 Ty.s28 Ty.z28 rfl rfl rfl rfl rfl rfl rfl (fun b81 => ?_)
          refine J.perm (lp ++ ((b81, cb [.pointer (some ⟨t1, 0, none⟩)] 28) :: (t1, tabO 2 m1) :: (m1, .map es2 ck2) :: (b15, cb (cE (lineE p (lineW way) i)) 55) :: (b3, cb (cP p) 38) :: (lw ++ blks ts))) (by (refine perm_cnt (fun _ => ?_)); simp only [cntB_append, cntB_cons, cntB_nil, Nat.add_zero, Nat.zero_add]; try ac_rfl) ?_
          refine J.append (lp := lp) (xs := pts ts) (ys := [.pointer (some ⟨t1, 0, none⟩)]) (k := ts.length) (m := 1) Ty.el60 Ty.s28 Ty.b28 Ty.z28 rfl (.inl ⟨28, Ty.u60⟩) rfl rfl hvp (fun w3 hw3 => .inl (Row.own (cs := [.pointer (some ⟨t1, 0, none⟩)]) (tb := 28) (fr := (0, 0)) hw3 (by repeat first | exact .head _ | apply List.Mem.tail | apply List.mem_append_right) rfl (Nat.le_refl _))) rfl (fun y hy => by simp at hy; subst hy; rfl) (by omega) (by omega) rfl (fun vn ln hvn => ?_)
          refine J.assign rfl rfl ?_
          refine J.nil ?_
          refine JX.blockN ?_
          refine JX.thenN (hK35 _ _ ?_)
          refine JC.region ?_
          (first | refine J.addN rfl rfl (by omega) (by omega) rfl ?_ | refine J.bin rfl rfl rfl rfl ?_)
          refine J.move rfl rfl ?_
          refine J.nil ?_
          refine JX.thenN ?_
          refine JX.again ((i + 1, ts ++ [⟨t1, m1, (tadd [] 2 (lineE p (lineW way) i)).2, es2, ck2⟩], vn, ln) : Nat × List NT × Value × List (Nat × Obj)) ?_ ?_ ?_
          · simp only; omega
          · exact ⟨rfl, rfl, rfl, rfl, rfl, rfl, trivial⟩
          · exact fun w1 hw => ⟨⟨hlt, by simp only [List.length_append, List.length_singleton]; omega, by simp only; rw [List.length_append, show pts (ts ++ [⟨t1, m1, (tadd [] 2 (lineE p (lineW way) i)).2, es2, ck2⟩]) = pts ts ++ [.pointer (some ⟨t1, 0, none⟩)] from List.map_append]; exact hvn, hts.snoc hT2 (by rw [htl])⟩, (hw.perm (l' := (b81, cb [.pointer (some ⟨t1, 0, none⟩)] 28) :: (b15, cb (cE (lineE p (lineW way) i)) 55) :: (b3, cb (cP p) 38) :: (ln ++ (lw ++ blks (ts ++ [⟨t1, m1, (tadd [] 2 (lineE p (lineW way) i)).2, es2, ck2⟩])))) (by simp only [blks_snoc]; exact (by (refine perm_cnt (fun _ => ?_)); simp only [cntB_append, cntB_cons, cntB_nil, Nat.add_zero, Nat.zero_add]; try ac_rfl))).drop (.cons _ (.cons _ (List.Sublist.refl _)))⟩
      · skip
        have hp4 : ¬ 0 < i := by simp at h4; omega
        refine JC.skip ?_
        refine JX.thenN (hK39 _ _ ?_)
        refine JC.seq (fun K45 hK45 => ?_)
        refine JC.seq (fun K46 hK46 => ?_)
        refine JC.region ?_
        refine J.move rfl rfl ?_
        (first | refine J.addN rfl rfl (by omega) (by omega) rfl ?_ | refine J.bin rfl rfl rfl rfl ?_)
        refine J.move rfl rfl ?_
        refine J.lenS rfl Ty.u59 rfl rfl ?_
        refine J.bin rfl rfl rfl rfl ?_
        refine J.nil ?_
        refine JX.thenN (hK46 _ _ ?_)
        refine JC.cond rfl (fun h5 => ?_) (fun h5 => ?_)
        · skip
          have hp5 : i + 1 < (lineW way).length := by simp at h5; omega
          refine JC.region ?_
          refine J.move rfl rfl ?_
          refine J.move rfl rfl ?_
          (first | refine J.addN rfl rfl (by omega) (by omega) rfl ?_ | refine J.bin rfl rfl rfl rfl ?_)
          refine J.indexAddrS Ty.el59 Ty.s3 rfl rfl (by omega) (by omega) rfl ?_
          refine J.load1 (v := iV ((lineW way).getD (i + 1) 0)) Ty.a3 rfl (fun w1 hw => rowI_at2 (i := i + 1) (vec_rowM hvw hw (fun q hq => by first | (simp [hq]; done) | (simp at hq; simp [hq]; done) | (simp at hq; subst hq; simp))) (getD_at (by omega)) (by omega)) rfl ?_
          refine J.fieldAddr Ty.fd55_4 rfl rfl ?_
          refine J.storeO (cs := cE ⟨p, idB, id2, -1, -1⟩) (vs := [iV ((lineW way).getD (i + 1) 0)]) Ty.s3 rfl rfl rfl rfl (by simp [Value.oneCell']) .here (by show 0 + 50 + 1 ≤ 51; decide) ?_
          refine J.perm ((b15, cb (cE ⟨p, idB, id2, -1, ((lineW way).getD (i + 1) 0)⟩) 55) :: (t1, tabO 2 m1) :: (m1, .map #[] 0) :: (b3, cb (cP p) 38) :: (lp ++ (lw ++ blks ts))) (.refl _) ?_
          refine J.nil ?_
          refine JX.thenN (hK45 _ _ ?_)
          refine JC.seq (fun K47 hK47 => ?_)
          have he : lineE p (lineW way) i = ⟨p, idB, id2, -1, ((lineW way).getD (i + 1) 0)⟩ := by unfold lineE preW nxtW; rw [if_neg hp4, if_pos hp5]
          refine JC.region ?_
          refine J.move rfl rfl ?_
          refine J.perm ((b15, cb (cE (lineE p (lineW way) i)) 55) :: (t1, tabO 2 m1) :: (m1, .map #[] 0) :: (b3, cb (cP p) 38) :: (lp ++ (lw ++ blks ts))) (by rw [he] <;> exact .refl _) ?_
          refine J.loadOA (vs := cE (lineE p (lineW way) i)) Ty.a55 Ty.s55 rfl (.head _) rfl rfl rfl ?_
          refine J.perm ([(t1, tabO 2 m1), (m1, .map #[] 0)] ++ ((b15, cb (cE (lineE p (lineW way) i)) 55) :: (b3, cb (cP p) 38) :: (lp ++ (lw ++ blks ts)))) (by (refine perm_cnt (fun _ => ?_)); simp only [cntB_append, cntB_cons, cntB_nil, Nat.add_zero, Nat.zero_add]; try ac_rfl) ?_
          refine J.callS (α := Array MapEntry × Nat) (V := fun _ => .int .i64 (tadd ([]) 2 (lineE p (lineW way) i)).1) (Pr := fun y => Tab (tadd ([]) 2 (lineE p (lineW way) i)).2 y.1 y.2) (L := fun y => [(t1, tabO 2 m1), (m1, .map y.1 y.2)]) (l1 := [(t1, tabO 2 m1), (m1, .map #[] 0)]) Ty.bd44 rfl rfl (fun w1 hw => (add_spec t1 m1 2 ([]) #[] 0 w1 hw.owns Tab.nil (lineE p (lineW way) i) hxo).mono fun _ _ ⟨y, h1, h2, h3⟩ => ⟨y, h1, h2, h3⟩) (fun y hT2 => ?_)
          obtain ⟨es2, ck2⟩ := y
          simp only [List.cons_append, List.nil_append] at hT2 ⊢
          refine J.nil ?_
          refine JX.thenN (hK47 _ _ ?_)
          refine JC.region ?_
          refine J.move rfl rfl ?_
          refine J.move rfl rfl ?_
          refine J.buildSl (cs := [.pointer (some ⟨t1, 0, none⟩)]) Ty.el60 Ty.s28 Ty.z28 rfl rfl rfl rfl rfl rfl rfl (fun b81 => ?_)
          refine J.perm (lp ++ ((b81, cb [.pointer (some ⟨t1, 0, none⟩)] 28) :: (t1, tabO 2 m1) :: (m1, .map es2 ck2) :: (b15, cb (cE (lineE p (lineW way) i)) 55) :: (b3, cb (cP p) 38) :: (lw ++ blks ts))) (by (refine perm_cnt (fun _ => ?_)); simp only [cntB_append, cntB_cons, cntB_nil, Nat.add_zero, Nat.zero_add]; try ac_rfl) ?_
          refine J.append (lp := lp) (xs := pts ts) (ys := [.pointer (some ⟨t1, 0, none⟩)]) (k := ts.length) (m := 1) Ty.el60 Ty.s28 Ty.b28 Ty.z28 rfl (.inl ⟨28, Ty.u60⟩) rfl rfl hvp (fun w3 hw3 => .inl (Row.own (cs := [.pointer (some ⟨t1, 0, none⟩)]) (tb := 28) (fr := (0, 0)) hw3 (by repeat first | exact .head _ | apply List.Mem.tail | apply List.mem_append_right) rfl (Nat.le_refl _))) rfl (fun y hy => by simp at hy; subst hy; rfl) (by omega) (by omega) rfl (fun vn ln hvn => ?_)
          refine J.assign rfl rfl ?_
          refine J.nil ?_
          refine JX.blockN ?_
          refine JX.thenN (hK35 _ _ ?_)
          refine JC.region ?_
          (first | refine J.addN rfl rfl (by omega) (by omega) rfl ?_ | refine J.bin rfl rfl rfl rfl ?_)
          refine J.move rfl rfl ?_
          refine J.nil ?_
          refine JX.thenN ?_
          refine JX.again ((i + 1, ts ++ [⟨t1, m1, (tadd [] 2 (lineE p (lineW way) i)).2, es2, ck2⟩], vn, ln) : Nat × List NT × Value × List (Nat × Obj)) ?_ ?_ ?_
          · simp only; omega
          · exact ⟨rfl, rfl, rfl, rfl, rfl, rfl, trivial⟩
          · exact fun w1 hw => ⟨⟨hlt, by simp only [List.length_append, List.length_singleton]; omega, by simp only; rw [List.length_append, show pts (ts ++ [⟨t1, m1, (tadd [] 2 (lineE p (lineW way) i)).2, es2, ck2⟩]) = pts ts ++ [.pointer (some ⟨t1, 0, none⟩)] from List.map_append]; exact hvn, hts.snoc hT2 (by rw [htl])⟩, (hw.perm (l' := (b81, cb [.pointer (some ⟨t1, 0, none⟩)] 28) :: (b15, cb (cE (lineE p (lineW way) i)) 55) :: (b3, cb (cP p) 38) :: (ln ++ (lw ++ blks (ts ++ [⟨t1, m1, (tadd [] 2 (lineE p (lineW way) i)).2, es2, ck2⟩])))) (by simp only [blks_snoc]; exact (by (refine perm_cnt (fun _ => ?_)); simp only [cntB_append, cntB_cons, cntB_nil, Nat.add_zero, Nat.zero_add]; try ac_rfl))).drop (.cons _ (.cons _ (List.Sublist.refl _)))⟩
        · skip
          have hp5 : ¬ i + 1 < (lineW way).length := by simp at h5; omega
          refine JC.skip ?_
          refine JX.thenN (hK45 _ _ ?_)
          refine JC.seq (fun K48 hK48 => ?_)
          have he : lineE p (lineW way) i = ⟨p, idB, id2, -1, -1⟩ := by unfold lineE preW nxtW; rw [if_neg hp4, if_neg hp5]
          refine JC.region ?_
          refine J.move rfl rfl ?_
          refine J.perm ((b15, cb (cE (lineE p (lineW way) i)) 55) :: (t1, tabO 2 m1) :: (m1, .map #[] 0) :: (b3, cb (cP p) 38) :: (lp ++ (lw ++ blks ts))) (by rw [he] <;> exact .refl _) ?_
          refine J.loadOA (vs := cE (lineE p (lineW way) i)) Ty.a55 Ty.s55 rfl (.head _) rfl rfl rfl ?_
          refine J.perm ([(t1, tabO 2 m1), (m1, .map #[] 0)] ++ ((b15, cb (cE (lineE p (lineW way) i)) 55) :: (b3, cb (cP p) 38) :: (lp ++ (lw ++ blks ts)))) (by (refine perm_cnt (fun _ => ?_)); simp only [cntB_append, cntB_cons, cntB_nil, Nat.add_zero, Nat.zero_add]; try ac_rfl) ?_
          refine J.callS (α := Array MapEntry × Nat) (V := fun _ => .int .i64 (tadd ([]) 2 (lineE p (lineW way) i)).1) (Pr := fun y => Tab (tadd ([]) 2 (lineE p (lineW way) i)).2 y.1 y.2) (L := fun y => [(t1, tabO 2 m1), (m1, .map y.1 y.2)]) (l1 := [(t1, tabO 2 m1), (m1, .map #[] 0)]) Ty.bd44 rfl rfl (fun w1 hw => (add_spec t1 m1 2 ([]) #[] 0 w1 hw.owns Tab.nil (lineE p (lineW way) i) hxo).mono fun _ _ ⟨y, h1, h2, h3⟩ => ⟨y, h1, h2, h3⟩) (fun y hT2 => ?_)
          obtain ⟨es2, ck2⟩ := y
          simp only [List.cons_append, List.nil_append] at hT2 ⊢
          refine J.nil ?_
          refine JX.thenN (hK48 _ _ ?_)
          refine JC.region ?_
          refine J.move rfl rfl ?_
          refine J.move rfl rfl ?_
          refine J.buildSl (cs := [.pointer (some ⟨t1, 0, none⟩)]) Ty.el60 Ty.s28 Ty.z28 rfl rfl rfl rfl rfl rfl rfl (fun b81 => ?_)
          refine J.perm (lp ++ ((b81, cb [.pointer (some ⟨t1, 0, none⟩)] 28) :: (t1, tabO 2 m1) :: (m1, .map es2 ck2) :: (b15, cb (cE (lineE p (lineW way) i)) 55) :: (b3, cb (cP p) 38) :: (lw ++ blks ts))) (by (refine perm_cnt (fun _ => ?_)); simp only [cntB_append, cntB_cons, cntB_nil, Nat.add_zero, Nat.zero_add]; try ac_rfl) ?_
          refine J.append (lp := lp) (xs := pts ts) (ys := [.pointer (some ⟨t1, 0, none⟩)]) (k := ts.length) (m := 1) Ty.el60 Ty.s28 Ty.b28 Ty.z28 rfl (.inl ⟨28, Ty.u60⟩) rfl rfl hvp (fun w3 hw3 => .inl (Row.own (cs := [.pointer (some ⟨t1, 0, none⟩)]) (tb := 28) (fr := (0, 0)) hw3 (by repeat first | exact .head _ | apply List.Mem.tail | apply List.mem_append_right) rfl (Nat.le_refl _))) rfl (fun y hy => by simp at hy; subst hy; rfl) (by omega) (by omega) rfl (fun vn ln hvn => ?_)
          refine J.assign rfl rfl ?_
          refine J.nil ?_
          refine JX.blockN ?_
          refine JX.thenN (hK35 _ _ ?_)
          refine JC.region ?_
          (first | refine J.addN rfl rfl (by omega) (by omega) rfl ?_ | refine J.bin rfl rfl rfl rfl ?_)
          refine J.move rfl rfl ?_
          refine J.nil ?_
          refine JX.thenN ?_
          refine JX.again ((i + 1, ts ++ [⟨t1, m1, (tadd [] 2 (lineE p (lineW way) i)).2, es2, ck2⟩], vn, ln) : Nat × List NT × Value × List (Nat × Obj)) ?_ ?_ ?_
          · simp only; omega
          · exact ⟨rfl, rfl, rfl, rfl, rfl, rfl, trivial⟩
          · exact fun w1 hw => ⟨⟨hlt, by simp only [List.length_append, List.length_singleton]; omega, by simp only; rw [List.length_append, show pts (ts ++ [⟨t1, m1, (tadd [] 2 (lineE p (lineW way) i)).2, es2, ck2⟩]) = pts ts ++ [.pointer (some ⟨t1, 0, none⟩)] from List.map_append]; exact hvn, hts.snoc hT2 (by rw [htl])⟩, (hw.perm (l' := (b81, cb [.pointer (some ⟨t1, 0, none⟩)] 28) :: (b15, cb (cE (lineE p (lineW way) i)) 55) :: (b3, cb (cP p) 38) :: (ln ++ (lw ++ blks (ts ++ [⟨t1, m1, (tadd [] 2 (lineE p (lineW way) i)).2, es2, ck2⟩])))) (by simp only [blks_snoc]; exact (by (refine perm_cnt (fun _ => ?_)); simp only [cntB_append, cntB_cons, cntB_nil, Nat.add_zero, Nat.zero_add]; try ac_rfl))).drop (.cons _ (.cons _ (List.Sublist.refl _)))⟩
    · skip
      have hge3 : i = (lineW way).length := by simp at h3; omega
      subst hge3
      refine JC.exit ?_
      refine JX.thenE ?_
      refine JX.thenE ?_
      refine JX.blockE ?_
      refine JX.thenN (hK31 _ _ ?_)
      refine JC.seq (fun K49 hK49 => ?_)
      refine JC.region ?_
      refine J.move rfl rfl ?_
      refine J.move rfl rfl ?_
      refine J.assign rfl rfl ?_
      refine J.assign rfl rfl ?_
      refine J.nil ?_
      refine JX.thenN (hK49 _ _ ?_)
      refine JC.ret ?_
      refine JX.ret2 rfl rfl rfl (fun w hw => ?_)
      exact ⟨⟨vp, lp, .slice aw (lineW way).length cw, lw, ts⟩, rfl, ⟨hvp, hvw, htl, hts⟩, (hw.perm (l' := (b3, cb (cP p) 38) :: (lp ++ (lw ++ blks ts))) (by (refine perm_cnt (fun _ => ?_)); simp only [cntB_append, cntB_cons, cntB_nil, Nat.add_zero, Nat.zero_add]; try ac_rfl)).drop (List.sublist_cons_self _ _)⟩

end Go.Proofs.Ytohldionclgljaa
