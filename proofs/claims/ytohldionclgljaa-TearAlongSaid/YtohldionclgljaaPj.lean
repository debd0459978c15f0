/-
  TearAlong: the walk.
-/
import Derived.Test.YtohldionclgljaaPi
namespace Go.Proofs.Ytohldionclgljaa
open Go.J Go.RowKit
set_option linter.unusedVariables false
set_option linter.unusedSimpArgs false
set_option maxRecDepth 8000
theorem remU {a b : Int} (hb : b ≠ 0) : binI .rem (.int .u64 a) (.int .u64 b) = some (.int .u64 (a.tmod b)) := by
  simp only [binI, if_true]
  rw [if_neg hb]
theorem remAt (at_ : Int) {n : Nat} (h : 0 < n) : ∃ j : Nat, j < n ∧ (IntKind.u64.wrap at_).tmod ((n : Nat) : Int) = ((j : Nat) : Int) := by
  rw [wrap_u64m, Int.tmod_eq_emod_of_nonneg (by omega)]
  have h1 := Int.emod_nonneg (at_ % 18446744073709551616) (show ((n : Nat) : Int) ≠ 0 by omega)
  have h2 := Int.emod_lt_of_pos (at_ % 18446744073709551616) (show 0 < ((n : Nat) : Int) by omega)
  exact ⟨(at_ % 18446744073709551616 % ((n : Nat) : Int)).toNat, by omega, by omega⟩
/-- what the tables hold while a path is torn from k down to i -/
def leftF (p : PV) (w : List Int) (k i j : Nat) : List EV := if i ≤ j ∧ j ≤ k then [] else [lineE p w j]

theorem line_init {p : PV} {w : List Int} (h : GoodW w) {k j : Nat} (hj : j < w.length) (h2 : 2 ≤ w.length) : (if j = k then [] else (tadd [] 2 (lineE p w j)).2) = leftF p w k k j := by
  unfold leftF
  by_cases e : j = k
  · subst e; rw [if_pos rfl, if_pos ⟨Nat.le_refl _, Nat.le_refl _⟩]
  · rw [if_neg e, if_neg (by omega)]; exact tadd_line h hj h2
theorem left_step {p : PV} {w : List Int} {k s j : Nat} (hs : s + 1 ≤ k) : (if j = s then [] else leftF p w k (s + 1) j) = leftF p w k s j := by
  unfold leftF
  by_cases e : j = s
  · subst e; rw [if_pos rfl, if_pos ⟨Nat.le_refl _, by omega⟩]
  · rw [if_neg e]
    by_cases h : s ≤ j ∧ j ≤ k
    · rw [if_pos h, if_pos (by omega)]
    · rw [if_neg h, if_neg (by omega)]

set_option maxHeartbeats 2000000 in
theorem tearAlong_spec (v : Value) (way : List Int) (p : PV) (at_ : Int) (w : World) (hr : Row w v way.length (way.map iV)) (hlw2 : way.length ≤ 17592186043904) (hpk : okN p.n) :
    Calls Try.prog 9 [v, .agg (cP p).toArray, .int .i64 at_].toArray w fun r w' => r = .returned (.bool true) ∧ Bel w w' := by
  obtain ⟨av, cv, rfl, hcv, _⟩ := id hr
  refine calls_of_J (args := [.slice av way.length cv, .agg (cP p).toArray, .int .i64 at_]) (e := [(0, .slice av way.length cv), (1, .agg (cP p).toArray), (2, .int .i64 at_)]) Try.func9 rfl rfl ⟨rfl, rfl, rfl, trivial⟩ (St.start w) ?_
  refine JC.seq (fun K0 hK0 => ?_)
  refine JC.region ?_
  refine J.box rfl rfl rfl (fun b4 => ?_)
  refine J.assign rfl rfl ?_
  refine J.nil ?_
  refine JX.thenN (hK0 _ _ ?_)
  refine JC.seq (fun K1 hK1 => ?_)
  refine JC.region ?_
  refine J.move rfl rfl ?_
  refine J.loadOA (vs := cP p) Ty.a38 Ty.s38 rfl (by repeat first | exact .head _ | apply List.Mem.tail | apply List.mem_append_right) (by exact rfl) rfl rfl ?_
  refine J.perm ([] ++ ((b4, cb (cP p) 38) :: [])) (.refl _) ?_
  refine J.callS (α := LnS) (V := fun x => .tuple #[x.vp, x.vw]) (Pr := fun x => Vec 28 1 x.vp x.ts.length (pts x.ts) x.lp ∧ Vec 3 1 x.vw (lineW way).length ((lineW way).map iV) x.lw ∧ x.ts.length = (lineW way).length ∧ TabsOf x.ts (fun i => (tadd [] 2 (lineE p (lineW way) i)).2)) (L := fun x => x.lp ++ (x.lw ++ blks x.ts)) (l1 := []) Ty.bd28 rfl rfl (fun w1 hw => line_spec _ way p w1 (hr.below (hw.drop (List.nil_sublist _)).below) hlw2 hpk) (fun x hx9 => ?_)
  obtain ⟨vp, lp, vw, lw, ts⟩ := x
  obtain ⟨hvp, hvw, htl, hts⟩ := hx9
  simp only at hvp hvw htl hts ⊢
  rw [htl] at hvp
  obtain ⟨ap, cp, rfl, hcp⟩ := hvp.form
  obtain ⟨aw, cw, rfl, hcw⟩ := hvw.form
  have hW := lineW_good way
  have hWl : (lineW way).length ≤ way.length := lineW_len way
  refine J.perm ((b4, cb (cP p) 38) :: (lp ++ (lw ++ blks ts))) (by (refine perm_cnt (fun _ => ?_)); simp only [cntB_append, cntB_cons, cntB_nil, Nat.add_zero, Nat.zero_add]; try ac_rfl) ?_
  refine J.move rfl rfl ?_
  refine J.extract rfl rfl rfl ?_
  refine J.extract rfl rfl rfl ?_
  refine J.assign rfl rfl ?_
  refine J.assign rfl rfl ?_
  refine J.nil ?_
  refine JX.thenN (hK1 _ _ ?_)
  refine JC.seq (fun K2 hK2 => ?_)
  refine JC.seq (fun K3 hK3 => ?_)
  by_cases h2 : (lineW way).length < 2
  · skip
    refine JC.region ?_
    refine J.move rfl rfl ?_
    refine J.lenS rfl Ty.u59 rfl rfl ?_
    refine J.bin rfl rfl rfl rfl ?_
    refine J.name 23 rfl (show _ = Value.bool true by simp; omega) ?_
    refine J.move rfl rfl ?_
    first | refine J.skip rfl rfl rfl rfl rfl ?_ | refine J.skipU rfl rfl rfl rfl ?_ | (refine J.unguard rfl rfl rfl ?_; skip)
    first | refine J.skip rfl rfl rfl rfl rfl ?_ | refine J.skipU rfl rfl rfl rfl ?_ | (refine J.unguard rfl rfl rfl ?_; refine J.not rfl rfl ?_)
    (first | refine J.pickT rfl rfl rfl ?_ | refine J.pickF rfl rfl rfl ?_)
    refine J.nil ?_
    refine JX.thenN (hK3 _ _ ?_)
    first | refine JC.condT rfl ?_ | refine JC.cond rfl (fun _ => ?_) (fun h => by first | (exfalso; simp at h; omega) | (simp at h))
    refine JC.seq (fun K4 hK4 => ?_)
    refine JC.region ?_
    refine J.callB (v := .bool true) (fun w1 w2 hw hb => hw.step hb) Ty.bd29 rfl rfl (fun w1 hw => fixed15_spec w1) ?_
    refine J.assign rfl rfl ?_
    refine J.nil ?_
    refine JX.thenN (hK4 _ _ ?_)
    refine JC.ret ?_
    refine JX.thenR ?_
    refine JX.ret1 rfl rfl (fun w hw => ?_)
    exact ⟨rfl, (hw.drop (List.nil_sublist _)).below⟩
  · skip
    refine JC.region ?_
    refine J.move rfl rfl ?_
    refine J.lenS rfl Ty.u59 rfl rfl ?_
    refine J.bin rfl rfl rfl rfl ?_
    refine J.name 23 rfl (show _ = Value.bool false by simp; omega) ?_
    refine J.move rfl rfl ?_
    first | refine J.skip rfl rfl rfl rfl rfl ?_ | refine J.skipU rfl rfl rfl rfl ?_ | (refine J.unguard rfl rfl rfl ?_; refine J.callB (v := .bool true) (fun w1 w2 hw hb => hw.step hb) Ty.bd29 rfl rfl (fun w1 hw => fixed15_spec w1) ?_)
    first | refine J.skip rfl rfl rfl rfl rfl ?_ | refine J.skipU rfl rfl rfl rfl ?_ | (refine J.unguard rfl rfl rfl ?_; refine J.not rfl rfl ?_)
    (first | refine J.pickT rfl rfl rfl ?_ | refine J.pickF rfl rfl rfl ?_)
    refine J.nil ?_
    refine JX.thenN (hK3 _ _ ?_)
    first | refine JC.condF rfl ?_ | refine JC.cond rfl (fun h => by first | (exfalso; simp at h; omega) | (simp at h)) (fun _ => ?_)
    refine JC.skip ?_
    refine JX.thenN (hK2 _ _ ?_)
    refine JC.seq (fun K5 hK5 => ?_)
    refine JC.region ?_
    refine J.move rfl rfl ?_
    refine J.convInt Ty.u3 Ty.u63 rfl rfl ?_
    refine J.move rfl rfl ?_
    refine J.lenS rfl Ty.u59 rfl rfl ?_
    refine J.subN rfl rfl (by omega) (by omega) rfl ?_
    refine J.name 33 rfl (show _ = .int .i64 ((((lineW way).length - 1) : Nat) : Int) by congr 1; omega) ?_
    refine J.convInt Ty.u3 Ty.u63 rfl rfl ?_
    refine J.name 34 rfl (show _ = Value.int .u64 ((((lineW way).length - 1 : Nat)) : Int) from congrArg (Value.int .u64) (wrap_u64 (by omega) (by omega))) ?_
    obtain ⟨k, hk, hke⟩ := remAt at_ (n := (lineW way).length - 1) (by omega)
    refine J.bin rfl rfl (remU (by omega)) rfl ?_
    refine J.name 35 rfl (show _ = Value.int .u64 ((k : Nat) : Int) from congrArg (Value.int .u64) hke) ?_
    refine J.convInt Ty.u63 Ty.u3 rfl rfl ?_
    refine J.name 36 rfl (show _ = Value.int .i64 ((k : Nat) : Int) from congrArg (Value.int .i64) (wrap_i64 (by omega) (by omega))) ?_
    have hk1 : k + 1 < (lineW way).length := by omega
    obtain ⟨qp, rfl⟩ : ∃ q, ap = some ⟨q, 0, none⟩ := by
      obtain ⟨q, sp, h9, _⟩ := vec_pos hvp (by omega)
      exact ⟨q, h9⟩
    obtain ⟨qw, rfl⟩ : ∃ q, aw = some ⟨q, 0, none⟩ := by
      obtain ⟨q, sp, h9, _⟩ := vec_pos hvw (by omega)
      exact ⟨q, h9⟩
    obtain ⟨xk, hxk⟩ : ∃ x, ts[k]? = some x := ⟨_, List.getElem?_eq_getElem (by omega)⟩
    obtain ⟨hTk, hLk⟩ := hts k xk hxk
    rw [show xk.L = [lineE p (lineW way) k] from hLk.trans (tadd_line hW (by omega) (by omega))] at hTk
    refine J.perm ((xk.t, tabO 2 xk.m) :: (xk.m, .map xk.es xk.ck) :: (b4, cb (cP p) 38) :: (lp ++ (lw ++ blks (ts.eraseIdx k)))) (by (refine perm_cnt (fun aa => ?_)); simp only [cntB_append, cntB_cons, cntB_nil, Nat.add_zero, Nat.zero_add, cnt_at aa hxk, NT.blk]; try ac_rfl) ?_
    refine J.assign rfl rfl ?_
    refine J.nil ?_
    refine JX.thenN (hK5 _ _ ?_)
    refine JC.seq (fun K6 hK6 => ?_)
    apply JC.drawX (α := Nat × TS × Array MapEntry) 11 (fun x => match x with | ⟨x10, y, es3⟩ => [.slice (some ⟨qp, 0, none⟩) (lineW way).length cp, .int .i64 ((k : Nat) : Int), .pointer (some ⟨qp, 0 + ((k : Nat) : Int).toNat * 1, none⟩), ptT xk, .slice (some ⟨qw, 0, none⟩) (lineW way).length cw, .int .i64 ((k : Nat) : Int), .int .i64 (((k : Nat) : Int) + 1), .pointer (some ⟨qw, 0 + (((k : Nat) : Int) + 1).toNat * 1, none⟩), iV ((lineW way).getD (k + 1) 0), .agg [y.vo, y.vl].toArray, .pointer (some ⟨x10, 0, none⟩)]) (fun m x => match x with | ⟨x10, y, es3⟩ => fun w1 => (m 9 = true → (hopT (preW (lineW way) k) p noT).is y ∧ Tab [] es3 xk.ck) ∧ St w [] ((bif m 10 then [(x10, cb [nilV, nilV] 67)] else []) ++ ((bif m 9 then y.lo ++ y.ll else []) ++ ((xk.t, tabO 2 xk.m) :: (xk.m, .map (bif m 9 then es3 else xk.es) xk.ck) :: ((b4, cb (cP p) 38) :: (lp ++ (lw ++ blks (ts.eraseIdx k))))))) w1) Ty.mixed rfl rfl rfl (by kernel_rfl) rfl rfl ?hinit ?hstep ?htail
    case hinit => exact fun w1 hw => ⟨(0, noS, #[]), fun h => (by cases h), hw.drew⟩
    case hstep =>
      refine ⟨fun m x hm hp => ?_, fun m x hm hp => ?_, fun m x hm hp => ?_, fun m x hm hp => ?_, fun m x hm hp => ?_, fun m x hm hp => ?_, fun m x hm hp => ?_, fun m x hm hp => ?_, fun m x hm hp => ?_, fun m x hm hp => ?_, fun m x hm hp => ?_, trivial⟩
      · skip
        obtain ⟨x10, y, es3⟩ := x
        show J _ _ _ _ _ (_) _
        refine J.pr (fun hF => ?_)
        refine J.move rfl rfl ?_
        exact J.finX rfl (fun _ hw => ⟨⟨x10, y, es3⟩, rfl, fun _ _ _ => rfl, hF, hw⟩)
      · skip
        obtain ⟨x10, y, es3⟩ := x
        show J _ _ _ _ _ (_) _
        refine J.pr (fun hF => ?_)
        refine J.move rfl rfl ?_
        exact J.finX rfl (fun _ hw => ⟨⟨x10, y, es3⟩, rfl, fun _ _ _ => rfl, hF, hw⟩)
      · skip
        obtain ⟨x10, y, es3⟩ := x
        show J _ _ _ _ _ ((38, .int .i64 ((k : Nat) : Int)) :: (37, .slice (some ⟨qp, 0, none⟩) (lineW way).length cp) :: _) _
        refine J.pr (fun hF => ?_)
        refine J.indexAddrS Ty.el60 Ty.s28 rfl rfl (by omega) (by omega) rfl ?_
        exact J.finX rfl (fun _ hw => ⟨⟨x10, y, es3⟩, rfl, fun _ _ _ => rfl, hF, hw⟩)
      · skip
        obtain ⟨x10, y, es3⟩ := x
        show J _ _ _ _ _ ((39, .pointer (some ⟨qp, 0 + ((k : Nat) : Int).toNat * 1, none⟩)) :: _) _
        refine J.pr (fun hF => ?_)
        refine J.load1 (v := ptT xk) Ty.a28 rfl (fun w1 hw => row1_at (vs := pts ts) (i := k) (vec_rowM hvp hw (fun q hq => by first | (simp [hq]; done) | (simp at hq; simp [hq]; done) | (simp at hq; subst hq; simp))) (ptAt hxk) (by omega)) rfl ?_
        exact J.finX rfl (fun _ hw => ⟨⟨x10, y, es3⟩, rfl, fun _ _ _ => rfl, hF, hw⟩)
      · skip
        obtain ⟨x10, y, es3⟩ := x
        show J _ _ _ _ _ (_) _
        refine J.pr (fun hF => ?_)
        refine J.move rfl rfl ?_
        exact J.finX rfl (fun _ hw => ⟨⟨x10, y, es3⟩, rfl, fun _ _ _ => rfl, hF, hw⟩)
      · skip
        obtain ⟨x10, y, es3⟩ := x
        show J _ _ _ _ _ (_) _
        refine J.pr (fun hF => ?_)
        refine J.move rfl rfl ?_
        exact J.finX rfl (fun _ hw => ⟨⟨x10, y, es3⟩, rfl, fun _ _ _ => rfl, hF, hw⟩)
      · skip
        obtain ⟨x10, y, es3⟩ := x
        show J _ _ _ _ _ ((42, .int .i64 ((k : Nat) : Int)) :: _) _
        refine J.pr (fun hF => ?_)
        (first | refine J.addN rfl rfl (by omega) (by omega) rfl ?_ | refine J.bin rfl rfl rfl rfl ?_)
        exact J.finX rfl (fun _ hw => ⟨⟨x10, y, es3⟩, rfl, fun _ _ _ => rfl, hF, hw⟩)
      · skip
        obtain ⟨x10, y, es3⟩ := x
        show J _ _ _ _ _ ((43, .int .i64 (((k : Nat) : Int) + 1)) :: (41, .slice (some ⟨qw, 0, none⟩) (lineW way).length cw) :: _) _
        refine J.pr (fun hF => ?_)
        refine J.indexAddrS Ty.el59 Ty.s3 rfl rfl (by omega) (by omega) rfl ?_
        exact J.finX rfl (fun _ hw => ⟨⟨x10, y, es3⟩, rfl, fun _ _ _ => rfl, hF, hw⟩)
      · skip
        obtain ⟨x10, y, es3⟩ := x
        show J _ _ _ _ _ ((44, .pointer (some ⟨qw, 0 + (((k : Nat) : Int) + 1).toNat * 1, none⟩)) :: _) _
        refine J.pr (fun hF => ?_)
        refine J.load1 (v := iV ((lineW way).getD (k + 1) 0)) Ty.a3 rfl (fun w1 hw => rowI_at2 (i := k + 1) (vec_rowM hvw hw (fun q hq => by first | (simp [hq]; done) | (simp at hq; simp [hq]; done) | (simp at hq; subst hq; simp))) (getD_at (by omega)) (by omega)) rfl ?_
        exact J.finX rfl (fun _ hw => ⟨⟨x10, y, es3⟩, rfl, fun _ _ _ => rfl, hF, hw⟩)
      · skip
        obtain ⟨x10, y, es3⟩ := x
        show J _ _ _ _ _ ((45, iV ((lineW way).getD (k + 1) 0)) :: (40, ptT xk) :: _) _
        refine J.pr (fun hF => ?_)
        refine J.conseq (I' := St w [] ([(xk.t, tabO 2 xk.m), (xk.m, .map xk.es xk.ck)] ++ ((bif m 10 then [(x10, cb [nilV, nilV] 67)] else []) ++ ((b4, cb (cP p) 38) :: (lp ++ (lw ++ blks (ts.eraseIdx k))))))) ?_ (fun w1 hw => by simp only [hm, cond_false] at hw; exact hw.perm (by (refine perm_cnt (fun _ => ?_)); simp only [cntB_append, cntB_cons, cntB_nil, Nat.add_zero, Nat.zero_add]; try ac_rfl))
        refine J.callS (α := TS × Array MapEntry) (V := fun q => .agg [q.1.vo, q.1.vl].toArray) (Pr := fun q => (hopT (preW (lineW way) k) p noT).is q.1 ∧ Tab [] q.2 xk.ck) (L := fun q => (q.1.lo ++ q.1.ll) ++ [(xk.t, tabO 2 xk.m), (xk.m, .map q.2 xk.ck)]) (l1 := [(xk.t, tabO 2 xk.m), (xk.m, .map xk.es xk.ck)]) Ty.bd30 rfl rfl (fun w1 hw => (by have h := tdead_spec xk.t xk.m 2 [lineE p (lineW way) k] xk.es xk.ck w1 hw.owns hTk (by simp) ((lineW way).getD (k + 1) 0); rw [dead_line hW hk1] at h; exact h)) (fun q hq => ?_)
        obtain ⟨yn, esn⟩ := q
        obtain ⟨hyn, hTn⟩ := hq
        simp only at hyn hTn ⊢
        refine J.nil (JX.finB rfl (fun w1 hw => ⟨⟨⟨x10, yn, esn⟩, rfl, fun j h1 h2 => ?_, ?_⟩, trivial⟩))
        · match j, h1 with
          | 0, _ => (first | rfl | trivial)
          | 1, _ => (first | rfl | trivial)
          | 2, _ => (first | rfl | trivial)
          | 3, _ => (first | rfl | trivial)
          | 4, _ => (first | rfl | trivial)
          | 5, _ => (first | rfl | trivial)
          | 6, _ => (first | rfl | trivial)
          | 7, _ => (first | rfl | trivial)
          | 8, _ => (first | rfl | trivial)
          | 9, _ => exact absurd (h2.symm.trans hm) (by decide)
          | 10, _ => (first | rfl | trivial)
          | j + 11, h1 => omega
        show (true = true → (hopT (preW (lineW way) k) p noT).is yn ∧ Tab [] esn xk.ck) ∧ St w [] ((bif m 10 then [(x10, cb [nilV, nilV] 67)] else []) ++ ((bif true then yn.lo ++ yn.ll else []) ++ ((xk.t, tabO 2 xk.m) :: (xk.m, .map (bif true then esn else xk.es) xk.ck) :: ((b4, cb (cP p) 38) :: (lp ++ (lw ++ blks (ts.eraseIdx k))))))) w1
        simp only [hm, cond_true, cond_false] at hw ⊢
        exact ⟨fun _ => ⟨hyn, hTn⟩, hw.perm (by (refine perm_cnt (fun _ => ?_)); simp only [cntB_append, cntB_cons, cntB_nil, Nat.add_zero, Nat.zero_add]; try ac_rfl)⟩
      · skip
        obtain ⟨x10, y, es3⟩ := x
        show J _ _ _ _ _ (_) _
        refine J.pr (fun hF => ?_)
        refine J.alloc zTo rfl rfl (fun b10 => ?_)
        refine J.nil (JX.finB rfl (fun w1 hw => ⟨⟨⟨b10, y, es3⟩, rfl, fun j h1 h2 => ?_, ?_⟩, trivial⟩))
        · match j, h1 with
          | 0, _ => (first | rfl | trivial)
          | 1, _ => (first | rfl | trivial)
          | 2, _ => (first | rfl | trivial)
          | 3, _ => (first | rfl | trivial)
          | 4, _ => (first | rfl | trivial)
          | 5, _ => (first | rfl | trivial)
          | 6, _ => (first | rfl | trivial)
          | 7, _ => (first | rfl | trivial)
          | 8, _ => (first | rfl | trivial)
          | 9, _ => (first | rfl | trivial)
          | 10, _ => exact absurd (h2.symm.trans hm) (by decide)
          | j + 11, h1 => omega
        show (m 9 = true → (hopT (preW (lineW way) k) p noT).is y ∧ Tab [] es3 xk.ck) ∧ St w [] ((bif true then [(b10, cb [nilV, nilV] 67)] else []) ++ ((bif m 9 then y.lo ++ y.ll else []) ++ ((xk.t, tabO 2 xk.m) :: (xk.m, .map (bif m 9 then es3 else xk.es) xk.ck) :: ((b4, cb (cP p) 38) :: (lp ++ (lw ++ blks (ts.eraseIdx k))))))) w1
        simp only [hm, cond_true, cond_false] at hw ⊢
        exact ⟨hF, hw.perm (by (refine perm_cnt (fun _ => ?_)); simp only [cntB_append, cntB_cons, cntB_nil, Nat.add_zero, Nat.zero_add]; try ac_rfl)⟩
    case htail =>
      intro x
      obtain ⟨x10, y, es3⟩ := x
      show J _ _ _ _ _ ((10, .pointer (some ⟨x10, 0, none⟩)) :: (46, .agg [y.vo, y.vl].toArray) :: (45, iV ((lineW way).getD (k + 1) 0)) :: (44, .pointer (some ⟨qw, 0 + (((k : Nat) : Int) + 1).toNat * 1, none⟩)) :: (43, .int .i64 (((k : Nat) : Int) + 1)) :: (42, .int .i64 ((k : Nat) : Int)) :: (41, .slice (some ⟨qw, 0, none⟩) (lineW way).length cw) :: (40, ptT xk) :: (39, .pointer (some ⟨qp, 0 + ((k : Nat) : Int).toNat * 1, none⟩)) :: (38, .int .i64 ((k : Nat) : Int)) :: (37, .slice (some ⟨qp, 0, none⟩) (lineW way).length cp) :: _) (fun w1 => (true = true → (hopT (preW (lineW way) k) p noT).is y ∧ Tab [] es3 xk.ck) ∧ St w [] ((bif true then [(x10, cb [nilV, nilV] 67)] else []) ++ ((bif true then y.lo ++ y.ll else []) ++ ((xk.t, tabO 2 xk.m) :: (xk.m, .map (bif true then es3 else xk.es) xk.ck) :: ((b4, cb (cP p) 38) :: (lp ++ (lw ++ blks (ts.eraseIdx k))))))) w1)
      refine J.pr (fun hF => ?_)
      obtain ⟨hy, hTn⟩ := hF rfl
      have hkl : k < ts.length := by omega
      refine J.conseq (I' := St w [] ((x10, cb [nilV, nilV] 67) :: (b4, cb (cP p) 38) :: (y.lo ++ (y.ll ++ (lp ++ (lw ++ blks (ts.set k (⟨xk.t, xk.m, [], es3, xk.ck⟩ : NT)))))))) ?_ (fun w1 hw => by simp only [cond_true] at hw; exact hw.perm (by (refine perm_cnt (fun aa => ?_)); simp only [cntB_append, cntB_cons, cntB_nil, Nat.add_zero, Nat.zero_add, cnt_set aa ts k (⟨xk.t, xk.m, [], es3, xk.ck⟩ : NT) hkl, NT.blk]; try ac_rfl))
      refine J.storeW (cs := [nilV, nilV]) (vs := [y.vo, y.vl]) Ty.s67 rfl rfl rfl rfl rfl (two_one hy) .here ?_
      have hpt0 : pts (ts.set k (⟨xk.t, xk.m, [], es3, xk.ck⟩ : NT)) = pts ts := pts_set hxk rfl
      refine J.nil ?_
      refine JX.thenN (hK6 _ _ ?_)
      refine JC.seq (fun K7 hK7 => ?_)
      refine JC.seq (fun K8 hK8 => ?_)
      refine JC.region ?_
      refine J.move rfl rfl ?_
      refine J.assign rfl rfl ?_
      refine J.nil ?_
      refine JX.thenN (hK8 _ _ ?_)
      refine JC.block ?_
      refine JC.conseq (JC.cov (f := (fun st => [(4, .pointer (some ⟨b4, 0, none⟩)), (7, .slice (some ⟨qp, 0, none⟩) (lineW way).length cp), (8, .slice (some ⟨qw, 0, none⟩) (lineW way).length cw), (9, .int .i64 ((k : Nat) : Int)), (10, .pointer (some ⟨x10, 0, none⟩)), (11, .int .i64 ((st.1 : Nat) : Int))]) ((k, (ts.set k (⟨xk.t, xk.m, [], es3, xk.ck⟩ : NT)), y) : Nat × List NT × TS)) ⟨rfl, rfl, rfl, rfl, rfl, rfl, trivial⟩ (JC.loop (α := Nat × List NT × TS) (fun st => [(4, .pointer (some ⟨b4, 0, none⟩)), (7, .slice (some ⟨qp, 0, none⟩) (lineW way).length cp), (8, .slice (some ⟨qw, 0, none⟩) (lineW way).length cw), (9, .int .i64 ((k : Nat) : Int)), (10, .pointer (some ⟨x10, 0, none⟩)), (11, .int .i64 ((st.1 : Nat) : Int))]) (fun st w' => (st.1 ≤ k ∧ st.2.1.length = (lineW way).length ∧ pts st.2.1 = pts ts ∧ TabsOf st.2.1 (leftF p (lineW way) k (st.1)) ∧ (hopT (preW (lineW way) (st.1)) p noT).is st.2.2) ∧ St w [] ((x10, cb [st.2.2.vo, st.2.2.vl] 67) :: (b4, cb (cP p) 38) :: (st.2.2.lo ++ (st.2.2.ll ++ (lp ++ (lw ++ blks st.2.1))))) w') (fun st => st.1) ((k, (ts.set k (⟨xk.t, xk.m, [], es3, xk.ck⟩ : NT)), y) : Nat × List NT × TS) (fun st => ?_))) (fun w hw => ⟨⟨Nat.le_refl _, by simp only; rw [List.length_set]; exact htl, hpt0, (hts.set (k := k) (y := (⟨xk.t, xk.m, [], es3, xk.ck⟩ : NT)) hTn).to (fun j hj => line_init hW (by rw [List.length_set] at hj; omega) (by omega)), hy⟩, hw⟩)
      obtain ⟨i, us, y1⟩ := st
      refine JC.pr (fun hx1 => ?_)
      obtain ⟨hik, hul, hpt, hus, hy1⟩ := hx1
      simp only at hik hul hpt hus hy1 ⊢
      have hvq : Vec 28 1 (.slice (some ⟨qp, 0, none⟩) (lineW way).length cp) (lineW way).length (pts us) lp := by rw [hpt]; exact hvp
      obtain ⟨xi, hxi⟩ : ∃ x, us[i]? = some x := ⟨_, List.getElem?_eq_getElem (by omega)⟩
      obtain ⟨hTi, hLi⟩ := hus i xi hxi
      rw [hLi, show leftF p (lineW way) k i i = [] from if_pos ⟨Nat.le_refl _, hik⟩] at hTi
      refine JC.seq (fun K9 hK9 => ?_)
      refine JC.block ?_
      refine JC.seq (fun K10 hK10 => ?_)
      refine JC.seq (fun K11 hK11 => ?_)
      apply JC.drawX (α := Nat × Unit) 11 (fun x => match x with | ⟨x12, uu⟩ => [.slice (some ⟨qp, 0, none⟩) (lineW way).length cp, .int .i64 ((i : Nat) : Int), .pointer (some ⟨qp, 0 + ((i : Nat) : Int).toNat * 1, none⟩), ptT xi, .agg (cP p).toArray, .tuple #[.agg (cE zE).toArray, .bool false], .tuple #[.agg (cE zE).toArray, .bool false], .agg (cE zE).toArray, .bool false, .pointer (some ⟨x12, 0, none⟩), undef]) (fun m x => match x with | ⟨x12, uu⟩ => fun w1 => (True) ∧ St w [] ((bif m 9 then [(x12, cb (cE zE) 55)] else []) ++ ((x10, cb [y1.vo, y1.vl] 67) :: (b4, cb (cP p) 38) :: (y1.lo ++ (y1.ll ++ (lp ++ (lw ++ blks us)))))) w1) Ty.mixed rfl rfl rfl (by kernel_rfl) rfl rfl ?hinit ?hstep ?htail
      case hinit => exact fun w1 hw => ⟨(0, ()), trivial, hw.drew⟩
      case hstep =>
        refine ⟨fun m x hm hp => ?_, fun m x hm hp => ?_, fun m x hm hp => ?_, fun m x hm hp => ?_, fun m x hm hp => ?_, fun m x hm hp => ?_, fun m x hm hp => ?_, fun m x hm hp => ?_, fun m x hm hp => ?_, fun m x hm hp => ?_, fun m x hm hp => ?_, trivial⟩
        · skip
          obtain ⟨x12, uu⟩ := x
          show J _ _ _ _ _ (_) _
          refine J.pr (fun hF => ?_)
          refine J.move rfl rfl ?_
          exact J.finX rfl (fun _ hw => ⟨⟨x12, uu⟩, rfl, fun _ _ _ => rfl, hF, hw⟩)
        · skip
          obtain ⟨x12, uu⟩ := x
          show J _ _ _ _ _ (_) _
          refine J.pr (fun hF => ?_)
          refine J.move rfl rfl ?_
          exact J.finX rfl (fun _ hw => ⟨⟨x12, uu⟩, rfl, fun _ _ _ => rfl, hF, hw⟩)
        · skip
          obtain ⟨x12, uu⟩ := x
          show J _ _ _ _ _ ((52, .int .i64 ((i : Nat) : Int)) :: (51, .slice (some ⟨qp, 0, none⟩) (lineW way).length cp) :: _) _
          refine J.pr (fun hF => ?_)
          refine J.indexAddrS Ty.el60 Ty.s28 rfl rfl (by omega) (by omega) rfl ?_
          exact J.finX rfl (fun _ hw => ⟨⟨x12, uu⟩, rfl, fun _ _ _ => rfl, hF, hw⟩)
        · skip
          obtain ⟨x12, uu⟩ := x
          show J _ _ _ _ _ ((53, .pointer (some ⟨qp, 0 + ((i : Nat) : Int).toNat * 1, none⟩)) :: _) _
          refine J.pr (fun hF => ?_)
          refine J.load1 (v := ptT xi) Ty.a28 rfl (fun w1 hw => row1_at (i := i) (vec_rowM hvq hw (fun q hq => by first | (simp [hq]; done) | (simp at hq; simp [hq]; done) | (simp at hq; subst hq; simp))) (ptAt hxi) (by simp)) rfl ?_
          exact J.finX rfl (fun _ hw => ⟨⟨x12, uu⟩, rfl, fun _ _ _ => rfl, hF, hw⟩)
        · skip
          obtain ⟨x12, uu⟩ := x
          show J _ _ _ _ _ (_) _
          refine J.pr (fun hF => ?_)
          refine J.loadA (vs := cP p) Ty.a38 Ty.s38 rfl rfl (fun w1 hw => Cells.of_block (hw.own ((b4, cb (cP p) 38)) (by repeat first | exact .head _ | apply List.Mem.tail | apply List.mem_append_right)) rfl) rfl ?_
          exact J.finX rfl (fun _ hw => ⟨⟨x12, uu⟩, rfl, fun _ _ _ => rfl, hF, hw⟩)
        · skip
          obtain ⟨x12, uu⟩ := x
          show J _ _ _ _ _ ((55, .agg (cP p).toArray) :: (54, ptT xi) :: _) _
          refine J.pr (fun hF => ?_)
          refine J.callB (v := .tuple #[.agg (cE zE).toArray, .bool false]) (fun w1 w2 hw hb => hw.step hb) Ty.bd31 rfl rfl (fun w1 hw => (by have h := get_spec xi.t xi.m 2 [] xi.es xi.ck w1 (St.owns (l1 := [(xi.t, tabO 2 xi.m), (xi.m, .map xi.es xi.ck)]) (l := (bif m 9 then [(x12, cb (cE zE) 55)] else []) ++ ((x10, cb [y1.vo, y1.vl] 67) :: (b4, cb (cP p) 38) :: (y1.lo ++ (y1.ll ++ (lp ++ (lw ++ blks (us.eraseIdx i))))))) (hw.perm (by (refine perm_cnt (fun aa => ?_)); simp only [cntB_append, cntB_cons, cntB_nil, Nat.add_zero, Nat.zero_add, cnt_at aa hxi, NT.blk]; try ac_rfl))) hTi p hpk; exact h)) ?_
          exact J.finX rfl (fun _ hw => ⟨⟨x12, uu⟩, rfl, fun _ _ _ => rfl, hF, hw⟩)
        · skip
          obtain ⟨x12, uu⟩ := x
          show J _ _ _ _ _ ((56, .tuple #[.agg (cE zE).toArray, .bool false]) :: _) _
          refine J.pr (fun hF => ?_)
          refine J.move rfl rfl ?_
          exact J.finX rfl (fun _ hw => ⟨⟨x12, uu⟩, rfl, fun _ _ _ => rfl, hF, hw⟩)
        · skip
          obtain ⟨x12, uu⟩ := x
          show J _ _ _ _ _ ((50, .tuple #[.agg (cE zE).toArray, .bool false]) :: _) _
          refine J.pr (fun hF => ?_)
          refine J.extract rfl rfl rfl ?_
          exact J.finX rfl (fun _ hw => ⟨⟨x12, uu⟩, rfl, fun _ _ _ => rfl, hF, hw⟩)
        · skip
          obtain ⟨x12, uu⟩ := x
          show J _ _ _ _ _ ((50, .tuple #[.agg (cE zE).toArray, .bool false]) :: _) _
          refine J.pr (fun hF => ?_)
          refine J.extract rfl rfl rfl ?_
          exact J.finX rfl (fun _ hw => ⟨⟨x12, uu⟩, rfl, fun _ _ _ => rfl, hF, hw⟩)
        · skip
          obtain ⟨x12, uu⟩ := x
          show J _ _ _ _ _ (_) _
          refine J.pr (fun hF => ?_)
          refine J.alloc Ty.zE_ rfl rfl (fun b12 => ?_)
          refine J.nil (JX.finB rfl (fun w1 hw => ⟨⟨⟨b12, uu⟩, rfl, fun j h1 h2 => ?_, ?_⟩, trivial⟩))
          · match j, h1 with
            | 0, _ => (first | rfl | trivial)
            | 1, _ => (first | rfl | trivial)
            | 2, _ => (first | rfl | trivial)
            | 3, _ => (first | rfl | trivial)
            | 4, _ => (first | rfl | trivial)
            | 5, _ => (first | rfl | trivial)
            | 6, _ => (first | rfl | trivial)
            | 7, _ => (first | rfl | trivial)
            | 8, _ => (first | rfl | trivial)
            | 9, _ => exact absurd (h2.symm.trans hm) (by decide)
            | 10, _ => (first | rfl | trivial)
            | j + 11, h1 => omega
          show (True) ∧ St w [] ((bif true then [(b12, cb (cE zE) 55)] else []) ++ ((x10, cb [y1.vo, y1.vl] 67) :: (b4, cb (cP p) 38) :: (y1.lo ++ (y1.ll ++ (lp ++ (lw ++ blks us)))))) w1
          simp only [hm, cond_true, cond_false] at hw ⊢
          exact ⟨trivial, hw.perm (by (refine perm_cnt (fun _ => ?_)); simp only [cntB_append, cntB_cons, cntB_nil, Nat.add_zero, Nat.zero_add]; try ac_rfl)⟩
        · skip
          obtain ⟨x12, uu⟩ := x
          show J _ _ _ _ _ ((12, .pointer (some ⟨x12, 0, none⟩)) :: (57, .agg (cE zE).toArray) :: (50, .tuple #[.agg (cE zE).toArray, .bool false]) :: (56, .tuple #[.agg (cE zE).toArray, .bool false]) :: (55, .agg (cP p).toArray) :: (54, ptT xi) :: (53, .pointer (some ⟨qp, 0 + ((i : Nat) : Int).toNat * 1, none⟩)) :: (52, .int .i64 ((i : Nat) : Int)) :: (51, .slice (some ⟨qp, 0, none⟩) (lineW way).length cp) :: (56, .tuple #[.agg (cE zE).toArray, .bool false]) :: (57, .agg (cE zE).toArray) :: (12, .pointer (some ⟨x12, 0, none⟩)) :: _) _
          have hp9 : m 9 = true := predsT hp (by kernel_rfl)
          have hp9 : m 9 = true := predsT hp (by kernel_rfl)
          refine J.pr (fun hF => ?_)
          refine J.conseq (I' := St w [] ((x12, cb (cE zE) 55) :: (x10, cb [y1.vo, y1.vl] 67) :: (b4, cb (cP p) 38) :: (y1.lo ++ (y1.ll ++ (lp ++ (lw ++ blks us)))))) ?_ (fun w1 hw => by simp only [hp9, cond_true] at hw; exact hw)
          refine J.storeW (cs := cE zE) (vs := cE zE) Ty.s55 rfl rfl rfl rfl rfl (one_cE _) .here ?_
          refine J.nil (JX.finN undef (fun w1 hw => ⟨⟨x12, uu⟩, rfl, fun j h1 h2 => ?_, ?_⟩))
          · match j, h1 with
            | 0, _ => (first | rfl | trivial)
            | 1, _ => (first | rfl | trivial)
            | 2, _ => (first | rfl | trivial)
            | 3, _ => (first | rfl | trivial)
            | 4, _ => (first | rfl | trivial)
            | 5, _ => (first | rfl | trivial)
            | 6, _ => (first | rfl | trivial)
            | 7, _ => (first | rfl | trivial)
            | 8, _ => (first | rfl | trivial)
            | 9, _ => (first | rfl | trivial)
            | 10, _ => (first | rfl | trivial)
            | j + 11, h1 => omega
          show (True) ∧ St w [] ((bif m 9 then [(x12, cb (cE zE) 55)] else []) ++ ((x10, cb [y1.vo, y1.vl] 67) :: (b4, cb (cP p) 38) :: (y1.lo ++ (y1.ll ++ (lp ++ (lw ++ blks us)))))) w1
          simp only [hp9, cond_true] at hw ⊢
          exact ⟨trivial, hw⟩
      case htail =>
        intro x
        obtain ⟨x12, uu⟩ := x
        show J _ _ _ _ _ ((12, .pointer (some ⟨x12, 0, none⟩)) :: (58, .bool false) :: (57, .agg (cE zE).toArray) :: (50, .tuple #[.agg (cE zE).toArray, .bool false]) :: (56, .tuple #[.agg (cE zE).toArray, .bool false]) :: (55, .agg (cP p).toArray) :: (54, ptT xi) :: (53, .pointer (some ⟨qp, 0 + ((i : Nat) : Int).toNat * 1, none⟩)) :: (52, .int .i64 ((i : Nat) : Int)) :: (51, .slice (some ⟨qp, 0, none⟩) (lineW way).length cp) :: _) (fun w1 => (True) ∧ St w [] ((bif true then [(x12, cb (cE zE) 55)] else []) ++ ((x10, cb [y1.vo, y1.vl] 67) :: (b4, cb (cP p) 38) :: (y1.lo ++ (y1.ll ++ (lp ++ (lw ++ blks us)))))) w1)
        refine J.pr (fun hF => ?_)
        refine J.conseq (I' := St w [] ((x12, cb (cE zE) 55) :: (x10, cb [y1.vo, y1.vl] 67) :: (b4, cb (cP p) 38) :: (y1.lo ++ (y1.ll ++ (lp ++ (lw ++ blks us)))))) ?_ (fun w1 hw => by simp only [cond_true] at hw; exact hw.perm (by (refine perm_cnt (fun _ => ?_)); simp only [cntB_append, cntB_cons, cntB_nil, Nat.add_zero, Nat.zero_add]; try ac_rfl))
        refine J.assign rfl rfl ?_
        refine J.nil ?_
        refine JX.thenN (hK11 _ _ ?_)
        refine JC.seq (fun K12 hK12 => ?_)
        refine JC.region ?_
        refine J.move rfl rfl ?_
        refine J.nil ?_
        refine JX.thenN (hK12 _ _ ?_)
        first | refine JC.condF rfl ?_ | refine JC.cond rfl (fun h => by first | (exfalso; simp at h; omega) | (simp at h)) (fun _ => ?_)
        refine JC.skip ?_
        refine JX.thenN (hK10 _ _ ?_)
        refine JC.seq (fun K13 hK13 => ?_)
        refine JC.seq (fun K14 hK14 => ?_)
        refine JC.region ?_
        refine J.move rfl rfl ?_
        refine J.bin rfl rfl rfl rfl ?_
        refine J.nil ?_
        refine JX.thenN (hK14 _ _ ?_)
        refine JC.cond rfl (fun h2 => ?_) (fun h2 => ?_)
        · skip
          obtain rfl : i = 0 := by simp at h2; omega
          obtain ⟨vo, lo, vl, ll⟩ := y1
          obtain ⟨hvo, hvl⟩ := hy1
          simp only at hvo hvl ⊢
          replace hvo : Vec 82 96 vo 0 [] lo := hvo
          replace hvl : Vec 38 17 vl 1 (fP [p]) ll := hvl
          obtain ⟨ao, co, rfl, hco⟩ := hvo.form
          obtain ⟨al, cl, rfl, hcl⟩ := hvl.form
          obtain ⟨ql, rfl⟩ : ∃ q, al = some ⟨q, 0, none⟩ := by
            obtain ⟨q, sp, h9, _⟩ := vec_pos hvl (by decide)
            exact ⟨q, h9⟩
          refine JC.exit ?_
          refine JX.thenE ?_
          refine JX.blockO rfl ?_
          refine JX.thenE ?_
          refine JX.thenE ?_
          refine JX.blockE ?_
          refine JX.thenN (hK7 _ _ ?_)
          refine JC.seq (fun K15 hK15 => ?_)
          refine JC.seq (fun K16 hK16 => ?_)
          refine JC.region ?_
          refine J.move rfl rfl ?_
          refine J.addN rfl rfl (by omega) (by omega) rfl ?_
          refine J.name 111 rfl (show _ = .int .i64 (((k + 1) : Nat) : Int) by first | rfl | (congr 1; omega)) ?_
          refine J.assign rfl rfl ?_
          refine J.nil ?_
          refine JX.thenN (hK16 _ _ ?_)
          refine JC.block ?_
          refine JC.conseq (JC.cov (f := (fun j => [(4, .pointer (some ⟨b4, 0, none⟩)), (7, .slice (some ⟨qp, 0, none⟩) (lineW way).length cp), (8, .slice (some ⟨qw, 0, none⟩) (lineW way).length cw), (10, .pointer (some ⟨x10, 0, none⟩)), (14, .int .i64 ((j : Nat) : Int))]) (k + 1)) ⟨rfl, rfl, rfl, rfl, rfl, trivial⟩ (JC.loop (α := Nat) (fun j => [(4, .pointer (some ⟨b4, 0, none⟩)), (7, .slice (some ⟨qp, 0, none⟩) (lineW way).length cp), (8, .slice (some ⟨qw, 0, none⟩) (lineW way).length cw), (10, .pointer (some ⟨x10, 0, none⟩)), (14, .int .i64 ((j : Nat) : Int))]) (fun j w' => (k < j ∧ j ≤ (lineW way).length) ∧ St w [] ((x12, cb (cE zE) 55) :: (x10, cb [.slice ao 0 co, .slice (some ⟨ql, 0, none⟩) 1 cl] 67) :: (b4, cb (cP p) 38) :: (lo ++ (ll ++ (lp ++ (lw ++ blks us))))) w') (fun j => (lineW way).length - j) (k + 1) (fun j => ?_))) (fun w hw => ⟨⟨by omega, by omega⟩, hw⟩)
          refine JC.pr (fun hj => ?_)
          obtain ⟨hkj, hjl⟩ := hj
          refine JC.seq (fun K17 hK17 => ?_)
          refine JC.seq (fun K18 hK18 => ?_)
          refine JC.region ?_
          refine J.move rfl rfl ?_
          refine J.move rfl rfl ?_
          refine J.lenS rfl Ty.u59 rfl rfl ?_
          refine J.bin rfl rfl rfl rfl ?_
          refine J.nil ?_
          refine JX.thenN (hK18 _ _ ?_)
          refine JC.cond rfl (fun h4 => ?_) (fun h4 => ?_)
          · skip
            have hltj : j < (lineW way).length := by simp at h4; omega
            obtain ⟨xj, hxj⟩ : ∃ x, us[j]? = some x := ⟨_, List.getElem?_eq_getElem (by omega)⟩
            obtain ⟨hTj, hLj⟩ := hus j xj hxj
            rw [hLj, show leftF p (lineW way) k 0 j = [lineE p (lineW way) j] from if_neg (by omega)] at hTj
            refine JC.skip ?_
            refine JX.thenN (hK17 _ _ ?_)
            refine JC.seq (fun K19 hK19 => ?_)
            refine JC.block ?_
            refine JC.seq (fun K20 hK20 => ?_)
            refine JC.region ?_
            refine J.move rfl rfl ?_
            refine J.move rfl rfl ?_
            refine J.indexAddrS Ty.el60 Ty.s28 rfl rfl (by omega) (by omega) rfl ?_
            refine J.load1 (v := ptT xj) Ty.a28 rfl (fun w1 hw => row1_at (i := j) (vec_rowM hvq hw (fun q hq => by first | (simp [hq]; done) | (simp at hq; simp [hq]; done) | (simp at hq; subst hq; simp))) (ptAt hxj) (by simp)) rfl ?_
            refine J.callB (v := .int .i64 1) (fun w1 w2 hw hb => hw.step hb) Ty.bd27 rfl rfl (fun w1 hw => (by have h := len_spec xj.t xj.m 2 [lineE p (lineW way) j] xj.es xj.ck w1 (St.owns (l1 := [(xj.t, tabO 2 xj.m), (xj.m, .map xj.es xj.ck)]) (l := (x12, cb (cE zE) 55) :: (x10, cb [.slice ao 0 co, .slice (some ⟨ql, 0, none⟩) 1 cl] 67) :: (b4, cb (cP p) 38) :: (lo ++ (ll ++ (lp ++ (lw ++ blks (us.eraseIdx j)))))) (hw.perm (by (refine perm_cnt (fun aa => ?_)); simp only [cntB_append, cntB_cons, cntB_nil, Nat.add_zero, Nat.zero_add, cnt_at aa hxj, NT.blk]; try ac_rfl))) hTj; exact h)) ?_
            refine J.bin rfl rfl rfl rfl ?_
            refine J.nil ?_
            refine JX.thenN (hK20 _ _ ?_)
            first | refine JC.condF rfl ?_ | refine JC.cond rfl (fun h => by first | (exfalso; simp at h; omega) | (simp at h)) (fun _ => ?_)
            refine JC.skip ?_
            refine JX.blockN ?_
            refine JX.thenN (hK19 _ _ ?_)
            refine JC.region ?_
            refine J.move rfl rfl ?_
            refine J.addN rfl rfl (by omega) (by omega) rfl ?_
            refine J.name 117 rfl (show _ = .int .i64 (((j + 1) : Nat) : Int) by first | rfl | (congr 1; omega)) ?_
            refine J.assign rfl rfl ?_
            refine J.nil ?_
            refine JX.thenN ?_
            refine JX.again (j + 1) ?_ ?_ ?_
            · omega
            · exact ⟨rfl, rfl, rfl, rfl, rfl, trivial⟩
            · exact fun w1 hw => ⟨⟨by omega, hltj⟩, hw⟩
          · skip
            skip
            refine JC.exit ?_
            refine JX.thenE ?_
            refine JX.thenE ?_
            refine JX.blockE ?_
            refine JX.thenN (hK15 _ _ ?_)
            refine JC.seq (fun K21 hK21 => ?_)
            apply JC.drawL 19 [Eqv (.pointer (some ⟨x10, 0 + 0, none⟩)), Eqv (.slice ao 0 co), Eqv (.int .i64 0), Eqv (.bool true), Eqv (.bool true), Eqv (.pointer (some ⟨x10, 0 + 1, none⟩)), Eqv (.slice (some ⟨ql, 0, none⟩) 1 cl), Eqv (.int .i64 1), Eqv (.bool true), Eqv (.bool true), Eqv (.bool true), Eqv (.pointer (some ⟨x10, 0 + 1, none⟩)), Eqv (.slice (some ⟨ql, 0, none⟩) 1 cl), Eqv (.pointer (some ⟨ql, 0 + (0 : Int).toNat * 17, none⟩)), Eqv (.agg (cP p).toArray), Eqv (.agg (cP p).toArray), Eqv (.bool true), Eqv (.bool true), Eqv (.bool true)] Ty.mixed rfl rfl rfl (by kernel_rfl) rfl rfl (fun w w' hw hb => hw.step hb) ⟨fun _ _ _ h _ => h, fun _ _ _ h _ => h, fun _ _ _ h _ => h, fun _ _ _ h _ => h, fun _ _ _ h _ => h, fun _ _ _ h _ => h, fun _ _ _ h _ => h, fun _ _ _ h _ => h, fun _ _ _ h _ => h, fun _ _ _ h _ => h, fun _ _ _ h _ => h, fun _ _ _ h _ => h, fun _ _ _ h _ => h, fun _ _ _ h _ => h, fun _ _ _ h _ => h, fun _ _ _ h _ => h, fun _ _ _ h _ => h, fun _ _ _ h _ => h, fun _ _ _ h _ => h, trivial⟩ ?hstep ?htail
            case hstep =>
              refine ⟨fun wi => ?_, fun wi => ?_, fun wi => ?_, fun wi => ?_, fun wi => ?_, fun wi => ?_, fun wi => ?_, fun wi => ?_, fun wi => ?_, fun wi => ?_, fun wi => ?_, fun wi => ?_, fun wi => ?_, fun wi => ?_, fun wi => ?_, fun wi => ?_, fun wi => ?_, fun wi => ?_, fun wi => ?_, trivial⟩
              · skip
                refine Fin.nil ?_
                refine J.fieldAddr Ty.fd67_0 rfl rfl ?_
                exact J.finP rfl
              · skip
                refine Fin.consE rfl (Fin.nil ?_)
                refine J.load1 (v := .slice ao 0 co) Ty.a64 rfl (fun w1 hw => (cell_of (hw.2.own ((x10, cb [.slice ao 0 co, .slice (some ⟨ql, 0, none⟩) 1 cl] 67)) (by repeat first | exact .head _ | apply List.Mem.tail | apply List.mem_append_right))).trans rfl) rfl ?_
                exact J.finP rfl
              · skip
                refine Fin.consE rfl (Fin.nil ?_)
                refine J.lenS rfl Ty.u64 rfl rfl ?_
                exact J.finP rfl
              · skip
                refine Fin.consE rfl (Fin.nil ?_)
                refine J.bin rfl rfl rfl rfl ?_
                exact J.finP rfl
              · skip
                refine Fin.consE rfl (Fin.nil ?_)
                refine J.move rfl rfl ?_
                exact J.finP rfl
              · skip
                refine Fin.consE rfl (Fin.nil ?_)
                first | refine J.skip rfl rfl rfl rfl rfl ?_ | refine J.skipU rfl rfl rfl rfl ?_ | (refine J.unguard rfl rfl rfl ?_; refine J.fieldAddr Ty.fd67_1 rfl rfl ?_)
                exact J.finP rfl
              · skip
                refine Fin.consE rfl (Fin.consE rfl (Fin.nil ?_))
                refine J.unguard rfl rfl rfl ?_
                refine J.load1 (v := .slice (some ⟨ql, 0, none⟩) 1 cl) Ty.a65 rfl (fun w1 hw => (cell_of (hw.2.own ((x10, cb [.slice ao 0 co, .slice (some ⟨ql, 0, none⟩) 1 cl] 67)) (by repeat first | exact .head _ | apply List.Mem.tail | apply List.mem_append_right))).trans rfl) rfl ?_
                exact J.finP rfl
              · skip
                refine Fin.consE rfl (Fin.consE rfl (Fin.nil ?_))
                first | refine J.skip rfl rfl rfl rfl rfl ?_ | refine J.skipU rfl rfl rfl rfl ?_ | (refine J.unguard rfl rfl rfl ?_; refine J.lenS rfl Ty.u65 rfl rfl ?_)
                exact J.finP rfl
              · skip
                refine Fin.consE rfl (Fin.consE rfl (Fin.nil ?_))
                first | refine J.skip rfl rfl rfl rfl rfl ?_ | refine J.skipU rfl rfl rfl rfl ?_ | (refine J.unguard rfl rfl rfl ?_; refine J.bin rfl rfl rfl rfl ?_)
                exact J.finP rfl
              · skip
                refine Fin.consE rfl (Fin.consE rfl (Fin.nil ?_))
                (first | refine J.pickT rfl rfl rfl ?_ | refine J.pickF rfl rfl rfl ?_)
                exact J.finP rfl
              · skip
                refine Fin.consE rfl (Fin.consE rfl (Fin.nil ?_))
                refine J.move rfl rfl ?_
                exact J.finP rfl
              · skip
                refine Fin.consE rfl (Fin.nil ?_)
                first | refine J.skip rfl rfl rfl rfl rfl ?_ | refine J.skipU rfl rfl rfl rfl ?_ | (refine J.unguard rfl rfl rfl ?_; refine J.fieldAddr Ty.fd67_1 rfl rfl ?_)
                exact J.finP rfl
              · skip
                refine Fin.consE rfl (Fin.consE rfl (Fin.nil ?_))
                refine J.unguard rfl rfl rfl ?_
                refine J.load1 (v := .slice (some ⟨ql, 0, none⟩) 1 cl) Ty.a65 rfl (fun w1 hw => (cell_of (hw.2.own ((x10, cb [.slice ao 0 co, .slice (some ⟨ql, 0, none⟩) 1 cl] 67)) (by repeat first | exact .head _ | apply List.Mem.tail | apply List.mem_append_right))).trans rfl) rfl ?_
                exact J.finP rfl
              · skip
                refine Fin.consE rfl (Fin.consE rfl (Fin.nil ?_))
                refine J.unguard rfl rfl rfl ?_
                refine J.indexAddrS Ty.el65 Ty.s38 rfl rfl (by decide) (by decide) rfl ?_
                exact J.finP rfl
              · skip
                refine Fin.consE rfl (Fin.consE rfl (Fin.nil ?_))
                refine J.unguard rfl rfl rfl ?_
                refine J.loadA (vs := cP p) Ty.a38 Ty.s38 rfl rfl (fun w1 hw => rowP_at (i := 0) (vec_rowM hvl hw.2 (fun q hq => by first | (simp [hq]; done) | (simp at hq; simp [hq]; done) | (simp at hq; subst hq; simp))) rfl (by simp)) rfl ?_
                exact J.finP rfl
              · skip
                refine Fin.consE rfl (Fin.nil ?_)
                refine J.unguard rfl rfl rfl ?_
                refine J.loadA (vs := cP p) Ty.a38 Ty.s38 rfl rfl (fun w1 hw => Cells.of_block (hw.2.own ((b4, cb (cP p) 38)) (by repeat first | exact .head _ | apply List.Mem.tail | apply List.mem_append_right)) rfl) rfl ?_
                exact J.finP rfl
              · skip
                refine Fin.consE rfl (Fin.consE rfl (Fin.consE rfl (Fin.nil ?_)))
                refine J.unguard rfl rfl rfl ?_
                refine J.eqP Ty.QP Ty.keyP rfl rfl hpk hpk rfl ?_
                refine J.name 140 rfl (show _ = Value.bool true by simp) ?_
                exact J.finP rfl
              · skip
                refine Fin.consE rfl (Fin.consE rfl (Fin.nil ?_))
                (first | refine J.pickT rfl rfl rfl ?_ | refine J.pickF rfl rfl rfl ?_)
                exact J.finP rfl
              · skip
                refine Fin.consE rfl (Fin.consE rfl (Fin.consE rfl (Fin.consE rfl (Fin.consE rfl (Fin.consE rfl (Fin.consE rfl (Fin.consE rfl (Fin.consE rfl (Fin.consE rfl (Fin.consE rfl (Fin.consE rfl (Fin.consE rfl (Fin.consE rfl (Fin.consE rfl (Fin.consE rfl (Fin.consE rfl (Fin.consE rfl (Fin.consE rfl (Fin.consE rfl (Fin.nil ?_))))))))))))))))))))
                refine J.assign rfl rfl ?_
                exact J.finP rfl
            case htail =>
              refine Fin.consE rfl (Fin.consE rfl (Fin.consE rfl (Fin.consE rfl (Fin.consE rfl (Fin.consE rfl (Fin.consE rfl (Fin.consE rfl (Fin.consE rfl (Fin.consE rfl (Fin.consE rfl (Fin.consE rfl (Fin.consE rfl (Fin.consE rfl (Fin.consE rfl (Fin.consE rfl (Fin.consE rfl (Fin.consE rfl (Fin.consE rfl (Fin.nil ?_)))))))))))))))))))
              refine J.nil ?_
              refine JX.thenN (hK21 _ _ ?_)
              refine JC.ret ?_
              refine JX.ret1 rfl rfl (fun w hw => ?_)
              exact ⟨rfl, (hw.drop (List.nil_sublist _)).below⟩
        · skip
          obtain ⟨s, rfl⟩ : ∃ s, i = s + 1 := ⟨i - 1, by simp at h2; omega⟩
          have hy2 := hy1
          rw [hop_in hW (by omega) (by omega)] at hy2
          obtain ⟨vo, lo, vl, ll⟩ := y1
          obtain ⟨hvo, hvl⟩ := hy2
          simp only at hvo hvl hy1 ⊢
          replace hvo : Vec 82 96 vo 1 (fHp [(((lineW way).getD s 0), p)]) lo := hvo
          replace hvl : Vec 38 17 vl 0 [] ll := hvl
          obtain ⟨ao, co, rfl, hco⟩ := hvo.form
          obtain ⟨al, cl, rfl, hcl⟩ := hvl.form
          obtain ⟨qo, rfl⟩ : ∃ q, ao = some ⟨q, 0, none⟩ := by
            obtain ⟨q, sp, h9, _⟩ := vec_pos hvo (by decide)
            exact ⟨q, h9⟩
          obtain ⟨xj, hxj⟩ : ∃ x, us[s]? = some x := ⟨_, List.getElem?_eq_getElem (by omega)⟩
          obtain ⟨hTj, hLj⟩ := hus s xj hxj
          rw [hLj, show leftF p (lineW way) k (s + 1) s = [lineE p (lineW way) s] from if_neg (by omega)] at hTj
          refine JC.skip ?_
          refine JX.thenN (hK13 _ _ ?_)
          refine JC.seq (fun K22 hK22 => ?_)
          refine JC.seq (fun K23 hK23 => ?_)
          apply JC.drawL 32 [Eqv (.pointer (some ⟨x10, 0 + 0, none⟩)), Eqv (.slice (some ⟨qo, 0, none⟩) 1 co), Eqv (.int .i64 1), Eqv (.bool false), Eqv (.bool false), Eqv (.pointer (some ⟨x10, 0 + 1, none⟩)), Eqv (.slice al 0 cl), Eqv (.int .i64 0), Eqv (.bool false), Eqv (.bool false), Eqv (.bool false), Eqv (.pointer (some ⟨x10, 0 + 0, none⟩)), Eqv (.slice (some ⟨qo, 0, none⟩) 1 co), Eqv (.pointer (some ⟨qo, 0 + (0 : Int).toNat * 96, none⟩)), Eqv (.pointer (some ⟨qo, 0 + (0 : Int).toNat * 96 + 0, none⟩)), Eqv (iV ((lineW way).getD s 0)), Eqv (.slice (some ⟨qw, 0, none⟩) (lineW way).length cw), Eqv (.int .i64 ((s + 1 : Nat) : Int)), Eqv (.int .i64 (((s + 1 : Nat) : Int) - 1)), Eqv (.pointer (some ⟨qw, 0 + (((s + 1 : Nat) : Int) - 1).toNat * 1, none⟩)), Eqv (iV ((lineW way).getD s 0)), Eqv (.bool false), Eqv (.bool false), Eqv (.bool false), Eqv (.pointer (some ⟨x10, 0 + 0, none⟩)), Eqv (.slice (some ⟨qo, 0, none⟩) 1 co), Eqv (.pointer (some ⟨qo, 0 + (0 : Int).toNat * 96, none⟩)), Eqv (.pointer (some ⟨qo, 0 + (0 : Int).toNat * 96 + 1, none⟩)), Eqv (.pointer (some ⟨qo, 0 + (0 : Int).toNat * 96 + 1 + 0, none⟩)), Eqv (iV 5), Eqv (.bool false), Eqv (.bool false)] Ty.mixed rfl rfl rfl (by kernel_rfl) rfl rfl (fun w w' hw hb => hw.step hb) ⟨fun _ _ _ h _ => h, fun _ _ _ h _ => h, fun _ _ _ h _ => h, fun _ _ _ h _ => h, fun _ _ _ h _ => h, fun _ _ _ h _ => h, fun _ _ _ h _ => h, fun _ _ _ h _ => h, fun _ _ _ h _ => h, fun _ _ _ h _ => h, fun _ _ _ h _ => h, fun _ _ _ h _ => h, fun _ _ _ h _ => h, fun _ _ _ h _ => h, fun _ _ _ h _ => h, fun _ _ _ h _ => h, fun _ _ _ h _ => h, fun _ _ _ h _ => h, fun _ _ _ h _ => h, fun _ _ _ h _ => h, fun _ _ _ h _ => h, fun _ _ _ h _ => h, fun _ _ _ h _ => h, fun _ _ _ h _ => h, fun _ _ _ h _ => h, fun _ _ _ h _ => h, fun _ _ _ h _ => h, fun _ _ _ h _ => h, fun _ _ _ h _ => h, fun _ _ _ h _ => h, fun _ _ _ h _ => h, fun _ _ _ h _ => h, trivial⟩ ?hstep ?htail
          case hstep =>
            refine ⟨fun wi => ?_, fun wi => ?_, fun wi => ?_, fun wi => ?_, fun wi => ?_, fun wi => ?_, fun wi => ?_, fun wi => ?_, fun wi => ?_, fun wi => ?_, fun wi => ?_, fun wi => ?_, fun wi => ?_, fun wi => ?_, fun wi => ?_, fun wi => ?_, fun wi => ?_, fun wi => ?_, fun wi => ?_, fun wi => ?_, fun wi => ?_, fun wi => ?_, fun wi => ?_, fun wi => ?_, fun wi => ?_, fun wi => ?_, fun wi => ?_, fun wi => ?_, fun wi => ?_, fun wi => ?_, fun wi => ?_, fun wi => ?_, trivial⟩
            · skip
              refine Fin.nil ?_
              refine J.fieldAddr Ty.fd67_0 rfl rfl ?_
              exact J.finP rfl
            · skip
              refine Fin.consE rfl (Fin.nil ?_)
              refine J.load1 (v := .slice (some ⟨qo, 0, none⟩) 1 co) Ty.a64 rfl (fun w1 hw => (cell_of (hw.2.own ((x10, cb [.slice (some ⟨qo, 0, none⟩) 1 co, .slice al 0 cl] 67)) (by repeat first | exact .head _ | apply List.Mem.tail | apply List.mem_append_right))).trans rfl) rfl ?_
              exact J.finP rfl
            · skip
              refine Fin.consE rfl (Fin.nil ?_)
              refine J.lenS rfl Ty.u64 rfl rfl ?_
              exact J.finP rfl
            · skip
              refine Fin.consE rfl (Fin.nil ?_)
              refine J.bin rfl rfl rfl rfl ?_
              exact J.finP rfl
            · skip
              refine Fin.consE rfl (Fin.nil ?_)
              refine J.move rfl rfl ?_
              exact J.finP rfl
            · skip
              refine Fin.consE rfl (Fin.nil ?_)
              first | refine J.skip rfl rfl rfl rfl rfl ?_ | refine J.skipU rfl rfl rfl rfl ?_ | (refine J.unguard rfl rfl rfl ?_; refine J.fieldAddr Ty.fd67_1 rfl rfl ?_)
              exact J.finP rfl
            · skip
              refine Fin.consE rfl (Fin.consE rfl (Fin.nil ?_))
              refine J.unguard rfl rfl rfl ?_
              refine J.load1 (v := .slice al 0 cl) Ty.a65 rfl (fun w1 hw => (cell_of (hw.2.own ((x10, cb [.slice (some ⟨qo, 0, none⟩) 1 co, .slice al 0 cl] 67)) (by repeat first | exact .head _ | apply List.Mem.tail | apply List.mem_append_right))).trans rfl) rfl ?_
              exact J.finP rfl
            · skip
              refine Fin.consE rfl (Fin.consE rfl (Fin.nil ?_))
              first | refine J.skip rfl rfl rfl rfl rfl ?_ | refine J.skipU rfl rfl rfl rfl ?_ | (refine J.unguard rfl rfl rfl ?_; refine J.lenS rfl Ty.u65 rfl rfl ?_)
              exact J.finP rfl
            · skip
              refine Fin.consE rfl (Fin.consE rfl (Fin.nil ?_))
              first | refine J.skip rfl rfl rfl rfl rfl ?_ | refine J.skipU rfl rfl rfl rfl ?_ | (refine J.unguard rfl rfl rfl ?_; refine J.bin rfl rfl rfl rfl ?_)
              exact J.finP rfl
            · skip
              refine Fin.consE rfl (Fin.consE rfl (Fin.nil ?_))
              (first | refine J.pickT rfl rfl rfl ?_ | refine J.pickF rfl rfl rfl ?_)
              exact J.finP rfl
            · skip
              refine Fin.consE rfl (Fin.consE rfl (Fin.nil ?_))
              refine J.move rfl rfl ?_
              exact J.finP rfl
            · skip
              refine Fin.consE rfl (Fin.nil ?_)
              first | refine J.skip rfl rfl rfl rfl rfl ?_ | refine J.skipU rfl rfl rfl rfl ?_ | (refine J.unguard rfl rfl rfl ?_; refine J.fieldAddr Ty.fd67_0 rfl rfl ?_)
              exact J.finP rfl
            · skip
              refine Fin.consE rfl (Fin.consE rfl (Fin.nil ?_))
              refine J.unguard rfl rfl rfl ?_
              refine J.load1 (v := .slice (some ⟨qo, 0, none⟩) 1 co) Ty.a64 rfl (fun w1 hw => (cell_of (hw.2.own ((x10, cb [.slice (some ⟨qo, 0, none⟩) 1 co, .slice al 0 cl] 67)) (by repeat first | exact .head _ | apply List.Mem.tail | apply List.mem_append_right))).trans rfl) rfl ?_
              exact J.finP rfl
            · skip
              refine Fin.consE rfl (Fin.consE rfl (Fin.nil ?_))
              refine J.unguard rfl rfl rfl ?_
              refine J.indexAddrS Ty.el64 Ty.s82 rfl rfl (by decide) (by decide) rfl ?_
              exact J.finP rfl
            · skip
              refine Fin.consE rfl (Fin.consE rfl (Fin.nil ?_))
              first | refine J.skip rfl rfl rfl rfl rfl ?_ | refine J.skipU rfl rfl rfl rfl ?_ | (refine J.unguard rfl rfl rfl ?_; refine J.fieldAddr Ty.fd82_0 rfl rfl ?_)
              exact J.finP rfl
            · skip
              refine Fin.consE rfl (Fin.consE rfl (Fin.nil ?_))
              refine J.unguard rfl rfl rfl ?_
              refine J.load1 (v := iV ((lineW way).getD s 0)) Ty.a3 rfl (fun w1 hw => Cells.get (i := 0) (rowH_at (i := 0) (xs := [(((lineW way).getD s 0), p)]) (vec_rowM hvo hw.2 (fun q hq => by first | (simp [hq]; done) | (simp at hq; simp [hq]; done) | (simp at hq; subst hq; simp))) rfl rfl) rfl rfl) rfl ?_
              exact J.finP rfl
            · skip
              refine Fin.consE rfl (Fin.nil ?_)
              first | refine J.skip rfl rfl rfl rfl rfl ?_ | refine J.skipU rfl rfl rfl rfl ?_ | (refine J.unguard rfl rfl rfl ?_; refine J.move rfl rfl ?_)
              exact J.finP rfl
            · skip
              refine Fin.consE rfl (Fin.nil ?_)
              first | refine J.skip rfl rfl rfl rfl rfl ?_ | refine J.skipU rfl rfl rfl rfl ?_ | (refine J.unguard rfl rfl rfl ?_; refine J.move rfl rfl ?_)
              exact J.finP rfl
            · skip
              refine Fin.consE rfl (Fin.consE rfl (Fin.nil ?_))
              first | refine J.skip rfl rfl rfl rfl rfl ?_ | refine J.skipU rfl rfl rfl rfl ?_ | (refine J.unguard rfl rfl rfl ?_; (first | refine J.subN rfl rfl (by omega) (by omega) rfl ?_ | refine J.bin rfl rfl rfl rfl ?_))
              exact J.finP rfl
            · skip
              refine Fin.consE rfl (Fin.consE rfl (Fin.consE rfl (Fin.nil ?_)))
              refine J.unguard rfl rfl rfl ?_
              refine J.indexAddrS Ty.el59 Ty.s3 rfl rfl (by omega) (by omega) rfl ?_
              exact J.finP rfl
            · skip
              refine Fin.consE rfl (Fin.consE rfl (Fin.nil ?_))
              refine J.unguard rfl rfl rfl ?_
              refine J.load1 (v := iV ((lineW way).getD s 0)) Ty.a3 rfl (fun w1 hw => rowI_at2 (i := s) (vec_rowM hvw hw.2 (fun q hq => by first | (simp [hq]; done) | (simp at hq; simp [hq]; done) | (simp at hq; subst hq; simp))) (getD_at (by omega)) (by omega)) rfl ?_
              exact J.finP rfl
            · skip
              refine Fin.consE rfl (Fin.consE rfl (Fin.consE rfl (Fin.nil ?_)))
              refine J.unguard rfl rfl rfl ?_
              refine J.bin rfl rfl rfl rfl ?_
              refine J.name 83 rfl (show _ = Value.bool false by simp) ?_
              exact J.finP rfl
            · skip
              refine Fin.consE rfl (Fin.consE rfl (Fin.nil ?_))
              (first | refine J.pickT rfl rfl rfl ?_ | refine J.pickF rfl rfl rfl ?_)
              exact J.finP rfl
            · skip
              refine Fin.consE rfl (Fin.consE rfl (Fin.nil ?_))
              refine J.move rfl rfl ?_
              exact J.finP rfl
            · skip
              refine Fin.consE rfl (Fin.nil ?_)
              first | refine J.skip rfl rfl rfl rfl rfl ?_ | refine J.skipU rfl rfl rfl rfl ?_ | (refine J.unguard rfl rfl rfl ?_; refine J.fieldAddr Ty.fd67_0 rfl rfl ?_)
              exact J.finP rfl
            · skip
              refine Fin.consE rfl (Fin.consE rfl (Fin.nil ?_))
              refine J.unguard rfl rfl rfl ?_
              refine J.load1 (v := .slice (some ⟨qo, 0, none⟩) 1 co) Ty.a64 rfl (fun w1 hw => (cell_of (hw.2.own ((x10, cb [.slice (some ⟨qo, 0, none⟩) 1 co, .slice al 0 cl] 67)) (by repeat first | exact .head _ | apply List.Mem.tail | apply List.mem_append_right))).trans rfl) rfl ?_
              exact J.finP rfl
            · skip
              refine Fin.consE rfl (Fin.consE rfl (Fin.nil ?_))
              refine J.unguard rfl rfl rfl ?_
              refine J.indexAddrS Ty.el64 Ty.s82 rfl rfl (by decide) (by decide) rfl ?_
              exact J.finP rfl
            · skip
              refine Fin.consE rfl (Fin.consE rfl (Fin.nil ?_))
              first | refine J.skip rfl rfl rfl rfl rfl ?_ | refine J.skipU rfl rfl rfl rfl ?_ | (refine J.unguard rfl rfl rfl ?_; refine J.fieldAddr Ty.fd82_1 rfl rfl ?_)
              exact J.finP rfl
            · skip
              refine Fin.consE rfl (Fin.consE rfl (Fin.nil ?_))
              first | refine J.skip rfl rfl rfl rfl rfl ?_ | refine J.skipU rfl rfl rfl rfl ?_ | (refine J.unguard rfl rfl rfl ?_; refine J.fieldAddr Ty.fd80_0 rfl rfl ?_)
              exact J.finP rfl
            · skip
              refine Fin.consE rfl (Fin.consE rfl (Fin.nil ?_))
              refine J.unguard rfl rfl rfl ?_
              refine J.load1 (v := iV 5) Ty.a3 rfl (fun w1 hw => Cells.get (i := 1) (rowH_at (i := 0) (xs := [(((lineW way).getD s 0), p)]) (vec_rowM hvo hw.2 (fun q hq => by first | (simp [hq]; done) | (simp at hq; simp [hq]; done) | (simp at hq; subst hq; simp))) rfl rfl) rfl rfl) rfl ?_
              exact J.finP rfl
            · skip
              refine Fin.consE rfl (Fin.consE rfl (Fin.nil ?_))
              first | refine J.skip rfl rfl rfl rfl rfl ?_ | refine J.skipU rfl rfl rfl rfl ?_ | (refine J.unguard rfl rfl rfl ?_; refine J.bin rfl rfl rfl rfl ?_)
              exact J.finP rfl
            · skip
              refine Fin.consE rfl (Fin.consE rfl (Fin.nil ?_))
              (first | refine J.pickT rfl rfl rfl ?_ | refine J.pickF rfl rfl rfl ?_)
              exact J.finP rfl
          case htail =>
            refine Fin.consE rfl (Fin.consE rfl (Fin.consE rfl (Fin.consE rfl (Fin.consE rfl (Fin.consE rfl (Fin.consE rfl (Fin.consE rfl (Fin.consE rfl (Fin.consE rfl (Fin.consE rfl (Fin.consE rfl (Fin.consE rfl (Fin.consE rfl (Fin.consE rfl (Fin.consE rfl (Fin.consE rfl (Fin.consE rfl (Fin.consE rfl (Fin.consE rfl (Fin.consE rfl (Fin.consE rfl (Fin.consE rfl (Fin.consE rfl (Fin.consE rfl (Fin.consE rfl (Fin.consE rfl (Fin.consE rfl (Fin.consE rfl (Fin.consE rfl (Fin.consE rfl (Fin.consE rfl (Fin.nil ?_))))))))))))))))))))))))))))))))
            refine J.nil ?_
            refine JX.thenN (hK23 _ _ ?_)
            first | refine JC.condF rfl ?_ | refine JC.cond rfl (fun h => by first | (exfalso; simp at h; omega) | (simp at h)) (fun _ => ?_)
            refine JC.skip ?_
            refine JX.thenN (hK22 _ _ ?_)
            refine JC.conseq (I' := St w [] ((xj.t, tabO 2 xj.m) :: (xj.m, .map xj.es xj.ck) :: (x12, cb (cE zE) 55) :: (x10, cb [.slice (some ⟨qo, 0, none⟩) 1 co, .slice al 0 cl] 67) :: (b4, cb (cP p) 38) :: (lo ++ (ll ++ (lp ++ (lw ++ blks (us.eraseIdx s))))))) ?_ (fun w1 hw => hw.perm (by (refine perm_cnt (fun aa => ?_)); simp only [cntB_append, cntB_cons, cntB_nil, Nat.add_zero, Nat.zero_add, cnt_at aa hxj, NT.blk]; try ac_rfl))
            apply JC.drawX (α := TS × Array MapEntry) 16 (fun x => match x with | ⟨yy, es3⟩ => [.slice (some ⟨qp, 0, none⟩) (lineW way).length cp, .int .i64 ((s + 1 : Nat) : Int), .int .i64 (((s + 1 : Nat) : Int) - 1), .pointer (some ⟨qp, 0 + (((s + 1 : Nat) : Int) - 1).toNat * 1, none⟩), ptT xj, .slice (some ⟨qw, 0, none⟩) (lineW way).length cw, .int .i64 ((s + 1 : Nat) : Int), .pointer (some ⟨qw, 0 + ((s + 1 : Nat) : Int).toNat * 1, none⟩), iV ((lineW way).getD (s + 1) 0), .pointer (some ⟨x10, 0 + 0, none⟩), .slice (some ⟨qo, 0, none⟩) 1 co, .pointer (some ⟨qo, 0 + (0 : Int).toNat * 96, none⟩), .pointer (some ⟨qo, 0 + (0 : Int).toNat * 96 + 1, none⟩), .pointer (some ⟨qo, 0 + (0 : Int).toNat * 96 + 1 + 1, none⟩), .agg (cP p).toArray, .agg [yy.vo, yy.vl].toArray]) (fun m x => match x with | ⟨yy, es3⟩ => fun w1 => (m 15 = true → (hopT (preW (lineW way) s) p noT).is yy ∧ Tab [] es3 xj.ck) ∧ St w [] ((bif m 15 then yy.lo ++ yy.ll else []) ++ ((xj.t, tabO 2 xj.m) :: (xj.m, .map (bif m 15 then es3 else xj.es) xj.ck) :: ((x12, cb (cE zE) 55) :: (x10, cb [.slice (some ⟨qo, 0, none⟩) 1 co, .slice al 0 cl] 67) :: (b4, cb (cP p) 38) :: (lo ++ (ll ++ (lp ++ (lw ++ blks (us.eraseIdx s)))))))) w1) Ty.mixed rfl rfl rfl (by kernel_rfl) rfl rfl ?hinit ?hstep ?htail
            case hinit => exact fun w1 hw => ⟨(noS, #[]), fun h => (by cases h), hw.drew⟩
            case hstep =>
              refine ⟨fun m x hm hp => ?_, fun m x hm hp => ?_, fun m x hm hp => ?_, fun m x hm hp => ?_, fun m x hm hp => ?_, fun m x hm hp => ?_, fun m x hm hp => ?_, fun m x hm hp => ?_, fun m x hm hp => ?_, fun m x hm hp => ?_, fun m x hm hp => ?_, fun m x hm hp => ?_, fun m x hm hp => ?_, fun m x hm hp => ?_, fun m x hm hp => ?_, fun m x hm hp => ?_, trivial⟩
              · skip
                obtain ⟨yy, es3⟩ := x
                show J _ _ _ _ _ (_) _
                refine J.pr (fun hF => ?_)
                refine J.move rfl rfl ?_
                exact J.finX rfl (fun _ hw => ⟨⟨yy, es3⟩, rfl, fun _ _ _ => rfl, hF, hw⟩)
              · skip
                obtain ⟨yy, es3⟩ := x
                show J _ _ _ _ _ (_) _
                refine J.pr (fun hF => ?_)
                refine J.move rfl rfl ?_
                exact J.finX rfl (fun _ hw => ⟨⟨yy, es3⟩, rfl, fun _ _ _ => rfl, hF, hw⟩)
              · skip
                obtain ⟨yy, es3⟩ := x
                show J _ _ _ _ _ ((95, .int .i64 ((s + 1 : Nat) : Int)) :: _) _
                refine J.pr (fun hF => ?_)
                (first | refine J.subN rfl rfl (by omega) (by omega) rfl ?_ | refine J.bin rfl rfl rfl rfl ?_)
                exact J.finX rfl (fun _ hw => ⟨⟨yy, es3⟩, rfl, fun _ _ _ => rfl, hF, hw⟩)
              · skip
                obtain ⟨yy, es3⟩ := x
                show J _ _ _ _ _ ((96, .int .i64 (((s + 1 : Nat) : Int) - 1)) :: (94, .slice (some ⟨qp, 0, none⟩) (lineW way).length cp) :: _) _
                refine J.pr (fun hF => ?_)
                refine J.indexAddrS Ty.el60 Ty.s28 rfl rfl (by omega) (by omega) rfl ?_
                exact J.finX rfl (fun _ hw => ⟨⟨yy, es3⟩, rfl, fun _ _ _ => rfl, hF, hw⟩)
              · skip
                obtain ⟨yy, es3⟩ := x
                show J _ _ _ _ _ ((97, .pointer (some ⟨qp, 0 + (((s + 1 : Nat) : Int) - 1).toNat * 1, none⟩)) :: _) _
                refine J.pr (fun hF => ?_)
                refine J.load1 (v := ptT xj) Ty.a28 rfl (fun w1 hw => row1_at (i := s) (vec_rowM hvq hw (fun q hq => by first | (simp [hq]; done) | (simp at hq; simp [hq]; done) | (simp at hq; subst hq; simp))) (ptAt hxj) (by omega)) rfl ?_
                exact J.finX rfl (fun _ hw => ⟨⟨yy, es3⟩, rfl, fun _ _ _ => rfl, hF, hw⟩)
              · skip
                obtain ⟨yy, es3⟩ := x
                show J _ _ _ _ _ (_) _
                refine J.pr (fun hF => ?_)
                refine J.move rfl rfl ?_
                exact J.finX rfl (fun _ hw => ⟨⟨yy, es3⟩, rfl, fun _ _ _ => rfl, hF, hw⟩)
              · skip
                obtain ⟨yy, es3⟩ := x
                show J _ _ _ _ _ (_) _
                refine J.pr (fun hF => ?_)
                refine J.move rfl rfl ?_
                exact J.finX rfl (fun _ hw => ⟨⟨yy, es3⟩, rfl, fun _ _ _ => rfl, hF, hw⟩)
              · skip
                obtain ⟨yy, es3⟩ := x
                show J _ _ _ _ _ ((100, .int .i64 ((s + 1 : Nat) : Int)) :: (99, .slice (some ⟨qw, 0, none⟩) (lineW way).length cw) :: _) _
                refine J.pr (fun hF => ?_)
                refine J.indexAddrS Ty.el59 Ty.s3 rfl rfl (by omega) (by omega) rfl ?_
                exact J.finX rfl (fun _ hw => ⟨⟨yy, es3⟩, rfl, fun _ _ _ => rfl, hF, hw⟩)
              · skip
                obtain ⟨yy, es3⟩ := x
                show J _ _ _ _ _ ((101, .pointer (some ⟨qw, 0 + ((s + 1 : Nat) : Int).toNat * 1, none⟩)) :: _) _
                refine J.pr (fun hF => ?_)
                refine J.load1 (v := iV ((lineW way).getD (s + 1) 0)) Ty.a3 rfl (fun w1 hw => rowI_at2 (i := s + 1) (vec_rowM hvw hw (fun q hq => by first | (simp [hq]; done) | (simp at hq; simp [hq]; done) | (simp at hq; subst hq; simp))) (getD_at (by omega)) (by omega)) rfl ?_
                exact J.finX rfl (fun _ hw => ⟨⟨yy, es3⟩, rfl, fun _ _ _ => rfl, hF, hw⟩)
              · skip
                obtain ⟨yy, es3⟩ := x
                show J _ _ _ _ _ (_) _
                refine J.pr (fun hF => ?_)
                refine J.fieldAddr Ty.fd67_0 rfl rfl ?_
                exact J.finX rfl (fun _ hw => ⟨⟨yy, es3⟩, rfl, fun _ _ _ => rfl, hF, hw⟩)
              · skip
                obtain ⟨yy, es3⟩ := x
                show J _ _ _ _ _ ((103, .pointer (some ⟨x10, 0 + 0, none⟩)) :: _) _
                refine J.pr (fun hF => ?_)
                refine J.load1 (v := .slice (some ⟨qo, 0, none⟩) 1 co) Ty.a64 rfl (fun w1 hw => (cell_of (hw.own ((x10, cb [.slice (some ⟨qo, 0, none⟩) 1 co, .slice al 0 cl] 67)) (by repeat first | exact .head _ | apply List.Mem.tail | apply List.mem_append_right))).trans rfl) rfl ?_
                exact J.finX rfl (fun _ hw => ⟨⟨yy, es3⟩, rfl, fun _ _ _ => rfl, hF, hw⟩)
              · skip
                obtain ⟨yy, es3⟩ := x
                show J _ _ _ _ _ ((104, .slice (some ⟨qo, 0, none⟩) 1 co) :: _) _
                refine J.pr (fun hF => ?_)
                refine J.indexAddrS Ty.el64 Ty.s82 rfl rfl (by decide) (by decide) rfl ?_
                exact J.finX rfl (fun _ hw => ⟨⟨yy, es3⟩, rfl, fun _ _ _ => rfl, hF, hw⟩)
              · skip
                obtain ⟨yy, es3⟩ := x
                show J _ _ _ _ _ ((105, .pointer (some ⟨qo, 0 + (0 : Int).toNat * 96, none⟩)) :: _) _
                refine J.pr (fun hF => ?_)
                refine J.fieldAddr Ty.fd82_1 rfl rfl ?_
                exact J.finX rfl (fun _ hw => ⟨⟨yy, es3⟩, rfl, fun _ _ _ => rfl, hF, hw⟩)
              · skip
                obtain ⟨yy, es3⟩ := x
                show J _ _ _ _ _ ((106, .pointer (some ⟨qo, 0 + (0 : Int).toNat * 96 + 1, none⟩)) :: _) _
                refine J.pr (fun hF => ?_)
                refine J.fieldAddr Ty.fd80_1 rfl rfl ?_
                exact J.finX rfl (fun _ hw => ⟨⟨yy, es3⟩, rfl, fun _ _ _ => rfl, hF, hw⟩)
              · skip
                obtain ⟨yy, es3⟩ := x
                show J _ _ _ _ _ ((107, .pointer (some ⟨qo, 0 + (0 : Int).toNat * 96 + 1 + 1, none⟩)) :: _) _
                refine J.pr (fun hF => ?_)
                refine J.loadA (vs := cP p) Ty.a38 Ty.s38 rfl rfl (fun w1 hw => cells_part (k := 2) (xs := cHp (((lineW way).getD s 0), p)) (rowH_at (i := 0) (xs := [(((lineW way).getD s 0), p)]) (vec_rowM hvo hw (fun q hq => by first | (simp [hq]; done) | (simp at hq; simp [hq]; done) | (simp at hq; subst hq; simp))) rfl rfl) rfl (by rw [cHp_length]; show 2 + 17 ≤ 96; decide)) rfl ?_
                exact J.finX rfl (fun _ hw => ⟨⟨yy, es3⟩, rfl, fun _ _ _ => rfl, hF, hw⟩)
              · skip
                obtain ⟨yy, es3⟩ := x
                show J _ _ _ _ _ ((108, .agg (cP p).toArray) :: (102, iV ((lineW way).getD (s + 1) 0)) :: (98, ptT xj) :: _) _
                refine J.pr (fun hF => ?_)
                refine J.conseq (I' := St w [] ([(xj.t, tabO 2 xj.m), (xj.m, .map xj.es xj.ck)] ++ ((x12, cb (cE zE) 55) :: (x10, cb [.slice (some ⟨qo, 0, none⟩) 1 co, .slice al 0 cl] 67) :: (b4, cb (cP p) 38) :: (lo ++ (ll ++ (lp ++ (lw ++ blks (us.eraseIdx s)))))))) ?_ (fun w1 hw => by simp only [hm, cond_false] at hw; exact hw.perm (by (refine perm_cnt (fun _ => ?_)); simp only [cntB_append, cntB_cons, cntB_nil, Nat.add_zero, Nat.zero_add]; try ac_rfl))
                refine J.callS (α := TS × Array MapEntry) (V := fun q => .agg [q.1.vo, q.1.vl].toArray) (Pr := fun q => (hopT (preW (lineW way) s) p noT).is q.1 ∧ Tab [] q.2 xj.ck) (L := fun q => (q.1.lo ++ q.1.ll) ++ [(xj.t, tabO 2 xj.m), (xj.m, .map q.2 xj.ck)]) (l1 := [(xj.t, tabO 2 xj.m), (xj.m, .map xj.es xj.ck)]) Ty.bd32 rfl rfl (fun w1 hw => (by have h := tdrop_spec xj.t xj.m 2 [lineE p (lineW way) s] xj.es xj.ck w1 hw.owns hTj ((lineW way).getD (s + 1) 0) p hpk; rw [drop_line hW (by omega)] at h; exact h)) (fun q hq => ?_)
                obtain ⟨yn, esn⟩ := q
                obtain ⟨hyn, hTn⟩ := hq
                simp only at hyn hTn ⊢
                refine J.nil (JX.finB rfl (fun w1 hw => ⟨⟨⟨yn, esn⟩, rfl, fun j h1 h2 => ?_, ?_⟩, trivial⟩))
                · match j, h1 with
                  | 0, _ => (first | rfl | trivial)
                  | 1, _ => (first | rfl | trivial)
                  | 2, _ => (first | rfl | trivial)
                  | 3, _ => (first | rfl | trivial)
                  | 4, _ => (first | rfl | trivial)
                  | 5, _ => (first | rfl | trivial)
                  | 6, _ => (first | rfl | trivial)
                  | 7, _ => (first | rfl | trivial)
                  | 8, _ => (first | rfl | trivial)
                  | 9, _ => (first | rfl | trivial)
                  | 10, _ => (first | rfl | trivial)
                  | 11, _ => (first | rfl | trivial)
                  | 12, _ => (first | rfl | trivial)
                  | 13, _ => (first | rfl | trivial)
                  | 14, _ => (first | rfl | trivial)
                  | 15, _ => exact absurd (h2.symm.trans hm) (by decide)
                  | j + 16, h1 => omega
                show (true = true → (hopT (preW (lineW way) s) p noT).is yn ∧ Tab [] esn xj.ck) ∧ St w [] ((bif true then yn.lo ++ yn.ll else []) ++ ((xj.t, tabO 2 xj.m) :: (xj.m, .map (bif true then esn else xj.es) xj.ck) :: ((x12, cb (cE zE) 55) :: (x10, cb [.slice (some ⟨qo, 0, none⟩) 1 co, .slice al 0 cl] 67) :: (b4, cb (cP p) 38) :: (lo ++ (ll ++ (lp ++ (lw ++ blks (us.eraseIdx s)))))))) w1
                simp only [hm, cond_true, cond_false] at hw ⊢
                exact ⟨fun _ => ⟨hyn, hTn⟩, hw.perm (by (refine perm_cnt (fun _ => ?_)); simp only [cntB_append, cntB_cons, cntB_nil, Nat.add_zero, Nat.zero_add]; try ac_rfl)⟩
            case htail =>
              intro x
              obtain ⟨yy, es3⟩ := x
              show J _ _ _ _ _ ((109, .agg [yy.vo, yy.vl].toArray) :: (108, .agg (cP p).toArray) :: (107, .pointer (some ⟨qo, 0 + (0 : Int).toNat * 96 + 1 + 1, none⟩)) :: (106, .pointer (some ⟨qo, 0 + (0 : Int).toNat * 96 + 1, none⟩)) :: (105, .pointer (some ⟨qo, 0 + (0 : Int).toNat * 96, none⟩)) :: (104, .slice (some ⟨qo, 0, none⟩) 1 co) :: (103, .pointer (some ⟨x10, 0 + 0, none⟩)) :: (102, iV ((lineW way).getD (s + 1) 0)) :: (101, .pointer (some ⟨qw, 0 + ((s + 1 : Nat) : Int).toNat * 1, none⟩)) :: (100, .int .i64 ((s + 1 : Nat) : Int)) :: (99, .slice (some ⟨qw, 0, none⟩) (lineW way).length cw) :: (98, ptT xj) :: (97, .pointer (some ⟨qp, 0 + (((s + 1 : Nat) : Int) - 1).toNat * 1, none⟩)) :: (96, .int .i64 (((s + 1 : Nat) : Int) - 1)) :: (95, .int .i64 ((s + 1 : Nat) : Int)) :: (94, .slice (some ⟨qp, 0, none⟩) (lineW way).length cp) :: _) (fun w1 => (true = true → (hopT (preW (lineW way) s) p noT).is yy ∧ Tab [] es3 xj.ck) ∧ St w [] ((bif true then yy.lo ++ yy.ll else []) ++ ((xj.t, tabO 2 xj.m) :: (xj.m, .map (bif true then es3 else xj.es) xj.ck) :: ((x12, cb (cE zE) 55) :: (x10, cb [.slice (some ⟨qo, 0, none⟩) 1 co, .slice al 0 cl] 67) :: (b4, cb (cP p) 38) :: (lo ++ (ll ++ (lp ++ (lw ++ blks (us.eraseIdx s)))))))) w1)
              refine J.pr (fun hF => ?_)
              obtain ⟨hyy, hTn⟩ := hF rfl
              have hsl : s < us.length := by omega
              refine J.conseq (I' := St w [] ((x10, cb [.slice (some ⟨qo, 0, none⟩) 1 co, .slice al 0 cl] 67) :: (x12, cb (cE zE) 55) :: ((yy.lo ++ yy.ll) ++ ((xj.t, tabO 2 xj.m) :: (xj.m, .map es3 xj.ck) :: (b4, cb (cP p) 38) :: (lo ++ (ll ++ (lp ++ (lw ++ blks (us.eraseIdx s))))))))) ?_ (fun w1 hw => by simp only [cond_true] at hw; exact hw.perm (by (refine perm_cnt (fun _ => ?_)); simp only [cntB_append, cntB_cons, cntB_nil, Nat.add_zero, Nat.zero_add]; try ac_rfl))
              refine J.storeW (cs := [.slice (some ⟨qo, 0, none⟩) 1 co, .slice al 0 cl]) (vs := [yy.vo, yy.vl]) Ty.s67 rfl rfl rfl rfl rfl (two_one hyy) .here ?_
              refine J.nil ?_
              refine JX.blockN ?_
              refine JX.thenN (hK9 _ _ ?_)
              refine JC.region ?_
              refine J.move rfl rfl ?_
              refine J.subN rfl rfl (by omega) (by omega) rfl ?_
              refine J.name 49 rfl (show _ = .int .i64 ((s : Nat) : Int) by congr 1; omega) ?_
              refine J.assign rfl rfl ?_
              refine J.nil ?_
              refine JX.thenN ?_
              refine JX.again ((s, (us.set s (⟨xj.t, xj.m, [], es3, xj.ck⟩ : NT)), yy) : Nat × List NT × TS) ?_ ?_ ?_
              · simp only; omega
              · exact ⟨rfl, rfl, rfl, rfl, rfl, rfl, trivial⟩
              · exact fun w1 hw => ⟨⟨by omega, by simp only; rw [List.length_set]; exact hul, (pts_set (y := (⟨xj.t, xj.m, [], es3, xj.ck⟩ : NT)) hxj rfl).trans hpt, (hus.set (k := s) (y := (⟨xj.t, xj.m, [], es3, xj.ck⟩ : NT)) hTn).to (fun j hj => left_step hik), hyy⟩, (hw.perm (l' := ((x12, cb (cE zE) 55) :: (lo ++ ll)) ++ ((x10, cb [yy.vo, yy.vl] 67) :: (b4, cb (cP p) 38) :: (yy.lo ++ (yy.ll ++ (lp ++ (lw ++ blks (us.set s (⟨xj.t, xj.m, [], es3, xj.ck⟩ : NT)))))))) (by (refine perm_cnt (fun aa => ?_)); simp only [cntB_append, cntB_cons, cntB_nil, Nat.add_zero, Nat.zero_add, cnt_set aa us s (⟨xj.t, xj.m, [], es3, xj.ck⟩ : NT) hsl, NT.blk]; try ac_rfl)).drop (List.sublist_append_right _ _)⟩

theorem tearAlong_walk (w : World) (o : Sl Int) (ho : RSl 1 8 (RInt .i64) w [o.v] o) (pc : List Value) (p : PV) (hp : RPath w pc p) (n : Int) (hf : (Lit.int .i64 n).wf = true) :
    Calls Try.prog 9 [o.v, .agg pc.toArray, .int .i64 n].toArray w fun r w' => r = .returned (.bool true) ∧ Bel w w' := by
  obtain ⟨rfl, hpo⟩ := hp
  exact tearAlong_spec o.v o.xs p n w (RSl.rowI ho) (RSl.len8 ho) hpo
end Go.Proofs.Ytohldionclgljaa
