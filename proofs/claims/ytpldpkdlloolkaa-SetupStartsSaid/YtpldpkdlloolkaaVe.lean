/-
  The document's Start behind its table: contracts.
-/
import Derived.Test.YtpldpkdlloolkaaVd
namespace Go.Proofs.Ytpldpkdlloolkaa
open Go.J Go.RowKit
set_option linter.unusedVariables false
set_option linter.unusedSimpArgs false
set_option maxRecDepth 8000
/-- what the document's Start leaves -/
structure OutR where
  h : Nat
  a : Option Addr
  c : Nat
  lp : List (Nat × Obj)
  v : Value
  lr : List (Nat × Obj)
theorem zRH : zeroT Try.prog 54 = some (.agg (cH 0 (cF 0 zP zI zI nilV)).toArray) := by kernel_rfl

set_option maxHeartbeats 1000000 in
theorem rstart_full (rt : Nat) (vr : Value) (mo : Int) (L : List EV) (lr : List (Nat × Obj)) (es : Array MapEntry) (ck : Nat) (n : Int) (me b : IDV) (p : PV) (wv : Value) (way : List Int) (ov : Value) (os : List Bool) (w : World) (hr : Row w wv way.length (way.map iV)) (hlw : way.length < 4611686018427387904) (hro : Row w ov os.length (os.map bV)) (hlo : os.length < 4611686018427387904) (hp : okN p.n) (hgood : ¬ badW n me b way) (n1 : Int) (hn1 : way[1]? = some n1) (hop : openQ os n1 = true) (hw0 : Own w ((rt, rtabO vr mo) :: lr)) (hT : Tab L es ck) (hl128 : L.length ≤ 128) (hvr : Vec 34 51 vr (ordE L).length (fE (ordE L)) lr) (hoff : Off (rt :: lr.map (·.1)) wv (way.map iV)) (hoffo : Off (rt :: lr.map (·.1)) ov (os.map bV)) {e : Int} {L' : List EV} (hadd : tadd L mo (⟨p, me, b, -1, n1⟩ : EV) = (e, L')) (he : e ≠ 0) :
    Calls Try.prog 46 [.pointer (some ⟨rt, 0, none⟩), .int .i64 n, .agg (cI me).toArray, .agg (cP p).toArray, .agg (cI b).toArray, wv, ov].toArray w fun r w' => ∃ y : Value × List (Nat × Obj), r = .returned (.tuple #[.agg (cD nilV false (e == 5)).toArray, .int .i64 e]) ∧ Vec 34 51 y.1 (ordE L').length (fE (ordE L')) y.2 ∧ St w (rt :: lr.map (·.1)) ((rt, rtabO y.1 mo) :: y.2) w' := by
  obtain ⟨aw, cw, rfl, hcw, _⟩ := id hr
  obtain ⟨hc1, hc2, hc3, hc4, hc5⟩ : ¬ way.length < 2 ∧ ¬ 64 < way.length ∧ ¬ ¬ way.Nodup ∧ ¬ way[0]? ≠ some n ∧ ¬ b = me := ⟨fun h => hgood (.inl h), fun h => hgood (.inr (.inl h)), fun h => hgood (.inr (.inr (.inl h))), fun h => hgood (.inr (.inr (.inr (.inl h)))), fun h => hgood (.inr (.inr (.inr (.inr h))))⟩
  have hnd : way.Nodup := Classical.not_not.1 hc3
  obtain ⟨qw, ow, _, hqe, _, _⟩ := Row.some hr (by simp; omega)
  simp only [Value.slice.injEq] at hqe
  obtain ⟨rfl, _, rfl⟩ := hqe
  obtain ⟨n0, hn0⟩ : ∃ y, way[0]? = some y := ⟨_, List.getElem?_eq_getElem (by omega)⟩
  obtain rfl : n = n0 := by have h9 := Classical.not_not.1 hc4; rw [hn0] at h9; exact (Option.some.inj h9).symm
  obtain ⟨ar, cr, rfl, hcr⟩ := hvr.form
  have hol := (ordE_perm L).length_eq
  have ho128 : (ordE L).length ≤ 128 := by omega
  obtain ⟨hb0, hb1⟩ := open_bounds hop
  have hokE : okE (⟨p, me, b, -1, n1⟩ : EV) := ⟨hp, okN_small (n := -1) (by omega) (by omega), okN_small (n := n1) (by omega) (by omega)⟩
  refine calls_of_J (args := [.pointer (some ⟨rt, 0, none⟩), .int .i64 n, .agg (cI me).toArray, .agg (cP p).toArray, .agg (cI b).toArray, .slice (some ⟨qw, ow, none⟩) way.length cw, ov]) (e := [(0, .pointer (some ⟨rt, 0, none⟩)), (1, .int .i64 n), (2, .agg (cI me).toArray), (3, .agg (cP p).toArray), (4, .agg (cI b).toArray), (5, .slice (some ⟨qw, ow, none⟩) way.length cw), (6, ov)]) Try.func46 rfl rfl ⟨rfl, rfl, rfl, rfl, rfl, rfl, rfl, trivial⟩ (hw0.st) ?_
  refine JC.seq (fun K0 hK0 => ?_)
  refine JC.region ?_
  refine J.box rfl rfl rfl (fun b9 => ?_)
  refine J.box rfl rfl rfl (fun b10 => ?_)
  refine J.box rfl rfl rfl (fun b11 => ?_)
  refine J.alloc zN_ rfl rfl (fun b14 => ?_)
  refine J.assign rfl rfl ?_
  refine J.nil ?_
  refine JX.thenN (hK0 _ _ ?_)
  refine JC.seq (fun K1 hK1 => ?_)
  refine JC.seq (fun K2 hK2 => ?_)
  refine JC.region ?_
  refine J.move rfl rfl ?_
  refine J.lenS rfl Ty.u26 rfl rfl ?_
  refine J.bin rfl rfl rfl rfl ?_
  refine J.name 20 rfl (show Value.bool _ = .bool false by simp; omega) ?_
  refine J.move rfl rfl ?_
  first | refine J.skip rfl rfl rfl rfl rfl ?_ | refine J.skipU rfl rfl rfl rfl ?_ | (refine J.unguard rfl rfl rfl ?_; refine J.move rfl rfl ?_)
  first | refine J.skip rfl rfl rfl rfl rfl ?_ | refine J.skipU rfl rfl rfl rfl ?_ | (refine J.unguard rfl rfl rfl ?_; refine J.lenS rfl Ty.u26 rfl rfl ?_)
  first | refine J.skip rfl rfl rfl rfl rfl ?_ | refine J.skipU rfl rfl rfl rfl ?_ | (refine J.unguard rfl rfl rfl ?_; refine J.bin rfl rfl rfl rfl ?_; refine J.name 24 rfl (show Value.bool _ = .bool false by simp; omega) ?_)
  (first | refine J.pickT rfl rfl rfl ?_ | refine J.pickF rfl rfl rfl ?_)
  refine J.move rfl rfl ?_
  first | refine J.skip rfl rfl rfl rfl rfl ?_ | refine J.skipU rfl rfl rfl rfl ?_ | (refine J.unguard rfl rfl rfl ?_; refine J.move rfl rfl ?_)
  first | refine J.skip rfl rfl rfl rfl rfl ?_ | refine J.skipU rfl rfl rfl rfl ?_ | (refine J.unguard rfl rfl rfl ?_; refine J.callB (v := .bool true) (fun w1 w2 hw hb => hw.step hb) Ty.bd65 rfl rfl (fun w1 hw => (by have h := simple11_spec _ way w1 (hr.st hoff hw) hlw; rw [decide_eq_true hnd] at h; exact h)) ?_)
  first | refine J.skip rfl rfl rfl rfl rfl ?_ | refine J.skipU rfl rfl rfl rfl ?_ | (refine J.unguard rfl rfl rfl ?_; refine J.not rfl rfl ?_)
  (first | refine J.pickT rfl rfl rfl ?_ | refine J.pickF rfl rfl rfl ?_)
  refine J.move rfl rfl ?_
  first | refine J.skip rfl rfl rfl rfl rfl ?_ | refine J.skipU rfl rfl rfl rfl ?_ | (refine J.unguard rfl rfl rfl ?_; refine J.move rfl rfl ?_)
  first | refine J.skip rfl rfl rfl rfl rfl ?_ | refine J.skipU rfl rfl rfl rfl ?_ | (refine J.unguard rfl rfl rfl ?_; refine J.indexAddrS Ty.el26 Ty.s3 rfl rfl (by omega) (by omega) rfl ?_)
  first | refine J.skip rfl rfl rfl rfl rfl ?_ | refine J.skipU rfl rfl rfl rfl ?_ | (refine J.unguard rfl rfl rfl ?_; refine J.load1 (v := iV n) Ty.a3 rfl (fun w1 hw => rowI_at2 (i := 0) (hr.st hoff hw) hn0 (by simp)) rfl ?_)
  first | refine J.skip rfl rfl rfl rfl rfl ?_ | refine J.skipU rfl rfl rfl rfl ?_ | (refine J.unguard rfl rfl rfl ?_; refine J.move rfl rfl ?_)
  first | refine J.skip rfl rfl rfl rfl rfl ?_ | refine J.skipU rfl rfl rfl rfl ?_ | (refine J.unguard rfl rfl rfl ?_; refine J.bin rfl rfl rfl rfl ?_; refine J.name 36 rfl (show Value.bool _ = .bool false by simp) ?_)
  (first | refine J.pickT rfl rfl rfl ?_ | refine J.pickF rfl rfl rfl ?_)
  refine J.move rfl rfl ?_
  first | refine J.skip rfl rfl rfl rfl rfl ?_ | refine J.skipU rfl rfl rfl rfl ?_ | (refine J.unguard rfl rfl rfl ?_; refine J.loadA (vs := cI b) Ty.a23 Ty.s23 rfl rfl (fun w1 hw => Cells.of_block (hw.own _ (.tail _ (.head _))) rfl) rfl ?_)
  first | refine J.skip rfl rfl rfl rfl rfl ?_ | refine J.skipU rfl rfl rfl rfl ?_ | (refine J.unguard rfl rfl rfl ?_; refine J.loadA (vs := cI me) Ty.a23 Ty.s23 rfl rfl (fun w1 hw => Cells.of_block (hw.own _ (.tail _ (.tail _ (.tail _ (.head _))))) rfl) rfl ?_)
  first | refine J.skip rfl rfl rfl rfl rfl ?_ | refine J.skipU rfl rfl rfl rfl ?_ | (refine J.unguard rfl rfl rfl ?_; refine J.eqI Ty.QI Ty.keyI rfl rfl rfl ?_; refine J.name 41 rfl (show Value.bool _ = .bool false by simp [hc5]) ?_)
  (first | refine J.pickT rfl rfl rfl ?_ | refine J.pickF rfl rfl rfl ?_)
  refine J.nil ?_
  refine JX.thenN (hK2 _ _ ?_)
  first | refine JC.condF rfl ?_ | refine JC.cond rfl (fun h => by first | (exfalso; simp at h; omega) | (simp at h)) (fun _ => ?_)
  refine JC.skip ?_
  refine JX.thenN (hK1 _ _ ?_)
  refine JC.seq (fun K3 hK3 => ?_)
  refine JC.seq (fun K4 hK4 => ?_)
  refine JC.region ?_
  refine J.move rfl rfl ?_
  refine J.move rfl rfl ?_
  refine J.indexAddrS Ty.el26 Ty.s3 rfl rfl (by omega) (by omega) rfl ?_
  refine J.load1 (v := iV n1) Ty.a3 rfl (fun w1 hw => rowI_at2 (i := 1) (hr.st hoff hw) hn1 (by simp)) rfl ?_
  refine J.callB (v := .bool true) (fun w1 w2 hw hb => hw.step hb) Ty.bd66 rfl rfl (fun w1 hw => by
    have h := open14_spec ov os n1 w1 (hro.st hoffo hw) hlo
    rw [hop] at h
    exact h) ?_
  refine J.not rfl rfl ?_
  refine J.nil ?_
  refine JX.thenN (hK4 _ _ ?_)
  first | refine JC.condF rfl ?_ | refine JC.cond rfl (fun h => by first | (exfalso; simp at h; omega) | (simp at h)) (fun _ => ?_)
  refine JC.skip ?_
  refine JX.thenN (hK3 _ _ ?_)
  refine JC.seq (fun K5 hK5 => ?_)
  apply JC.drawL 8 [Eqv (.pointer (some ⟨rt, 0, none⟩)), Eqv (.agg (cP p).toArray), Eqv (.agg (cI me).toArray), Eqv (.agg (cI b).toArray), Eqv (.slice (some ⟨qw, ow, none⟩) way.length cw), Eqv (.pointer (some ⟨qw, ow + (1 : Int).toNat * 1, none⟩)), Eqv (iV n1), Eqv (.agg (cE (⟨p, me, b, -1, n1⟩ : EV)).toArray)] Ty.mixed rfl rfl rfl (by kernel_rfl) rfl rfl (fun w w' hw hb => hw.step hb) ⟨fun _ _ _ h _ => h, fun _ _ _ h _ => h, fun _ _ _ h _ => h, fun _ _ _ h _ => h, fun _ _ _ h _ => h, fun _ _ _ h _ => h, fun _ _ _ h _ => h, fun _ _ _ h _ => h, trivial⟩ ?hstep ?htail
  case hstep =>
    refine ⟨fun wi => ?_, fun wi => ?_, fun wi => ?_, fun wi => ?_, fun wi => ?_, fun wi => ?_, fun wi => ?_, fun wi => ?_, trivial⟩
    · skip
      refine Fin.nil ?_
      refine J.move rfl rfl ?_
      exact J.finP rfl
    · skip
      refine Fin.nil ?_
      refine J.loadA (vs := cP p) Ty.a25 Ty.s25 rfl rfl (fun w1 hw => Cells.of_block (hw.2.own _ (.tail _ (.tail _ (.head _)))) rfl) rfl ?_
      exact J.finP rfl
    · skip
      refine Fin.nil ?_
      refine J.loadA (vs := cI me) Ty.a23 Ty.s23 rfl rfl (fun w1 hw => Cells.of_block (hw.2.own _ (.tail _ (.tail _ (.tail _ (.head _))))) rfl) rfl ?_
      exact J.finP rfl
    · skip
      refine Fin.nil ?_
      refine J.loadA (vs := cI b) Ty.a23 Ty.s23 rfl rfl (fun w1 hw => Cells.of_block (hw.2.own _ (.tail _ (.head _))) rfl) rfl ?_
      exact J.finP rfl
    · skip
      refine Fin.nil ?_
      refine J.move rfl rfl ?_
      exact J.finP rfl
    · skip
      refine Fin.consE rfl (Fin.nil ?_)
      refine J.indexAddrS Ty.el26 Ty.s3 rfl rfl (by omega) (by omega) rfl ?_
      exact J.finP rfl
    · skip
      refine Fin.consE rfl (Fin.nil ?_)
      refine J.load1 (v := iV n1) Ty.a3 rfl (fun w1 hw => rowI_at2 (i := 1) (hr.st hoff hw.2) hn1 (by simp)) rfl ?_
      exact J.finP rfl
    · skip
      refine Fin.consE rfl (Fin.consE rfl (Fin.consE rfl (Fin.consE rfl (Fin.nil ?_))))
      refine J.buildS (cs := cE (⟨p, me, b, -1, n1⟩ : EV)) Ty.pl34 Ty.zE_ rfl (by kernel_rfl) rfl ?_
      exact J.finP rfl
  case htail =>
    refine Fin.consE rfl (Fin.consE rfl (Fin.consE rfl (Fin.consE rfl (Fin.consE rfl (Fin.consE rfl (Fin.consE rfl (Fin.consE rfl (Fin.nil ?_))))))))
    refine J.perm ((((rt, rtabO (.slice ar (ordE L).length cr) mo)) :: lr) ++ ((b14, cb (cD nilV false false) 90) :: (b11, cb (cI b) 23) :: (b10, cb (cP p) 25) :: (b9, cb (cI me) 23) :: [])) (by (refine perm_cnt (fun _ => ?_)); simp only [cntB_append, cntB_cons, cntB_nil, Nat.add_zero, Nat.zero_add]; try ac_rfl) ?_
    refine J.callS (α := Value × List (Nat × Obj)) (V := fun _ => .int .i64 (tadd L mo (⟨p, me, b, -1, n1⟩ : EV)).1) (Pr := fun y => Vec 34 51 y.1 (ordE (tadd L mo (⟨p, me, b, -1, n1⟩ : EV)).2).length (fE (ordE (tadd L mo (⟨p, me, b, -1, n1⟩ : EV)).2)) y.2) (L := fun y => (rt, rtabO y.1 mo) :: y.2) (l1 := (((rt, rtabO (.slice ar (ordE L).length cr) mo)) :: lr)) Ty.bd38 rfl rfl (fun w1 hw => (radd_spec rt _ mo (ordE L) lr w1 hw.owns hvr (ordE_ok hT) (by omega) (⟨p, me, b, -1, n1⟩ : EV) hokE).mono fun _ _ ⟨y, h1, h2, h3⟩ => by rw [radd_ord hT.dist] at h1 h2; exact ⟨y, h1, h2, h3⟩) (fun y hv5 => ?_)
    obtain ⟨v5, l5⟩ := y
    simp only [List.cons_append, List.nil_append] at hv5 ⊢
    rw [hadd] at hv5
    refine J.name 59 rfl (show _ = Value.int .i64 e by rw [hadd]) ?_
    refine J.perm ((b14, cb (cD nilV false false) 90) :: (b11, cb (cI b) 23) :: (b10, cb (cP p) 25) :: (b9, cb (cI me) 23) :: (rt, rtabO v5 mo) :: l5) (by (refine perm_cnt (fun _ => ?_)); simp only [cntB_append, cntB_cons, cntB_nil, Nat.add_zero, Nat.zero_add]; try ac_rfl) ?_
    refine J.assign rfl rfl ?_
    refine J.nil ?_
    refine JX.thenN (hK5 _ _ ?_)
    refine JC.seq (fun K6 hK6 => ?_)
    refine JC.seq (fun K7 hK7 => ?_)
    refine JC.region ?_
    refine J.move rfl rfl ?_
    refine J.bin rfl rfl rfl rfl ?_
    refine J.name 61 rfl (show Value.bool _ = .bool true by simp [he]) ?_
    refine J.nil ?_
    refine JX.thenN (hK7 _ _ ?_)
    first | refine JC.condT rfl ?_ | refine JC.cond rfl (fun _ => ?_) (fun h => by first | (exfalso; simp at h; omega) | (simp at h))
    refine JC.seq (fun K8 hK8 => ?_)
    refine JC.region ?_
    refine J.move rfl rfl ?_
    refine J.bin rfl rfl rfl rfl ?_
    refine J.buildS (cs := cD nilV false (e == 5)) Ty.pl90 zN_ rfl (by kernel_rfl) rfl ?_
    refine J.move rfl rfl ?_
    refine J.storeW Ty.s90 rfl rfl rfl rfl rfl (by simp [Value.oneCell']) (by repeat first | exact .here | apply Up.there) ?_
    refine J.assign rfl rfl ?_
    refine J.nil ?_
    refine JX.thenN (hK8 _ _ ?_)
    refine JC.ret ?_
    refine JX.thenR ?_
    refine JX.retCT rfl rfl rfl Ty.a90 Ty.s90 (vs := cD nilV false (e == 5)) rfl (fun w1 hw => Cells.of_block (hw.own _ (.head _)) rfl) (fun w1 hw => ?_)
    exact ⟨(v5, l5), rfl, hv5, hw.drop (.cons _ (.cons _ (.cons _ (.cons _ (List.Sublist.refl _)))))⟩

set_option maxHeartbeats 1000000 in
theorem rstart_ok (rt : Nat) (vr : Value) (mo : Int) (L : List EV) (lr : List (Nat × Obj)) (es : Array MapEntry) (ck : Nat) (n : Int) (me b : IDV) (p : PV) (wv : Value) (way : List Int) (ov : Value) (os : List Bool) (w : World) (hr : Row w wv way.length (way.map iV)) (hlw : way.length < 4611686018427387904) (hro : Row w ov os.length (os.map bV)) (hlo : os.length < 4611686018427387904) (hp : okN p.n) (hgood : ¬ badW n me b way) (n1 : Int) (hn1 : way[1]? = some n1) (hop : openQ os n1 = true) (hw0 : Own w ((rt, rtabO vr mo) :: lr)) (hT : Tab L es ck) (hl128 : L.length ≤ 128) (hvr : Vec 34 51 vr (ordE L).length (fE (ordE L)) lr) (hoff : Off (rt :: lr.map (·.1)) wv (way.map iV)) (hoffo : Off (rt :: lr.map (·.1)) ov (os.map bV)) {L' : List EV} (hadd : tadd L mo (⟨p, me, b, -1, n1⟩ : EV) = (0, L')) :
    Calls Try.prog 46 [.pointer (some ⟨rt, 0, none⟩), .int .i64 n, .agg (cI me).toArray, .agg (cP p).toArray, .agg (cI b).toArray, wv, ov].toArray w fun r w' => ∃ x : OutR, r = .returned (.tuple #[.agg (cD (.slice (some ⟨x.h, 0, none⟩) 1 1) true false).toArray, .int .i64 0]) ∧ (Vec 3 1 (.slice x.a way.length x.c) way.length (way.map iV) x.lp ∧ Vec 34 51 x.v (ordE L').length (fE (ordE L')) x.lr) ∧ St w (rt :: lr.map (·.1)) ((x.h, cb (cH n1 (cF 4 p me b (.slice x.a way.length x.c))) 54) :: (x.lp ++ (rt, rtabO x.v mo) :: x.lr)) w' := by
  obtain ⟨aw, cw, rfl, hcw, _⟩ := id hr
  obtain ⟨hc1, hc2, hc3, hc4, hc5⟩ : ¬ way.length < 2 ∧ ¬ 64 < way.length ∧ ¬ ¬ way.Nodup ∧ ¬ way[0]? ≠ some n ∧ ¬ b = me := ⟨fun h => hgood (.inl h), fun h => hgood (.inr (.inl h)), fun h => hgood (.inr (.inr (.inl h))), fun h => hgood (.inr (.inr (.inr (.inl h)))), fun h => hgood (.inr (.inr (.inr (.inr h))))⟩
  have hnd : way.Nodup := Classical.not_not.1 hc3
  obtain ⟨qw, ow, _, hqe, _, _⟩ := Row.some hr (by simp; omega)
  simp only [Value.slice.injEq] at hqe
  obtain ⟨rfl, _, rfl⟩ := hqe
  obtain ⟨n0, hn0⟩ : ∃ y, way[0]? = some y := ⟨_, List.getElem?_eq_getElem (by omega)⟩
  obtain rfl : n = n0 := by have h9 := Classical.not_not.1 hc4; rw [hn0] at h9; exact (Option.some.inj h9).symm
  obtain ⟨ar, cr, rfl, hcr⟩ := hvr.form
  have hol := (ordE_perm L).length_eq
  have ho128 : (ordE L).length ≤ 128 := by omega
  obtain ⟨hb0, hb1⟩ := open_bounds hop
  have hokE : okE (⟨p, me, b, -1, n1⟩ : EV) := ⟨hp, okN_small (n := -1) (by omega) (by omega), okN_small (n := n1) (by omega) (by omega)⟩
  refine calls_of_J (args := [.pointer (some ⟨rt, 0, none⟩), .int .i64 n, .agg (cI me).toArray, .agg (cP p).toArray, .agg (cI b).toArray, .slice (some ⟨qw, ow, none⟩) way.length cw, ov]) (e := [(0, .pointer (some ⟨rt, 0, none⟩)), (1, .int .i64 n), (2, .agg (cI me).toArray), (3, .agg (cP p).toArray), (4, .agg (cI b).toArray), (5, .slice (some ⟨qw, ow, none⟩) way.length cw), (6, ov)]) Try.func46 rfl rfl ⟨rfl, rfl, rfl, rfl, rfl, rfl, rfl, trivial⟩ (hw0.st) ?_
  refine JC.seq (fun K0 hK0 => ?_)
  refine JC.region ?_
  refine J.box rfl rfl rfl (fun b9 => ?_)
  refine J.box rfl rfl rfl (fun b10 => ?_)
  refine J.box rfl rfl rfl (fun b11 => ?_)
  refine J.alloc zN_ rfl rfl (fun b14 => ?_)
  refine J.assign rfl rfl ?_
  refine J.nil ?_
  refine JX.thenN (hK0 _ _ ?_)
  refine JC.seq (fun K1 hK1 => ?_)
  refine JC.seq (fun K2 hK2 => ?_)
  refine JC.region ?_
  refine J.move rfl rfl ?_
  refine J.lenS rfl Ty.u26 rfl rfl ?_
  refine J.bin rfl rfl rfl rfl ?_
  refine J.name 20 rfl (show Value.bool _ = .bool false by simp; omega) ?_
  refine J.move rfl rfl ?_
  first | refine J.skip rfl rfl rfl rfl rfl ?_ | refine J.skipU rfl rfl rfl rfl ?_ | (refine J.unguard rfl rfl rfl ?_; refine J.move rfl rfl ?_)
  first | refine J.skip rfl rfl rfl rfl rfl ?_ | refine J.skipU rfl rfl rfl rfl ?_ | (refine J.unguard rfl rfl rfl ?_; refine J.lenS rfl Ty.u26 rfl rfl ?_)
  first | refine J.skip rfl rfl rfl rfl rfl ?_ | refine J.skipU rfl rfl rfl rfl ?_ | (refine J.unguard rfl rfl rfl ?_; refine J.bin rfl rfl rfl rfl ?_; refine J.name 24 rfl (show Value.bool _ = .bool false by simp; omega) ?_)
  (first | refine J.pickT rfl rfl rfl ?_ | refine J.pickF rfl rfl rfl ?_)
  refine J.move rfl rfl ?_
  first | refine J.skip rfl rfl rfl rfl rfl ?_ | refine J.skipU rfl rfl rfl rfl ?_ | (refine J.unguard rfl rfl rfl ?_; refine J.move rfl rfl ?_)
  first | refine J.skip rfl rfl rfl rfl rfl ?_ | refine J.skipU rfl rfl rfl rfl ?_ | (refine J.unguard rfl rfl rfl ?_; refine J.callB (v := .bool true) (fun w1 w2 hw hb => hw.step hb) Ty.bd65 rfl rfl (fun w1 hw => (by have h := simple11_spec _ way w1 (hr.st hoff hw) hlw; rw [decide_eq_true hnd] at h; exact h)) ?_)
  first | refine J.skip rfl rfl rfl rfl rfl ?_ | refine J.skipU rfl rfl rfl rfl ?_ | (refine J.unguard rfl rfl rfl ?_; refine J.not rfl rfl ?_)
  (first | refine J.pickT rfl rfl rfl ?_ | refine J.pickF rfl rfl rfl ?_)
  refine J.move rfl rfl ?_
  first | refine J.skip rfl rfl rfl rfl rfl ?_ | refine J.skipU rfl rfl rfl rfl ?_ | (refine J.unguard rfl rfl rfl ?_; refine J.move rfl rfl ?_)
  first | refine J.skip rfl rfl rfl rfl rfl ?_ | refine J.skipU rfl rfl rfl rfl ?_ | (refine J.unguard rfl rfl rfl ?_; refine J.indexAddrS Ty.el26 Ty.s3 rfl rfl (by omega) (by omega) rfl ?_)
  first | refine J.skip rfl rfl rfl rfl rfl ?_ | refine J.skipU rfl rfl rfl rfl ?_ | (refine J.unguard rfl rfl rfl ?_; refine J.load1 (v := iV n) Ty.a3 rfl (fun w1 hw => rowI_at2 (i := 0) (hr.st hoff hw) hn0 (by simp)) rfl ?_)
  first | refine J.skip rfl rfl rfl rfl rfl ?_ | refine J.skipU rfl rfl rfl rfl ?_ | (refine J.unguard rfl rfl rfl ?_; refine J.move rfl rfl ?_)
  first | refine J.skip rfl rfl rfl rfl rfl ?_ | refine J.skipU rfl rfl rfl rfl ?_ | (refine J.unguard rfl rfl rfl ?_; refine J.bin rfl rfl rfl rfl ?_; refine J.name 36 rfl (show Value.bool _ = .bool false by simp) ?_)
  (first | refine J.pickT rfl rfl rfl ?_ | refine J.pickF rfl rfl rfl ?_)
  refine J.move rfl rfl ?_
  first | refine J.skip rfl rfl rfl rfl rfl ?_ | refine J.skipU rfl rfl rfl rfl ?_ | (refine J.unguard rfl rfl rfl ?_; refine J.loadA (vs := cI b) Ty.a23 Ty.s23 rfl rfl (fun w1 hw => Cells.of_block (hw.own _ (.tail _ (.head _))) rfl) rfl ?_)
  first | refine J.skip rfl rfl rfl rfl rfl ?_ | refine J.skipU rfl rfl rfl rfl ?_ | (refine J.unguard rfl rfl rfl ?_; refine J.loadA (vs := cI me) Ty.a23 Ty.s23 rfl rfl (fun w1 hw => Cells.of_block (hw.own _ (.tail _ (.tail _ (.tail _ (.head _))))) rfl) rfl ?_)
  first | refine J.skip rfl rfl rfl rfl rfl ?_ | refine J.skipU rfl rfl rfl rfl ?_ | (refine J.unguard rfl rfl rfl ?_; refine J.eqI Ty.QI Ty.keyI rfl rfl rfl ?_; refine J.name 41 rfl (show Value.bool _ = .bool false by simp [hc5]) ?_)
  (first | refine J.pickT rfl rfl rfl ?_ | refine J.pickF rfl rfl rfl ?_)
  refine J.nil ?_
  refine JX.thenN (hK2 _ _ ?_)
  first | refine JC.condF rfl ?_ | refine JC.cond rfl (fun h => by first | (exfalso; simp at h; omega) | (simp at h)) (fun _ => ?_)
  refine JC.skip ?_
  refine JX.thenN (hK1 _ _ ?_)
  refine JC.seq (fun K3 hK3 => ?_)
  refine JC.seq (fun K4 hK4 => ?_)
  refine JC.region ?_
  refine J.move rfl rfl ?_
  refine J.move rfl rfl ?_
  refine J.indexAddrS Ty.el26 Ty.s3 rfl rfl (by omega) (by omega) rfl ?_
  refine J.load1 (v := iV n1) Ty.a3 rfl (fun w1 hw => rowI_at2 (i := 1) (hr.st hoff hw) hn1 (by simp)) rfl ?_
  refine J.callB (v := .bool true) (fun w1 w2 hw hb => hw.step hb) Ty.bd66 rfl rfl (fun w1 hw => by
    have h := open14_spec ov os n1 w1 (hro.st hoffo hw) hlo
    rw [hop] at h
    exact h) ?_
  refine J.not rfl rfl ?_
  refine J.nil ?_
  refine JX.thenN (hK4 _ _ ?_)
  first | refine JC.condF rfl ?_ | refine JC.cond rfl (fun h => by first | (exfalso; simp at h; omega) | (simp at h)) (fun _ => ?_)
  refine JC.skip ?_
  refine JX.thenN (hK3 _ _ ?_)
  refine JC.seq (fun K5 hK5 => ?_)
  apply JC.drawL 8 [Eqv (.pointer (some ⟨rt, 0, none⟩)), Eqv (.agg (cP p).toArray), Eqv (.agg (cI me).toArray), Eqv (.agg (cI b).toArray), Eqv (.slice (some ⟨qw, ow, none⟩) way.length cw), Eqv (.pointer (some ⟨qw, ow + (1 : Int).toNat * 1, none⟩)), Eqv (iV n1), Eqv (.agg (cE (⟨p, me, b, -1, n1⟩ : EV)).toArray)] Ty.mixed rfl rfl rfl (by kernel_rfl) rfl rfl (fun w w' hw hb => hw.step hb) ⟨fun _ _ _ h _ => h, fun _ _ _ h _ => h, fun _ _ _ h _ => h, fun _ _ _ h _ => h, fun _ _ _ h _ => h, fun _ _ _ h _ => h, fun _ _ _ h _ => h, fun _ _ _ h _ => h, trivial⟩ ?hstep ?htail
  case hstep =>
    refine ⟨fun wi => ?_, fun wi => ?_, fun wi => ?_, fun wi => ?_, fun wi => ?_, fun wi => ?_, fun wi => ?_, fun wi => ?_, trivial⟩
    · skip
      refine Fin.nil ?_
      refine J.move rfl rfl ?_
      exact J.finP rfl
    · skip
      refine Fin.nil ?_
      refine J.loadA (vs := cP p) Ty.a25 Ty.s25 rfl rfl (fun w1 hw => Cells.of_block (hw.2.own _ (.tail _ (.tail _ (.head _)))) rfl) rfl ?_
      exact J.finP rfl
    · skip
      refine Fin.nil ?_
      refine J.loadA (vs := cI me) Ty.a23 Ty.s23 rfl rfl (fun w1 hw => Cells.of_block (hw.2.own _ (.tail _ (.tail _ (.tail _ (.head _))))) rfl) rfl ?_
      exact J.finP rfl
    · skip
      refine Fin.nil ?_
      refine J.loadA (vs := cI b) Ty.a23 Ty.s23 rfl rfl (fun w1 hw => Cells.of_block (hw.2.own _ (.tail _ (.head _))) rfl) rfl ?_
      exact J.finP rfl
    · skip
      refine Fin.nil ?_
      refine J.move rfl rfl ?_
      exact J.finP rfl
    · skip
      refine Fin.consE rfl (Fin.nil ?_)
      refine J.indexAddrS Ty.el26 Ty.s3 rfl rfl (by omega) (by omega) rfl ?_
      exact J.finP rfl
    · skip
      refine Fin.consE rfl (Fin.nil ?_)
      refine J.load1 (v := iV n1) Ty.a3 rfl (fun w1 hw => rowI_at2 (i := 1) (hr.st hoff hw.2) hn1 (by simp)) rfl ?_
      exact J.finP rfl
    · skip
      refine Fin.consE rfl (Fin.consE rfl (Fin.consE rfl (Fin.consE rfl (Fin.nil ?_))))
      refine J.buildS (cs := cE (⟨p, me, b, -1, n1⟩ : EV)) Ty.pl34 Ty.zE_ rfl (by kernel_rfl) rfl ?_
      exact J.finP rfl
  case htail =>
    refine Fin.consE rfl (Fin.consE rfl (Fin.consE rfl (Fin.consE rfl (Fin.consE rfl (Fin.consE rfl (Fin.consE rfl (Fin.consE rfl (Fin.nil ?_))))))))
    refine J.perm ((((rt, rtabO (.slice ar (ordE L).length cr) mo)) :: lr) ++ ((b14, cb (cD nilV false false) 90) :: (b11, cb (cI b) 23) :: (b10, cb (cP p) 25) :: (b9, cb (cI me) 23) :: [])) (by (refine perm_cnt (fun _ => ?_)); simp only [cntB_append, cntB_cons, cntB_nil, Nat.add_zero, Nat.zero_add]; try ac_rfl) ?_
    refine J.callS (α := Value × List (Nat × Obj)) (V := fun _ => .int .i64 (tadd L mo (⟨p, me, b, -1, n1⟩ : EV)).1) (Pr := fun y => Vec 34 51 y.1 (ordE (tadd L mo (⟨p, me, b, -1, n1⟩ : EV)).2).length (fE (ordE (tadd L mo (⟨p, me, b, -1, n1⟩ : EV)).2)) y.2) (L := fun y => (rt, rtabO y.1 mo) :: y.2) (l1 := (((rt, rtabO (.slice ar (ordE L).length cr) mo)) :: lr)) Ty.bd38 rfl rfl (fun w1 hw => (radd_spec rt _ mo (ordE L) lr w1 hw.owns hvr (ordE_ok hT) (by omega) (⟨p, me, b, -1, n1⟩ : EV) hokE).mono fun _ _ ⟨y, h1, h2, h3⟩ => by rw [radd_ord hT.dist] at h1 h2; exact ⟨y, h1, h2, h3⟩) (fun y hv5 => ?_)
    obtain ⟨v5, l5⟩ := y
    simp only [List.cons_append, List.nil_append] at hv5 ⊢
    rw [hadd] at hv5
    refine J.name 59 rfl (show _ = Value.int .i64 0 by rw [hadd]) ?_
    refine J.perm ((b14, cb (cD nilV false false) 90) :: (b11, cb (cI b) 23) :: (b10, cb (cP p) 25) :: (b9, cb (cI me) 23) :: (rt, rtabO v5 mo) :: l5) (by (refine perm_cnt (fun _ => ?_)); simp only [cntB_append, cntB_cons, cntB_nil, Nat.add_zero, Nat.zero_add]; try ac_rfl) ?_
    refine J.assign rfl rfl ?_
    refine J.nil ?_
    refine JX.thenN (hK5 _ _ ?_)
    refine JC.seq (fun K6 hK6 => ?_)
    refine JC.seq (fun K7 hK7 => ?_)
    refine JC.region ?_
    refine J.move rfl rfl ?_
    refine J.bin rfl rfl rfl rfl ?_
    refine J.nil ?_
    refine JX.thenN (hK7 _ _ ?_)
    first | refine JC.condF rfl ?_ | refine JC.cond rfl (fun h => by first | (exfalso; simp at h; omega) | (simp at h)) (fun _ => ?_)
    refine JC.skip ?_
    refine JX.thenN (hK6 _ _ ?_)
    refine JC.seq (fun K8 hK8 => ?_)
    apply JC.drawX (α := Nat × Option Addr × Nat × List (Nat × Obj) × Nat) 8 (fun x => match x with | ⟨x3, a5, c5, l5x, x7⟩ => [.agg (cP p).toArray, .agg (cI me).toArray, .agg (cI b).toArray, .slice (some ⟨x3, 0, none⟩) 0 0, .slice (some ⟨qw, ow, none⟩) way.length cw, .slice a5 way.length c5, .agg (cF 4 p me b (.slice a5 way.length c5)).toArray, .pointer (some ⟨x7, 0, none⟩)]) (fun m x => match x with | ⟨x3, a5, c5, l5x, x7⟩ => fun w1 => ((m 5 = true → m 3 = true ∧ Vec 3 1 (.slice a5 way.length c5) way.length (way.map iV) l5x) ∧ (m 6 = true → m 5 = true)) ∧ St w (rt :: lr.map (·.1)) ((b14, cb (cD nilV false false) 90) :: (b11, cb (cI b) 23) :: (b10, cb (cP p) 25) :: (b9, cb (cI me) 23) :: (rt, rtabO v5 mo) :: ((bif m 7 then [(x7, cb (cF 0 zP zI zI nilV) 52)] else []) ++ ((bif m 5 then l5x else (bif m 3 then [(x3, cb [] 3)] else [])) ++ l5))) w1) Ty.mixed rfl rfl rfl (by kernel_rfl) rfl rfl ?hinit ?hstep ?htail
    case hinit => exact fun w1 hw => ⟨(0, none, 0, [], 0), ⟨fun h => (by cases h), fun h => (by cases h)⟩, hw.drew⟩
    case hstep =>
      refine ⟨fun m x hm hp => ?_, fun m x hm hp => ?_, fun m x hm hp => ?_, fun m x hm hp => ?_, fun m x hm hp => ?_, fun m x hm hp => ?_, fun m x hm hp => ?_, fun m x hm hp => ?_, trivial⟩
      · skip
        obtain ⟨x3, a5, c5, l5x, x7⟩ := x
        show J _ _ _ _ _ (_) _
        refine J.pr (fun hF => ?_)
        refine J.loadA (vs := cP p) Ty.a25 Ty.s25 rfl rfl (fun w1 hw => Cells.of_block (hw.own _ (.tail _ (.tail _ (.head _)))) rfl) rfl ?_
        exact J.finX rfl (fun _ hw => ⟨⟨x3, a5, c5, l5x, x7⟩, rfl, fun _ _ _ => rfl, hF, hw⟩)
      · skip
        obtain ⟨x3, a5, c5, l5x, x7⟩ := x
        show J _ _ _ _ _ (_) _
        refine J.pr (fun hF => ?_)
        refine J.loadA (vs := cI me) Ty.a23 Ty.s23 rfl rfl (fun w1 hw => Cells.of_block (hw.own _ (.tail _ (.tail _ (.tail _ (.head _))))) rfl) rfl ?_
        exact J.finX rfl (fun _ hw => ⟨⟨x3, a5, c5, l5x, x7⟩, rfl, fun _ _ _ => rfl, hF, hw⟩)
      · skip
        obtain ⟨x3, a5, c5, l5x, x7⟩ := x
        show J _ _ _ _ _ (_) _
        refine J.pr (fun hF => ?_)
        refine J.loadA (vs := cI b) Ty.a23 Ty.s23 rfl rfl (fun w1 hw => Cells.of_block (hw.own _ (.tail _ (.head _))) rfl) rfl ?_
        exact J.finX rfl (fun _ hw => ⟨⟨x3, a5, c5, l5x, x7⟩, rfl, fun _ _ _ => rfl, hF, hw⟩)
      · skip
        obtain ⟨x3, a5, c5, l5x, x7⟩ := x
        show J _ _ _ _ _ (_) _
        refine J.pr (fun hF => ?_)
        have h5 : m 5 = false := by cases h : m 5 with
          | false => rfl
          | true => rw [(hF.1 h).1] at hm; cases hm
        refine J.buildSl (cs := []) Ty.el26 Ty.s3 Ty.z3 rfl rfl rfl rfl rfl rfl rfl (fun b69 => ?_)
        refine J.nil (JX.finB rfl (fun w1 hw => ⟨⟨⟨b69, a5, c5, l5x, x7⟩, rfl, fun j h1 h2 => ?_, ?_⟩, trivial⟩))
        · match j, h1 with
          | 0, _ => (first | rfl | trivial)
          | 1, _ => (first | rfl | trivial)
          | 2, _ => (first | rfl | trivial)
          | 3, _ => exact absurd (h2.symm.trans hm) (by decide)
          | 4, _ => (first | rfl | trivial)
          | 5, _ => (first | rfl | trivial)
          | 6, _ => (first | rfl | trivial)
          | 7, _ => (first | rfl | trivial)
          | j + 8, h1 => omega
        show ((m 5 = true → true = true ∧ Vec 3 1 (.slice a5 way.length c5) way.length (way.map iV) l5x) ∧ (m 6 = true → m 5 = true)) ∧ St w (rt :: lr.map (·.1)) ((b14, cb (cD nilV false false) 90) :: (b11, cb (cI b) 23) :: (b10, cb (cP p) 25) :: (b9, cb (cI me) 23) :: (rt, rtabO v5 mo) :: ((bif m 7 then [(x7, cb (cF 0 zP zI zI nilV) 52)] else []) ++ ((bif m 5 then l5x else (bif true then [(b69, cb [] 3)] else [])) ++ l5))) w1
        simp only [hm, h5, cond_true, cond_false] at hw ⊢
        exact ⟨⟨fun h => (by cases h), fun h => (by have h9 := hF.2 h; rw [h5] at h9; cases h9)⟩, hw.perm (by (refine perm_cnt (fun _ => ?_)); simp only [cntB_append, cntB_cons, cntB_nil, Nat.add_zero, Nat.zero_add]; try ac_rfl)⟩
      · skip
        obtain ⟨x3, a5, c5, l5x, x7⟩ := x
        show J _ _ _ _ _ (_) _
        refine J.pr (fun hF => ?_)
        refine J.move rfl rfl ?_
        exact J.finX rfl (fun _ hw => ⟨⟨x3, a5, c5, l5x, x7⟩, rfl, fun _ _ _ => rfl, hF, hw⟩)
      · skip
        obtain ⟨x3, a5, c5, l5x, x7⟩ := x
        show J _ _ _ _ _ ((70, .slice (some ⟨qw, ow, none⟩) way.length cw) :: (69, .slice (some ⟨x3, 0, none⟩) 0 0) :: _) _
        have hp3 : m 3 = true := predsT hp (by kernel_rfl)
        refine J.pr (fun hF => ?_)
        refine J.conseq (I' := St w (rt :: lr.map (·.1)) ((b14, cb (cD nilV false false) 90) :: (b11, cb (cI b) 23) :: (b10, cb (cP p) 25) :: (b9, cb (cI me) 23) :: (rt, rtabO v5 mo) :: ((bif m 7 then [(x7, cb (cF 0 zP zI zI nilV) 52)] else []) ++ ([(x3, cb [] 3)] ++ l5)))) ?_ (fun w1 hw => by simp only [hm, hp3, cond_true, cond_false] at hw; exact hw)
        refine J.perm ([(x3, cb [] 3)] ++ ((b14, cb (cD nilV false false) 90) :: (b11, cb (cI b) 23) :: (b10, cb (cP p) 25) :: (b9, cb (cI me) 23) :: (rt, rtabO v5 mo) :: ((bif m 7 then [(x7, cb (cF 0 zP zI zI nilV) 52)] else []) ++ l5))) (by (refine perm_cnt (fun _ => ?_)); simp only [cntB_append, cntB_cons, cntB_nil, Nat.add_zero, Nat.zero_add]; try ac_rfl) ?_
        refine J.append (lp := [(x3, cb [] 3)]) (xs := []) (ys := way.map iV) (k := 0) (m := way.length) Ty.el26 Ty.s3 Ty.b3 Ty.z3 rfl (.inl ⟨3, Ty.u26⟩) rfl rfl ⟨rfl, .inr ⟨x3, 0, [], rfl, rfl, rfl, Nat.le_refl _⟩⟩ (fun w3 hw3 => .inl (hr.st hoff hw3)) (by simp) (by simp [Value.oneCell']) (by omega) (by omega) rfl (fun v5n l5n hv5n => ?_)
        rw [Nat.zero_add, List.nil_append] at hv5n
        obtain ⟨a5n, c5n, rfl, hc5n⟩ := hv5n.form
        refine J.nil (JX.finB rfl (fun w1 hw => ⟨⟨⟨x3, a5n, c5n, l5n, x7⟩, rfl, fun j h1 h2 => ?_, ?_⟩, trivial⟩))
        · match j, h1 with
          | 0, _ => (first | rfl | trivial)
          | 1, _ => (first | rfl | trivial)
          | 2, _ => (first | rfl | trivial)
          | 3, _ => (first | rfl | trivial)
          | 4, _ => (first | rfl | trivial)
          | 5, _ => exact absurd (h2.symm.trans hm) (by decide)
          | 6, _ => exact absurd ((hF.2 h2).symm.trans hm) (by decide)
          | 7, _ => (first | rfl | trivial)
          | j + 8, h1 => omega
        show ((true = true → m 3 = true ∧ Vec 3 1 (.slice a5n way.length c5n) way.length (way.map iV) l5n) ∧ (m 6 = true → true = true)) ∧ St w (rt :: lr.map (·.1)) ((b14, cb (cD nilV false false) 90) :: (b11, cb (cI b) 23) :: (b10, cb (cP p) 25) :: (b9, cb (cI me) 23) :: (rt, rtabO v5 mo) :: ((bif m 7 then [(x7, cb (cF 0 zP zI zI nilV) 52)] else []) ++ ((bif true then l5n else (bif m 3 then [(x3, cb [] 3)] else [])) ++ l5))) w1
        simp only [hm, cond_true, cond_false] at hw ⊢
        exact ⟨⟨fun _ => ⟨hp3, hv5n⟩, fun _ => (by first | trivial | rfl)⟩, hw.perm (by (refine perm_cnt (fun _ => ?_)); simp only [cntB_append, cntB_cons, cntB_nil, Nat.add_zero, Nat.zero_add]; try ac_rfl)⟩
      · skip
        obtain ⟨x3, a5, c5, l5x, x7⟩ := x
        show J _ _ _ _ _ ((71, .slice a5 way.length c5) :: (68, .agg (cI b).toArray) :: (67, .agg (cI me).toArray) :: (66, .agg (cP p).toArray) :: _) _
        have hp5 : m 5 = true := predsT hp (by kernel_rfl)
        refine J.pr (fun hF => ?_)
        refine J.buildS (cs := cF 4 p me b (.slice a5 way.length c5)) Ty.pl52 zF rfl (by kernel_rfl) rfl ?_
        refine J.nil (JX.finB rfl (fun w1 hw => ⟨⟨⟨x3, a5, c5, l5x, x7⟩, rfl, fun j h1 h2 => ?_, ?_⟩, trivial⟩))
        · match j, h1 with
          | 0, _ => (first | rfl | trivial)
          | 1, _ => (first | rfl | trivial)
          | 2, _ => (first | rfl | trivial)
          | 3, _ => (first | rfl | trivial)
          | 4, _ => (first | rfl | trivial)
          | 5, _ => (first | rfl | trivial)
          | 6, _ => (first | rfl | trivial)
          | 7, _ => (first | rfl | trivial)
          | j + 8, h1 => omega
        show ((m 5 = true → m 3 = true ∧ Vec 3 1 (.slice a5 way.length c5) way.length (way.map iV) l5x) ∧ (true = true → m 5 = true)) ∧ St w (rt :: lr.map (·.1)) ((b14, cb (cD nilV false false) 90) :: (b11, cb (cI b) 23) :: (b10, cb (cP p) 25) :: (b9, cb (cI me) 23) :: (rt, rtabO v5 mo) :: ((bif m 7 then [(x7, cb (cF 0 zP zI zI nilV) 52)] else []) ++ ((bif m 5 then l5x else (bif m 3 then [(x3, cb [] 3)] else [])) ++ l5))) w1
        exact ⟨⟨hF.1, fun _ => hp5⟩, hw⟩
      · skip
        obtain ⟨x3, a5, c5, l5x, x7⟩ := x
        show J _ _ _ _ _ (_) _
        refine J.pr (fun hF => ?_)
        refine J.alloc zF rfl rfl (fun b17 => ?_)
        refine J.nil (JX.finB rfl (fun w1 hw => ⟨⟨⟨x3, a5, c5, l5x, b17⟩, rfl, fun j h1 h2 => ?_, ?_⟩, trivial⟩))
        · match j, h1 with
          | 0, _ => (first | rfl | trivial)
          | 1, _ => (first | rfl | trivial)
          | 2, _ => (first | rfl | trivial)
          | 3, _ => (first | rfl | trivial)
          | 4, _ => (first | rfl | trivial)
          | 5, _ => (first | rfl | trivial)
          | 6, _ => (first | rfl | trivial)
          | 7, _ => exact absurd (h2.symm.trans hm) (by decide)
          | j + 8, h1 => omega
        show ((m 5 = true → m 3 = true ∧ Vec 3 1 (.slice a5 way.length c5) way.length (way.map iV) l5x) ∧ (m 6 = true → m 5 = true)) ∧ St w (rt :: lr.map (·.1)) ((b14, cb (cD nilV false false) 90) :: (b11, cb (cI b) 23) :: (b10, cb (cP p) 25) :: (b9, cb (cI me) 23) :: (rt, rtabO v5 mo) :: ((bif true then [(b17, cb (cF 0 zP zI zI nilV) 52)] else []) ++ ((bif m 5 then l5x else (bif m 3 then [(x3, cb [] 3)] else [])) ++ l5))) w1
        simp only [hm, cond_true, cond_false] at hw ⊢
        exact ⟨hF, hw.perm (by (refine perm_cnt (fun _ => ?_)); simp only [cntB_append, cntB_cons, cntB_nil, Nat.add_zero, Nat.zero_add]; try ac_rfl)⟩
    case htail =>
      intro x
      obtain ⟨x3, a5, c5, l5x, x7⟩ := x
      show J _ _ _ _ _ ((17, .pointer (some ⟨x7, 0, none⟩)) :: (72, .agg (cF 4 p me b (.slice a5 way.length c5)).toArray) :: (71, .slice a5 way.length c5) :: (70, .slice (some ⟨qw, ow, none⟩) way.length cw) :: (69, .slice (some ⟨x3, 0, none⟩) 0 0) :: (68, .agg (cI b).toArray) :: (67, .agg (cI me).toArray) :: (66, .agg (cP p).toArray) :: _) (fun w1 => ((true = true → true = true ∧ Vec 3 1 (.slice a5 way.length c5) way.length (way.map iV) l5x) ∧ (true = true → true = true)) ∧ St w (rt :: lr.map (·.1)) ((b14, cb (cD nilV false false) 90) :: (b11, cb (cI b) 23) :: (b10, cb (cP p) 25) :: (b9, cb (cI me) 23) :: (rt, rtabO v5 mo) :: ((bif true then [(x7, cb (cF 0 zP zI zI nilV) 52)] else []) ++ ((bif true then l5x else (bif true then [(x3, cb [] 3)] else [])) ++ l5))) w1)
      refine J.pr (fun hF => ?_)
      have hv5x := (hF.1 rfl).2
      refine J.conseq (I' := St w (rt :: lr.map (·.1)) ((x7, cb (cF 0 zP zI zI nilV) 52) :: (b14, cb (cD nilV false false) 90) :: (b11, cb (cI b) 23) :: (b10, cb (cP p) 25) :: (b9, cb (cI me) 23) :: (rt, rtabO v5 mo) :: (l5 ++ l5x))) ?_ (fun w1 hw => by simp only [cond_true] at hw; exact hw.perm (by (refine perm_cnt (fun _ => ?_)); simp only [cntB_append, cntB_cons, cntB_nil, Nat.add_zero, Nat.zero_add]; try ac_rfl))
      refine J.storeW Ty.s52 rfl rfl rfl rfl rfl (by simp [Value.oneCell']) (by repeat first | exact .here | apply Up.there) ?_
      refine J.nil ?_
      refine JX.thenN (hK8 _ _ ?_)
      refine JC.seq (fun K9 hK9 => ?_)
      apply JC.drawL 5 [Eqv (.slice (some ⟨qw, ow, none⟩) way.length cw), Eqv (.pointer (some ⟨qw, ow + (1 : Int).toNat * 1, none⟩)), Eqv (iV n1), Eqv (.agg (cF 4 p me b (.slice a5 way.length c5)).toArray), Eqv (.agg (cH n1 (cF 4 p me b (.slice a5 way.length c5))).toArray)] Ty.mixed rfl rfl rfl (by kernel_rfl) rfl rfl (fun w w' hw hb => hw.step hb) ⟨fun _ _ _ h _ => h, fun _ _ _ h _ => h, fun _ _ _ h _ => h, fun _ _ _ h _ => h, fun _ _ _ h _ => h, trivial⟩ ?hstep ?htail
      case hstep =>
        refine ⟨fun wi => ?_, fun wi => ?_, fun wi => ?_, fun wi => ?_, fun wi => ?_, trivial⟩
        · skip
          refine Fin.nil ?_
          refine J.move rfl rfl ?_
          exact J.finP rfl
        · skip
          refine Fin.consE rfl (Fin.nil ?_)
          refine J.indexAddrS Ty.el26 Ty.s3 rfl rfl (by omega) (by omega) rfl ?_
          exact J.finP rfl
        · skip
          refine Fin.consE rfl (Fin.nil ?_)
          refine J.load1 (v := iV n1) Ty.a3 rfl (fun w1 hw => rowI_at2 (i := 1) (hr.st hoff hw.2) hn1 (by simp)) rfl ?_
          exact J.finP rfl
        · skip
          refine Fin.nil ?_
          refine J.loadA (vs := cF 4 p me b (.slice a5 way.length c5)) Ty.a52 Ty.s52 rfl rfl (fun w1 hw => Cells.of_block (hw.2.own _ (.head _)) rfl) rfl ?_
          exact J.finP rfl
        · skip
          refine Fin.consE rfl (Fin.consE rfl (Fin.nil ?_))
          refine J.buildS (cs := cH n1 (cF 4 p me b (.slice a5 way.length c5))) Ty.pl54 zH rfl (by kernel_rfl) rfl ?_
          exact J.finP rfl
      case htail =>
        refine Fin.consE rfl (Fin.consE rfl (Fin.consE rfl (Fin.consE rfl (Fin.consE rfl (Fin.nil ?_)))))
        refine J.buildSl (cs := cH n1 (cF 4 p me b (.slice a5 way.length c5))) Ty.el35 Ty.s54 zH rfl rfl rfl rfl (by kernel_rfl) rfl rfl (fun b78 => ?_)
        refine J.buildS (cs := cD (.slice (some ⟨b78, 0, none⟩) 1 1) true false) Ty.pl90 zN_ rfl (by kernel_rfl) rfl ?_
        refine J.storeW Ty.s90 rfl rfl rfl rfl rfl (by simp [Value.oneCell']) (by repeat first | exact .here | apply Up.there) ?_
        refine J.assign rfl rfl ?_
        refine J.nil ?_
        refine JX.thenN (hK9 _ _ ?_)
        refine JC.ret ?_
        refine JX.retCT rfl rfl rfl Ty.a90 Ty.s90 (vs := cD (.slice (some ⟨b78, 0, none⟩) 1 1) true false) rfl (fun w1 hw => Cells.of_block (hw.own _ (.tail _ (.tail _ (.head _)))) rfl) (fun w1 hw => ?_)
        exact ⟨⟨b78, a5, c5, l5x, v5, l5⟩, rfl, ⟨hv5x, hv5⟩, (hw.perm (l' := [(x7, cb (cF 4 p me b (.slice a5 way.length c5)) 52), (b14, cb (cD (.slice (some ⟨b78, 0, none⟩) 1 1) true false) 90), (b11, cb (cI b) 23), (b10, cb (cP p) 25), (b9, cb (cI me) 23)] ++ ((b78, cb (cH n1 (cF 4 p me b (.slice a5 way.length c5))) 54) :: (l5x ++ (rt, rtabO v5 mo) :: l5))) (by (refine perm_cnt (fun _ => ?_)); simp only [cntB_append, cntB_cons, cntB_nil, Nat.add_zero, Nat.zero_add]; try ac_rfl)).drop (List.sublist_append_right _ _)⟩

end Go.Proofs.Ytpldpkdlloolkaa
