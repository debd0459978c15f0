/-
  Layer 12's example; TableAsks and TableNil: the walks.
-/
import Derived.Test.YtpldpkdlloolkaaUh
namespace Go.Proofs.Ytpldpkdlloolkaa
open Go.J Go.RowKit
set_option linter.unusedVariables false
set_option linter.unusedSimpArgs false
set_option maxRecDepth 4000
def idB : IDV := fun i => if i = 0 then 1 else 0
theorem zI_idB : zI ≠ idB := fun e => by have := congrFun e 0; simp [zI, idB] at this
def fx1 : EV := ⟨⟨zI, 1⟩, zI, idB, -1, 2⟩
def fx2 : EV := ⟨⟨zI, 2⟩, zI, idB, -1, 2⟩
theorem okN1 {n : Int} (h0 : -9223372036854775808 ≤ n) (h1 : n < 9223372036854775808) : okN n := by
  have e1 : IntKind.i64.min = -9223372036854775808 := by decide
  have e2 : IntKind.i64.max = 9223372036854775807 := by decide
  simp only [okN, Lit.wf, e1, e2, Bool.and_eq_true, decide_eq_true_eq]
  omega
theorem ok_fx1 : okE fx1 := ⟨okN1 (by decide) (by decide), okN1 (by decide) (by decide), okN1 (by decide) (by decide)⟩
theorem ok_fx2 : okE fx2 := ⟨okN1 (by decide) (by decide), okN1 (by decide) (by decide), okN1 (by decide) (by decide)⟩
theorem right_fx1 : rightP fx1 := ⟨zI_idB, by decide, by decide, by decide⟩
theorem right_fx2 : rightP fx2 := ⟨zI_idB, by decide, by decide, by decide⟩
theorem fx_ne : fx1.p ≠ fx2.p := fun e => by have := congrArg PV.n e; simp [fx1, fx2] at this
theorem tadd_fx1 : tadd [] 1 fx1 = (0, [fx1]) := by
  unfold tadd
  rw [if_neg (by simpa using right_fx1), if_neg (by simp [tget]), if_neg (by simp)]
  rfl
theorem tadd_fx1b : tadd [fx1] 1 fx1 = (7, [fx1]) := by
  unfold tadd
  rw [if_neg (by simpa using right_fx1), if_pos (by simp [tget])]
theorem tadd_fx2 : tadd [fx1] 1 fx2 = (5, [fx1]) := by
  unfold tadd
  rw [if_neg (by simpa using right_fx2), if_neg (by simp [tget, fx_ne]), if_pos (by simp)]
theorem ordE_one (x : EV) : ordE [x] = [x] := by simp [ordE]
theorem via_fx1 : (ordE [fx1]).filter (viaB 2) = [fx1] := by rw [ordE_one]; rfl
theorem via_fx2 : (ordE [fx1]).filter (viaB (-1)) = [] := by rw [ordE_one]; rfl
theorem own_fx : (ordE [fx1]).filter ownB = [fx1] := by rw [ordE_one]; rfl

set_option maxHeartbeats 1000000 in
theorem fixed12_spec (w : World) :
    Calls Try.prog 24 [].toArray w fun r w' => r = .returned (.bool true) ∧ Bel w w' := by
  refine calls_of_J (args := []) (e := []) Try.func24 rfl rfl trivial (St.start w) ?_
  refine JC.seq (fun K0 hK0 => ?_)
  refine JC.region ?_
  refine J.assign rfl rfl ?_
  refine J.nil ?_
  refine JX.thenN (hK0 _ _ ?_)
  refine JC.seq (fun K1 hK1 => ?_)
  refine JC.region ?_
  refine J.perm ([] ++ ([])) (.refl _) ?_
  refine J.callS (α := Nat × Nat) (V := fun x => .pointer (some ⟨x.1, 0, none⟩)) (Pr := fun _ => True) (L := fun x => [(x.1, tabO (min (max (1) 0) 128) x.2), (x.2, .map #[] 0)]) (l1 := []) Ty.bd16 rfl rfl (fun w1 hw => (new_spec 1 w1).mono fun _ _ ⟨x, h1, h2⟩ => ⟨x, h1, trivial, h2⟩) (fun x _ => ?_)
  obtain ⟨t1, m1⟩ := x
  simp only [List.cons_append, List.nil_append]
  rw [show min (max (1 : Int) 0) 128 = 1 by decide]
  refine J.assign rfl rfl ?_
  refine J.nil ?_
  refine JX.thenN (hK1 _ _ ?_)
  refine JC.seq (fun K2 hK2 => ?_)
  refine JC.region ?_
  refine J.buildS (cs := cP fx1.p) Ty.pl25 Ty.z25 rfl (by kernel_rfl) rfl ?_
  refine J.buildA Ty.ar23 Ty.s5 Ty.z23 rfl rfl rfl ?_
  refine J.buildS (cs := cE fx1) Ty.pl34 Ty.zE_ rfl (by kernel_rfl) rfl ?_
  refine J.alloc Ty.zE_ rfl rfl (fun b2 => ?_)
  refine J.storeW (cs := cE zE) (vs := cE fx1) Ty.s34 rfl rfl rfl rfl rfl (one_cE _) .here ?_
  refine J.nil ?_
  refine JX.thenN (hK2 _ _ ?_)
  refine JC.seq (fun K3 hK3 => ?_)
  refine JC.region ?_
  refine J.loadOA (vs := cE fx1) Ty.a34 Ty.s34 rfl (by repeat first | exact .head _ | apply List.Mem.tail | apply List.mem_append_right) (by exact rfl) rfl rfl ?_
  refine J.alloc Ty.zE_ rfl rfl (fun b3 => ?_)
  refine J.storeW (cs := cE zE) (vs := cE fx1) Ty.s34 rfl rfl rfl rfl rfl (one_cE _) .here ?_
  refine J.nil ?_
  refine JX.thenN (hK3 _ _ ?_)
  refine JC.seq (fun K4 hK4 => ?_)
  refine JC.region ?_
  refine J.fieldAddr Ty.fd34_0 rfl rfl ?_
  refine J.fieldAddr Ty.fd25_1 rfl rfl ?_
  refine J.storeO (cs := cE fx1) (vs := [.int .i64 2]) Ty.s2 rfl rfl rfl rfl (by simp [Value.oneCell']) .here (by decide) ?_
  refine J.conseq (I' := St w [] ((b3, cb (cE fx2) 34) :: (b2, cb (cE fx1) 34) :: (t1, tabO 1 m1) :: (m1, .map #[] 0) :: [])) ?_ (fun w1 hw => hw)
  refine J.nil ?_
  refine JX.thenN (hK4 _ _ ?_)
  refine JC.seq (fun K5 hK5 => ?_)
  refine JC.region ?_
  refine J.move rfl rfl ?_
  refine J.neNil Ty.u29 rfl rfl rfl ?_
  refine J.move rfl rfl ?_
  first | refine J.skip rfl rfl rfl rfl rfl ?_ | refine J.skipU rfl rfl rfl rfl ?_ | (refine J.unguard rfl rfl rfl ?_; refine J.move rfl rfl ?_)
  first | refine J.skip rfl rfl rfl rfl rfl ?_ | refine J.skipU rfl rfl rfl rfl ?_ | (refine J.unguard rfl rfl rfl ?_; refine J.loadOA (vs := cE fx1) Ty.a34 Ty.s34 rfl (.tail _ (.head _)) rfl rfl rfl ?_)
  first | refine J.skip rfl rfl rfl rfl rfl ?_ | refine J.skipU rfl rfl rfl rfl ?_ | (refine J.unguard rfl rfl rfl ?_; refine J.perm ([(t1, tabO 1 m1), (m1, .map #[] 0)] ++ ([(b3, cb (cE fx2) 34), (b2, cb (cE fx1) 34)])) (by (refine perm_cnt (fun _ => ?_)); simp only [cntB_append, cntB_cons, cntB_nil, Nat.add_zero, Nat.zero_add]; try ac_rfl) ?_; refine J.callS (α := Array MapEntry × Nat) (V := fun _ => .int .i64 (tadd ([]) 1 fx1).1) (Pr := fun y => Tab (tadd ([]) 1 fx1).2 y.1 y.2) (L := fun y => [(t1, tabO 1 m1), (m1, .map y.1 y.2)]) (l1 := [(t1, tabO 1 m1), (m1, .map #[] 0)]) Ty.bd17 rfl rfl (fun w1 hw => (add_spec t1 m1 1 ([]) #[] 0 w1 hw.owns Tab.nil fx1 ok_fx1).mono fun _ _ ⟨y, h1, h2, h3⟩ => ⟨y, h1, h2, h3⟩) (fun y hT1 => ?_); obtain ⟨es1, ck1⟩ := y; simp only [List.cons_append, List.nil_append] at hT1 ⊢; rw [tadd_fx1] at hT1; refine J.name 16 rfl (show _ = Value.int .i64 0 by rw [tadd_fx1]) ?_; refine J.perm ((b3, cb (cE fx2) 34) :: (b2, cb (cE fx1) 34) :: (t1, tabO 1 m1) :: (m1, .map es1 ck1) :: []) (by (refine perm_cnt (fun _ => ?_)); simp only [cntB_append, cntB_cons, cntB_nil, Nat.add_zero, Nat.zero_add]; try ac_rfl) ?_)
  first | refine J.skip rfl rfl rfl rfl rfl ?_ | refine J.skipU rfl rfl rfl rfl ?_ | (refine J.unguard rfl rfl rfl ?_; refine J.bin rfl rfl rfl rfl ?_)
  (first | refine J.pickT rfl rfl rfl ?_ | refine J.pickF rfl rfl rfl ?_)
  refine J.move rfl rfl ?_
  first | refine J.skip rfl rfl rfl rfl rfl ?_ | refine J.skipU rfl rfl rfl rfl ?_ | (refine J.unguard rfl rfl rfl ?_; refine J.move rfl rfl ?_)
  first | refine J.skip rfl rfl rfl rfl rfl ?_ | refine J.skipU rfl rfl rfl rfl ?_ | (refine J.unguard rfl rfl rfl ?_; refine J.loadOA (vs := cE fx1) Ty.a34 Ty.s34 rfl (.tail _ (.head _)) rfl rfl rfl ?_)
  first | refine J.skip rfl rfl rfl rfl rfl ?_ | refine J.skipU rfl rfl rfl rfl ?_ | (refine J.unguard rfl rfl rfl ?_; refine J.perm ([(t1, tabO 1 m1), (m1, .map es1 ck1)] ++ ([(b3, cb (cE fx2) 34), (b2, cb (cE fx1) 34)])) (by (refine perm_cnt (fun _ => ?_)); simp only [cntB_append, cntB_cons, cntB_nil, Nat.add_zero, Nat.zero_add]; try ac_rfl) ?_; refine J.callS (α := Array MapEntry × Nat) (V := fun _ => .int .i64 (tadd ([fx1]) 1 fx1).1) (Pr := fun y => Tab (tadd ([fx1]) 1 fx1).2 y.1 y.2) (L := fun y => [(t1, tabO 1 m1), (m1, .map y.1 y.2)]) (l1 := [(t1, tabO 1 m1), (m1, .map es1 ck1)]) Ty.bd17 rfl rfl (fun w1 hw => (add_spec t1 m1 1 ([fx1]) es1 ck1 w1 hw.owns hT1 fx1 ok_fx1).mono fun _ _ ⟨y, h1, h2, h3⟩ => ⟨y, h1, h2, h3⟩) (fun y hT2 => ?_); obtain ⟨es2, ck2⟩ := y; simp only [List.cons_append, List.nil_append] at hT2 ⊢; rw [tadd_fx1b] at hT2; refine J.name 22 rfl (show _ = Value.int .i64 7 by rw [tadd_fx1b]) ?_; refine J.perm ((b3, cb (cE fx2) 34) :: (b2, cb (cE fx1) 34) :: (t1, tabO 1 m1) :: (m1, .map es2 ck2) :: []) (by (refine perm_cnt (fun _ => ?_)); simp only [cntB_append, cntB_cons, cntB_nil, Nat.add_zero, Nat.zero_add]; try ac_rfl) ?_)
  first | refine J.skip rfl rfl rfl rfl rfl ?_ | refine J.skipU rfl rfl rfl rfl ?_ | (refine J.unguard rfl rfl rfl ?_; refine J.bin rfl rfl rfl rfl ?_)
  (first | refine J.pickT rfl rfl rfl ?_ | refine J.pickF rfl rfl rfl ?_)
  refine J.move rfl rfl ?_
  first | refine J.skip rfl rfl rfl rfl rfl ?_ | refine J.skipU rfl rfl rfl rfl ?_ | (refine J.unguard rfl rfl rfl ?_; refine J.move rfl rfl ?_)
  first | refine J.skip rfl rfl rfl rfl rfl ?_ | refine J.skipU rfl rfl rfl rfl ?_ | (refine J.unguard rfl rfl rfl ?_; refine J.loadOA (vs := cE fx2) Ty.a34 Ty.s34 rfl (.head _) rfl rfl rfl ?_)
  first | refine J.skip rfl rfl rfl rfl rfl ?_ | refine J.skipU rfl rfl rfl rfl ?_ | (refine J.unguard rfl rfl rfl ?_; refine J.perm ([(t1, tabO 1 m1), (m1, .map es2 ck2)] ++ ([(b3, cb (cE fx2) 34), (b2, cb (cE fx1) 34)])) (by (refine perm_cnt (fun _ => ?_)); simp only [cntB_append, cntB_cons, cntB_nil, Nat.add_zero, Nat.zero_add]; try ac_rfl) ?_; refine J.callS (α := Array MapEntry × Nat) (V := fun _ => .int .i64 (tadd ([fx1]) 1 fx2).1) (Pr := fun y => Tab (tadd ([fx1]) 1 fx2).2 y.1 y.2) (L := fun y => [(t1, tabO 1 m1), (m1, .map y.1 y.2)]) (l1 := [(t1, tabO 1 m1), (m1, .map es2 ck2)]) Ty.bd17 rfl rfl (fun w1 hw => (add_spec t1 m1 1 ([fx1]) es2 ck2 w1 hw.owns hT2 fx2 ok_fx2).mono fun _ _ ⟨y, h1, h2, h3⟩ => ⟨y, h1, h2, h3⟩) (fun y hT3 => ?_); obtain ⟨es3, ck3⟩ := y; simp only [List.cons_append, List.nil_append] at hT3 ⊢; rw [tadd_fx2] at hT3; refine J.name 28 rfl (show _ = Value.int .i64 5 by rw [tadd_fx2]) ?_; refine J.perm ((b3, cb (cE fx2) 34) :: (b2, cb (cE fx1) 34) :: (t1, tabO 1 m1) :: (m1, .map es3 ck3) :: []) (by (refine perm_cnt (fun _ => ?_)); simp only [cntB_append, cntB_cons, cntB_nil, Nat.add_zero, Nat.zero_add]; try ac_rfl) ?_)
  first | refine J.skip rfl rfl rfl rfl rfl ?_ | refine J.skipU rfl rfl rfl rfl ?_ | (refine J.unguard rfl rfl rfl ?_; refine J.bin rfl rfl rfl rfl ?_)
  (first | refine J.pickT rfl rfl rfl ?_ | refine J.pickF rfl rfl rfl ?_)
  refine J.move rfl rfl ?_
  first | refine J.skip rfl rfl rfl rfl rfl ?_ | refine J.skipU rfl rfl rfl rfl ?_ | (refine J.unguard rfl rfl rfl ?_; refine J.move rfl rfl ?_)
  first | refine J.skip rfl rfl rfl rfl rfl ?_ | refine J.skipU rfl rfl rfl rfl ?_ | (refine J.unguard rfl rfl rfl ?_; refine J.perm ([] ++ ((b3, cb (cE fx2) 34) :: (b2, cb (cE fx1) 34) :: (t1, tabO 1 m1) :: (m1, .map es3 ck3) :: [])) (.refl _) ?_; refine J.callS (α := Value × List (Nat × Obj)) (V := (·.1)) (Pr := fun x => Vec 34 51 x.1 ((ordE [fx1]).filter (viaB 2)).length (fE ((ordE [fx1]).filter (viaB 2))) x.2) (L := (·.2)) (l1 := []) Ty.bd27 rfl rfl (fun w1 hw => via_spec t1 m1 1 ([fx1]) es3 ck3 w1 (hw.own _ (.tail _ (.tail _ (.head _)))) (hw.own _ (.tail _ (.tail _ (.tail _ (.head _))))) hT3 (by simp) 2) (fun x hvA => ?_); obtain ⟨vA, lvA⟩ := x; simp only at hvA ⊢; rw [via_fx1] at hvA; obtain ⟨avA, cvA, rfl, hcvA⟩ := hvA.form; refine J.conseq (I' := St w [] ((b3, cb (cE fx2) 34) :: (b2, cb (cE fx1) 34) :: (t1, tabO 1 m1) :: (m1, .map es3 ck3) :: [])) ?_ (fun w1 hw => hw.drop (List.sublist_append_right _ _)))
  first | refine J.skip rfl rfl rfl rfl rfl ?_ | refine J.skipU rfl rfl rfl rfl ?_ | (refine J.unguard rfl rfl rfl ?_; refine J.lenS rfl Ty.u62 rfl rfl ?_)
  first | refine J.skip rfl rfl rfl rfl rfl ?_ | refine J.skipU rfl rfl rfl rfl ?_ | (refine J.unguard rfl rfl rfl ?_; refine J.bin rfl rfl rfl rfl ?_)
  (first | refine J.pickT rfl rfl rfl ?_ | refine J.pickF rfl rfl rfl ?_)
  refine J.move rfl rfl ?_
  first | refine J.skip rfl rfl rfl rfl rfl ?_ | refine J.skipU rfl rfl rfl rfl ?_ | (refine J.unguard rfl rfl rfl ?_; refine J.move rfl rfl ?_)
  first | refine J.skip rfl rfl rfl rfl rfl ?_ | refine J.skipU rfl rfl rfl rfl ?_ | (refine J.unguard rfl rfl rfl ?_; refine J.perm ([] ++ ((b3, cb (cE fx2) 34) :: (b2, cb (cE fx1) 34) :: (t1, tabO 1 m1) :: (m1, .map es3 ck3) :: [])) (.refl _) ?_; refine J.callS (α := Value × List (Nat × Obj)) (V := (·.1)) (Pr := fun x => Vec 34 51 x.1 ((ordE [fx1]).filter (viaB (-1))).length (fE ((ordE [fx1]).filter (viaB (-1)))) x.2) (L := (·.2)) (l1 := []) Ty.bd27 rfl rfl (fun w1 hw => via_spec t1 m1 1 ([fx1]) es3 ck3 w1 (hw.own _ (.tail _ (.tail _ (.head _)))) (hw.own _ (.tail _ (.tail _ (.tail _ (.head _))))) hT3 (by simp) (-1)) (fun x hvB => ?_); obtain ⟨vB, lvB⟩ := x; simp only at hvB ⊢; rw [via_fx2] at hvB; obtain ⟨avB, cvB, rfl, hcvB⟩ := hvB.form; refine J.conseq (I' := St w [] ((b3, cb (cE fx2) 34) :: (b2, cb (cE fx1) 34) :: (t1, tabO 1 m1) :: (m1, .map es3 ck3) :: [])) ?_ (fun w1 hw => hw.drop (List.sublist_append_right _ _)))
  first | refine J.skip rfl rfl rfl rfl rfl ?_ | refine J.skipU rfl rfl rfl rfl ?_ | (refine J.unguard rfl rfl rfl ?_; refine J.lenS rfl Ty.u62 rfl rfl ?_)
  first | refine J.skip rfl rfl rfl rfl rfl ?_ | refine J.skipU rfl rfl rfl rfl ?_ | (refine J.unguard rfl rfl rfl ?_; refine J.bin rfl rfl rfl rfl ?_)
  (first | refine J.pickT rfl rfl rfl ?_ | refine J.pickF rfl rfl rfl ?_)
  refine J.move rfl rfl ?_
  first | refine J.skip rfl rfl rfl rfl rfl ?_ | refine J.skipU rfl rfl rfl rfl ?_ | (refine J.unguard rfl rfl rfl ?_; refine J.move rfl rfl ?_)
  first | refine J.skip rfl rfl rfl rfl rfl ?_ | refine J.skipU rfl rfl rfl rfl ?_ | (refine J.unguard rfl rfl rfl ?_; refine J.perm ([] ++ ((b3, cb (cE fx2) 34) :: (b2, cb (cE fx1) 34) :: (t1, tabO 1 m1) :: (m1, .map es3 ck3) :: [])) (.refl _) ?_; refine J.callS (α := Value × List (Nat × Obj)) (V := (·.1)) (Pr := fun x => Vec 34 51 x.1 ((ordE [fx1]).filter ownB).length (fE ((ordE [fx1]).filter ownB)) x.2) (L := (·.2)) (l1 := []) Ty.bd43 rfl rfl (fun w1 hw => own_spec t1 m1 1 ([fx1]) es3 ck3 w1 (hw.own _ (.tail _ (.tail _ (.head _)))) (hw.own _ (.tail _ (.tail _ (.tail _ (.head _))))) hT3 (by simp)) (fun x hvC => ?_); obtain ⟨vC, lvC⟩ := x; simp only at hvC ⊢; rw [own_fx] at hvC; obtain ⟨avC, cvC, rfl, hcvC⟩ := hvC.form; refine J.conseq (I' := St w [] ((b3, cb (cE fx2) 34) :: (b2, cb (cE fx1) 34) :: (t1, tabO 1 m1) :: (m1, .map es3 ck3) :: [])) ?_ (fun w1 hw => hw.drop (List.sublist_append_right _ _)))
  first | refine J.skip rfl rfl rfl rfl rfl ?_ | refine J.skipU rfl rfl rfl rfl ?_ | (refine J.unguard rfl rfl rfl ?_; refine J.lenS rfl Ty.u62 rfl rfl ?_)
  first | refine J.skip rfl rfl rfl rfl rfl ?_ | refine J.skipU rfl rfl rfl rfl ?_ | (refine J.unguard rfl rfl rfl ?_; refine J.bin rfl rfl rfl rfl ?_)
  (first | refine J.pickT rfl rfl rfl ?_ | refine J.pickF rfl rfl rfl ?_)
  refine J.assign rfl rfl ?_
  refine J.nil ?_
  refine JX.thenN (hK5 _ _ ?_)
  refine JC.ret ?_
  refine JX.ret1 rfl rfl (fun w hw => ?_)
  exact ⟨rfl, (hw.drop (List.nil_sublist _)).below⟩

end Go.Proofs.Ytpldpkdlloolkaa
