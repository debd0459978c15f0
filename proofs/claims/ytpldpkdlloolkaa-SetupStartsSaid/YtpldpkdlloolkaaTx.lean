/-
  The example at the head of layer 14's laws: walk.
-/
import Derived.Test.YtpldpkdlloolkaaTw
namespace Go.Proofs.Ytpldpkdlloolkaa
open Go.J Go.RowKit
set_option linter.unusedVariables false
set_option linter.unusedSimpArgs false
set_option maxRecDepth 8000
def idN (k : UInt8) : IDV := fun i => if i = 0 then k else 0
theorem idN_ne {a b : UInt8} (h : a ≠ b) : idN a ≠ idN b := fun e => h (by have := congrFun e 0; simpa [idN] using this)
theorem tadd_nil {most : Int} {x : EV} (h : rightP x) (hm : 0 < most) : tadd [] most x = (0, [x]) := by
  unfold tadd
  rw [if_neg (by simpa using h), if_neg (by simp [tget]), if_neg (by simp; omega)]
  rfl
abbrev P1 : PV := ⟨zI, 1⟩
abbrev W021 : List Int := [0, 2, 1]
abbrev OPS (k : Nat) : List Bool := List.replicate k true

theorem fixed14_spec (w : World) :
    Calls Try.prog 15 [].toArray w fun r w' => r = .returned (.bool true) ∧ Bel w w' := by
  refine calls_of_J (args := []) (e := []) Try.func15 rfl rfl trivial (St.start w) ?_
  refine JC.seq (fun K0 hK0 => ?_)
  refine JC.region ?_
  refine J.assign rfl rfl ?_
  refine J.nil ?_
  refine JX.thenN (hK0 _ _ ?_)
  refine JC.seq (fun K1 hK1 => ?_)
  refine JC.region ?_
  refine J.buildSl (cs := [bV true, bV true, bV true]) Ty.el28 Ty.s4 Ty.z4 rfl rfl rfl rfl (by kernel_rfl) rfl rfl (fun b9 => ?_)
  refine J.assign rfl rfl ?_
  refine J.nil ?_
  refine JX.thenN (hK1 _ _ ?_)
  refine JC.seq (fun K2 hK2 => ?_)
  refine JC.region ?_
  refine J.perm ([] ++ ((b9, cb [bV true, bV true, bV true] 4) :: [])) (.refl _) ?_
  refine J.callS (α := Nat × Nat) (V := fun x => .pointer (some ⟨x.1, 0, none⟩)) (Pr := fun _ => True) (L := fun x => [(x.1, tabO 4 x.2), (x.2, .map #[] 0)]) (l1 := []) Ty.bd16 rfl rfl (fun w1 hw => (new_spec 4 w1).mono fun _ _ ⟨x, h1, h2⟩ => ⟨x, h1, trivial, h2⟩) (fun x _ => ?_)
  obtain ⟨t2, m2⟩ := x
  simp only
  refine J.assign rfl rfl ?_
  refine J.nil ?_
  refine JX.thenN (hK2 _ _ ?_)
  refine JC.seq (fun K3 hK3 => ?_)
  refine JC.region ?_
  refine J.move rfl rfl ?_
  refine J.buildA (cs := cI (idN 1)) Ty.ar23 Ty.s5 Ty.z23 rfl (by kernel_rfl) rfl ?_
  refine J.buildS (cs := cW 0 (idN 1)) Ty.pl41 zW rfl (by kernel_rfl) rfl ?_
  refine J.buildS (cs := cP P1) Ty.pl25 Ty.z25 rfl (by kernel_rfl) rfl ?_
  refine J.buildA (cs := cI (idN 2)) Ty.ar23 Ty.s5 Ty.z23 rfl (by kernel_rfl) rfl ?_
  refine J.buildSl (cs := W021.map iV) Ty.el26 Ty.s3 Ty.z3 rfl rfl rfl rfl (by kernel_rfl) rfl rfl (fun b17 => ?_)
  refine J.move rfl rfl ?_
  refine J.perm ([(t2, tabO 4 m2), (m2, .map #[] 0)] ++ ((b17, cb (W021.map iV) 3) :: (b9, cb [bV true, bV true, bV true] 4) :: [])) (by (refine perm_cnt (fun _ => ?_)); simp only [cntB_append, cntB_cons, cntB_nil, Nat.add_zero, Nat.zero_add]; try ac_rfl) ?_
  refine J.callS (α := OutS) (V := fun x => .tuple #[.agg (cD (.slice (some ⟨x.h, 0, none⟩) 1 1) true false).toArray, .int .i64 0]) (Pr := fun x => Vec 3 1 (.slice x.a 3 x.c) 3 (W021.map iV) x.lp ∧ Tab [(⟨P1, idN 1, idN 2, -1, 2⟩ : EV)] x.es x.ck) (L := fun x => (x.h, cb (cH 2 (cF 4 P1 (idN 1) (idN 2) (.slice x.a 3 x.c))) 54) :: (x.lp ++ [(t2, tabO 4 m2), (m2, .map x.es x.ck)])) (l1 := [(t2, tabO 4 m2), (m2, .map #[] 0)]) Ty.bd18 rfl rfl
    (fun w1 hw => start_ok t2 m2 4 [] #[] 0 w1 hw.owns Tab.nil 0 2 (idN 1) (idN 2) P1 (okN_small (by decide) (by decide)) b17 0 3 [1] (Row.own hw (.tail _ (.tail _ (.head _))) rfl (Nat.le_refl _)) (Off.mk (hw.off (l1 := [(t2, tabO 4 m2), (m2, .map #[] 0)]) (.head _))) (by simp) (by decide) (idN_ne (by decide)) (.slice (some ⟨b9, 0, none⟩) 3 3) [true, true, true] (Row.own hw (.tail _ (.tail _ (.tail _ (.head _)))) rfl (Nat.le_refl _)) (Off.mk (hw.off (l1 := [(t2, tabO 4 m2), (m2, .map #[] 0)]) (.tail _ (.head _)))) (by simp) (by decide) (tadd_nil ⟨idN_ne (by decide), by decide, by decide, by decide⟩ (by decide))) (fun x hx => ?_)
  obtain ⟨h3, a3, c3, lp3, es3, ck3⟩ := x
  obtain ⟨hv3, _⟩ := hx
  simp only at hv3 ⊢
  refine J.conseq (I' := St w [] ((h3, cb (cH 2 (cF 4 P1 (idN 1) (idN 2) (.slice a3 3 c3))) 54) :: (b9, cb [bV true, bV true, bV true] 4) :: lp3)) ?_ (fun w1 hw => (hw.perm (l' := ((b17, cb (W021.map iV) 3) :: [(t2, tabO 4 m2), (m2, .map es3 ck3)]) ++ ((h3, cb (cH 2 (cF 4 P1 (idN 1) (idN 2) (.slice a3 3 c3))) 54) :: (b9, cb [bV true, bV true, bV true] 4) :: lp3)) (by (refine perm_cnt (fun _ => ?_)); simp only [cntB_append, cntB_cons, cntB_nil, Nat.add_zero, Nat.zero_add]; try ac_rfl)).drop (List.sublist_append_right _ _))
  refine J.move rfl rfl ?_
  refine J.extract rfl rfl rfl ?_
  refine J.extract rfl rfl rfl ?_
  refine J.alloc zN rfl rfl (fun b3 => ?_)
  refine J.storeW Ty.s37 rfl rfl rfl rfl rfl (by simp [Value.oneCell']) (by repeat first | exact .here | apply Up.there) ?_
  refine J.assign rfl rfl ?_
  refine J.nil ?_
  refine JX.thenN (hK3 _ _ ?_)
  refine JC.seq (fun K4 hK4 => ?_)
  refine JC.seq (fun K5 hK5 => ?_)
  refine JC.region ?_
  refine J.move rfl rfl ?_
  refine J.eqNil Ty.u29 rfl rfl rfl ?_
  refine J.move rfl rfl ?_
  first | refine J.skip rfl rfl rfl rfl rfl ?_ | refine J.skipU rfl rfl rfl rfl ?_ | (refine J.unguard rfl rfl rfl ?_; refine J.move rfl rfl ?_)
  first | refine J.skip rfl rfl rfl rfl rfl ?_ | refine J.skipU rfl rfl rfl rfl ?_ | (refine J.unguard rfl rfl rfl ?_; refine J.bin rfl rfl rfl rfl ?_)
  (first | refine J.pickT rfl rfl rfl ?_ | refine J.pickF rfl rfl rfl ?_)
  refine J.move rfl rfl ?_
  first | refine J.skip rfl rfl rfl rfl rfl ?_ | refine J.skipU rfl rfl rfl rfl ?_ | (refine J.unguard rfl rfl rfl ?_; refine J.fieldAddr Ty.fd37_0 rfl rfl ?_)
  first | refine J.skip rfl rfl rfl rfl rfl ?_ | refine J.skipU rfl rfl rfl rfl ?_ | (refine J.unguard rfl rfl rfl ?_; refine J.loadO Ty.a35 rfl (by repeat first | exact .head _ | apply List.Mem.tail | apply List.mem_append_right) (by exact rfl) rfl ?_)
  first | refine J.skip rfl rfl rfl rfl rfl ?_ | refine J.skipU rfl rfl rfl rfl ?_ | (refine J.unguard rfl rfl rfl ?_; refine J.lenS rfl Ty.u35 rfl rfl ?_)
  first | refine J.skip rfl rfl rfl rfl rfl ?_ | refine J.skipU rfl rfl rfl rfl ?_ | (refine J.unguard rfl rfl rfl ?_; refine J.bin rfl rfl rfl rfl ?_)
  (first | refine J.pickT rfl rfl rfl ?_ | refine J.pickF rfl rfl rfl ?_)
  refine J.move rfl rfl ?_
  first | refine J.skip rfl rfl rfl rfl rfl ?_ | refine J.skipU rfl rfl rfl rfl ?_ | (refine J.unguard rfl rfl rfl ?_; refine J.fieldAddr Ty.fd37_0 rfl rfl ?_)
  first | refine J.skip rfl rfl rfl rfl rfl ?_ | refine J.skipU rfl rfl rfl rfl ?_ | (refine J.unguard rfl rfl rfl ?_; refine J.loadO Ty.a35 rfl (by repeat first | exact .head _ | apply List.Mem.tail | apply List.mem_append_right) (by exact rfl) rfl ?_)
  first | refine J.skip rfl rfl rfl rfl rfl ?_ | refine J.skipU rfl rfl rfl rfl ?_ | (refine J.unguard rfl rfl rfl ?_; refine J.indexAddrS Ty.el35 Ty.s54 rfl rfl (by omega) (by omega) rfl ?_)
  first | refine J.skip rfl rfl rfl rfl rfl ?_ | refine J.skipU rfl rfl rfl rfl ?_ | (refine J.unguard rfl rfl rfl ?_; refine J.fieldAddr Ty.fd54_0 rfl rfl ?_)
  first | refine J.skip rfl rfl rfl rfl rfl ?_ | refine J.skipU rfl rfl rfl rfl ?_ | (refine J.unguard rfl rfl rfl ?_; refine J.loadO Ty.a3 rfl (by repeat first | exact .head _ | apply List.Mem.tail | apply List.mem_append_right) (by exact rfl) rfl ?_)
  first | refine J.skip rfl rfl rfl rfl rfl ?_ | refine J.skipU rfl rfl rfl rfl ?_ | (refine J.unguard rfl rfl rfl ?_; refine J.bin rfl rfl rfl rfl ?_)
  (first | refine J.pickT rfl rfl rfl ?_ | refine J.pickF rfl rfl rfl ?_)
  refine J.move rfl rfl ?_
  first | refine J.skip rfl rfl rfl rfl rfl ?_ | refine J.skipU rfl rfl rfl rfl ?_ | (refine J.unguard rfl rfl rfl ?_; refine J.fieldAddr Ty.fd37_1 rfl rfl ?_)
  first | refine J.skip rfl rfl rfl rfl rfl ?_ | refine J.skipU rfl rfl rfl rfl ?_ | (refine J.unguard rfl rfl rfl ?_; refine J.loadO Ty.a4 rfl (by repeat first | exact .head _ | apply List.Mem.tail | apply List.mem_append_right) (by exact rfl) rfl ?_)
  first | refine J.skip rfl rfl rfl rfl rfl ?_ | refine J.skipU rfl rfl rfl rfl ?_ | (refine J.unguard rfl rfl rfl ?_; refine J.not rfl rfl ?_)
  (first | refine J.pickT rfl rfl rfl ?_ | refine J.pickF rfl rfl rfl ?_)
  refine J.nil ?_
  refine JX.thenN (hK5 _ _ ?_)
  first | refine JC.condF rfl ?_ | refine JC.cond rfl (fun h => by first | (exfalso; simp at h; omega) | (simp at h)) (fun _ => ?_)
  refine JC.skip ?_
  refine JX.thenN (hK4 _ _ ?_)
  refine JC.seq (fun K6 hK6 => ?_)
  refine JC.region ?_
  refine J.perm ([] ++ ((b3, cb (cD (.slice (some ⟨h3, 0, none⟩) 1 1) true false) 37) :: (h3, cb (cH 2 (cF 4 P1 (idN 1) (idN 2) (.slice a3 3 c3))) 54) :: (b9, cb [bV true, bV true, bV true] 4) :: lp3)) (.refl _) ?_
  refine J.callS (α := Nat × Nat) (V := fun x => .pointer (some ⟨x.1, 0, none⟩)) (Pr := fun _ => True) (L := fun x => [(x.1, tabO 4 x.2), (x.2, .map #[] 0)]) (l1 := []) Ty.bd16 rfl rfl (fun w1 hw => (new_spec 4 w1).mono fun _ _ ⟨x, h1, h2⟩ => ⟨x, h1, trivial, h2⟩) (fun x _ => ?_)
  obtain ⟨t5, m5⟩ := x
  simp only
  refine J.assign rfl rfl ?_
  refine J.nil ?_
  refine JX.thenN (hK6 _ _ ?_)
  refine JC.seq (fun K7 hK7 => ?_)
  refine JC.region ?_
  refine J.move rfl rfl ?_
  refine J.buildA (cs := cI (idN 3)) Ty.ar23 Ty.s5 Ty.z23 rfl (by kernel_rfl) rfl ?_
  refine J.buildS (cs := cW 2 (idN 3)) Ty.pl41 zW rfl (by kernel_rfl) rfl ?_
  refine J.fieldAddr Ty.fd37_0 rfl rfl ?_
  refine J.loadO Ty.a35 rfl (by repeat first | exact .head _ | apply List.Mem.tail | apply List.mem_append_right) (by exact rfl) rfl ?_
  refine J.indexAddrS Ty.el35 Ty.s54 rfl rfl (by omega) (by omega) rfl ?_
  refine J.fieldAddr Ty.fd54_1 rfl rfl ?_
  refine J.loadOA (vs := cF 4 P1 (idN 1) (idN 2) (.slice a3 3 c3)) Ty.a52 Ty.s52 rfl (by repeat first | exact .head _ | apply List.Mem.tail | apply List.mem_append_right) (by exact rfl) rfl rfl ?_
  refine J.move rfl rfl ?_
  refine J.perm ([(t5, tabO 4 m5), (m5, .map #[] 0)] ++ ((b3, cb (cD (.slice (some ⟨h3, 0, none⟩) 1 1) true false) 37) :: (h3, cb (cH 2 (cF 4 P1 (idN 1) (idN 2) (.slice a3 3 c3))) 54) :: (b9, cb [bV true, bV true, bV true] 4) :: lp3)) (by (refine perm_cnt (fun _ => ?_)); simp only [cntB_append, cntB_cons, cntB_nil, Nat.add_zero, Nat.zero_add]; try ac_rfl) ?_
  refine J.callS (α := OutS) (V := fun x => .agg (cD (.slice (some ⟨x.h, 0, none⟩) 1 1) false false).toArray) (Pr := fun x => Vec 3 1 (.slice x.a 3 x.c) 3 (W021.map iV) x.lp ∧ Tab [(⟨P1, idN 1, idN 2, 0, 1⟩ : EV)] x.es x.ck) (L := fun x => (x.h, cb (cH 1 (cF 4 P1 (idN 1) (idN 2) (.slice x.a 3 x.c))) 54) :: (x.lp ++ [(t5, tabO 4 m5), (m5, .map x.es x.ck)])) (l1 := [(t5, tabO 4 m5), (m5, .map #[] 0)]) Ty.bd19 rfl rfl
    (fun w1 hw => take_on t5 m5 4 [] #[] 0 w1 hw.owns Tab.nil 2 0 (idN 3) (idN 1) (idN 2) P1 (okN_small (by decide) (by decide)) (okN_small (by decide) (by decide)) (.slice a3 3 c3) W021 (hv3.row (hw.perm (l' := lp3 ++ ([(t5, tabO 4 m5), (m5, .map #[] 0)] ++ ((b3, cb (cD (.slice (some ⟨h3, 0, none⟩) 1 1) true false) 37) :: (h3, cb (cH 2 (cF 4 P1 (idN 1) (idN 2) (.slice a3 3 c3))) 54) :: (b9, cb [bV true, bV true, bV true] 4) :: []))) (by (refine perm_cnt (fun _ => ?_)); simp only [cntB_append, cntB_cons, cntB_nil, Nat.add_zero, Nat.zero_add]; try ac_rfl))) (hv3.off (l1 := [(t5, tabO 4 m5), (m5, .map #[] 0)]) (hw.perm (l' := [(t5, tabO 4 m5), (m5, .map #[] 0)] ++ (lp3 ++ ((b3, cb (cD (.slice (some ⟨h3, 0, none⟩) 1 1) true false) 37) :: (h3, cb (cH 2 (cF 4 P1 (idN 1) (idN 2) (.slice a3 3 c3))) 54) :: (b9, cb [bV true, bV true, bV true] 4) :: []))) (by (refine perm_cnt (fun _ => ?_)); simp only [cntB_append, cntB_cons, cntB_nil, Nat.add_zero, Nat.zero_add]; try ac_rfl))) (by decide) 1 (by decide) (by decide) (by decide) rfl (by decide) (.slice (some ⟨b9, 0, none⟩) 3 3) [true, true, true] (Row.own hw (.tail _ (.tail _ (.tail _ (.tail _ (.head _))))) rfl (Nat.le_refl _)) (Off.mk (hw.off (l1 := [(t5, tabO 4 m5), (m5, .map #[] 0)]) (.tail _ (.tail _ (.head _))))) (by simp) 1 rfl (by decide) (tadd_nil ⟨idN_ne (by decide), by decide, by decide, by decide⟩ (by decide))) (fun x hx => ?_)
  obtain ⟨h6, a6, c6, lp6, es6, ck6⟩ := x
  obtain ⟨hv6, _⟩ := hx
  simp only at hv6 ⊢
  refine J.conseq (I' := St w [] ((h6, cb (cH 1 (cF 4 P1 (idN 1) (idN 2) (.slice a6 3 c6))) 54) :: (b3, cb (cD (.slice (some ⟨h3, 0, none⟩) 1 1) true false) 37) :: (h3, cb (cH 2 (cF 4 P1 (idN 1) (idN 2) (.slice a3 3 c3))) 54) :: (b9, cb [bV true, bV true, bV true] 4) :: (lp3 ++ lp6))) ?_ (fun w1 hw => (hw.perm (l' := [(t5, tabO 4 m5), (m5, .map es6 ck6)] ++ ((h6, cb (cH 1 (cF 4 P1 (idN 1) (idN 2) (.slice a6 3 c6))) 54) :: (b3, cb (cD (.slice (some ⟨h3, 0, none⟩) 1 1) true false) 37) :: (h3, cb (cH 2 (cF 4 P1 (idN 1) (idN 2) (.slice a3 3 c3))) 54) :: (b9, cb [bV true, bV true, bV true] 4) :: (lp3 ++ lp6))) (by (refine perm_cnt (fun _ => ?_)); simp only [cntB_append, cntB_cons, cntB_nil, Nat.add_zero, Nat.zero_add]; try ac_rfl)).drop (List.sublist_append_right _ _))
  refine J.alloc zN rfl rfl (fun b6 => ?_)
  refine J.storeW Ty.s37 rfl rfl rfl rfl rfl (by simp [Value.oneCell']) (by repeat first | exact .here | apply Up.there) ?_
  refine J.nil ?_
  refine JX.thenN (hK7 _ _ ?_)
  refine JC.seq (fun K8 hK8 => ?_)
  refine JC.seq (fun K9 hK9 => ?_)
  refine JC.region ?_
  refine J.fieldAddr Ty.fd37_0 rfl rfl ?_
  refine J.loadO Ty.a35 rfl (by repeat first | exact .head _ | apply List.Mem.tail | apply List.mem_append_right) (by exact rfl) rfl ?_
  refine J.lenS rfl Ty.u35 rfl rfl ?_
  refine J.bin rfl rfl rfl rfl ?_
  refine J.move rfl rfl ?_
  first | refine J.skip rfl rfl rfl rfl rfl ?_ | refine J.skipU rfl rfl rfl rfl ?_ | (refine J.unguard rfl rfl rfl ?_; refine J.fieldAddr Ty.fd37_0 rfl rfl ?_)
  first | refine J.skip rfl rfl rfl rfl rfl ?_ | refine J.skipU rfl rfl rfl rfl ?_ | (refine J.unguard rfl rfl rfl ?_; refine J.loadO Ty.a35 rfl (by repeat first | exact .head _ | apply List.Mem.tail | apply List.mem_append_right) (by exact rfl) rfl ?_)
  first | refine J.skip rfl rfl rfl rfl rfl ?_ | refine J.skipU rfl rfl rfl rfl ?_ | (refine J.unguard rfl rfl rfl ?_; refine J.indexAddrS Ty.el35 Ty.s54 rfl rfl (by omega) (by omega) rfl ?_)
  first | refine J.skip rfl rfl rfl rfl rfl ?_ | refine J.skipU rfl rfl rfl rfl ?_ | (refine J.unguard rfl rfl rfl ?_; refine J.fieldAddr Ty.fd54_0 rfl rfl ?_)
  first | refine J.skip rfl rfl rfl rfl rfl ?_ | refine J.skipU rfl rfl rfl rfl ?_ | (refine J.unguard rfl rfl rfl ?_; refine J.loadO Ty.a3 rfl (by repeat first | exact .head _ | apply List.Mem.tail | apply List.mem_append_right) (by exact rfl) rfl ?_)
  first | refine J.skip rfl rfl rfl rfl rfl ?_ | refine J.skipU rfl rfl rfl rfl ?_ | (refine J.unguard rfl rfl rfl ?_; refine J.bin rfl rfl rfl rfl ?_)
  (first | refine J.pickT rfl rfl rfl ?_ | refine J.pickF rfl rfl rfl ?_)
  refine J.move rfl rfl ?_
  first | refine J.skip rfl rfl rfl rfl rfl ?_ | refine J.skipU rfl rfl rfl rfl ?_ | (refine J.unguard rfl rfl rfl ?_; refine J.fieldAddr Ty.fd37_1 rfl rfl ?_)
  first | refine J.skip rfl rfl rfl rfl rfl ?_ | refine J.skipU rfl rfl rfl rfl ?_ | (refine J.unguard rfl rfl rfl ?_; refine J.loadO Ty.a4 rfl (by repeat first | exact .head _ | apply List.Mem.tail | apply List.mem_append_right) (by exact rfl) rfl ?_)
  (first | refine J.pickT rfl rfl rfl ?_ | refine J.pickF rfl rfl rfl ?_)
  refine J.nil ?_
  refine JX.thenN (hK9 _ _ ?_)
  first | refine JC.condF rfl ?_ | refine JC.cond rfl (fun h => by first | (exfalso; simp at h; omega) | (simp at h)) (fun _ => ?_)
  refine JC.skip ?_
  refine JX.thenN (hK8 _ _ ?_)
  refine JC.seq (fun K10 hK10 => ?_)
  apply JC.drawX (α := Nat × Nat × Array MapEntry × Nat × Nat) 11 (fun x => match x with | ⟨t1, m1, es1, ck1, xa⟩ => [.pointer (some ⟨t1, 0, none⟩), .agg (cI (idN 2)).toArray, .agg (cW 1 (idN 2)).toArray, .pointer (some ⟨b6, 0 + 0, none⟩), .slice (some ⟨h6, 0, none⟩) 1 1, .pointer (some ⟨h6, 0 + (0 : Int).toNat * 96, none⟩), .pointer (some ⟨h6, 0 + (0 : Int).toNat * 96 + 1, none⟩), .agg (cF 4 P1 (idN 1) (idN 2) (.slice a6 3 c6)).toArray, .slice (some ⟨b9, 0, none⟩) 3 3, .agg (cD nilV true false).toArray, .pointer (some ⟨xa, 0, none⟩)]) (fun m x => match x with | ⟨t1, m1, es1, ck1, xa⟩ => fun w1 => (m 9 = true → m 0 = true) ∧ St w [] ((b6, cb (cD (.slice (some ⟨h6, 0, none⟩) 1 1) false false) 37) :: (h6, cb (cH 1 (cF 4 P1 (idN 1) (idN 2) (.slice a6 3 c6))) 54) :: (b3, cb (cD (.slice (some ⟨h3, 0, none⟩) 1 1) true false) 37) :: (h3, cb (cH 2 (cF 4 P1 (idN 1) (idN 2) (.slice a3 3 c3))) 54) :: (b9, cb [bV true, bV true, bV true] 4) :: ((bif m 0 then (bif m 9 then [(t1, tabO 4 m1), (m1, .map es1 ck1)] else [(t1, tabO 4 m1), (m1, .map #[] 0)]) else []) ++ ((bif m 10 then [(xa, cb (cD nilV false false) 37)] else []) ++ (lp3 ++ lp6)))) w1) Ty.mixed rfl rfl rfl (by kernel_rfl) rfl rfl ?hinit ?hstep ?htail
  case hinit => exact fun w1 hw => ⟨(0, 0, #[], 0, 0), fun h => (by cases h), hw.drew⟩
  case hstep =>
    refine ⟨fun m x hm hp => ?_, fun m x hm hp => ?_, fun m x hm hp => ?_, fun m x hm hp => ?_, fun m x hm hp => ?_, fun m x hm hp => ?_, fun m x hm hp => ?_, fun m x hm hp => ?_, fun m x hm hp => ?_, fun m x hm hp => ?_, fun m x hm hp => ?_, trivial⟩
    · skip
      obtain ⟨t1, m1, es1, ck1, xa⟩ := x
      show J _ _ _ _ _ (_) _
      refine J.pr (fun hF => ?_)
      have h9 : m 9 = false := by cases h : m 9 with
        | false => rfl
        | true => rw [hF h] at hm; cases hm
      refine J.perm ([] ++ ((b6, cb (cD (.slice (some ⟨h6, 0, none⟩) 1 1) false false) 37) :: (h6, cb (cH 1 (cF 4 P1 (idN 1) (idN 2) (.slice a6 3 c6))) 54) :: (b3, cb (cD (.slice (some ⟨h3, 0, none⟩) 1 1) true false) 37) :: (h3, cb (cH 2 (cF 4 P1 (idN 1) (idN 2) (.slice a3 3 c3))) 54) :: (b9, cb [bV true, bV true, bV true] 4) :: ((bif m 0 then (bif m 9 then [(t1, tabO 4 m1), (m1, .map es1 ck1)] else [(t1, tabO 4 m1), (m1, .map #[] 0)]) else []) ++ ((bif m 10 then [(xa, cb (cD nilV false false) 37)] else []) ++ (lp3 ++ lp6))))) (.refl _) ?_
      refine J.callS (α := Nat × Nat) (V := fun x => .pointer (some ⟨x.1, 0, none⟩)) (Pr := fun _ => True) (L := fun x => [(x.1, tabO 4 x.2), (x.2, .map #[] 0)]) (l1 := []) Ty.bd16 rfl rfl (fun w1 hw => (new_spec 4 w1).mono fun _ _ ⟨x, h1, h2⟩ => ⟨x, h1, trivial, h2⟩) (fun x _ => ?_)
      obtain ⟨t0n, m0n⟩ := x
      simp only
      refine J.nil (JX.finB rfl (fun w1 hw => ⟨⟨⟨t0n, m0n, es1, ck1, xa⟩, rfl, fun j h1 h2 => ?_, ?_⟩, trivial⟩))
      · match j, h1 with
        | 0, _ => exact absurd (h2.symm.trans hm) (by decide)
        | 1, _ => (first | rfl | trivial)
        | 2, _ => (first | rfl | trivial)
        | 3, _ => (first | rfl | trivial)
        | 4, _ => (first | rfl | trivial)
        | 5, _ => (first | rfl | trivial)
        | 6, _ => (first | rfl | trivial)
        | 7, _ => (first | rfl | trivial)
        | 8, _ => (first | rfl | trivial)
        | 9, _ => (first | rfl | trivial)
        | 10, _ => (first | rfl | trivial)
        | j + 11, h1 => omega
      show (m 9 = true → true = true) ∧ St w [] ((b6, cb (cD (.slice (some ⟨h6, 0, none⟩) 1 1) false false) 37) :: (h6, cb (cH 1 (cF 4 P1 (idN 1) (idN 2) (.slice a6 3 c6))) 54) :: (b3, cb (cD (.slice (some ⟨h3, 0, none⟩) 1 1) true false) 37) :: (h3, cb (cH 2 (cF 4 P1 (idN 1) (idN 2) (.slice a3 3 c3))) 54) :: (b9, cb [bV true, bV true, bV true] 4) :: ((bif true then (bif m 9 then [(t0n, tabO 4 m0n), (m0n, .map es1 ck1)] else [(t0n, tabO 4 m0n), (m0n, .map #[] 0)]) else []) ++ ((bif m 10 then [(xa, cb (cD nilV false false) 37)] else []) ++ (lp3 ++ lp6)))) w1
      simp only [hm, h9, cond_true, cond_false] at hw ⊢
      exact ⟨fun _ => trivial, hw.perm (by (refine perm_cnt (fun _ => ?_)); simp only [cntB_append, cntB_cons, cntB_nil, Nat.add_zero, Nat.zero_add]; try ac_rfl)⟩
    · skip
      obtain ⟨t1, m1, es1, ck1, xa⟩ := x
      show J _ _ _ _ _ (_) _
      refine J.pr (fun hF => ?_)
      refine J.buildA (cs := cI (idN 2)) Ty.ar23 Ty.s5 Ty.z23 rfl (by kernel_rfl) rfl ?_
      exact J.finX rfl (fun _ hw => ⟨⟨t1, m1, es1, ck1, xa⟩, rfl, fun _ _ _ => rfl, hF, hw⟩)
    · skip
      obtain ⟨t1, m1, es1, ck1, xa⟩ := x
      show J _ _ _ _ _ ((75, .agg (cI (idN 2)).toArray) :: _) _
      refine J.pr (fun hF => ?_)
      refine J.buildS (cs := cW 1 (idN 2)) Ty.pl41 zW rfl (by kernel_rfl) rfl ?_
      exact J.finX rfl (fun _ hw => ⟨⟨t1, m1, es1, ck1, xa⟩, rfl, fun _ _ _ => rfl, hF, hw⟩)
    · skip
      obtain ⟨t1, m1, es1, ck1, xa⟩ := x
      show J _ _ _ _ _ (_) _
      refine J.pr (fun hF => ?_)
      refine J.fieldAddr Ty.fd37_0 rfl rfl ?_
      exact J.finX rfl (fun _ hw => ⟨⟨t1, m1, es1, ck1, xa⟩, rfl, fun _ _ _ => rfl, hF, hw⟩)
    · skip
      obtain ⟨t1, m1, es1, ck1, xa⟩ := x
      show J _ _ _ _ _ ((77, .pointer (some ⟨b6, 0 + 0, none⟩)) :: _) _
      refine J.pr (fun hF => ?_)
      refine J.loadO Ty.a35 rfl (by repeat first | exact .head _ | apply List.Mem.tail | apply List.mem_append_right) (by exact rfl) rfl ?_
      exact J.finX rfl (fun _ hw => ⟨⟨t1, m1, es1, ck1, xa⟩, rfl, fun _ _ _ => rfl, hF, hw⟩)
    · skip
      obtain ⟨t1, m1, es1, ck1, xa⟩ := x
      show J _ _ _ _ _ ((78, .slice (some ⟨h6, 0, none⟩) 1 1) :: _) _
      refine J.pr (fun hF => ?_)
      refine J.indexAddrS Ty.el35 Ty.s54 rfl rfl (by omega) (by omega) rfl ?_
      exact J.finX rfl (fun _ hw => ⟨⟨t1, m1, es1, ck1, xa⟩, rfl, fun _ _ _ => rfl, hF, hw⟩)
    · skip
      obtain ⟨t1, m1, es1, ck1, xa⟩ := x
      show J _ _ _ _ _ ((79, .pointer (some ⟨h6, 0 + (0 : Int).toNat * 96, none⟩)) :: _) _
      refine J.pr (fun hF => ?_)
      refine J.fieldAddr Ty.fd54_1 rfl rfl ?_
      exact J.finX rfl (fun _ hw => ⟨⟨t1, m1, es1, ck1, xa⟩, rfl, fun _ _ _ => rfl, hF, hw⟩)
    · skip
      obtain ⟨t1, m1, es1, ck1, xa⟩ := x
      show J _ _ _ _ _ ((80, .pointer (some ⟨h6, 0 + (0 : Int).toNat * 96 + 1, none⟩)) :: _) _
      refine J.pr (fun hF => ?_)
      refine J.loadOA (vs := cF 4 P1 (idN 1) (idN 2) (.slice a6 3 c6)) Ty.a52 Ty.s52 rfl (by repeat first | exact .head _ | apply List.Mem.tail | apply List.mem_append_right) (by exact rfl) rfl rfl ?_
      exact J.finX rfl (fun _ hw => ⟨⟨t1, m1, es1, ck1, xa⟩, rfl, fun _ _ _ => rfl, hF, hw⟩)
    · skip
      obtain ⟨t1, m1, es1, ck1, xa⟩ := x
      show J _ _ _ _ _ (_) _
      refine J.pr (fun hF => ?_)
      refine J.move rfl rfl ?_
      exact J.finX rfl (fun _ hw => ⟨⟨t1, m1, es1, ck1, xa⟩, rfl, fun _ _ _ => rfl, hF, hw⟩)
    · skip
      obtain ⟨t1, m1, es1, ck1, xa⟩ := x
      show J _ _ _ _ _ ((74, .pointer (some ⟨t1, 0, none⟩)) :: (82, .slice (some ⟨b9, 0, none⟩) 3 3) :: (81, .agg (cF 4 P1 (idN 1) (idN 2) (.slice a6 3 c6)).toArray) :: (76, .agg (cW 1 (idN 2)).toArray) :: (74, .pointer (some ⟨t1, 0, none⟩)) :: _) _
      have hp0 : m 0 = true := predsT hp (by kernel_rfl)
      have hp0 : m 0 = true := predsT hp (by kernel_rfl)
      refine J.pr (fun hF => ?_)
      refine J.conseq (I' := St w [] ([(t1, tabO 4 m1), (m1, .map #[] 0)] ++ ((b6, cb (cD (.slice (some ⟨h6, 0, none⟩) 1 1) false false) 37) :: (h6, cb (cH 1 (cF 4 P1 (idN 1) (idN 2) (.slice a6 3 c6))) 54) :: (b3, cb (cD (.slice (some ⟨h3, 0, none⟩) 1 1) true false) 37) :: (h3, cb (cH 2 (cF 4 P1 (idN 1) (idN 2) (.slice a3 3 c3))) 54) :: (b9, cb [bV true, bV true, bV true] 4) :: ((bif m 10 then [(xa, cb (cD nilV false false) 37)] else []) ++ (lp3 ++ lp6))))) ?_ (fun w1 hw => by simp only [hm, hp0, cond_true, cond_false] at hw; exact hw.perm (by (refine perm_cnt (fun _ => ?_)); simp only [cntB_append, cntB_cons, cntB_nil, Nat.add_zero, Nat.zero_add]; try ac_rfl))
      refine J.callS (α := Array MapEntry × Nat) (V := fun _ => .agg (cD nilV true false).toArray) (Pr := fun y => Tab [(⟨P1, idN 1, idN 2, 2, -1⟩ : EV)] y.1 y.2) (L := fun y => [(t1, tabO 4 m1), (m1, .map y.1 y.2)]) (l1 := [(t1, tabO 4 m1), (m1, .map #[] 0)]) Ty.bd19 rfl rfl
        (fun w1 hw => take_last t1 m1 4 [] #[] 0 w1 hw.owns Tab.nil 1 2 (idN 2) (idN 1) (idN 2) P1 (okN_small (by decide) (by decide)) (okN_small (by decide) (by decide)) (.slice a6 3 c6) W021 (hv6.row (hw.perm (l' := lp6 ++ ([(t1, tabO 4 m1), (m1, .map #[] 0)] ++ ((b6, cb (cD (.slice (some ⟨h6, 0, none⟩) 1 1) false false) 37) :: (h6, cb (cH 1 (cF 4 P1 (idN 1) (idN 2) (.slice a6 3 c6))) 54) :: (b3, cb (cD (.slice (some ⟨h3, 0, none⟩) 1 1) true false) 37) :: (h3, cb (cH 2 (cF 4 P1 (idN 1) (idN 2) (.slice a3 3 c3))) 54) :: (b9, cb [bV true, bV true, bV true] 4) :: ((bif m 10 then [(xa, cb (cD nilV false false) 37)] else []) ++ lp3)))) (by (refine perm_cnt (fun _ => ?_)); simp only [cntB_append, cntB_cons, cntB_nil, Nat.add_zero, Nat.zero_add]; try ac_rfl))) (hv6.off (l1 := [(t1, tabO 4 m1), (m1, .map #[] 0)]) (hw.perm (l' := [(t1, tabO 4 m1), (m1, .map #[] 0)] ++ (lp6 ++ ((b6, cb (cD (.slice (some ⟨h6, 0, none⟩) 1 1) false false) 37) :: (h6, cb (cH 1 (cF 4 P1 (idN 1) (idN 2) (.slice a6 3 c6))) 54) :: (b3, cb (cD (.slice (some ⟨h3, 0, none⟩) 1 1) true false) 37) :: (h3, cb (cH 2 (cF 4 P1 (idN 1) (idN 2) (.slice a3 3 c3))) 54) :: (b9, cb [bV true, bV true, bV true] 4) :: ((bif m 10 then [(xa, cb (cD nilV false false) 37)] else []) ++ lp3)))) (by (refine perm_cnt (fun _ => ?_)); simp only [cntB_append, cntB_cons, cntB_nil, Nat.add_zero, Nat.zero_add]; try ac_rfl))) (by decide) 2 (by decide) (by decide) (by decide) rfl (by decide) (.slice (some ⟨b9, 0, none⟩) 3 3) [true, true, true] (Row.own hw (.tail _ (.tail _ (.tail _ (.tail _ (.tail _ (.tail _ (.head _))))))) rfl (Nat.le_refl _)) (Off.mk (hw.off (l1 := [(t1, tabO 4 m1), (m1, .map #[] 0)]) (.tail _ (.tail _ (.tail _ (.tail _ (.head _))))))) (by simp) rfl rfl (tadd_nil ⟨idN_ne (by decide), by decide, by decide, by decide⟩ (by decide))) (fun y _ => ?_)
      obtain ⟨es9, ck9⟩ := y
      simp only
      refine J.nil (JX.finB rfl (fun w1 hw => ⟨⟨⟨t1, m1, es9, ck9, xa⟩, rfl, fun j h1 h2 => ?_, ?_⟩, trivial⟩))
      · match j, h1 with
        | 0, _ => (first | rfl | trivial)
        | 1, _ => (first | rfl | trivial)
        | 2, _ => (first | rfl | trivial)
        | 3, _ => (first | rfl | trivial)
        | 4, _ => (first | rfl | trivial)
        | 5, _ => (first | rfl | trivial)
        | 6, _ => (first | rfl | trivial)
        | 7, _ => (first | rfl | trivial)
        | 8, _ => (first | rfl | trivial)
        | 9, _ => (first | rfl | trivial)
        | 10, _ => (first | rfl | trivial)
        | j + 11, h1 => omega
      show (true = true → m 0 = true) ∧ St w [] ((b6, cb (cD (.slice (some ⟨h6, 0, none⟩) 1 1) false false) 37) :: (h6, cb (cH 1 (cF 4 P1 (idN 1) (idN 2) (.slice a6 3 c6))) 54) :: (b3, cb (cD (.slice (some ⟨h3, 0, none⟩) 1 1) true false) 37) :: (h3, cb (cH 2 (cF 4 P1 (idN 1) (idN 2) (.slice a3 3 c3))) 54) :: (b9, cb [bV true, bV true, bV true] 4) :: ((bif m 0 then (bif true then [(t1, tabO 4 m1), (m1, .map es9 ck9)] else [(t1, tabO 4 m1), (m1, .map #[] 0)]) else []) ++ ((bif m 10 then [(xa, cb (cD nilV false false) 37)] else []) ++ (lp3 ++ lp6)))) w1
      refine ⟨fun _ => hp0, ?_⟩
      simp only [hp0, cond_true]
      exact hw.perm (by (refine perm_cnt (fun _ => ?_)); simp only [cntB_append, cntB_cons, cntB_nil, Nat.add_zero, Nat.zero_add]; try ac_rfl)
    · skip
      obtain ⟨t1, m1, es1, ck1, xa⟩ := x
      show J _ _ _ _ _ (_) _
      refine J.pr (fun hF => ?_)
      refine J.alloc zN rfl rfl (fun b7 => ?_)
      refine J.nil (JX.finB rfl (fun w1 hw => ⟨⟨⟨t1, m1, es1, ck1, b7⟩, rfl, fun j h1 h2 => ?_, ?_⟩, trivial⟩))
      · match j, h1 with
        | 0, _ => (first | rfl | trivial)
        | 1, _ => (first | rfl | trivial)
        | 2, _ => (first | rfl | trivial)
        | 3, _ => (first | rfl | trivial)
        | 4, _ => (first | rfl | trivial)
        | 5, _ => (first | rfl | trivial)
        | 6, _ => (first | rfl | trivial)
        | 7, _ => (first | rfl | trivial)
        | 8, _ => (first | rfl | trivial)
        | 9, _ => (first | rfl | trivial)
        | 10, _ => exact absurd (h2.symm.trans hm) (by decide)
        | j + 11, h1 => omega
      show (m 9 = true → m 0 = true) ∧ St w [] ((b6, cb (cD (.slice (some ⟨h6, 0, none⟩) 1 1) false false) 37) :: (h6, cb (cH 1 (cF 4 P1 (idN 1) (idN 2) (.slice a6 3 c6))) 54) :: (b3, cb (cD (.slice (some ⟨h3, 0, none⟩) 1 1) true false) 37) :: (h3, cb (cH 2 (cF 4 P1 (idN 1) (idN 2) (.slice a3 3 c3))) 54) :: (b9, cb [bV true, bV true, bV true] 4) :: ((bif m 0 then (bif m 9 then [(t1, tabO 4 m1), (m1, .map es1 ck1)] else [(t1, tabO 4 m1), (m1, .map #[] 0)]) else []) ++ ((bif true then [(b7, cb (cD nilV false false) 37)] else []) ++ (lp3 ++ lp6)))) w1
      refine ⟨hF, ?_⟩
      simp only [hm, cond_true, cond_false] at hw ⊢
      exact hw.perm (by (refine perm_cnt (fun _ => ?_)); simp only [cntB_append, cntB_cons, cntB_nil, Nat.add_zero, Nat.zero_add]; try ac_rfl)
  case htail =>
    intro x
    obtain ⟨t1, m1, es1, ck1, xa⟩ := x
    show J _ _ _ _ _ ((7, .pointer (some ⟨xa, 0, none⟩)) :: (83, .agg (cD nilV true false).toArray) :: (82, .slice (some ⟨b9, 0, none⟩) 3 3) :: (81, .agg (cF 4 P1 (idN 1) (idN 2) (.slice a6 3 c6)).toArray) :: (80, .pointer (some ⟨h6, 0 + (0 : Int).toNat * 96 + 1, none⟩)) :: (79, .pointer (some ⟨h6, 0 + (0 : Int).toNat * 96, none⟩)) :: (78, .slice (some ⟨h6, 0, none⟩) 1 1) :: (77, .pointer (some ⟨b6, 0 + 0, none⟩)) :: (76, .agg (cW 1 (idN 2)).toArray) :: (75, .agg (cI (idN 2)).toArray) :: (74, .pointer (some ⟨t1, 0, none⟩)) :: _) (fun w1 => (true = true → true = true) ∧ St w [] ((b6, cb (cD (.slice (some ⟨h6, 0, none⟩) 1 1) false false) 37) :: (h6, cb (cH 1 (cF 4 P1 (idN 1) (idN 2) (.slice a6 3 c6))) 54) :: (b3, cb (cD (.slice (some ⟨h3, 0, none⟩) 1 1) true false) 37) :: (h3, cb (cH 2 (cF 4 P1 (idN 1) (idN 2) (.slice a3 3 c3))) 54) :: (b9, cb [bV true, bV true, bV true] 4) :: ((bif true then (bif true then [(t1, tabO 4 m1), (m1, .map es1 ck1)] else [(t1, tabO 4 m1), (m1, .map #[] 0)]) else []) ++ ((bif true then [(xa, cb (cD nilV false false) 37)] else []) ++ (lp3 ++ lp6)))) w1)
    refine J.pr (fun hF => ?_)
    refine J.conseq (I' := St w [] ((xa, cb (cD nilV false false) 37) :: (b6, cb (cD (.slice (some ⟨h6, 0, none⟩) 1 1) false false) 37) :: (h6, cb (cH 1 (cF 4 P1 (idN 1) (idN 2) (.slice a6 3 c6))) 54) :: (b3, cb (cD (.slice (some ⟨h3, 0, none⟩) 1 1) true false) 37) :: (h3, cb (cH 2 (cF 4 P1 (idN 1) (idN 2) (.slice a3 3 c3))) 54) :: (b9, cb [bV true, bV true, bV true] 4) :: (lp3 ++ lp6))) ?_ (fun w1 hw => by simp only [cond_true] at hw; exact (hw.perm (l' := [(t1, tabO 4 m1), (m1, .map es1 ck1)] ++ ((xa, cb (cD nilV false false) 37) :: (b6, cb (cD (.slice (some ⟨h6, 0, none⟩) 1 1) false false) 37) :: (h6, cb (cH 1 (cF 4 P1 (idN 1) (idN 2) (.slice a6 3 c6))) 54) :: (b3, cb (cD (.slice (some ⟨h3, 0, none⟩) 1 1) true false) 37) :: (h3, cb (cH 2 (cF 4 P1 (idN 1) (idN 2) (.slice a3 3 c3))) 54) :: (b9, cb [bV true, bV true, bV true] 4) :: (lp3 ++ lp6))) (by (refine perm_cnt (fun _ => ?_)); simp only [cntB_append, cntB_cons, cntB_nil, Nat.add_zero, Nat.zero_add]; try ac_rfl)).drop (List.sublist_append_right _ _))
    refine J.storeW Ty.s37 rfl rfl rfl rfl rfl (by simp [Value.oneCell']) (by repeat first | exact .here | apply Up.there) ?_
    refine J.nil ?_
    refine JX.thenN (hK10 _ _ ?_)
    refine JC.seq (fun K11 hK11 => ?_)
    apply JC.drawX (α := Nat × Nat × Nat × Nat) 10 (fun x => match x with | ⟨u1, n1, h8, xb⟩ => [.pointer (some ⟨u1, 0, none⟩), .agg (cI (idN 3)).toArray, .agg (cW 2 (idN 3)).toArray, .pointer (some ⟨b3, 0 + 0, none⟩), .slice (some ⟨h3, 0, none⟩) 1 1, .pointer (some ⟨h3, 0 + (0 : Int).toNat * 96, none⟩), .pointer (some ⟨h3, 0 + (0 : Int).toNat * 96 + 1, none⟩), .agg (cF 4 P1 (idN 1) (idN 2) (.slice a3 3 c3)).toArray, .agg (cD (.slice (some ⟨h8, 0, none⟩) 1 1) false false).toArray, .pointer (some ⟨xb, 0, none⟩)]) (fun m x => match x with | ⟨u1, n1, h8, xb⟩ => fun w1 => (m 8 = true → m 0 = true) ∧ St w [] ((xa, cb (cD nilV true false) 37) :: (b6, cb (cD (.slice (some ⟨h6, 0, none⟩) 1 1) false false) 37) :: (h6, cb (cH 1 (cF 4 P1 (idN 1) (idN 2) (.slice a6 3 c6))) 54) :: (b3, cb (cD (.slice (some ⟨h3, 0, none⟩) 1 1) true false) 37) :: (h3, cb (cH 2 (cF 4 P1 (idN 1) (idN 2) (.slice a3 3 c3))) 54) :: (b9, cb [bV true, bV true, bV true] 4) :: ((bif m 0 then [(u1, tabO 4 n1), (n1, .map #[] 0)] else []) ++ ((bif m 8 then [(h8, cb (cH 0 (cF 5 P1 zI zI nilV)) 54)] else []) ++ ((bif m 9 then [(xb, cb (cD nilV false false) 37)] else []) ++ (lp3 ++ lp6))))) w1) Ty.mixed rfl rfl rfl (by kernel_rfl) rfl rfl ?hinit ?hstep ?htail
    case hinit => exact fun w1 hw => ⟨(0, 0, 0, 0), fun h => (by cases h), hw.drew⟩
    case hstep =>
      refine ⟨fun m x hm hp => ?_, fun m x hm hp => ?_, fun m x hm hp => ?_, fun m x hm hp => ?_, fun m x hm hp => ?_, fun m x hm hp => ?_, fun m x hm hp => ?_, fun m x hm hp => ?_, fun m x hm hp => ?_, fun m x hm hp => ?_, trivial⟩
      · skip
        obtain ⟨u1, n1, h8, xb⟩ := x
        show J _ _ _ _ _ (_) _
        refine J.pr (fun hF => ?_)
        have h8f : m 8 = false := by cases h : m 8 with
          | false => rfl
          | true => rw [hF h] at hm; cases hm
        refine J.perm ([] ++ ((xa, cb (cD nilV true false) 37) :: (b6, cb (cD (.slice (some ⟨h6, 0, none⟩) 1 1) false false) 37) :: (h6, cb (cH 1 (cF 4 P1 (idN 1) (idN 2) (.slice a6 3 c6))) 54) :: (b3, cb (cD (.slice (some ⟨h3, 0, none⟩) 1 1) true false) 37) :: (h3, cb (cH 2 (cF 4 P1 (idN 1) (idN 2) (.slice a3 3 c3))) 54) :: (b9, cb [bV true, bV true, bV true] 4) :: ((bif m 0 then [(u1, tabO 4 n1), (n1, .map #[] 0)] else []) ++ ((bif m 8 then [(h8, cb (cH 0 (cF 5 P1 zI zI nilV)) 54)] else []) ++ ((bif m 9 then [(xb, cb (cD nilV false false) 37)] else []) ++ (lp3 ++ lp6)))))) (.refl _) ?_
        refine J.callS (α := Nat × Nat) (V := fun x => .pointer (some ⟨x.1, 0, none⟩)) (Pr := fun _ => True) (L := fun x => [(x.1, tabO 4 x.2), (x.2, .map #[] 0)]) (l1 := []) Ty.bd16 rfl rfl (fun w1 hw => (new_spec 4 w1).mono fun _ _ ⟨x, h1, h2⟩ => ⟨x, h1, trivial, h2⟩) (fun x _ => ?_)
        obtain ⟨t0n, m0n⟩ := x
        simp only
        refine J.nil (JX.finB rfl (fun w1 hw => ⟨⟨⟨t0n, m0n, h8, xb⟩, rfl, fun j h1 h2 => ?_, ?_⟩, trivial⟩))
        · match j, h1 with
          | 0, _ => exact absurd (h2.symm.trans hm) (by decide)
          | 1, _ => (first | rfl | trivial)
          | 2, _ => (first | rfl | trivial)
          | 3, _ => (first | rfl | trivial)
          | 4, _ => (first | rfl | trivial)
          | 5, _ => (first | rfl | trivial)
          | 6, _ => (first | rfl | trivial)
          | 7, _ => (first | rfl | trivial)
          | 8, _ => (first | rfl | trivial)
          | 9, _ => (first | rfl | trivial)
          | j + 10, h1 => omega
        show (m 8 = true → true = true) ∧ St w [] ((xa, cb (cD nilV true false) 37) :: (b6, cb (cD (.slice (some ⟨h6, 0, none⟩) 1 1) false false) 37) :: (h6, cb (cH 1 (cF 4 P1 (idN 1) (idN 2) (.slice a6 3 c6))) 54) :: (b3, cb (cD (.slice (some ⟨h3, 0, none⟩) 1 1) true false) 37) :: (h3, cb (cH 2 (cF 4 P1 (idN 1) (idN 2) (.slice a3 3 c3))) 54) :: (b9, cb [bV true, bV true, bV true] 4) :: ((bif true then [(t0n, tabO 4 m0n), (m0n, .map #[] 0)] else []) ++ ((bif m 8 then [(h8, cb (cH 0 (cF 5 P1 zI zI nilV)) 54)] else []) ++ ((bif m 9 then [(xb, cb (cD nilV false false) 37)] else []) ++ (lp3 ++ lp6))))) w1
        simp only [hm, h8f, cond_true, cond_false] at hw ⊢
        exact ⟨fun h => absurd h (by decide), hw.perm (by (refine perm_cnt (fun _ => ?_)); simp only [cntB_append, cntB_cons, cntB_nil, Nat.add_zero, Nat.zero_add]; try ac_rfl)⟩
      · skip
        obtain ⟨u1, n1, h8, xb⟩ := x
        show J _ _ _ _ _ (_) _
        refine J.pr (fun hF => ?_)
        refine J.buildA (cs := cI (idN 3)) Ty.ar23 Ty.s5 Ty.z23 rfl (by kernel_rfl) rfl ?_
        exact J.finX rfl (fun _ hw => ⟨⟨u1, n1, h8, xb⟩, rfl, fun _ _ _ => rfl, hF, hw⟩)
      · skip
        obtain ⟨u1, n1, h8, xb⟩ := x
        show J _ _ _ _ _ ((85, .agg (cI (idN 3)).toArray) :: _) _
        refine J.pr (fun hF => ?_)
        refine J.buildS (cs := cW 2 (idN 3)) Ty.pl41 zW rfl (by kernel_rfl) rfl ?_
        exact J.finX rfl (fun _ hw => ⟨⟨u1, n1, h8, xb⟩, rfl, fun _ _ _ => rfl, hF, hw⟩)
      · skip
        obtain ⟨u1, n1, h8, xb⟩ := x
        show J _ _ _ _ _ (_) _
        refine J.pr (fun hF => ?_)
        refine J.fieldAddr Ty.fd37_0 rfl rfl ?_
        exact J.finX rfl (fun _ hw => ⟨⟨u1, n1, h8, xb⟩, rfl, fun _ _ _ => rfl, hF, hw⟩)
      · skip
        obtain ⟨u1, n1, h8, xb⟩ := x
        show J _ _ _ _ _ ((87, .pointer (some ⟨b3, 0 + 0, none⟩)) :: _) _
        refine J.pr (fun hF => ?_)
        refine J.loadO Ty.a35 rfl (by repeat first | exact .head _ | apply List.Mem.tail | apply List.mem_append_right) (by exact rfl) rfl ?_
        exact J.finX rfl (fun _ hw => ⟨⟨u1, n1, h8, xb⟩, rfl, fun _ _ _ => rfl, hF, hw⟩)
      · skip
        obtain ⟨u1, n1, h8, xb⟩ := x
        show J _ _ _ _ _ ((88, .slice (some ⟨h3, 0, none⟩) 1 1) :: _) _
        refine J.pr (fun hF => ?_)
        refine J.indexAddrS Ty.el35 Ty.s54 rfl rfl (by omega) (by omega) rfl ?_
        exact J.finX rfl (fun _ hw => ⟨⟨u1, n1, h8, xb⟩, rfl, fun _ _ _ => rfl, hF, hw⟩)
      · skip
        obtain ⟨u1, n1, h8, xb⟩ := x
        show J _ _ _ _ _ ((89, .pointer (some ⟨h3, 0 + (0 : Int).toNat * 96, none⟩)) :: _) _
        refine J.pr (fun hF => ?_)
        refine J.fieldAddr Ty.fd54_1 rfl rfl ?_
        exact J.finX rfl (fun _ hw => ⟨⟨u1, n1, h8, xb⟩, rfl, fun _ _ _ => rfl, hF, hw⟩)
      · skip
        obtain ⟨u1, n1, h8, xb⟩ := x
        show J _ _ _ _ _ ((90, .pointer (some ⟨h3, 0 + (0 : Int).toNat * 96 + 1, none⟩)) :: _) _
        refine J.pr (fun hF => ?_)
        refine J.loadOA (vs := cF 4 P1 (idN 1) (idN 2) (.slice a3 3 c3)) Ty.a52 Ty.s52 rfl (by repeat first | exact .head _ | apply List.Mem.tail | apply List.mem_append_right) (by exact rfl) rfl rfl ?_
        exact J.finX rfl (fun _ hw => ⟨⟨u1, n1, h8, xb⟩, rfl, fun _ _ _ => rfl, hF, hw⟩)
      · skip
        obtain ⟨u1, n1, h8, xb⟩ := x
        show J _ _ _ _ _ ((84, .pointer (some ⟨u1, 0, none⟩)) :: (91, .agg (cF 4 P1 (idN 1) (idN 2) (.slice a3 3 c3)).toArray) :: (86, .agg (cW 2 (idN 3)).toArray) :: (84, .pointer (some ⟨u1, 0, none⟩)) :: _) _
        have hp0 : m 0 = true := predsT hp (by kernel_rfl)
        have hp0 : m 0 = true := predsT hp (by kernel_rfl)
        refine J.pr (fun hF => ?_)
        refine J.conseq (I' := St w [] ([(u1, tabO 4 n1), (n1, .map #[] 0)] ++ ((xa, cb (cD nilV true false) 37) :: (b6, cb (cD (.slice (some ⟨h6, 0, none⟩) 1 1) false false) 37) :: (h6, cb (cH 1 (cF 4 P1 (idN 1) (idN 2) (.slice a6 3 c6))) 54) :: (b3, cb (cD (.slice (some ⟨h3, 0, none⟩) 1 1) true false) 37) :: (h3, cb (cH 2 (cF 4 P1 (idN 1) (idN 2) (.slice a3 3 c3))) 54) :: (b9, cb [bV true, bV true, bV true] 4) :: ((bif m 9 then [(xb, cb (cD nilV false false) 37)] else []) ++ (lp3 ++ lp6))))) ?_ (fun w1 hw => by simp only [hm, hp0, cond_true, cond_false] at hw; exact hw.perm (by (refine perm_cnt (fun _ => ?_)); simp only [cntB_append, cntB_cons, cntB_nil, Nat.add_zero, Nat.zero_add]; try ac_rfl))
        refine J.callS (α := Nat) (V := fun x => .agg (cD (.slice (some ⟨x, 0, none⟩) 1 1) false false).toArray) (Pr := fun _ => True) (L := fun x => (x, cb (cH 0 (cF 5 P1 zI zI nilV)) 54) :: [(u1, tabO 4 n1), (n1, .map #[] 0)]) (l1 := [(u1, tabO 4 n1), (n1, .map #[] 0)]) Ty.bd19 rfl rfl
          (fun w1 hw => (take_shut u1 n1 4 [] #[] 0 w1 hw.owns Tab.nil 2 0 (idN 3) (idN 1) (idN 2) P1 (okN_small (by decide) (by decide)) (okN_small (by decide) (by decide)) (.slice a3 3 c3) W021 (hv3.row (hw.perm (l' := lp3 ++ ([(u1, tabO 4 n1), (n1, .map #[] 0)] ++ ((xa, cb (cD nilV true false) 37) :: (b6, cb (cD (.slice (some ⟨h6, 0, none⟩) 1 1) false false) 37) :: (h6, cb (cH 1 (cF 4 P1 (idN 1) (idN 2) (.slice a6 3 c6))) 54) :: (b3, cb (cD (.slice (some ⟨h3, 0, none⟩) 1 1) true false) 37) :: (h3, cb (cH 2 (cF 4 P1 (idN 1) (idN 2) (.slice a3 3 c3))) 54) :: (b9, cb [bV true, bV true, bV true] 4) :: ((bif m 9 then [(xb, cb (cD nilV false false) 37)] else []) ++ lp6)))) (by (refine perm_cnt (fun _ => ?_)); simp only [cntB_append, cntB_cons, cntB_nil, Nat.add_zero, Nat.zero_add]; try ac_rfl))) (hv3.off (l1 := [(u1, tabO 4 n1), (n1, .map #[] 0)]) (hw.perm (l' := [(u1, tabO 4 n1), (n1, .map #[] 0)] ++ (lp3 ++ ((xa, cb (cD nilV true false) 37) :: (b6, cb (cD (.slice (some ⟨h6, 0, none⟩) 1 1) false false) 37) :: (h6, cb (cH 1 (cF 4 P1 (idN 1) (idN 2) (.slice a6 3 c6))) 54) :: (b3, cb (cD (.slice (some ⟨h3, 0, none⟩) 1 1) true false) 37) :: (h3, cb (cH 2 (cF 4 P1 (idN 1) (idN 2) (.slice a3 3 c3))) 54) :: (b9, cb [bV true, bV true, bV true] 4) :: ((bif m 9 then [(xb, cb (cD nilV false false) 37)] else []) ++ lp6)))) (by (refine perm_cnt (fun _ => ?_)); simp only [cntB_append, cntB_cons, cntB_nil, Nat.add_zero, Nat.zero_add]; try ac_rfl))) (by decide) 1 (by decide) (by decide) (by decide) rfl (by decide) nilV [] ⟨none, 0, rfl, Nat.le_refl _, .inl rfl⟩ (.inl rfl) (by simp) 1 rfl (by decide)).mono fun _ _ ⟨x, h1, h2⟩ => ⟨x, h1, trivial, h2⟩) (fun h8n _ => ?_)
        refine J.nil (JX.finB rfl (fun w1 hw => ⟨⟨⟨u1, n1, h8n, xb⟩, rfl, fun j h1 h2 => ?_, ?_⟩, trivial⟩))
        · match j, h1 with
          | 0, _ => (first | rfl | trivial)
          | 1, _ => (first | rfl | trivial)
          | 2, _ => (first | rfl | trivial)
          | 3, _ => (first | rfl | trivial)
          | 4, _ => (first | rfl | trivial)
          | 5, _ => (first | rfl | trivial)
          | 6, _ => (first | rfl | trivial)
          | 7, _ => (first | rfl | trivial)
          | 8, _ => exact absurd (h2.symm.trans hm) (by decide)
          | 9, _ => (first | rfl | trivial)
          | j + 10, h1 => omega
        show (true = true → m 0 = true) ∧ St w [] ((xa, cb (cD nilV true false) 37) :: (b6, cb (cD (.slice (some ⟨h6, 0, none⟩) 1 1) false false) 37) :: (h6, cb (cH 1 (cF 4 P1 (idN 1) (idN 2) (.slice a6 3 c6))) 54) :: (b3, cb (cD (.slice (some ⟨h3, 0, none⟩) 1 1) true false) 37) :: (h3, cb (cH 2 (cF 4 P1 (idN 1) (idN 2) (.slice a3 3 c3))) 54) :: (b9, cb [bV true, bV true, bV true] 4) :: ((bif m 0 then [(u1, tabO 4 n1), (n1, .map #[] 0)] else []) ++ ((bif true then [(h8n, cb (cH 0 (cF 5 P1 zI zI nilV)) 54)] else []) ++ ((bif m 9 then [(xb, cb (cD nilV false false) 37)] else []) ++ (lp3 ++ lp6))))) w1
        refine ⟨fun _ => hp0, ?_⟩
        simp only [hp0, cond_true]
        exact hw.perm (by (refine perm_cnt (fun _ => ?_)); simp only [cntB_append, cntB_cons, cntB_nil, Nat.add_zero, Nat.zero_add]; try ac_rfl)
      · skip
        obtain ⟨u1, n1, h8, xb⟩ := x
        show J _ _ _ _ _ (_) _
        refine J.pr (fun hF => ?_)
        refine J.alloc zN rfl rfl (fun b8 => ?_)
        refine J.nil (JX.finB rfl (fun w1 hw => ⟨⟨⟨u1, n1, h8, b8⟩, rfl, fun j h1 h2 => ?_, ?_⟩, trivial⟩))
        · match j, h1 with
          | 0, _ => (first | rfl | trivial)
          | 1, _ => (first | rfl | trivial)
          | 2, _ => (first | rfl | trivial)
          | 3, _ => (first | rfl | trivial)
          | 4, _ => (first | rfl | trivial)
          | 5, _ => (first | rfl | trivial)
          | 6, _ => (first | rfl | trivial)
          | 7, _ => (first | rfl | trivial)
          | 8, _ => (first | rfl | trivial)
          | 9, _ => exact absurd (h2.symm.trans hm) (by decide)
          | j + 10, h1 => omega
        show (m 8 = true → m 0 = true) ∧ St w [] ((xa, cb (cD nilV true false) 37) :: (b6, cb (cD (.slice (some ⟨h6, 0, none⟩) 1 1) false false) 37) :: (h6, cb (cH 1 (cF 4 P1 (idN 1) (idN 2) (.slice a6 3 c6))) 54) :: (b3, cb (cD (.slice (some ⟨h3, 0, none⟩) 1 1) true false) 37) :: (h3, cb (cH 2 (cF 4 P1 (idN 1) (idN 2) (.slice a3 3 c3))) 54) :: (b9, cb [bV true, bV true, bV true] 4) :: ((bif m 0 then [(u1, tabO 4 n1), (n1, .map #[] 0)] else []) ++ ((bif m 8 then [(h8, cb (cH 0 (cF 5 P1 zI zI nilV)) 54)] else []) ++ ((bif true then [(b8, cb (cD nilV false false) 37)] else []) ++ (lp3 ++ lp6))))) w1
        refine ⟨hF, ?_⟩
        simp only [hm, cond_true, cond_false] at hw ⊢
        exact hw.perm (by (refine perm_cnt (fun _ => ?_)); simp only [cntB_append, cntB_cons, cntB_nil, Nat.add_zero, Nat.zero_add]; try ac_rfl)
    case htail =>
      intro x
      obtain ⟨u1, n1, h8, xb⟩ := x
      show J _ _ _ _ _ ((8, .pointer (some ⟨xb, 0, none⟩)) :: (92, .agg (cD (.slice (some ⟨h8, 0, none⟩) 1 1) false false).toArray) :: (91, .agg (cF 4 P1 (idN 1) (idN 2) (.slice a3 3 c3)).toArray) :: (90, .pointer (some ⟨h3, 0 + (0 : Int).toNat * 96 + 1, none⟩)) :: (89, .pointer (some ⟨h3, 0 + (0 : Int).toNat * 96, none⟩)) :: (88, .slice (some ⟨h3, 0, none⟩) 1 1) :: (87, .pointer (some ⟨b3, 0 + 0, none⟩)) :: (86, .agg (cW 2 (idN 3)).toArray) :: (85, .agg (cI (idN 3)).toArray) :: (84, .pointer (some ⟨u1, 0, none⟩)) :: _) (fun w1 => (true = true → true = true) ∧ St w [] ((xa, cb (cD nilV true false) 37) :: (b6, cb (cD (.slice (some ⟨h6, 0, none⟩) 1 1) false false) 37) :: (h6, cb (cH 1 (cF 4 P1 (idN 1) (idN 2) (.slice a6 3 c6))) 54) :: (b3, cb (cD (.slice (some ⟨h3, 0, none⟩) 1 1) true false) 37) :: (h3, cb (cH 2 (cF 4 P1 (idN 1) (idN 2) (.slice a3 3 c3))) 54) :: (b9, cb [bV true, bV true, bV true] 4) :: ((bif true then [(u1, tabO 4 n1), (n1, .map #[] 0)] else []) ++ ((bif true then [(h8, cb (cH 0 (cF 5 P1 zI zI nilV)) 54)] else []) ++ ((bif true then [(xb, cb (cD nilV false false) 37)] else []) ++ (lp3 ++ lp6))))) w1)
      refine J.pr (fun hF => ?_)
      refine J.conseq (I' := St w [] ((xb, cb (cD nilV false false) 37) :: (h8, cb (cH 0 (cF 5 P1 zI zI nilV)) 54) :: (xa, cb (cD nilV true false) 37) :: (b6, cb (cD (.slice (some ⟨h6, 0, none⟩) 1 1) false false) 37) :: (h6, cb (cH 1 (cF 4 P1 (idN 1) (idN 2) (.slice a6 3 c6))) 54) :: (b3, cb (cD (.slice (some ⟨h3, 0, none⟩) 1 1) true false) 37) :: (h3, cb (cH 2 (cF 4 P1 (idN 1) (idN 2) (.slice a3 3 c3))) 54) :: (b9, cb [bV true, bV true, bV true] 4) :: (lp3 ++ lp6))) ?_ (fun w1 hw => by simp only [cond_true] at hw; exact (hw.perm (l' := [(u1, tabO 4 n1), (n1, .map #[] 0)] ++ ((xb, cb (cD nilV false false) 37) :: (h8, cb (cH 0 (cF 5 P1 zI zI nilV)) 54) :: (xa, cb (cD nilV true false) 37) :: (b6, cb (cD (.slice (some ⟨h6, 0, none⟩) 1 1) false false) 37) :: (h6, cb (cH 1 (cF 4 P1 (idN 1) (idN 2) (.slice a6 3 c6))) 54) :: (b3, cb (cD (.slice (some ⟨h3, 0, none⟩) 1 1) true false) 37) :: (h3, cb (cH 2 (cF 4 P1 (idN 1) (idN 2) (.slice a3 3 c3))) 54) :: (b9, cb [bV true, bV true, bV true] 4) :: (lp3 ++ lp6))) (by (refine perm_cnt (fun _ => ?_)); simp only [cntB_append, cntB_cons, cntB_nil, Nat.add_zero, Nat.zero_add]; try ac_rfl)).drop (List.sublist_append_right _ _))
      refine J.storeW Ty.s37 rfl rfl rfl rfl rfl (by simp [Value.oneCell']) (by repeat first | exact .here | apply Up.there) ?_
      refine J.nil ?_
      refine JX.thenN (hK11 _ _ ?_)
      refine JC.seq (fun K12 hK12 => ?_)
      refine JC.region ?_
      refine J.fieldAddr Ty.fd37_1 rfl rfl ?_
      refine J.loadO Ty.a4 rfl (by repeat first | exact .head _ | apply List.Mem.tail | apply List.mem_append_right) (by exact rfl) rfl ?_
      refine J.move rfl rfl ?_
      first | refine J.skip rfl rfl rfl rfl rfl ?_ | refine J.skipU rfl rfl rfl rfl ?_ | (refine J.unguard rfl rfl rfl ?_; refine J.fieldAddr Ty.fd37_0 rfl rfl ?_)
      first | refine J.skip rfl rfl rfl rfl rfl ?_ | refine J.skipU rfl rfl rfl rfl ?_ | (refine J.unguard rfl rfl rfl ?_; refine J.loadO Ty.a35 rfl (by repeat first | exact .head _ | apply List.Mem.tail | apply List.mem_append_right) (by exact rfl) rfl ?_)
      first | refine J.skip rfl rfl rfl rfl rfl ?_ | refine J.skipU rfl rfl rfl rfl ?_ | (refine J.unguard rfl rfl rfl ?_; refine J.lenS rfl Ty.u35 rfl rfl ?_)
      first | refine J.skip rfl rfl rfl rfl rfl ?_ | refine J.skipU rfl rfl rfl rfl ?_ | (refine J.unguard rfl rfl rfl ?_; refine J.bin rfl rfl rfl rfl ?_)
      (first | refine J.pickT rfl rfl rfl ?_ | refine J.pickF rfl rfl rfl ?_)
      refine J.move rfl rfl ?_
      first | refine J.skip rfl rfl rfl rfl rfl ?_ | refine J.skipU rfl rfl rfl rfl ?_ | (refine J.unguard rfl rfl rfl ?_; refine J.fieldAddr Ty.fd37_0 rfl rfl ?_)
      first | refine J.skip rfl rfl rfl rfl rfl ?_ | refine J.skipU rfl rfl rfl rfl ?_ | (refine J.unguard rfl rfl rfl ?_; refine J.loadO Ty.a35 rfl (by repeat first | exact .head _ | apply List.Mem.tail | apply List.mem_append_right) (by exact rfl) rfl ?_)
      first | refine J.skip rfl rfl rfl rfl rfl ?_ | refine J.skipU rfl rfl rfl rfl ?_ | (refine J.unguard rfl rfl rfl ?_; refine J.lenS rfl Ty.u35 rfl rfl ?_)
      first | refine J.skip rfl rfl rfl rfl rfl ?_ | refine J.skipU rfl rfl rfl rfl ?_ | (refine J.unguard rfl rfl rfl ?_; refine J.bin rfl rfl rfl rfl ?_)
      (first | refine J.pickT rfl rfl rfl ?_ | refine J.pickF rfl rfl rfl ?_)
      refine J.move rfl rfl ?_
      first | refine J.skip rfl rfl rfl rfl rfl ?_ | refine J.skipU rfl rfl rfl rfl ?_ | (refine J.unguard rfl rfl rfl ?_; refine J.fieldAddr Ty.fd37_0 rfl rfl ?_)
      first | refine J.skip rfl rfl rfl rfl rfl ?_ | refine J.skipU rfl rfl rfl rfl ?_ | (refine J.unguard rfl rfl rfl ?_; refine J.loadO Ty.a35 rfl (by repeat first | exact .head _ | apply List.Mem.tail | apply List.mem_append_right) (by exact rfl) rfl ?_)
      first | refine J.skip rfl rfl rfl rfl rfl ?_ | refine J.skipU rfl rfl rfl rfl ?_ | (refine J.unguard rfl rfl rfl ?_; refine J.indexAddrS Ty.el35 Ty.s54 rfl rfl (by omega) (by omega) rfl ?_)
      first | refine J.skip rfl rfl rfl rfl rfl ?_ | refine J.skipU rfl rfl rfl rfl ?_ | (refine J.unguard rfl rfl rfl ?_; refine J.fieldAddr Ty.fd54_0 rfl rfl ?_)
      first | refine J.skip rfl rfl rfl rfl rfl ?_ | refine J.skipU rfl rfl rfl rfl ?_ | (refine J.unguard rfl rfl rfl ?_; refine J.loadO Ty.a3 rfl (by repeat first | exact .head _ | apply List.Mem.tail | apply List.mem_append_right) (by exact rfl) rfl ?_)
      first | refine J.skip rfl rfl rfl rfl rfl ?_ | refine J.skipU rfl rfl rfl rfl ?_ | (refine J.unguard rfl rfl rfl ?_; refine J.bin rfl rfl rfl rfl ?_)
      (first | refine J.pickT rfl rfl rfl ?_ | refine J.pickF rfl rfl rfl ?_)
      refine J.move rfl rfl ?_
      first | refine J.skip rfl rfl rfl rfl rfl ?_ | refine J.skipU rfl rfl rfl rfl ?_ | (refine J.unguard rfl rfl rfl ?_; refine J.fieldAddr Ty.fd37_0 rfl rfl ?_)
      first | refine J.skip rfl rfl rfl rfl rfl ?_ | refine J.skipU rfl rfl rfl rfl ?_ | (refine J.unguard rfl rfl rfl ?_; refine J.loadO Ty.a35 rfl (by repeat first | exact .head _ | apply List.Mem.tail | apply List.mem_append_right) (by exact rfl) rfl ?_)
      first | refine J.skip rfl rfl rfl rfl rfl ?_ | refine J.skipU rfl rfl rfl rfl ?_ | (refine J.unguard rfl rfl rfl ?_; refine J.indexAddrS Ty.el35 Ty.s54 rfl rfl (by omega) (by omega) rfl ?_)
      first | refine J.skip rfl rfl rfl rfl rfl ?_ | refine J.skipU rfl rfl rfl rfl ?_ | (refine J.unguard rfl rfl rfl ?_; refine J.fieldAddr Ty.fd54_1 rfl rfl ?_)
      first | refine J.skip rfl rfl rfl rfl rfl ?_ | refine J.skipU rfl rfl rfl rfl ?_ | (refine J.unguard rfl rfl rfl ?_; refine J.fieldAddr Ty.fd52_0 rfl rfl ?_)
      first | refine J.skip rfl rfl rfl rfl rfl ?_ | refine J.skipU rfl rfl rfl rfl ?_ | (refine J.unguard rfl rfl rfl ?_; refine J.loadO Ty.a3 rfl (by repeat first | exact .head _ | apply List.Mem.tail | apply List.mem_append_right) (by exact rfl) rfl ?_)
      first | refine J.skip rfl rfl rfl rfl rfl ?_ | refine J.skipU rfl rfl rfl rfl ?_ | (refine J.unguard rfl rfl rfl ?_; refine J.bin rfl rfl rfl rfl ?_)
      (first | refine J.pickT rfl rfl rfl ?_ | refine J.pickF rfl rfl rfl ?_)
      refine J.assign rfl rfl ?_
      refine J.nil ?_
      refine JX.thenN (hK12 _ _ ?_)
      refine JC.ret ?_
      refine JX.ret1 rfl rfl (fun w hw => ?_)
      exact ⟨rfl, hw.below⟩

end Go.Proofs.Ytpldpkdlloolkaa
