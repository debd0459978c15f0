/-
  SetupAdds: texts that its proof needs, part 4.
-/
import Derived.Test.YtpldpkdlloolkaaZSetupAddsc
/-
  A Setup comes: what setup.Take does where it hands it on: contracts.
-/
namespace Go.Proofs.Ytpldpkdlloolkaa
open Go.J Go.RowKit
set_option linter.unusedVariables false
set_option linter.unusedSimpArgs false
set_option maxRecDepth 8000

theorem gtake_onfull (t mb : Nat) (most : Int) (L : List EV) (es : Array MapEntry) (clock : Nat) (w : World) (hw0 : Own w [(t, tabO most mb), (mb, .map es clock)]) (hT : Tab L es clock) (n fr : Int) (id a b : IDV) (p : PV) (hp : okN p.n) (hfr : okN fr) (f : FV) (s : FSl) (hs : FRows w f s) (hso : FOff [t, mb] f s) (hg : BigF f) (hk : f.k = 4) (hpe : f.p = p) (hae : f.a = a) (hbe : f.b = b) (way : List Int) (hwe : f.tr = way) (hlen : way.length < 1099511627776) (i : Nat) (hi : 1 ≤ i) (hi2 : i < way.length) (hat : placeP way n = (i : Int)) (hfrom : way[i - 1]? = some fr) (hnd : way.Nodup) (ov : Value) (os : List Bool) (hro : Row w ov os.length (os.map bV)) (hoffo : Off [t, mb] ov (os.map bV)) (hlo : os.length < 4611686018427387904) (nx : Int) (hnx : way[i + 1]? = some nx) (hop : openQ os nx = true) {e : Int} {L' : List EV} (hadd : tadd L most (⟨p, a, b, fr, nx⟩ : EV) = (e, L')) (he : e ≠ 0) :
    Calls Try.prog 19 [.pointer (some ⟨t, 0, none⟩), .agg (cW n id).toArray, .int .i64 fr, .agg (cFG f s).toArray, ov].toArray w fun r w' => ∃ x : Nat × Array MapEntry × Nat, r = .returned (.agg (cD (.slice (some ⟨x.1, 0, none⟩) 1 1) false (e == 5)).toArray) ∧ Tab L' x.2.1 x.2.2 ∧ St w [t, mb] ((x.1, cb (cH fr (cF 5 p zI zI nilV)) 54) :: [(t, tabO most mb), (mb, .map x.2.1 x.2.2)]) w' := by
  obtain ⟨vt1, vi1, vv1, vx1⟩ := s
  obtain ⟨at1, ct1, hh, _, _⟩ := _root_.id hs.tr
  simp only at hh
  subst hh
  obtain ⟨ai1, ci1, hh, _, _⟩ := _root_.id hs.ids
  simp only at hh
  subst hh
  obtain ⟨av1, cv1, hh, _, _⟩ := _root_.id hs.val
  simp only at hh
  subst hh
  obtain ⟨ax1, cx1, hh, _, _⟩ := _root_.id hs.txt
  simp only at hh
  subst hh
  have hlt : i + 1 < way.length := (List.getElem?_eq_some_iff.1 hnx).1
  have hokE : okE (⟨p, a, b, fr, nx⟩ : EV) := ⟨hp, hfr, by
    obtain ⟨h1, h2⟩ := open_bounds hop
    exact okN_small (n := nx) (by omega) (by omega)⟩
  refine calls_of_J (args := [.pointer (some ⟨t, 0, none⟩), .agg (cW n id).toArray, .int .i64 fr, .agg (cFG f ⟨.slice at1 f.tr.length ct1, .slice ai1 f.ids.length ci1, .slice av1 f.val.length cv1, .slice ax1 f.txt.length cx1⟩).toArray, ov]) (e := [(0, .pointer (some ⟨t, 0, none⟩)), (1, .agg (cW n id).toArray), (2, .int .i64 fr), (3, .agg (cFG f ⟨.slice at1 f.tr.length ct1, .slice ai1 f.ids.length ci1, .slice av1 f.val.length cv1, .slice ax1 f.txt.length cx1⟩).toArray), (4, ov)]) Try.func19 rfl rfl ⟨rfl, rfl, rfl, rfl, rfl, trivial⟩ (hw0.st) ?_
  refine JC.seq (fun K0 hK0 => ?_)
  refine JC.region ?_
  refine J.box rfl rfl rfl (fun b6 => ?_)
  refine J.box rfl rfl rfl (fun b8 => ?_)
  refine J.alloc zN rfl rfl (fun b10 => ?_)
  refine J.nil ?_
  refine JX.thenN (hK0 _ _ ?_)
  refine JC.seq (fun K1 hK1 => ?_)
  refine JC.region ?_
  refine J.loadOA (vs := cFG f ⟨.slice at1 f.tr.length ct1, .slice ai1 f.ids.length ci1, .slice av1 f.val.length cv1, .slice ax1 f.txt.length cx1⟩) Ty.a52 Ty.s52 rfl (by repeat first | exact .head _ | apply List.Mem.tail | apply List.mem_append_right) (by exact rfl) rfl rfl ?_
  refine J.perm ([] ++ ((b10, cb (cD nilV false false) 37) :: (b8, cb (cFG f ⟨.slice at1 f.tr.length ct1, .slice ai1 f.ids.length ci1, .slice av1 f.val.length cv1, .slice ax1 f.txt.length cx1⟩) 52) :: (b6, cb (cW n id) 41) :: [(t, tabO most mb), (mb, .map es clock)])) (.refl _) ?_
  refine J.callS (α := Value × List (Nat × Obj)) (V := fun x => .tuple #[.iface 107 (.agg (cS p a b x.1).toArray), .bool true]) (Pr := fun x => Vec 3 1 x.1 way.length (way.map iV) x.2) (L := fun x => x.2) (l1 := []) Ty.bd55 rfl rfl (fun w1 hw => ofG2 f ⟨.slice at1 f.tr.length ct1, .slice ai1 f.ids.length ci1, .slice av1 f.val.length cv1, .slice ax1 f.txt.length cx1⟩ w1 (hs.st hso hw) hg hk hpe hae hbe hwe) (fun x hv8 => ?_)
  obtain ⟨v8, lp8⟩ := x
  simp only at hv8 ⊢
  obtain ⟨q, cq, sp, rfl, rfl, hcq⟩ := Vec.pos hv8 (by omega)
  have hrq : ∀ {w1 : World} {l : List (Nat × Obj)}, St w [t, mb] ((q, cb (way.map iV ++ sp) 3) :: l) w1 → Row w1 (.slice (some ⟨q, 0, none⟩) way.length cq) way.length (way.map iV) := fun hw => hv8.row hw
  refine J.perm ((b10, cb (cD nilV false false) 37) :: (b8, cb (cFG f ⟨.slice at1 f.tr.length ct1, .slice ai1 f.ids.length ci1, .slice av1 f.val.length cv1, .slice ax1 f.txt.length cx1⟩) 52) :: (b6, cb (cW n id) 41) :: ((q, cb (way.map iV ++ sp) 3) :: [(t, tabO most mb), (mb, .map es clock)])) (by (refine perm_cnt (fun _ => ?_)); simp only [cntB_append, cntB_cons, cntB_nil, Nat.add_zero, Nat.zero_add]; try ac_rfl) ?_
  refine J.move rfl rfl ?_
  refine J.extract rfl rfl rfl ?_
  refine J.extract rfl rfl rfl ?_
  refine J.assign rfl rfl ?_
  refine J.assign rfl rfl ?_
  refine J.nil ?_
  refine JX.thenN (hK1 _ _ ?_)
  refine JC.seq (fun K2 hK2 => ?_)
  refine JC.region ?_
  refine J.move rfl rfl ?_
  (first | refine J.assertT (by kernel_rfl) rfl rfl ?_ | refine J.assertF (by kernel_rfl) rfl rfl zS rfl ?_ | refine J.assertN (by kernel_rfl) rfl zS rfl ?_)
  refine J.move rfl rfl ?_
  refine J.extract rfl rfl rfl ?_
  refine J.extract rfl rfl rfl ?_
  refine J.alloc zS rfl rfl (fun b13 => ?_)
  refine J.storeW Ty.s107 rfl rfl rfl rfl rfl (by simp [Value.oneCell']) (by repeat first | exact .here | apply Up.there) ?_
  refine J.assign rfl rfl ?_
  refine J.nil ?_
  refine JX.thenN (hK2 _ _ ?_)
  refine JC.seq (fun K3 hK3 => ?_)
  refine JC.region ?_
  refine J.fieldAddr Ty.fd107_3 rfl rfl ?_
  refine J.loadO Ty.a26 rfl (by repeat first | exact .head _ | apply List.Mem.tail | apply List.mem_append_right) (by exact rfl) rfl ?_
  refine J.fieldAddr Ty.fd41_0 rfl rfl ?_
  refine J.loadO Ty.a3 rfl (by repeat first | exact .head _ | apply List.Mem.tail | apply List.mem_append_right) (by exact rfl) rfl ?_
  refine J.callB (v := .int .i64 (i : Int)) (fun w1 w2 hw hb => hw.step hb) Ty.bd56 rfl rfl (fun w1 hw => by
    have h := place_spec (.slice (some ⟨q, 0, none⟩) way.length cq) way n w1 (hrq (hw.perm (l' := (q, cb (way.map iV ++ sp) 3) :: ((b13, cb (cS p a b (.slice (some ⟨q, 0, none⟩) way.length cq)) 107) :: (b10, cb (cD nilV false false) 37) :: (b8, cb (cFG f ⟨.slice at1 f.tr.length ct1, .slice ai1 f.ids.length ci1, .slice av1 f.val.length cv1, .slice ax1 f.txt.length cx1⟩) 52) :: (b6, cb (cW n id) 41) :: [(t, tabO most mb), (mb, .map es clock)])) (by (refine perm_cnt (fun _ => ?_)); simp only [cntB_append, cntB_cons, cntB_nil, Nat.add_zero, Nat.zero_add]; try ac_rfl))) (by omega)
    rw [hat] at h
    exact h) ?_
  refine J.assign rfl rfl ?_
  refine J.nil ?_
  refine JX.thenN (hK3 _ _ ?_)
  refine JC.seq (fun K4 hK4 => ?_)
  refine JC.seq (fun K5 hK5 => ?_)
  refine JC.region ?_
  refine J.move rfl rfl ?_
  refine J.eqNil Ty.u29 rfl rfl rfl ?_
  refine J.move rfl rfl ?_
  first | refine J.skip rfl rfl rfl rfl rfl ?_ | refine J.skipU rfl rfl rfl rfl ?_ | (refine J.unguard rfl rfl rfl ?_; refine J.move rfl rfl ?_)
  first | refine J.skip rfl rfl rfl rfl rfl ?_ | refine J.skipU rfl rfl rfl rfl ?_ | (refine J.unguard rfl rfl rfl ?_; refine J.not rfl rfl ?_)
  (first | refine J.pickT rfl rfl rfl ?_ | refine J.pickF rfl rfl rfl ?_)
  refine J.move rfl rfl ?_
  first | refine J.skip rfl rfl rfl rfl rfl ?_ | refine J.skipU rfl rfl rfl rfl ?_ | (refine J.unguard rfl rfl rfl ?_; refine J.move rfl rfl ?_)
  refine J.unguard rfl rfl rfl ?_
  refine J.bin rfl rfl rfl rfl ?_
  refine J.name 43 rfl (show Value.bool _ = .bool false by simp; omega) ?_
  (first | refine J.pickT rfl rfl rfl ?_ | refine J.pickF rfl rfl rfl ?_)
  refine J.move rfl rfl ?_
  first | refine J.skip rfl rfl rfl rfl rfl ?_ | refine J.skipU rfl rfl rfl rfl ?_ | (refine J.unguard rfl rfl rfl ?_; refine J.fieldAddr Ty.fd107_3 rfl rfl ?_)
  first | refine J.skip rfl rfl rfl rfl rfl ?_ | refine J.skipU rfl rfl rfl rfl ?_ | (refine J.unguard rfl rfl rfl ?_; refine J.loadO Ty.a26 rfl (by repeat first | exact .head _ | apply List.Mem.tail | apply List.mem_append_right) (by exact rfl) rfl ?_)
  first | refine J.skip rfl rfl rfl rfl rfl ?_ | refine J.skipU rfl rfl rfl rfl ?_ | (refine J.unguard rfl rfl rfl ?_; refine J.move rfl rfl ?_)
  first | refine J.skip rfl rfl rfl rfl rfl ?_ | refine J.skipU rfl rfl rfl rfl ?_ | (refine J.unguard rfl rfl rfl ?_; (first | refine J.subN rfl rfl (by omega) (by omega) rfl ?_ | refine J.bin rfl rfl rfl rfl ?_))
  refine J.unguard rfl rfl rfl ?_
  refine J.indexAddrS Ty.el26 Ty.s3 rfl rfl (by omega) (by omega) rfl ?_
  refine J.unguard rfl rfl rfl ?_
  refine J.load1 (v := iV fr) Ty.a3 rfl (fun w1 hw => rowI_at (i := i - 1) (hrq (hw.perm (l' := (q, cb (way.map iV ++ sp) 3) :: ((b13, cb (cS p a b (.slice (some ⟨q, 0, none⟩) way.length cq)) 107) :: (b10, cb (cD nilV false false) 37) :: (b8, cb (cFG f ⟨.slice at1 f.tr.length ct1, .slice ai1 f.ids.length ci1, .slice av1 f.val.length cv1, .slice ax1 f.txt.length cx1⟩) 52) :: (b6, cb (cW n id) 41) :: [(t, tabO most mb), (mb, .map es clock)])) (by (refine perm_cnt (fun _ => ?_)); simp only [cntB_append, cntB_cons, cntB_nil, Nat.add_zero, Nat.zero_add]; try ac_rfl))) hfrom (by omega)) rfl ?_
  first | refine J.skip rfl rfl rfl rfl rfl ?_ | refine J.skipU rfl rfl rfl rfl ?_ | (refine J.unguard rfl rfl rfl ?_; refine J.move rfl rfl ?_)
  refine J.unguard rfl rfl rfl ?_
  refine J.bin rfl rfl rfl rfl ?_
  refine J.name 53 rfl (show Value.bool _ = .bool false by simp) ?_
  (first | refine J.pickT rfl rfl rfl ?_ | refine J.pickF rfl rfl rfl ?_)
  refine J.move rfl rfl ?_
  first | refine J.skip rfl rfl rfl rfl rfl ?_ | refine J.skipU rfl rfl rfl rfl ?_ | (refine J.unguard rfl rfl rfl ?_; refine J.fieldAddr Ty.fd107_3 rfl rfl ?_)
  first | refine J.skip rfl rfl rfl rfl rfl ?_ | refine J.skipU rfl rfl rfl rfl ?_ | (refine J.unguard rfl rfl rfl ?_; refine J.loadO Ty.a26 rfl (by repeat first | exact .head _ | apply List.Mem.tail | apply List.mem_append_right) (by exact rfl) rfl ?_)
  refine J.unguard rfl rfl rfl ?_
  refine J.callB (v := .bool true) (fun w1 w2 hw hb => hw.step hb) Ty.bd52 rfl rfl (fun w1 hw => by
    have h := simple_spec (.slice (some ⟨q, 0, none⟩) way.length cq) way w1 (hrq (hw.perm (l' := (q, cb (way.map iV ++ sp) 3) :: ((b13, cb (cS p a b (.slice (some ⟨q, 0, none⟩) way.length cq)) 107) :: (b10, cb (cD nilV false false) 37) :: (b8, cb (cFG f ⟨.slice at1 f.tr.length ct1, .slice ai1 f.ids.length ci1, .slice av1 f.val.length cv1, .slice ax1 f.txt.length cx1⟩) 52) :: (b6, cb (cW n id) 41) :: [(t, tabO most mb), (mb, .map es clock)])) (by (refine perm_cnt (fun _ => ?_)); simp only [cntB_append, cntB_cons, cntB_nil, Nat.add_zero, Nat.zero_add]; try ac_rfl))) (by omega)
    rw [decide_eq_true hnd] at h
    exact h) ?_
  first | refine J.skip rfl rfl rfl rfl rfl ?_ | refine J.skipU rfl rfl rfl rfl ?_ | (refine J.unguard rfl rfl rfl ?_; refine J.not rfl rfl ?_)
  (first | refine J.pickT rfl rfl rfl ?_ | refine J.pickF rfl rfl rfl ?_)
  refine J.nil ?_
  refine JX.thenN (hK5 _ _ ?_)
  first | refine JC.condF rfl ?_ | refine JC.cond rfl (fun h => by first | (exfalso; simp at h; omega) | (simp at h)) (fun _ => ?_)
  refine JC.skip ?_
  refine JX.thenN (hK4 _ _ ?_)
  refine JC.seq (fun K6 hK6 => ?_)
  refine JC.region ?_
  refine J.move rfl rfl ?_
  refine J.fieldAddr Ty.fd107_0 rfl rfl ?_
  refine J.loadOA (vs := cP p) Ty.a25 Ty.s25 rfl (by repeat first | exact .head _ | apply List.Mem.tail | apply List.mem_append_right) (by exact rfl) rfl rfl ?_
  refine J.buildS (cs := cP p) Ty.pl114 zD rfl (by kernel_rfl) rfl ?_
  refine J.iface (by kernel_rfl) rfl rfl ?_
  refine J.callB (v := .agg (cF 5 p zI zI nilV).toArray) (fun w1 w2 hw hb => hw.step hb) Ty.bd54 rfl rfl (fun w1 hw => plainD_spec p w1) ?_
  refine J.buildS (cs := cH fr (cF 5 p zI zI nilV)) Ty.pl54 zH rfl (by kernel_rfl) rfl ?_
  refine J.buildSl (cs := cH fr (cF 5 p zI zI nilV)) Ty.el35 Ty.s54 zH rfl rfl rfl rfl (by kernel_rfl) rfl rfl (fun b69 => ?_)
  refine J.buildS (cs := cD (.slice (some ⟨b69, 0, none⟩) 1 1) false false) Ty.pl37 zN rfl (by kernel_rfl) rfl ?_
  refine J.alloc zN rfl rfl (fun b16 => ?_)
  refine J.storeW Ty.s37 rfl rfl rfl rfl rfl (by simp [Value.oneCell']) (by repeat first | exact .here | apply Up.there) ?_
  refine J.nil ?_
  refine JX.thenN (hK6 _ _ ?_)
  refine JC.seq (fun K7 hK7 => ?_)
  refine JC.region ?_
  refine J.fieldAddr Ty.fd107_0 rfl rfl ?_
  refine J.loadOA (vs := cP p) Ty.a25 Ty.s25 rfl (by repeat first | exact .head _ | apply List.Mem.tail | apply List.mem_append_right) (by exact rfl) rfl rfl ?_
  refine J.fieldAddr Ty.fd107_1 rfl rfl ?_
  refine J.loadOA (vs := cI a) Ty.a23 Ty.s23 rfl (by repeat first | exact .head _ | apply List.Mem.tail | apply List.mem_append_right) (by exact rfl) rfl rfl ?_
  refine J.fieldAddr Ty.fd107_2 rfl rfl ?_
  refine J.loadOA (vs := cI b) Ty.a23 Ty.s23 rfl (by repeat first | exact .head _ | apply List.Mem.tail | apply List.mem_append_right) (by exact rfl) rfl rfl ?_
  refine J.move rfl rfl ?_
  refine J.buildS (cs := cE (⟨p, a, b, fr, -1⟩ : EV)) Ty.pl34 Ty.zE_ rfl (by kernel_rfl) rfl ?_
  refine J.alloc Ty.zE_ rfl rfl (fun b17 => ?_)
  refine J.storeW Ty.s34 rfl rfl rfl rfl rfl (by simp [Value.oneCell']) (by repeat first | exact .here | apply Up.there) ?_
  refine J.nil ?_
  refine JX.thenN (hK7 _ _ ?_)
  refine JC.seq (fun K8 hK8 => ?_)
  refine JC.region ?_
  refine J.move rfl rfl ?_
  refine J.fieldAddr Ty.fd107_3 rfl rfl ?_
  refine J.loadO Ty.a26 rfl (by repeat first | exact .head _ | apply List.Mem.tail | apply List.mem_append_right) (by exact rfl) rfl ?_
  refine J.lenS rfl Ty.u26 rfl rfl ?_
  (first | refine J.subN rfl rfl (by omega) (by omega) rfl ?_ | refine J.bin rfl rfl rfl rfl ?_)
  refine J.bin rfl rfl rfl rfl ?_
  refine J.name 84 rfl (show Value.bool _ = .bool false by simp; omega) ?_
  refine J.assign rfl rfl ?_
  refine J.nil ?_
  refine JX.thenN (hK8 _ _ ?_)
  refine JC.seq (fun K9 hK9 => ?_)
  refine JC.seq (fun K10 hK10 => ?_)
  refine JC.region ?_
  refine J.move rfl rfl ?_
  refine J.move rfl rfl ?_
  first | refine J.skip rfl rfl rfl rfl rfl ?_ | refine J.skipU rfl rfl rfl rfl ?_ | (refine J.unguard rfl rfl rfl ?_; refine J.fieldAddr Ty.fd107_2 rfl rfl ?_)
  first | refine J.skip rfl rfl rfl rfl rfl ?_ | refine J.skipU rfl rfl rfl rfl ?_ | (refine J.unguard rfl rfl rfl ?_; refine J.loadOA (vs := cI b) Ty.a23 Ty.s23 rfl (by repeat first | exact .head _ | apply List.Mem.tail | apply List.mem_append_right) (by exact rfl) rfl rfl ?_)
  first | refine J.skip rfl rfl rfl rfl rfl ?_ | refine J.skipU rfl rfl rfl rfl ?_ | (refine J.unguard rfl rfl rfl ?_; refine J.fieldAddr Ty.fd41_1 rfl rfl ?_)
  first | refine J.skip rfl rfl rfl rfl rfl ?_ | refine J.skipU rfl rfl rfl rfl ?_ | (refine J.unguard rfl rfl rfl ?_; refine J.loadOA (vs := cI id) Ty.a23 Ty.s23 rfl (by repeat first | exact .head _ | apply List.Mem.tail | apply List.mem_append_right) (by exact rfl) rfl rfl ?_)
  first | refine J.skip rfl rfl rfl rfl rfl ?_ | refine J.skipU rfl rfl rfl rfl ?_ | (refine J.unguard rfl rfl rfl ?_; refine J.neI Ty.QI Ty.keyI rfl rfl rfl ?_)
  (first | refine J.pickT rfl rfl rfl ?_ | refine J.pickF rfl rfl rfl ?_)
  refine J.nil ?_
  refine JX.thenN (hK10 _ _ ?_)
  first | refine JC.condF rfl ?_ | refine JC.cond rfl (fun h => by first | (exfalso; simp at h; omega) | (simp at h)) (fun _ => ?_)
  refine JC.skip ?_
  refine JX.thenN (hK9 _ _ ?_)
  refine JC.seq (fun K11 hK11 => ?_)
  refine JC.seq (fun K12 hK12 => ?_)
  refine JC.region ?_
  refine J.move rfl rfl ?_
  refine J.not rfl rfl ?_
  refine J.nil ?_
  refine JX.thenN (hK12 _ _ ?_)
  first | refine JC.condT rfl ?_ | refine JC.cond rfl (fun _ => ?_) (fun h => by first | (exfalso; simp at h; omega) | (simp at h))
  refine JC.seq (fun K13 hK13 => ?_)
  refine JC.region ?_
  refine J.fieldAddr Ty.fd107_3 rfl rfl ?_
  refine J.loadO Ty.a26 rfl (by repeat first | exact .head _ | apply List.Mem.tail | apply List.mem_append_right) (by exact rfl) rfl ?_
  refine J.move rfl rfl ?_
  (first | refine J.addN rfl rfl (by omega) (by omega) rfl ?_ | refine J.bin rfl rfl rfl rfl ?_)
  refine J.indexAddrS Ty.el26 Ty.s3 rfl rfl (by omega) (by omega) rfl ?_
  refine J.load1 (v := iV nx) Ty.a3 rfl (fun w1 hw => rowI_at (i := i + 1) (hrq (hw.perm (l' := (q, cb (way.map iV ++ sp) 3) :: ((b17, cb (cE (⟨p, a, b, fr, -1⟩ : EV)) 34) :: (b16, cb (cD (.slice (some ⟨b69, 0, none⟩) 1 1) false false) 37) :: (b69, cb (cH fr (cF 5 p zI zI nilV)) 54) :: (b13, cb (cS p a b (.slice (some ⟨q, 0, none⟩) way.length cq)) 107) :: (b10, cb (cD nilV false false) 37) :: (b8, cb (cFG f ⟨.slice at1 f.tr.length ct1, .slice ai1 f.ids.length ci1, .slice av1 f.val.length cv1, .slice ax1 f.txt.length cx1⟩) 52) :: (b6, cb (cW n id) 41) :: [(t, tabO most mb), (mb, .map es clock)])) (by (refine perm_cnt (fun _ => ?_)); simp only [cntB_append, cntB_cons, cntB_nil, Nat.add_zero, Nat.zero_add]; try ac_rfl))) hnx (by omega)) rfl ?_
  refine J.fieldAddr Ty.fd34_4 rfl rfl ?_
  refine J.storeO (cs := cE (⟨p, a, b, fr, -1⟩ : EV)) (vs := [iV nx]) Ty.s3 rfl rfl rfl rfl (by simp [Value.oneCell']) .here (by simp) ?_
  refine J.perm ((b17, cb (cE (⟨p, a, b, fr, nx⟩ : EV)) 34) :: (b16, cb (cD (.slice (some ⟨b69, 0, none⟩) 1 1) false false) 37) :: (b69, cb (cH fr (cF 5 p zI zI nilV)) 54) :: (b13, cb (cS p a b (.slice (some ⟨q, 0, none⟩) way.length cq)) 107) :: (b10, cb (cD nilV false false) 37) :: (b8, cb (cFG f ⟨.slice at1 f.tr.length ct1, .slice ai1 f.ids.length ci1, .slice av1 f.val.length cv1, .slice ax1 f.txt.length cx1⟩) 52) :: (b6, cb (cW n id) 41) :: (q, cb (way.map iV ++ sp) 3) :: [(t, tabO most mb), (mb, .map es clock)]) (.refl _) ?_
  refine J.nil ?_
  refine JX.thenN (hK13 _ _ ?_)
  refine JC.seq (fun K14 hK14 => ?_)
  refine JC.region ?_
  refine J.move rfl rfl ?_
  refine J.fieldAddr Ty.fd34_4 rfl rfl ?_
  refine J.loadO Ty.a3 rfl (by repeat first | exact .head _ | apply List.Mem.tail | apply List.mem_append_right) (by exact rfl) rfl ?_
  refine J.callB (v := .bool true) (fun w1 w2 hw hb => hw.step hb) Ty.bd53 rfl rfl (fun w1 hw => by
    have h := isOpen_spec ov os nx w1 (hro.st hoffo hw) hlo
    rw [hop] at h
    exact h) ?_
  refine J.not rfl rfl ?_
  refine J.nil ?_
  refine JX.thenN (hK14 _ _ ?_)
  first | refine JC.condF rfl ?_ | refine JC.cond rfl (fun h => by first | (exfalso; simp at h; omega) | (simp at h)) (fun _ => ?_)
  refine JC.skip ?_
  refine JX.thenN (hK11 _ _ ?_)
  refine JC.seq (fun K15 hK15 => ?_)
  refine JC.seq (fun K16 hK16 => ?_)
  refine JC.region ?_
  refine J.move rfl rfl ?_
  refine J.loadOA (vs := cE (⟨p, a, b, fr, nx⟩ : EV)) Ty.a34 Ty.s34 rfl (by repeat first | exact .head _ | apply List.Mem.tail | apply List.mem_append_right) (by exact rfl) rfl rfl ?_
  refine J.perm ([(t, tabO most mb), (mb, .map es clock)] ++ ((b17, cb (cE (⟨p, a, b, fr, nx⟩ : EV)) 34) :: (b16, cb (cD (.slice (some ⟨b69, 0, none⟩) 1 1) false false) 37) :: (b69, cb (cH fr (cF 5 p zI zI nilV)) 54) :: (b13, cb (cS p a b (.slice (some ⟨q, 0, none⟩) way.length cq)) 107) :: (b10, cb (cD nilV false false) 37) :: (b8, cb (cFG f ⟨.slice at1 f.tr.length ct1, .slice ai1 f.ids.length ci1, .slice av1 f.val.length cv1, .slice ax1 f.txt.length cx1⟩) 52) :: (b6, cb (cW n id) 41) :: (q, cb (way.map iV ++ sp) 3) :: [])) (by (refine perm_cnt (fun _ => ?_)); simp only [cntB_append, cntB_cons, cntB_nil, Nat.add_zero, Nat.zero_add]; try ac_rfl) ?_
  refine J.callS (α := Array MapEntry × Nat) (V := fun _ => .int .i64 e) (Pr := fun y => Tab L' y.1 y.2) (L := fun y => [(t, tabO most mb), (mb, .map y.1 y.2)]) (l1 := [(t, tabO most mb), (mb, .map es clock)]) Ty.bd17 rfl rfl (fun w1 hw => add_all hw.owns hT (⟨p, a, b, fr, nx⟩ : EV) hokE hadd) (fun y hT' => ?_)
  obtain ⟨es', clock'⟩ := y
  simp only at hT' ⊢
  refine J.perm ((b17, cb (cE (⟨p, a, b, fr, nx⟩ : EV)) 34) :: (b16, cb (cD (.slice (some ⟨b69, 0, none⟩) 1 1) false false) 37) :: (b69, cb (cH fr (cF 5 p zI zI nilV)) 54) :: (b13, cb (cS p a b (.slice (some ⟨q, 0, none⟩) way.length cq)) 107) :: (b10, cb (cD nilV false false) 37) :: (b8, cb (cFG f ⟨.slice at1 f.tr.length ct1, .slice ai1 f.ids.length ci1, .slice av1 f.val.length cv1, .slice ax1 f.txt.length cx1⟩) 52) :: (b6, cb (cW n id) 41) :: (q, cb (way.map iV ++ sp) 3) :: [(t, tabO most mb), (mb, .map es' clock')]) (by (refine perm_cnt (fun _ => ?_)); simp only [cntB_append, cntB_cons, cntB_nil, Nat.add_zero, Nat.zero_add]; try ac_rfl) ?_
  refine J.assign rfl rfl ?_
  refine J.nil ?_
  refine JX.thenN (hK16 _ _ ?_)
  refine JC.seq (fun K17 hK17 => ?_)
  refine JC.region ?_
  refine J.move rfl rfl ?_
  refine J.bin rfl rfl rfl rfl ?_
  refine J.name 113 rfl (show Value.bool _ = .bool true by simp [he]) ?_
  refine J.nil ?_
  refine JX.thenN (hK17 _ _ ?_)
  first | refine JC.condT rfl ?_ | refine JC.cond rfl (fun _ => ?_) (fun h => by first | (exfalso; simp at h; omega) | (simp at h))
  refine JC.seq (fun K18 hK18 => ?_)
  refine JC.region ?_
  refine J.move rfl rfl ?_
  refine J.bin rfl rfl rfl rfl ?_
  refine J.fieldAddr Ty.fd37_2 rfl rfl ?_
  refine J.storeO (cs := cD (.slice (some ⟨b69, 0, none⟩) 1 1) false false) (vs := [.bool (e == 5)]) Ty.s4 rfl rfl rfl rfl (by simp [Value.oneCell']) (.there .here) (by simp) ?_
  refine J.perm ((b17, cb (cE (⟨p, a, b, fr, nx⟩ : EV)) 34) :: (b16, cb (cD (.slice (some ⟨b69, 0, none⟩) 1 1) false (e == 5)) 37) :: (b69, cb (cH fr (cF 5 p zI zI nilV)) 54) :: (b13, cb (cS p a b (.slice (some ⟨q, 0, none⟩) way.length cq)) 107) :: (b10, cb (cD nilV false false) 37) :: (b8, cb (cFG f ⟨.slice at1 f.tr.length ct1, .slice ai1 f.ids.length ci1, .slice av1 f.val.length cv1, .slice ax1 f.txt.length cx1⟩) 52) :: (b6, cb (cW n id) 41) :: (q, cb (way.map iV ++ sp) 3) :: [(t, tabO most mb), (mb, .map es' clock')]) (.refl _) ?_
  refine J.nil ?_
  refine JX.thenN (hK18 _ _ ?_)
  refine JC.seq (fun K19 hK19 => ?_)
  refine JC.region ?_
  refine J.loadOA (vs := cD (.slice (some ⟨b69, 0, none⟩) 1 1) false (e == 5)) Ty.a37 Ty.s37 rfl (by repeat first | exact .head _ | apply List.Mem.tail | apply List.mem_append_right) (by exact rfl) rfl rfl ?_
  refine J.storeW Ty.s37 rfl rfl rfl rfl rfl (by simp [Value.oneCell']) (by repeat first | exact .here | apply Up.there) ?_
  refine J.nil ?_
  refine JX.thenN (hK19 _ _ ?_)
  refine JC.ret ?_
  refine JX.thenR ?_
  refine JX.retC rfl rfl Ty.a37 Ty.s37 (vs := cD (.slice (some ⟨b69, 0, none⟩) 1 1) false (e == 5)) rfl (fun w1 hw => Cells.of_block (hw.own _ (.tail _ (.tail _ (.tail _ (.tail _ (.head _)))))) rfl) (fun w1 hw => ?_)
  exact ⟨(b69, es', clock'), rfl, hT', (hw.perm (l' := ([(b17, cb (cE (⟨p, a, b, fr, nx⟩ : EV)) 34), (b16, cb (cD (.slice (some ⟨b69, 0, none⟩) 1 1) false (e == 5)) 37), (b13, cb (cS p a b (.slice (some ⟨q, 0, none⟩) way.length cq)) 107), (b10, cb (cD (.slice (some ⟨b69, 0, none⟩) 1 1) false (e == 5)) 37), (b8, cb (cFG f ⟨.slice at1 f.tr.length ct1, .slice ai1 f.ids.length ci1, .slice av1 f.val.length cv1, .slice ax1 f.txt.length cx1⟩) 52), (b6, cb (cW n id) 41), (q, cb (way.map iV ++ sp) 3)]) ++ ((b69, cb (cH fr (cF 5 p zI zI nilV)) 54) :: [(t, tabO most mb), (mb, .map es' clock')])) (by (refine perm_cnt (fun _ => ?_)); simp only [cntB_append, cntB_cons, cntB_nil, Nat.add_zero, Nat.zero_add]; try ac_rfl)).drop (List.sublist_append_right _ _)⟩

theorem gtake_on (t mb : Nat) (most : Int) (L : List EV) (es : Array MapEntry) (clock : Nat) (w : World) (hw0 : Own w [(t, tabO most mb), (mb, .map es clock)]) (hT : Tab L es clock) (n fr : Int) (id a b : IDV) (p : PV) (hp : okN p.n) (hfr : okN fr) (f : FV) (s : FSl) (hs : FRows w f s) (hso : FOff [t, mb] f s) (hg : BigF f) (hk : f.k = 4) (hpe : f.p = p) (hae : f.a = a) (hbe : f.b = b) (way : List Int) (hwe : f.tr = way) (hlen : way.length < 1099511627776) (i : Nat) (hi : 1 ≤ i) (hi2 : i < way.length) (hat : placeP way n = (i : Int)) (hfrom : way[i - 1]? = some fr) (hnd : way.Nodup) (ov : Value) (os : List Bool) (hro : Row w ov os.length (os.map bV)) (hoffo : Off [t, mb] ov (os.map bV)) (hlo : os.length < 4611686018427387904) (nx : Int) (hnx : way[i + 1]? = some nx) (hop : openQ os nx = true) {L' : List EV} (hadd : tadd L most (⟨p, a, b, fr, nx⟩ : EV) = (0, L')) :
    Calls Try.prog 19 [.pointer (some ⟨t, 0, none⟩), .agg (cW n id).toArray, .int .i64 fr, .agg (cFG f s).toArray, ov].toArray w fun r w' => ∃ x : OutS, r = .returned (.agg (cD (.slice (some ⟨x.h, 0, none⟩) 1 1) false false).toArray) ∧ (Vec 3 1 (.slice x.a way.length x.c) way.length (way.map iV) x.lp ∧ Tab L' x.es x.ck) ∧ St w [t, mb] ((x.h, cb (cH nx (cF 4 p a b (.slice x.a way.length x.c))) 54) :: (x.lp ++ [(t, tabO most mb), (mb, .map x.es x.ck)])) w' := by
  obtain ⟨vt1, vi1, vv1, vx1⟩ := s
  obtain ⟨at1, ct1, hh, _, _⟩ := _root_.id hs.tr
  simp only at hh
  subst hh
  obtain ⟨ai1, ci1, hh, _, _⟩ := _root_.id hs.ids
  simp only at hh
  subst hh
  obtain ⟨av1, cv1, hh, _, _⟩ := _root_.id hs.val
  simp only at hh
  subst hh
  obtain ⟨ax1, cx1, hh, _, _⟩ := _root_.id hs.txt
  simp only at hh
  subst hh
  have hlt : i + 1 < way.length := (List.getElem?_eq_some_iff.1 hnx).1
  have hokE : okE (⟨p, a, b, fr, nx⟩ : EV) := ⟨hp, hfr, by
    obtain ⟨h1, h2⟩ := open_bounds hop
    exact okN_small (n := nx) (by omega) (by omega)⟩
  refine calls_of_J (args := [.pointer (some ⟨t, 0, none⟩), .agg (cW n id).toArray, .int .i64 fr, .agg (cFG f ⟨.slice at1 f.tr.length ct1, .slice ai1 f.ids.length ci1, .slice av1 f.val.length cv1, .slice ax1 f.txt.length cx1⟩).toArray, ov]) (e := [(0, .pointer (some ⟨t, 0, none⟩)), (1, .agg (cW n id).toArray), (2, .int .i64 fr), (3, .agg (cFG f ⟨.slice at1 f.tr.length ct1, .slice ai1 f.ids.length ci1, .slice av1 f.val.length cv1, .slice ax1 f.txt.length cx1⟩).toArray), (4, ov)]) Try.func19 rfl rfl ⟨rfl, rfl, rfl, rfl, rfl, trivial⟩ (hw0.st) ?_
  refine JC.seq (fun K0 hK0 => ?_)
  refine JC.region ?_
  refine J.box rfl rfl rfl (fun b6 => ?_)
  refine J.box rfl rfl rfl (fun b8 => ?_)
  refine J.alloc zN rfl rfl (fun b10 => ?_)
  refine J.nil ?_
  refine JX.thenN (hK0 _ _ ?_)
  refine JC.seq (fun K1 hK1 => ?_)
  refine JC.region ?_
  refine J.loadOA (vs := cFG f ⟨.slice at1 f.tr.length ct1, .slice ai1 f.ids.length ci1, .slice av1 f.val.length cv1, .slice ax1 f.txt.length cx1⟩) Ty.a52 Ty.s52 rfl (by repeat first | exact .head _ | apply List.Mem.tail | apply List.mem_append_right) (by exact rfl) rfl rfl ?_
  refine J.perm ([] ++ ((b10, cb (cD nilV false false) 37) :: (b8, cb (cFG f ⟨.slice at1 f.tr.length ct1, .slice ai1 f.ids.length ci1, .slice av1 f.val.length cv1, .slice ax1 f.txt.length cx1⟩) 52) :: (b6, cb (cW n id) 41) :: [(t, tabO most mb), (mb, .map es clock)])) (.refl _) ?_
  refine J.callS (α := Value × List (Nat × Obj)) (V := fun x => .tuple #[.iface 107 (.agg (cS p a b x.1).toArray), .bool true]) (Pr := fun x => Vec 3 1 x.1 way.length (way.map iV) x.2) (L := fun x => x.2) (l1 := []) Ty.bd55 rfl rfl (fun w1 hw => ofG2 f ⟨.slice at1 f.tr.length ct1, .slice ai1 f.ids.length ci1, .slice av1 f.val.length cv1, .slice ax1 f.txt.length cx1⟩ w1 (hs.st hso hw) hg hk hpe hae hbe hwe) (fun x hv8 => ?_)
  obtain ⟨v8, lp8⟩ := x
  simp only at hv8 ⊢
  obtain ⟨q, cq, sp, rfl, rfl, hcq⟩ := Vec.pos hv8 (by omega)
  have hrq : ∀ {w1 : World} {l : List (Nat × Obj)}, St w [t, mb] ((q, cb (way.map iV ++ sp) 3) :: l) w1 → Row w1 (.slice (some ⟨q, 0, none⟩) way.length cq) way.length (way.map iV) := fun hw => hv8.row hw
  refine J.perm ((b10, cb (cD nilV false false) 37) :: (b8, cb (cFG f ⟨.slice at1 f.tr.length ct1, .slice ai1 f.ids.length ci1, .slice av1 f.val.length cv1, .slice ax1 f.txt.length cx1⟩) 52) :: (b6, cb (cW n id) 41) :: ((q, cb (way.map iV ++ sp) 3) :: [(t, tabO most mb), (mb, .map es clock)])) (by (refine perm_cnt (fun _ => ?_)); simp only [cntB_append, cntB_cons, cntB_nil, Nat.add_zero, Nat.zero_add]; try ac_rfl) ?_
  refine J.move rfl rfl ?_
  refine J.extract rfl rfl rfl ?_
  refine J.extract rfl rfl rfl ?_
  refine J.assign rfl rfl ?_
  refine J.assign rfl rfl ?_
  refine J.nil ?_
  refine JX.thenN (hK1 _ _ ?_)
  refine JC.seq (fun K2 hK2 => ?_)
  refine JC.region ?_
  refine J.move rfl rfl ?_
  (first | refine J.assertT (by kernel_rfl) rfl rfl ?_ | refine J.assertF (by kernel_rfl) rfl rfl zS rfl ?_ | refine J.assertN (by kernel_rfl) rfl zS rfl ?_)
  refine J.move rfl rfl ?_
  refine J.extract rfl rfl rfl ?_
  refine J.extract rfl rfl rfl ?_
  refine J.alloc zS rfl rfl (fun b13 => ?_)
  refine J.storeW Ty.s107 rfl rfl rfl rfl rfl (by simp [Value.oneCell']) (by repeat first | exact .here | apply Up.there) ?_
  refine J.assign rfl rfl ?_
  refine J.nil ?_
  refine JX.thenN (hK2 _ _ ?_)
  refine JC.seq (fun K3 hK3 => ?_)
  refine JC.region ?_
  refine J.fieldAddr Ty.fd107_3 rfl rfl ?_
  refine J.loadO Ty.a26 rfl (by repeat first | exact .head _ | apply List.Mem.tail | apply List.mem_append_right) (by exact rfl) rfl ?_
  refine J.fieldAddr Ty.fd41_0 rfl rfl ?_
  refine J.loadO Ty.a3 rfl (by repeat first | exact .head _ | apply List.Mem.tail | apply List.mem_append_right) (by exact rfl) rfl ?_
  refine J.callB (v := .int .i64 (i : Int)) (fun w1 w2 hw hb => hw.step hb) Ty.bd56 rfl rfl (fun w1 hw => by
    have h := place_spec (.slice (some ⟨q, 0, none⟩) way.length cq) way n w1 (hrq (hw.perm (l' := (q, cb (way.map iV ++ sp) 3) :: ((b13, cb (cS p a b (.slice (some ⟨q, 0, none⟩) way.length cq)) 107) :: (b10, cb (cD nilV false false) 37) :: (b8, cb (cFG f ⟨.slice at1 f.tr.length ct1, .slice ai1 f.ids.length ci1, .slice av1 f.val.length cv1, .slice ax1 f.txt.length cx1⟩) 52) :: (b6, cb (cW n id) 41) :: [(t, tabO most mb), (mb, .map es clock)])) (by (refine perm_cnt (fun _ => ?_)); simp only [cntB_append, cntB_cons, cntB_nil, Nat.add_zero, Nat.zero_add]; try ac_rfl))) (by omega)
    rw [hat] at h
    exact h) ?_
  refine J.assign rfl rfl ?_
  refine J.nil ?_
  refine JX.thenN (hK3 _ _ ?_)
  refine JC.seq (fun K4 hK4 => ?_)
  refine JC.seq (fun K5 hK5 => ?_)
  refine JC.region ?_
  refine J.move rfl rfl ?_
  refine J.eqNil Ty.u29 rfl rfl rfl ?_
  refine J.move rfl rfl ?_
  first | refine J.skip rfl rfl rfl rfl rfl ?_ | refine J.skipU rfl rfl rfl rfl ?_ | (refine J.unguard rfl rfl rfl ?_; refine J.move rfl rfl ?_)
  first | refine J.skip rfl rfl rfl rfl rfl ?_ | refine J.skipU rfl rfl rfl rfl ?_ | (refine J.unguard rfl rfl rfl ?_; refine J.not rfl rfl ?_)
  (first | refine J.pickT rfl rfl rfl ?_ | refine J.pickF rfl rfl rfl ?_)
  refine J.move rfl rfl ?_
  first | refine J.skip rfl rfl rfl rfl rfl ?_ | refine J.skipU rfl rfl rfl rfl ?_ | (refine J.unguard rfl rfl rfl ?_; refine J.move rfl rfl ?_)
  refine J.unguard rfl rfl rfl ?_
  refine J.bin rfl rfl rfl rfl ?_
  refine J.name 43 rfl (show Value.bool _ = .bool false by simp; omega) ?_
  (first | refine J.pickT rfl rfl rfl ?_ | refine J.pickF rfl rfl rfl ?_)
  refine J.move rfl rfl ?_
  first | refine J.skip rfl rfl rfl rfl rfl ?_ | refine J.skipU rfl rfl rfl rfl ?_ | (refine J.unguard rfl rfl rfl ?_; refine J.fieldAddr Ty.fd107_3 rfl rfl ?_)
  first | refine J.skip rfl rfl rfl rfl rfl ?_ | refine J.skipU rfl rfl rfl rfl ?_ | (refine J.unguard rfl rfl rfl ?_; refine J.loadO Ty.a26 rfl (by repeat first | exact .head _ | apply List.Mem.tail | apply List.mem_append_right) (by exact rfl) rfl ?_)
  first | refine J.skip rfl rfl rfl rfl rfl ?_ | refine J.skipU rfl rfl rfl rfl ?_ | (refine J.unguard rfl rfl rfl ?_; refine J.move rfl rfl ?_)
  first | refine J.skip rfl rfl rfl rfl rfl ?_ | refine J.skipU rfl rfl rfl rfl ?_ | (refine J.unguard rfl rfl rfl ?_; (first | refine J.subN rfl rfl (by omega) (by omega) rfl ?_ | refine J.bin rfl rfl rfl rfl ?_))
  refine J.unguard rfl rfl rfl ?_
  refine J.indexAddrS Ty.el26 Ty.s3 rfl rfl (by omega) (by omega) rfl ?_
  refine J.unguard rfl rfl rfl ?_
  refine J.load1 (v := iV fr) Ty.a3 rfl (fun w1 hw => rowI_at (i := i - 1) (hrq (hw.perm (l' := (q, cb (way.map iV ++ sp) 3) :: ((b13, cb (cS p a b (.slice (some ⟨q, 0, none⟩) way.length cq)) 107) :: (b10, cb (cD nilV false false) 37) :: (b8, cb (cFG f ⟨.slice at1 f.tr.length ct1, .slice ai1 f.ids.length ci1, .slice av1 f.val.length cv1, .slice ax1 f.txt.length cx1⟩) 52) :: (b6, cb (cW n id) 41) :: [(t, tabO most mb), (mb, .map es clock)])) (by (refine perm_cnt (fun _ => ?_)); simp only [cntB_append, cntB_cons, cntB_nil, Nat.add_zero, Nat.zero_add]; try ac_rfl))) hfrom (by omega)) rfl ?_
  first | refine J.skip rfl rfl rfl rfl rfl ?_ | refine J.skipU rfl rfl rfl rfl ?_ | (refine J.unguard rfl rfl rfl ?_; refine J.move rfl rfl ?_)
  refine J.unguard rfl rfl rfl ?_
  refine J.bin rfl rfl rfl rfl ?_
  refine J.name 53 rfl (show Value.bool _ = .bool false by simp) ?_
  (first | refine J.pickT rfl rfl rfl ?_ | refine J.pickF rfl rfl rfl ?_)
  refine J.move rfl rfl ?_
  first | refine J.skip rfl rfl rfl rfl rfl ?_ | refine J.skipU rfl rfl rfl rfl ?_ | (refine J.unguard rfl rfl rfl ?_; refine J.fieldAddr Ty.fd107_3 rfl rfl ?_)
  first | refine J.skip rfl rfl rfl rfl rfl ?_ | refine J.skipU rfl rfl rfl rfl ?_ | (refine J.unguard rfl rfl rfl ?_; refine J.loadO Ty.a26 rfl (by repeat first | exact .head _ | apply List.Mem.tail | apply List.mem_append_right) (by exact rfl) rfl ?_)
  refine J.unguard rfl rfl rfl ?_
  refine J.callB (v := .bool true) (fun w1 w2 hw hb => hw.step hb) Ty.bd52 rfl rfl (fun w1 hw => by
    have h := simple_spec (.slice (some ⟨q, 0, none⟩) way.length cq) way w1 (hrq (hw.perm (l' := (q, cb (way.map iV ++ sp) 3) :: ((b13, cb (cS p a b (.slice (some ⟨q, 0, none⟩) way.length cq)) 107) :: (b10, cb (cD nilV false false) 37) :: (b8, cb (cFG f ⟨.slice at1 f.tr.length ct1, .slice ai1 f.ids.length ci1, .slice av1 f.val.length cv1, .slice ax1 f.txt.length cx1⟩) 52) :: (b6, cb (cW n id) 41) :: [(t, tabO most mb), (mb, .map es clock)])) (by (refine perm_cnt (fun _ => ?_)); simp only [cntB_append, cntB_cons, cntB_nil, Nat.add_zero, Nat.zero_add]; try ac_rfl))) (by omega)
    rw [decide_eq_true hnd] at h
    exact h) ?_
  first | refine J.skip rfl rfl rfl rfl rfl ?_ | refine J.skipU rfl rfl rfl rfl ?_ | (refine J.unguard rfl rfl rfl ?_; refine J.not rfl rfl ?_)
  (first | refine J.pickT rfl rfl rfl ?_ | refine J.pickF rfl rfl rfl ?_)
  refine J.nil ?_
  refine JX.thenN (hK5 _ _ ?_)
  first | refine JC.condF rfl ?_ | refine JC.cond rfl (fun h => by first | (exfalso; simp at h; omega) | (simp at h)) (fun _ => ?_)
  refine JC.skip ?_
  refine JX.thenN (hK4 _ _ ?_)
  refine JC.seq (fun K6 hK6 => ?_)
  refine JC.region ?_
  refine J.move rfl rfl ?_
  refine J.fieldAddr Ty.fd107_0 rfl rfl ?_
  refine J.loadOA (vs := cP p) Ty.a25 Ty.s25 rfl (by repeat first | exact .head _ | apply List.Mem.tail | apply List.mem_append_right) (by exact rfl) rfl rfl ?_
  refine J.buildS (cs := cP p) Ty.pl114 zD rfl (by kernel_rfl) rfl ?_
  refine J.iface (by kernel_rfl) rfl rfl ?_
  refine J.callB (v := .agg (cF 5 p zI zI nilV).toArray) (fun w1 w2 hw hb => hw.step hb) Ty.bd54 rfl rfl (fun w1 hw => plainD_spec p w1) ?_
  refine J.buildS (cs := cH fr (cF 5 p zI zI nilV)) Ty.pl54 zH rfl (by kernel_rfl) rfl ?_
  refine J.buildSl (cs := cH fr (cF 5 p zI zI nilV)) Ty.el35 Ty.s54 zH rfl rfl rfl rfl (by kernel_rfl) rfl rfl (fun b69 => ?_)
  refine J.buildS (cs := cD (.slice (some ⟨b69, 0, none⟩) 1 1) false false) Ty.pl37 zN rfl (by kernel_rfl) rfl ?_
  refine J.alloc zN rfl rfl (fun b16 => ?_)
  refine J.storeW Ty.s37 rfl rfl rfl rfl rfl (by simp [Value.oneCell']) (by repeat first | exact .here | apply Up.there) ?_
  refine J.nil ?_
  refine JX.thenN (hK6 _ _ ?_)
  refine JC.seq (fun K7 hK7 => ?_)
  refine JC.region ?_
  refine J.fieldAddr Ty.fd107_0 rfl rfl ?_
  refine J.loadOA (vs := cP p) Ty.a25 Ty.s25 rfl (by repeat first | exact .head _ | apply List.Mem.tail | apply List.mem_append_right) (by exact rfl) rfl rfl ?_
  refine J.fieldAddr Ty.fd107_1 rfl rfl ?_
  refine J.loadOA (vs := cI a) Ty.a23 Ty.s23 rfl (by repeat first | exact .head _ | apply List.Mem.tail | apply List.mem_append_right) (by exact rfl) rfl rfl ?_
  refine J.fieldAddr Ty.fd107_2 rfl rfl ?_
  refine J.loadOA (vs := cI b) Ty.a23 Ty.s23 rfl (by repeat first | exact .head _ | apply List.Mem.tail | apply List.mem_append_right) (by exact rfl) rfl rfl ?_
  refine J.move rfl rfl ?_
  refine J.buildS (cs := cE (⟨p, a, b, fr, -1⟩ : EV)) Ty.pl34 Ty.zE_ rfl (by kernel_rfl) rfl ?_
  refine J.alloc Ty.zE_ rfl rfl (fun b17 => ?_)
  refine J.storeW Ty.s34 rfl rfl rfl rfl rfl (by simp [Value.oneCell']) (by repeat first | exact .here | apply Up.there) ?_
  refine J.nil ?_
  refine JX.thenN (hK7 _ _ ?_)
  refine JC.seq (fun K8 hK8 => ?_)
  refine JC.region ?_
  refine J.move rfl rfl ?_
  refine J.fieldAddr Ty.fd107_3 rfl rfl ?_
  refine J.loadO Ty.a26 rfl (by repeat first | exact .head _ | apply List.Mem.tail | apply List.mem_append_right) (by exact rfl) rfl ?_
  refine J.lenS rfl Ty.u26 rfl rfl ?_
  (first | refine J.subN rfl rfl (by omega) (by omega) rfl ?_ | refine J.bin rfl rfl rfl rfl ?_)
  refine J.bin rfl rfl rfl rfl ?_
  refine J.name 84 rfl (show Value.bool _ = .bool false by simp; omega) ?_
  refine J.assign rfl rfl ?_
  refine J.nil ?_
  refine JX.thenN (hK8 _ _ ?_)
  refine JC.seq (fun K9 hK9 => ?_)
  refine JC.seq (fun K10 hK10 => ?_)
  refine JC.region ?_
  refine J.move rfl rfl ?_
  refine J.move rfl rfl ?_
  first | refine J.skip rfl rfl rfl rfl rfl ?_ | refine J.skipU rfl rfl rfl rfl ?_ | (refine J.unguard rfl rfl rfl ?_; refine J.fieldAddr Ty.fd107_2 rfl rfl ?_)
  first | refine J.skip rfl rfl rfl rfl rfl ?_ | refine J.skipU rfl rfl rfl rfl ?_ | (refine J.unguard rfl rfl rfl ?_; refine J.loadOA (vs := cI b) Ty.a23 Ty.s23 rfl (by repeat first | exact .head _ | apply List.Mem.tail | apply List.mem_append_right) (by exact rfl) rfl rfl ?_)
  first | refine J.skip rfl rfl rfl rfl rfl ?_ | refine J.skipU rfl rfl rfl rfl ?_ | (refine J.unguard rfl rfl rfl ?_; refine J.fieldAddr Ty.fd41_1 rfl rfl ?_)
  first | refine J.skip rfl rfl rfl rfl rfl ?_ | refine J.skipU rfl rfl rfl rfl ?_ | (refine J.unguard rfl rfl rfl ?_; refine J.loadOA (vs := cI id) Ty.a23 Ty.s23 rfl (by repeat first | exact .head _ | apply List.Mem.tail | apply List.mem_append_right) (by exact rfl) rfl rfl ?_)
  first | refine J.skip rfl rfl rfl rfl rfl ?_ | refine J.skipU rfl rfl rfl rfl ?_ | (refine J.unguard rfl rfl rfl ?_; refine J.neI Ty.QI Ty.keyI rfl rfl rfl ?_)
  (first | refine J.pickT rfl rfl rfl ?_ | refine J.pickF rfl rfl rfl ?_)
  refine J.nil ?_
  refine JX.thenN (hK10 _ _ ?_)
  first | refine JC.condF rfl ?_ | refine JC.cond rfl (fun h => by first | (exfalso; simp at h; omega) | (simp at h)) (fun _ => ?_)
  refine JC.skip ?_
  refine JX.thenN (hK9 _ _ ?_)
  refine JC.seq (fun K11 hK11 => ?_)
  refine JC.seq (fun K12 hK12 => ?_)
  refine JC.region ?_
  refine J.move rfl rfl ?_
  refine J.not rfl rfl ?_
  refine J.nil ?_
  refine JX.thenN (hK12 _ _ ?_)
  first | refine JC.condT rfl ?_ | refine JC.cond rfl (fun _ => ?_) (fun h => by first | (exfalso; simp at h; omega) | (simp at h))
  refine JC.seq (fun K13 hK13 => ?_)
  refine JC.region ?_
  refine J.fieldAddr Ty.fd107_3 rfl rfl ?_
  refine J.loadO Ty.a26 rfl (by repeat first | exact .head _ | apply List.Mem.tail | apply List.mem_append_right) (by exact rfl) rfl ?_
  refine J.move rfl rfl ?_
  (first | refine J.addN rfl rfl (by omega) (by omega) rfl ?_ | refine J.bin rfl rfl rfl rfl ?_)
  refine J.indexAddrS Ty.el26 Ty.s3 rfl rfl (by omega) (by omega) rfl ?_
  refine J.load1 (v := iV nx) Ty.a3 rfl (fun w1 hw => rowI_at (i := i + 1) (hrq (hw.perm (l' := (q, cb (way.map iV ++ sp) 3) :: ((b17, cb (cE (⟨p, a, b, fr, -1⟩ : EV)) 34) :: (b16, cb (cD (.slice (some ⟨b69, 0, none⟩) 1 1) false false) 37) :: (b69, cb (cH fr (cF 5 p zI zI nilV)) 54) :: (b13, cb (cS p a b (.slice (some ⟨q, 0, none⟩) way.length cq)) 107) :: (b10, cb (cD nilV false false) 37) :: (b8, cb (cFG f ⟨.slice at1 f.tr.length ct1, .slice ai1 f.ids.length ci1, .slice av1 f.val.length cv1, .slice ax1 f.txt.length cx1⟩) 52) :: (b6, cb (cW n id) 41) :: [(t, tabO most mb), (mb, .map es clock)])) (by (refine perm_cnt (fun _ => ?_)); simp only [cntB_append, cntB_cons, cntB_nil, Nat.add_zero, Nat.zero_add]; try ac_rfl))) hnx (by omega)) rfl ?_
  refine J.fieldAddr Ty.fd34_4 rfl rfl ?_
  refine J.storeO (cs := cE (⟨p, a, b, fr, -1⟩ : EV)) (vs := [iV nx]) Ty.s3 rfl rfl rfl rfl (by simp [Value.oneCell']) .here (by simp) ?_
  refine J.perm ((b17, cb (cE (⟨p, a, b, fr, nx⟩ : EV)) 34) :: (b16, cb (cD (.slice (some ⟨b69, 0, none⟩) 1 1) false false) 37) :: (b69, cb (cH fr (cF 5 p zI zI nilV)) 54) :: (b13, cb (cS p a b (.slice (some ⟨q, 0, none⟩) way.length cq)) 107) :: (b10, cb (cD nilV false false) 37) :: (b8, cb (cFG f ⟨.slice at1 f.tr.length ct1, .slice ai1 f.ids.length ci1, .slice av1 f.val.length cv1, .slice ax1 f.txt.length cx1⟩) 52) :: (b6, cb (cW n id) 41) :: (q, cb (way.map iV ++ sp) 3) :: [(t, tabO most mb), (mb, .map es clock)]) (.refl _) ?_
  refine J.nil ?_
  refine JX.thenN (hK13 _ _ ?_)
  refine JC.seq (fun K14 hK14 => ?_)
  refine JC.region ?_
  refine J.move rfl rfl ?_
  refine J.fieldAddr Ty.fd34_4 rfl rfl ?_
  refine J.loadO Ty.a3 rfl (by repeat first | exact .head _ | apply List.Mem.tail | apply List.mem_append_right) (by exact rfl) rfl ?_
  refine J.callB (v := .bool true) (fun w1 w2 hw hb => hw.step hb) Ty.bd53 rfl rfl (fun w1 hw => by
    have h := isOpen_spec ov os nx w1 (hro.st hoffo hw) hlo
    rw [hop] at h
    exact h) ?_
  refine J.not rfl rfl ?_
  refine J.nil ?_
  refine JX.thenN (hK14 _ _ ?_)
  first | refine JC.condF rfl ?_ | refine JC.cond rfl (fun h => by first | (exfalso; simp at h; omega) | (simp at h)) (fun _ => ?_)
  refine JC.skip ?_
  refine JX.thenN (hK11 _ _ ?_)
  refine JC.seq (fun K15 hK15 => ?_)
  refine JC.seq (fun K16 hK16 => ?_)
  refine JC.region ?_
  refine J.move rfl rfl ?_
  refine J.loadOA (vs := cE (⟨p, a, b, fr, nx⟩ : EV)) Ty.a34 Ty.s34 rfl (by repeat first | exact .head _ | apply List.Mem.tail | apply List.mem_append_right) (by exact rfl) rfl rfl ?_
  refine J.perm ([(t, tabO most mb), (mb, .map es clock)] ++ ((b17, cb (cE (⟨p, a, b, fr, nx⟩ : EV)) 34) :: (b16, cb (cD (.slice (some ⟨b69, 0, none⟩) 1 1) false false) 37) :: (b69, cb (cH fr (cF 5 p zI zI nilV)) 54) :: (b13, cb (cS p a b (.slice (some ⟨q, 0, none⟩) way.length cq)) 107) :: (b10, cb (cD nilV false false) 37) :: (b8, cb (cFG f ⟨.slice at1 f.tr.length ct1, .slice ai1 f.ids.length ci1, .slice av1 f.val.length cv1, .slice ax1 f.txt.length cx1⟩) 52) :: (b6, cb (cW n id) 41) :: (q, cb (way.map iV ++ sp) 3) :: [])) (by (refine perm_cnt (fun _ => ?_)); simp only [cntB_append, cntB_cons, cntB_nil, Nat.add_zero, Nat.zero_add]; try ac_rfl) ?_
  refine J.callS (α := Array MapEntry × Nat) (V := fun _ => .int .i64 0) (Pr := fun y => Tab L' y.1 y.2) (L := fun y => [(t, tabO most mb), (mb, .map y.1 y.2)]) (l1 := [(t, tabO most mb), (mb, .map es clock)]) Ty.bd17 rfl rfl (fun w1 hw => add_all hw.owns hT (⟨p, a, b, fr, nx⟩ : EV) hokE hadd) (fun y hT' => ?_)
  obtain ⟨es', clock'⟩ := y
  simp only at hT' ⊢
  refine J.perm ((b17, cb (cE (⟨p, a, b, fr, nx⟩ : EV)) 34) :: (b16, cb (cD (.slice (some ⟨b69, 0, none⟩) 1 1) false false) 37) :: (b69, cb (cH fr (cF 5 p zI zI nilV)) 54) :: (b13, cb (cS p a b (.slice (some ⟨q, 0, none⟩) way.length cq)) 107) :: (b10, cb (cD nilV false false) 37) :: (b8, cb (cFG f ⟨.slice at1 f.tr.length ct1, .slice ai1 f.ids.length ci1, .slice av1 f.val.length cv1, .slice ax1 f.txt.length cx1⟩) 52) :: (b6, cb (cW n id) 41) :: (q, cb (way.map iV ++ sp) 3) :: [(t, tabO most mb), (mb, .map es' clock')]) (by (refine perm_cnt (fun _ => ?_)); simp only [cntB_append, cntB_cons, cntB_nil, Nat.add_zero, Nat.zero_add]; try ac_rfl) ?_
  refine J.assign rfl rfl ?_
  refine J.nil ?_
  refine JX.thenN (hK16 _ _ ?_)
  refine JC.seq (fun K17 hK17 => ?_)
  refine JC.region ?_
  refine J.move rfl rfl ?_
  refine J.bin rfl rfl rfl rfl ?_
  refine J.nil ?_
  refine JX.thenN (hK17 _ _ ?_)
  first | refine JC.condF rfl ?_ | refine JC.cond rfl (fun h => by first | (exfalso; simp at h; omega) | (simp at h)) (fun _ => ?_)
  refine JC.skip ?_
  refine JX.thenN (hK15 _ _ ?_)
  refine JC.seq (fun K18 hK18 => ?_)
  refine JC.seq (fun K19 hK19 => ?_)
  refine JC.region ?_
  refine J.move rfl rfl ?_
  refine J.nil ?_
  refine JX.thenN (hK19 _ _ ?_)
  first | refine JC.condF rfl ?_ | refine JC.cond rfl (fun h => by first | (exfalso; simp at h; omega) | (simp at h)) (fun _ => ?_)
  refine JC.skip ?_
  refine JX.thenN (hK18 _ _ ?_)
  refine JC.seq (fun K20 hK20 => ?_)
  apply JC.drawX (α := Option Addr × Nat × List (Nat × Obj)) 6 (fun x => match x with | ⟨a8, c8, lp8⟩ => [.pointer (some ⟨b17, 0 + 50, none⟩), iV nx, .agg (cS p a b (.slice (some ⟨q, 0, none⟩) way.length cq)).toArray, .iface 107 (.agg (cS p a b (.slice (some ⟨q, 0, none⟩) way.length cq)).toArray), .agg (cF 4 p a b (.slice a8 way.length c8)).toArray, .agg (cH nx (cF 4 p a b (.slice a8 way.length c8))).toArray]) (fun m x => match x with | ⟨a8, c8, lp8⟩ => fun w1 => ((m 5 = true → m 4 = true) ∧ (m 4 = true → Vec 3 1 (.slice a8 way.length c8) way.length (way.map iV) lp8)) ∧ St w [t, mb] ((b17, cb (cE (⟨p, a, b, fr, nx⟩ : EV)) 34) :: (b16, cb (cD (.slice (some ⟨b69, 0, none⟩) 1 1) false false) 37) :: (b69, cb (cH fr (cF 5 p zI zI nilV)) 54) :: (b13, cb (cS p a b (.slice (some ⟨q, 0, none⟩) way.length cq)) 107) :: (b10, cb (cD nilV false false) 37) :: (b8, cb (cFG f ⟨.slice at1 f.tr.length ct1, .slice ai1 f.ids.length ci1, .slice av1 f.val.length cv1, .slice ax1 f.txt.length cx1⟩) 52) :: (b6, cb (cW n id) 41) :: (q, cb (way.map iV ++ sp) 3) :: (t, tabO most mb) :: (mb, .map es' clock') :: (bif m 4 then lp8 else [])) w1) Ty.mixed rfl rfl rfl (by kernel_rfl) rfl rfl ?hinit ?hstep ?htail
  case hinit => exact fun w1 hw => ⟨(none, 0, []), ⟨fun h => (by cases h), fun h => (by cases h)⟩, hw.drew⟩
  case hstep =>
    refine ⟨fun m x hm hp => ?_, fun m x hm hp => ?_, fun m x hm hp => ?_, fun m x hm hp => ?_, fun m x hm hp => ?_, fun m x hm hp => ?_, trivial⟩
    · skip
      obtain ⟨a8, c8, lp8⟩ := x
      show J _ _ _ _ _ (_) _
      refine J.pr (fun hF => ?_)
      refine J.fieldAddr Ty.fd34_4 rfl rfl ?_
      exact J.finX rfl (fun _ hw => ⟨⟨a8, c8, lp8⟩, rfl, fun _ _ _ => rfl, hF, hw⟩)
    · skip
      obtain ⟨a8, c8, lp8⟩ := x
      show J _ _ _ _ _ ((120, .pointer (some ⟨b17, 0 + 50, none⟩)) :: _) _
      refine J.pr (fun hF => ?_)
      refine J.loadO Ty.a3 rfl (by repeat first | exact .head _ | apply List.Mem.tail | apply List.mem_append_right) (by exact rfl) rfl ?_
      exact J.finX rfl (fun _ hw => ⟨⟨a8, c8, lp8⟩, rfl, fun _ _ _ => rfl, hF, hw⟩)
    · skip
      obtain ⟨a8, c8, lp8⟩ := x
      show J _ _ _ _ _ (_) _
      refine J.pr (fun hF => ?_)
      refine J.loadOA (vs := cS p a b (.slice (some ⟨q, 0, none⟩) way.length cq)) Ty.a107 Ty.s107 rfl (by repeat first | exact .head _ | apply List.Mem.tail | apply List.mem_append_right) (by exact rfl) rfl rfl ?_
      exact J.finX rfl (fun _ hw => ⟨⟨a8, c8, lp8⟩, rfl, fun _ _ _ => rfl, hF, hw⟩)
    · skip
      obtain ⟨a8, c8, lp8⟩ := x
      show J _ _ _ _ _ ((122, .agg (cS p a b (.slice (some ⟨q, 0, none⟩) way.length cq)).toArray) :: _) _
      refine J.pr (fun hF => ?_)
      refine J.iface (by kernel_rfl) rfl rfl ?_
      exact J.finX rfl (fun _ hw => ⟨⟨a8, c8, lp8⟩, rfl, fun _ _ _ => rfl, hF, hw⟩)
    · skip
      obtain ⟨a8, c8, lp8⟩ := x
      show J _ _ _ _ _ ((123, .iface 107 (.agg (cS p a b (.slice (some ⟨q, 0, none⟩) way.length cq)).toArray)) :: _) _
      refine J.pr (fun hF => ?_)
      refine J.callS (α := Value × List (Nat × Obj)) (V := fun x => .agg (cF 4 p a b x.1).toArray) (Pr := fun x => Vec 3 1 x.1 way.length (way.map iV) x.2) (L := fun x => x.2) (l1 := []) Ty.bd54 rfl rfl (fun w1 hw => plainS_spec p a b w1 (.slice (some ⟨q, 0, none⟩) way.length cq) way (hrq (hw.perm (l' := (q, cb (way.map iV ++ sp) 3) :: ((b17, cb (cE (⟨p, a, b, fr, nx⟩ : EV)) 34) :: (b16, cb (cD (.slice (some ⟨b69, 0, none⟩) 1 1) false false) 37) :: (b69, cb (cH fr (cF 5 p zI zI nilV)) 54) :: (b13, cb (cS p a b (.slice (some ⟨q, 0, none⟩) way.length cq)) 107) :: (b10, cb (cD nilV false false) 37) :: (b8, cb (cFG f ⟨.slice at1 f.tr.length ct1, .slice ai1 f.ids.length ci1, .slice av1 f.val.length cv1, .slice ax1 f.txt.length cx1⟩) 52) :: (b6, cb (cW n id) 41) :: (t, tabO most mb) :: (mb, .map es' clock') :: (bif m 4 then lp8 else []))) (by (refine perm_cnt (fun _ => ?_)); simp only [cntB_append, cntB_cons, cntB_nil, Nat.add_zero, Nat.zero_add]; try ac_rfl))) hlen) (fun x hv9 => ?_)
      obtain ⟨v9, lp9⟩ := x
      simp only at hv9 ⊢
      obtain ⟨a9, c9, rfl, hc9⟩ := hv9.form
      refine J.nil (JX.finB rfl (fun w1 hw => ⟨⟨⟨a9, c9, lp9⟩, rfl, fun j h1 h2 => ?_, ?_⟩, trivial⟩))
      · match j, h1 with
        | 0, _ => (first | rfl | trivial)
        | 1, _ => (first | rfl | trivial)
        | 2, _ => (first | rfl | trivial)
        | 3, _ => (first | rfl | trivial)
        | 4, _ => exact absurd (h2.symm.trans hm) (by decide)
        | 5, _ => exact absurd ((hF.1 h2).symm.trans hm) (by decide)
        | j + 6, h1 => omega
      show ((m 5 = true → true = true) ∧ (true = true → Vec 3 1 (.slice a9 way.length c9) way.length (way.map iV) lp9)) ∧ St w [t, mb] ((b17, cb (cE (⟨p, a, b, fr, nx⟩ : EV)) 34) :: (b16, cb (cD (.slice (some ⟨b69, 0, none⟩) 1 1) false false) 37) :: (b69, cb (cH fr (cF 5 p zI zI nilV)) 54) :: (b13, cb (cS p a b (.slice (some ⟨q, 0, none⟩) way.length cq)) 107) :: (b10, cb (cD nilV false false) 37) :: (b8, cb (cFG f ⟨.slice at1 f.tr.length ct1, .slice ai1 f.ids.length ci1, .slice av1 f.val.length cv1, .slice ax1 f.txt.length cx1⟩) 52) :: (b6, cb (cW n id) 41) :: (q, cb (way.map iV ++ sp) 3) :: (t, tabO most mb) :: (mb, .map es' clock') :: (bif true then lp9 else [])) w1
      simp only [hm, cond_true, cond_false] at hw ⊢
      exact ⟨⟨fun _ => trivial, fun _ => hv9⟩, hw.perm (by (refine perm_cnt (fun _ => ?_)); simp only [cntB_append, cntB_cons, cntB_nil, Nat.add_zero, Nat.zero_add]; try ac_rfl)⟩
    · skip
      obtain ⟨a8, c8, lp8⟩ := x
      show J _ _ _ _ _ ((124, .agg (cF 4 p a b (.slice a8 way.length c8)).toArray) :: (121, iV nx) :: _) _
      have hp4 : m 4 = true := predsT hp (by kernel_rfl)
      refine J.pr (fun hF => ?_)
      refine J.buildS (cs := cH nx (cF 4 p a b (.slice a8 way.length c8))) Ty.pl54 zH rfl (by kernel_rfl) rfl ?_
      refine J.nil (JX.finB rfl (fun w1 hw => ⟨⟨⟨a8, c8, lp8⟩, rfl, fun j h1 h2 => ?_, ?_⟩, trivial⟩))
      · match j, h1 with
        | 0, _ => (first | rfl | trivial)
        | 1, _ => (first | rfl | trivial)
        | 2, _ => (first | rfl | trivial)
        | 3, _ => (first | rfl | trivial)
        | 4, _ => (first | rfl | trivial)
        | 5, _ => (first | rfl | trivial)
        | j + 6, h1 => omega
      show ((true = true → m 4 = true) ∧ (m 4 = true → Vec 3 1 (.slice a8 way.length c8) way.length (way.map iV) lp8)) ∧ St w [t, mb] ((b17, cb (cE (⟨p, a, b, fr, nx⟩ : EV)) 34) :: (b16, cb (cD (.slice (some ⟨b69, 0, none⟩) 1 1) false false) 37) :: (b69, cb (cH fr (cF 5 p zI zI nilV)) 54) :: (b13, cb (cS p a b (.slice (some ⟨q, 0, none⟩) way.length cq)) 107) :: (b10, cb (cD nilV false false) 37) :: (b8, cb (cFG f ⟨.slice at1 f.tr.length ct1, .slice ai1 f.ids.length ci1, .slice av1 f.val.length cv1, .slice ax1 f.txt.length cx1⟩) 52) :: (b6, cb (cW n id) 41) :: (q, cb (way.map iV ++ sp) 3) :: (t, tabO most mb) :: (mb, .map es' clock') :: (bif m 4 then lp8 else [])) w1
      exact ⟨⟨fun _ => hp4, hF.2⟩, hw⟩
  case htail =>
    intro x
    obtain ⟨a8, c8, lp8⟩ := x
    show J _ _ _ _ _ ((125, .agg (cH nx (cF 4 p a b (.slice a8 way.length c8))).toArray) :: (124, .agg (cF 4 p a b (.slice a8 way.length c8)).toArray) :: (123, .iface 107 (.agg (cS p a b (.slice (some ⟨q, 0, none⟩) way.length cq)).toArray)) :: (122, .agg (cS p a b (.slice (some ⟨q, 0, none⟩) way.length cq)).toArray) :: (121, iV nx) :: (120, .pointer (some ⟨b17, 0 + 50, none⟩)) :: _) (fun w1 => ((true = true → true = true) ∧ (true = true → Vec 3 1 (.slice a8 way.length c8) way.length (way.map iV) lp8)) ∧ St w [t, mb] ((b17, cb (cE (⟨p, a, b, fr, nx⟩ : EV)) 34) :: (b16, cb (cD (.slice (some ⟨b69, 0, none⟩) 1 1) false false) 37) :: (b69, cb (cH fr (cF 5 p zI zI nilV)) 54) :: (b13, cb (cS p a b (.slice (some ⟨q, 0, none⟩) way.length cq)) 107) :: (b10, cb (cD nilV false false) 37) :: (b8, cb (cFG f ⟨.slice at1 f.tr.length ct1, .slice ai1 f.ids.length ci1, .slice av1 f.val.length cv1, .slice ax1 f.txt.length cx1⟩) 52) :: (b6, cb (cW n id) 41) :: (q, cb (way.map iV ++ sp) 3) :: (t, tabO most mb) :: (mb, .map es' clock') :: (bif true then lp8 else [])) w1)
    refine J.pr (fun hF => ?_)
    have hv9 := hF.2 rfl
    refine J.buildSl (cs := cH nx (cF 4 p a b (.slice a8 way.length c8))) Ty.el35 Ty.s54 zH rfl rfl rfl rfl (by kernel_rfl) rfl rfl (fun b126 => ?_)
    refine J.buildS (cs := cD (.slice (some ⟨b126, 0, none⟩) 1 1) false false) Ty.pl37 zN rfl (by kernel_rfl) rfl ?_
    refine J.storeW Ty.s37 rfl rfl rfl rfl rfl (by simp [Value.oneCell']) (by repeat first | exact .here | apply Up.there) ?_
    refine J.nil ?_
    refine JX.thenN (hK20 _ _ ?_)
    refine JC.ret ?_
    refine JX.retC rfl rfl Ty.a37 Ty.s37 (vs := cD (.slice (some ⟨b126, 0, none⟩) 1 1) false false) rfl (fun w1 hw => Cells.of_block (hw.own _ (.tail _ (.tail _ (.tail _ (.tail _ (.tail _ (.head _))))))) rfl) (fun w1 hw => ?_)
    exact ⟨⟨b126, a8, c8, lp8, es', clock'⟩, rfl, ⟨hv9, hT'⟩, (hw.perm (l' := ([(b17, cb (cE (⟨p, a, b, fr, nx⟩ : EV)) 34), (b16, cb (cD (.slice (some ⟨b69, 0, none⟩) 1 1) false false) 37), (b13, cb (cS p a b (.slice (some ⟨q, 0, none⟩) way.length cq)) 107), (b10, cb (cD (.slice (some ⟨b126, 0, none⟩) 1 1) false false) 37), (b8, cb (cFG f ⟨.slice at1 f.tr.length ct1, .slice ai1 f.ids.length ci1, .slice av1 f.val.length cv1, .slice ax1 f.txt.length cx1⟩) 52), (b6, cb (cW n id) 41), (q, cb (way.map iV ++ sp) 3), (b69, cb (cH fr (cF 5 p zI zI nilV)) 54)]) ++ ((b126, cb (cH nx (cF 4 p a b (.slice a8 way.length c8))) 54) :: (lp8 ++ [(t, tabO most mb), (mb, .map es' clock')]))) (by (refine perm_cnt (fun _ => ?_)); simp only [cntB_append, cntB_cons, cntB_nil, Nat.add_zero, Nat.zero_add]; try ac_rfl)).drop (List.sublist_append_right _ _)⟩

end Go.Proofs.Ytpldpkdlloolkaa
/-
  The document's Place, Simple, Open: contracts.
-/
namespace Go.Proofs.Ytpldpkdlloolkaa
open Go.J Go.RowKit
set_option linter.unusedVariables false
set_option linter.unusedSimpArgs false
set_option maxRecDepth 4000
theorem place_min : ∀ {xs : List Int} {n : Int} {j : Nat}, xs[j]? = some n → placeP xs n ≤ j ∧ 0 ≤ placeP xs n
  | [], _, _, h => by simp at h
  | x :: xs, n, 0, h => by
    have : x = n := by simpa using h
    simp [placeP, this]
  | x :: xs, n, j + 1, h => by
    have ih := place_min (xs := xs) (n := n) (j := j) (by simpa using h)
    simp only [placeP]
    split
    · omega
    · split <;> omega
end Go.Proofs.Ytpldpkdlloolkaa
/-
  Where a path's begin is refused ahead of the table: contracts.
-/
namespace Go.Proofs.Ytpldpkdlloolkaa
open Go.J Go.RowKit
set_option linter.unusedVariables false
set_option linter.unusedSimpArgs false
set_option maxRecDepth 8000
/-- a begin that is refused -/
def badW (n : Int) (me b : IDV) (way : List Int) : Prop := way.length < 2 ∨ 64 < way.length ∨ ¬ way.Nodup ∨ way[0]? ≠ some n ∨ b = me
end Go.Proofs.Ytpldpkdlloolkaa
/-
  The document's Start behind its table: contracts.
-/
namespace Go.Proofs.Ytpldpkdlloolkaa
open Go.J Go.RowKit
set_option linter.unusedVariables false
set_option linter.unusedSimpArgs false
set_option maxRecDepth 8000
/-- what the document's Start leaves -/
structure OutR where
  h : Nat
  a : Option Addr
  c : Nat
  lp : List (Nat × Obj)
  v : Value
  lr : List (Nat × Obj)
end Go.Proofs.Ytpldpkdlloolkaa
/-
  What came of a path's begin, twice: contracts.
-/
namespace Go.Proofs.Ytpldpkdlloolkaa
open Go.J Go.RowKit
set_option linter.unusedVariables false
set_option linter.unusedSimpArgs false
set_option maxRecDepth 8000
theorem FRows.below {w w' : World} {f : FV} {s : FSl} (h : FRows w f s) (hb : Bel w w') : FRows w' f s := ⟨h.tr.below hb, h.ids.below hb, h.val.below hb, h.txt.below hb⟩

end Go.Proofs.Ytpldpkdlloolkaa
/-
  A table of entries, and the document's: contract.
-/
namespace Go.Proofs.Ytpldpkdlloolkaa
open Go.J Go.RowKit
set_option linter.unusedVariables false
set_option linter.unusedSimpArgs false
set_option maxRecDepth 4000
structure LaidS where
  t1 : Nat
  m1 : Nat
  rt : Nat
  es : Array MapEntry
  ck : Nat
  vr : Value
  lr : List (Nat × Obj)
abbrev LaidS.blk (x : LaidS) (mo : Int) : List (Nat × Obj) := (x.t1, tabO mo x.m1) :: (x.m1, .map x.es x.ck) :: (x.rt, rtabO x.vr mo) :: x.lr

set_option maxHeartbeats 1000000 in
theorem laid_spec (v : Value) (xs : List EV) (most : Int) (w : World) (hrv : Row w v xs.length (fE xs)) (hok : ∀ x, x ∈ xs → okE x) (hxl : xs.length ≤ 1954687338213) {mo : Int} (hmo : min (max most 0) 128 = mo) :
    Calls Try.prog 45 [v, .int .i64 most].toArray w fun r w' => ∃ x : LaidS, r = .returned (.tuple #[.pointer (some ⟨x.t1, 0, none⟩), .pointer (some ⟨x.rt, 0, none⟩)]) ∧ (Tab (laidL mo xs) x.es x.ck ∧ Vec 34 51 x.vr (ordE (laidL mo xs)).length (fE (ordE (laidL mo xs))) x.lr) ∧ St w [] (x.blk mo) w' := by
  obtain ⟨av, cv, rfl, hcv, _⟩ := id hrv
  have hmb : mo ≤ 128 := by omega
  have hmb0 : 0 ≤ mo := by omega
  have hvr0 : Vec 34 51 (.slice none 0 0) (ordE (laidL mo (xs.take 0))).length (fE (ordE (laidL mo (xs.take 0)))) [] := by rw [show ordE (laidL mo (xs.take 0)) = [] from by simp [ordE, laidL]]; exact Vec.nil _ _
  refine calls_of_J (args := [.slice av xs.length cv, .int .i64 most]) (e := [(0, .slice av xs.length cv), (1, .int .i64 most)]) Try.func45 rfl rfl ⟨rfl, rfl, trivial⟩ (St.start w) ?_
  refine JC.seq (fun K0 hK0 => ?_)
  refine JC.region ?_
  refine J.assign rfl rfl ?_
  refine J.assign rfl rfl ?_
  refine J.nil ?_
  refine JX.thenN (hK0 _ _ ?_)
  refine JC.seq (fun K1 hK1 => ?_)
  refine JC.region ?_
  refine J.move rfl rfl ?_
  refine J.perm ([] ++ ([])) (.refl _) ?_
  refine J.callS (α := Nat × Nat) (V := fun x => .pointer (some ⟨x.1, 0, none⟩)) (Pr := fun _ => True) (L := fun x => [(x.1, tabO (min (max (most) 0) 128) x.2), (x.2, .map #[] 0)]) (l1 := []) Ty.bd16 rfl rfl (fun w1 hw => (new_spec most w1).mono fun _ _ ⟨x, h1, h2⟩ => ⟨x, h1, trivial, h2⟩) (fun x _ => ?_)
  obtain ⟨t1, m1⟩ := x
  simp only [List.cons_append, List.nil_append]
  rw [hmo]
  refine J.assign rfl rfl ?_
  refine J.nil ?_
  refine JX.thenN (hK1 _ _ ?_)
  refine JC.seq (fun K2 hK2 => ?_)
  refine JC.region ?_
  refine J.move rfl rfl ?_
  refine J.perm ([] ++ ((t1, tabO mo m1) :: (m1, .map #[] 0) :: [])) (.refl _) ?_
  refine J.callS (α := Nat) (V := fun x => .pointer (some ⟨x, 0, none⟩)) (Pr := fun _ => True) (L := fun x => [(x, rtabO (.slice none 0 0) (min (max (most) 0) 128))]) (l1 := []) Ty.bd37 rfl rfl (fun w1 hw => (rnew_spec most w1).mono fun _ _ ⟨x, h1, h2⟩ => ⟨x, h1, trivial, h2⟩) (fun rt _ => ?_)
  simp only [List.cons_append, List.nil_append]
  rw [hmo]
  refine J.assign rfl rfl ?_
  refine J.nil ?_
  refine JX.thenN (hK2 _ _ ?_)
  refine JC.seq (fun K3 hK3 => ?_)
  refine JC.seq (fun K4 hK4 => ?_)
  refine JC.region ?_
  refine J.move rfl rfl ?_
  refine J.lenS rfl Ty.u62 rfl rfl ?_
  refine J.move rfl rfl ?_
  refine J.nil ?_
  refine JX.thenN (hK4 _ _ ?_)
  refine JC.block ?_
  refine JC.conseq (JC.cov (f := (fun st => [(6, .pointer (some ⟨t1, 0, none⟩)), (7, .pointer (some ⟨rt, 0, none⟩)), (14, .slice av xs.length cv), (15, .int .i64 ((xs.length : Nat) : Int)), (16, .int .i64 ((st.1 : Nat) : Int))]) ((0, #[], 0, .slice none 0 0, []) : Nat × Array MapEntry × Nat × Value × List (Nat × Obj))) ⟨rfl, rfl, rfl, rfl, rfl, trivial⟩ (JC.loop (α := Nat × Array MapEntry × Nat × Value × List (Nat × Obj)) (fun st => [(6, .pointer (some ⟨t1, 0, none⟩)), (7, .pointer (some ⟨rt, 0, none⟩)), (14, .slice av xs.length cv), (15, .int .i64 ((xs.length : Nat) : Int)), (16, .int .i64 ((st.1 : Nat) : Int))]) (fun st w' => (st.1 ≤ xs.length ∧ Tab (laidL mo (xs.take st.1)) st.2.1 st.2.2.1 ∧ Vec 34 51 st.2.2.2.1 (ordE (laidL mo (xs.take st.1))).length (fE (ordE (laidL mo (xs.take st.1)))) st.2.2.2.2) ∧ St w [] ((t1, tabO mo m1) :: (m1, .map st.2.1 st.2.2.1) :: (rt, rtabO st.2.2.2.1 mo) :: st.2.2.2.2) w') (fun st => xs.length - st.1) ((0, #[], 0, .slice none 0 0, []) : Nat × Array MapEntry × Nat × Value × List (Nat × Obj)) (fun st => ?_))) (fun w hw => ⟨⟨Nat.zero_le _, Tab.nil, hvr0⟩, hw.perm (by (refine perm_cnt (fun _ => ?_)); simp only [cntB_append, cntB_cons, cntB_nil, Nat.add_zero, Nat.zero_add]; try ac_rfl)⟩)
  obtain ⟨i, es, ck, vr, lr⟩ := st
  refine JC.pr (fun hx1 => ?_)
  obtain ⟨hi, hT, hvr⟩ := hx1
  simp only at hi hT hvr ⊢
  obtain ⟨L, hLe⟩ : ∃ L, laidL mo (xs.take i) = L := ⟨_, rfl⟩
  have hgood := laidL_good mo (xs.take i)
  rw [hLe] at hT hvr hgood
  obtain ⟨ar, cr, rfl, hcr⟩ := hvr.form
  have hlen := hgood.len
  have hol := (ordE_perm L).length_eq
  have hl128 : L.length ≤ 128 := by omega
  have ho128 : (ordE L).length ≤ 128 := by omega
  refine JC.seq (fun K5 hK5 => ?_)
  refine JC.region ?_
  refine J.bin rfl rfl rfl rfl ?_
  refine J.nil ?_
  refine JX.thenN (hK5 _ _ ?_)
  refine JC.seq (fun K6 hK6 => ?_)
  refine JC.cond rfl (fun h0 => ?_) (fun h0 => ?_)
  · skip
    have hlt : i < xs.length := by simp at h0; omega
    have hflx := fE_length xs
    have hclx := (Row.some hrv (by omega))
    obtain ⟨qx, ox, cx', hqe, _, _⟩ := hclx
    simp only [Value.slice.injEq] at hqe
    obtain ⟨rfl, _, rfl⟩ := hqe
    obtain ⟨xa, hxa⟩ : ∃ x, xs[i]? = some x := ⟨_, List.getElem?_eq_getElem hlt⟩
    have hxo := hok xa (List.mem_of_getElem? hxa)
    refine JC.skip ?_
    refine JX.thenN (hK6 _ _ ?_)
    refine JC.seq (fun K7 hK7 => ?_)
    refine JC.block ?_
    refine JC.seq (fun K8 hK8 => ?_)
    refine JC.region ?_
    refine J.indexAddrS Ty.el62 Ty.s34 rfl rfl (by omega) (by omega) rfl ?_
    refine J.loadA (vs := cE xa) Ty.a34 Ty.s34 rfl rfl (fun w1 hw => rowE_at (hrv.below (hw.drop (List.nil_sublist _)).below) hxa (by omega)) rfl ?_
    refine J.alloc Ty.zE_ rfl rfl (fun b9 => ?_)
    refine J.storeW (cs := cE zE) (vs := cE xa) Ty.s34 rfl rfl rfl rfl rfl (one_cE _) .here ?_
    refine J.nil ?_
    refine JX.thenN (hK8 _ _ ?_)
    refine JC.seq (fun K9 hK9 => ?_)
    refine JC.region ?_
    refine J.move rfl rfl ?_
    refine J.loadOA (vs := cE xa) Ty.a34 Ty.s34 rfl (.head _) rfl rfl rfl ?_
    refine J.perm ([(t1, tabO mo m1), (m1, .map es ck)] ++ ((b9, cb (cE xa) 34) :: (rt, rtabO (.slice ar (ordE L).length cr) mo) :: lr)) (by (refine perm_cnt (fun _ => ?_)); simp only [cntB_append, cntB_cons, cntB_nil, Nat.add_zero, Nat.zero_add]; try ac_rfl) ?_
    refine J.callS (α := Array MapEntry × Nat) (V := fun _ => .int .i64 (tadd (L) mo xa).1) (Pr := fun y => Tab (tadd (L) mo xa).2 y.1 y.2) (L := fun y => [(t1, tabO mo m1), (m1, .map y.1 y.2)]) (l1 := [(t1, tabO mo m1), (m1, .map es ck)]) Ty.bd17 rfl rfl (fun w1 hw => (add_spec t1 m1 mo (L) es ck w1 hw.owns hT xa hxo).mono fun _ _ ⟨y, h1, h2, h3⟩ => ⟨y, h1, h2, h3⟩) (fun y hT2 => ?_)
    obtain ⟨es2, ck2⟩ := y
    simp only [List.cons_append, List.nil_append] at hT2 ⊢
    refine J.nil ?_
    refine JX.thenN (hK9 _ _ ?_)
    refine JC.region ?_
    refine J.move rfl rfl ?_
    refine J.loadOA (vs := cE xa) Ty.a34 Ty.s34 rfl (.tail _ (.tail _ (.head _))) rfl rfl rfl ?_
    refine J.perm ((((rt, rtabO (.slice ar (ordE L).length cr) mo)) :: lr) ++ ((b9, cb (cE xa) 34) :: (t1, tabO mo m1) :: (m1, .map es2 ck2) :: [])) (by (refine perm_cnt (fun _ => ?_)); simp only [cntB_append, cntB_cons, cntB_nil, Nat.add_zero, Nat.zero_add]; try ac_rfl) ?_
    refine J.callS (α := Value × List (Nat × Obj)) (V := fun _ => .int .i64 (tadd L mo xa).1) (Pr := fun y => Vec 34 51 y.1 (ordE (tadd L mo xa).2).length (fE (ordE (tadd L mo xa).2)) y.2) (L := fun y => (rt, rtabO y.1 mo) :: y.2) (l1 := (((rt, rtabO (.slice ar (ordE L).length cr) mo)) :: lr)) Ty.bd38 rfl rfl (fun w1 hw => (radd_spec rt _ mo (ordE L) lr w1 hw.owns hvr (ordE_ok hT) (by omega) xa hxo).mono fun _ _ ⟨y, h1, h2, h3⟩ => by rw [radd_ord hT.dist] at h1 h2; exact ⟨y, h1, h2, h3⟩) (fun y hv7 => ?_)
    obtain ⟨v7, l7⟩ := y
    simp only [List.cons_append, List.nil_append] at hv7 ⊢
    refine J.conseq (I' := St w [] ((t1, tabO mo m1) :: (m1, .map es2 ck2) :: (rt, rtabO v7 mo) :: l7)) ?_ (fun w1 hw => (hw.perm (l' := (b9, cb (cE xa) 34) :: (t1, tabO mo m1) :: (m1, .map es2 ck2) :: (rt, rtabO v7 mo) :: l7) (by (refine perm_cnt (fun _ => ?_)); simp only [cntB_append, cntB_cons, cntB_nil, Nat.add_zero, Nat.zero_add]; try ac_rfl)).drop (List.sublist_cons_self _ _))
    refine J.nil ?_
    refine JX.blockN ?_
    refine JX.thenN (hK7 _ _ ?_)
    refine JC.region ?_
    (first | refine J.addN rfl rfl (by omega) (by omega) rfl ?_ | refine J.bin rfl rfl rfl rfl ?_)
    refine J.move rfl rfl ?_
    refine J.nil ?_
    refine JX.thenN ?_
    refine JX.again ((i + 1, es2, ck2, v7, l7) : Nat × Array MapEntry × Nat × Value × List (Nat × Obj)) ?_ ?_ ?_
    · simp only; omega
    · exact ⟨rfl, rfl, rfl, rfl, rfl, trivial⟩
    · exact fun w1 hw => ⟨⟨hlt, by rw [take_snocE hxa, laidL_snoc, hLe]; exact hT2, by rw [take_snocE hxa, laidL_snoc, hLe]; exact hv7⟩, hw⟩
  · skip
    have hge : i = xs.length := by simp at h0; omega
    rw [List.take_of_length_le (by omega)] at hLe
    subst hLe
    refine JC.exit ?_
    refine JX.thenE ?_
    refine JX.thenE ?_
    refine JX.blockE ?_
    refine JX.thenN (hK3 _ _ ?_)
    refine JC.seq (fun K10 hK10 => ?_)
    refine JC.region ?_
    refine J.move rfl rfl ?_
    refine J.move rfl rfl ?_
    refine J.assign rfl rfl ?_
    refine J.assign rfl rfl ?_
    refine J.nil ?_
    refine JX.thenN (hK10 _ _ ?_)
    refine JC.ret ?_
    refine JX.ret2 rfl rfl rfl (fun w hw => ?_)
    exact ⟨⟨t1, m1, rt, es, ck, .slice ar (ordE (laidL mo xs)).length cr, lr⟩, rfl, ⟨hT, hvr⟩, hw⟩

end Go.Proofs.Ytpldpkdlloolkaa
/-
  A node's case and a way that come in.
-/
namespace Go.Proofs.Ytpldpkdlloolkaa
open Go.J Go.RowKit
set_option linter.unusedVariables false
set_option linter.unusedSimpArgs false
set_option maxRecDepth 8000
structure CaseV where
  e : Sl EV
  most : Int
  n : Int
  me : IDV
  o : Sl Bool
structure WayV where
  p : PV
  b : IDV
  t : Sl Int
abbrev cCase (c : CaseV) : List Value := [c.e.v, iV c.most] ++ cW c.n c.me ++ [c.o.v]
abbrev cWay (x : WayV) : List Value := cP x.p ++ cI x.b ++ [x.t.v]
structure RCase (W : World) (cs : List Value) (c : CaseV) : Prop where
  cells : cs = cCase c
  e : RSl 51 72 REnt W [c.e.v] c.e
  most : okN c.most
  n : okN c.n
  o : RSl 1 1 RBool W [c.o.v] c.o
structure RWay (W : World) (cs : List Value) (x : WayV) : Prop where
  cells : cs = cWay x
  p : okN x.p.n
  t : RSl 1 8 (RInt .i64) W [x.t.v] x.t
theorem fsSelf : fieldsT Try.prog 41 = some [(3, 0, 1), (23, 1, 16)] := by kernel_rfl
def RSelf : World → List Value → Int × IDV → Prop := fun _ cs s => cs = cW s.1 s.2 ∧ okN s.1
theorem dec_self : Decodes Try.prog 41 RSelf := by
  intro H enc w fuel cs x h hn
  have hl := dec_len Ty.a41 Ty.s41 h
  obtain ⟨n, hi, wi⟩ := dec_field fsSelf h hn 0 _ rfl (dec_int Ty.u3)
  obtain ⟨a, ha⟩ := dec_field fsSelf h hn 1 _ rfl dec_id
  exact ⟨(n, a), split2 (k := 1) (m := 16) hi ha hl, wi⟩
theorem fsCase : fieldsT Try.prog 85 = some [(62, 0, 1), (3, 1, 1), (41, 2, 17), (28, 19, 1)] := by kernel_rfl
theorem dec_case : Decodes Try.prog 85 RCase := by
  intro H enc w fuel cs x h hn
  have hl := dec_len Ty.a85 Ty.s85 h
  obtain ⟨e, he⟩ := dec_field fsCase h hn 0 _ rfl (dec_slice Ty.el62 Ty.s34 Ty.b34 (by omega) dec_ent)
  obtain ⟨m, hm, wm⟩ := dec_field fsCase h hn 1 _ rfl (dec_int Ty.u3)
  obtain ⟨s, hs, ws⟩ := dec_field fsCase h hn 2 _ rfl dec_self
  obtain ⟨o, ho⟩ := dec_field fsCase h hn 3 _ rfl (dec_slice Ty.el28 Ty.s4 Ty.b4 (by omega) (dec_bool Ty.u4))
  have hd : ∀ (k j : Nat), (cs.drop k).drop j = cs.drop (k + j) := fun k j => by rw [List.drop_drop]
  have e1 : (cs.drop 0).take 1 = [e.v] := he.1
  have e4 : (cs.drop 19).take 1 = [o.v] := ho.1
  have e3 : cs.drop 2 = cW s.1 s.2 ++ [o.v] := split2 (k := 17) (m := 1) (by simpa using hs) (by rw [hd]; exact e4) (by simp; omega)
  have e2 : cs.drop 1 = [iV m] ++ cs.drop 2 := split2 (k := 1) (m := 18) (by simpa using hm) (by rw [hd]; exact List.take_of_length_le (by simp; omega)) (by simp; omega)
  have e0 : cs = [e.v] ++ cs.drop 1 := split2 (k := 1) (m := 19) e1 (List.take_of_length_le (by simp; omega)) hl
  refine ⟨⟨e, m, s.1, s.2, o⟩, ?_, ?_, wm, ws, ?_⟩
  · show cs = [e.v, iV m] ++ cW s.1 s.2 ++ [o.v]
    rw [e0, e2, e3]; rfl
  · have := he; rw [show ((cs.drop (_ : Nat)).take _) = [e.v] from e1] at this; exact this
  · have := ho; rw [show ((cs.drop (_ : Nat)).take _) = [o.v] from e4] at this; exact this
theorem rslB {W : World} {s : Sl Bool} {cs : List Value} (h : RSl 1 1 RBool W cs s) : Row W s.v s.xs.length (s.xs.map bV) := by
  have := rslG (c := fun b => [bV b]) (sz := 1) (fun _ => rfl) (by omega) (fun _ _ _ h => h) h
  rwa [show s.xs.flatMap (fun b => [bV b]) = s.xs.map bV from by induction s.xs with | nil => rfl | cons a l ih => simp [ih]] at this
theorem rslI {W : World} {s : Sl Int} {cs : List Value} (h : RSl 1 8 (RInt .i64) W cs s) : Row W s.v s.xs.length (s.xs.map iV) := by
  have := rslG (c := fun b => [iV b]) (sz := 1) (fun _ => rfl) (by omega) (fun _ _ _ h => h.1) h
  rwa [show s.xs.flatMap (fun b => [iV b]) = s.xs.map iV from by induction s.xs with | nil => rfl | cons a l ih => simp [ih]] at this
end Go.Proofs.Ytpldpkdlloolkaa
/-
  Start behind its table, for any way that is good: contracts.
-/
namespace Go.Proofs.Ytpldpkdlloolkaa
open Go.J Go.RowKit
set_option linter.unusedVariables false
set_option linter.unusedSimpArgs false
set_option maxRecDepth 8000
/-- the frame of a path that begins, with all its fields -/
def fBeg (p : PV) (me b : IDV) (way : List Int) : FV := ⟨4, p, false, me, b, 0, 0, 0, 0, 0, way, [], zI, 0, zI, [], 0, 0, []⟩
end Go.Proofs.Ytpldpkdlloolkaa
/-
  Where a Setup that comes is passed over: contracts.
-/
namespace Go.Proofs.Ytpldpkdlloolkaa
open Go.J Go.RowKit
set_option linter.unusedVariables false
set_option linter.unusedSimpArgs false
set_option maxRecDepth 8000
/-- a frame that is passed over -/
def badT (n fr : Int) (f : FV) : Prop := f.k ≠ 4 ∨ placeP f.tr n < 1 ∨ f.tr[(placeP f.tr n).toNat - 1]? ≠ some fr ∨ ¬ f.tr.Nodup
theorem place_in {xs : List Int} {n : Int} (h : 1 ≤ placeP xs n) : ∃ i : Nat, 1 ≤ i ∧ i < xs.length ∧ placeP xs n = (i : Int) := by
  by_cases hm : n ∈ xs
  · obtain ⟨j, hj⟩ := List.mem_iff_getElem?.1 hm
    have h1 := place_min hj
    have h2 := (List.getElem?_eq_some_iff.1 hj).1
    exact ⟨(placeP xs n).toNat, by omega, by omega, by omega⟩
  · have : ∀ j : Nat, j < xs.length → xs[j]? ≠ some n := fun j _ e => hm (List.mem_iff_getElem?.2 ⟨j, e⟩)
    rw [place_no this] at h
    omega

set_option maxHeartbeats 1000000 in
theorem gtake_no (t : Nat) (n fr : Int) (me : IDV) (f : FV) (s : FSl) (ov : Value) (w : World) (hs : FRows w f s) (hg : BigF f) (hbad : badT n fr f) :
    Calls Try.prog 19 [.pointer (some ⟨t, 0, none⟩), .agg (cW n me).toArray, .int .i64 fr, .agg (cFG f s).toArray, ov].toArray w fun r w' => r = .returned (.agg (cD nilV false false).toArray) ∧ Bel w w' := by
  obtain ⟨vt1, vi1, vv1, vx1⟩ := s
  obtain ⟨at1, ct1, hh, _, _⟩ := _root_.id hs.tr
  simp only at hh
  subst hh
  obtain ⟨ai1, ci1, hh, _, _⟩ := _root_.id hs.ids
  simp only at hh
  subst hh
  obtain ⟨av1, cv1, hh, _, _⟩ := _root_.id hs.val
  simp only at hh
  subst hh
  obtain ⟨ax1, cx1, hh, _, _⟩ := _root_.id hs.txt
  simp only at hh
  subst hh
  have hbt := hg.tr
  refine calls_of_J (args := [.pointer (some ⟨t, 0, none⟩), .agg (cW n me).toArray, .int .i64 fr, .agg (cFG f ⟨.slice at1 f.tr.length ct1, .slice ai1 f.ids.length ci1, .slice av1 f.val.length cv1, .slice ax1 f.txt.length cx1⟩).toArray, ov]) (e := [(0, .pointer (some ⟨t, 0, none⟩)), (1, .agg (cW n me).toArray), (2, .int .i64 fr), (3, .agg (cFG f ⟨.slice at1 f.tr.length ct1, .slice ai1 f.ids.length ci1, .slice av1 f.val.length cv1, .slice ax1 f.txt.length cx1⟩).toArray), (4, ov)]) Try.func19 rfl rfl ⟨rfl, rfl, rfl, rfl, rfl, trivial⟩ (St.start w) ?_
  refine JC.seq (fun K0 hK0 => ?_)
  refine JC.region ?_
  refine J.box rfl rfl rfl (fun b6 => ?_)
  refine J.box rfl rfl rfl (fun b8 => ?_)
  refine J.alloc zN rfl rfl (fun b10 => ?_)
  refine J.nil ?_
  refine JX.thenN (hK0 _ _ ?_)
  refine JC.seq (fun K1 hK1 => ?_)
  by_cases hk : f.k = 4
  · skip
    refine JC.region ?_
    refine J.loadOA (vs := cFG f ⟨.slice at1 f.tr.length ct1, .slice ai1 f.ids.length ci1, .slice av1 f.val.length cv1, .slice ax1 f.txt.length cx1⟩) Ty.a52 Ty.s52 rfl (by repeat first | exact .head _ | apply List.Mem.tail | apply List.mem_append_right) (by exact rfl) rfl rfl ?_
    refine J.perm ([] ++ ((b10, cb (cD nilV false false) 37) :: (b8, cb (cFG f ⟨.slice at1 f.tr.length ct1, .slice ai1 f.ids.length ci1, .slice av1 f.val.length cv1, .slice ax1 f.txt.length cx1⟩) 52) :: (b6, cb (cW n me) 41) :: [])) (.refl _) ?_
    refine J.callS (α := Value × List (Nat × Obj)) (V := fun x => .tuple #[.iface 107 (.agg (cS f.p f.a f.b x.1).toArray), .bool true]) (Pr := fun x => Vec 3 1 x.1 f.tr.length (f.tr.map iV) x.2) (L := fun x => x.2) (l1 := []) Ty.bd55 rfl rfl (fun w1 hw => ofG_spec f ⟨.slice at1 f.tr.length ct1, .slice ai1 f.ids.length ci1, .slice av1 f.val.length cv1, .slice ax1 f.txt.length cx1⟩ w1 (hs.below hw.below) hg hk) (fun x hv8 => ?_)
    obtain ⟨v8, lp8⟩ := x
    simp only at hv8 ⊢
    obtain ⟨a8, c8, rfl, hc8⟩ := hv8.form
    refine J.perm ((b10, cb (cD nilV false false) 37) :: (b8, cb (cFG f ⟨.slice at1 f.tr.length ct1, .slice ai1 f.ids.length ci1, .slice av1 f.val.length cv1, .slice ax1 f.txt.length cx1⟩) 52) :: (b6, cb (cW n me) 41) :: lp8) (by (refine perm_cnt (fun _ => ?_)); simp only [cntB_append, cntB_cons, cntB_nil, Nat.add_zero, Nat.zero_add]; try ac_rfl) ?_
    refine J.move rfl rfl ?_
    refine J.extract rfl rfl rfl ?_
    refine J.extract rfl rfl rfl ?_
    refine J.assign rfl rfl ?_
    refine J.assign rfl rfl ?_
    refine J.nil ?_
    refine JX.thenN (hK1 _ _ ?_)
    refine JC.seq (fun K2 hK2 => ?_)
    refine JC.region ?_
    refine J.move rfl rfl ?_
    (first | refine J.assertT (by kernel_rfl) rfl rfl ?_ | refine J.assertF (by kernel_rfl) rfl rfl zS rfl ?_ | refine J.assertN (by kernel_rfl) rfl zS rfl ?_)
    refine J.move rfl rfl ?_
    refine J.extract rfl rfl rfl ?_
    refine J.extract rfl rfl rfl ?_
    refine J.alloc zS rfl rfl (fun b13 => ?_)
    refine J.storeW Ty.s107 rfl rfl rfl rfl rfl (by simp [Value.oneCell']) (by repeat first | exact .here | apply Up.there) ?_
    refine J.assign rfl rfl ?_
    refine J.nil ?_
    refine JX.thenN (hK2 _ _ ?_)
    refine JC.seq (fun K3 hK3 => ?_)
    refine JC.region ?_
    refine J.fieldAddr Ty.fd107_3 rfl rfl ?_
    refine J.loadO Ty.a26 rfl (by repeat first | exact .head _ | apply List.Mem.tail | apply List.mem_append_right) (by exact rfl) rfl ?_
    refine J.fieldAddr Ty.fd41_0 rfl rfl ?_
    refine J.loadO Ty.a3 rfl (by repeat first | exact .head _ | apply List.Mem.tail | apply List.mem_append_right) (by exact rfl) rfl ?_
    refine J.callB (v := .int .i64 (placeP f.tr n)) (fun w1 w2 hw hb => hw.step hb) Ty.bd56 rfl rfl (fun w1 hw => by
      have h := place_spec _ f.tr n w1 (vec_rowM hv8 hw (fun q hq => by simp [hq])) (by omega)
      first | exact h | (rw [hat] at h; exact h)) ?_
    refine J.assign rfl rfl ?_
    refine J.nil ?_
    refine JX.thenN (hK3 _ _ ?_)
    refine JC.seq (fun K4 hK4 => ?_)
    refine JC.seq (fun K5 hK5 => ?_)
    by_cases hc1 : placeP f.tr n < 1
    · skip
      refine JC.region ?_
      refine J.move rfl rfl ?_
      refine J.eqNil Ty.u29 rfl rfl rfl ?_
      refine J.move rfl rfl ?_
      first | refine J.skip rfl rfl rfl rfl rfl ?_ | refine J.skipU rfl rfl rfl rfl ?_ | (refine J.unguard rfl rfl rfl ?_; refine J.move rfl rfl ?_)
      first | refine J.skip rfl rfl rfl rfl rfl ?_ | refine J.skipU rfl rfl rfl rfl ?_ | (refine J.unguard rfl rfl rfl ?_; refine J.not rfl rfl ?_)
      (first | refine J.pickT rfl rfl rfl ?_ | refine J.pickF rfl rfl rfl ?_)
      refine J.move rfl rfl ?_
      first | refine J.skip rfl rfl rfl rfl rfl ?_ | refine J.skipU rfl rfl rfl rfl ?_ | (refine J.unguard rfl rfl rfl ?_; refine J.move rfl rfl ?_)
      refine J.unguard rfl rfl rfl ?_
      refine J.bin rfl rfl rfl rfl ?_
      refine J.name 43 rfl (show Value.bool _ = .bool true by simp; omega) ?_
      (first | refine J.pickT rfl rfl rfl ?_ | refine J.pickF rfl rfl rfl ?_)
      refine J.move rfl rfl ?_
      first | refine J.skip rfl rfl rfl rfl rfl ?_ | refine J.skipU rfl rfl rfl rfl ?_ | (refine J.unguard rfl rfl rfl ?_; refine J.fieldAddr Ty.fd107_3 rfl rfl ?_)
      first | refine J.skip rfl rfl rfl rfl rfl ?_ | refine J.skipU rfl rfl rfl rfl ?_ | (refine J.unguard rfl rfl rfl ?_; refine J.loadO Ty.a26 rfl (by repeat first | exact .head _ | apply List.Mem.tail | apply List.mem_append_right) (by exact rfl) rfl ?_)
      first | refine J.skip rfl rfl rfl rfl rfl ?_ | refine J.skipU rfl rfl rfl rfl ?_ | (refine J.unguard rfl rfl rfl ?_; refine J.move rfl rfl ?_)
      first | refine J.skip rfl rfl rfl rfl rfl ?_ | refine J.skipU rfl rfl rfl rfl ?_ | (refine J.unguard rfl rfl rfl ?_; (first | refine J.subN rfl rfl (by omega) (by omega) rfl ?_ | refine J.bin rfl rfl rfl rfl ?_))
      refine J.skip rfl rfl rfl rfl rfl ?_
      refine J.skip rfl rfl rfl rfl rfl ?_
      first | refine J.skip rfl rfl rfl rfl rfl ?_ | refine J.skipU rfl rfl rfl rfl ?_ | (refine J.unguard rfl rfl rfl ?_; refine J.move rfl rfl ?_)
      refine J.skip rfl rfl rfl rfl rfl ?_
      (first | refine J.pickT rfl rfl rfl ?_ | refine J.pickF rfl rfl rfl ?_)
      refine J.move rfl rfl ?_
      first | refine J.skip rfl rfl rfl rfl rfl ?_ | refine J.skipU rfl rfl rfl rfl ?_ | (refine J.unguard rfl rfl rfl ?_; refine J.fieldAddr Ty.fd107_3 rfl rfl ?_)
      first | refine J.skip rfl rfl rfl rfl rfl ?_ | refine J.skipU rfl rfl rfl rfl ?_ | (refine J.unguard rfl rfl rfl ?_; refine J.loadO Ty.a26 rfl (by repeat first | exact .head _ | apply List.Mem.tail | apply List.mem_append_right) (by exact rfl) rfl ?_)
      refine J.skip rfl rfl rfl rfl rfl ?_
      first | refine J.skip rfl rfl rfl rfl rfl ?_ | refine J.skipU rfl rfl rfl rfl ?_ | (refine J.unguard rfl rfl rfl ?_; refine J.not rfl rfl ?_)
      (first | refine J.pickT rfl rfl rfl ?_ | refine J.pickF rfl rfl rfl ?_)
      refine J.nil ?_
      refine JX.thenN (hK5 _ _ ?_)
      first | refine JC.condT rfl ?_ | refine JC.cond rfl (fun _ => ?_) (fun h => by first | (exfalso; simp at h; omega) | (simp at h))
      refine JC.seq (fun K6 hK6 => ?_)
      refine JC.region ?_
      refine J.buildS (cs := cD nilV false false) Ty.pl37 zN rfl (by kernel_rfl) rfl ?_
      refine J.storeW Ty.s37 rfl rfl rfl rfl rfl (by simp [Value.oneCell']) (by repeat first | exact .here | apply Up.there) ?_
      refine J.nil ?_
      refine JX.thenN (hK6 _ _ ?_)
      refine JC.ret ?_
      refine JX.thenR ?_
      refine JX.retC rfl rfl Ty.a37 Ty.s37 (vs := cD nilV false false) rfl (fun w1 hw => Cells.of_block (hw.own _ (.tail _ (.head _))) rfl) (fun w1 hw => ?_)
      exact ⟨rfl, (hw.drop (List.nil_sublist _)).below⟩
    · skip
      obtain ⟨i, hi, hi2, hat⟩ := place_in (xs := f.tr) (n := n) (by omega)
      obtain ⟨q8, c8q, sp, hq1, rfl, hcq⟩ := Vec.pos hv8 (by omega)
      simp only [Value.slice.injEq] at hq1
      obtain ⟨rfl, _, rfl⟩ := hq1
      obtain ⟨y, hy⟩ : ∃ y, f.tr[i - 1]? = some y := ⟨_, List.getElem?_eq_getElem (by omega)⟩
      by_cases hc2 : y = fr
      · skip
        have hc3 : ¬ f.tr.Nodup := by
          rcases hbad with h | h | h | h
          · exact absurd hk h
          · exact absurd h hc1
          · exact absurd (by rw [hat]; simp only [Int.toNat_natCast]; rw [hy, hc2]) h
          · exact h
        refine JC.region ?_
        refine J.move rfl rfl ?_
        refine J.eqNil Ty.u29 rfl rfl rfl ?_
        refine J.move rfl rfl ?_
        first | refine J.skip rfl rfl rfl rfl rfl ?_ | refine J.skipU rfl rfl rfl rfl ?_ | (refine J.unguard rfl rfl rfl ?_; refine J.move rfl rfl ?_)
        first | refine J.skip rfl rfl rfl rfl rfl ?_ | refine J.skipU rfl rfl rfl rfl ?_ | (refine J.unguard rfl rfl rfl ?_; refine J.not rfl rfl ?_)
        (first | refine J.pickT rfl rfl rfl ?_ | refine J.pickF rfl rfl rfl ?_)
        refine J.move rfl rfl ?_
        first | refine J.skip rfl rfl rfl rfl rfl ?_ | refine J.skipU rfl rfl rfl rfl ?_ | (refine J.unguard rfl rfl rfl ?_; refine J.move rfl rfl ?_)
        refine J.unguard rfl rfl rfl ?_
        refine J.bin rfl rfl rfl rfl ?_
        refine J.name 43 rfl (show Value.bool _ = .bool false by simp; omega) ?_
        (first | refine J.pickT rfl rfl rfl ?_ | refine J.pickF rfl rfl rfl ?_)
        refine J.move rfl rfl ?_
        first | refine J.skip rfl rfl rfl rfl rfl ?_ | refine J.skipU rfl rfl rfl rfl ?_ | (refine J.unguard rfl rfl rfl ?_; refine J.fieldAddr Ty.fd107_3 rfl rfl ?_)
        first | refine J.skip rfl rfl rfl rfl rfl ?_ | refine J.skipU rfl rfl rfl rfl ?_ | (refine J.unguard rfl rfl rfl ?_; refine J.loadO Ty.a26 rfl (by repeat first | exact .head _ | apply List.Mem.tail | apply List.mem_append_right) (by exact rfl) rfl ?_)
        first | refine J.skip rfl rfl rfl rfl rfl ?_ | refine J.skipU rfl rfl rfl rfl ?_ | (refine J.unguard rfl rfl rfl ?_; refine J.move rfl rfl ?_)
        first | refine J.skip rfl rfl rfl rfl rfl ?_ | refine J.skipU rfl rfl rfl rfl ?_ | (refine J.unguard rfl rfl rfl ?_; (first | refine J.subN rfl rfl (by omega) (by omega) rfl ?_ | refine J.bin rfl rfl rfl rfl ?_))
        refine J.unguard rfl rfl rfl ?_
        refine J.indexAddrS Ty.el26 Ty.s3 rfl rfl (by omega) (by omega) rfl ?_
        refine J.unguard rfl rfl rfl ?_
        refine J.load1 (v := iV y) Ty.a3 rfl (fun w1 hw => rowI_at (i := i - 1) (vec_rowM hv8 hw (fun q hq => by simp [hq])) hy (by omega)) rfl ?_
        first | refine J.skip rfl rfl rfl rfl rfl ?_ | refine J.skipU rfl rfl rfl rfl ?_ | (refine J.unguard rfl rfl rfl ?_; refine J.move rfl rfl ?_)
        refine J.unguard rfl rfl rfl ?_
        refine J.bin rfl rfl rfl rfl ?_
        refine J.name 53 rfl (show Value.bool _ = .bool false by simp [hc2]) ?_
        (first | refine J.pickT rfl rfl rfl ?_ | refine J.pickF rfl rfl rfl ?_)
        refine J.move rfl rfl ?_
        first | refine J.skip rfl rfl rfl rfl rfl ?_ | refine J.skipU rfl rfl rfl rfl ?_ | (refine J.unguard rfl rfl rfl ?_; refine J.fieldAddr Ty.fd107_3 rfl rfl ?_)
        first | refine J.skip rfl rfl rfl rfl rfl ?_ | refine J.skipU rfl rfl rfl rfl ?_ | (refine J.unguard rfl rfl rfl ?_; refine J.loadO Ty.a26 rfl (by repeat first | exact .head _ | apply List.Mem.tail | apply List.mem_append_right) (by exact rfl) rfl ?_)
        refine J.unguard rfl rfl rfl ?_
        refine J.callB (v := .bool false) (fun w1 w2 hw hb => hw.step hb) Ty.bd52 rfl rfl (fun w1 hw => by
          have h := simple_spec _ f.tr w1 (vec_rowM hv8 hw (fun q hq => by simp [hq])) (by omega)
          rw [decide_eq_false hc3] at h
          exact h) ?_
        first | refine J.skip rfl rfl rfl rfl rfl ?_ | refine J.skipU rfl rfl rfl rfl ?_ | (refine J.unguard rfl rfl rfl ?_; refine J.not rfl rfl ?_)
        (first | refine J.pickT rfl rfl rfl ?_ | refine J.pickF rfl rfl rfl ?_)
        refine J.nil ?_
        refine JX.thenN (hK5 _ _ ?_)
        first | refine JC.condT rfl ?_ | refine JC.cond rfl (fun _ => ?_) (fun h => by first | (exfalso; simp at h; omega) | (simp at h))
        refine JC.seq (fun K7 hK7 => ?_)
        refine JC.region ?_
        refine J.buildS (cs := cD nilV false false) Ty.pl37 zN rfl (by kernel_rfl) rfl ?_
        refine J.storeW Ty.s37 rfl rfl rfl rfl rfl (by simp [Value.oneCell']) (by repeat first | exact .here | apply Up.there) ?_
        refine J.nil ?_
        refine JX.thenN (hK7 _ _ ?_)
        refine JC.ret ?_
        refine JX.thenR ?_
        refine JX.retC rfl rfl Ty.a37 Ty.s37 (vs := cD nilV false false) rfl (fun w1 hw => Cells.of_block (hw.own _ (.tail _ (.head _))) rfl) (fun w1 hw => ?_)
        exact ⟨rfl, (hw.drop (List.nil_sublist _)).below⟩
      · skip
        refine JC.region ?_
        refine J.move rfl rfl ?_
        refine J.eqNil Ty.u29 rfl rfl rfl ?_
        refine J.move rfl rfl ?_
        first | refine J.skip rfl rfl rfl rfl rfl ?_ | refine J.skipU rfl rfl rfl rfl ?_ | (refine J.unguard rfl rfl rfl ?_; refine J.move rfl rfl ?_)
        first | refine J.skip rfl rfl rfl rfl rfl ?_ | refine J.skipU rfl rfl rfl rfl ?_ | (refine J.unguard rfl rfl rfl ?_; refine J.not rfl rfl ?_)
        (first | refine J.pickT rfl rfl rfl ?_ | refine J.pickF rfl rfl rfl ?_)
        refine J.move rfl rfl ?_
        first | refine J.skip rfl rfl rfl rfl rfl ?_ | refine J.skipU rfl rfl rfl rfl ?_ | (refine J.unguard rfl rfl rfl ?_; refine J.move rfl rfl ?_)
        refine J.unguard rfl rfl rfl ?_
        refine J.bin rfl rfl rfl rfl ?_
        refine J.name 43 rfl (show Value.bool _ = .bool false by simp; omega) ?_
        (first | refine J.pickT rfl rfl rfl ?_ | refine J.pickF rfl rfl rfl ?_)
        refine J.move rfl rfl ?_
        first | refine J.skip rfl rfl rfl rfl rfl ?_ | refine J.skipU rfl rfl rfl rfl ?_ | (refine J.unguard rfl rfl rfl ?_; refine J.fieldAddr Ty.fd107_3 rfl rfl ?_)
        first | refine J.skip rfl rfl rfl rfl rfl ?_ | refine J.skipU rfl rfl rfl rfl ?_ | (refine J.unguard rfl rfl rfl ?_; refine J.loadO Ty.a26 rfl (by repeat first | exact .head _ | apply List.Mem.tail | apply List.mem_append_right) (by exact rfl) rfl ?_)
        first | refine J.skip rfl rfl rfl rfl rfl ?_ | refine J.skipU rfl rfl rfl rfl ?_ | (refine J.unguard rfl rfl rfl ?_; refine J.move rfl rfl ?_)
        first | refine J.skip rfl rfl rfl rfl rfl ?_ | refine J.skipU rfl rfl rfl rfl ?_ | (refine J.unguard rfl rfl rfl ?_; (first | refine J.subN rfl rfl (by omega) (by omega) rfl ?_ | refine J.bin rfl rfl rfl rfl ?_))
        refine J.unguard rfl rfl rfl ?_
        refine J.indexAddrS Ty.el26 Ty.s3 rfl rfl (by omega) (by omega) rfl ?_
        refine J.unguard rfl rfl rfl ?_
        refine J.load1 (v := iV y) Ty.a3 rfl (fun w1 hw => rowI_at (i := i - 1) (vec_rowM hv8 hw (fun q hq => by simp [hq])) hy (by omega)) rfl ?_
        first | refine J.skip rfl rfl rfl rfl rfl ?_ | refine J.skipU rfl rfl rfl rfl ?_ | (refine J.unguard rfl rfl rfl ?_; refine J.move rfl rfl ?_)
        refine J.unguard rfl rfl rfl ?_
        refine J.bin rfl rfl rfl rfl ?_
        refine J.name 53 rfl (show Value.bool _ = .bool true by simp [hc2]) ?_
        (first | refine J.pickT rfl rfl rfl ?_ | refine J.pickF rfl rfl rfl ?_)
        refine J.move rfl rfl ?_
        first | refine J.skip rfl rfl rfl rfl rfl ?_ | refine J.skipU rfl rfl rfl rfl ?_ | (refine J.unguard rfl rfl rfl ?_; refine J.fieldAddr Ty.fd107_3 rfl rfl ?_)
        first | refine J.skip rfl rfl rfl rfl rfl ?_ | refine J.skipU rfl rfl rfl rfl ?_ | (refine J.unguard rfl rfl rfl ?_; refine J.loadO Ty.a26 rfl (by repeat first | exact .head _ | apply List.Mem.tail | apply List.mem_append_right) (by exact rfl) rfl ?_)
        refine J.skip rfl rfl rfl rfl rfl ?_
        first | refine J.skip rfl rfl rfl rfl rfl ?_ | refine J.skipU rfl rfl rfl rfl ?_ | (refine J.unguard rfl rfl rfl ?_; refine J.not rfl rfl ?_)
        (first | refine J.pickT rfl rfl rfl ?_ | refine J.pickF rfl rfl rfl ?_)
        refine J.nil ?_
        refine JX.thenN (hK5 _ _ ?_)
        first | refine JC.condT rfl ?_ | refine JC.cond rfl (fun _ => ?_) (fun h => by first | (exfalso; simp at h; omega) | (simp at h))
        refine JC.seq (fun K8 hK8 => ?_)
        refine JC.region ?_
        refine J.buildS (cs := cD nilV false false) Ty.pl37 zN rfl (by kernel_rfl) rfl ?_
        refine J.storeW Ty.s37 rfl rfl rfl rfl rfl (by simp [Value.oneCell']) (by repeat first | exact .here | apply Up.there) ?_
        refine J.nil ?_
        refine JX.thenN (hK8 _ _ ?_)
        refine JC.ret ?_
        refine JX.thenR ?_
        refine JX.retC rfl rfl Ty.a37 Ty.s37 (vs := cD nilV false false) rfl (fun w1 hw => Cells.of_block (hw.own _ (.tail _ (.head _))) rfl) (fun w1 hw => ?_)
        exact ⟨rfl, (hw.drop (List.nil_sublist _)).below⟩
  · skip
    refine JC.region ?_
    refine J.loadOA (vs := cFG f ⟨.slice at1 f.tr.length ct1, .slice ai1 f.ids.length ci1, .slice av1 f.val.length cv1, .slice ax1 f.txt.length cx1⟩) Ty.a52 Ty.s52 rfl (by repeat first | exact .head _ | apply List.Mem.tail | apply List.mem_append_right) (by exact rfl) rfl rfl ?_
    refine J.perm ([] ++ ((b10, cb (cD nilV false false) 37) :: (b8, cb (cFG f ⟨.slice at1 f.tr.length ct1, .slice ai1 f.ids.length ci1, .slice av1 f.val.length cv1, .slice ax1 f.txt.length cx1⟩) 52) :: (b6, cb (cW n me) 41) :: [])) (.refl _) ?_
    refine J.callS (α := Value × Bool) (V := fun x => .tuple #[x.1, .bool x.2]) (Pr := fun x => NoSetup x.1) (L := fun _ => []) (l1 := []) Ty.bd55 rfl rfl (fun w1 hw => of_other f ⟨.slice at1 f.tr.length ct1, .slice ai1 f.ids.length ci1, .slice av1 f.val.length cv1, .slice ax1 f.txt.length cx1⟩ w1 (hs.below hw.below) hg hk) (fun x hx => ?_)
    obtain ⟨iv, iok⟩ := x
    simp only at hx ⊢
    refine J.perm ((b10, cb (cD nilV false false) 37) :: (b8, cb (cFG f ⟨.slice at1 f.tr.length ct1, .slice ai1 f.ids.length ci1, .slice av1 f.val.length cv1, .slice ax1 f.txt.length cx1⟩) 52) :: (b6, cb (cW n me) 41) :: []) (.refl _) ?_
    refine J.move rfl rfl ?_
    refine J.extract rfl rfl rfl ?_
    refine J.extract rfl rfl rfl ?_
    refine J.assign rfl rfl ?_
    refine J.assign rfl rfl ?_
    refine J.nil ?_
    refine JX.thenN (hK1 _ _ ?_)
    refine JC.seq (fun K9 hK9 => ?_)
    rcases hx with rfl | ⟨T8, x8, rfl, hT8⟩
    · skip
      refine JC.region ?_
      refine J.move rfl rfl ?_
      refine J.assertN (by kernel_rfl) rfl zS rfl ?_
      refine J.move rfl rfl ?_
      refine J.extract rfl rfl rfl ?_
      refine J.extract rfl rfl rfl ?_
      refine J.alloc zS rfl rfl (fun b13 => ?_)
      refine J.storeW Ty.s107 rfl rfl rfl rfl rfl (by simp [Value.oneCell']) (by repeat first | exact .here | apply Up.there) ?_
      refine J.assign rfl rfl ?_
      refine J.nil ?_
      refine JX.thenN (hK9 _ _ ?_)
      refine JC.seq (fun K10 hK10 => ?_)
      refine JC.region ?_
      refine J.fieldAddr Ty.fd107_3 rfl rfl ?_
      refine J.loadO Ty.a26 rfl (by repeat first | exact .head _ | apply List.Mem.tail | apply List.mem_append_right) (by exact rfl) rfl ?_
      refine J.fieldAddr Ty.fd41_0 rfl rfl ?_
      refine J.loadO Ty.a3 rfl (by repeat first | exact .head _ | apply List.Mem.tail | apply List.mem_append_right) (by exact rfl) rfl ?_
      refine J.callB (v := .int .i64 (-1)) (fun w1 w2 hw hb => hw.step hb) Ty.bd56 rfl rfl (fun w1 hw => by
        have h := place_spec _ [] n w1 ⟨none, 0, rfl, Nat.le_refl _, .inl rfl⟩ (by simp)
        first | exact h | (rw [hat] at h; exact h)) ?_
      refine J.assign rfl rfl ?_
      refine J.nil ?_
      refine JX.thenN (hK10 _ _ ?_)
      refine JC.seq (fun K11 hK11 => ?_)
      refine JC.seq (fun K12 hK12 => ?_)
      refine JC.region ?_
      refine J.move rfl rfl ?_
      refine J.eqNil Ty.u29 rfl rfl rfl ?_
      refine J.move rfl rfl ?_
      first | refine J.skip rfl rfl rfl rfl rfl ?_ | refine J.skipU rfl rfl rfl rfl ?_ | (refine J.unguard rfl rfl rfl ?_; refine J.move rfl rfl ?_)
      first | refine J.skip rfl rfl rfl rfl rfl ?_ | refine J.skipU rfl rfl rfl rfl ?_ | (refine J.unguard rfl rfl rfl ?_; refine J.not rfl rfl ?_)
      (first | refine J.pickT rfl rfl rfl ?_ | refine J.pickF rfl rfl rfl ?_)
      refine J.move rfl rfl ?_
      first | refine J.skip rfl rfl rfl rfl rfl ?_ | refine J.skipU rfl rfl rfl rfl ?_ | (refine J.unguard rfl rfl rfl ?_; refine J.move rfl rfl ?_)
      refine J.skip rfl rfl rfl rfl rfl ?_
      (first | refine J.pickT rfl rfl rfl ?_ | refine J.pickF rfl rfl rfl ?_)
      refine J.move rfl rfl ?_
      first | refine J.skip rfl rfl rfl rfl rfl ?_ | refine J.skipU rfl rfl rfl rfl ?_ | (refine J.unguard rfl rfl rfl ?_; refine J.fieldAddr Ty.fd107_3 rfl rfl ?_)
      first | refine J.skip rfl rfl rfl rfl rfl ?_ | refine J.skipU rfl rfl rfl rfl ?_ | (refine J.unguard rfl rfl rfl ?_; refine J.loadO Ty.a26 rfl (by repeat first | exact .head _ | apply List.Mem.tail | apply List.mem_append_right) (by exact rfl) rfl ?_)
      first | refine J.skip rfl rfl rfl rfl rfl ?_ | refine J.skipU rfl rfl rfl rfl ?_ | (refine J.unguard rfl rfl rfl ?_; refine J.move rfl rfl ?_)
      first | refine J.skip rfl rfl rfl rfl rfl ?_ | refine J.skipU rfl rfl rfl rfl ?_ | (refine J.unguard rfl rfl rfl ?_; (first | refine J.subN rfl rfl (by omega) (by omega) rfl ?_ | refine J.bin rfl rfl rfl rfl ?_))
      refine J.skip rfl rfl rfl rfl rfl ?_
      refine J.skip rfl rfl rfl rfl rfl ?_
      first | refine J.skip rfl rfl rfl rfl rfl ?_ | refine J.skipU rfl rfl rfl rfl ?_ | (refine J.unguard rfl rfl rfl ?_; refine J.move rfl rfl ?_)
      refine J.skip rfl rfl rfl rfl rfl ?_
      (first | refine J.pickT rfl rfl rfl ?_ | refine J.pickF rfl rfl rfl ?_)
      refine J.move rfl rfl ?_
      first | refine J.skip rfl rfl rfl rfl rfl ?_ | refine J.skipU rfl rfl rfl rfl ?_ | (refine J.unguard rfl rfl rfl ?_; refine J.fieldAddr Ty.fd107_3 rfl rfl ?_)
      first | refine J.skip rfl rfl rfl rfl rfl ?_ | refine J.skipU rfl rfl rfl rfl ?_ | (refine J.unguard rfl rfl rfl ?_; refine J.loadO Ty.a26 rfl (by repeat first | exact .head _ | apply List.Mem.tail | apply List.mem_append_right) (by exact rfl) rfl ?_)
      refine J.skip rfl rfl rfl rfl rfl ?_
      first | refine J.skip rfl rfl rfl rfl rfl ?_ | refine J.skipU rfl rfl rfl rfl ?_ | (refine J.unguard rfl rfl rfl ?_; refine J.not rfl rfl ?_)
      (first | refine J.pickT rfl rfl rfl ?_ | refine J.pickF rfl rfl rfl ?_)
      refine J.nil ?_
      refine JX.thenN (hK12 _ _ ?_)
      first | refine JC.condT rfl ?_ | refine JC.cond rfl (fun _ => ?_) (fun h => by first | (exfalso; simp at h; omega) | (simp at h))
      refine JC.seq (fun K13 hK13 => ?_)
      refine JC.region ?_
      refine J.buildS (cs := cD nilV false false) Ty.pl37 zN rfl (by kernel_rfl) rfl ?_
      refine J.storeW Ty.s37 rfl rfl rfl rfl rfl (by simp [Value.oneCell']) (by repeat first | exact .here | apply Up.there) ?_
      refine J.nil ?_
      refine JX.thenN (hK13 _ _ ?_)
      refine JC.ret ?_
      refine JX.thenR ?_
      refine JX.retC rfl rfl Ty.a37 Ty.s37 (vs := cD nilV false false) rfl (fun w1 hw => Cells.of_block (hw.own _ (.tail _ (.head _))) rfl) (fun w1 hw => ?_)
      exact ⟨rfl, (hw.drop (List.nil_sublist _)).below⟩
    · skip
      refine JC.region ?_
      refine J.move rfl rfl ?_
      refine J.assertF (by kernel_rfl) rfl hT8 zS rfl ?_
      refine J.move rfl rfl ?_
      refine J.extract rfl rfl rfl ?_
      refine J.extract rfl rfl rfl ?_
      refine J.alloc zS rfl rfl (fun b13 => ?_)
      refine J.storeW Ty.s107 rfl rfl rfl rfl rfl (by simp [Value.oneCell']) (by repeat first | exact .here | apply Up.there) ?_
      refine J.assign rfl rfl ?_
      refine J.nil ?_
      refine JX.thenN (hK9 _ _ ?_)
      refine JC.seq (fun K14 hK14 => ?_)
      refine JC.region ?_
      refine J.fieldAddr Ty.fd107_3 rfl rfl ?_
      refine J.loadO Ty.a26 rfl (by repeat first | exact .head _ | apply List.Mem.tail | apply List.mem_append_right) (by exact rfl) rfl ?_
      refine J.fieldAddr Ty.fd41_0 rfl rfl ?_
      refine J.loadO Ty.a3 rfl (by repeat first | exact .head _ | apply List.Mem.tail | apply List.mem_append_right) (by exact rfl) rfl ?_
      refine J.callB (v := .int .i64 (-1)) (fun w1 w2 hw hb => hw.step hb) Ty.bd56 rfl rfl (fun w1 hw => by
        have h := place_spec _ [] n w1 ⟨none, 0, rfl, Nat.le_refl _, .inl rfl⟩ (by simp)
        first | exact h | (rw [hat] at h; exact h)) ?_
      refine J.assign rfl rfl ?_
      refine J.nil ?_
      refine JX.thenN (hK14 _ _ ?_)
      refine JC.seq (fun K15 hK15 => ?_)
      refine JC.seq (fun K16 hK16 => ?_)
      refine JC.region ?_
      refine J.move rfl rfl ?_
      refine J.eqNil Ty.u29 rfl rfl rfl ?_
      refine J.move rfl rfl ?_
      first | refine J.skip rfl rfl rfl rfl rfl ?_ | refine J.skipU rfl rfl rfl rfl ?_ | (refine J.unguard rfl rfl rfl ?_; refine J.move rfl rfl ?_)
      first | refine J.skip rfl rfl rfl rfl rfl ?_ | refine J.skipU rfl rfl rfl rfl ?_ | (refine J.unguard rfl rfl rfl ?_; refine J.not rfl rfl ?_)
      (first | refine J.pickT rfl rfl rfl ?_ | refine J.pickF rfl rfl rfl ?_)
      refine J.move rfl rfl ?_
      first | refine J.skip rfl rfl rfl rfl rfl ?_ | refine J.skipU rfl rfl rfl rfl ?_ | (refine J.unguard rfl rfl rfl ?_; refine J.move rfl rfl ?_)
      refine J.skip rfl rfl rfl rfl rfl ?_
      (first | refine J.pickT rfl rfl rfl ?_ | refine J.pickF rfl rfl rfl ?_)
      refine J.move rfl rfl ?_
      first | refine J.skip rfl rfl rfl rfl rfl ?_ | refine J.skipU rfl rfl rfl rfl ?_ | (refine J.unguard rfl rfl rfl ?_; refine J.fieldAddr Ty.fd107_3 rfl rfl ?_)
      first | refine J.skip rfl rfl rfl rfl rfl ?_ | refine J.skipU rfl rfl rfl rfl ?_ | (refine J.unguard rfl rfl rfl ?_; refine J.loadO Ty.a26 rfl (by repeat first | exact .head _ | apply List.Mem.tail | apply List.mem_append_right) (by exact rfl) rfl ?_)
      first | refine J.skip rfl rfl rfl rfl rfl ?_ | refine J.skipU rfl rfl rfl rfl ?_ | (refine J.unguard rfl rfl rfl ?_; refine J.move rfl rfl ?_)
      first | refine J.skip rfl rfl rfl rfl rfl ?_ | refine J.skipU rfl rfl rfl rfl ?_ | (refine J.unguard rfl rfl rfl ?_; (first | refine J.subN rfl rfl (by omega) (by omega) rfl ?_ | refine J.bin rfl rfl rfl rfl ?_))
      refine J.skip rfl rfl rfl rfl rfl ?_
      refine J.skip rfl rfl rfl rfl rfl ?_
      first | refine J.skip rfl rfl rfl rfl rfl ?_ | refine J.skipU rfl rfl rfl rfl ?_ | (refine J.unguard rfl rfl rfl ?_; refine J.move rfl rfl ?_)
      refine J.skip rfl rfl rfl rfl rfl ?_
      (first | refine J.pickT rfl rfl rfl ?_ | refine J.pickF rfl rfl rfl ?_)
      refine J.move rfl rfl ?_
      first | refine J.skip rfl rfl rfl rfl rfl ?_ | refine J.skipU rfl rfl rfl rfl ?_ | (refine J.unguard rfl rfl rfl ?_; refine J.fieldAddr Ty.fd107_3 rfl rfl ?_)
      first | refine J.skip rfl rfl rfl rfl rfl ?_ | refine J.skipU rfl rfl rfl rfl ?_ | (refine J.unguard rfl rfl rfl ?_; refine J.loadO Ty.a26 rfl (by repeat first | exact .head _ | apply List.Mem.tail | apply List.mem_append_right) (by exact rfl) rfl ?_)
      refine J.skip rfl rfl rfl rfl rfl ?_
      first | refine J.skip rfl rfl rfl rfl rfl ?_ | refine J.skipU rfl rfl rfl rfl ?_ | (refine J.unguard rfl rfl rfl ?_; refine J.not rfl rfl ?_)
      (first | refine J.pickT rfl rfl rfl ?_ | refine J.pickF rfl rfl rfl ?_)
      refine J.nil ?_
      refine JX.thenN (hK16 _ _ ?_)
      first | refine JC.condT rfl ?_ | refine JC.cond rfl (fun _ => ?_) (fun h => by first | (exfalso; simp at h; omega) | (simp at h))
      refine JC.seq (fun K17 hK17 => ?_)
      refine JC.region ?_
      refine J.buildS (cs := cD nilV false false) Ty.pl37 zN rfl (by kernel_rfl) rfl ?_
      refine J.storeW Ty.s37 rfl rfl rfl rfl rfl (by simp [Value.oneCell']) (by repeat first | exact .here | apply Up.there) ?_
      refine J.nil ?_
      refine JX.thenN (hK17 _ _ ?_)
      refine JC.ret ?_
      refine JX.thenR ?_
      refine JX.retC rfl rfl Ty.a37 Ty.s37 (vs := cD nilV false false) rfl (fun w1 hw => Cells.of_block (hw.own _ (.tail _ (.head _))) rfl) (fun w1 hw => ?_)
      exact ⟨rfl, (hw.drop (List.nil_sublist _)).below⟩

end Go.Proofs.Ytpldpkdlloolkaa
/-
  The document's Take at a Setup that may be: contracts.
-/
namespace Go.Proofs.Ytpldpkdlloolkaa
open Go.J Go.RowKit
set_option linter.unusedVariables false
set_option linter.unusedSimpArgs false
set_option maxRecDepth 8000

end Go.Proofs.Ytpldpkdlloolkaa
/-
  Frames that come in; their copies: contracts.
-/
namespace Go.Proofs.Ytpldpkdlloolkaa
open Go.J Go.RowKit
set_option linter.unusedVariables false
set_option linter.unusedSimpArgs false
set_option maxRecDepth 8000
/-- a frame that comes in -/
structure FIn where
  k : Int
  p : PV
  toA : Bool
  a : IDV
  b : IDV
  n : Int
  fr : Int × Int
  to : Int × Int
  tr : Sl Int
  ids : Sl IDV
  key : IDV
  vr : Int × IDV
  val : Sl UInt8
  op : Int
  ttl : Int
  txt : Sl UInt8
abbrev FIn.f (x : FIn) : FV := ⟨x.k, x.p, x.toA, x.a, x.b, x.n, x.fr.1, x.fr.2, x.to.1, x.to.2, x.tr.xs, x.ids.xs, x.key, x.vr.1, x.vr.2, x.val.xs, x.op, x.ttl, x.txt.xs⟩
abbrev FIn.s (x : FIn) : FSl := ⟨x.tr.v, x.ids.v, x.val.v, x.txt.v⟩
def RNum2 : World → List Value → Int × Int → Prop := fun _ cs x => cs = [iV x.1, iV x.2] ∧ okN x.1 ∧ okN x.2
def RVer2 : World → List Value → Int × IDV → Prop := fun _ cs x => cs = iV x.1 :: cI x.2 ∧ okN x.1
def RItem2 : World → List Value → (IDV × (Int × IDV) × Sl UInt8) → Prop := fun W cs x => cs = cI x.1 ++ (iV x.2.1.1 :: cI x.2.1.2) ++ [x.2.2.v] ∧ okN x.2.1.1 ∧ RSl 1 1 RU8 W [x.2.2.v] x.2.2
structure RFin (W : World) (cs : List Value) (x : FIn) : Prop where
  cells : cs = cFG x.f x.s
  p : okN x.p.n
  fi : okN x.fr.1
  fn : okN x.fr.2
  ti : okN x.to.1
  tn : okN x.to.2
  vn : okN x.vr.1
  tr : RSl 1 8 (RInt .i64) W [x.tr.v] x.tr
  ids : RSl 16 16 RId W [x.ids.v] x.ids
  val : RSl 1 1 RU8 W [x.val.v] x.val
  txt : RSl 1 1 RU8 W [x.txt.v] x.txt
theorem fs_dec_num : fieldsT Try.prog 44 = some [(2, 0, 1), (2, 1, 1)] := by kernel_rfl
theorem fs_dec_ver : fieldsT Try.prog 47 = some [(2, 0, 1), (23, 1, 16)] := by kernel_rfl
theorem fs_dec_item : fieldsT Try.prog 50 = some [(23, 0, 16), (47, 16, 17), (48, 33, 1)] := by kernel_rfl
theorem fs_dec_frame : fieldsT Try.prog 52 = some [(3, 0, 1), (25, 1, 17), (4, 18, 1), (23, 19, 16), (23, 35, 16), (2, 51, 1), (44, 52, 2), (44, 54, 2), (26, 56, 1), (45, 57, 1), (50, 58, 34), (3, 92, 1), (3, 93, 1), (48, 94, 1)] := by kernel_rfl

theorem dec_num : Decodes Try.prog 44 RNum2 := by
  intro H enc w fuel cs x h hn
  have hl := dec_len Ty.a44 Ty.s44 h
  obtain ⟨a, ha, wa⟩ := dec_field fs_dec_num h hn 0 _ rfl (dec_int Ty.u2)
  obtain ⟨b, hb, wb⟩ := dec_field fs_dec_num h hn 1 _ rfl (dec_int Ty.u2)
  have hd : ∀ (k j : Nat), (cs.drop k).drop j = cs.drop (k + j) := fun k j => by rw [List.drop_drop]
  have q1 : (cs.drop 1).take 1 = [iV b] := hb
  have e1 : cs.drop 1 = [iV b] := by rw [← q1]; exact (List.take_of_length_le (by simp; omega)).symm
  have q0 : (cs.drop 0).take 1 = [iV a] := by simpa using ha
  have e0 : cs = [iV a] ++ cs.drop 1 := split2 (k := 1) (m := 1) q0 (List.take_of_length_le (by simp; omega)) hl
  refine ⟨(a, b), ⟨?_, wa, wb⟩⟩
  show cs = [iV a, iV b]
  rw [e0, e1]
  rfl

theorem dec_ver : Decodes Try.prog 47 RVer2 := by
  intro H enc w fuel cs x h hn
  have hl := dec_len Ty.a47 Ty.s47 h
  obtain ⟨a, ha, wa⟩ := dec_field fs_dec_ver h hn 0 _ rfl (dec_int Ty.u2)
  obtain ⟨b, hb⟩ := dec_field fs_dec_ver h hn 1 _ rfl (dec_id)
  have hd : ∀ (k j : Nat), (cs.drop k).drop j = cs.drop (k + j) := fun k j => by rw [List.drop_drop]
  have q1 : (cs.drop 1).take 16 = cI b := by simpa [RId] using hb
  have e1 : cs.drop 1 = cI b := by rw [← q1]; exact (List.take_of_length_le (by simp; omega)).symm
  have q0 : (cs.drop 0).take 1 = [iV a] := by simpa using ha
  have e0 : cs = [iV a] ++ cs.drop 1 := split2 (k := 1) (m := 16) q0 (List.take_of_length_le (by simp; omega)) hl
  refine ⟨(a, b), ⟨?_, wa⟩⟩
  show cs = iV a :: cI b
  rw [e0, e1]
  rfl

theorem dec_item : Decodes Try.prog 50 RItem2 := by
  intro H enc w fuel cs x h hn
  have hl := dec_len Ty.a50 Ty.s50 h
  obtain ⟨a, ha⟩ := dec_field fs_dec_item h hn 0 _ rfl (dec_id)
  obtain ⟨b, hb, wb⟩ := dec_field fs_dec_item h hn 1 _ rfl (dec_ver)
  obtain ⟨v, hv⟩ := dec_field fs_dec_item h hn 2 _ rfl (dec_slice Ty.el48 Ty.s5 Ty.b5 (by omega) (dec_u8 Ty.u5))
  have hd : ∀ (k j : Nat), (cs.drop k).drop j = cs.drop (k + j) := fun k j => by rw [List.drop_drop]
  have q2 : (cs.drop 33).take 1 = [v.v] := hv.1
  have e2 : cs.drop 33 = [v.v] := by rw [← q2]; exact (List.take_of_length_le (by simp; omega)).symm
  have q1 : (cs.drop 16).take 17 = (iV b.1 :: cI b.2) := hb
  have e1 : cs.drop 16 = (iV b.1 :: cI b.2) ++ cs.drop 33 := split2 (k := 17) (m := 1) q1 (by rw [hd]; exact List.take_of_length_le (by simp; omega)) (by simp; omega)
  have q0 : (cs.drop 0).take 16 = cI a := by simpa [RId] using ha
  have e0 : cs = cI a ++ cs.drop 16 := split2 (k := 16) (m := 18) q0 (List.take_of_length_le (by simp; omega)) hl
  refine ⟨(a, b, v), ⟨?_, wb, by have := hv; rw [show ((cs.drop (_ : Nat)).take _) = [v.v] from q2] at this; exact this⟩⟩
  show cs = cI a ++ (iV b.1 :: cI b.2) ++ [v.v]
  rw [e0, e1, e2]
  rfl

theorem dec_frame : Decodes Try.prog 52 RFin := by
  intro H enc w fuel cs x h hn
  have hl := dec_len Ty.a52 Ty.s52 h
  obtain ⟨k, hk, wk⟩ := dec_field fs_dec_frame h hn 0 _ rfl (dec_int Ty.u3)
  obtain ⟨p, hp, wp⟩ := dec_field fs_dec_frame h hn 1 _ rfl (dec_path)
  obtain ⟨t, ht⟩ := dec_field fs_dec_frame h hn 2 _ rfl (dec_bool Ty.u4)
  obtain ⟨a, ha⟩ := dec_field fs_dec_frame h hn 3 _ rfl (dec_id)
  obtain ⟨b, hb⟩ := dec_field fs_dec_frame h hn 4 _ rfl (dec_id)
  obtain ⟨nn, hnn, wnn⟩ := dec_field fs_dec_frame h hn 5 _ rfl (dec_int Ty.u2)
  obtain ⟨fq, hfq, wf1, wf2⟩ := dec_field fs_dec_frame h hn 6 _ rfl (dec_num)
  obtain ⟨tq, htq, wt1, wt2⟩ := dec_field fs_dec_frame h hn 7 _ rfl (dec_num)
  obtain ⟨tr, htr⟩ := dec_field fs_dec_frame h hn 8 _ rfl (dec_slice Ty.el26 Ty.s3 Ty.b3 (by omega) (dec_int Ty.u3))
  obtain ⟨ids, hids⟩ := dec_field fs_dec_frame h hn 9 _ rfl (dec_slice Ty.el45 Ty.s23 Ty.b23 (by omega) (dec_id))
  obtain ⟨it, hit, wit, hval⟩ := dec_field fs_dec_frame h hn 10 _ rfl (dec_item)
  obtain ⟨oo, hoo, woo⟩ := dec_field fs_dec_frame h hn 11 _ rfl (dec_int Ty.u3)
  obtain ⟨tl, htl, wtl⟩ := dec_field fs_dec_frame h hn 12 _ rfl (dec_int Ty.u3)
  obtain ⟨tx, htx⟩ := dec_field fs_dec_frame h hn 13 _ rfl (dec_slice Ty.el48 Ty.s5 Ty.b5 (by omega) (dec_u8 Ty.u5))
  have hd : ∀ (k j : Nat), (cs.drop k).drop j = cs.drop (k + j) := fun k j => by rw [List.drop_drop]
  have q13 : (cs.drop 94).take 1 = [tx.v] := htx.1
  have e13 : cs.drop 94 = [tx.v] := by rw [← q13]; exact (List.take_of_length_le (by simp; omega)).symm
  have q12 : (cs.drop 93).take 1 = [iV tl] := htl
  have e12 : cs.drop 93 = [iV tl] ++ cs.drop 94 := split2 (k := 1) (m := 1) q12 (by rw [hd]; exact List.take_of_length_le (by simp; omega)) (by simp; omega)
  have q11 : (cs.drop 92).take 1 = [iV oo] := hoo
  have e11 : cs.drop 92 = [iV oo] ++ cs.drop 93 := split2 (k := 1) (m := 2) q11 (by rw [hd]; exact List.take_of_length_le (by simp; omega)) (by simp; omega)
  have q10 : (cs.drop 58).take 34 = (cI it.1 ++ (iV it.2.1.1 :: cI it.2.1.2) ++ [it.2.2.v]) := hit
  have e10 : cs.drop 58 = (cI it.1 ++ (iV it.2.1.1 :: cI it.2.1.2) ++ [it.2.2.v]) ++ cs.drop 92 := split2 (k := 34) (m := 3) q10 (by rw [hd]; exact List.take_of_length_le (by simp; omega)) (by simp; omega)
  have q9 : (cs.drop 57).take 1 = [ids.v] := hids.1
  have e9 : cs.drop 57 = [ids.v] ++ cs.drop 58 := split2 (k := 1) (m := 37) q9 (by rw [hd]; exact List.take_of_length_le (by simp; omega)) (by simp; omega)
  have q8 : (cs.drop 56).take 1 = [tr.v] := htr.1
  have e8 : cs.drop 56 = [tr.v] ++ cs.drop 57 := split2 (k := 1) (m := 38) q8 (by rw [hd]; exact List.take_of_length_le (by simp; omega)) (by simp; omega)
  have q7 : (cs.drop 54).take 2 = [iV tq.1, iV tq.2] := htq
  have e7 : cs.drop 54 = [iV tq.1, iV tq.2] ++ cs.drop 56 := split2 (k := 2) (m := 39) q7 (by rw [hd]; exact List.take_of_length_le (by simp; omega)) (by simp; omega)
  have q6 : (cs.drop 52).take 2 = [iV fq.1, iV fq.2] := hfq
  have e6 : cs.drop 52 = [iV fq.1, iV fq.2] ++ cs.drop 54 := split2 (k := 2) (m := 41) q6 (by rw [hd]; exact List.take_of_length_le (by simp; omega)) (by simp; omega)
  have q5 : (cs.drop 51).take 1 = [iV nn] := hnn
  have e5 : cs.drop 51 = [iV nn] ++ cs.drop 52 := split2 (k := 1) (m := 43) q5 (by rw [hd]; exact List.take_of_length_le (by simp; omega)) (by simp; omega)
  have q4 : (cs.drop 35).take 16 = cI b := by simpa [RId] using hb
  have e4 : cs.drop 35 = cI b ++ cs.drop 51 := split2 (k := 16) (m := 44) q4 (by rw [hd]; exact List.take_of_length_le (by simp; omega)) (by simp; omega)
  have q3 : (cs.drop 19).take 16 = cI a := by simpa [RId] using ha
  have e3 : cs.drop 19 = cI a ++ cs.drop 35 := split2 (k := 16) (m := 60) q3 (by rw [hd]; exact List.take_of_length_le (by simp; omega)) (by simp; omega)
  have q2 : (cs.drop 18).take 1 = [bV t] := by simpa [RBool] using ht
  have e2 : cs.drop 18 = [bV t] ++ cs.drop 19 := split2 (k := 1) (m := 76) q2 (by rw [hd]; exact List.take_of_length_le (by simp; omega)) (by simp; omega)
  have q1 : (cs.drop 1).take 17 = cP p := hp
  have e1 : cs.drop 1 = cP p ++ cs.drop 18 := split2 (k := 17) (m := 77) q1 (by rw [hd]; exact List.take_of_length_le (by simp; omega)) (by simp; omega)
  have q0 : (cs.drop 0).take 1 = [iV k] := by simpa using hk
  have e0 : cs = [iV k] ++ cs.drop 1 := split2 (k := 1) (m := 94) q0 (List.take_of_length_le (by simp; omega)) hl
  refine ⟨⟨k, p, t, a, b, nn, fq, tq, tr, ids, it.1, it.2.1, it.2.2, oo, tl, tx⟩, ⟨?_, wp, wf1, wf2, wt1, wt2, wit, by have := htr; rw [show ((cs.drop (_ : Nat)).take _) = [tr.v] from q8] at this; exact this, by have := hids; rw [show ((cs.drop (_ : Nat)).take _) = [ids.v] from q9] at this; exact this, hval, by have := htx; rw [show ((cs.drop (_ : Nat)).take _) = [tx.v] from q13] at this; exact this⟩⟩
  show cs = cFG (FIn.f ⟨k, p, t, a, b, nn, fq, tq, tr, ids, it.1, it.2.1, it.2.2, oo, tl, tx⟩) (FIn.s ⟨k, p, t, a, b, nn, fq, tq, tr, ids, it.1, it.2.1, it.2.2, oo, tl, tx⟩)
  rw [e0, e1, e2, e3, e4, e5, e6, e7, e8, e9, e10, e11, e12, e13]
  rfl

theorem RFin.len {W : World} {cs : List Value} {x : FIn} (h : RFin W cs x) : BigF x.f := by
  obtain ⟨_, a1, a2, _⟩ := h.tr
  obtain ⟨_, b1, b2, _⟩ := h.ids
  obtain ⟨_, c1, c2, _⟩ := h.val
  obtain ⟨_, d1, d2, _⟩ := h.txt
  have h3 : reachBytes = 140737488351232 := rfl
  exact ⟨by show x.tr.xs.length ≤ _; omega, by show x.ids.xs.length ≤ _; omega, by show x.val.xs.length ≤ _; omega, by show x.txt.xs.length ≤ _; omega⟩
theorem RFin.ok {W : World} {cs : List Value} {x : FIn} (h : RFin W cs x) : OkF x.f := by
  have h1 := h.len
  exact ⟨h.p, h.fi, h.fn, h.ti, h.tn, h.vn, by have := h1.tr; omega, by have := h1.ids; omega⟩
theorem RFin.rows {W : World} {cs : List Value} {x : FIn} (h : RFin W cs x) : FRows W x.f x.s :=
  ⟨rslI h.tr, rslG (c := cI) (sz := 16) (fun _ => rfl) (by omega) (fun _ _ _ h => h) h.ids, h.val.row, h.txt.row⟩
/-- a frame whose trail is cut to 200 places -/
def cutF (f : FV) : FV := { f with tr := f.tr.take 200 }
theorem row_take {w : World} {a : Option Addr} {k c j : Nat} {xs : List Value} (h : Row w (.slice a k c) k xs) (hj : j ≤ k) : Row w (.slice a j c) j (xs.take j) := by
  obtain ⟨a1, c1, hv, hk1, h1⟩ := h
  simp only [Value.slice.injEq] at hv
  obtain ⟨rfl, _, rfl⟩ := hv
  refine ⟨a, c, rfl, by omega, ?_⟩
  rcases h1 with h1 | ⟨b1, o1, h1, h2⟩
  · exact .inl (by rw [h1]; simp)
  · refine .inr ⟨b1, o1, h1, fun j hj => ?_⟩
    simp only [List.length_take] at hj
    rw [h2 j (by omega), List.getElem?_take_of_lt (by omega)]
theorem rows_cut {w : World} {f : FV} {at1 : Option Addr} {ct1 : Nat} {v1 v2 v3 : Value} (h : FRows w f ⟨.slice at1 f.tr.length ct1, v1, v2, v3⟩) : FRows w (cutF f) ⟨.slice at1 (cutF f).tr.length ct1, v1, v2, v3⟩ := by
  refine ⟨?_, h.ids, h.val, h.txt⟩
  show Row w (.slice at1 (f.tr.take 200).length ct1) (f.tr.take 200).length ((f.tr.take 200).map iV)
  have h1 := row_take (j := (f.tr.take 200).length) h.tr (by simp; omega)
  have h2 : ((f.tr.map iV).take (f.tr.take 200).length) = (f.tr.take 200).map iV := by
    rw [← List.map_take, List.length_take, List.take_eq_take_iff.2]
    omega
  rw [h2] at h1
  exact h1
theorem cut_len (f : FV) : (cutF f).tr.length ≤ 200 := by
  show (f.tr.take 200).length ≤ 200
  rw [List.length_take]
  omega
theorem cut_big {f : FV} (h : BigF f) : BigF (cutF f) := ⟨by have := cut_len f; omega, h.ids, h.val, h.txt⟩
theorem cut_ok {f : FV} (h : OkF f) : OkF (cutF f) := ⟨h.p, h.fi, h.fn, h.ti, h.tn, h.vn, by have := cut_len f; omega, h.lids⟩
/-- a frame's copy: its slices and their blocks -/
structure CopyS where
  a1 : Option Addr
  c1 : Nat
  l1 : List (Nat × Obj)
  a2 : Option Addr
  c2 : Nat
  l2 : List (Nat × Obj)
  a3 : Option Addr
  c3 : Nat
  l3 : List (Nat × Obj)
  a4 : Option Addr
  c4 : Nat
  l4 : List (Nat × Obj)
abbrev CopyS.s (x : CopyS) (f : FV) : FSl := ⟨.slice x.a1 f.tr.length x.c1, .slice x.a2 f.ids.length x.c2, .slice x.a4 f.val.length x.c4, .slice x.a3 f.txt.length x.c3⟩
structure CopyS.V (x : CopyS) (f : FV) : Prop where
  tr : Vec 3 1 (.slice x.a1 f.tr.length x.c1) f.tr.length (f.tr.map iV) x.l1
  ids : Vec 23 16 (.slice x.a2 f.ids.length x.c2) f.ids.length (f.ids.flatMap cI) x.l2
  txt : Vec 5 1 (.slice x.a3 f.txt.length x.c3) f.txt.length (f.txt.map u8) x.l3
  val : Vec 5 1 (.slice x.a4 f.val.length x.c4) f.val.length (f.val.map u8) x.l4
abbrev CopyS.l (x : CopyS) : List (Nat × Obj) := x.l1 ++ (x.l2 ++ (x.l3 ++ x.l4))

end Go.Proofs.Ytpldpkdlloolkaa
/-
  What Take does, by what comes of it; what the law's same says of it: contracts.
-/
namespace Go.Proofs.Ytpldpkdlloolkaa
open Go.J Go.RowKit
set_option linter.unusedVariables false
set_option linter.unusedSimpArgs false
set_option maxRecDepth 8000
def BackQ (me : IDV) (f : FV) (os : List Bool) (i : Nat) : Prop := (i + 1 = f.tr.length ∧ ¬ f.b = me) ∨ ∃ nx, f.tr[i + 1]? = some nx ∧ openQ os nx = false
def GoQ (me : IDV) (f : FV) (os : List Bool) (i : Nat) (nb : Int) : Prop := (i + 1 = f.tr.length ∧ f.b = me ∧ nb = -1) ∨ (f.tr[i + 1]? = some nb ∧ openQ os nb = true)
theorem back_go (me : IDV) (f : FV) (os : List Bool) (i : Nat) (hi : i < f.tr.length) : BackQ me f os i ∨ ∃ nb, GoQ me f os i nb := by
  by_cases hl : i + 1 = f.tr.length
  · by_cases hb : f.b = me
    · exact .inr ⟨-1, .inl ⟨hl, hb, rfl⟩⟩
    · exact .inl (.inl ⟨hl, hb⟩)
  · obtain ⟨nx, hnx⟩ : ∃ y, f.tr[i + 1]? = some y := ⟨_, List.getElem?_eq_getElem (by omega)⟩
    cases ho : openQ os nx with
    | false => exact .inl (.inr ⟨nx, hnx, ho⟩)
    | true => exact .inr ⟨nx, .inr ⟨hnx, ho⟩⟩
theorem good_take {n fr : Int} {f : FV} (h : ¬ badT n fr f) : f.k = 4 ∧ f.tr.Nodup ∧ ∃ i : Nat, 1 ≤ i ∧ i < f.tr.length ∧ placeP f.tr n = (i : Int) ∧ f.tr[i - 1]? = some fr := by
  have h1 : f.k = 4 := Classical.not_not.1 fun x => h (.inl x)
  have h2 : ¬ placeP f.tr n < 1 := fun x => h (.inr (.inl x))
  have h3 : f.tr[(placeP f.tr n).toNat - 1]? = some fr := Classical.not_not.1 fun x => h (.inr (.inr (.inl x)))
  have h4 : f.tr.Nodup := Classical.not_not.1 fun x => h (.inr (.inr (.inr x)))
  obtain ⟨i, hi, hi2, hat⟩ := place_in (xs := f.tr) (n := n) (by omega)
  refine ⟨h1, h4, i, hi, hi2, hat, ?_⟩
  rw [hat] at h3
  simpa using h3
/-- the frame that is sent back -/
def fBack (p : PV) : FV := ⟨5, p, false, zI, zI, 0, 0, 0, 0, 0, [], [], zI, 0, zI, [], 0, 0, []⟩
theorem gtake_back (t mb : Nat) (mo : Int) (L : List EV) (es : Array MapEntry) (ck : Nat) (n fr : Int) (me : IDV) (f : FV) (s : FSl) (ov : Value) (os : List Bool) (w : World) (hs : FRows w f s) (hso : FOff [t, mb] f s) (hg : BigF f) (hl : f.tr.length ≤ 1099511627775) (hk : f.k = 4) (hp : okN f.p.n) (hfr : okN fr) (i : Nat) (hi : 1 ≤ i) (hi2 : i < f.tr.length) (hat : placeP f.tr n = (i : Int)) (hfrom : f.tr[i - 1]? = some fr) (hnd : f.tr.Nodup) (hro : Row w ov os.length (os.map bV)) (hoffo : Off [t, mb] ov (os.map bV)) (hlo : os.length < 4611686018427387904) (hw0 : Own w [(t, tabO mo mb), (mb, .map es ck)]) (hT : Tab L es ck) (hb : BackQ me f os i) : Calls Try.prog 19 [.pointer (some ⟨t, 0, none⟩), .agg (cW n me).toArray, .int .i64 fr, .agg (cFG f s).toArray, ov].toArray w fun r w' => ∃ h : Nat, r = .returned (.agg (cD (.slice (some ⟨h, 0, none⟩) 1 1) false false).toArray) ∧ True ∧ St w [t, mb] ((h, cb (cH fr (cF 5 f.p zI zI nilV)) 54) :: [(t, tabO mo mb), (mb, .map es ck)]) w' := by
  rcases hb with ⟨hl, hb⟩ | ⟨nx, hnx, ho⟩
  · exact (gtake_off t mb mo L es ck w hw0 hT n fr me f.a f.b f.p hp hfr f s hs hso hg hk rfl rfl rfl f.tr rfl (by omega) i hi hi2 hat hfrom hnd ov os hro hoffo hlo hl hb).mono fun _ _ ⟨x, h1, h2⟩ => ⟨x, h1, trivial, h2⟩
  · exact (gtake_shut t mb mo L es ck w hw0 hT n fr me f.a f.b f.p hp hfr f s hs hso hg hk rfl rfl rfl f.tr rfl (by omega) i hi hi2 hat hfrom hnd ov os hro hoffo hlo nx hnx ho).mono fun _ _ ⟨x, h1, h2⟩ => ⟨x, h1, trivial, h2⟩

theorem gtake_fullQ (t mb : Nat) (mo : Int) (L : List EV) (es : Array MapEntry) (ck : Nat) (n fr : Int) (me : IDV) (f : FV) (s : FSl) (ov : Value) (os : List Bool) (w : World) (hs : FRows w f s) (hso : FOff [t, mb] f s) (hg : BigF f) (hl : f.tr.length ≤ 1099511627775) (hk : f.k = 4) (hp : okN f.p.n) (hfr : okN fr) (i : Nat) (hi : 1 ≤ i) (hi2 : i < f.tr.length) (hat : placeP f.tr n = (i : Int)) (hfrom : f.tr[i - 1]? = some fr) (hnd : f.tr.Nodup) (hro : Row w ov os.length (os.map bV)) (hoffo : Off [t, mb] ov (os.map bV)) (hlo : os.length < 4611686018427387904) (hw0 : Own w [(t, tabO mo mb), (mb, .map es ck)]) (hT : Tab L es ck) {nb : Int} (hgo : GoQ me f os i nb) {e : Int} {L' : List EV} (hadd : tadd L mo (⟨f.p, f.a, f.b, fr, nb⟩ : EV) = (e, L')) (he : e ≠ 0) : Calls Try.prog 19 [.pointer (some ⟨t, 0, none⟩), .agg (cW n me).toArray, .int .i64 fr, .agg (cFG f s).toArray, ov].toArray w fun r w' => ∃ x : Nat × Array MapEntry × Nat, r = .returned (.agg (cD (.slice (some ⟨x.1, 0, none⟩) 1 1) false (e == 5)).toArray) ∧ Tab L' x.2.1 x.2.2 ∧ St w [t, mb] ((x.1, cb (cH fr (cF 5 f.p zI zI nilV)) 54) :: [(t, tabO mo mb), (mb, .map x.2.1 x.2.2)]) w' := by
  rcases hgo with ⟨hl, hb, rfl⟩ | ⟨hnx, ho⟩
  · exact gtake_full t mb mo L es ck w hw0 hT n fr me f.a f.b f.p hp hfr f s hs hso hg hk rfl rfl rfl f.tr rfl (by omega) i hi hi2 hat hfrom hnd ov os hro hoffo hlo hl hb hadd he
  · exact gtake_onfull t mb mo L es ck w hw0 hT n fr me f.a f.b f.p hp hfr f s hs hso hg hk rfl rfl rfl f.tr rfl (by omega) i hi hi2 hat hfrom hnd ov os hro hoffo hlo nb hnx ho hadd he

theorem gtake_mineQ (t mb : Nat) (mo : Int) (L : List EV) (es : Array MapEntry) (ck : Nat) (n fr : Int) (me : IDV) (f : FV) (s : FSl) (ov : Value) (os : List Bool) (w : World) (hs : FRows w f s) (hso : FOff [t, mb] f s) (hg : BigF f) (hl : f.tr.length ≤ 1099511627775) (hk : f.k = 4) (hp : okN f.p.n) (hfr : okN fr) (i : Nat) (hi : 1 ≤ i) (hi2 : i < f.tr.length) (hat : placeP f.tr n = (i : Int)) (hfrom : f.tr[i - 1]? = some fr) (hnd : f.tr.Nodup) (hro : Row w ov os.length (os.map bV)) (hoffo : Off [t, mb] ov (os.map bV)) (hlo : os.length < 4611686018427387904) (hw0 : Own w [(t, tabO mo mb), (mb, .map es ck)]) (hT : Tab L es ck) (hlast : i + 1 = f.tr.length) (hid : f.b = me) {L' : List EV} (hadd : tadd L mo (⟨f.p, f.a, f.b, fr, -1⟩ : EV) = (0, L')) : Calls Try.prog 19 [.pointer (some ⟨t, 0, none⟩), .agg (cW n me).toArray, .int .i64 fr, .agg (cFG f s).toArray, ov].toArray w fun r w' => ∃ y : Array MapEntry × Nat, r = .returned (.agg (cD nilV true false).toArray) ∧ Tab L' y.1 y.2 ∧ St w [t, mb] [(t, tabO mo mb), (mb, .map y.1 y.2)] w' := by
  exact gtake_last t mb mo L es ck w hw0 hT n fr me f.a f.b f.p hp hfr f s hs hso hg hk rfl rfl rfl f.tr rfl (by omega) i hi hi2 hat hfrom hnd ov os hro hoffo hlo hlast hid hadd

theorem gtake_onQ (t mb : Nat) (mo : Int) (L : List EV) (es : Array MapEntry) (ck : Nat) (n fr : Int) (me : IDV) (f : FV) (s : FSl) (ov : Value) (os : List Bool) (w : World) (hs : FRows w f s) (hso : FOff [t, mb] f s) (hg : BigF f) (hl : f.tr.length ≤ 1099511627775) (hk : f.k = 4) (hp : okN f.p.n) (hfr : okN fr) (i : Nat) (hi : 1 ≤ i) (hi2 : i < f.tr.length) (hat : placeP f.tr n = (i : Int)) (hfrom : f.tr[i - 1]? = some fr) (hnd : f.tr.Nodup) (hro : Row w ov os.length (os.map bV)) (hoffo : Off [t, mb] ov (os.map bV)) (hlo : os.length < 4611686018427387904) (hw0 : Own w [(t, tabO mo mb), (mb, .map es ck)]) (hT : Tab L es ck) (nx : Int) (hnx : f.tr[i + 1]? = some nx) (hop : openQ os nx = true) {L' : List EV} (hadd : tadd L mo (⟨f.p, f.a, f.b, fr, nx⟩ : EV) = (0, L')) : Calls Try.prog 19 [.pointer (some ⟨t, 0, none⟩), .agg (cW n me).toArray, .int .i64 fr, .agg (cFG f s).toArray, ov].toArray w fun r w' => ∃ x : OutS, r = .returned (.agg (cD (.slice (some ⟨x.h, 0, none⟩) 1 1) false false).toArray) ∧ (Vec 3 1 (.slice x.a f.tr.length x.c) f.tr.length (f.tr.map iV) x.lp ∧ Tab L' x.es x.ck) ∧ St w [t, mb] ((x.h, cb (cH nx (cF 4 f.p f.a f.b (.slice x.a f.tr.length x.c))) 54) :: (x.lp ++ [(t, tabO mo mb), (mb, .map x.es x.ck)])) w' := by
  exact gtake_on t mb mo L es ck w hw0 hT n fr me f.a f.b f.p hp hfr f s hs hso hg hk rfl rfl rfl f.tr rfl (by omega) i hi hi2 hat hfrom hnd ov os hro hoffo hlo nx hnx hop hadd

end Go.Proofs.Ytpldpkdlloolkaa
/-
  A Setup comes: what setup.Take does at a trail that may be: contracts.
-/
namespace Go.Proofs.Ytpldpkdlloolkaa
open Go.J Go.RowKit
set_option linter.unusedVariables false
set_option linter.unusedSimpArgs false
set_option maxRecDepth 8000
theorem row_nil' (w : World) : Row w nilV 0 [] := ⟨none, 0, rfl, Nat.le_refl _, .inl rfl⟩
def fSet (p : PV) (a b : IDV) (way : List Int) : FV := ⟨4, p, false, a, b, 0, 0, 0, 0, 0, way, [], zI, 0, zI, [], 0, 0, []⟩

theorem take_shut (t mb : Nat) (most : Int) (L : List EV) (es : Array MapEntry) (clock : Nat) (w : World) (hw0 : Own w [(t, tabO most mb), (mb, .map es clock)]) (hT : Tab L es clock) (n fr : Int) (id a b : IDV) (p : PV) (hp : okN p.n) (hfr : okN fr) (v : Value) (way : List Int) (hr : Row w v way.length (way.map iV)) (hoff : Off [t, mb] v (way.map iV)) (hlen : way.length < 1099511627776) (i : Nat) (hi : 1 ≤ i) (hi2 : i < way.length) (hat : placeP way n = (i : Int)) (hfrom : way[i - 1]? = some fr) (hnd : way.Nodup) (ov : Value) (os : List Bool) (hro : Row w ov os.length (os.map bV)) (hoffo : Off [t, mb] ov (os.map bV)) (hlo : os.length < 4611686018427387904) (nx : Int) (hnx : way[i + 1]? = some nx) (hop : openQ os nx = false) :
    Calls Try.prog 19 [.pointer (some ⟨t, 0, none⟩), .agg (cW n id).toArray, .int .i64 fr, .agg (cF 4 p a b v).toArray, ov].toArray w fun r w' => ∃ h : Nat, r = .returned (.agg (cD (.slice (some ⟨h, 0, none⟩) 1 1) false false).toArray) ∧ St w [t, mb] ((h, cb (cH fr (cF 5 p zI zI nilV)) 54) :: [(t, tabO most mb), (mb, .map es clock)]) w' :=
  gtake_shut t mb most L es clock w hw0 hT n fr id a b p hp hfr (fSet p a b way) ⟨v, nilV, nilV, nilV⟩ ⟨hr, row_nil' w, row_nil' w, row_nil' w⟩ ⟨hoff, .inl rfl, .inl rfl, .inl rfl⟩ ⟨by show way.length ≤ _; omega, Nat.zero_le _, Nat.zero_le _, Nat.zero_le _⟩ rfl rfl rfl rfl way rfl hlen i hi hi2 hat hfrom hnd ov os hro hoffo hlo nx hnx hop

theorem take_full (t mb : Nat) (most : Int) (L : List EV) (es : Array MapEntry) (clock : Nat) (w : World) (hw0 : Own w [(t, tabO most mb), (mb, .map es clock)]) (hT : Tab L es clock) (n fr : Int) (id a b : IDV) (p : PV) (hp : okN p.n) (hfr : okN fr) (v : Value) (way : List Int) (hr : Row w v way.length (way.map iV)) (hoff : Off [t, mb] v (way.map iV)) (hlen : way.length < 1099511627776) (i : Nat) (hi : 1 ≤ i) (hi2 : i < way.length) (hat : placeP way n = (i : Int)) (hfrom : way[i - 1]? = some fr) (hnd : way.Nodup) (ov : Value) (os : List Bool) (hro : Row w ov os.length (os.map bV)) (hoffo : Off [t, mb] ov (os.map bV)) (hlo : os.length < 4611686018427387904) (hlast : i + 1 = way.length) (hid : b = id) {e : Int} {L' : List EV} (hadd : tadd L most (⟨p, a, b, fr, -1⟩ : EV) = (e, L')) (he : e ≠ 0) :
    Calls Try.prog 19 [.pointer (some ⟨t, 0, none⟩), .agg (cW n id).toArray, .int .i64 fr, .agg (cF 4 p a b v).toArray, ov].toArray w fun r w' => ∃ x : Nat × Array MapEntry × Nat, r = .returned (.agg (cD (.slice (some ⟨x.1, 0, none⟩) 1 1) false (e == 5)).toArray) ∧ Tab L' x.2.1 x.2.2 ∧ St w [t, mb] ((x.1, cb (cH fr (cF 5 p zI zI nilV)) 54) :: [(t, tabO most mb), (mb, .map x.2.1 x.2.2)]) w' :=
  gtake_full t mb most L es clock w hw0 hT n fr id a b p hp hfr (fSet p a b way) ⟨v, nilV, nilV, nilV⟩ ⟨hr, row_nil' w, row_nil' w, row_nil' w⟩ ⟨hoff, .inl rfl, .inl rfl, .inl rfl⟩ ⟨by show way.length ≤ _; omega, Nat.zero_le _, Nat.zero_le _, Nat.zero_le _⟩ rfl rfl rfl rfl way rfl hlen i hi hi2 hat hfrom hnd ov os hro hoffo hlo hlast hid hadd he

theorem take_last (t mb : Nat) (most : Int) (L : List EV) (es : Array MapEntry) (clock : Nat) (w : World) (hw0 : Own w [(t, tabO most mb), (mb, .map es clock)]) (hT : Tab L es clock) (n fr : Int) (id a b : IDV) (p : PV) (hp : okN p.n) (hfr : okN fr) (v : Value) (way : List Int) (hr : Row w v way.length (way.map iV)) (hoff : Off [t, mb] v (way.map iV)) (hlen : way.length < 1099511627776) (i : Nat) (hi : 1 ≤ i) (hi2 : i < way.length) (hat : placeP way n = (i : Int)) (hfrom : way[i - 1]? = some fr) (hnd : way.Nodup) (ov : Value) (os : List Bool) (hro : Row w ov os.length (os.map bV)) (hoffo : Off [t, mb] ov (os.map bV)) (hlo : os.length < 4611686018427387904) (hlast : i + 1 = way.length) (hid : b = id) {L' : List EV} (hadd : tadd L most (⟨p, a, b, fr, -1⟩ : EV) = (0, L')) :
    Calls Try.prog 19 [.pointer (some ⟨t, 0, none⟩), .agg (cW n id).toArray, .int .i64 fr, .agg (cF 4 p a b v).toArray, ov].toArray w fun r w' => ∃ y : Array MapEntry × Nat, r = .returned (.agg (cD nilV true false).toArray) ∧ Tab L' y.1 y.2 ∧ St w [t, mb] [(t, tabO most mb), (mb, .map y.1 y.2)] w' :=
  gtake_last t mb most L es clock w hw0 hT n fr id a b p hp hfr (fSet p a b way) ⟨v, nilV, nilV, nilV⟩ ⟨hr, row_nil' w, row_nil' w, row_nil' w⟩ ⟨hoff, .inl rfl, .inl rfl, .inl rfl⟩ ⟨by show way.length ≤ _; omega, Nat.zero_le _, Nat.zero_le _, Nat.zero_le _⟩ rfl rfl rfl rfl way rfl hlen i hi hi2 hat hfrom hnd ov os hro hoffo hlo hlast hid hadd

theorem take_on (t mb : Nat) (most : Int) (L : List EV) (es : Array MapEntry) (clock : Nat) (w : World) (hw0 : Own w [(t, tabO most mb), (mb, .map es clock)]) (hT : Tab L es clock) (n fr : Int) (id a b : IDV) (p : PV) (hp : okN p.n) (hfr : okN fr) (v : Value) (way : List Int) (hr : Row w v way.length (way.map iV)) (hoff : Off [t, mb] v (way.map iV)) (hlen : way.length < 1099511627776) (i : Nat) (hi : 1 ≤ i) (hi2 : i < way.length) (hat : placeP way n = (i : Int)) (hfrom : way[i - 1]? = some fr) (hnd : way.Nodup) (ov : Value) (os : List Bool) (hro : Row w ov os.length (os.map bV)) (hoffo : Off [t, mb] ov (os.map bV)) (hlo : os.length < 4611686018427387904) (nx : Int) (hnx : way[i + 1]? = some nx) (hop : openQ os nx = true) {L' : List EV} (hadd : tadd L most (⟨p, a, b, fr, nx⟩ : EV) = (0, L')) :
    Calls Try.prog 19 [.pointer (some ⟨t, 0, none⟩), .agg (cW n id).toArray, .int .i64 fr, .agg (cF 4 p a b v).toArray, ov].toArray w fun r w' => ∃ x : OutS, r = .returned (.agg (cD (.slice (some ⟨x.h, 0, none⟩) 1 1) false false).toArray) ∧ (Vec 3 1 (.slice x.a way.length x.c) way.length (way.map iV) x.lp ∧ Tab L' x.es x.ck) ∧ St w [t, mb] ((x.h, cb (cH nx (cF 4 p a b (.slice x.a way.length x.c))) 54) :: (x.lp ++ [(t, tabO most mb), (mb, .map x.es x.ck)])) w' :=
  gtake_on t mb most L es clock w hw0 hT n fr id a b p hp hfr (fSet p a b way) ⟨v, nilV, nilV, nilV⟩ ⟨hr, row_nil' w, row_nil' w, row_nil' w⟩ ⟨hoff, .inl rfl, .inl rfl, .inl rfl⟩ ⟨by show way.length ≤ _; omega, Nat.zero_le _, Nat.zero_le _, Nat.zero_le _⟩ rfl rfl rfl rfl way rfl hlen i hi hi2 hat hfrom hnd ov os hro hoffo hlo nx hnx hop hadd

end Go.Proofs.Ytpldpkdlloolkaa
/-
  The example at the head of layer 14's laws: walk.
-/
namespace Go.Proofs.Ytpldpkdlloolkaa
open Go.J Go.RowKit
set_option linter.unusedVariables false
set_option linter.unusedSimpArgs false
set_option maxRecDepth 8000
def idN (k : UInt8) : IDV := fun i => if i = 0 then k else 0
theorem idN_ne {a b : UInt8} (h : a ≠ b) : idN a ≠ idN b := fun e => h (by have := congrFun e 0; simpa [idN] using this)
theorem tadd_nil {most : Int} {x : EV} (h : rightP x) (hm : 0 < most) : tadd [] most x = (0, [x]) := by
  unfold tadd
  rw [if_neg (by simpa using h), if_neg (by simp [tget]), if_neg (by simp; omega)]
  rfl
abbrev P1 : PV := ⟨zI, 1⟩
abbrev W021 : List Int := [0, 2, 1]
abbrev OPS (k : Nat) : List Bool := List.replicate k true

theorem fixed14_spec (w : World) :
    Calls Try.prog 15 [].toArray w fun r w' => r = .returned (.bool true) ∧ Bel w w' := by
  refine calls_of_J (args := []) (e := []) Try.func15 rfl rfl trivial (St.start w) ?_
  refine JC.seq (fun K0 hK0 => ?_)
  refine JC.region ?_
  refine J.assign rfl rfl ?_
  refine J.nil ?_
  refine JX.thenN (hK0 _ _ ?_)
  refine JC.seq (fun K1 hK1 => ?_)
  refine JC.region ?_
  refine J.buildSl (cs := [bV true, bV true, bV true]) Ty.el28 Ty.s4 Ty.z4 rfl rfl rfl rfl (by kernel_rfl) rfl rfl (fun b9 => ?_)
  refine J.assign rfl rfl ?_
  refine J.nil ?_
  refine JX.thenN (hK1 _ _ ?_)
  refine JC.seq (fun K2 hK2 => ?_)
  refine JC.region ?_
  refine J.perm ([] ++ ((b9, cb [bV true, bV true, bV true] 4) :: [])) (.refl _) ?_
  refine J.callS (α := Nat × Nat) (V := fun x => .pointer (some ⟨x.1, 0, none⟩)) (Pr := fun _ => True) (L := fun x => [(x.1, tabO 4 x.2), (x.2, .map #[] 0)]) (l1 := []) Ty.bd16 rfl rfl (fun w1 hw => (new_spec 4 w1).mono fun _ _ ⟨x, h1, h2⟩ => ⟨x, h1, trivial, h2⟩) (fun x _ => ?_)
  obtain ⟨t2, m2⟩ := x
  simp only
  refine J.assign rfl rfl ?_
  refine J.nil ?_
  refine JX.thenN (hK2 _ _ ?_)
  refine JC.seq (fun K3 hK3 => ?_)
  refine JC.region ?_
  refine J.move rfl rfl ?_
  refine J.buildA (cs := cI (idN 1)) Ty.ar23 Ty.s5 Ty.z23 rfl (by kernel_rfl) rfl ?_
  refine J.buildS (cs := cW 0 (idN 1)) Ty.pl41 zW rfl (by kernel_rfl) rfl ?_
  refine J.buildS (cs := cP P1) Ty.pl25 Ty.z25 rfl (by kernel_rfl) rfl ?_
  refine J.buildA (cs := cI (idN 2)) Ty.ar23 Ty.s5 Ty.z23 rfl (by kernel_rfl) rfl ?_
  refine J.buildSl (cs := W021.map iV) Ty.el26 Ty.s3 Ty.z3 rfl rfl rfl rfl (by kernel_rfl) rfl rfl (fun b17 => ?_)
  refine J.move rfl rfl ?_
  refine J.perm ([(t2, tabO 4 m2), (m2, .map #[] 0)] ++ ((b17, cb (W021.map iV) 3) :: (b9, cb [bV true, bV true, bV true] 4) :: [])) (by (refine perm_cnt (fun _ => ?_)); simp only [cntB_append, cntB_cons, cntB_nil, Nat.add_zero, Nat.zero_add]; try ac_rfl) ?_
  refine J.callS (α := OutS) (V := fun x => .tuple #[.agg (cD (.slice (some ⟨x.h, 0, none⟩) 1 1) true false).toArray, .int .i64 0]) (Pr := fun x => Vec 3 1 (.slice x.a 3 x.c) 3 (W021.map iV) x.lp ∧ Tab [(⟨P1, idN 1, idN 2, -1, 2⟩ : EV)] x.es x.ck) (L := fun x => (x.h, cb (cH 2 (cF 4 P1 (idN 1) (idN 2) (.slice x.a 3 x.c))) 54) :: (x.lp ++ [(t2, tabO 4 m2), (m2, .map x.es x.ck)])) (l1 := [(t2, tabO 4 m2), (m2, .map #[] 0)]) Ty.bd18 rfl rfl
    (fun w1 hw => start_ok t2 m2 4 [] #[] 0 w1 hw.owns Tab.nil 0 2 (idN 1) (idN 2) P1 (okN_small (by decide) (by decide)) b17 0 3 [1] (Row.own hw (.tail _ (.tail _ (.head _))) rfl (Nat.le_refl _)) (Off.mk (hw.off (l1 := [(t2, tabO 4 m2), (m2, .map #[] 0)]) (.head _))) (by simp) (by decide) (idN_ne (by decide)) (.slice (some ⟨b9, 0, none⟩) 3 3) [true, true, true] (Row.own hw (.tail _ (.tail _ (.tail _ (.head _)))) rfl (Nat.le_refl _)) (Off.mk (hw.off (l1 := [(t2, tabO 4 m2), (m2, .map #[] 0)]) (.tail _ (.head _)))) (by simp) (by decide) (tadd_nil ⟨idN_ne (by decide), by decide, by decide, by decide⟩ (by decide))) (fun x hx => ?_)
  obtain ⟨h3, a3, c3, lp3, es3, ck3⟩ := x
  obtain ⟨hv3, _⟩ := hx
  simp only at hv3 ⊢
  refine J.conseq (I' := St w [] ((h3, cb (cH 2 (cF 4 P1 (idN 1) (idN 2) (.slice a3 3 c3))) 54) :: (b9, cb [bV true, bV true, bV true] 4) :: lp3)) ?_ (fun w1 hw => (hw.perm (l' := ((b17, cb (W021.map iV) 3) :: [(t2, tabO 4 m2), (m2, .map es3 ck3)]) ++ ((h3, cb (cH 2 (cF 4 P1 (idN 1) (idN 2) (.slice a3 3 c3))) 54) :: (b9, cb [bV true, bV true, bV true] 4) :: lp3)) (by (refine perm_cnt (fun _ => ?_)); simp only [cntB_append, cntB_cons, cntB_nil, Nat.add_zero, Nat.zero_add]; try ac_rfl)).drop (List.sublist_append_right _ _))
  refine J.move rfl rfl ?_
  refine J.extract rfl rfl rfl ?_
  refine J.extract rfl rfl rfl ?_
  refine J.alloc zN rfl rfl (fun b3 => ?_)
  refine J.storeW Ty.s37 rfl rfl rfl rfl rfl (by simp [Value.oneCell']) (by repeat first | exact .here | apply Up.there) ?_
  refine J.assign rfl rfl ?_
  refine J.nil ?_
  refine JX.thenN (hK3 _ _ ?_)
  refine JC.seq (fun K4 hK4 => ?_)
  refine JC.seq (fun K5 hK5 => ?_)
  refine JC.region ?_
  refine J.move rfl rfl ?_
  refine J.eqNil Ty.u29 rfl rfl rfl ?_
  refine J.move rfl rfl ?_
  first | refine J.skip rfl rfl rfl rfl rfl ?_ | refine J.skipU rfl rfl rfl rfl ?_ | (refine J.unguard rfl rfl rfl ?_; refine J.move rfl rfl ?_)
  first | refine J.skip rfl rfl rfl rfl rfl ?_ | refine J.skipU rfl rfl rfl rfl ?_ | (refine J.unguard rfl rfl rfl ?_; refine J.bin rfl rfl rfl rfl ?_)
  (first | refine J.pickT rfl rfl rfl ?_ | refine J.pickF rfl rfl rfl ?_)
  refine J.move rfl rfl ?_
  first | refine J.skip rfl rfl rfl rfl rfl ?_ | refine J.skipU rfl rfl rfl rfl ?_ | (refine J.unguard rfl rfl rfl ?_; refine J.fieldAddr Ty.fd37_0 rfl rfl ?_)
  first | refine J.skip rfl rfl rfl rfl rfl ?_ | refine J.skipU rfl rfl rfl rfl ?_ | (refine J.unguard rfl rfl rfl ?_; refine J.loadO Ty.a35 rfl (by repeat first | exact .head _ | apply List.Mem.tail | apply List.mem_append_right) (by exact rfl) rfl ?_)
  first | refine J.skip rfl rfl rfl rfl rfl ?_ | refine J.skipU rfl rfl rfl rfl ?_ | (refine J.unguard rfl rfl rfl ?_; refine J.lenS rfl Ty.u35 rfl rfl ?_)
  first | refine J.skip rfl rfl rfl rfl rfl ?_ | refine J.skipU rfl rfl rfl rfl ?_ | (refine J.unguard rfl rfl rfl ?_; refine J.bin rfl rfl rfl rfl ?_)
  (first | refine J.pickT rfl rfl rfl ?_ | refine J.pickF rfl rfl rfl ?_)
  refine J.move rfl rfl ?_
  first | refine J.skip rfl rfl rfl rfl rfl ?_ | refine J.skipU rfl rfl rfl rfl ?_ | (refine J.unguard rfl rfl rfl ?_; refine J.fieldAddr Ty.fd37_0 rfl rfl ?_)
  first | refine J.skip rfl rfl rfl rfl rfl ?_ | refine J.skipU rfl rfl rfl rfl ?_ | (refine J.unguard rfl rfl rfl ?_; refine J.loadO Ty.a35 rfl (by repeat first | exact .head _ | apply List.Mem.tail | apply List.mem_append_right) (by exact rfl) rfl ?_)
  first | refine J.skip rfl rfl rfl rfl rfl ?_ | refine J.skipU rfl rfl rfl rfl ?_ | (refine J.unguard rfl rfl rfl ?_; refine J.indexAddrS Ty.el35 Ty.s54 rfl rfl (by omega) (by omega) rfl ?_)
  first | refine J.skip rfl rfl rfl rfl rfl ?_ | refine J.skipU rfl rfl rfl rfl ?_ | (refine J.unguard rfl rfl rfl ?_; refine J.fieldAddr Ty.fd54_0 rfl rfl ?_)
  first | refine J.skip rfl rfl rfl rfl rfl ?_ | refine J.skipU rfl rfl rfl rfl ?_ | (refine J.unguard rfl rfl rfl ?_; refine J.loadO Ty.a3 rfl (by repeat first | exact .head _ | apply List.Mem.tail | apply List.mem_append_right) (by exact rfl) rfl ?_)
  first | refine J.skip rfl rfl rfl rfl rfl ?_ | refine J.skipU rfl rfl rfl rfl ?_ | (refine J.unguard rfl rfl rfl ?_; refine J.bin rfl rfl rfl rfl ?_)
  (first | refine J.pickT rfl rfl rfl ?_ | refine J.pickF rfl rfl rfl ?_)
  refine J.move rfl rfl ?_
  first | refine J.skip rfl rfl rfl rfl rfl ?_ | refine J.skipU rfl rfl rfl rfl ?_ | (refine J.unguard rfl rfl rfl ?_; refine J.fieldAddr Ty.fd37_1 rfl rfl ?_)
  first | refine J.skip rfl rfl rfl rfl rfl ?_ | refine J.skipU rfl rfl rfl rfl ?_ | (refine J.unguard rfl rfl rfl ?_; refine J.loadO Ty.a4 rfl (by repeat first | exact .head _ | apply List.Mem.tail | apply List.mem_append_right) (by exact rfl) rfl ?_)
  first | refine J.skip rfl rfl rfl rfl rfl ?_ | refine J.skipU rfl rfl rfl rfl ?_ | (refine J.unguard rfl rfl rfl ?_; refine J.not rfl rfl ?_)
  (first | refine J.pickT rfl rfl rfl ?_ | refine J.pickF rfl rfl rfl ?_)
  refine J.nil ?_
  refine JX.thenN (hK5 _ _ ?_)
  first | refine JC.condF rfl ?_ | refine JC.cond rfl (fun h => by first | (exfalso; simp at h; omega) | (simp at h)) (fun _ => ?_)
  refine JC.skip ?_
  refine JX.thenN (hK4 _ _ ?_)
  refine JC.seq (fun K6 hK6 => ?_)
  refine JC.region ?_
  refine J.perm ([] ++ ((b3, cb (cD (.slice (some ⟨h3, 0, none⟩) 1 1) true false) 37) :: (h3, cb (cH 2 (cF 4 P1 (idN 1) (idN 2) (.slice a3 3 c3))) 54) :: (b9, cb [bV true, bV true, bV true] 4) :: lp3)) (.refl _) ?_
  refine J.callS (α := Nat × Nat) (V := fun x => .pointer (some ⟨x.1, 0, none⟩)) (Pr := fun _ => True) (L := fun x => [(x.1, tabO 4 x.2), (x.2, .map #[] 0)]) (l1 := []) Ty.bd16 rfl rfl (fun w1 hw => (new_spec 4 w1).mono fun _ _ ⟨x, h1, h2⟩ => ⟨x, h1, trivial, h2⟩) (fun x _ => ?_)
  obtain ⟨t5, m5⟩ := x
  simp only
  refine J.assign rfl rfl ?_
  refine J.nil ?_
  refine JX.thenN (hK6 _ _ ?_)
  refine JC.seq (fun K7 hK7 => ?_)
  refine JC.region ?_
  refine J.move rfl rfl ?_
  refine J.buildA (cs := cI (idN 3)) Ty.ar23 Ty.s5 Ty.z23 rfl (by kernel_rfl) rfl ?_
  refine J.buildS (cs := cW 2 (idN 3)) Ty.pl41 zW rfl (by kernel_rfl) rfl ?_
  refine J.fieldAddr Ty.fd37_0 rfl rfl ?_
  refine J.loadO Ty.a35 rfl (by repeat first | exact .head _ | apply List.Mem.tail | apply List.mem_append_right) (by exact rfl) rfl ?_
  refine J.indexAddrS Ty.el35 Ty.s54 rfl rfl (by omega) (by omega) rfl ?_
  refine J.fieldAddr Ty.fd54_1 rfl rfl ?_
  refine J.loadOA (vs := cF 4 P1 (idN 1) (idN 2) (.slice a3 3 c3)) Ty.a52 Ty.s52 rfl (by repeat first | exact .head _ | apply List.Mem.tail | apply List.mem_append_right) (by exact rfl) rfl rfl ?_
  refine J.move rfl rfl ?_
  refine J.perm ([(t5, tabO 4 m5), (m5, .map #[] 0)] ++ ((b3, cb (cD (.slice (some ⟨h3, 0, none⟩) 1 1) true false) 37) :: (h3, cb (cH 2 (cF 4 P1 (idN 1) (idN 2) (.slice a3 3 c3))) 54) :: (b9, cb [bV true, bV true, bV true] 4) :: lp3)) (by (refine perm_cnt (fun _ => ?_)); simp only [cntB_append, cntB_cons, cntB_nil, Nat.add_zero, Nat.zero_add]; try ac_rfl) ?_
  refine J.callS (α := OutS) (V := fun x => .agg (cD (.slice (some ⟨x.h, 0, none⟩) 1 1) false false).toArray) (Pr := fun x => Vec 3 1 (.slice x.a 3 x.c) 3 (W021.map iV) x.lp ∧ Tab [(⟨P1, idN 1, idN 2, 0, 1⟩ : EV)] x.es x.ck) (L := fun x => (x.h, cb (cH 1 (cF 4 P1 (idN 1) (idN 2) (.slice x.a 3 x.c))) 54) :: (x.lp ++ [(t5, tabO 4 m5), (m5, .map x.es x.ck)])) (l1 := [(t5, tabO 4 m5), (m5, .map #[] 0)]) Ty.bd19 rfl rfl
    (fun w1 hw => take_on t5 m5 4 [] #[] 0 w1 hw.owns Tab.nil 2 0 (idN 3) (idN 1) (idN 2) P1 (okN_small (by decide) (by decide)) (okN_small (by decide) (by decide)) (.slice a3 3 c3) W021 (hv3.row (hw.perm (l' := lp3 ++ ([(t5, tabO 4 m5), (m5, .map #[] 0)] ++ ((b3, cb (cD (.slice (some ⟨h3, 0, none⟩) 1 1) true false) 37) :: (h3, cb (cH 2 (cF 4 P1 (idN 1) (idN 2) (.slice a3 3 c3))) 54) :: (b9, cb [bV true, bV true, bV true] 4) :: []))) (by (refine perm_cnt (fun _ => ?_)); simp only [cntB_append, cntB_cons, cntB_nil, Nat.add_zero, Nat.zero_add]; try ac_rfl))) (hv3.off (l1 := [(t5, tabO 4 m5), (m5, .map #[] 0)]) (hw.perm (l' := [(t5, tabO 4 m5), (m5, .map #[] 0)] ++ (lp3 ++ ((b3, cb (cD (.slice (some ⟨h3, 0, none⟩) 1 1) true false) 37) :: (h3, cb (cH 2 (cF 4 P1 (idN 1) (idN 2) (.slice a3 3 c3))) 54) :: (b9, cb [bV true, bV true, bV true] 4) :: []))) (by (refine perm_cnt (fun _ => ?_)); simp only [cntB_append, cntB_cons, cntB_nil, Nat.add_zero, Nat.zero_add]; try ac_rfl))) (by decide) 1 (by decide) (by decide) (by decide) rfl (by decide) (.slice (some ⟨b9, 0, none⟩) 3 3) [true, true, true] (Row.own hw (.tail _ (.tail _ (.tail _ (.tail _ (.head _))))) rfl (Nat.le_refl _)) (Off.mk (hw.off (l1 := [(t5, tabO 4 m5), (m5, .map #[] 0)]) (.tail _ (.tail _ (.head _))))) (by simp) 1 rfl (by decide) (tadd_nil ⟨idN_ne (by decide), by decide, by decide, by decide⟩ (by decide))) (fun x hx => ?_)
  obtain ⟨h6, a6, c6, lp6, es6, ck6⟩ := x
  obtain ⟨hv6, _⟩ := hx
  simp only at hv6 ⊢
  refine J.conseq (I' := St w [] ((h6, cb (cH 1 (cF 4 P1 (idN 1) (idN 2) (.slice a6 3 c6))) 54) :: (b3, cb (cD (.slice (some ⟨h3, 0, none⟩) 1 1) true false) 37) :: (h3, cb (cH 2 (cF 4 P1 (idN 1) (idN 2) (.slice a3 3 c3))) 54) :: (b9, cb [bV true, bV true, bV true] 4) :: (lp3 ++ lp6))) ?_ (fun w1 hw => (hw.perm (l' := [(t5, tabO 4 m5), (m5, .map es6 ck6)] ++ ((h6, cb (cH 1 (cF 4 P1 (idN 1) (idN 2) (.slice a6 3 c6))) 54) :: (b3, cb (cD (.slice (some ⟨h3, 0, none⟩) 1 1) true false) 37) :: (h3, cb (cH 2 (cF 4 P1 (idN 1) (idN 2) (.slice a3 3 c3))) 54) :: (b9, cb [bV true, bV true, bV true] 4) :: (lp3 ++ lp6))) (by (refine perm_cnt (fun _ => ?_)); simp only [cntB_append, cntB_cons, cntB_nil, Nat.add_zero, Nat.zero_add]; try ac_rfl)).drop (List.sublist_append_right _ _))
  refine J.alloc zN rfl rfl (fun b6 => ?_)
  refine J.storeW Ty.s37 rfl rfl rfl rfl rfl (by simp [Value.oneCell']) (by repeat first | exact .here | apply Up.there) ?_
  refine J.nil ?_
  refine JX.thenN (hK7 _ _ ?_)
  refine JC.seq (fun K8 hK8 => ?_)
  refine JC.seq (fun K9 hK9 => ?_)
  refine JC.region ?_
  refine J.fieldAddr Ty.fd37_0 rfl rfl ?_
  refine J.loadO Ty.a35 rfl (by repeat first | exact .head _ | apply List.Mem.tail | apply List.mem_append_right) (by exact rfl) rfl ?_
  refine J.lenS rfl Ty.u35 rfl rfl ?_
  refine J.bin rfl rfl rfl rfl ?_
  refine J.move rfl rfl ?_
  first | refine J.skip rfl rfl rfl rfl rfl ?_ | refine J.skipU rfl rfl rfl rfl ?_ | (refine J.unguard rfl rfl rfl ?_; refine J.fieldAddr Ty.fd37_0 rfl rfl ?_)
  first | refine J.skip rfl rfl rfl rfl rfl ?_ | refine J.skipU rfl rfl rfl rfl ?_ | (refine J.unguard rfl rfl rfl ?_; refine J.loadO Ty.a35 rfl (by repeat first | exact .head _ | apply List.Mem.tail | apply List.mem_append_right) (by exact rfl) rfl ?_)
  first | refine J.skip rfl rfl rfl rfl rfl ?_ | refine J.skipU rfl rfl rfl rfl ?_ | (refine J.unguard rfl rfl rfl ?_; refine J.indexAddrS Ty.el35 Ty.s54 rfl rfl (by omega) (by omega) rfl ?_)
  first | refine J.skip rfl rfl rfl rfl rfl ?_ | refine J.skipU rfl rfl rfl rfl ?_ | (refine J.unguard rfl rfl rfl ?_; refine J.fieldAddr Ty.fd54_0 rfl rfl ?_)
  first | refine J.skip rfl rfl rfl rfl rfl ?_ | refine J.skipU rfl rfl rfl rfl ?_ | (refine J.unguard rfl rfl rfl ?_; refine J.loadO Ty.a3 rfl (by repeat first | exact .head _ | apply List.Mem.tail | apply List.mem_append_right) (by exact rfl) rfl ?_)
  first | refine J.skip rfl rfl rfl rfl rfl ?_ | refine J.skipU rfl rfl rfl rfl ?_ | (refine J.unguard rfl rfl rfl ?_; refine J.bin rfl rfl rfl rfl ?_)
  (first | refine J.pickT rfl rfl rfl ?_ | refine J.pickF rfl rfl rfl ?_)
  refine J.move rfl rfl ?_
  first | refine J.skip rfl rfl rfl rfl rfl ?_ | refine J.skipU rfl rfl rfl rfl ?_ | (refine J.unguard rfl rfl rfl ?_; refine J.fieldAddr Ty.fd37_1 rfl rfl ?_)
  first | refine J.skip rfl rfl rfl rfl rfl ?_ | refine J.skipU rfl rfl rfl rfl ?_ | (refine J.unguard rfl rfl rfl ?_; refine J.loadO Ty.a4 rfl (by repeat first | exact .head _ | apply List.Mem.tail | apply List.mem_append_right) (by exact rfl) rfl ?_)
  (first | refine J.pickT rfl rfl rfl ?_ | refine J.pickF rfl rfl rfl ?_)
  refine J.nil ?_
  refine JX.thenN (hK9 _ _ ?_)
  first | refine JC.condF rfl ?_ | refine JC.cond rfl (fun h => by first | (exfalso; simp at h; omega) | (simp at h)) (fun _ => ?_)
  refine JC.skip ?_
  refine JX.thenN (hK8 _ _ ?_)
  refine JC.seq (fun K10 hK10 => ?_)
  apply JC.drawX (α := Nat × Nat × Array MapEntry × Nat × Nat) 11 (fun x => match x with | ⟨t1, m1, es1, ck1, xa⟩ => [.pointer (some ⟨t1, 0, none⟩), .agg (cI (idN 2)).toArray, .agg (cW 1 (idN 2)).toArray, .pointer (some ⟨b6, 0 + 0, none⟩), .slice (some ⟨h6, 0, none⟩) 1 1, .pointer (some ⟨h6, 0 + (0 : Int).toNat * 96, none⟩), .pointer (some ⟨h6, 0 + (0 : Int).toNat * 96 + 1, none⟩), .agg (cF 4 P1 (idN 1) (idN 2) (.slice a6 3 c6)).toArray, .slice (some ⟨b9, 0, none⟩) 3 3, .agg (cD nilV true false).toArray, .pointer (some ⟨xa, 0, none⟩)]) (fun m x => match x with | ⟨t1, m1, es1, ck1, xa⟩ => fun w1 => (m 9 = true → m 0 = true) ∧ St w [] ((b6, cb (cD (.slice (some ⟨h6, 0, none⟩) 1 1) false false) 37) :: (h6, cb (cH 1 (cF 4 P1 (idN 1) (idN 2) (.slice a6 3 c6))) 54) :: (b3, cb (cD (.slice (some ⟨h3, 0, none⟩) 1 1) true false) 37) :: (h3, cb (cH 2 (cF 4 P1 (idN 1) (idN 2) (.slice a3 3 c3))) 54) :: (b9, cb [bV true, bV true, bV true] 4) :: ((bif m 0 then (bif m 9 then [(t1, tabO 4 m1), (m1, .map es1 ck1)] else [(t1, tabO 4 m1), (m1, .map #[] 0)]) else []) ++ ((bif m 10 then [(xa, cb (cD nilV false false) 37)] else []) ++ (lp3 ++ lp6)))) w1) Ty.mixed rfl rfl rfl (by kernel_rfl) rfl rfl ?hinit ?hstep ?htail
  case hinit => exact fun w1 hw => ⟨(0, 0, #[], 0, 0), fun h => (by cases h), hw.drew⟩
  case hstep =>
    refine ⟨fun m x hm hp => ?_, fun m x hm hp => ?_, fun m x hm hp => ?_, fun m x hm hp => ?_, fun m x hm hp => ?_, fun m x hm hp => ?_, fun m x hm hp => ?_, fun m x hm hp => ?_, fun m x hm hp => ?_, fun m x hm hp => ?_, fun m x hm hp => ?_, trivial⟩
    · skip
      obtain ⟨t1, m1, es1, ck1, xa⟩ := x
      show J _ _ _ _ _ (_) _
      refine J.pr (fun hF => ?_)
      have h9 : m 9 = false := by cases h : m 9 with
        | false => rfl
        | true => rw [hF h] at hm; cases hm
      refine J.perm ([] ++ ((b6, cb (cD (.slice (some ⟨h6, 0, none⟩) 1 1) false false) 37) :: (h6, cb (cH 1 (cF 4 P1 (idN 1) (idN 2) (.slice a6 3 c6))) 54) :: (b3, cb (cD (.slice (some ⟨h3, 0, none⟩) 1 1) true false) 37) :: (h3, cb (cH 2 (cF 4 P1 (idN 1) (idN 2) (.slice a3 3 c3))) 54) :: (b9, cb [bV true, bV true, bV true] 4) :: ((bif m 0 then (bif m 9 then [(t1, tabO 4 m1), (m1, .map es1 ck1)] else [(t1, tabO 4 m1), (m1, .map #[] 0)]) else []) ++ ((bif m 10 then [(xa, cb (cD nilV false false) 37)] else []) ++ (lp3 ++ lp6))))) (.refl _) ?_
      refine J.callS (α := Nat × Nat) (V := fun x => .pointer (some ⟨x.1, 0, none⟩)) (Pr := fun _ => True) (L := fun x => [(x.1, tabO 4 x.2), (x.2, .map #[] 0)]) (l1 := []) Ty.bd16 rfl rfl (fun w1 hw => (new_spec 4 w1).mono fun _ _ ⟨x, h1, h2⟩ => ⟨x, h1, trivial, h2⟩) (fun x _ => ?_)
      obtain ⟨t0n, m0n⟩ := x
      simp only
      refine J.nil (JX.finB rfl (fun w1 hw => ⟨⟨⟨t0n, m0n, es1, ck1, xa⟩, rfl, fun j h1 h2 => ?_, ?_⟩, trivial⟩))
      · match j, h1 with
        | 0, _ => exact absurd (h2.symm.trans hm) (by decide)
        | 1, _ => (first | rfl | trivial)
        | 2, _ => (first | rfl | trivial)
        | 3, _ => (first | rfl | trivial)
        | 4, _ => (first | rfl | trivial)
        | 5, _ => (first | rfl | trivial)
        | 6, _ => (first | rfl | trivial)
        | 7, _ => (first | rfl | trivial)
        | 8, _ => (first | rfl | trivial)
        | 9, _ => (first | rfl | trivial)
        | 10, _ => (first | rfl | trivial)
        | j + 11, h1 => omega
      show (m 9 = true → true = true) ∧ St w [] ((b6, cb (cD (.slice (some ⟨h6, 0, none⟩) 1 1) false false) 37) :: (h6, cb (cH 1 (cF 4 P1 (idN 1) (idN 2) (.slice a6 3 c6))) 54) :: (b3, cb (cD (.slice (some ⟨h3, 0, none⟩) 1 1) true false) 37) :: (h3, cb (cH 2 (cF 4 P1 (idN 1) (idN 2) (.slice a3 3 c3))) 54) :: (b9, cb [bV true, bV true, bV true] 4) :: ((bif true then (bif m 9 then [(t0n, tabO 4 m0n), (m0n, .map es1 ck1)] else [(t0n, tabO 4 m0n), (m0n, .map #[] 0)]) else []) ++ ((bif m 10 then [(xa, cb (cD nilV false false) 37)] else []) ++ (lp3 ++ lp6)))) w1
      simp only [hm, h9, cond_true, cond_false] at hw ⊢
      exact ⟨fun _ => trivial, hw.perm (by (refine perm_cnt (fun _ => ?_)); simp only [cntB_append, cntB_cons, cntB_nil, Nat.add_zero, Nat.zero_add]; try ac_rfl)⟩
    · skip
      obtain ⟨t1, m1, es1, ck1, xa⟩ := x
      show J _ _ _ _ _ (_) _
      refine J.pr (fun hF => ?_)
      refine J.buildA (cs := cI (idN 2)) Ty.ar23 Ty.s5 Ty.z23 rfl (by kernel_rfl) rfl ?_
      exact J.finX rfl (fun _ hw => ⟨⟨t1, m1, es1, ck1, xa⟩, rfl, fun _ _ _ => rfl, hF, hw⟩)
    · skip
      obtain ⟨t1, m1, es1, ck1, xa⟩ := x
      show J _ _ _ _ _ ((75, .agg (cI (idN 2)).toArray) :: _) _
      refine J.pr (fun hF => ?_)
      refine J.buildS (cs := cW 1 (idN 2)) Ty.pl41 zW rfl (by kernel_rfl) rfl ?_
      exact J.finX rfl (fun _ hw => ⟨⟨t1, m1, es1, ck1, xa⟩, rfl, fun _ _ _ => rfl, hF, hw⟩)
    · skip
      obtain ⟨t1, m1, es1, ck1, xa⟩ := x
      show J _ _ _ _ _ (_) _
      refine J.pr (fun hF => ?_)
      refine J.fieldAddr Ty.fd37_0 rfl rfl ?_
      exact J.finX rfl (fun _ hw => ⟨⟨t1, m1, es1, ck1, xa⟩, rfl, fun _ _ _ => rfl, hF, hw⟩)
    · skip
      obtain ⟨t1, m1, es1, ck1, xa⟩ := x
      show J _ _ _ _ _ ((77, .pointer (some ⟨b6, 0 + 0, none⟩)) :: _) _
      refine J.pr (fun hF => ?_)
      refine J.loadO Ty.a35 rfl (by repeat first | exact .head _ | apply List.Mem.tail | apply List.mem_append_right) (by exact rfl) rfl ?_
      exact J.finX rfl (fun _ hw => ⟨⟨t1, m1, es1, ck1, xa⟩, rfl, fun _ _ _ => rfl, hF, hw⟩)
    · skip
      obtain ⟨t1, m1, es1, ck1, xa⟩ := x
      show J _ _ _ _ _ ((78, .slice (some ⟨h6, 0, none⟩) 1 1) :: _) _
      refine J.pr (fun hF => ?_)
      refine J.indexAddrS Ty.el35 Ty.s54 rfl rfl (by omega) (by omega) rfl ?_
      exact J.finX rfl (fun _ hw => ⟨⟨t1, m1, es1, ck1, xa⟩, rfl, fun _ _ _ => rfl, hF, hw⟩)
    · skip
      obtain ⟨t1, m1, es1, ck1, xa⟩ := x
      show J _ _ _ _ _ ((79, .pointer (some ⟨h6, 0 + (0 : Int).toNat * 96, none⟩)) :: _) _
      refine J.pr (fun hF => ?_)
      refine J.fieldAddr Ty.fd54_1 rfl rfl ?_
      exact J.finX rfl (fun _ hw => ⟨⟨t1, m1, es1, ck1, xa⟩, rfl, fun _ _ _ => rfl, hF, hw⟩)
    · skip
      obtain ⟨t1, m1, es1, ck1, xa⟩ := x
      show J _ _ _ _ _ ((80, .pointer (some ⟨h6, 0 + (0 : Int).toNat * 96 + 1, none⟩)) :: _) _
      refine J.pr (fun hF => ?_)
      refine J.loadOA (vs := cF 4 P1 (idN 1) (idN 2) (.slice a6 3 c6)) Ty.a52 Ty.s52 rfl (by repeat first | exact .head _ | apply List.Mem.tail | apply List.mem_append_right) (by exact rfl) rfl rfl ?_
      exact J.finX rfl (fun _ hw => ⟨⟨t1, m1, es1, ck1, xa⟩, rfl, fun _ _ _ => rfl, hF, hw⟩)
    · skip
      obtain ⟨t1, m1, es1, ck1, xa⟩ := x
      show J _ _ _ _ _ (_) _
      refine J.pr (fun hF => ?_)
      refine J.move rfl rfl ?_
      exact J.finX rfl (fun _ hw => ⟨⟨t1, m1, es1, ck1, xa⟩, rfl, fun _ _ _ => rfl, hF, hw⟩)
    · skip
      obtain ⟨t1, m1, es1, ck1, xa⟩ := x
      show J _ _ _ _ _ ((74, .pointer (some ⟨t1, 0, none⟩)) :: (82, .slice (some ⟨b9, 0, none⟩) 3 3) :: (81, .agg (cF 4 P1 (idN 1) (idN 2) (.slice a6 3 c6)).toArray) :: (76, .agg (cW 1 (idN 2)).toArray) :: (74, .pointer (some ⟨t1, 0, none⟩)) :: _) _
      have hp0 : m 0 = true := predsT hp (by kernel_rfl)
      have hp0 : m 0 = true := predsT hp (by kernel_rfl)
      refine J.pr (fun hF => ?_)
      refine J.conseq (I' := St w [] ([(t1, tabO 4 m1), (m1, .map #[] 0)] ++ ((b6, cb (cD (.slice (some ⟨h6, 0, none⟩) 1 1) false false) 37) :: (h6, cb (cH 1 (cF 4 P1 (idN 1) (idN 2) (.slice a6 3 c6))) 54) :: (b3, cb (cD (.slice (some ⟨h3, 0, none⟩) 1 1) true false) 37) :: (h3, cb (cH 2 (cF 4 P1 (idN 1) (idN 2) (.slice a3 3 c3))) 54) :: (b9, cb [bV true, bV true, bV true] 4) :: ((bif m 10 then [(xa, cb (cD nilV false false) 37)] else []) ++ (lp3 ++ lp6))))) ?_ (fun w1 hw => by simp only [hm, hp0, cond_true, cond_false] at hw; exact hw.perm (by (refine perm_cnt (fun _ => ?_)); simp only [cntB_append, cntB_cons, cntB_nil, Nat.add_zero, Nat.zero_add]; try ac_rfl))
      refine J.callS (α := Array MapEntry × Nat) (V := fun _ => .agg (cD nilV true false).toArray) (Pr := fun y => Tab [(⟨P1, idN 1, idN 2, 2, -1⟩ : EV)] y.1 y.2) (L := fun y => [(t1, tabO 4 m1), (m1, .map y.1 y.2)]) (l1 := [(t1, tabO 4 m1), (m1, .map #[] 0)]) Ty.bd19 rfl rfl
        (fun w1 hw => take_last t1 m1 4 [] #[] 0 w1 hw.owns Tab.nil 1 2 (idN 2) (idN 1) (idN 2) P1 (okN_small (by decide) (by decide)) (okN_small (by decide) (by decide)) (.slice a6 3 c6) W021 (hv6.row (hw.perm (l' := lp6 ++ ([(t1, tabO 4 m1), (m1, .map #[] 0)] ++ ((b6, cb (cD (.slice (some ⟨h6, 0, none⟩) 1 1) false false) 37) :: (h6, cb (cH 1 (cF 4 P1 (idN 1) (idN 2) (.slice a6 3 c6))) 54) :: (b3, cb (cD (.slice (some ⟨h3, 0, none⟩) 1 1) true false) 37) :: (h3, cb (cH 2 (cF 4 P1 (idN 1) (idN 2) (.slice a3 3 c3))) 54) :: (b9, cb [bV true, bV true, bV true] 4) :: ((bif m 10 then [(xa, cb (cD nilV false false) 37)] else []) ++ lp3)))) (by (refine perm_cnt (fun _ => ?_)); simp only [cntB_append, cntB_cons, cntB_nil, Nat.add_zero, Nat.zero_add]; try ac_rfl))) (hv6.off (l1 := [(t1, tabO 4 m1), (m1, .map #[] 0)]) (hw.perm (l' := [(t1, tabO 4 m1), (m1, .map #[] 0)] ++ (lp6 ++ ((b6, cb (cD (.slice (some ⟨h6, 0, none⟩) 1 1) false false) 37) :: (h6, cb (cH 1 (cF 4 P1 (idN 1) (idN 2) (.slice a6 3 c6))) 54) :: (b3, cb (cD (.slice (some ⟨h3, 0, none⟩) 1 1) true false) 37) :: (h3, cb (cH 2 (cF 4 P1 (idN 1) (idN 2) (.slice a3 3 c3))) 54) :: (b9, cb [bV true, bV true, bV true] 4) :: ((bif m 10 then [(xa, cb (cD nilV false false) 37)] else []) ++ lp3)))) (by (refine perm_cnt (fun _ => ?_)); simp only [cntB_append, cntB_cons, cntB_nil, Nat.add_zero, Nat.zero_add]; try ac_rfl))) (by decide) 2 (by decide) (by decide) (by decide) rfl (by decide) (.slice (some ⟨b9, 0, none⟩) 3 3) [true, true, true] (Row.own hw (.tail _ (.tail _ (.tail _ (.tail _ (.tail _ (.tail _ (.head _))))))) rfl (Nat.le_refl _)) (Off.mk (hw.off (l1 := [(t1, tabO 4 m1), (m1, .map #[] 0)]) (.tail _ (.tail _ (.tail _ (.tail _ (.head _))))))) (by simp) rfl rfl (tadd_nil ⟨idN_ne (by decide), by decide, by decide, by decide⟩ (by decide))) (fun y _ => ?_)
      obtain ⟨es9, ck9⟩ := y
      simp only
      refine J.nil (JX.finB rfl (fun w1 hw => ⟨⟨⟨t1, m1, es9, ck9, xa⟩, rfl, fun j h1 h2 => ?_, ?_⟩, trivial⟩))
      · match j, h1 with
        | 0, _ => (first | rfl | trivial)
        | 1, _ => (first | rfl | trivial)
        | 2, _ => (first | rfl | trivial)
        | 3, _ => (first | rfl | trivial)
        | 4, _ => (first | rfl | trivial)
        | 5, _ => (first | rfl | trivial)
        | 6, _ => (first | rfl | trivial)
        | 7, _ => (first | rfl | trivial)
        | 8, _ => (first | rfl | trivial)
        | 9, _ => (first | rfl | trivial)
        | 10, _ => (first | rfl | trivial)
        | j + 11, h1 => omega
      show (true = true → m 0 = true) ∧ St w [] ((b6, cb (cD (.slice (some ⟨h6, 0, none⟩) 1 1) false false) 37) :: (h6, cb (cH 1 (cF 4 P1 (idN 1) (idN 2) (.slice a6 3 c6))) 54) :: (b3, cb (cD (.slice (some ⟨h3, 0, none⟩) 1 1) true false) 37) :: (h3, cb (cH 2 (cF 4 P1 (idN 1) (idN 2) (.slice a3 3 c3))) 54) :: (b9, cb [bV true, bV true, bV true] 4) :: ((bif m 0 then (bif true then [(t1, tabO 4 m1), (m1, .map es9 ck9)] else [(t1, tabO 4 m1), (m1, .map #[] 0)]) else []) ++ ((bif m 10 then [(xa, cb (cD nilV false false) 37)] else []) ++ (lp3 ++ lp6)))) w1
      refine ⟨fun _ => hp0, ?_⟩
      simp only [hp0, cond_true]
      exact hw.perm (by (refine perm_cnt (fun _ => ?_)); simp only [cntB_append, cntB_cons, cntB_nil, Nat.add_zero, Nat.zero_add]; try ac_rfl)
    · skip
      obtain ⟨t1, m1, es1, ck1, xa⟩ := x
      show J _ _ _ _ _ (_) _
      refine J.pr (fun hF => ?_)
      refine J.alloc zN rfl rfl (fun b7 => ?_)
      refine J.nil (JX.finB rfl (fun w1 hw => ⟨⟨⟨t1, m1, es1, ck1, b7⟩, rfl, fun j h1 h2 => ?_, ?_⟩, trivial⟩))
      · match j, h1 with
        | 0, _ => (first | rfl | trivial)
        | 1, _ => (first | rfl | trivial)
        | 2, _ => (first | rfl | trivial)
        | 3, _ => (first | rfl | trivial)
        | 4, _ => (first | rfl | trivial)
        | 5, _ => (first | rfl | trivial)
        | 6, _ => (first | rfl | trivial)
        | 7, _ => (first | rfl | trivial)
        | 8, _ => (first | rfl | trivial)
        | 9, _ => (first | rfl | trivial)
        | 10, _ => exact absurd (h2.symm.trans hm) (by decide)
        | j + 11, h1 => omega
      show (m 9 = true → m 0 = true) ∧ St w [] ((b6, cb (cD (.slice (some ⟨h6, 0, none⟩) 1 1) false false) 37) :: (h6, cb (cH 1 (cF 4 P1 (idN 1) (idN 2) (.slice a6 3 c6))) 54) :: (b3, cb (cD (.slice (some ⟨h3, 0, none⟩) 1 1) true false) 37) :: (h3, cb (cH 2 (cF 4 P1 (idN 1) (idN 2) (.slice a3 3 c3))) 54) :: (b9, cb [bV true, bV true, bV true] 4) :: ((bif m 0 then (bif m 9 then [(t1, tabO 4 m1), (m1, .map es1 ck1)] else [(t1, tabO 4 m1), (m1, .map #[] 0)]) else []) ++ ((bif true then [(b7, cb (cD nilV false false) 37)] else []) ++ (lp3 ++ lp6)))) w1
      refine ⟨hF, ?_⟩
      simp only [hm, cond_true, cond_false] at hw ⊢
      exact hw.perm (by (refine perm_cnt (fun _ => ?_)); simp only [cntB_append, cntB_cons, cntB_nil, Nat.add_zero, Nat.zero_add]; try ac_rfl)
  case htail =>
    intro x
    obtain ⟨t1, m1, es1, ck1, xa⟩ := x
    show J _ _ _ _ _ ((7, .pointer (some ⟨xa, 0, none⟩)) :: (83, .agg (cD nilV true false).toArray) :: (82, .slice (some ⟨b9, 0, none⟩) 3 3) :: (81, .agg (cF 4 P1 (idN 1) (idN 2) (.slice a6 3 c6)).toArray) :: (80, .pointer (some ⟨h6, 0 + (0 : Int).toNat * 96 + 1, none⟩)) :: (79, .pointer (some ⟨h6, 0 + (0 : Int).toNat * 96, none⟩)) :: (78, .slice (some ⟨h6, 0, none⟩) 1 1) :: (77, .pointer (some ⟨b6, 0 + 0, none⟩)) :: (76, .agg (cW 1 (idN 2)).toArray) :: (75, .agg (cI (idN 2)).toArray) :: (74, .pointer (some ⟨t1, 0, none⟩)) :: _) (fun w1 => (true = true → true = true) ∧ St w [] ((b6, cb (cD (.slice (some ⟨h6, 0, none⟩) 1 1) false false) 37) :: (h6, cb (cH 1 (cF 4 P1 (idN 1) (idN 2) (.slice a6 3 c6))) 54) :: (b3, cb (cD (.slice (some ⟨h3, 0, none⟩) 1 1) true false) 37) :: (h3, cb (cH 2 (cF 4 P1 (idN 1) (idN 2) (.slice a3 3 c3))) 54) :: (b9, cb [bV true, bV true, bV true] 4) :: ((bif true then (bif true then [(t1, tabO 4 m1), (m1, .map es1 ck1)] else [(t1, tabO 4 m1), (m1, .map #[] 0)]) else []) ++ ((bif true then [(xa, cb (cD nilV false false) 37)] else []) ++ (lp3 ++ lp6)))) w1)
    refine J.pr (fun hF => ?_)
    refine J.conseq (I' := St w [] ((xa, cb (cD nilV false false) 37) :: (b6, cb (cD (.slice (some ⟨h6, 0, none⟩) 1 1) false false) 37) :: (h6, cb (cH 1 (cF 4 P1 (idN 1) (idN 2) (.slice a6 3 c6))) 54) :: (b3, cb (cD (.slice (some ⟨h3, 0, none⟩) 1 1) true false) 37) :: (h3, cb (cH 2 (cF 4 P1 (idN 1) (idN 2) (.slice a3 3 c3))) 54) :: (b9, cb [bV true, bV true, bV true] 4) :: (lp3 ++ lp6))) ?_ (fun w1 hw => by simp only [cond_true] at hw; exact (hw.perm (l' := [(t1, tabO 4 m1), (m1, .map es1 ck1)] ++ ((xa, cb (cD nilV false false) 37) :: (b6, cb (cD (.slice (some ⟨h6, 0, none⟩) 1 1) false false) 37) :: (h6, cb (cH 1 (cF 4 P1 (idN 1) (idN 2) (.slice a6 3 c6))) 54) :: (b3, cb (cD (.slice (some ⟨h3, 0, none⟩) 1 1) true false) 37) :: (h3, cb (cH 2 (cF 4 P1 (idN 1) (idN 2) (.slice a3 3 c3))) 54) :: (b9, cb [bV true, bV true, bV true] 4) :: (lp3 ++ lp6))) (by (refine perm_cnt (fun _ => ?_)); simp only [cntB_append, cntB_cons, cntB_nil, Nat.add_zero, Nat.zero_add]; try ac_rfl)).drop (List.sublist_append_right _ _))
    refine J.storeW Ty.s37 rfl rfl rfl rfl rfl (by simp [Value.oneCell']) (by repeat first | exact .here | apply Up.there) ?_
    refine J.nil ?_
    refine JX.thenN (hK10 _ _ ?_)
    refine JC.seq (fun K11 hK11 => ?_)
    apply JC.drawX (α := Nat × Nat × Nat × Nat) 10 (fun x => match x with | ⟨u1, n1, h8, xb⟩ => [.pointer (some ⟨u1, 0, none⟩), .agg (cI (idN 3)).toArray, .agg (cW 2 (idN 3)).toArray, .pointer (some ⟨b3, 0 + 0, none⟩), .slice (some ⟨h3, 0, none⟩) 1 1, .pointer (some ⟨h3, 0 + (0 : Int).toNat * 96, none⟩), .pointer (some ⟨h3, 0 + (0 : Int).toNat * 96 + 1, none⟩), .agg (cF 4 P1 (idN 1) (idN 2) (.slice a3 3 c3)).toArray, .agg (cD (.slice (some ⟨h8, 0, none⟩) 1 1) false false).toArray, .pointer (some ⟨xb, 0, none⟩)]) (fun m x => match x with | ⟨u1, n1, h8, xb⟩ => fun w1 => (m 8 = true → m 0 = true) ∧ St w [] ((xa, cb (cD nilV true false) 37) :: (b6, cb (cD (.slice (some ⟨h6, 0, none⟩) 1 1) false false) 37) :: (h6, cb (cH 1 (cF 4 P1 (idN 1) (idN 2) (.slice a6 3 c6))) 54) :: (b3, cb (cD (.slice (some ⟨h3, 0, none⟩) 1 1) true false) 37) :: (h3, cb (cH 2 (cF 4 P1 (idN 1) (idN 2) (.slice a3 3 c3))) 54) :: (b9, cb [bV true, bV true, bV true] 4) :: ((bif m 0 then [(u1, tabO 4 n1), (n1, .map #[] 0)] else []) ++ ((bif m 8 then [(h8, cb (cH 0 (cF 5 P1 zI zI nilV)) 54)] else []) ++ ((bif m 9 then [(xb, cb (cD nilV false false) 37)] else []) ++ (lp3 ++ lp6))))) w1) Ty.mixed rfl rfl rfl (by kernel_rfl) rfl rfl ?hinit ?hstep ?htail
    case hinit => exact fun w1 hw => ⟨(0, 0, 0, 0), fun h => (by cases h), hw.drew⟩
    case hstep =>
      refine ⟨fun m x hm hp => ?_, fun m x hm hp => ?_, fun m x hm hp => ?_, fun m x hm hp => ?_, fun m x hm hp => ?_, fun m x hm hp => ?_, fun m x hm hp => ?_, fun m x hm hp => ?_, fun m x hm hp => ?_, fun m x hm hp => ?_, trivial⟩
      · skip
        obtain ⟨u1, n1, h8, xb⟩ := x
        show J _ _ _ _ _ (_) _
        refine J.pr (fun hF => ?_)
        have h8f : m 8 = false := by cases h : m 8 with
          | false => rfl
          | true => rw [hF h] at hm; cases hm
        refine J.perm ([] ++ ((xa, cb (cD nilV true false) 37) :: (b6, cb (cD (.slice (some ⟨h6, 0, none⟩) 1 1) false false) 37) :: (h6, cb (cH 1 (cF 4 P1 (idN 1) (idN 2) (.slice a6 3 c6))) 54) :: (b3, cb (cD (.slice (some ⟨h3, 0, none⟩) 1 1) true false) 37) :: (h3, cb (cH 2 (cF 4 P1 (idN 1) (idN 2) (.slice a3 3 c3))) 54) :: (b9, cb [bV true, bV true, bV true] 4) :: ((bif m 0 then [(u1, tabO 4 n1), (n1, .map #[] 0)] else []) ++ ((bif m 8 then [(h8, cb (cH 0 (cF 5 P1 zI zI nilV)) 54)] else []) ++ ((bif m 9 then [(xb, cb (cD nilV false false) 37)] else []) ++ (lp3 ++ lp6)))))) (.refl _) ?_
        refine J.callS (α := Nat × Nat) (V := fun x => .pointer (some ⟨x.1, 0, none⟩)) (Pr := fun _ => True) (L := fun x => [(x.1, tabO 4 x.2), (x.2, .map #[] 0)]) (l1 := []) Ty.bd16 rfl rfl (fun w1 hw => (new_spec 4 w1).mono fun _ _ ⟨x, h1, h2⟩ => ⟨x, h1, trivial, h2⟩) (fun x _ => ?_)
        obtain ⟨t0n, m0n⟩ := x
        simp only
        refine J.nil (JX.finB rfl (fun w1 hw => ⟨⟨⟨t0n, m0n, h8, xb⟩, rfl, fun j h1 h2 => ?_, ?_⟩, trivial⟩))
        · match j, h1 with
          | 0, _ => exact absurd (h2.symm.trans hm) (by decide)
          | 1, _ => (first | rfl | trivial)
          | 2, _ => (first | rfl | trivial)
          | 3, _ => (first | rfl | trivial)
          | 4, _ => (first | rfl | trivial)
          | 5, _ => (first | rfl | trivial)
          | 6, _ => (first | rfl | trivial)
          | 7, _ => (first | rfl | trivial)
          | 8, _ => (first | rfl | trivial)
          | 9, _ => (first | rfl | trivial)
          | j + 10, h1 => omega
        show (m 8 = true → true = true) ∧ St w [] ((xa, cb (cD nilV true false) 37) :: (b6, cb (cD (.slice (some ⟨h6, 0, none⟩) 1 1) false false) 37) :: (h6, cb (cH 1 (cF 4 P1 (idN 1) (idN 2) (.slice a6 3 c6))) 54) :: (b3, cb (cD (.slice (some ⟨h3, 0, none⟩) 1 1) true false) 37) :: (h3, cb (cH 2 (cF 4 P1 (idN 1) (idN 2) (.slice a3 3 c3))) 54) :: (b9, cb [bV true, bV true, bV true] 4) :: ((bif true then [(t0n, tabO 4 m0n), (m0n, .map #[] 0)] else []) ++ ((bif m 8 then [(h8, cb (cH 0 (cF 5 P1 zI zI nilV)) 54)] else []) ++ ((bif m 9 then [(xb, cb (cD nilV false false) 37)] else []) ++ (lp3 ++ lp6))))) w1
        simp only [hm, h8f, cond_true, cond_false] at hw ⊢
        exact ⟨fun h => absurd h (by decide), hw.perm (by (refine perm_cnt (fun _ => ?_)); simp only [cntB_append, cntB_cons, cntB_nil, Nat.add_zero, Nat.zero_add]; try ac_rfl)⟩
      · skip
        obtain ⟨u1, n1, h8, xb⟩ := x
        show J _ _ _ _ _ (_) _
        refine J.pr (fun hF => ?_)
        refine J.buildA (cs := cI (idN 3)) Ty.ar23 Ty.s5 Ty.z23 rfl (by kernel_rfl) rfl ?_
        exact J.finX rfl (fun _ hw => ⟨⟨u1, n1, h8, xb⟩, rfl, fun _ _ _ => rfl, hF, hw⟩)
      · skip
        obtain ⟨u1, n1, h8, xb⟩ := x
        show J _ _ _ _ _ ((85, .agg (cI (idN 3)).toArray) :: _) _
        refine J.pr (fun hF => ?_)
        refine J.buildS (cs := cW 2 (idN 3)) Ty.pl41 zW rfl (by kernel_rfl) rfl ?_
        exact J.finX rfl (fun _ hw => ⟨⟨u1, n1, h8, xb⟩, rfl, fun _ _ _ => rfl, hF, hw⟩)
      · skip
        obtain ⟨u1, n1, h8, xb⟩ := x
        show J _ _ _ _ _ (_) _
        refine J.pr (fun hF => ?_)
        refine J.fieldAddr Ty.fd37_0 rfl rfl ?_
        exact J.finX rfl (fun _ hw => ⟨⟨u1, n1, h8, xb⟩, rfl, fun _ _ _ => rfl, hF, hw⟩)
      · skip
        obtain ⟨u1, n1, h8, xb⟩ := x
        show J _ _ _ _ _ ((87, .pointer (some ⟨b3, 0 + 0, none⟩)) :: _) _
        refine J.pr (fun hF => ?_)
        refine J.loadO Ty.a35 rfl (by repeat first | exact .head _ | apply List.Mem.tail | apply List.mem_append_right) (by exact rfl) rfl ?_
        exact J.finX rfl (fun _ hw => ⟨⟨u1, n1, h8, xb⟩, rfl, fun _ _ _ => rfl, hF, hw⟩)
      · skip
        obtain ⟨u1, n1, h8, xb⟩ := x
        show J _ _ _ _ _ ((88, .slice (some ⟨h3, 0, none⟩) 1 1) :: _) _
        refine J.pr (fun hF => ?_)
        refine J.indexAddrS Ty.el35 Ty.s54 rfl rfl (by omega) (by omega) rfl ?_
        exact J.finX rfl (fun _ hw => ⟨⟨u1, n1, h8, xb⟩, rfl, fun _ _ _ => rfl, hF, hw⟩)
      · skip
        obtain ⟨u1, n1, h8, xb⟩ := x
        show J _ _ _ _ _ ((89, .pointer (some ⟨h3, 0 + (0 : Int).toNat * 96, none⟩)) :: _) _
        refine J.pr (fun hF => ?_)
        refine J.fieldAddr Ty.fd54_1 rfl rfl ?_
        exact J.finX rfl (fun _ hw => ⟨⟨u1, n1, h8, xb⟩, rfl, fun _ _ _ => rfl, hF, hw⟩)
      · skip
        obtain ⟨u1, n1, h8, xb⟩ := x
        show J _ _ _ _ _ ((90, .pointer (some ⟨h3, 0 + (0 : Int).toNat * 96 + 1, none⟩)) :: _) _
        refine J.pr (fun hF => ?_)
        refine J.loadOA (vs := cF 4 P1 (idN 1) (idN 2) (.slice a3 3 c3)) Ty.a52 Ty.s52 rfl (by repeat first | exact .head _ | apply List.Mem.tail | apply List.mem_append_right) (by exact rfl) rfl rfl ?_
        exact J.finX rfl (fun _ hw => ⟨⟨u1, n1, h8, xb⟩, rfl, fun _ _ _ => rfl, hF, hw⟩)
      · skip
        obtain ⟨u1, n1, h8, xb⟩ := x
        show J _ _ _ _ _ ((84, .pointer (some ⟨u1, 0, none⟩)) :: (91, .agg (cF 4 P1 (idN 1) (idN 2) (.slice a3 3 c3)).toArray) :: (86, .agg (cW 2 (idN 3)).toArray) :: (84, .pointer (some ⟨u1, 0, none⟩)) :: _) _
        have hp0 : m 0 = true := predsT hp (by kernel_rfl)
        have hp0 : m 0 = true := predsT hp (by kernel_rfl)
        refine J.pr (fun hF => ?_)
        refine J.conseq (I' := St w [] ([(u1, tabO 4 n1), (n1, .map #[] 0)] ++ ((xa, cb (cD nilV true false) 37) :: (b6, cb (cD (.slice (some ⟨h6, 0, none⟩) 1 1) false false) 37) :: (h6, cb (cH 1 (cF 4 P1 (idN 1) (idN 2) (.slice a6 3 c6))) 54) :: (b3, cb (cD (.slice (some ⟨h3, 0, none⟩) 1 1) true false) 37) :: (h3, cb (cH 2 (cF 4 P1 (idN 1) (idN 2) (.slice a3 3 c3))) 54) :: (b9, cb [bV true, bV true, bV true] 4) :: ((bif m 9 then [(xb, cb (cD nilV false false) 37)] else []) ++ (lp3 ++ lp6))))) ?_ (fun w1 hw => by simp only [hm, hp0, cond_true, cond_false] at hw; exact hw.perm (by (refine perm_cnt (fun _ => ?_)); simp only [cntB_append, cntB_cons, cntB_nil, Nat.add_zero, Nat.zero_add]; try ac_rfl))
        refine J.callS (α := Nat) (V := fun x => .agg (cD (.slice (some ⟨x, 0, none⟩) 1 1) false false).toArray) (Pr := fun _ => True) (L := fun x => (x, cb (cH 0 (cF 5 P1 zI zI nilV)) 54) :: [(u1, tabO 4 n1), (n1, .map #[] 0)]) (l1 := [(u1, tabO 4 n1), (n1, .map #[] 0)]) Ty.bd19 rfl rfl
          (fun w1 hw => (take_shut u1 n1 4 [] #[] 0 w1 hw.owns Tab.nil 2 0 (idN 3) (idN 1) (idN 2) P1 (okN_small (by decide) (by decide)) (okN_small (by decide) (by decide)) (.slice a3 3 c3) W021 (hv3.row (hw.perm (l' := lp3 ++ ([(u1, tabO 4 n1), (n1, .map #[] 0)] ++ ((xa, cb (cD nilV true false) 37) :: (b6, cb (cD (.slice (some ⟨h6, 0, none⟩) 1 1) false false) 37) :: (h6, cb (cH 1 (cF 4 P1 (idN 1) (idN 2) (.slice a6 3 c6))) 54) :: (b3, cb (cD (.slice (some ⟨h3, 0, none⟩) 1 1) true false) 37) :: (h3, cb (cH 2 (cF 4 P1 (idN 1) (idN 2) (.slice a3 3 c3))) 54) :: (b9, cb [bV true, bV true, bV true] 4) :: ((bif m 9 then [(xb, cb (cD nilV false false) 37)] else []) ++ lp6)))) (by (refine perm_cnt (fun _ => ?_)); simp only [cntB_append, cntB_cons, cntB_nil, Nat.add_zero, Nat.zero_add]; try ac_rfl))) (hv3.off (l1 := [(u1, tabO 4 n1), (n1, .map #[] 0)]) (hw.perm (l' := [(u1, tabO 4 n1), (n1, .map #[] 0)] ++ (lp3 ++ ((xa, cb (cD nilV true false) 37) :: (b6, cb (cD (.slice (some ⟨h6, 0, none⟩) 1 1) false false) 37) :: (h6, cb (cH 1 (cF 4 P1 (idN 1) (idN 2) (.slice a6 3 c6))) 54) :: (b3, cb (cD (.slice (some ⟨h3, 0, none⟩) 1 1) true false) 37) :: (h3, cb (cH 2 (cF 4 P1 (idN 1) (idN 2) (.slice a3 3 c3))) 54) :: (b9, cb [bV true, bV true, bV true] 4) :: ((bif m 9 then [(xb, cb (cD nilV false false) 37)] else []) ++ lp6)))) (by (refine perm_cnt (fun _ => ?_)); simp only [cntB_append, cntB_cons, cntB_nil, Nat.add_zero, Nat.zero_add]; try ac_rfl))) (by decide) 1 (by decide) (by decide) (by decide) rfl (by decide) nilV [] ⟨none, 0, rfl, Nat.le_refl _, .inl rfl⟩ (.inl rfl) (by simp) 1 rfl (by decide)).mono fun _ _ ⟨x, h1, h2⟩ => ⟨x, h1, trivial, h2⟩) (fun h8n _ => ?_)
        refine J.nil (JX.finB rfl (fun w1 hw => ⟨⟨⟨u1, n1, h8n, xb⟩, rfl, fun j h1 h2 => ?_, ?_⟩, trivial⟩))
        · match j, h1 with
          | 0, _ => (first | rfl | trivial)
          | 1, _ => (first | rfl | trivial)
          | 2, _ => (first | rfl | trivial)
          | 3, _ => (first | rfl | trivial)
          | 4, _ => (first | rfl | trivial)
          | 5, _ => (first | rfl | trivial)
          | 6, _ => (first | rfl | trivial)
          | 7, _ => (first | rfl | trivial)
          | 8, _ => exact absurd (h2.symm.trans hm) (by decide)
          | 9, _ => (first | rfl | trivial)
          | j + 10, h1 => omega
        show (true = true → m 0 = true) ∧ St w [] ((xa, cb (cD nilV true false) 37) :: (b6, cb (cD (.slice (some ⟨h6, 0, none⟩) 1 1) false false) 37) :: (h6, cb (cH 1 (cF 4 P1 (idN 1) (idN 2) (.slice a6 3 c6))) 54) :: (b3, cb (cD (.slice (some ⟨h3, 0, none⟩) 1 1) true false) 37) :: (h3, cb (cH 2 (cF 4 P1 (idN 1) (idN 2) (.slice a3 3 c3))) 54) :: (b9, cb [bV true, bV true, bV true] 4) :: ((bif m 0 then [(u1, tabO 4 n1), (n1, .map #[] 0)] else []) ++ ((bif true then [(h8n, cb (cH 0 (cF 5 P1 zI zI nilV)) 54)] else []) ++ ((bif m 9 then [(xb, cb (cD nilV false false) 37)] else []) ++ (lp3 ++ lp6))))) w1
        refine ⟨fun _ => hp0, ?_⟩
        simp only [hp0, cond_true]
        exact hw.perm (by (refine perm_cnt (fun _ => ?_)); simp only [cntB_append, cntB_cons, cntB_nil, Nat.add_zero, Nat.zero_add]; try ac_rfl)
      · skip
        obtain ⟨u1, n1, h8, xb⟩ := x
        show J _ _ _ _ _ (_) _
        refine J.pr (fun hF => ?_)
        refine J.alloc zN rfl rfl (fun b8 => ?_)
        refine J.nil (JX.finB rfl (fun w1 hw => ⟨⟨⟨u1, n1, h8, b8⟩, rfl, fun j h1 h2 => ?_, ?_⟩, trivial⟩))
        · match j, h1 with
          | 0, _ => (first | rfl | trivial)
          | 1, _ => (first | rfl | trivial)
          | 2, _ => (first | rfl | trivial)
          | 3, _ => (first | rfl | trivial)
          | 4, _ => (first | rfl | trivial)
          | 5, _ => (first | rfl | trivial)
          | 6, _ => (first | rfl | trivial)
          | 7, _ => (first | rfl | trivial)
          | 8, _ => (first | rfl | trivial)
          | 9, _ => exact absurd (h2.symm.trans hm) (by decide)
          | j + 10, h1 => omega
        show (m 8 = true → m 0 = true) ∧ St w [] ((xa, cb (cD nilV true false) 37) :: (b6, cb (cD (.slice (some ⟨h6, 0, none⟩) 1 1) false false) 37) :: (h6, cb (cH 1 (cF 4 P1 (idN 1) (idN 2) (.slice a6 3 c6))) 54) :: (b3, cb (cD (.slice (some ⟨h3, 0, none⟩) 1 1) true false) 37) :: (h3, cb (cH 2 (cF 4 P1 (idN 1) (idN 2) (.slice a3 3 c3))) 54) :: (b9, cb [bV true, bV true, bV true] 4) :: ((bif m 0 then [(u1, tabO 4 n1), (n1, .map #[] 0)] else []) ++ ((bif m 8 then [(h8, cb (cH 0 (cF 5 P1 zI zI nilV)) 54)] else []) ++ ((bif true then [(b8, cb (cD nilV false false) 37)] else []) ++ (lp3 ++ lp6))))) w1
        refine ⟨hF, ?_⟩
        simp only [hm, cond_true, cond_false] at hw ⊢
        exact hw.perm (by (refine perm_cnt (fun _ => ?_)); simp only [cntB_append, cntB_cons, cntB_nil, Nat.add_zero, Nat.zero_add]; try ac_rfl)
    case htail =>
      intro x
      obtain ⟨u1, n1, h8, xb⟩ := x
      show J _ _ _ _ _ ((8, .pointer (some ⟨xb, 0, none⟩)) :: (92, .agg (cD (.slice (some ⟨h8, 0, none⟩) 1 1) false false).toArray) :: (91, .agg (cF 4 P1 (idN 1) (idN 2) (.slice a3 3 c3)).toArray) :: (90, .pointer (some ⟨h3, 0 + (0 : Int).toNat * 96 + 1, none⟩)) :: (89, .pointer (some ⟨h3, 0 + (0 : Int).toNat * 96, none⟩)) :: (88, .slice (some ⟨h3, 0, none⟩) 1 1) :: (87, .pointer (some ⟨b3, 0 + 0, none⟩)) :: (86, .agg (cW 2 (idN 3)).toArray) :: (85, .agg (cI (idN 3)).toArray) :: (84, .pointer (some ⟨u1, 0, none⟩)) :: _) (fun w1 => (true = true → true = true) ∧ St w [] ((xa, cb (cD nilV true false) 37) :: (b6, cb (cD (.slice (some ⟨h6, 0, none⟩) 1 1) false false) 37) :: (h6, cb (cH 1 (cF 4 P1 (idN 1) (idN 2) (.slice a6 3 c6))) 54) :: (b3, cb (cD (.slice (some ⟨h3, 0, none⟩) 1 1) true false) 37) :: (h3, cb (cH 2 (cF 4 P1 (idN 1) (idN 2) (.slice a3 3 c3))) 54) :: (b9, cb [bV true, bV true, bV true] 4) :: ((bif true then [(u1, tabO 4 n1), (n1, .map #[] 0)] else []) ++ ((bif true then [(h8, cb (cH 0 (cF 5 P1 zI zI nilV)) 54)] else []) ++ ((bif true then [(xb, cb (cD nilV false false) 37)] else []) ++ (lp3 ++ lp6))))) w1)
      refine J.pr (fun hF => ?_)
      refine J.conseq (I' := St w [] ((xb, cb (cD nilV false false) 37) :: (h8, cb (cH 0 (cF 5 P1 zI zI nilV)) 54) :: (xa, cb (cD nilV true false) 37) :: (b6, cb (cD (.slice (some ⟨h6, 0, none⟩) 1 1) false false) 37) :: (h6, cb (cH 1 (cF 4 P1 (idN 1) (idN 2) (.slice a6 3 c6))) 54) :: (b3, cb (cD (.slice (some ⟨h3, 0, none⟩) 1 1) true false) 37) :: (h3, cb (cH 2 (cF 4 P1 (idN 1) (idN 2) (.slice a3 3 c3))) 54) :: (b9, cb [bV true, bV true, bV true] 4) :: (lp3 ++ lp6))) ?_ (fun w1 hw => by simp only [cond_true] at hw; exact (hw.perm (l' := [(u1, tabO 4 n1), (n1, .map #[] 0)] ++ ((xb, cb (cD nilV false false) 37) :: (h8, cb (cH 0 (cF 5 P1 zI zI nilV)) 54) :: (xa, cb (cD nilV true false) 37) :: (b6, cb (cD (.slice (some ⟨h6, 0, none⟩) 1 1) false false) 37) :: (h6, cb (cH 1 (cF 4 P1 (idN 1) (idN 2) (.slice a6 3 c6))) 54) :: (b3, cb (cD (.slice (some ⟨h3, 0, none⟩) 1 1) true false) 37) :: (h3, cb (cH 2 (cF 4 P1 (idN 1) (idN 2) (.slice a3 3 c3))) 54) :: (b9, cb [bV true, bV true, bV true] 4) :: (lp3 ++ lp6))) (by (refine perm_cnt (fun _ => ?_)); simp only [cntB_append, cntB_cons, cntB_nil, Nat.add_zero, Nat.zero_add]; try ac_rfl)).drop (List.sublist_append_right _ _))
      refine J.storeW Ty.s37 rfl rfl rfl rfl rfl (by simp [Value.oneCell']) (by repeat first | exact .here | apply Up.there) ?_
      refine J.nil ?_
      refine JX.thenN (hK11 _ _ ?_)
      refine JC.seq (fun K12 hK12 => ?_)
      refine JC.region ?_
      refine J.fieldAddr Ty.fd37_1 rfl rfl ?_
      refine J.loadO Ty.a4 rfl (by repeat first | exact .head _ | apply List.Mem.tail | apply List.mem_append_right) (by exact rfl) rfl ?_
      refine J.move rfl rfl ?_
      first | refine J.skip rfl rfl rfl rfl rfl ?_ | refine J.skipU rfl rfl rfl rfl ?_ | (refine J.unguard rfl rfl rfl ?_; refine J.fieldAddr Ty.fd37_0 rfl rfl ?_)
      first | refine J.skip rfl rfl rfl rfl rfl ?_ | refine J.skipU rfl rfl rfl rfl ?_ | (refine J.unguard rfl rfl rfl ?_; refine J.loadO Ty.a35 rfl (by repeat first | exact .head _ | apply List.Mem.tail | apply List.mem_append_right) (by exact rfl) rfl ?_)
      first | refine J.skip rfl rfl rfl rfl rfl ?_ | refine J.skipU rfl rfl rfl rfl ?_ | (refine J.unguard rfl rfl rfl ?_; refine J.lenS rfl Ty.u35 rfl rfl ?_)
      first | refine J.skip rfl rfl rfl rfl rfl ?_ | refine J.skipU rfl rfl rfl rfl ?_ | (refine J.unguard rfl rfl rfl ?_; refine J.bin rfl rfl rfl rfl ?_)
      (first | refine J.pickT rfl rfl rfl ?_ | refine J.pickF rfl rfl rfl ?_)
      refine J.move rfl rfl ?_
      first | refine J.skip rfl rfl rfl rfl rfl ?_ | refine J.skipU rfl rfl rfl rfl ?_ | (refine J.unguard rfl rfl rfl ?_; refine J.fieldAddr Ty.fd37_0 rfl rfl ?_)
      first | refine J.skip rfl rfl rfl rfl rfl ?_ | refine J.skipU rfl rfl rfl rfl ?_ | (refine J.unguard rfl rfl rfl ?_; refine J.loadO Ty.a35 rfl (by repeat first | exact .head _ | apply List.Mem.tail | apply List.mem_append_right) (by exact rfl) rfl ?_)
      first | refine J.skip rfl rfl rfl rfl rfl ?_ | refine J.skipU rfl rfl rfl rfl ?_ | (refine J.unguard rfl rfl rfl ?_; refine J.lenS rfl Ty.u35 rfl rfl ?_)
      first | refine J.skip rfl rfl rfl rfl rfl ?_ | refine J.skipU rfl rfl rfl rfl ?_ | (refine J.unguard rfl rfl rfl ?_; refine J.bin rfl rfl rfl rfl ?_)
      (first | refine J.pickT rfl rfl rfl ?_ | refine J.pickF rfl rfl rfl ?_)
      refine J.move rfl rfl ?_
      first | refine J.skip rfl rfl rfl rfl rfl ?_ | refine J.skipU rfl rfl rfl rfl ?_ | (refine J.unguard rfl rfl rfl ?_; refine J.fieldAddr Ty.fd37_0 rfl rfl ?_)
      first | refine J.skip rfl rfl rfl rfl rfl ?_ | refine J.skipU rfl rfl rfl rfl ?_ | (refine J.unguard rfl rfl rfl ?_; refine J.loadO Ty.a35 rfl (by repeat first | exact .head _ | apply List.Mem.tail | apply List.mem_append_right) (by exact rfl) rfl ?_)
      first | refine J.skip rfl rfl rfl rfl rfl ?_ | refine J.skipU rfl rfl rfl rfl ?_ | (refine J.unguard rfl rfl rfl ?_; refine J.indexAddrS Ty.el35 Ty.s54 rfl rfl (by omega) (by omega) rfl ?_)
      first | refine J.skip rfl rfl rfl rfl rfl ?_ | refine J.skipU rfl rfl rfl rfl ?_ | (refine J.unguard rfl rfl rfl ?_; refine J.fieldAddr Ty.fd54_0 rfl rfl ?_)
      first | refine J.skip rfl rfl rfl rfl rfl ?_ | refine J.skipU rfl rfl rfl rfl ?_ | (refine J.unguard rfl rfl rfl ?_; refine J.loadO Ty.a3 rfl (by repeat first | exact .head _ | apply List.Mem.tail | apply List.mem_append_right) (by exact rfl) rfl ?_)
      first | refine J.skip rfl rfl rfl rfl rfl ?_ | refine J.skipU rfl rfl rfl rfl ?_ | (refine J.unguard rfl rfl rfl ?_; refine J.bin rfl rfl rfl rfl ?_)
      (first | refine J.pickT rfl rfl rfl ?_ | refine J.pickF rfl rfl rfl ?_)
      refine J.move rfl rfl ?_
      first | refine J.skip rfl rfl rfl rfl rfl ?_ | refine J.skipU rfl rfl rfl rfl ?_ | (refine J.unguard rfl rfl rfl ?_; refine J.fieldAddr Ty.fd37_0 rfl rfl ?_)
      first | refine J.skip rfl rfl rfl rfl rfl ?_ | refine J.skipU rfl rfl rfl rfl ?_ | (refine J.unguard rfl rfl rfl ?_; refine J.loadO Ty.a35 rfl (by repeat first | exact .head _ | apply List.Mem.tail | apply List.mem_append_right) (by exact rfl) rfl ?_)
      first | refine J.skip rfl rfl rfl rfl rfl ?_ | refine J.skipU rfl rfl rfl rfl ?_ | (refine J.unguard rfl rfl rfl ?_; refine J.indexAddrS Ty.el35 Ty.s54 rfl rfl (by omega) (by omega) rfl ?_)
      first | refine J.skip rfl rfl rfl rfl rfl ?_ | refine J.skipU rfl rfl rfl rfl ?_ | (refine J.unguard rfl rfl rfl ?_; refine J.fieldAddr Ty.fd54_1 rfl rfl ?_)
      first | refine J.skip rfl rfl rfl rfl rfl ?_ | refine J.skipU rfl rfl rfl rfl ?_ | (refine J.unguard rfl rfl rfl ?_; refine J.fieldAddr Ty.fd52_0 rfl rfl ?_)
      first | refine J.skip rfl rfl rfl rfl rfl ?_ | refine J.skipU rfl rfl rfl rfl ?_ | (refine J.unguard rfl rfl rfl ?_; refine J.loadO Ty.a3 rfl (by repeat first | exact .head _ | apply List.Mem.tail | apply List.mem_append_right) (by exact rfl) rfl ?_)
      first | refine J.skip rfl rfl rfl rfl rfl ?_ | refine J.skipU rfl rfl rfl rfl ?_ | (refine J.unguard rfl rfl rfl ?_; refine J.bin rfl rfl rfl rfl ?_)
      (first | refine J.pickT rfl rfl rfl ?_ | refine J.pickF rfl rfl rfl ?_)
      refine J.assign rfl rfl ?_
      refine J.nil ?_
      refine JX.thenN (hK12 _ _ ?_)
      refine JC.ret ?_
      refine JX.ret1 rfl rfl (fun w hw => ?_)
      exact ⟨rfl, hw.below⟩

end Go.Proofs.Ytpldpkdlloolkaa
