/-
  A Setup comes: what setup.Take does at a trail that may be: contracts.
-/
import Derived.Test.YtpldpkdlloolkaaTs
namespace Go.Proofs.Ytpldpkdlloolkaa
open Go.J Go.RowKit
set_option linter.unusedVariables false
set_option linter.unusedSimpArgs false
set_option maxRecDepth 8000
theorem Vec.pos {t k : Nat} {v : Value} {xs : List Value} {lp : List (Nat × Obj)} (h : Vec t 1 v k xs lp) (hk : 0 < k) : ∃ b c sp, v = .slice (some ⟨b, 0, none⟩) k c ∧ lp = [(b, cb (xs ++ sp) t)] ∧ k ≤ c := by
  obtain ⟨_, h⟩ := h
  rcases h with ⟨_, rfl, _⟩ | ⟨b, c, sp, rfl, rfl, _, hc⟩
  · omega
  · exact ⟨b, c, sp, rfl, rfl, hc⟩

theorem take_shut (t mb : Nat) (most : Int) (L : List EV) (es : Array MapEntry) (clock : Nat) (w : World) (hw0 : Own w [(t, tabO most mb), (mb, .map es clock)]) (hT : Tab L es clock) (n fr : Int) (id a b : IDV) (p : PV) (hp : okN p.n) (hfr : okN fr) (v : Value) (way : List Int) (hr : Row w v way.length (way.map iV)) (hoff : Off [t, mb] v (way.map iV)) (hlen : way.length < 1099511627776) (i : Nat) (hi : 1 ≤ i) (hi2 : i < way.length) (hat : placeP way n = (i : Int)) (hfrom : way[i - 1]? = some fr) (hnd : way.Nodup) (ov : Value) (os : List Bool) (hro : Row w ov os.length (os.map bV)) (hoffo : Off [t, mb] ov (os.map bV)) (hlo : os.length < 4611686018427387904) (nx : Int) (hnx : way[i + 1]? = some nx) (hop : openQ os nx = false) :
    Calls Try.prog 19 [.pointer (some ⟨t, 0, none⟩), .agg (cW n id).toArray, .int .i64 fr, .agg (cF 4 p a b v).toArray, ov].toArray w fun r w' => ∃ h : Nat, r = .returned (.agg (cD (.slice (some ⟨h, 0, none⟩) 1 1) false false).toArray) ∧ St w [t, mb] ((h, cb (cH fr (cF 5 p zI zI nilV)) 54) :: [(t, tabO most mb), (mb, .map es clock)]) w' := by
  have hr2 := hr
  obtain ⟨av, cv, rfl, hcv, _⟩ := hr2
  have hlt : i + 1 < way.length := (List.getElem?_eq_some_iff.1 hnx).1
  refine calls_of_J (args := [.pointer (some ⟨t, 0, none⟩), .agg (cW n id).toArray, .int .i64 fr, .agg (cF 4 p a b (.slice av way.length cv)).toArray, ov]) (e := [(0, .pointer (some ⟨t, 0, none⟩)), (1, .agg (cW n id).toArray), (2, .int .i64 fr), (3, .agg (cF 4 p a b (.slice av way.length cv)).toArray), (4, ov)]) Try.func19 rfl rfl ⟨rfl, rfl, rfl, rfl, rfl, trivial⟩ (hw0.st) ?_
  refine JC.seq (fun K0 hK0 => ?_)
  refine JC.region ?_
  refine J.box rfl rfl rfl (fun b6 => ?_)
  refine J.box rfl rfl rfl (fun b8 => ?_)
  refine J.alloc zN rfl rfl (fun b10 => ?_)
  refine J.nil ?_
  refine JX.thenN (hK0 _ _ ?_)
  refine JC.seq (fun K1 hK1 => ?_)
  refine JC.region ?_
  refine J.loadOA (vs := cF 4 p a b (.slice av way.length cv)) Ty.a52 Ty.s52 rfl (by repeat first | exact .head _ | apply List.Mem.tail | apply List.mem_append_right) (by exact rfl) rfl rfl ?_
  refine J.perm ([] ++ ((b10, cb (cD nilV false false) 37) :: (b8, cb (cF 4 p a b (.slice av way.length cv)) 52) :: (b6, cb (cW n id) 41) :: [(t, tabO most mb), (mb, .map es clock)])) (.refl _) ?_
  refine J.callS (α := Value × List (Nat × Obj)) (V := fun x => .tuple #[.iface 107 (.agg (cS p a b x.1).toArray), .bool true]) (Pr := fun x => Vec 3 1 x.1 way.length (way.map iV) x.2) (L := fun x => x.2) (l1 := []) Ty.bd55 rfl rfl (fun w1 hw => ofS_spec p a b w1 (.slice av way.length cv) way (hr.st hoff hw) hlen) (fun x hv8 => ?_)
  obtain ⟨v8, lp8⟩ := x
  simp only at hv8 ⊢
  obtain ⟨q, cq, sp, rfl, rfl, hcq⟩ := Vec.pos hv8 (by omega)
  have hrq : ∀ {w1 : World} {l : List (Nat × Obj)}, St w [t, mb] ((q, cb (way.map iV ++ sp) 3) :: l) w1 → Row w1 (.slice (some ⟨q, 0, none⟩) way.length cq) way.length (way.map iV) := fun hw => hv8.row hw
  refine J.perm ((b10, cb (cD nilV false false) 37) :: (b8, cb (cF 4 p a b (.slice av way.length cv)) 52) :: (b6, cb (cW n id) 41) :: ((q, cb (way.map iV ++ sp) 3) :: [(t, tabO most mb), (mb, .map es clock)])) (by (refine perm_cnt (fun _ => ?_)); simp only [cntB_append, cntB_cons, cntB_nil, Nat.add_zero, Nat.zero_add]; try ac_rfl) ?_
  refine J.move rfl rfl ?_
  refine J.extract rfl rfl rfl ?_
  refine J.extract rfl rfl rfl ?_
  refine J.assign rfl rfl ?_
  refine J.assign rfl rfl ?_
  refine J.nil ?_
  refine JX.thenN (hK1 _ _ ?_)
  refine JC.seq (fun K2 hK2 => ?_)
  refine JC.region ?_
  refine J.move rfl rfl ?_
  (first | refine J.assertT (by kernel_rfl) rfl rfl ?_ | refine J.assertF (by kernel_rfl) rfl rfl zS rfl ?_ | refine J.assertN (by kernel_rfl) rfl zS rfl ?_)
  refine J.move rfl rfl ?_
  refine J.extract rfl rfl rfl ?_
  refine J.extract rfl rfl rfl ?_
  refine J.alloc zS rfl rfl (fun b13 => ?_)
  refine J.storeW Ty.s107 rfl rfl rfl rfl rfl (by simp [Value.oneCell']) (by repeat first | exact .here | apply Up.there) ?_
  refine J.assign rfl rfl ?_
  refine J.nil ?_
  refine JX.thenN (hK2 _ _ ?_)
  refine JC.seq (fun K3 hK3 => ?_)
  refine JC.region ?_
  refine J.fieldAddr Ty.fd107_3 rfl rfl ?_
  refine J.loadO Ty.a26 rfl (by repeat first | exact .head _ | apply List.Mem.tail | apply List.mem_append_right) (by exact rfl) rfl ?_
  refine J.fieldAddr Ty.fd41_0 rfl rfl ?_
  refine J.loadO Ty.a3 rfl (by repeat first | exact .head _ | apply List.Mem.tail | apply List.mem_append_right) (by exact rfl) rfl ?_
  refine J.callB (v := .int .i64 (i : Int)) (fun w1 w2 hw hb => hw.step hb) Ty.bd56 rfl rfl (fun w1 hw => by
    have h := place_spec (.slice (some ⟨q, 0, none⟩) way.length cq) way n w1 (hrq (hw.perm (l' := (q, cb (way.map iV ++ sp) 3) :: ((b13, cb (cS p a b (.slice (some ⟨q, 0, none⟩) way.length cq)) 107) :: (b10, cb (cD nilV false false) 37) :: (b8, cb (cF 4 p a b (.slice av way.length cv)) 52) :: (b6, cb (cW n id) 41) :: [(t, tabO most mb), (mb, .map es clock)])) (by (refine perm_cnt (fun _ => ?_)); simp only [cntB_append, cntB_cons, cntB_nil, Nat.add_zero, Nat.zero_add]; try ac_rfl))) (by omega)
    rw [hat] at h
    exact h) ?_
  refine J.assign rfl rfl ?_
  refine J.nil ?_
  refine JX.thenN (hK3 _ _ ?_)
  refine JC.seq (fun K4 hK4 => ?_)
  refine JC.seq (fun K5 hK5 => ?_)
  refine JC.region ?_
  refine J.move rfl rfl ?_
  refine J.eqNil Ty.u29 rfl rfl rfl ?_
  refine J.move rfl rfl ?_
  first | refine J.skip rfl rfl rfl rfl rfl ?_ | refine J.skipU rfl rfl rfl rfl ?_ | (refine J.unguard rfl rfl rfl ?_; refine J.move rfl rfl ?_)
  first | refine J.skip rfl rfl rfl rfl rfl ?_ | refine J.skipU rfl rfl rfl rfl ?_ | (refine J.unguard rfl rfl rfl ?_; refine J.not rfl rfl ?_)
  (first | refine J.pickT rfl rfl rfl ?_ | refine J.pickF rfl rfl rfl ?_)
  refine J.move rfl rfl ?_
  first | refine J.skip rfl rfl rfl rfl rfl ?_ | refine J.skipU rfl rfl rfl rfl ?_ | (refine J.unguard rfl rfl rfl ?_; refine J.move rfl rfl ?_)
  refine J.unguard rfl rfl rfl ?_
  refine J.bin rfl rfl rfl rfl ?_
  refine J.name 43 rfl (show Value.bool _ = .bool false by simp; omega) ?_
  (first | refine J.pickT rfl rfl rfl ?_ | refine J.pickF rfl rfl rfl ?_)
  refine J.move rfl rfl ?_
  first | refine J.skip rfl rfl rfl rfl rfl ?_ | refine J.skipU rfl rfl rfl rfl ?_ | (refine J.unguard rfl rfl rfl ?_; refine J.fieldAddr Ty.fd107_3 rfl rfl ?_)
  first | refine J.skip rfl rfl rfl rfl rfl ?_ | refine J.skipU rfl rfl rfl rfl ?_ | (refine J.unguard rfl rfl rfl ?_; refine J.loadO Ty.a26 rfl (by repeat first | exact .head _ | apply List.Mem.tail | apply List.mem_append_right) (by exact rfl) rfl ?_)
  first | refine J.skip rfl rfl rfl rfl rfl ?_ | refine J.skipU rfl rfl rfl rfl ?_ | (refine J.unguard rfl rfl rfl ?_; refine J.move rfl rfl ?_)
  first | refine J.skip rfl rfl rfl rfl rfl ?_ | refine J.skipU rfl rfl rfl rfl ?_ | (refine J.unguard rfl rfl rfl ?_; (first | refine J.subN rfl rfl (by omega) (by omega) rfl ?_ | refine J.bin rfl rfl rfl rfl ?_))
  refine J.unguard rfl rfl rfl ?_
  refine J.indexAddrS Ty.el26 Ty.s3 rfl rfl (by omega) (by omega) rfl ?_
  refine J.unguard rfl rfl rfl ?_
  refine J.load1 (v := iV fr) Ty.a3 rfl (fun w1 hw => rowI_at (i := i - 1) (hrq (hw.perm (l' := (q, cb (way.map iV ++ sp) 3) :: ((b13, cb (cS p a b (.slice (some ⟨q, 0, none⟩) way.length cq)) 107) :: (b10, cb (cD nilV false false) 37) :: (b8, cb (cF 4 p a b (.slice av way.length cv)) 52) :: (b6, cb (cW n id) 41) :: [(t, tabO most mb), (mb, .map es clock)])) (by (refine perm_cnt (fun _ => ?_)); simp only [cntB_append, cntB_cons, cntB_nil, Nat.add_zero, Nat.zero_add]; try ac_rfl))) hfrom (by omega)) rfl ?_
  first | refine J.skip rfl rfl rfl rfl rfl ?_ | refine J.skipU rfl rfl rfl rfl ?_ | (refine J.unguard rfl rfl rfl ?_; refine J.move rfl rfl ?_)
  refine J.unguard rfl rfl rfl ?_
  refine J.bin rfl rfl rfl rfl ?_
  refine J.name 53 rfl (show Value.bool _ = .bool false by simp) ?_
  (first | refine J.pickT rfl rfl rfl ?_ | refine J.pickF rfl rfl rfl ?_)
  refine J.move rfl rfl ?_
  first | refine J.skip rfl rfl rfl rfl rfl ?_ | refine J.skipU rfl rfl rfl rfl ?_ | (refine J.unguard rfl rfl rfl ?_; refine J.fieldAddr Ty.fd107_3 rfl rfl ?_)
  first | refine J.skip rfl rfl rfl rfl rfl ?_ | refine J.skipU rfl rfl rfl rfl ?_ | (refine J.unguard rfl rfl rfl ?_; refine J.loadO Ty.a26 rfl (by repeat first | exact .head _ | apply List.Mem.tail | apply List.mem_append_right) (by exact rfl) rfl ?_)
  refine J.unguard rfl rfl rfl ?_
  refine J.callB (v := .bool true) (fun w1 w2 hw hb => hw.step hb) Ty.bd52 rfl rfl (fun w1 hw => by
    have h := simple_spec (.slice (some ⟨q, 0, none⟩) way.length cq) way w1 (hrq (hw.perm (l' := (q, cb (way.map iV ++ sp) 3) :: ((b13, cb (cS p a b (.slice (some ⟨q, 0, none⟩) way.length cq)) 107) :: (b10, cb (cD nilV false false) 37) :: (b8, cb (cF 4 p a b (.slice av way.length cv)) 52) :: (b6, cb (cW n id) 41) :: [(t, tabO most mb), (mb, .map es clock)])) (by (refine perm_cnt (fun _ => ?_)); simp only [cntB_append, cntB_cons, cntB_nil, Nat.add_zero, Nat.zero_add]; try ac_rfl))) (by omega)
    rw [decide_eq_true hnd] at h
    exact h) ?_
  first | refine J.skip rfl rfl rfl rfl rfl ?_ | refine J.skipU rfl rfl rfl rfl ?_ | (refine J.unguard rfl rfl rfl ?_; refine J.not rfl rfl ?_)
  (first | refine J.pickT rfl rfl rfl ?_ | refine J.pickF rfl rfl rfl ?_)
  refine J.nil ?_
  refine JX.thenN (hK5 _ _ ?_)
  first | refine JC.condF rfl ?_ | refine JC.cond rfl (fun h => by first | (exfalso; simp at h; omega) | (simp at h)) (fun _ => ?_)
  refine JC.skip ?_
  refine JX.thenN (hK4 _ _ ?_)
  refine JC.seq (fun K6 hK6 => ?_)
  refine JC.region ?_
  refine J.move rfl rfl ?_
  refine J.fieldAddr Ty.fd107_0 rfl rfl ?_
  refine J.loadOA (vs := cP p) Ty.a25 Ty.s25 rfl (by repeat first | exact .head _ | apply List.Mem.tail | apply List.mem_append_right) (by exact rfl) rfl rfl ?_
  refine J.buildS (cs := cP p) Ty.pl114 zD rfl (by kernel_rfl) rfl ?_
  refine J.iface (by kernel_rfl) rfl rfl ?_
  refine J.callB (v := .agg (cF 5 p zI zI nilV).toArray) (fun w1 w2 hw hb => hw.step hb) Ty.bd54 rfl rfl (fun w1 hw => plainD_spec p w1) ?_
  refine J.buildS (cs := cH fr (cF 5 p zI zI nilV)) Ty.pl54 zH rfl (by kernel_rfl) rfl ?_
  refine J.buildSl (cs := cH fr (cF 5 p zI zI nilV)) Ty.el35 Ty.s54 zH rfl rfl rfl rfl (by kernel_rfl) rfl rfl (fun b69 => ?_)
  refine J.buildS (cs := cD (.slice (some ⟨b69, 0, none⟩) 1 1) false false) Ty.pl37 zN rfl (by kernel_rfl) rfl ?_
  refine J.alloc zN rfl rfl (fun b16 => ?_)
  refine J.storeW Ty.s37 rfl rfl rfl rfl rfl (by simp [Value.oneCell']) (by repeat first | exact .here | apply Up.there) ?_
  refine J.nil ?_
  refine JX.thenN (hK6 _ _ ?_)
  refine JC.seq (fun K7 hK7 => ?_)
  refine JC.region ?_
  refine J.fieldAddr Ty.fd107_0 rfl rfl ?_
  refine J.loadOA (vs := cP p) Ty.a25 Ty.s25 rfl (by repeat first | exact .head _ | apply List.Mem.tail | apply List.mem_append_right) (by exact rfl) rfl rfl ?_
  refine J.fieldAddr Ty.fd107_1 rfl rfl ?_
  refine J.loadOA (vs := cI a) Ty.a23 Ty.s23 rfl (by repeat first | exact .head _ | apply List.Mem.tail | apply List.mem_append_right) (by exact rfl) rfl rfl ?_
  refine J.fieldAddr Ty.fd107_2 rfl rfl ?_
  refine J.loadOA (vs := cI b) Ty.a23 Ty.s23 rfl (by repeat first | exact .head _ | apply List.Mem.tail | apply List.mem_append_right) (by exact rfl) rfl rfl ?_
  refine J.move rfl rfl ?_
  refine J.buildS (cs := cE (⟨p, a, b, fr, -1⟩ : EV)) Ty.pl34 Ty.zE_ rfl (by kernel_rfl) rfl ?_
  refine J.alloc Ty.zE_ rfl rfl (fun b17 => ?_)
  refine J.storeW Ty.s34 rfl rfl rfl rfl rfl (by simp [Value.oneCell']) (by repeat first | exact .here | apply Up.there) ?_
  refine J.nil ?_
  refine JX.thenN (hK7 _ _ ?_)
  refine JC.seq (fun K8 hK8 => ?_)
  refine JC.region ?_
  refine J.move rfl rfl ?_
  refine J.fieldAddr Ty.fd107_3 rfl rfl ?_
  refine J.loadO Ty.a26 rfl (by repeat first | exact .head _ | apply List.Mem.tail | apply List.mem_append_right) (by exact rfl) rfl ?_
  refine J.lenS rfl Ty.u26 rfl rfl ?_
  (first | refine J.subN rfl rfl (by omega) (by omega) rfl ?_ | refine J.bin rfl rfl rfl rfl ?_)
  refine J.bin rfl rfl rfl rfl ?_
  refine J.name 84 rfl (show Value.bool _ = .bool false by simp; omega) ?_
  refine J.assign rfl rfl ?_
  refine J.nil ?_
  refine JX.thenN (hK8 _ _ ?_)
  refine JC.seq (fun K9 hK9 => ?_)
  refine JC.seq (fun K10 hK10 => ?_)
  refine JC.region ?_
  refine J.move rfl rfl ?_
  refine J.move rfl rfl ?_
  first | refine J.skip rfl rfl rfl rfl rfl ?_ | refine J.skipU rfl rfl rfl rfl ?_ | (refine J.unguard rfl rfl rfl ?_; refine J.fieldAddr Ty.fd107_2 rfl rfl ?_)
  first | refine J.skip rfl rfl rfl rfl rfl ?_ | refine J.skipU rfl rfl rfl rfl ?_ | (refine J.unguard rfl rfl rfl ?_; refine J.loadOA (vs := cI b) Ty.a23 Ty.s23 rfl (by repeat first | exact .head _ | apply List.Mem.tail | apply List.mem_append_right) (by exact rfl) rfl rfl ?_)
  first | refine J.skip rfl rfl rfl rfl rfl ?_ | refine J.skipU rfl rfl rfl rfl ?_ | (refine J.unguard rfl rfl rfl ?_; refine J.fieldAddr Ty.fd41_1 rfl rfl ?_)
  first | refine J.skip rfl rfl rfl rfl rfl ?_ | refine J.skipU rfl rfl rfl rfl ?_ | (refine J.unguard rfl rfl rfl ?_; refine J.loadOA (vs := cI id) Ty.a23 Ty.s23 rfl (by repeat first | exact .head _ | apply List.Mem.tail | apply List.mem_append_right) (by exact rfl) rfl rfl ?_)
  first | refine J.skip rfl rfl rfl rfl rfl ?_ | refine J.skipU rfl rfl rfl rfl ?_ | (refine J.unguard rfl rfl rfl ?_; refine J.neI Ty.QI Ty.keyI rfl rfl rfl ?_)
  (first | refine J.pickT rfl rfl rfl ?_ | refine J.pickF rfl rfl rfl ?_)
  refine J.nil ?_
  refine JX.thenN (hK10 _ _ ?_)
  first | refine JC.condF rfl ?_ | refine JC.cond rfl (fun h => by first | (exfalso; simp at h; omega) | (simp at h)) (fun _ => ?_)
  refine JC.skip ?_
  refine JX.thenN (hK9 _ _ ?_)
  refine JC.seq (fun K11 hK11 => ?_)
  refine JC.seq (fun K12 hK12 => ?_)
  refine JC.region ?_
  refine J.move rfl rfl ?_
  refine J.not rfl rfl ?_
  refine J.nil ?_
  refine JX.thenN (hK12 _ _ ?_)
  first | refine JC.condT rfl ?_ | refine JC.cond rfl (fun _ => ?_) (fun h => by first | (exfalso; simp at h; omega) | (simp at h))
  refine JC.seq (fun K13 hK13 => ?_)
  refine JC.region ?_
  refine J.fieldAddr Ty.fd107_3 rfl rfl ?_
  refine J.loadO Ty.a26 rfl (by repeat first | exact .head _ | apply List.Mem.tail | apply List.mem_append_right) (by exact rfl) rfl ?_
  refine J.move rfl rfl ?_
  (first | refine J.addN rfl rfl (by omega) (by omega) rfl ?_ | refine J.bin rfl rfl rfl rfl ?_)
  refine J.indexAddrS Ty.el26 Ty.s3 rfl rfl (by omega) (by omega) rfl ?_
  refine J.load1 (v := iV nx) Ty.a3 rfl (fun w1 hw => rowI_at (i := i + 1) (hrq (hw.perm (l' := (q, cb (way.map iV ++ sp) 3) :: ((b17, cb (cE (⟨p, a, b, fr, -1⟩ : EV)) 34) :: (b16, cb (cD (.slice (some ⟨b69, 0, none⟩) 1 1) false false) 37) :: (b69, cb (cH fr (cF 5 p zI zI nilV)) 54) :: (b13, cb (cS p a b (.slice (some ⟨q, 0, none⟩) way.length cq)) 107) :: (b10, cb (cD nilV false false) 37) :: (b8, cb (cF 4 p a b (.slice av way.length cv)) 52) :: (b6, cb (cW n id) 41) :: [(t, tabO most mb), (mb, .map es clock)])) (by (refine perm_cnt (fun _ => ?_)); simp only [cntB_append, cntB_cons, cntB_nil, Nat.add_zero, Nat.zero_add]; try ac_rfl))) hnx (by omega)) rfl ?_
  refine J.fieldAddr Ty.fd34_4 rfl rfl ?_
  refine J.storeO (cs := cE (⟨p, a, b, fr, -1⟩ : EV)) (vs := [iV nx]) Ty.s3 rfl rfl rfl rfl (by simp [Value.oneCell']) .here (by simp) ?_
  refine J.perm ((b17, cb (cE (⟨p, a, b, fr, nx⟩ : EV)) 34) :: (b16, cb (cD (.slice (some ⟨b69, 0, none⟩) 1 1) false false) 37) :: (b69, cb (cH fr (cF 5 p zI zI nilV)) 54) :: (b13, cb (cS p a b (.slice (some ⟨q, 0, none⟩) way.length cq)) 107) :: (b10, cb (cD nilV false false) 37) :: (b8, cb (cF 4 p a b (.slice av way.length cv)) 52) :: (b6, cb (cW n id) 41) :: (q, cb (way.map iV ++ sp) 3) :: [(t, tabO most mb), (mb, .map es clock)]) (.refl _) ?_
  refine J.nil ?_
  refine JX.thenN (hK13 _ _ ?_)
  refine JC.seq (fun K14 hK14 => ?_)
  refine JC.region ?_
  refine J.move rfl rfl ?_
  refine J.fieldAddr Ty.fd34_4 rfl rfl ?_
  refine J.loadO Ty.a3 rfl (by repeat first | exact .head _ | apply List.Mem.tail | apply List.mem_append_right) (by exact rfl) rfl ?_
  refine J.callB (v := .bool false) (fun w1 w2 hw hb => hw.step hb) Ty.bd53 rfl rfl (fun w1 hw => by
    have h := isOpen_spec ov os nx w1 (hro.st hoffo hw) hlo
    rw [hop] at h
    exact h) ?_
  refine J.not rfl rfl ?_
  refine J.nil ?_
  refine JX.thenN (hK14 _ _ ?_)
  first | refine JC.condT rfl ?_ | refine JC.cond rfl (fun _ => ?_) (fun h => by first | (exfalso; simp at h; omega) | (simp at h))
  refine JC.seq (fun K15 hK15 => ?_)
  refine JC.region ?_
  refine J.loadOA (vs := cD (.slice (some ⟨b69, 0, none⟩) 1 1) false false) Ty.a37 Ty.s37 rfl (by repeat first | exact .head _ | apply List.Mem.tail | apply List.mem_append_right) (by exact rfl) rfl rfl ?_
  refine J.storeW Ty.s37 rfl rfl rfl rfl rfl (by simp [Value.oneCell']) (by repeat first | exact .here | apply Up.there) ?_
  refine J.nil ?_
  refine JX.thenN (hK15 _ _ ?_)
  refine JC.ret ?_
  refine JX.thenR ?_
  refine JX.retC rfl rfl Ty.a37 Ty.s37 (vs := cD (.slice (some ⟨b69, 0, none⟩) 1 1) false false) rfl (fun w1 hw => Cells.of_block (hw.own _ (.tail _ (.tail _ (.tail _ (.tail _ (.head _)))))) rfl) (fun w1 hw => ?_)
  exact ⟨b69, rfl, (hw.perm (l' := ([(b17, cb (cE (⟨p, a, b, fr, nx⟩ : EV)) 34), (b16, cb (cD (.slice (some ⟨b69, 0, none⟩) 1 1) false false) 37), (b13, cb (cS p a b (.slice (some ⟨q, 0, none⟩) way.length cq)) 107), (b10, cb (cD (.slice (some ⟨b69, 0, none⟩) 1 1) false false) 37), (b8, cb (cF 4 p a b (.slice av way.length cv)) 52), (b6, cb (cW n id) 41), (q, cb (way.map iV ++ sp) 3)]) ++ ((b69, cb (cH fr (cF 5 p zI zI nilV)) 54) :: [(t, tabO most mb), (mb, .map es clock)])) (by (refine perm_cnt (fun _ => ?_)); simp only [cntB_append, cntB_cons, cntB_nil, Nat.add_zero, Nat.zero_add]; try ac_rfl)).drop (List.sublist_append_right _ _)⟩

theorem take_full (t mb : Nat) (most : Int) (L : List EV) (es : Array MapEntry) (clock : Nat) (w : World) (hw0 : Own w [(t, tabO most mb), (mb, .map es clock)]) (hT : Tab L es clock) (n fr : Int) (id a b : IDV) (p : PV) (hp : okN p.n) (hfr : okN fr) (v : Value) (way : List Int) (hr : Row w v way.length (way.map iV)) (hoff : Off [t, mb] v (way.map iV)) (hlen : way.length < 1099511627776) (i : Nat) (hi : 1 ≤ i) (hi2 : i < way.length) (hat : placeP way n = (i : Int)) (hfrom : way[i - 1]? = some fr) (hnd : way.Nodup) (ov : Value) (os : List Bool) (hro : Row w ov os.length (os.map bV)) (hoffo : Off [t, mb] ov (os.map bV)) (hlo : os.length < 4611686018427387904) (hlast : i + 1 = way.length) (hid : b = id) {e : Int} {L' : List EV} (hadd : tadd L most (⟨p, a, b, fr, -1⟩ : EV) = (e, L')) (he : e ≠ 0) :
    Calls Try.prog 19 [.pointer (some ⟨t, 0, none⟩), .agg (cW n id).toArray, .int .i64 fr, .agg (cF 4 p a b v).toArray, ov].toArray w fun r w' => ∃ x : Nat × Array MapEntry × Nat, r = .returned (.agg (cD (.slice (some ⟨x.1, 0, none⟩) 1 1) false (e == 5)).toArray) ∧ Tab L' x.2.1 x.2.2 ∧ St w [t, mb] ((x.1, cb (cH fr (cF 5 p zI zI nilV)) 54) :: [(t, tabO most mb), (mb, .map x.2.1 x.2.2)]) w' := by
  have hr2 := hr
  obtain ⟨av, cv, rfl, hcv, _⟩ := hr2
  have hokE : okE (⟨p, a, b, fr, -1⟩ : EV) := ⟨hp, hfr, okN_small (n := -1) (by omega) (by omega)⟩
  refine calls_of_J (args := [.pointer (some ⟨t, 0, none⟩), .agg (cW n id).toArray, .int .i64 fr, .agg (cF 4 p a b (.slice av way.length cv)).toArray, ov]) (e := [(0, .pointer (some ⟨t, 0, none⟩)), (1, .agg (cW n id).toArray), (2, .int .i64 fr), (3, .agg (cF 4 p a b (.slice av way.length cv)).toArray), (4, ov)]) Try.func19 rfl rfl ⟨rfl, rfl, rfl, rfl, rfl, trivial⟩ (hw0.st) ?_
  refine JC.seq (fun K0 hK0 => ?_)
  refine JC.region ?_
  refine J.box rfl rfl rfl (fun b6 => ?_)
  refine J.box rfl rfl rfl (fun b8 => ?_)
  refine J.alloc zN rfl rfl (fun b10 => ?_)
  refine J.nil ?_
  refine JX.thenN (hK0 _ _ ?_)
  refine JC.seq (fun K1 hK1 => ?_)
  refine JC.region ?_
  refine J.loadOA (vs := cF 4 p a b (.slice av way.length cv)) Ty.a52 Ty.s52 rfl (by repeat first | exact .head _ | apply List.Mem.tail | apply List.mem_append_right) (by exact rfl) rfl rfl ?_
  refine J.perm ([] ++ ((b10, cb (cD nilV false false) 37) :: (b8, cb (cF 4 p a b (.slice av way.length cv)) 52) :: (b6, cb (cW n id) 41) :: [(t, tabO most mb), (mb, .map es clock)])) (.refl _) ?_
  refine J.callS (α := Value × List (Nat × Obj)) (V := fun x => .tuple #[.iface 107 (.agg (cS p a b x.1).toArray), .bool true]) (Pr := fun x => Vec 3 1 x.1 way.length (way.map iV) x.2) (L := fun x => x.2) (l1 := []) Ty.bd55 rfl rfl (fun w1 hw => ofS_spec p a b w1 (.slice av way.length cv) way (hr.st hoff hw) hlen) (fun x hv8 => ?_)
  obtain ⟨v8, lp8⟩ := x
  simp only at hv8 ⊢
  obtain ⟨q, cq, sp, rfl, rfl, hcq⟩ := Vec.pos hv8 (by omega)
  have hrq : ∀ {w1 : World} {l : List (Nat × Obj)}, St w [t, mb] ((q, cb (way.map iV ++ sp) 3) :: l) w1 → Row w1 (.slice (some ⟨q, 0, none⟩) way.length cq) way.length (way.map iV) := fun hw => hv8.row hw
  refine J.perm ((b10, cb (cD nilV false false) 37) :: (b8, cb (cF 4 p a b (.slice av way.length cv)) 52) :: (b6, cb (cW n id) 41) :: ((q, cb (way.map iV ++ sp) 3) :: [(t, tabO most mb), (mb, .map es clock)])) (by (refine perm_cnt (fun _ => ?_)); simp only [cntB_append, cntB_cons, cntB_nil, Nat.add_zero, Nat.zero_add]; try ac_rfl) ?_
  refine J.move rfl rfl ?_
  refine J.extract rfl rfl rfl ?_
  refine J.extract rfl rfl rfl ?_
  refine J.assign rfl rfl ?_
  refine J.assign rfl rfl ?_
  refine J.nil ?_
  refine JX.thenN (hK1 _ _ ?_)
  refine JC.seq (fun K2 hK2 => ?_)
  refine JC.region ?_
  refine J.move rfl rfl ?_
  (first | refine J.assertT (by kernel_rfl) rfl rfl ?_ | refine J.assertF (by kernel_rfl) rfl rfl zS rfl ?_ | refine J.assertN (by kernel_rfl) rfl zS rfl ?_)
  refine J.move rfl rfl ?_
  refine J.extract rfl rfl rfl ?_
  refine J.extract rfl rfl rfl ?_
  refine J.alloc zS rfl rfl (fun b13 => ?_)
  refine J.storeW Ty.s107 rfl rfl rfl rfl rfl (by simp [Value.oneCell']) (by repeat first | exact .here | apply Up.there) ?_
  refine J.assign rfl rfl ?_
  refine J.nil ?_
  refine JX.thenN (hK2 _ _ ?_)
  refine JC.seq (fun K3 hK3 => ?_)
  refine JC.region ?_
  refine J.fieldAddr Ty.fd107_3 rfl rfl ?_
  refine J.loadO Ty.a26 rfl (by repeat first | exact .head _ | apply List.Mem.tail | apply List.mem_append_right) (by exact rfl) rfl ?_
  refine J.fieldAddr Ty.fd41_0 rfl rfl ?_
  refine J.loadO Ty.a3 rfl (by repeat first | exact .head _ | apply List.Mem.tail | apply List.mem_append_right) (by exact rfl) rfl ?_
  refine J.callB (v := .int .i64 (i : Int)) (fun w1 w2 hw hb => hw.step hb) Ty.bd56 rfl rfl (fun w1 hw => by
    have h := place_spec (.slice (some ⟨q, 0, none⟩) way.length cq) way n w1 (hrq (hw.perm (l' := (q, cb (way.map iV ++ sp) 3) :: ((b13, cb (cS p a b (.slice (some ⟨q, 0, none⟩) way.length cq)) 107) :: (b10, cb (cD nilV false false) 37) :: (b8, cb (cF 4 p a b (.slice av way.length cv)) 52) :: (b6, cb (cW n id) 41) :: [(t, tabO most mb), (mb, .map es clock)])) (by (refine perm_cnt (fun _ => ?_)); simp only [cntB_append, cntB_cons, cntB_nil, Nat.add_zero, Nat.zero_add]; try ac_rfl))) (by omega)
    rw [hat] at h
    exact h) ?_
  refine J.assign rfl rfl ?_
  refine J.nil ?_
  refine JX.thenN (hK3 _ _ ?_)
  refine JC.seq (fun K4 hK4 => ?_)
  refine JC.seq (fun K5 hK5 => ?_)
  refine JC.region ?_
  refine J.move rfl rfl ?_
  refine J.eqNil Ty.u29 rfl rfl rfl ?_
  refine J.move rfl rfl ?_
  first | refine J.skip rfl rfl rfl rfl rfl ?_ | refine J.skipU rfl rfl rfl rfl ?_ | (refine J.unguard rfl rfl rfl ?_; refine J.move rfl rfl ?_)
  first | refine J.skip rfl rfl rfl rfl rfl ?_ | refine J.skipU rfl rfl rfl rfl ?_ | (refine J.unguard rfl rfl rfl ?_; refine J.not rfl rfl ?_)
  (first | refine J.pickT rfl rfl rfl ?_ | refine J.pickF rfl rfl rfl ?_)
  refine J.move rfl rfl ?_
  first | refine J.skip rfl rfl rfl rfl rfl ?_ | refine J.skipU rfl rfl rfl rfl ?_ | (refine J.unguard rfl rfl rfl ?_; refine J.move rfl rfl ?_)
  refine J.unguard rfl rfl rfl ?_
  refine J.bin rfl rfl rfl rfl ?_
  refine J.name 43 rfl (show Value.bool _ = .bool false by simp; omega) ?_
  (first | refine J.pickT rfl rfl rfl ?_ | refine J.pickF rfl rfl rfl ?_)
  refine J.move rfl rfl ?_
  first | refine J.skip rfl rfl rfl rfl rfl ?_ | refine J.skipU rfl rfl rfl rfl ?_ | (refine J.unguard rfl rfl rfl ?_; refine J.fieldAddr Ty.fd107_3 rfl rfl ?_)
  first | refine J.skip rfl rfl rfl rfl rfl ?_ | refine J.skipU rfl rfl rfl rfl ?_ | (refine J.unguard rfl rfl rfl ?_; refine J.loadO Ty.a26 rfl (by repeat first | exact .head _ | apply List.Mem.tail | apply List.mem_append_right) (by exact rfl) rfl ?_)
  first | refine J.skip rfl rfl rfl rfl rfl ?_ | refine J.skipU rfl rfl rfl rfl ?_ | (refine J.unguard rfl rfl rfl ?_; refine J.move rfl rfl ?_)
  first | refine J.skip rfl rfl rfl rfl rfl ?_ | refine J.skipU rfl rfl rfl rfl ?_ | (refine J.unguard rfl rfl rfl ?_; (first | refine J.subN rfl rfl (by omega) (by omega) rfl ?_ | refine J.bin rfl rfl rfl rfl ?_))
  refine J.unguard rfl rfl rfl ?_
  refine J.indexAddrS Ty.el26 Ty.s3 rfl rfl (by omega) (by omega) rfl ?_
  refine J.unguard rfl rfl rfl ?_
  refine J.load1 (v := iV fr) Ty.a3 rfl (fun w1 hw => rowI_at (i := i - 1) (hrq (hw.perm (l' := (q, cb (way.map iV ++ sp) 3) :: ((b13, cb (cS p a b (.slice (some ⟨q, 0, none⟩) way.length cq)) 107) :: (b10, cb (cD nilV false false) 37) :: (b8, cb (cF 4 p a b (.slice av way.length cv)) 52) :: (b6, cb (cW n id) 41) :: [(t, tabO most mb), (mb, .map es clock)])) (by (refine perm_cnt (fun _ => ?_)); simp only [cntB_append, cntB_cons, cntB_nil, Nat.add_zero, Nat.zero_add]; try ac_rfl))) hfrom (by omega)) rfl ?_
  first | refine J.skip rfl rfl rfl rfl rfl ?_ | refine J.skipU rfl rfl rfl rfl ?_ | (refine J.unguard rfl rfl rfl ?_; refine J.move rfl rfl ?_)
  refine J.unguard rfl rfl rfl ?_
  refine J.bin rfl rfl rfl rfl ?_
  refine J.name 53 rfl (show Value.bool _ = .bool false by simp) ?_
  (first | refine J.pickT rfl rfl rfl ?_ | refine J.pickF rfl rfl rfl ?_)
  refine J.move rfl rfl ?_
  first | refine J.skip rfl rfl rfl rfl rfl ?_ | refine J.skipU rfl rfl rfl rfl ?_ | (refine J.unguard rfl rfl rfl ?_; refine J.fieldAddr Ty.fd107_3 rfl rfl ?_)
  first | refine J.skip rfl rfl rfl rfl rfl ?_ | refine J.skipU rfl rfl rfl rfl ?_ | (refine J.unguard rfl rfl rfl ?_; refine J.loadO Ty.a26 rfl (by repeat first | exact .head _ | apply List.Mem.tail | apply List.mem_append_right) (by exact rfl) rfl ?_)
  refine J.unguard rfl rfl rfl ?_
  refine J.callB (v := .bool true) (fun w1 w2 hw hb => hw.step hb) Ty.bd52 rfl rfl (fun w1 hw => by
    have h := simple_spec (.slice (some ⟨q, 0, none⟩) way.length cq) way w1 (hrq (hw.perm (l' := (q, cb (way.map iV ++ sp) 3) :: ((b13, cb (cS p a b (.slice (some ⟨q, 0, none⟩) way.length cq)) 107) :: (b10, cb (cD nilV false false) 37) :: (b8, cb (cF 4 p a b (.slice av way.length cv)) 52) :: (b6, cb (cW n id) 41) :: [(t, tabO most mb), (mb, .map es clock)])) (by (refine perm_cnt (fun _ => ?_)); simp only [cntB_append, cntB_cons, cntB_nil, Nat.add_zero, Nat.zero_add]; try ac_rfl))) (by omega)
    rw [decide_eq_true hnd] at h
    exact h) ?_
  first | refine J.skip rfl rfl rfl rfl rfl ?_ | refine J.skipU rfl rfl rfl rfl ?_ | (refine J.unguard rfl rfl rfl ?_; refine J.not rfl rfl ?_)
  (first | refine J.pickT rfl rfl rfl ?_ | refine J.pickF rfl rfl rfl ?_)
  refine J.nil ?_
  refine JX.thenN (hK5 _ _ ?_)
  first | refine JC.condF rfl ?_ | refine JC.cond rfl (fun h => by first | (exfalso; simp at h; omega) | (simp at h)) (fun _ => ?_)
  refine JC.skip ?_
  refine JX.thenN (hK4 _ _ ?_)
  refine JC.seq (fun K6 hK6 => ?_)
  refine JC.region ?_
  refine J.move rfl rfl ?_
  refine J.fieldAddr Ty.fd107_0 rfl rfl ?_
  refine J.loadOA (vs := cP p) Ty.a25 Ty.s25 rfl (by repeat first | exact .head _ | apply List.Mem.tail | apply List.mem_append_right) (by exact rfl) rfl rfl ?_
  refine J.buildS (cs := cP p) Ty.pl114 zD rfl (by kernel_rfl) rfl ?_
  refine J.iface (by kernel_rfl) rfl rfl ?_
  refine J.callB (v := .agg (cF 5 p zI zI nilV).toArray) (fun w1 w2 hw hb => hw.step hb) Ty.bd54 rfl rfl (fun w1 hw => plainD_spec p w1) ?_
  refine J.buildS (cs := cH fr (cF 5 p zI zI nilV)) Ty.pl54 zH rfl (by kernel_rfl) rfl ?_
  refine J.buildSl (cs := cH fr (cF 5 p zI zI nilV)) Ty.el35 Ty.s54 zH rfl rfl rfl rfl (by kernel_rfl) rfl rfl (fun b69 => ?_)
  refine J.buildS (cs := cD (.slice (some ⟨b69, 0, none⟩) 1 1) false false) Ty.pl37 zN rfl (by kernel_rfl) rfl ?_
  refine J.alloc zN rfl rfl (fun b16 => ?_)
  refine J.storeW Ty.s37 rfl rfl rfl rfl rfl (by simp [Value.oneCell']) (by repeat first | exact .here | apply Up.there) ?_
  refine J.nil ?_
  refine JX.thenN (hK6 _ _ ?_)
  refine JC.seq (fun K7 hK7 => ?_)
  refine JC.region ?_
  refine J.fieldAddr Ty.fd107_0 rfl rfl ?_
  refine J.loadOA (vs := cP p) Ty.a25 Ty.s25 rfl (by repeat first | exact .head _ | apply List.Mem.tail | apply List.mem_append_right) (by exact rfl) rfl rfl ?_
  refine J.fieldAddr Ty.fd107_1 rfl rfl ?_
  refine J.loadOA (vs := cI a) Ty.a23 Ty.s23 rfl (by repeat first | exact .head _ | apply List.Mem.tail | apply List.mem_append_right) (by exact rfl) rfl rfl ?_
  refine J.fieldAddr Ty.fd107_2 rfl rfl ?_
  refine J.loadOA (vs := cI b) Ty.a23 Ty.s23 rfl (by repeat first | exact .head _ | apply List.Mem.tail | apply List.mem_append_right) (by exact rfl) rfl rfl ?_
  refine J.move rfl rfl ?_
  refine J.buildS (cs := cE (⟨p, a, b, fr, -1⟩ : EV)) Ty.pl34 Ty.zE_ rfl (by kernel_rfl) rfl ?_
  refine J.alloc Ty.zE_ rfl rfl (fun b17 => ?_)
  refine J.storeW Ty.s34 rfl rfl rfl rfl rfl (by simp [Value.oneCell']) (by repeat first | exact .here | apply Up.there) ?_
  refine J.nil ?_
  refine JX.thenN (hK7 _ _ ?_)
  refine JC.seq (fun K8 hK8 => ?_)
  refine JC.region ?_
  refine J.move rfl rfl ?_
  refine J.fieldAddr Ty.fd107_3 rfl rfl ?_
  refine J.loadO Ty.a26 rfl (by repeat first | exact .head _ | apply List.Mem.tail | apply List.mem_append_right) (by exact rfl) rfl ?_
  refine J.lenS rfl Ty.u26 rfl rfl ?_
  (first | refine J.subN rfl rfl (by omega) (by omega) rfl ?_ | refine J.bin rfl rfl rfl rfl ?_)
  refine J.bin rfl rfl rfl rfl ?_
  refine J.name 84 rfl (show Value.bool _ = .bool true by simp; omega) ?_
  refine J.assign rfl rfl ?_
  refine J.nil ?_
  refine JX.thenN (hK8 _ _ ?_)
  refine JC.seq (fun K9 hK9 => ?_)
  refine JC.seq (fun K10 hK10 => ?_)
  refine JC.region ?_
  refine J.move rfl rfl ?_
  refine J.move rfl rfl ?_
  first | refine J.skip rfl rfl rfl rfl rfl ?_ | refine J.skipU rfl rfl rfl rfl ?_ | (refine J.unguard rfl rfl rfl ?_; refine J.fieldAddr Ty.fd107_2 rfl rfl ?_)
  first | refine J.skip rfl rfl rfl rfl rfl ?_ | refine J.skipU rfl rfl rfl rfl ?_ | (refine J.unguard rfl rfl rfl ?_; refine J.loadOA (vs := cI b) Ty.a23 Ty.s23 rfl (by repeat first | exact .head _ | apply List.Mem.tail | apply List.mem_append_right) (by exact rfl) rfl rfl ?_)
  first | refine J.skip rfl rfl rfl rfl rfl ?_ | refine J.skipU rfl rfl rfl rfl ?_ | (refine J.unguard rfl rfl rfl ?_; refine J.fieldAddr Ty.fd41_1 rfl rfl ?_)
  first | refine J.skip rfl rfl rfl rfl rfl ?_ | refine J.skipU rfl rfl rfl rfl ?_ | (refine J.unguard rfl rfl rfl ?_; refine J.loadOA (vs := cI id) Ty.a23 Ty.s23 rfl (by repeat first | exact .head _ | apply List.Mem.tail | apply List.mem_append_right) (by exact rfl) rfl rfl ?_)
  refine J.unguard rfl rfl rfl ?_
  refine J.neI Ty.QI Ty.keyI rfl rfl rfl ?_
  refine J.name 91 rfl (show Value.bool _ = .bool false by simp [hid]) ?_
  (first | refine J.pickT rfl rfl rfl ?_ | refine J.pickF rfl rfl rfl ?_)
  refine J.nil ?_
  refine JX.thenN (hK10 _ _ ?_)
  first | refine JC.condF rfl ?_ | refine JC.cond rfl (fun h => by first | (exfalso; simp at h; omega) | (simp at h)) (fun _ => ?_)
  refine JC.skip ?_
  refine JX.thenN (hK9 _ _ ?_)
  refine JC.seq (fun K11 hK11 => ?_)
  refine JC.seq (fun K12 hK12 => ?_)
  refine JC.region ?_
  refine J.move rfl rfl ?_
  refine J.not rfl rfl ?_
  refine J.nil ?_
  refine JX.thenN (hK12 _ _ ?_)
  first | refine JC.condF rfl ?_ | refine JC.cond rfl (fun h => by first | (exfalso; simp at h; omega) | (simp at h)) (fun _ => ?_)
  refine JC.skip ?_
  refine JX.thenN (hK11 _ _ ?_)
  refine JC.seq (fun K13 hK13 => ?_)
  refine JC.seq (fun K14 hK14 => ?_)
  refine JC.region ?_
  refine J.move rfl rfl ?_
  refine J.loadOA (vs := cE (⟨p, a, b, fr, -1⟩ : EV)) Ty.a34 Ty.s34 rfl (by repeat first | exact .head _ | apply List.Mem.tail | apply List.mem_append_right) (by exact rfl) rfl rfl ?_
  refine J.perm ([(t, tabO most mb), (mb, .map es clock)] ++ ((b17, cb (cE (⟨p, a, b, fr, -1⟩ : EV)) 34) :: (b16, cb (cD (.slice (some ⟨b69, 0, none⟩) 1 1) false false) 37) :: (b69, cb (cH fr (cF 5 p zI zI nilV)) 54) :: (b13, cb (cS p a b (.slice (some ⟨q, 0, none⟩) way.length cq)) 107) :: (b10, cb (cD nilV false false) 37) :: (b8, cb (cF 4 p a b (.slice av way.length cv)) 52) :: (b6, cb (cW n id) 41) :: (q, cb (way.map iV ++ sp) 3) :: [])) (by (refine perm_cnt (fun _ => ?_)); simp only [cntB_append, cntB_cons, cntB_nil, Nat.add_zero, Nat.zero_add]; try ac_rfl) ?_
  refine J.callS (α := Array MapEntry × Nat) (V := fun _ => .int .i64 e) (Pr := fun y => Tab L' y.1 y.2) (L := fun y => [(t, tabO most mb), (mb, .map y.1 y.2)]) (l1 := [(t, tabO most mb), (mb, .map es clock)]) Ty.bd17 rfl rfl (fun w1 hw => add_all hw.owns hT (⟨p, a, b, fr, -1⟩ : EV) hokE hadd) (fun y hT' => ?_)
  obtain ⟨es', clock'⟩ := y
  simp only at hT' ⊢
  refine J.perm ((b17, cb (cE (⟨p, a, b, fr, -1⟩ : EV)) 34) :: (b16, cb (cD (.slice (some ⟨b69, 0, none⟩) 1 1) false false) 37) :: (b69, cb (cH fr (cF 5 p zI zI nilV)) 54) :: (b13, cb (cS p a b (.slice (some ⟨q, 0, none⟩) way.length cq)) 107) :: (b10, cb (cD nilV false false) 37) :: (b8, cb (cF 4 p a b (.slice av way.length cv)) 52) :: (b6, cb (cW n id) 41) :: (q, cb (way.map iV ++ sp) 3) :: [(t, tabO most mb), (mb, .map es' clock')]) (by (refine perm_cnt (fun _ => ?_)); simp only [cntB_append, cntB_cons, cntB_nil, Nat.add_zero, Nat.zero_add]; try ac_rfl) ?_
  refine J.assign rfl rfl ?_
  refine J.nil ?_
  refine JX.thenN (hK14 _ _ ?_)
  refine JC.seq (fun K15 hK15 => ?_)
  refine JC.region ?_
  refine J.move rfl rfl ?_
  refine J.bin rfl rfl rfl rfl ?_
  refine J.name 113 rfl (show Value.bool _ = .bool true by simp [he]) ?_
  refine J.nil ?_
  refine JX.thenN (hK15 _ _ ?_)
  first | refine JC.condT rfl ?_ | refine JC.cond rfl (fun _ => ?_) (fun h => by first | (exfalso; simp at h; omega) | (simp at h))
  refine JC.seq (fun K16 hK16 => ?_)
  refine JC.region ?_
  refine J.move rfl rfl ?_
  refine J.bin rfl rfl rfl rfl ?_
  refine J.fieldAddr Ty.fd37_2 rfl rfl ?_
  refine J.storeO (cs := cD (.slice (some ⟨b69, 0, none⟩) 1 1) false false) (vs := [.bool (e == 5)]) Ty.s4 rfl rfl rfl rfl (by simp [Value.oneCell']) (.there .here) (by simp) ?_
  refine J.perm ((b17, cb (cE (⟨p, a, b, fr, -1⟩ : EV)) 34) :: (b16, cb (cD (.slice (some ⟨b69, 0, none⟩) 1 1) false (e == 5)) 37) :: (b69, cb (cH fr (cF 5 p zI zI nilV)) 54) :: (b13, cb (cS p a b (.slice (some ⟨q, 0, none⟩) way.length cq)) 107) :: (b10, cb (cD nilV false false) 37) :: (b8, cb (cF 4 p a b (.slice av way.length cv)) 52) :: (b6, cb (cW n id) 41) :: (q, cb (way.map iV ++ sp) 3) :: [(t, tabO most mb), (mb, .map es' clock')]) (.refl _) ?_
  refine J.nil ?_
  refine JX.thenN (hK16 _ _ ?_)
  refine JC.seq (fun K17 hK17 => ?_)
  refine JC.region ?_
  refine J.loadOA (vs := cD (.slice (some ⟨b69, 0, none⟩) 1 1) false (e == 5)) Ty.a37 Ty.s37 rfl (by repeat first | exact .head _ | apply List.Mem.tail | apply List.mem_append_right) (by exact rfl) rfl rfl ?_
  refine J.storeW Ty.s37 rfl rfl rfl rfl rfl (by simp [Value.oneCell']) (by repeat first | exact .here | apply Up.there) ?_
  refine J.nil ?_
  refine JX.thenN (hK17 _ _ ?_)
  refine JC.ret ?_
  refine JX.thenR ?_
  refine JX.retC rfl rfl Ty.a37 Ty.s37 (vs := cD (.slice (some ⟨b69, 0, none⟩) 1 1) false (e == 5)) rfl (fun w1 hw => Cells.of_block (hw.own _ (.tail _ (.tail _ (.tail _ (.tail _ (.head _)))))) rfl) (fun w1 hw => ?_)
  exact ⟨(b69, es', clock'), rfl, hT', (hw.perm (l' := ([(b17, cb (cE (⟨p, a, b, fr, -1⟩ : EV)) 34), (b16, cb (cD (.slice (some ⟨b69, 0, none⟩) 1 1) false (e == 5)) 37), (b13, cb (cS p a b (.slice (some ⟨q, 0, none⟩) way.length cq)) 107), (b10, cb (cD (.slice (some ⟨b69, 0, none⟩) 1 1) false (e == 5)) 37), (b8, cb (cF 4 p a b (.slice av way.length cv)) 52), (b6, cb (cW n id) 41), (q, cb (way.map iV ++ sp) 3)]) ++ ((b69, cb (cH fr (cF 5 p zI zI nilV)) 54) :: [(t, tabO most mb), (mb, .map es' clock')])) (by (refine perm_cnt (fun _ => ?_)); simp only [cntB_append, cntB_cons, cntB_nil, Nat.add_zero, Nat.zero_add]; try ac_rfl)).drop (List.sublist_append_right _ _)⟩

theorem take_last (t mb : Nat) (most : Int) (L : List EV) (es : Array MapEntry) (clock : Nat) (w : World) (hw0 : Own w [(t, tabO most mb), (mb, .map es clock)]) (hT : Tab L es clock) (n fr : Int) (id a b : IDV) (p : PV) (hp : okN p.n) (hfr : okN fr) (v : Value) (way : List Int) (hr : Row w v way.length (way.map iV)) (hoff : Off [t, mb] v (way.map iV)) (hlen : way.length < 1099511627776) (i : Nat) (hi : 1 ≤ i) (hi2 : i < way.length) (hat : placeP way n = (i : Int)) (hfrom : way[i - 1]? = some fr) (hnd : way.Nodup) (ov : Value) (os : List Bool) (hro : Row w ov os.length (os.map bV)) (hoffo : Off [t, mb] ov (os.map bV)) (hlo : os.length < 4611686018427387904) (hlast : i + 1 = way.length) (hid : b = id) {L' : List EV} (hadd : tadd L most (⟨p, a, b, fr, -1⟩ : EV) = (0, L')) :
    Calls Try.prog 19 [.pointer (some ⟨t, 0, none⟩), .agg (cW n id).toArray, .int .i64 fr, .agg (cF 4 p a b v).toArray, ov].toArray w fun r w' => ∃ y : Array MapEntry × Nat, r = .returned (.agg (cD nilV true false).toArray) ∧ Tab L' y.1 y.2 ∧ St w [t, mb] [(t, tabO most mb), (mb, .map y.1 y.2)] w' := by
  have hr2 := hr
  obtain ⟨av, cv, rfl, hcv, _⟩ := hr2
  have hokE : okE (⟨p, a, b, fr, -1⟩ : EV) := ⟨hp, hfr, okN_small (n := -1) (by omega) (by omega)⟩
  refine calls_of_J (args := [.pointer (some ⟨t, 0, none⟩), .agg (cW n id).toArray, .int .i64 fr, .agg (cF 4 p a b (.slice av way.length cv)).toArray, ov]) (e := [(0, .pointer (some ⟨t, 0, none⟩)), (1, .agg (cW n id).toArray), (2, .int .i64 fr), (3, .agg (cF 4 p a b (.slice av way.length cv)).toArray), (4, ov)]) Try.func19 rfl rfl ⟨rfl, rfl, rfl, rfl, rfl, trivial⟩ (hw0.st) ?_
  refine JC.seq (fun K0 hK0 => ?_)
  refine JC.region ?_
  refine J.box rfl rfl rfl (fun b6 => ?_)
  refine J.box rfl rfl rfl (fun b8 => ?_)
  refine J.alloc zN rfl rfl (fun b10 => ?_)
  refine J.nil ?_
  refine JX.thenN (hK0 _ _ ?_)
  refine JC.seq (fun K1 hK1 => ?_)
  refine JC.region ?_
  refine J.loadOA (vs := cF 4 p a b (.slice av way.length cv)) Ty.a52 Ty.s52 rfl (by repeat first | exact .head _ | apply List.Mem.tail | apply List.mem_append_right) (by exact rfl) rfl rfl ?_
  refine J.perm ([] ++ ((b10, cb (cD nilV false false) 37) :: (b8, cb (cF 4 p a b (.slice av way.length cv)) 52) :: (b6, cb (cW n id) 41) :: [(t, tabO most mb), (mb, .map es clock)])) (.refl _) ?_
  refine J.callS (α := Value × List (Nat × Obj)) (V := fun x => .tuple #[.iface 107 (.agg (cS p a b x.1).toArray), .bool true]) (Pr := fun x => Vec 3 1 x.1 way.length (way.map iV) x.2) (L := fun x => x.2) (l1 := []) Ty.bd55 rfl rfl (fun w1 hw => ofS_spec p a b w1 (.slice av way.length cv) way (hr.st hoff hw) hlen) (fun x hv8 => ?_)
  obtain ⟨v8, lp8⟩ := x
  simp only at hv8 ⊢
  obtain ⟨q, cq, sp, rfl, rfl, hcq⟩ := Vec.pos hv8 (by omega)
  have hrq : ∀ {w1 : World} {l : List (Nat × Obj)}, St w [t, mb] ((q, cb (way.map iV ++ sp) 3) :: l) w1 → Row w1 (.slice (some ⟨q, 0, none⟩) way.length cq) way.length (way.map iV) := fun hw => hv8.row hw
  refine J.perm ((b10, cb (cD nilV false false) 37) :: (b8, cb (cF 4 p a b (.slice av way.length cv)) 52) :: (b6, cb (cW n id) 41) :: ((q, cb (way.map iV ++ sp) 3) :: [(t, tabO most mb), (mb, .map es clock)])) (by (refine perm_cnt (fun _ => ?_)); simp only [cntB_append, cntB_cons, cntB_nil, Nat.add_zero, Nat.zero_add]; try ac_rfl) ?_
  refine J.move rfl rfl ?_
  refine J.extract rfl rfl rfl ?_
  refine J.extract rfl rfl rfl ?_
  refine J.assign rfl rfl ?_
  refine J.assign rfl rfl ?_
  refine J.nil ?_
  refine JX.thenN (hK1 _ _ ?_)
  refine JC.seq (fun K2 hK2 => ?_)
  refine JC.region ?_
  refine J.move rfl rfl ?_
  (first | refine J.assertT (by kernel_rfl) rfl rfl ?_ | refine J.assertF (by kernel_rfl) rfl rfl zS rfl ?_ | refine J.assertN (by kernel_rfl) rfl zS rfl ?_)
  refine J.move rfl rfl ?_
  refine J.extract rfl rfl rfl ?_
  refine J.extract rfl rfl rfl ?_
  refine J.alloc zS rfl rfl (fun b13 => ?_)
  refine J.storeW Ty.s107 rfl rfl rfl rfl rfl (by simp [Value.oneCell']) (by repeat first | exact .here | apply Up.there) ?_
  refine J.assign rfl rfl ?_
  refine J.nil ?_
  refine JX.thenN (hK2 _ _ ?_)
  refine JC.seq (fun K3 hK3 => ?_)
  refine JC.region ?_
  refine J.fieldAddr Ty.fd107_3 rfl rfl ?_
  refine J.loadO Ty.a26 rfl (by repeat first | exact .head _ | apply List.Mem.tail | apply List.mem_append_right) (by exact rfl) rfl ?_
  refine J.fieldAddr Ty.fd41_0 rfl rfl ?_
  refine J.loadO Ty.a3 rfl (by repeat first | exact .head _ | apply List.Mem.tail | apply List.mem_append_right) (by exact rfl) rfl ?_
  refine J.callB (v := .int .i64 (i : Int)) (fun w1 w2 hw hb => hw.step hb) Ty.bd56 rfl rfl (fun w1 hw => by
    have h := place_spec (.slice (some ⟨q, 0, none⟩) way.length cq) way n w1 (hrq (hw.perm (l' := (q, cb (way.map iV ++ sp) 3) :: ((b13, cb (cS p a b (.slice (some ⟨q, 0, none⟩) way.length cq)) 107) :: (b10, cb (cD nilV false false) 37) :: (b8, cb (cF 4 p a b (.slice av way.length cv)) 52) :: (b6, cb (cW n id) 41) :: [(t, tabO most mb), (mb, .map es clock)])) (by (refine perm_cnt (fun _ => ?_)); simp only [cntB_append, cntB_cons, cntB_nil, Nat.add_zero, Nat.zero_add]; try ac_rfl))) (by omega)
    rw [hat] at h
    exact h) ?_
  refine J.assign rfl rfl ?_
  refine J.nil ?_
  refine JX.thenN (hK3 _ _ ?_)
  refine JC.seq (fun K4 hK4 => ?_)
  refine JC.seq (fun K5 hK5 => ?_)
  refine JC.region ?_
  refine J.move rfl rfl ?_
  refine J.eqNil Ty.u29 rfl rfl rfl ?_
  refine J.move rfl rfl ?_
  first | refine J.skip rfl rfl rfl rfl rfl ?_ | refine J.skipU rfl rfl rfl rfl ?_ | (refine J.unguard rfl rfl rfl ?_; refine J.move rfl rfl ?_)
  first | refine J.skip rfl rfl rfl rfl rfl ?_ | refine J.skipU rfl rfl rfl rfl ?_ | (refine J.unguard rfl rfl rfl ?_; refine J.not rfl rfl ?_)
  (first | refine J.pickT rfl rfl rfl ?_ | refine J.pickF rfl rfl rfl ?_)
  refine J.move rfl rfl ?_
  first | refine J.skip rfl rfl rfl rfl rfl ?_ | refine J.skipU rfl rfl rfl rfl ?_ | (refine J.unguard rfl rfl rfl ?_; refine J.move rfl rfl ?_)
  refine J.unguard rfl rfl rfl ?_
  refine J.bin rfl rfl rfl rfl ?_
  refine J.name 43 rfl (show Value.bool _ = .bool false by simp; omega) ?_
  (first | refine J.pickT rfl rfl rfl ?_ | refine J.pickF rfl rfl rfl ?_)
  refine J.move rfl rfl ?_
  first | refine J.skip rfl rfl rfl rfl rfl ?_ | refine J.skipU rfl rfl rfl rfl ?_ | (refine J.unguard rfl rfl rfl ?_; refine J.fieldAddr Ty.fd107_3 rfl rfl ?_)
  first | refine J.skip rfl rfl rfl rfl rfl ?_ | refine J.skipU rfl rfl rfl rfl ?_ | (refine J.unguard rfl rfl rfl ?_; refine J.loadO Ty.a26 rfl (by repeat first | exact .head _ | apply List.Mem.tail | apply List.mem_append_right) (by exact rfl) rfl ?_)
  first | refine J.skip rfl rfl rfl rfl rfl ?_ | refine J.skipU rfl rfl rfl rfl ?_ | (refine J.unguard rfl rfl rfl ?_; refine J.move rfl rfl ?_)
  first | refine J.skip rfl rfl rfl rfl rfl ?_ | refine J.skipU rfl rfl rfl rfl ?_ | (refine J.unguard rfl rfl rfl ?_; (first | refine J.subN rfl rfl (by omega) (by omega) rfl ?_ | refine J.bin rfl rfl rfl rfl ?_))
  refine J.unguard rfl rfl rfl ?_
  refine J.indexAddrS Ty.el26 Ty.s3 rfl rfl (by omega) (by omega) rfl ?_
  refine J.unguard rfl rfl rfl ?_
  refine J.load1 (v := iV fr) Ty.a3 rfl (fun w1 hw => rowI_at (i := i - 1) (hrq (hw.perm (l' := (q, cb (way.map iV ++ sp) 3) :: ((b13, cb (cS p a b (.slice (some ⟨q, 0, none⟩) way.length cq)) 107) :: (b10, cb (cD nilV false false) 37) :: (b8, cb (cF 4 p a b (.slice av way.length cv)) 52) :: (b6, cb (cW n id) 41) :: [(t, tabO most mb), (mb, .map es clock)])) (by (refine perm_cnt (fun _ => ?_)); simp only [cntB_append, cntB_cons, cntB_nil, Nat.add_zero, Nat.zero_add]; try ac_rfl))) hfrom (by omega)) rfl ?_
  first | refine J.skip rfl rfl rfl rfl rfl ?_ | refine J.skipU rfl rfl rfl rfl ?_ | (refine J.unguard rfl rfl rfl ?_; refine J.move rfl rfl ?_)
  refine J.unguard rfl rfl rfl ?_
  refine J.bin rfl rfl rfl rfl ?_
  refine J.name 53 rfl (show Value.bool _ = .bool false by simp) ?_
  (first | refine J.pickT rfl rfl rfl ?_ | refine J.pickF rfl rfl rfl ?_)
  refine J.move rfl rfl ?_
  first | refine J.skip rfl rfl rfl rfl rfl ?_ | refine J.skipU rfl rfl rfl rfl ?_ | (refine J.unguard rfl rfl rfl ?_; refine J.fieldAddr Ty.fd107_3 rfl rfl ?_)
  first | refine J.skip rfl rfl rfl rfl rfl ?_ | refine J.skipU rfl rfl rfl rfl ?_ | (refine J.unguard rfl rfl rfl ?_; refine J.loadO Ty.a26 rfl (by repeat first | exact .head _ | apply List.Mem.tail | apply List.mem_append_right) (by exact rfl) rfl ?_)
  refine J.unguard rfl rfl rfl ?_
  refine J.callB (v := .bool true) (fun w1 w2 hw hb => hw.step hb) Ty.bd52 rfl rfl (fun w1 hw => by
    have h := simple_spec (.slice (some ⟨q, 0, none⟩) way.length cq) way w1 (hrq (hw.perm (l' := (q, cb (way.map iV ++ sp) 3) :: ((b13, cb (cS p a b (.slice (some ⟨q, 0, none⟩) way.length cq)) 107) :: (b10, cb (cD nilV false false) 37) :: (b8, cb (cF 4 p a b (.slice av way.length cv)) 52) :: (b6, cb (cW n id) 41) :: [(t, tabO most mb), (mb, .map es clock)])) (by (refine perm_cnt (fun _ => ?_)); simp only [cntB_append, cntB_cons, cntB_nil, Nat.add_zero, Nat.zero_add]; try ac_rfl))) (by omega)
    rw [decide_eq_true hnd] at h
    exact h) ?_
  first | refine J.skip rfl rfl rfl rfl rfl ?_ | refine J.skipU rfl rfl rfl rfl ?_ | (refine J.unguard rfl rfl rfl ?_; refine J.not rfl rfl ?_)
  (first | refine J.pickT rfl rfl rfl ?_ | refine J.pickF rfl rfl rfl ?_)
  refine J.nil ?_
  refine JX.thenN (hK5 _ _ ?_)
  first | refine JC.condF rfl ?_ | refine JC.cond rfl (fun h => by first | (exfalso; simp at h; omega) | (simp at h)) (fun _ => ?_)
  refine JC.skip ?_
  refine JX.thenN (hK4 _ _ ?_)
  refine JC.seq (fun K6 hK6 => ?_)
  refine JC.region ?_
  refine J.move rfl rfl ?_
  refine J.fieldAddr Ty.fd107_0 rfl rfl ?_
  refine J.loadOA (vs := cP p) Ty.a25 Ty.s25 rfl (by repeat first | exact .head _ | apply List.Mem.tail | apply List.mem_append_right) (by exact rfl) rfl rfl ?_
  refine J.buildS (cs := cP p) Ty.pl114 zD rfl (by kernel_rfl) rfl ?_
  refine J.iface (by kernel_rfl) rfl rfl ?_
  refine J.callB (v := .agg (cF 5 p zI zI nilV).toArray) (fun w1 w2 hw hb => hw.step hb) Ty.bd54 rfl rfl (fun w1 hw => plainD_spec p w1) ?_
  refine J.buildS (cs := cH fr (cF 5 p zI zI nilV)) Ty.pl54 zH rfl (by kernel_rfl) rfl ?_
  refine J.buildSl (cs := cH fr (cF 5 p zI zI nilV)) Ty.el35 Ty.s54 zH rfl rfl rfl rfl (by kernel_rfl) rfl rfl (fun b69 => ?_)
  refine J.buildS (cs := cD (.slice (some ⟨b69, 0, none⟩) 1 1) false false) Ty.pl37 zN rfl (by kernel_rfl) rfl ?_
  refine J.alloc zN rfl rfl (fun b16 => ?_)
  refine J.storeW Ty.s37 rfl rfl rfl rfl rfl (by simp [Value.oneCell']) (by repeat first | exact .here | apply Up.there) ?_
  refine J.nil ?_
  refine JX.thenN (hK6 _ _ ?_)
  refine JC.seq (fun K7 hK7 => ?_)
  refine JC.region ?_
  refine J.fieldAddr Ty.fd107_0 rfl rfl ?_
  refine J.loadOA (vs := cP p) Ty.a25 Ty.s25 rfl (by repeat first | exact .head _ | apply List.Mem.tail | apply List.mem_append_right) (by exact rfl) rfl rfl ?_
  refine J.fieldAddr Ty.fd107_1 rfl rfl ?_
  refine J.loadOA (vs := cI a) Ty.a23 Ty.s23 rfl (by repeat first | exact .head _ | apply List.Mem.tail | apply List.mem_append_right) (by exact rfl) rfl rfl ?_
  refine J.fieldAddr Ty.fd107_2 rfl rfl ?_
  refine J.loadOA (vs := cI b) Ty.a23 Ty.s23 rfl (by repeat first | exact .head _ | apply List.Mem.tail | apply List.mem_append_right) (by exact rfl) rfl rfl ?_
  refine J.move rfl rfl ?_
  refine J.buildS (cs := cE (⟨p, a, b, fr, -1⟩ : EV)) Ty.pl34 Ty.zE_ rfl (by kernel_rfl) rfl ?_
  refine J.alloc Ty.zE_ rfl rfl (fun b17 => ?_)
  refine J.storeW Ty.s34 rfl rfl rfl rfl rfl (by simp [Value.oneCell']) (by repeat first | exact .here | apply Up.there) ?_
  refine J.nil ?_
  refine JX.thenN (hK7 _ _ ?_)
  refine JC.seq (fun K8 hK8 => ?_)
  refine JC.region ?_
  refine J.move rfl rfl ?_
  refine J.fieldAddr Ty.fd107_3 rfl rfl ?_
  refine J.loadO Ty.a26 rfl (by repeat first | exact .head _ | apply List.Mem.tail | apply List.mem_append_right) (by exact rfl) rfl ?_
  refine J.lenS rfl Ty.u26 rfl rfl ?_
  (first | refine J.subN rfl rfl (by omega) (by omega) rfl ?_ | refine J.bin rfl rfl rfl rfl ?_)
  refine J.bin rfl rfl rfl rfl ?_
  refine J.name 84 rfl (show Value.bool _ = .bool true by simp; omega) ?_
  refine J.assign rfl rfl ?_
  refine J.nil ?_
  refine JX.thenN (hK8 _ _ ?_)
  refine JC.seq (fun K9 hK9 => ?_)
  refine JC.seq (fun K10 hK10 => ?_)
  refine JC.region ?_
  refine J.move rfl rfl ?_
  refine J.move rfl rfl ?_
  first | refine J.skip rfl rfl rfl rfl rfl ?_ | refine J.skipU rfl rfl rfl rfl ?_ | (refine J.unguard rfl rfl rfl ?_; refine J.fieldAddr Ty.fd107_2 rfl rfl ?_)
  first | refine J.skip rfl rfl rfl rfl rfl ?_ | refine J.skipU rfl rfl rfl rfl ?_ | (refine J.unguard rfl rfl rfl ?_; refine J.loadOA (vs := cI b) Ty.a23 Ty.s23 rfl (by repeat first | exact .head _ | apply List.Mem.tail | apply List.mem_append_right) (by exact rfl) rfl rfl ?_)
  first | refine J.skip rfl rfl rfl rfl rfl ?_ | refine J.skipU rfl rfl rfl rfl ?_ | (refine J.unguard rfl rfl rfl ?_; refine J.fieldAddr Ty.fd41_1 rfl rfl ?_)
  first | refine J.skip rfl rfl rfl rfl rfl ?_ | refine J.skipU rfl rfl rfl rfl ?_ | (refine J.unguard rfl rfl rfl ?_; refine J.loadOA (vs := cI id) Ty.a23 Ty.s23 rfl (by repeat first | exact .head _ | apply List.Mem.tail | apply List.mem_append_right) (by exact rfl) rfl rfl ?_)
  refine J.unguard rfl rfl rfl ?_
  refine J.neI Ty.QI Ty.keyI rfl rfl rfl ?_
  refine J.name 91 rfl (show Value.bool _ = .bool false by simp [hid]) ?_
  (first | refine J.pickT rfl rfl rfl ?_ | refine J.pickF rfl rfl rfl ?_)
  refine J.nil ?_
  refine JX.thenN (hK10 _ _ ?_)
  first | refine JC.condF rfl ?_ | refine JC.cond rfl (fun h => by first | (exfalso; simp at h; omega) | (simp at h)) (fun _ => ?_)
  refine JC.skip ?_
  refine JX.thenN (hK9 _ _ ?_)
  refine JC.seq (fun K11 hK11 => ?_)
  refine JC.seq (fun K12 hK12 => ?_)
  refine JC.region ?_
  refine J.move rfl rfl ?_
  refine J.not rfl rfl ?_
  refine J.nil ?_
  refine JX.thenN (hK12 _ _ ?_)
  first | refine JC.condF rfl ?_ | refine JC.cond rfl (fun h => by first | (exfalso; simp at h; omega) | (simp at h)) (fun _ => ?_)
  refine JC.skip ?_
  refine JX.thenN (hK11 _ _ ?_)
  refine JC.seq (fun K13 hK13 => ?_)
  refine JC.seq (fun K14 hK14 => ?_)
  refine JC.region ?_
  refine J.move rfl rfl ?_
  refine J.loadOA (vs := cE (⟨p, a, b, fr, -1⟩ : EV)) Ty.a34 Ty.s34 rfl (by repeat first | exact .head _ | apply List.Mem.tail | apply List.mem_append_right) (by exact rfl) rfl rfl ?_
  refine J.perm ([(t, tabO most mb), (mb, .map es clock)] ++ ((b17, cb (cE (⟨p, a, b, fr, -1⟩ : EV)) 34) :: (b16, cb (cD (.slice (some ⟨b69, 0, none⟩) 1 1) false false) 37) :: (b69, cb (cH fr (cF 5 p zI zI nilV)) 54) :: (b13, cb (cS p a b (.slice (some ⟨q, 0, none⟩) way.length cq)) 107) :: (b10, cb (cD nilV false false) 37) :: (b8, cb (cF 4 p a b (.slice av way.length cv)) 52) :: (b6, cb (cW n id) 41) :: (q, cb (way.map iV ++ sp) 3) :: [])) (by (refine perm_cnt (fun _ => ?_)); simp only [cntB_append, cntB_cons, cntB_nil, Nat.add_zero, Nat.zero_add]; try ac_rfl) ?_
  refine J.callS (α := Array MapEntry × Nat) (V := fun _ => .int .i64 0) (Pr := fun y => Tab L' y.1 y.2) (L := fun y => [(t, tabO most mb), (mb, .map y.1 y.2)]) (l1 := [(t, tabO most mb), (mb, .map es clock)]) Ty.bd17 rfl rfl (fun w1 hw => add_all hw.owns hT (⟨p, a, b, fr, -1⟩ : EV) hokE hadd) (fun y hT' => ?_)
  obtain ⟨es', clock'⟩ := y
  simp only at hT' ⊢
  refine J.perm ((b17, cb (cE (⟨p, a, b, fr, -1⟩ : EV)) 34) :: (b16, cb (cD (.slice (some ⟨b69, 0, none⟩) 1 1) false false) 37) :: (b69, cb (cH fr (cF 5 p zI zI nilV)) 54) :: (b13, cb (cS p a b (.slice (some ⟨q, 0, none⟩) way.length cq)) 107) :: (b10, cb (cD nilV false false) 37) :: (b8, cb (cF 4 p a b (.slice av way.length cv)) 52) :: (b6, cb (cW n id) 41) :: (q, cb (way.map iV ++ sp) 3) :: [(t, tabO most mb), (mb, .map es' clock')]) (by (refine perm_cnt (fun _ => ?_)); simp only [cntB_append, cntB_cons, cntB_nil, Nat.add_zero, Nat.zero_add]; try ac_rfl) ?_
  refine J.assign rfl rfl ?_
  refine J.nil ?_
  refine JX.thenN (hK14 _ _ ?_)
  refine JC.seq (fun K15 hK15 => ?_)
  refine JC.region ?_
  refine J.move rfl rfl ?_
  refine J.bin rfl rfl rfl rfl ?_
  refine J.nil ?_
  refine JX.thenN (hK15 _ _ ?_)
  first | refine JC.condF rfl ?_ | refine JC.cond rfl (fun h => by first | (exfalso; simp at h; omega) | (simp at h)) (fun _ => ?_)
  refine JC.skip ?_
  refine JX.thenN (hK13 _ _ ?_)
  refine JC.seq (fun K16 hK16 => ?_)
  refine JC.seq (fun K17 hK17 => ?_)
  refine JC.region ?_
  refine J.move rfl rfl ?_
  refine J.nil ?_
  refine JX.thenN (hK17 _ _ ?_)
  first | refine JC.condT rfl ?_ | refine JC.cond rfl (fun _ => ?_) (fun h => by first | (exfalso; simp at h; omega) | (simp at h))
  refine JC.seq (fun K18 hK18 => ?_)
  refine JC.region ?_
  refine J.buildS (cs := cD nilV true false) Ty.pl37 zN rfl (by kernel_rfl) rfl ?_
  refine J.storeW Ty.s37 rfl rfl rfl rfl rfl (by simp [Value.oneCell']) (by repeat first | exact .here | apply Up.there) ?_
  refine J.nil ?_
  refine JX.thenN (hK18 _ _ ?_)
  refine JC.ret ?_
  refine JX.thenR ?_
  refine JX.retC rfl rfl Ty.a37 Ty.s37 (vs := cD nilV true false) rfl (fun w1 hw => Cells.of_block (hw.own _ (.tail _ (.tail _ (.tail _ (.tail _ (.head _)))))) rfl) (fun w1 hw => ?_)
  exact ⟨(es', clock'), rfl, hT', (hw.perm (l' := ([(b17, cb (cE (⟨p, a, b, fr, -1⟩ : EV)) 34), (b16, cb (cD (.slice (some ⟨b69, 0, none⟩) 1 1) false false) 37), (b13, cb (cS p a b (.slice (some ⟨q, 0, none⟩) way.length cq)) 107), (b10, cb (cD nilV true false) 37), (b8, cb (cF 4 p a b (.slice av way.length cv)) 52), (b6, cb (cW n id) 41), (q, cb (way.map iV ++ sp) 3), (b69, cb (cH fr (cF 5 p zI zI nilV)) 54)]) ++ ([(t, tabO most mb), (mb, .map es' clock')])) (by (refine perm_cnt (fun _ => ?_)); simp only [cntB_append, cntB_cons, cntB_nil, Nat.add_zero, Nat.zero_add]; try ac_rfl)).drop (List.sublist_append_right _ _)⟩

end Go.Proofs.Ytpldpkdlloolkaa
