/-
  SetupTakes: texts that its proof needs, part 4.
-/
import Derived.Test.YtpldpkdlloolkaaZSetupTakesc
/-
  A Setup comes: what setup.Take does at a trail that may be: contracts.
-/
namespace Go.Proofs.Ytpldpkdlloolkaa
open Go.J Go.RowKit
set_option linter.unusedVariables false
set_option linter.unusedSimpArgs false
set_option maxRecDepth 8000
theorem Vec.pos {t k : Nat} {v : Value} {xs : List Value} {lp : List (Nat × Obj)} (h : Vec t 1 v k xs lp) (hk : 0 < k) : ∃ b c sp, v = .slice (some ⟨b, 0, none⟩) k c ∧ lp = [(b, cb (xs ++ sp) t)] ∧ k ≤ c := by
  obtain ⟨_, h⟩ := h
  rcases h with ⟨_, rfl, _⟩ | ⟨b, c, sp, rfl, rfl, _, hc⟩
  · omega
  · exact ⟨b, c, sp, rfl, rfl, hc⟩
/-- a frame's slices lie off some blocks -/
structure FOff (S : List Nat) (f : FV) (s : FSl) : Prop where
  tr : Off S s.tr (f.tr.map iV)
  ids : Off S s.ids (f.ids.flatMap cI)
  val : Off S s.val (f.val.map u8)
  txt : Off S s.txt (f.txt.map u8)
theorem FRows.st {w0 w : World} {S : List Nat} {l : List (Nat × Obj)} {f : FV} {s : FSl} (h : FRows w0 f s) (ho : FOff S f s) (hw : St w0 S l w) : FRows w f s := ⟨h.tr.st ho.tr hw, h.ids.st ho.ids hw, h.val.st ho.val hw, h.txt.st ho.txt hw⟩
theorem ofG2 (f : FV) (s : FSl) (w : World) (hs : FRows w f s) (hg : BigF f) (hk : f.k = 4) {p : PV} {a b : IDV} {way : List Int} (hpe : f.p = p) (hae : f.a = a) (hbe : f.b = b) (hwe : f.tr = way) :
    Calls Try.prog 55 [.agg (cFG f s).toArray].toArray w fun r w' => ∃ x : Value × List (Nat × Obj), r = .returned (.tuple #[.iface 107 (.agg (cS p a b x.1).toArray), .bool true]) ∧ Vec 3 1 x.1 way.length (way.map iV) x.2 ∧ St w [] x.2 w' := by
  subst hpe
  subst hae
  subst hbe
  subst hwe
  exact ofG_spec f s w hs hg hk

theorem gtake_off (t mb : Nat) (most : Int) (L : List EV) (es : Array MapEntry) (clock : Nat) (w : World) (hw0 : Own w [(t, tabO most mb), (mb, .map es clock)]) (hT : Tab L es clock) (n fr : Int) (id a b : IDV) (p : PV) (hp : okN p.n) (hfr : okN fr) (f : FV) (s : FSl) (hs : FRows w f s) (hso : FOff [t, mb] f s) (hg : BigF f) (hk : f.k = 4) (hpe : f.p = p) (hae : f.a = a) (hbe : f.b = b) (way : List Int) (hwe : f.tr = way) (hlen : way.length < 1099511627776) (i : Nat) (hi : 1 ≤ i) (hi2 : i < way.length) (hat : placeP way n = (i : Int)) (hfrom : way[i - 1]? = some fr) (hnd : way.Nodup) (ov : Value) (os : List Bool) (hro : Row w ov os.length (os.map bV)) (hoffo : Off [t, mb] ov (os.map bV)) (hlo : os.length < 4611686018427387904) (hlast : i + 1 = way.length) (hid : ¬ b = id) :
    Calls Try.prog 19 [.pointer (some ⟨t, 0, none⟩), .agg (cW n id).toArray, .int .i64 fr, .agg (cFG f s).toArray, ov].toArray w fun r w' => ∃ h : Nat, r = .returned (.agg (cD (.slice (some ⟨h, 0, none⟩) 1 1) false false).toArray) ∧ St w [t, mb] ((h, cb (cH fr (cF 5 p zI zI nilV)) 54) :: [(t, tabO most mb), (mb, .map es clock)]) w' := by
  obtain ⟨vt1, vi1, vv1, vx1⟩ := s
  obtain ⟨at1, ct1, hh, _, _⟩ := _root_.id hs.tr
  simp only at hh
  subst hh
  obtain ⟨ai1, ci1, hh, _, _⟩ := _root_.id hs.ids
  simp only at hh
  subst hh
  obtain ⟨av1, cv1, hh, _, _⟩ := _root_.id hs.val
  simp only at hh
  subst hh
  obtain ⟨ax1, cx1, hh, _, _⟩ := _root_.id hs.txt
  simp only at hh
  subst hh
  refine calls_of_J (args := [.pointer (some ⟨t, 0, none⟩), .agg (cW n id).toArray, .int .i64 fr, .agg (cFG f ⟨.slice at1 f.tr.length ct1, .slice ai1 f.ids.length ci1, .slice av1 f.val.length cv1, .slice ax1 f.txt.length cx1⟩).toArray, ov]) (e := [(0, .pointer (some ⟨t, 0, none⟩)), (1, .agg (cW n id).toArray), (2, .int .i64 fr), (3, .agg (cFG f ⟨.slice at1 f.tr.length ct1, .slice ai1 f.ids.length ci1, .slice av1 f.val.length cv1, .slice ax1 f.txt.length cx1⟩).toArray), (4, ov)]) Try.func19 rfl rfl ⟨rfl, rfl, rfl, rfl, rfl, trivial⟩ (hw0.st) ?_
  refine JC.seq (fun K0 hK0 => ?_)
  refine JC.region ?_
  refine J.box rfl rfl rfl (fun b6 => ?_)
  refine J.box rfl rfl rfl (fun b8 => ?_)
  refine J.alloc zN rfl rfl (fun b10 => ?_)
  refine J.nil ?_
  refine JX.thenN (hK0 _ _ ?_)
  refine JC.seq (fun K1 hK1 => ?_)
  refine JC.region ?_
  refine J.loadOA (vs := cFG f ⟨.slice at1 f.tr.length ct1, .slice ai1 f.ids.length ci1, .slice av1 f.val.length cv1, .slice ax1 f.txt.length cx1⟩) Ty.a52 Ty.s52 rfl (by repeat first | exact .head _ | apply List.Mem.tail | apply List.mem_append_right) (by exact rfl) rfl rfl ?_
  refine J.perm ([] ++ ((b10, cb (cD nilV false false) 37) :: (b8, cb (cFG f ⟨.slice at1 f.tr.length ct1, .slice ai1 f.ids.length ci1, .slice av1 f.val.length cv1, .slice ax1 f.txt.length cx1⟩) 52) :: (b6, cb (cW n id) 41) :: [(t, tabO most mb), (mb, .map es clock)])) (.refl _) ?_
  refine J.callS (α := Value × List (Nat × Obj)) (V := fun x => .tuple #[.iface 107 (.agg (cS p a b x.1).toArray), .bool true]) (Pr := fun x => Vec 3 1 x.1 way.length (way.map iV) x.2) (L := fun x => x.2) (l1 := []) Ty.bd55 rfl rfl (fun w1 hw => ofG2 f ⟨.slice at1 f.tr.length ct1, .slice ai1 f.ids.length ci1, .slice av1 f.val.length cv1, .slice ax1 f.txt.length cx1⟩ w1 (hs.st hso hw) hg hk hpe hae hbe hwe) (fun x hv8 => ?_)
  obtain ⟨v8, lp8⟩ := x
  simp only at hv8 ⊢
  obtain ⟨q, cq, sp, rfl, rfl, hcq⟩ := Vec.pos hv8 (by omega)
  have hrq : ∀ {w1 : World} {l : List (Nat × Obj)}, St w [t, mb] ((q, cb (way.map iV ++ sp) 3) :: l) w1 → Row w1 (.slice (some ⟨q, 0, none⟩) way.length cq) way.length (way.map iV) := fun hw => hv8.row hw
  refine J.perm ((b10, cb (cD nilV false false) 37) :: (b8, cb (cFG f ⟨.slice at1 f.tr.length ct1, .slice ai1 f.ids.length ci1, .slice av1 f.val.length cv1, .slice ax1 f.txt.length cx1⟩) 52) :: (b6, cb (cW n id) 41) :: ((q, cb (way.map iV ++ sp) 3) :: [(t, tabO most mb), (mb, .map es clock)])) (by (refine perm_cnt (fun _ => ?_)); simp only [cntB_append, cntB_cons, cntB_nil, Nat.add_zero, Nat.zero_add]; try ac_rfl) ?_
  refine J.move rfl rfl ?_
  refine J.extract rfl rfl rfl ?_
  refine J.extract rfl rfl rfl ?_
  refine J.assign rfl rfl ?_
  refine J.assign rfl rfl ?_
  refine J.nil ?_
  refine JX.thenN (hK1 _ _ ?_)
  refine JC.seq (fun K2 hK2 => ?_)
  refine JC.region ?_
  refine J.move rfl rfl ?_
  (first | refine J.assertT (by kernel_rfl) rfl rfl ?_ | refine J.assertF (by kernel_rfl) rfl rfl zS rfl ?_ | refine J.assertN (by kernel_rfl) rfl zS rfl ?_)
  refine J.move rfl rfl ?_
  refine J.extract rfl rfl rfl ?_
  refine J.extract rfl rfl rfl ?_
  refine J.alloc zS rfl rfl (fun b13 => ?_)
  refine J.storeW Ty.s107 rfl rfl rfl rfl rfl (by simp [Value.oneCell']) (by repeat first | exact .here | apply Up.there) ?_
  refine J.assign rfl rfl ?_
  refine J.nil ?_
  refine JX.thenN (hK2 _ _ ?_)
  refine JC.seq (fun K3 hK3 => ?_)
  refine JC.region ?_
  refine J.fieldAddr Ty.fd107_3 rfl rfl ?_
  refine J.loadO Ty.a26 rfl (by repeat first | exact .head _ | apply List.Mem.tail | apply List.mem_append_right) (by exact rfl) rfl ?_
  refine J.fieldAddr Ty.fd41_0 rfl rfl ?_
  refine J.loadO Ty.a3 rfl (by repeat first | exact .head _ | apply List.Mem.tail | apply List.mem_append_right) (by exact rfl) rfl ?_
  refine J.callB (v := .int .i64 (i : Int)) (fun w1 w2 hw hb => hw.step hb) Ty.bd56 rfl rfl (fun w1 hw => by
    have h := place_spec (.slice (some ⟨q, 0, none⟩) way.length cq) way n w1 (hrq (hw.perm (l' := (q, cb (way.map iV ++ sp) 3) :: ((b13, cb (cS p a b (.slice (some ⟨q, 0, none⟩) way.length cq)) 107) :: (b10, cb (cD nilV false false) 37) :: (b8, cb (cFG f ⟨.slice at1 f.tr.length ct1, .slice ai1 f.ids.length ci1, .slice av1 f.val.length cv1, .slice ax1 f.txt.length cx1⟩) 52) :: (b6, cb (cW n id) 41) :: [(t, tabO most mb), (mb, .map es clock)])) (by (refine perm_cnt (fun _ => ?_)); simp only [cntB_append, cntB_cons, cntB_nil, Nat.add_zero, Nat.zero_add]; try ac_rfl))) (by omega)
    rw [hat] at h
    exact h) ?_
  refine J.assign rfl rfl ?_
  refine J.nil ?_
  refine JX.thenN (hK3 _ _ ?_)
  refine JC.seq (fun K4 hK4 => ?_)
  refine JC.seq (fun K5 hK5 => ?_)
  refine JC.region ?_
  refine J.move rfl rfl ?_
  refine J.eqNil Ty.u29 rfl rfl rfl ?_
  refine J.move rfl rfl ?_
  first | refine J.skip rfl rfl rfl rfl rfl ?_ | refine J.skipU rfl rfl rfl rfl ?_ | (refine J.unguard rfl rfl rfl ?_; refine J.move rfl rfl ?_)
  first | refine J.skip rfl rfl rfl rfl rfl ?_ | refine J.skipU rfl rfl rfl rfl ?_ | (refine J.unguard rfl rfl rfl ?_; refine J.not rfl rfl ?_)
  (first | refine J.pickT rfl rfl rfl ?_ | refine J.pickF rfl rfl rfl ?_)
  refine J.move rfl rfl ?_
  first | refine J.skip rfl rfl rfl rfl rfl ?_ | refine J.skipU rfl rfl rfl rfl ?_ | (refine J.unguard rfl rfl rfl ?_; refine J.move rfl rfl ?_)
  refine J.unguard rfl rfl rfl ?_
  refine J.bin rfl rfl rfl rfl ?_
  refine J.name 43 rfl (show Value.bool _ = .bool false by simp; omega) ?_
  (first | refine J.pickT rfl rfl rfl ?_ | refine J.pickF rfl rfl rfl ?_)
  refine J.move rfl rfl ?_
  first | refine J.skip rfl rfl rfl rfl rfl ?_ | refine J.skipU rfl rfl rfl rfl ?_ | (refine J.unguard rfl rfl rfl ?_; refine J.fieldAddr Ty.fd107_3 rfl rfl ?_)
  first | refine J.skip rfl rfl rfl rfl rfl ?_ | refine J.skipU rfl rfl rfl rfl ?_ | (refine J.unguard rfl rfl rfl ?_; refine J.loadO Ty.a26 rfl (by repeat first | exact .head _ | apply List.Mem.tail | apply List.mem_append_right) (by exact rfl) rfl ?_)
  first | refine J.skip rfl rfl rfl rfl rfl ?_ | refine J.skipU rfl rfl rfl rfl ?_ | (refine J.unguard rfl rfl rfl ?_; refine J.move rfl rfl ?_)
  first | refine J.skip rfl rfl rfl rfl rfl ?_ | refine J.skipU rfl rfl rfl rfl ?_ | (refine J.unguard rfl rfl rfl ?_; (first | refine J.subN rfl rfl (by omega) (by omega) rfl ?_ | refine J.bin rfl rfl rfl rfl ?_))
  refine J.unguard rfl rfl rfl ?_
  refine J.indexAddrS Ty.el26 Ty.s3 rfl rfl (by omega) (by omega) rfl ?_
  refine J.unguard rfl rfl rfl ?_
  refine J.load1 (v := iV fr) Ty.a3 rfl (fun w1 hw => rowI_at (i := i - 1) (hrq (hw.perm (l' := (q, cb (way.map iV ++ sp) 3) :: ((b13, cb (cS p a b (.slice (some ⟨q, 0, none⟩) way.length cq)) 107) :: (b10, cb (cD nilV false false) 37) :: (b8, cb (cFG f ⟨.slice at1 f.tr.length ct1, .slice ai1 f.ids.length ci1, .slice av1 f.val.length cv1, .slice ax1 f.txt.length cx1⟩) 52) :: (b6, cb (cW n id) 41) :: [(t, tabO most mb), (mb, .map es clock)])) (by (refine perm_cnt (fun _ => ?_)); simp only [cntB_append, cntB_cons, cntB_nil, Nat.add_zero, Nat.zero_add]; try ac_rfl))) hfrom (by omega)) rfl ?_
  first | refine J.skip rfl rfl rfl rfl rfl ?_ | refine J.skipU rfl rfl rfl rfl ?_ | (refine J.unguard rfl rfl rfl ?_; refine J.move rfl rfl ?_)
  refine J.unguard rfl rfl rfl ?_
  refine J.bin rfl rfl rfl rfl ?_
  refine J.name 53 rfl (show Value.bool _ = .bool false by simp) ?_
  (first | refine J.pickT rfl rfl rfl ?_ | refine J.pickF rfl rfl rfl ?_)
  refine J.move rfl rfl ?_
  first | refine J.skip rfl rfl rfl rfl rfl ?_ | refine J.skipU rfl rfl rfl rfl ?_ | (refine J.unguard rfl rfl rfl ?_; refine J.fieldAddr Ty.fd107_3 rfl rfl ?_)
  first | refine J.skip rfl rfl rfl rfl rfl ?_ | refine J.skipU rfl rfl rfl rfl ?_ | (refine J.unguard rfl rfl rfl ?_; refine J.loadO Ty.a26 rfl (by repeat first | exact .head _ | apply List.Mem.tail | apply List.mem_append_right) (by exact rfl) rfl ?_)
  refine J.unguard rfl rfl rfl ?_
  refine J.callB (v := .bool true) (fun w1 w2 hw hb => hw.step hb) Ty.bd52 rfl rfl (fun w1 hw => by
    have h := simple_spec (.slice (some ⟨q, 0, none⟩) way.length cq) way w1 (hrq (hw.perm (l' := (q, cb (way.map iV ++ sp) 3) :: ((b13, cb (cS p a b (.slice (some ⟨q, 0, none⟩) way.length cq)) 107) :: (b10, cb (cD nilV false false) 37) :: (b8, cb (cFG f ⟨.slice at1 f.tr.length ct1, .slice ai1 f.ids.length ci1, .slice av1 f.val.length cv1, .slice ax1 f.txt.length cx1⟩) 52) :: (b6, cb (cW n id) 41) :: [(t, tabO most mb), (mb, .map es clock)])) (by (refine perm_cnt (fun _ => ?_)); simp only [cntB_append, cntB_cons, cntB_nil, Nat.add_zero, Nat.zero_add]; try ac_rfl))) (by omega)
    rw [decide_eq_true hnd] at h
    exact h) ?_
  first | refine J.skip rfl rfl rfl rfl rfl ?_ | refine J.skipU rfl rfl rfl rfl ?_ | (refine J.unguard rfl rfl rfl ?_; refine J.not rfl rfl ?_)
  (first | refine J.pickT rfl rfl rfl ?_ | refine J.pickF rfl rfl rfl ?_)
  refine J.nil ?_
  refine JX.thenN (hK5 _ _ ?_)
  first | refine JC.condF rfl ?_ | refine JC.cond rfl (fun h => by first | (exfalso; simp at h; omega) | (simp at h)) (fun _ => ?_)
  refine JC.skip ?_
  refine JX.thenN (hK4 _ _ ?_)
  refine JC.seq (fun K6 hK6 => ?_)
  refine JC.region ?_
  refine J.move rfl rfl ?_
  refine J.fieldAddr Ty.fd107_0 rfl rfl ?_
  refine J.loadOA (vs := cP p) Ty.a25 Ty.s25 rfl (by repeat first | exact .head _ | apply List.Mem.tail | apply List.mem_append_right) (by exact rfl) rfl rfl ?_
  refine J.buildS (cs := cP p) Ty.pl114 zD rfl (by kernel_rfl) rfl ?_
  refine J.iface (by kernel_rfl) rfl rfl ?_
  refine J.callB (v := .agg (cF 5 p zI zI nilV).toArray) (fun w1 w2 hw hb => hw.step hb) Ty.bd54 rfl rfl (fun w1 hw => plainD_spec p w1) ?_
  refine J.buildS (cs := cH fr (cF 5 p zI zI nilV)) Ty.pl54 zH rfl (by kernel_rfl) rfl ?_
  refine J.buildSl (cs := cH fr (cF 5 p zI zI nilV)) Ty.el35 Ty.s54 zH rfl rfl rfl rfl (by kernel_rfl) rfl rfl (fun b69 => ?_)
  refine J.buildS (cs := cD (.slice (some ⟨b69, 0, none⟩) 1 1) false false) Ty.pl37 zN rfl (by kernel_rfl) rfl ?_
  refine J.alloc zN rfl rfl (fun b16 => ?_)
  refine J.storeW Ty.s37 rfl rfl rfl rfl rfl (by simp [Value.oneCell']) (by repeat first | exact .here | apply Up.there) ?_
  refine J.nil ?_
  refine JX.thenN (hK6 _ _ ?_)
  refine JC.seq (fun K7 hK7 => ?_)
  refine JC.region ?_
  refine J.fieldAddr Ty.fd107_0 rfl rfl ?_
  refine J.loadOA (vs := cP p) Ty.a25 Ty.s25 rfl (by repeat first | exact .head _ | apply List.Mem.tail | apply List.mem_append_right) (by exact rfl) rfl rfl ?_
  refine J.fieldAddr Ty.fd107_1 rfl rfl ?_
  refine J.loadOA (vs := cI a) Ty.a23 Ty.s23 rfl (by repeat first | exact .head _ | apply List.Mem.tail | apply List.mem_append_right) (by exact rfl) rfl rfl ?_
  refine J.fieldAddr Ty.fd107_2 rfl rfl ?_
  refine J.loadOA (vs := cI b) Ty.a23 Ty.s23 rfl (by repeat first | exact .head _ | apply List.Mem.tail | apply List.mem_append_right) (by exact rfl) rfl rfl ?_
  refine J.move rfl rfl ?_
  refine J.buildS (cs := cE (⟨p, a, b, fr, -1⟩ : EV)) Ty.pl34 Ty.zE_ rfl (by kernel_rfl) rfl ?_
  refine J.alloc Ty.zE_ rfl rfl (fun b17 => ?_)
  refine J.storeW Ty.s34 rfl rfl rfl rfl rfl (by simp [Value.oneCell']) (by repeat first | exact .here | apply Up.there) ?_
  refine J.nil ?_
  refine JX.thenN (hK7 _ _ ?_)
  refine JC.seq (fun K8 hK8 => ?_)
  refine JC.region ?_
  refine J.move rfl rfl ?_
  refine J.fieldAddr Ty.fd107_3 rfl rfl ?_
  refine J.loadO Ty.a26 rfl (by repeat first | exact .head _ | apply List.Mem.tail | apply List.mem_append_right) (by exact rfl) rfl ?_
  refine J.lenS rfl Ty.u26 rfl rfl ?_
  (first | refine J.subN rfl rfl (by omega) (by omega) rfl ?_ | refine J.bin rfl rfl rfl rfl ?_)
  refine J.bin rfl rfl rfl rfl ?_
  refine J.name 84 rfl (show Value.bool _ = .bool true by simp; omega) ?_
  refine J.assign rfl rfl ?_
  refine J.nil ?_
  refine JX.thenN (hK8 _ _ ?_)
  refine JC.seq (fun K9 hK9 => ?_)
  refine JC.seq (fun K10 hK10 => ?_)
  refine JC.region ?_
  refine J.move rfl rfl ?_
  refine J.move rfl rfl ?_
  first | refine J.skip rfl rfl rfl rfl rfl ?_ | refine J.skipU rfl rfl rfl rfl ?_ | (refine J.unguard rfl rfl rfl ?_; refine J.fieldAddr Ty.fd107_2 rfl rfl ?_)
  first | refine J.skip rfl rfl rfl rfl rfl ?_ | refine J.skipU rfl rfl rfl rfl ?_ | (refine J.unguard rfl rfl rfl ?_; refine J.loadOA (vs := cI b) Ty.a23 Ty.s23 rfl (by repeat first | exact .head _ | apply List.Mem.tail | apply List.mem_append_right) (by exact rfl) rfl rfl ?_)
  first | refine J.skip rfl rfl rfl rfl rfl ?_ | refine J.skipU rfl rfl rfl rfl ?_ | (refine J.unguard rfl rfl rfl ?_; refine J.fieldAddr Ty.fd41_1 rfl rfl ?_)
  first | refine J.skip rfl rfl rfl rfl rfl ?_ | refine J.skipU rfl rfl rfl rfl ?_ | (refine J.unguard rfl rfl rfl ?_; refine J.loadOA (vs := cI id) Ty.a23 Ty.s23 rfl (by repeat first | exact .head _ | apply List.Mem.tail | apply List.mem_append_right) (by exact rfl) rfl rfl ?_)
  refine J.unguard rfl rfl rfl ?_
  refine J.neI Ty.QI Ty.keyI rfl rfl rfl ?_
  refine J.name 91 rfl (show Value.bool _ = .bool true by simp [hid]) ?_
  (first | refine J.pickT rfl rfl rfl ?_ | refine J.pickF rfl rfl rfl ?_)
  refine J.nil ?_
  refine JX.thenN (hK10 _ _ ?_)
  first | refine JC.condT rfl ?_ | refine JC.cond rfl (fun _ => ?_) (fun h => by first | (exfalso; simp at h; omega) | (simp at h))
  refine JC.seq (fun K11 hK11 => ?_)
  refine JC.region ?_
  refine J.loadOA (vs := cD (.slice (some ⟨b69, 0, none⟩) 1 1) false false) Ty.a37 Ty.s37 rfl (by repeat first | exact .head _ | apply List.Mem.tail | apply List.mem_append_right) (by exact rfl) rfl rfl ?_
  refine J.storeW Ty.s37 rfl rfl rfl rfl rfl (by simp [Value.oneCell']) (by repeat first | exact .here | apply Up.there) ?_
  refine J.nil ?_
  refine JX.thenN (hK11 _ _ ?_)
  refine JC.ret ?_
  refine JX.thenR ?_
  refine JX.retC rfl rfl Ty.a37 Ty.s37 (vs := cD (.slice (some ⟨b69, 0, none⟩) 1 1) false false) rfl (fun w1 hw => Cells.of_block (hw.own _ (.tail _ (.tail _ (.tail _ (.tail _ (.head _)))))) rfl) (fun w1 hw => ?_)
  exact ⟨b69, rfl, (hw.perm (l' := ([(b17, cb (cE (⟨p, a, b, fr, -1⟩ : EV)) 34), (b16, cb (cD (.slice (some ⟨b69, 0, none⟩) 1 1) false false) 37), (b13, cb (cS p a b (.slice (some ⟨q, 0, none⟩) way.length cq)) 107), (b10, cb (cD (.slice (some ⟨b69, 0, none⟩) 1 1) false false) 37), (b8, cb (cFG f ⟨.slice at1 f.tr.length ct1, .slice ai1 f.ids.length ci1, .slice av1 f.val.length cv1, .slice ax1 f.txt.length cx1⟩) 52), (b6, cb (cW n id) 41), (q, cb (way.map iV ++ sp) 3)]) ++ ((b69, cb (cH fr (cF 5 p zI zI nilV)) 54) :: [(t, tabO most mb), (mb, .map es clock)])) (by (refine perm_cnt (fun _ => ?_)); simp only [cntB_append, cntB_cons, cntB_nil, Nat.add_zero, Nat.zero_add]; try ac_rfl)).drop (List.sublist_append_right _ _)⟩

theorem gtake_shut (t mb : Nat) (most : Int) (L : List EV) (es : Array MapEntry) (clock : Nat) (w : World) (hw0 : Own w [(t, tabO most mb), (mb, .map es clock)]) (hT : Tab L es clock) (n fr : Int) (id a b : IDV) (p : PV) (hp : okN p.n) (hfr : okN fr) (f : FV) (s : FSl) (hs : FRows w f s) (hso : FOff [t, mb] f s) (hg : BigF f) (hk : f.k = 4) (hpe : f.p = p) (hae : f.a = a) (hbe : f.b = b) (way : List Int) (hwe : f.tr = way) (hlen : way.length < 1099511627776) (i : Nat) (hi : 1 ≤ i) (hi2 : i < way.length) (hat : placeP way n = (i : Int)) (hfrom : way[i - 1]? = some fr) (hnd : way.Nodup) (ov : Value) (os : List Bool) (hro : Row w ov os.length (os.map bV)) (hoffo : Off [t, mb] ov (os.map bV)) (hlo : os.length < 4611686018427387904) (nx : Int) (hnx : way[i + 1]? = some nx) (hop : openQ os nx = false) :
    Calls Try.prog 19 [.pointer (some ⟨t, 0, none⟩), .agg (cW n id).toArray, .int .i64 fr, .agg (cFG f s).toArray, ov].toArray w fun r w' => ∃ h : Nat, r = .returned (.agg (cD (.slice (some ⟨h, 0, none⟩) 1 1) false false).toArray) ∧ St w [t, mb] ((h, cb (cH fr (cF 5 p zI zI nilV)) 54) :: [(t, tabO most mb), (mb, .map es clock)]) w' := by
  obtain ⟨vt1, vi1, vv1, vx1⟩ := s
  obtain ⟨at1, ct1, hh, _, _⟩ := _root_.id hs.tr
  simp only at hh
  subst hh
  obtain ⟨ai1, ci1, hh, _, _⟩ := _root_.id hs.ids
  simp only at hh
  subst hh
  obtain ⟨av1, cv1, hh, _, _⟩ := _root_.id hs.val
  simp only at hh
  subst hh
  obtain ⟨ax1, cx1, hh, _, _⟩ := _root_.id hs.txt
  simp only at hh
  subst hh
  have hlt : i + 1 < way.length := (List.getElem?_eq_some_iff.1 hnx).1
  refine calls_of_J (args := [.pointer (some ⟨t, 0, none⟩), .agg (cW n id).toArray, .int .i64 fr, .agg (cFG f ⟨.slice at1 f.tr.length ct1, .slice ai1 f.ids.length ci1, .slice av1 f.val.length cv1, .slice ax1 f.txt.length cx1⟩).toArray, ov]) (e := [(0, .pointer (some ⟨t, 0, none⟩)), (1, .agg (cW n id).toArray), (2, .int .i64 fr), (3, .agg (cFG f ⟨.slice at1 f.tr.length ct1, .slice ai1 f.ids.length ci1, .slice av1 f.val.length cv1, .slice ax1 f.txt.length cx1⟩).toArray), (4, ov)]) Try.func19 rfl rfl ⟨rfl, rfl, rfl, rfl, rfl, trivial⟩ (hw0.st) ?_
  refine JC.seq (fun K0 hK0 => ?_)
  refine JC.region ?_
  refine J.box rfl rfl rfl (fun b6 => ?_)
  refine J.box rfl rfl rfl (fun b8 => ?_)
  refine J.alloc zN rfl rfl (fun b10 => ?_)
  refine J.nil ?_
  refine JX.thenN (hK0 _ _ ?_)
  refine JC.seq (fun K1 hK1 => ?_)
  refine JC.region ?_
  refine J.loadOA (vs := cFG f ⟨.slice at1 f.tr.length ct1, .slice ai1 f.ids.length ci1, .slice av1 f.val.length cv1, .slice ax1 f.txt.length cx1⟩) Ty.a52 Ty.s52 rfl (by repeat first | exact .head _ | apply List.Mem.tail | apply List.mem_append_right) (by exact rfl) rfl rfl ?_
  refine J.perm ([] ++ ((b10, cb (cD nilV false false) 37) :: (b8, cb (cFG f ⟨.slice at1 f.tr.length ct1, .slice ai1 f.ids.length ci1, .slice av1 f.val.length cv1, .slice ax1 f.txt.length cx1⟩) 52) :: (b6, cb (cW n id) 41) :: [(t, tabO most mb), (mb, .map es clock)])) (.refl _) ?_
  refine J.callS (α := Value × List (Nat × Obj)) (V := fun x => .tuple #[.iface 107 (.agg (cS p a b x.1).toArray), .bool true]) (Pr := fun x => Vec 3 1 x.1 way.length (way.map iV) x.2) (L := fun x => x.2) (l1 := []) Ty.bd55 rfl rfl (fun w1 hw => ofG2 f ⟨.slice at1 f.tr.length ct1, .slice ai1 f.ids.length ci1, .slice av1 f.val.length cv1, .slice ax1 f.txt.length cx1⟩ w1 (hs.st hso hw) hg hk hpe hae hbe hwe) (fun x hv8 => ?_)
  obtain ⟨v8, lp8⟩ := x
  simp only at hv8 ⊢
  obtain ⟨q, cq, sp, rfl, rfl, hcq⟩ := Vec.pos hv8 (by omega)
  have hrq : ∀ {w1 : World} {l : List (Nat × Obj)}, St w [t, mb] ((q, cb (way.map iV ++ sp) 3) :: l) w1 → Row w1 (.slice (some ⟨q, 0, none⟩) way.length cq) way.length (way.map iV) := fun hw => hv8.row hw
  refine J.perm ((b10, cb (cD nilV false false) 37) :: (b8, cb (cFG f ⟨.slice at1 f.tr.length ct1, .slice ai1 f.ids.length ci1, .slice av1 f.val.length cv1, .slice ax1 f.txt.length cx1⟩) 52) :: (b6, cb (cW n id) 41) :: ((q, cb (way.map iV ++ sp) 3) :: [(t, tabO most mb), (mb, .map es clock)])) (by (refine perm_cnt (fun _ => ?_)); simp only [cntB_append, cntB_cons, cntB_nil, Nat.add_zero, Nat.zero_add]; try ac_rfl) ?_
  refine J.move rfl rfl ?_
  refine J.extract rfl rfl rfl ?_
  refine J.extract rfl rfl rfl ?_
  refine J.assign rfl rfl ?_
  refine J.assign rfl rfl ?_
  refine J.nil ?_
  refine JX.thenN (hK1 _ _ ?_)
  refine JC.seq (fun K2 hK2 => ?_)
  refine JC.region ?_
  refine J.move rfl rfl ?_
  (first | refine J.assertT (by kernel_rfl) rfl rfl ?_ | refine J.assertF (by kernel_rfl) rfl rfl zS rfl ?_ | refine J.assertN (by kernel_rfl) rfl zS rfl ?_)
  refine J.move rfl rfl ?_
  refine J.extract rfl rfl rfl ?_
  refine J.extract rfl rfl rfl ?_
  refine J.alloc zS rfl rfl (fun b13 => ?_)
  refine J.storeW Ty.s107 rfl rfl rfl rfl rfl (by simp [Value.oneCell']) (by repeat first | exact .here | apply Up.there) ?_
  refine J.assign rfl rfl ?_
  refine J.nil ?_
  refine JX.thenN (hK2 _ _ ?_)
  refine JC.seq (fun K3 hK3 => ?_)
  refine JC.region ?_
  refine J.fieldAddr Ty.fd107_3 rfl rfl ?_
  refine J.loadO Ty.a26 rfl (by repeat first | exact .head _ | apply List.Mem.tail | apply List.mem_append_right) (by exact rfl) rfl ?_
  refine J.fieldAddr Ty.fd41_0 rfl rfl ?_
  refine J.loadO Ty.a3 rfl (by repeat first | exact .head _ | apply List.Mem.tail | apply List.mem_append_right) (by exact rfl) rfl ?_
  refine J.callB (v := .int .i64 (i : Int)) (fun w1 w2 hw hb => hw.step hb) Ty.bd56 rfl rfl (fun w1 hw => by
    have h := place_spec (.slice (some ⟨q, 0, none⟩) way.length cq) way n w1 (hrq (hw.perm (l' := (q, cb (way.map iV ++ sp) 3) :: ((b13, cb (cS p a b (.slice (some ⟨q, 0, none⟩) way.length cq)) 107) :: (b10, cb (cD nilV false false) 37) :: (b8, cb (cFG f ⟨.slice at1 f.tr.length ct1, .slice ai1 f.ids.length ci1, .slice av1 f.val.length cv1, .slice ax1 f.txt.length cx1⟩) 52) :: (b6, cb (cW n id) 41) :: [(t, tabO most mb), (mb, .map es clock)])) (by (refine perm_cnt (fun _ => ?_)); simp only [cntB_append, cntB_cons, cntB_nil, Nat.add_zero, Nat.zero_add]; try ac_rfl))) (by omega)
    rw [hat] at h
    exact h) ?_
  refine J.assign rfl rfl ?_
  refine J.nil ?_
  refine JX.thenN (hK3 _ _ ?_)
  refine JC.seq (fun K4 hK4 => ?_)
  refine JC.seq (fun K5 hK5 => ?_)
  refine JC.region ?_
  refine J.move rfl rfl ?_
  refine J.eqNil Ty.u29 rfl rfl rfl ?_
  refine J.move rfl rfl ?_
  first | refine J.skip rfl rfl rfl rfl rfl ?_ | refine J.skipU rfl rfl rfl rfl ?_ | (refine J.unguard rfl rfl rfl ?_; refine J.move rfl rfl ?_)
  first | refine J.skip rfl rfl rfl rfl rfl ?_ | refine J.skipU rfl rfl rfl rfl ?_ | (refine J.unguard rfl rfl rfl ?_; refine J.not rfl rfl ?_)
  (first | refine J.pickT rfl rfl rfl ?_ | refine J.pickF rfl rfl rfl ?_)
  refine J.move rfl rfl ?_
  first | refine J.skip rfl rfl rfl rfl rfl ?_ | refine J.skipU rfl rfl rfl rfl ?_ | (refine J.unguard rfl rfl rfl ?_; refine J.move rfl rfl ?_)
  refine J.unguard rfl rfl rfl ?_
  refine J.bin rfl rfl rfl rfl ?_
  refine J.name 43 rfl (show Value.bool _ = .bool false by simp; omega) ?_
  (first | refine J.pickT rfl rfl rfl ?_ | refine J.pickF rfl rfl rfl ?_)
  refine J.move rfl rfl ?_
  first | refine J.skip rfl rfl rfl rfl rfl ?_ | refine J.skipU rfl rfl rfl rfl ?_ | (refine J.unguard rfl rfl rfl ?_; refine J.fieldAddr Ty.fd107_3 rfl rfl ?_)
  first | refine J.skip rfl rfl rfl rfl rfl ?_ | refine J.skipU rfl rfl rfl rfl ?_ | (refine J.unguard rfl rfl rfl ?_; refine J.loadO Ty.a26 rfl (by repeat first | exact .head _ | apply List.Mem.tail | apply List.mem_append_right) (by exact rfl) rfl ?_)
  first | refine J.skip rfl rfl rfl rfl rfl ?_ | refine J.skipU rfl rfl rfl rfl ?_ | (refine J.unguard rfl rfl rfl ?_; refine J.move rfl rfl ?_)
  first | refine J.skip rfl rfl rfl rfl rfl ?_ | refine J.skipU rfl rfl rfl rfl ?_ | (refine J.unguard rfl rfl rfl ?_; (first | refine J.subN rfl rfl (by omega) (by omega) rfl ?_ | refine J.bin rfl rfl rfl rfl ?_))
  refine J.unguard rfl rfl rfl ?_
  refine J.indexAddrS Ty.el26 Ty.s3 rfl rfl (by omega) (by omega) rfl ?_
  refine J.unguard rfl rfl rfl ?_
  refine J.load1 (v := iV fr) Ty.a3 rfl (fun w1 hw => rowI_at (i := i - 1) (hrq (hw.perm (l' := (q, cb (way.map iV ++ sp) 3) :: ((b13, cb (cS p a b (.slice (some ⟨q, 0, none⟩) way.length cq)) 107) :: (b10, cb (cD nilV false false) 37) :: (b8, cb (cFG f ⟨.slice at1 f.tr.length ct1, .slice ai1 f.ids.length ci1, .slice av1 f.val.length cv1, .slice ax1 f.txt.length cx1⟩) 52) :: (b6, cb (cW n id) 41) :: [(t, tabO most mb), (mb, .map es clock)])) (by (refine perm_cnt (fun _ => ?_)); simp only [cntB_append, cntB_cons, cntB_nil, Nat.add_zero, Nat.zero_add]; try ac_rfl))) hfrom (by omega)) rfl ?_
  first | refine J.skip rfl rfl rfl rfl rfl ?_ | refine J.skipU rfl rfl rfl rfl ?_ | (refine J.unguard rfl rfl rfl ?_; refine J.move rfl rfl ?_)
  refine J.unguard rfl rfl rfl ?_
  refine J.bin rfl rfl rfl rfl ?_
  refine J.name 53 rfl (show Value.bool _ = .bool false by simp) ?_
  (first | refine J.pickT rfl rfl rfl ?_ | refine J.pickF rfl rfl rfl ?_)
  refine J.move rfl rfl ?_
  first | refine J.skip rfl rfl rfl rfl rfl ?_ | refine J.skipU rfl rfl rfl rfl ?_ | (refine J.unguard rfl rfl rfl ?_; refine J.fieldAddr Ty.fd107_3 rfl rfl ?_)
  first | refine J.skip rfl rfl rfl rfl rfl ?_ | refine J.skipU rfl rfl rfl rfl ?_ | (refine J.unguard rfl rfl rfl ?_; refine J.loadO Ty.a26 rfl (by repeat first | exact .head _ | apply List.Mem.tail | apply List.mem_append_right) (by exact rfl) rfl ?_)
  refine J.unguard rfl rfl rfl ?_
  refine J.callB (v := .bool true) (fun w1 w2 hw hb => hw.step hb) Ty.bd52 rfl rfl (fun w1 hw => by
    have h := simple_spec (.slice (some ⟨q, 0, none⟩) way.length cq) way w1 (hrq (hw.perm (l' := (q, cb (way.map iV ++ sp) 3) :: ((b13, cb (cS p a b (.slice (some ⟨q, 0, none⟩) way.length cq)) 107) :: (b10, cb (cD nilV false false) 37) :: (b8, cb (cFG f ⟨.slice at1 f.tr.length ct1, .slice ai1 f.ids.length ci1, .slice av1 f.val.length cv1, .slice ax1 f.txt.length cx1⟩) 52) :: (b6, cb (cW n id) 41) :: [(t, tabO most mb), (mb, .map es clock)])) (by (refine perm_cnt (fun _ => ?_)); simp only [cntB_append, cntB_cons, cntB_nil, Nat.add_zero, Nat.zero_add]; try ac_rfl))) (by omega)
    rw [decide_eq_true hnd] at h
    exact h) ?_
  first | refine J.skip rfl rfl rfl rfl rfl ?_ | refine J.skipU rfl rfl rfl rfl ?_ | (refine J.unguard rfl rfl rfl ?_; refine J.not rfl rfl ?_)
  (first | refine J.pickT rfl rfl rfl ?_ | refine J.pickF rfl rfl rfl ?_)
  refine J.nil ?_
  refine JX.thenN (hK5 _ _ ?_)
  first | refine JC.condF rfl ?_ | refine JC.cond rfl (fun h => by first | (exfalso; simp at h; omega) | (simp at h)) (fun _ => ?_)
  refine JC.skip ?_
  refine JX.thenN (hK4 _ _ ?_)
  refine JC.seq (fun K6 hK6 => ?_)
  refine JC.region ?_
  refine J.move rfl rfl ?_
  refine J.fieldAddr Ty.fd107_0 rfl rfl ?_
  refine J.loadOA (vs := cP p) Ty.a25 Ty.s25 rfl (by repeat first | exact .head _ | apply List.Mem.tail | apply List.mem_append_right) (by exact rfl) rfl rfl ?_
  refine J.buildS (cs := cP p) Ty.pl114 zD rfl (by kernel_rfl) rfl ?_
  refine J.iface (by kernel_rfl) rfl rfl ?_
  refine J.callB (v := .agg (cF 5 p zI zI nilV).toArray) (fun w1 w2 hw hb => hw.step hb) Ty.bd54 rfl rfl (fun w1 hw => plainD_spec p w1) ?_
  refine J.buildS (cs := cH fr (cF 5 p zI zI nilV)) Ty.pl54 zH rfl (by kernel_rfl) rfl ?_
  refine J.buildSl (cs := cH fr (cF 5 p zI zI nilV)) Ty.el35 Ty.s54 zH rfl rfl rfl rfl (by kernel_rfl) rfl rfl (fun b69 => ?_)
  refine J.buildS (cs := cD (.slice (some ⟨b69, 0, none⟩) 1 1) false false) Ty.pl37 zN rfl (by kernel_rfl) rfl ?_
  refine J.alloc zN rfl rfl (fun b16 => ?_)
  refine J.storeW Ty.s37 rfl rfl rfl rfl rfl (by simp [Value.oneCell']) (by repeat first | exact .here | apply Up.there) ?_
  refine J.nil ?_
  refine JX.thenN (hK6 _ _ ?_)
  refine JC.seq (fun K7 hK7 => ?_)
  refine JC.region ?_
  refine J.fieldAddr Ty.fd107_0 rfl rfl ?_
  refine J.loadOA (vs := cP p) Ty.a25 Ty.s25 rfl (by repeat first | exact .head _ | apply List.Mem.tail | apply List.mem_append_right) (by exact rfl) rfl rfl ?_
  refine J.fieldAddr Ty.fd107_1 rfl rfl ?_
  refine J.loadOA (vs := cI a) Ty.a23 Ty.s23 rfl (by repeat first | exact .head _ | apply List.Mem.tail | apply List.mem_append_right) (by exact rfl) rfl rfl ?_
  refine J.fieldAddr Ty.fd107_2 rfl rfl ?_
  refine J.loadOA (vs := cI b) Ty.a23 Ty.s23 rfl (by repeat first | exact .head _ | apply List.Mem.tail | apply List.mem_append_right) (by exact rfl) rfl rfl ?_
  refine J.move rfl rfl ?_
  refine J.buildS (cs := cE (⟨p, a, b, fr, -1⟩ : EV)) Ty.pl34 Ty.zE_ rfl (by kernel_rfl) rfl ?_
  refine J.alloc Ty.zE_ rfl rfl (fun b17 => ?_)
  refine J.storeW Ty.s34 rfl rfl rfl rfl rfl (by simp [Value.oneCell']) (by repeat first | exact .here | apply Up.there) ?_
  refine J.nil ?_
  refine JX.thenN (hK7 _ _ ?_)
  refine JC.seq (fun K8 hK8 => ?_)
  refine JC.region ?_
  refine J.move rfl rfl ?_
  refine J.fieldAddr Ty.fd107_3 rfl rfl ?_
  refine J.loadO Ty.a26 rfl (by repeat first | exact .head _ | apply List.Mem.tail | apply List.mem_append_right) (by exact rfl) rfl ?_
  refine J.lenS rfl Ty.u26 rfl rfl ?_
  (first | refine J.subN rfl rfl (by omega) (by omega) rfl ?_ | refine J.bin rfl rfl rfl rfl ?_)
  refine J.bin rfl rfl rfl rfl ?_
  refine J.name 84 rfl (show Value.bool _ = .bool false by simp; omega) ?_
  refine J.assign rfl rfl ?_
  refine J.nil ?_
  refine JX.thenN (hK8 _ _ ?_)
  refine JC.seq (fun K9 hK9 => ?_)
  refine JC.seq (fun K10 hK10 => ?_)
  refine JC.region ?_
  refine J.move rfl rfl ?_
  refine J.move rfl rfl ?_
  first | refine J.skip rfl rfl rfl rfl rfl ?_ | refine J.skipU rfl rfl rfl rfl ?_ | (refine J.unguard rfl rfl rfl ?_; refine J.fieldAddr Ty.fd107_2 rfl rfl ?_)
  first | refine J.skip rfl rfl rfl rfl rfl ?_ | refine J.skipU rfl rfl rfl rfl ?_ | (refine J.unguard rfl rfl rfl ?_; refine J.loadOA (vs := cI b) Ty.a23 Ty.s23 rfl (by repeat first | exact .head _ | apply List.Mem.tail | apply List.mem_append_right) (by exact rfl) rfl rfl ?_)
  first | refine J.skip rfl rfl rfl rfl rfl ?_ | refine J.skipU rfl rfl rfl rfl ?_ | (refine J.unguard rfl rfl rfl ?_; refine J.fieldAddr Ty.fd41_1 rfl rfl ?_)
  first | refine J.skip rfl rfl rfl rfl rfl ?_ | refine J.skipU rfl rfl rfl rfl ?_ | (refine J.unguard rfl rfl rfl ?_; refine J.loadOA (vs := cI id) Ty.a23 Ty.s23 rfl (by repeat first | exact .head _ | apply List.Mem.tail | apply List.mem_append_right) (by exact rfl) rfl rfl ?_)
  first | refine J.skip rfl rfl rfl rfl rfl ?_ | refine J.skipU rfl rfl rfl rfl ?_ | (refine J.unguard rfl rfl rfl ?_; refine J.neI Ty.QI Ty.keyI rfl rfl rfl ?_)
  (first | refine J.pickT rfl rfl rfl ?_ | refine J.pickF rfl rfl rfl ?_)
  refine J.nil ?_
  refine JX.thenN (hK10 _ _ ?_)
  first | refine JC.condF rfl ?_ | refine JC.cond rfl (fun h => by first | (exfalso; simp at h; omega) | (simp at h)) (fun _ => ?_)
  refine JC.skip ?_
  refine JX.thenN (hK9 _ _ ?_)
  refine JC.seq (fun K11 hK11 => ?_)
  refine JC.seq (fun K12 hK12 => ?_)
  refine JC.region ?_
  refine J.move rfl rfl ?_
  refine J.not rfl rfl ?_
  refine J.nil ?_
  refine JX.thenN (hK12 _ _ ?_)
  first | refine JC.condT rfl ?_ | refine JC.cond rfl (fun _ => ?_) (fun h => by first | (exfalso; simp at h; omega) | (simp at h))
  refine JC.seq (fun K13 hK13 => ?_)
  refine JC.region ?_
  refine J.fieldAddr Ty.fd107_3 rfl rfl ?_
  refine J.loadO Ty.a26 rfl (by repeat first | exact .head _ | apply List.Mem.tail | apply List.mem_append_right) (by exact rfl) rfl ?_
  refine J.move rfl rfl ?_
  (first | refine J.addN rfl rfl (by omega) (by omega) rfl ?_ | refine J.bin rfl rfl rfl rfl ?_)
  refine J.indexAddrS Ty.el26 Ty.s3 rfl rfl (by omega) (by omega) rfl ?_
  refine J.load1 (v := iV nx) Ty.a3 rfl (fun w1 hw => rowI_at (i := i + 1) (hrq (hw.perm (l' := (q, cb (way.map iV ++ sp) 3) :: ((b17, cb (cE (⟨p, a, b, fr, -1⟩ : EV)) 34) :: (b16, cb (cD (.slice (some ⟨b69, 0, none⟩) 1 1) false false) 37) :: (b69, cb (cH fr (cF 5 p zI zI nilV)) 54) :: (b13, cb (cS p a b (.slice (some ⟨q, 0, none⟩) way.length cq)) 107) :: (b10, cb (cD nilV false false) 37) :: (b8, cb (cFG f ⟨.slice at1 f.tr.length ct1, .slice ai1 f.ids.length ci1, .slice av1 f.val.length cv1, .slice ax1 f.txt.length cx1⟩) 52) :: (b6, cb (cW n id) 41) :: [(t, tabO most mb), (mb, .map es clock)])) (by (refine perm_cnt (fun _ => ?_)); simp only [cntB_append, cntB_cons, cntB_nil, Nat.add_zero, Nat.zero_add]; try ac_rfl))) hnx (by omega)) rfl ?_
  refine J.fieldAddr Ty.fd34_4 rfl rfl ?_
  refine J.storeO (cs := cE (⟨p, a, b, fr, -1⟩ : EV)) (vs := [iV nx]) Ty.s3 rfl rfl rfl rfl (by simp [Value.oneCell']) .here (by simp) ?_
  refine J.perm ((b17, cb (cE (⟨p, a, b, fr, nx⟩ : EV)) 34) :: (b16, cb (cD (.slice (some ⟨b69, 0, none⟩) 1 1) false false) 37) :: (b69, cb (cH fr (cF 5 p zI zI nilV)) 54) :: (b13, cb (cS p a b (.slice (some ⟨q, 0, none⟩) way.length cq)) 107) :: (b10, cb (cD nilV false false) 37) :: (b8, cb (cFG f ⟨.slice at1 f.tr.length ct1, .slice ai1 f.ids.length ci1, .slice av1 f.val.length cv1, .slice ax1 f.txt.length cx1⟩) 52) :: (b6, cb (cW n id) 41) :: (q, cb (way.map iV ++ sp) 3) :: [(t, tabO most mb), (mb, .map es clock)]) (.refl _) ?_
  refine J.nil ?_
  refine JX.thenN (hK13 _ _ ?_)
  refine JC.seq (fun K14 hK14 => ?_)
  refine JC.region ?_
  refine J.move rfl rfl ?_
  refine J.fieldAddr Ty.fd34_4 rfl rfl ?_
  refine J.loadO Ty.a3 rfl (by repeat first | exact .head _ | apply List.Mem.tail | apply List.mem_append_right) (by exact rfl) rfl ?_
  refine J.callB (v := .bool false) (fun w1 w2 hw hb => hw.step hb) Ty.bd53 rfl rfl (fun w1 hw => by
    have h := isOpen_spec ov os nx w1 (hro.st hoffo hw) hlo
    rw [hop] at h
    exact h) ?_
  refine J.not rfl rfl ?_
  refine J.nil ?_
  refine JX.thenN (hK14 _ _ ?_)
  first | refine JC.condT rfl ?_ | refine JC.cond rfl (fun _ => ?_) (fun h => by first | (exfalso; simp at h; omega) | (simp at h))
  refine JC.seq (fun K15 hK15 => ?_)
  refine JC.region ?_
  refine J.loadOA (vs := cD (.slice (some ⟨b69, 0, none⟩) 1 1) false false) Ty.a37 Ty.s37 rfl (by repeat first | exact .head _ | apply List.Mem.tail | apply List.mem_append_right) (by exact rfl) rfl rfl ?_
  refine J.storeW Ty.s37 rfl rfl rfl rfl rfl (by simp [Value.oneCell']) (by repeat first | exact .here | apply Up.there) ?_
  refine J.nil ?_
  refine JX.thenN (hK15 _ _ ?_)
  refine JC.ret ?_
  refine JX.thenR ?_
  refine JX.retC rfl rfl Ty.a37 Ty.s37 (vs := cD (.slice (some ⟨b69, 0, none⟩) 1 1) false false) rfl (fun w1 hw => Cells.of_block (hw.own _ (.tail _ (.tail _ (.tail _ (.tail _ (.head _)))))) rfl) (fun w1 hw => ?_)
  exact ⟨b69, rfl, (hw.perm (l' := ([(b17, cb (cE (⟨p, a, b, fr, nx⟩ : EV)) 34), (b16, cb (cD (.slice (some ⟨b69, 0, none⟩) 1 1) false false) 37), (b13, cb (cS p a b (.slice (some ⟨q, 0, none⟩) way.length cq)) 107), (b10, cb (cD (.slice (some ⟨b69, 0, none⟩) 1 1) false false) 37), (b8, cb (cFG f ⟨.slice at1 f.tr.length ct1, .slice ai1 f.ids.length ci1, .slice av1 f.val.length cv1, .slice ax1 f.txt.length cx1⟩) 52), (b6, cb (cW n id) 41), (q, cb (way.map iV ++ sp) 3)]) ++ ((b69, cb (cH fr (cF 5 p zI zI nilV)) 54) :: [(t, tabO most mb), (mb, .map es clock)])) (by (refine perm_cnt (fun _ => ?_)); simp only [cntB_append, cntB_cons, cntB_nil, Nat.add_zero, Nat.zero_add]; try ac_rfl)).drop (List.sublist_append_right _ _)⟩

theorem gtake_full (t mb : Nat) (most : Int) (L : List EV) (es : Array MapEntry) (clock : Nat) (w : World) (hw0 : Own w [(t, tabO most mb), (mb, .map es clock)]) (hT : Tab L es clock) (n fr : Int) (id a b : IDV) (p : PV) (hp : okN p.n) (hfr : okN fr) (f : FV) (s : FSl) (hs : FRows w f s) (hso : FOff [t, mb] f s) (hg : BigF f) (hk : f.k = 4) (hpe : f.p = p) (hae : f.a = a) (hbe : f.b = b) (way : List Int) (hwe : f.tr = way) (hlen : way.length < 1099511627776) (i : Nat) (hi : 1 ≤ i) (hi2 : i < way.length) (hat : placeP way n = (i : Int)) (hfrom : way[i - 1]? = some fr) (hnd : way.Nodup) (ov : Value) (os : List Bool) (hro : Row w ov os.length (os.map bV)) (hoffo : Off [t, mb] ov (os.map bV)) (hlo : os.length < 4611686018427387904) (hlast : i + 1 = way.length) (hid : b = id) {e : Int} {L' : List EV} (hadd : tadd L most (⟨p, a, b, fr, -1⟩ : EV) = (e, L')) (he : e ≠ 0) :
    Calls Try.prog 19 [.pointer (some ⟨t, 0, none⟩), .agg (cW n id).toArray, .int .i64 fr, .agg (cFG f s).toArray, ov].toArray w fun r w' => ∃ x : Nat × Array MapEntry × Nat, r = .returned (.agg (cD (.slice (some ⟨x.1, 0, none⟩) 1 1) false (e == 5)).toArray) ∧ Tab L' x.2.1 x.2.2 ∧ St w [t, mb] ((x.1, cb (cH fr (cF 5 p zI zI nilV)) 54) :: [(t, tabO most mb), (mb, .map x.2.1 x.2.2)]) w' := by
  obtain ⟨vt1, vi1, vv1, vx1⟩ := s
  obtain ⟨at1, ct1, hh, _, _⟩ := _root_.id hs.tr
  simp only at hh
  subst hh
  obtain ⟨ai1, ci1, hh, _, _⟩ := _root_.id hs.ids
  simp only at hh
  subst hh
  obtain ⟨av1, cv1, hh, _, _⟩ := _root_.id hs.val
  simp only at hh
  subst hh
  obtain ⟨ax1, cx1, hh, _, _⟩ := _root_.id hs.txt
  simp only at hh
  subst hh
  have hokE : okE (⟨p, a, b, fr, -1⟩ : EV) := ⟨hp, hfr, okN_small (n := -1) (by omega) (by omega)⟩
  refine calls_of_J (args := [.pointer (some ⟨t, 0, none⟩), .agg (cW n id).toArray, .int .i64 fr, .agg (cFG f ⟨.slice at1 f.tr.length ct1, .slice ai1 f.ids.length ci1, .slice av1 f.val.length cv1, .slice ax1 f.txt.length cx1⟩).toArray, ov]) (e := [(0, .pointer (some ⟨t, 0, none⟩)), (1, .agg (cW n id).toArray), (2, .int .i64 fr), (3, .agg (cFG f ⟨.slice at1 f.tr.length ct1, .slice ai1 f.ids.length ci1, .slice av1 f.val.length cv1, .slice ax1 f.txt.length cx1⟩).toArray), (4, ov)]) Try.func19 rfl rfl ⟨rfl, rfl, rfl, rfl, rfl, trivial⟩ (hw0.st) ?_
  refine JC.seq (fun K0 hK0 => ?_)
  refine JC.region ?_
  refine J.box rfl rfl rfl (fun b6 => ?_)
  refine J.box rfl rfl rfl (fun b8 => ?_)
  refine J.alloc zN rfl rfl (fun b10 => ?_)
  refine J.nil ?_
  refine JX.thenN (hK0 _ _ ?_)
  refine JC.seq (fun K1 hK1 => ?_)
  refine JC.region ?_
  refine J.loadOA (vs := cFG f ⟨.slice at1 f.tr.length ct1, .slice ai1 f.ids.length ci1, .slice av1 f.val.length cv1, .slice ax1 f.txt.length cx1⟩) Ty.a52 Ty.s52 rfl (by repeat first | exact .head _ | apply List.Mem.tail | apply List.mem_append_right) (by exact rfl) rfl rfl ?_
  refine J.perm ([] ++ ((b10, cb (cD nilV false false) 37) :: (b8, cb (cFG f ⟨.slice at1 f.tr.length ct1, .slice ai1 f.ids.length ci1, .slice av1 f.val.length cv1, .slice ax1 f.txt.length cx1⟩) 52) :: (b6, cb (cW n id) 41) :: [(t, tabO most mb), (mb, .map es clock)])) (.refl _) ?_
  refine J.callS (α := Value × List (Nat × Obj)) (V := fun x => .tuple #[.iface 107 (.agg (cS p a b x.1).toArray), .bool true]) (Pr := fun x => Vec 3 1 x.1 way.length (way.map iV) x.2) (L := fun x => x.2) (l1 := []) Ty.bd55 rfl rfl (fun w1 hw => ofG2 f ⟨.slice at1 f.tr.length ct1, .slice ai1 f.ids.length ci1, .slice av1 f.val.length cv1, .slice ax1 f.txt.length cx1⟩ w1 (hs.st hso hw) hg hk hpe hae hbe hwe) (fun x hv8 => ?_)
  obtain ⟨v8, lp8⟩ := x
  simp only at hv8 ⊢
  obtain ⟨q, cq, sp, rfl, rfl, hcq⟩ := Vec.pos hv8 (by omega)
  have hrq : ∀ {w1 : World} {l : List (Nat × Obj)}, St w [t, mb] ((q, cb (way.map iV ++ sp) 3) :: l) w1 → Row w1 (.slice (some ⟨q, 0, none⟩) way.length cq) way.length (way.map iV) := fun hw => hv8.row hw
  refine J.perm ((b10, cb (cD nilV false false) 37) :: (b8, cb (cFG f ⟨.slice at1 f.tr.length ct1, .slice ai1 f.ids.length ci1, .slice av1 f.val.length cv1, .slice ax1 f.txt.length cx1⟩) 52) :: (b6, cb (cW n id) 41) :: ((q, cb (way.map iV ++ sp) 3) :: [(t, tabO most mb), (mb, .map es clock)])) (by (refine perm_cnt (fun _ => ?_)); simp only [cntB_append, cntB_cons, cntB_nil, Nat.add_zero, Nat.zero_add]; try ac_rfl) ?_
  refine J.move rfl rfl ?_
  refine J.extract rfl rfl rfl ?_
  refine J.extract rfl rfl rfl ?_
  refine J.assign rfl rfl ?_
  refine J.assign rfl rfl ?_
  refine J.nil ?_
  refine JX.thenN (hK1 _ _ ?_)
  refine JC.seq (fun K2 hK2 => ?_)
  refine JC.region ?_
  refine J.move rfl rfl ?_
  (first | refine J.assertT (by kernel_rfl) rfl rfl ?_ | refine J.assertF (by kernel_rfl) rfl rfl zS rfl ?_ | refine J.assertN (by kernel_rfl) rfl zS rfl ?_)
  refine J.move rfl rfl ?_
  refine J.extract rfl rfl rfl ?_
  refine J.extract rfl rfl rfl ?_
  refine J.alloc zS rfl rfl (fun b13 => ?_)
  refine J.storeW Ty.s107 rfl rfl rfl rfl rfl (by simp [Value.oneCell']) (by repeat first | exact .here | apply Up.there) ?_
  refine J.assign rfl rfl ?_
  refine J.nil ?_
  refine JX.thenN (hK2 _ _ ?_)
  refine JC.seq (fun K3 hK3 => ?_)
  refine JC.region ?_
  refine J.fieldAddr Ty.fd107_3 rfl rfl ?_
  refine J.loadO Ty.a26 rfl (by repeat first | exact .head _ | apply List.Mem.tail | apply List.mem_append_right) (by exact rfl) rfl ?_
  refine J.fieldAddr Ty.fd41_0 rfl rfl ?_
  refine J.loadO Ty.a3 rfl (by repeat first | exact .head _ | apply List.Mem.tail | apply List.mem_append_right) (by exact rfl) rfl ?_
  refine J.callB (v := .int .i64 (i : Int)) (fun w1 w2 hw hb => hw.step hb) Ty.bd56 rfl rfl (fun w1 hw => by
    have h := place_spec (.slice (some ⟨q, 0, none⟩) way.length cq) way n w1 (hrq (hw.perm (l' := (q, cb (way.map iV ++ sp) 3) :: ((b13, cb (cS p a b (.slice (some ⟨q, 0, none⟩) way.length cq)) 107) :: (b10, cb (cD nilV false false) 37) :: (b8, cb (cFG f ⟨.slice at1 f.tr.length ct1, .slice ai1 f.ids.length ci1, .slice av1 f.val.length cv1, .slice ax1 f.txt.length cx1⟩) 52) :: (b6, cb (cW n id) 41) :: [(t, tabO most mb), (mb, .map es clock)])) (by (refine perm_cnt (fun _ => ?_)); simp only [cntB_append, cntB_cons, cntB_nil, Nat.add_zero, Nat.zero_add]; try ac_rfl))) (by omega)
    rw [hat] at h
    exact h) ?_
  refine J.assign rfl rfl ?_
  refine J.nil ?_
  refine JX.thenN (hK3 _ _ ?_)
  refine JC.seq (fun K4 hK4 => ?_)
  refine JC.seq (fun K5 hK5 => ?_)
  refine JC.region ?_
  refine J.move rfl rfl ?_
  refine J.eqNil Ty.u29 rfl rfl rfl ?_
  refine J.move rfl rfl ?_
  first | refine J.skip rfl rfl rfl rfl rfl ?_ | refine J.skipU rfl rfl rfl rfl ?_ | (refine J.unguard rfl rfl rfl ?_; refine J.move rfl rfl ?_)
  first | refine J.skip rfl rfl rfl rfl rfl ?_ | refine J.skipU rfl rfl rfl rfl ?_ | (refine J.unguard rfl rfl rfl ?_; refine J.not rfl rfl ?_)
  (first | refine J.pickT rfl rfl rfl ?_ | refine J.pickF rfl rfl rfl ?_)
  refine J.move rfl rfl ?_
  first | refine J.skip rfl rfl rfl rfl rfl ?_ | refine J.skipU rfl rfl rfl rfl ?_ | (refine J.unguard rfl rfl rfl ?_; refine J.move rfl rfl ?_)
  refine J.unguard rfl rfl rfl ?_
  refine J.bin rfl rfl rfl rfl ?_
  refine J.name 43 rfl (show Value.bool _ = .bool false by simp; omega) ?_
  (first | refine J.pickT rfl rfl rfl ?_ | refine J.pickF rfl rfl rfl ?_)
  refine J.move rfl rfl ?_
  first | refine J.skip rfl rfl rfl rfl rfl ?_ | refine J.skipU rfl rfl rfl rfl ?_ | (refine J.unguard rfl rfl rfl ?_; refine J.fieldAddr Ty.fd107_3 rfl rfl ?_)
  first | refine J.skip rfl rfl rfl rfl rfl ?_ | refine J.skipU rfl rfl rfl rfl ?_ | (refine J.unguard rfl rfl rfl ?_; refine J.loadO Ty.a26 rfl (by repeat first | exact .head _ | apply List.Mem.tail | apply List.mem_append_right) (by exact rfl) rfl ?_)
  first | refine J.skip rfl rfl rfl rfl rfl ?_ | refine J.skipU rfl rfl rfl rfl ?_ | (refine J.unguard rfl rfl rfl ?_; refine J.move rfl rfl ?_)
  first | refine J.skip rfl rfl rfl rfl rfl ?_ | refine J.skipU rfl rfl rfl rfl ?_ | (refine J.unguard rfl rfl rfl ?_; (first | refine J.subN rfl rfl (by omega) (by omega) rfl ?_ | refine J.bin rfl rfl rfl rfl ?_))
  refine J.unguard rfl rfl rfl ?_
  refine J.indexAddrS Ty.el26 Ty.s3 rfl rfl (by omega) (by omega) rfl ?_
  refine J.unguard rfl rfl rfl ?_
  refine J.load1 (v := iV fr) Ty.a3 rfl (fun w1 hw => rowI_at (i := i - 1) (hrq (hw.perm (l' := (q, cb (way.map iV ++ sp) 3) :: ((b13, cb (cS p a b (.slice (some ⟨q, 0, none⟩) way.length cq)) 107) :: (b10, cb (cD nilV false false) 37) :: (b8, cb (cFG f ⟨.slice at1 f.tr.length ct1, .slice ai1 f.ids.length ci1, .slice av1 f.val.length cv1, .slice ax1 f.txt.length cx1⟩) 52) :: (b6, cb (cW n id) 41) :: [(t, tabO most mb), (mb, .map es clock)])) (by (refine perm_cnt (fun _ => ?_)); simp only [cntB_append, cntB_cons, cntB_nil, Nat.add_zero, Nat.zero_add]; try ac_rfl))) hfrom (by omega)) rfl ?_
  first | refine J.skip rfl rfl rfl rfl rfl ?_ | refine J.skipU rfl rfl rfl rfl ?_ | (refine J.unguard rfl rfl rfl ?_; refine J.move rfl rfl ?_)
  refine J.unguard rfl rfl rfl ?_
  refine J.bin rfl rfl rfl rfl ?_
  refine J.name 53 rfl (show Value.bool _ = .bool false by simp) ?_
  (first | refine J.pickT rfl rfl rfl ?_ | refine J.pickF rfl rfl rfl ?_)
  refine J.move rfl rfl ?_
  first | refine J.skip rfl rfl rfl rfl rfl ?_ | refine J.skipU rfl rfl rfl rfl ?_ | (refine J.unguard rfl rfl rfl ?_; refine J.fieldAddr Ty.fd107_3 rfl rfl ?_)
  first | refine J.skip rfl rfl rfl rfl rfl ?_ | refine J.skipU rfl rfl rfl rfl ?_ | (refine J.unguard rfl rfl rfl ?_; refine J.loadO Ty.a26 rfl (by repeat first | exact .head _ | apply List.Mem.tail | apply List.mem_append_right) (by exact rfl) rfl ?_)
  refine J.unguard rfl rfl rfl ?_
  refine J.callB (v := .bool true) (fun w1 w2 hw hb => hw.step hb) Ty.bd52 rfl rfl (fun w1 hw => by
    have h := simple_spec (.slice (some ⟨q, 0, none⟩) way.length cq) way w1 (hrq (hw.perm (l' := (q, cb (way.map iV ++ sp) 3) :: ((b13, cb (cS p a b (.slice (some ⟨q, 0, none⟩) way.length cq)) 107) :: (b10, cb (cD nilV false false) 37) :: (b8, cb (cFG f ⟨.slice at1 f.tr.length ct1, .slice ai1 f.ids.length ci1, .slice av1 f.val.length cv1, .slice ax1 f.txt.length cx1⟩) 52) :: (b6, cb (cW n id) 41) :: [(t, tabO most mb), (mb, .map es clock)])) (by (refine perm_cnt (fun _ => ?_)); simp only [cntB_append, cntB_cons, cntB_nil, Nat.add_zero, Nat.zero_add]; try ac_rfl))) (by omega)
    rw [decide_eq_true hnd] at h
    exact h) ?_
  first | refine J.skip rfl rfl rfl rfl rfl ?_ | refine J.skipU rfl rfl rfl rfl ?_ | (refine J.unguard rfl rfl rfl ?_; refine J.not rfl rfl ?_)
  (first | refine J.pickT rfl rfl rfl ?_ | refine J.pickF rfl rfl rfl ?_)
  refine J.nil ?_
  refine JX.thenN (hK5 _ _ ?_)
  first | refine JC.condF rfl ?_ | refine JC.cond rfl (fun h => by first | (exfalso; simp at h; omega) | (simp at h)) (fun _ => ?_)
  refine JC.skip ?_
  refine JX.thenN (hK4 _ _ ?_)
  refine JC.seq (fun K6 hK6 => ?_)
  refine JC.region ?_
  refine J.move rfl rfl ?_
  refine J.fieldAddr Ty.fd107_0 rfl rfl ?_
  refine J.loadOA (vs := cP p) Ty.a25 Ty.s25 rfl (by repeat first | exact .head _ | apply List.Mem.tail | apply List.mem_append_right) (by exact rfl) rfl rfl ?_
  refine J.buildS (cs := cP p) Ty.pl114 zD rfl (by kernel_rfl) rfl ?_
  refine J.iface (by kernel_rfl) rfl rfl ?_
  refine J.callB (v := .agg (cF 5 p zI zI nilV).toArray) (fun w1 w2 hw hb => hw.step hb) Ty.bd54 rfl rfl (fun w1 hw => plainD_spec p w1) ?_
  refine J.buildS (cs := cH fr (cF 5 p zI zI nilV)) Ty.pl54 zH rfl (by kernel_rfl) rfl ?_
  refine J.buildSl (cs := cH fr (cF 5 p zI zI nilV)) Ty.el35 Ty.s54 zH rfl rfl rfl rfl (by kernel_rfl) rfl rfl (fun b69 => ?_)
  refine J.buildS (cs := cD (.slice (some ⟨b69, 0, none⟩) 1 1) false false) Ty.pl37 zN rfl (by kernel_rfl) rfl ?_
  refine J.alloc zN rfl rfl (fun b16 => ?_)
  refine J.storeW Ty.s37 rfl rfl rfl rfl rfl (by simp [Value.oneCell']) (by repeat first | exact .here | apply Up.there) ?_
  refine J.nil ?_
  refine JX.thenN (hK6 _ _ ?_)
  refine JC.seq (fun K7 hK7 => ?_)
  refine JC.region ?_
  refine J.fieldAddr Ty.fd107_0 rfl rfl ?_
  refine J.loadOA (vs := cP p) Ty.a25 Ty.s25 rfl (by repeat first | exact .head _ | apply List.Mem.tail | apply List.mem_append_right) (by exact rfl) rfl rfl ?_
  refine J.fieldAddr Ty.fd107_1 rfl rfl ?_
  refine J.loadOA (vs := cI a) Ty.a23 Ty.s23 rfl (by repeat first | exact .head _ | apply List.Mem.tail | apply List.mem_append_right) (by exact rfl) rfl rfl ?_
  refine J.fieldAddr Ty.fd107_2 rfl rfl ?_
  refine J.loadOA (vs := cI b) Ty.a23 Ty.s23 rfl (by repeat first | exact .head _ | apply List.Mem.tail | apply List.mem_append_right) (by exact rfl) rfl rfl ?_
  refine J.move rfl rfl ?_
  refine J.buildS (cs := cE (⟨p, a, b, fr, -1⟩ : EV)) Ty.pl34 Ty.zE_ rfl (by kernel_rfl) rfl ?_
  refine J.alloc Ty.zE_ rfl rfl (fun b17 => ?_)
  refine J.storeW Ty.s34 rfl rfl rfl rfl rfl (by simp [Value.oneCell']) (by repeat first | exact .here | apply Up.there) ?_
  refine J.nil ?_
  refine JX.thenN (hK7 _ _ ?_)
  refine JC.seq (fun K8 hK8 => ?_)
  refine JC.region ?_
  refine J.move rfl rfl ?_
  refine J.fieldAddr Ty.fd107_3 rfl rfl ?_
  refine J.loadO Ty.a26 rfl (by repeat first | exact .head _ | apply List.Mem.tail | apply List.mem_append_right) (by exact rfl) rfl ?_
  refine J.lenS rfl Ty.u26 rfl rfl ?_
  (first | refine J.subN rfl rfl (by omega) (by omega) rfl ?_ | refine J.bin rfl rfl rfl rfl ?_)
  refine J.bin rfl rfl rfl rfl ?_
  refine J.name 84 rfl (show Value.bool _ = .bool true by simp; omega) ?_
  refine J.assign rfl rfl ?_
  refine J.nil ?_
  refine JX.thenN (hK8 _ _ ?_)
  refine JC.seq (fun K9 hK9 => ?_)
  refine JC.seq (fun K10 hK10 => ?_)
  refine JC.region ?_
  refine J.move rfl rfl ?_
  refine J.move rfl rfl ?_
  first | refine J.skip rfl rfl rfl rfl rfl ?_ | refine J.skipU rfl rfl rfl rfl ?_ | (refine J.unguard rfl rfl rfl ?_; refine J.fieldAddr Ty.fd107_2 rfl rfl ?_)
  first | refine J.skip rfl rfl rfl rfl rfl ?_ | refine J.skipU rfl rfl rfl rfl ?_ | (refine J.unguard rfl rfl rfl ?_; refine J.loadOA (vs := cI b) Ty.a23 Ty.s23 rfl (by repeat first | exact .head _ | apply List.Mem.tail | apply List.mem_append_right) (by exact rfl) rfl rfl ?_)
  first | refine J.skip rfl rfl rfl rfl rfl ?_ | refine J.skipU rfl rfl rfl rfl ?_ | (refine J.unguard rfl rfl rfl ?_; refine J.fieldAddr Ty.fd41_1 rfl rfl ?_)
  first | refine J.skip rfl rfl rfl rfl rfl ?_ | refine J.skipU rfl rfl rfl rfl ?_ | (refine J.unguard rfl rfl rfl ?_; refine J.loadOA (vs := cI id) Ty.a23 Ty.s23 rfl (by repeat first | exact .head _ | apply List.Mem.tail | apply List.mem_append_right) (by exact rfl) rfl rfl ?_)
  refine J.unguard rfl rfl rfl ?_
  refine J.neI Ty.QI Ty.keyI rfl rfl rfl ?_
  refine J.name 91 rfl (show Value.bool _ = .bool false by simp [hid]) ?_
  (first | refine J.pickT rfl rfl rfl ?_ | refine J.pickF rfl rfl rfl ?_)
  refine J.nil ?_
  refine JX.thenN (hK10 _ _ ?_)
  first | refine JC.condF rfl ?_ | refine JC.cond rfl (fun h => by first | (exfalso; simp at h; omega) | (simp at h)) (fun _ => ?_)
  refine JC.skip ?_
  refine JX.thenN (hK9 _ _ ?_)
  refine JC.seq (fun K11 hK11 => ?_)
  refine JC.seq (fun K12 hK12 => ?_)
  refine JC.region ?_
  refine J.move rfl rfl ?_
  refine J.not rfl rfl ?_
  refine J.nil ?_
  refine JX.thenN (hK12 _ _ ?_)
  first | refine JC.condF rfl ?_ | refine JC.cond rfl (fun h => by first | (exfalso; simp at h; omega) | (simp at h)) (fun _ => ?_)
  refine JC.skip ?_
  refine JX.thenN (hK11 _ _ ?_)
  refine JC.seq (fun K13 hK13 => ?_)
  refine JC.seq (fun K14 hK14 => ?_)
  refine JC.region ?_
  refine J.move rfl rfl ?_
  refine J.loadOA (vs := cE (⟨p, a, b, fr, -1⟩ : EV)) Ty.a34 Ty.s34 rfl (by repeat first | exact .head _ | apply List.Mem.tail | apply List.mem_append_right) (by exact rfl) rfl rfl ?_
  refine J.perm ([(t, tabO most mb), (mb, .map es clock)] ++ ((b17, cb (cE (⟨p, a, b, fr, -1⟩ : EV)) 34) :: (b16, cb (cD (.slice (some ⟨b69, 0, none⟩) 1 1) false false) 37) :: (b69, cb (cH fr (cF 5 p zI zI nilV)) 54) :: (b13, cb (cS p a b (.slice (some ⟨q, 0, none⟩) way.length cq)) 107) :: (b10, cb (cD nilV false false) 37) :: (b8, cb (cFG f ⟨.slice at1 f.tr.length ct1, .slice ai1 f.ids.length ci1, .slice av1 f.val.length cv1, .slice ax1 f.txt.length cx1⟩) 52) :: (b6, cb (cW n id) 41) :: (q, cb (way.map iV ++ sp) 3) :: [])) (by (refine perm_cnt (fun _ => ?_)); simp only [cntB_append, cntB_cons, cntB_nil, Nat.add_zero, Nat.zero_add]; try ac_rfl) ?_
  refine J.callS (α := Array MapEntry × Nat) (V := fun _ => .int .i64 e) (Pr := fun y => Tab L' y.1 y.2) (L := fun y => [(t, tabO most mb), (mb, .map y.1 y.2)]) (l1 := [(t, tabO most mb), (mb, .map es clock)]) Ty.bd17 rfl rfl (fun w1 hw => add_all hw.owns hT (⟨p, a, b, fr, -1⟩ : EV) hokE hadd) (fun y hT' => ?_)
  obtain ⟨es', clock'⟩ := y
  simp only at hT' ⊢
  refine J.perm ((b17, cb (cE (⟨p, a, b, fr, -1⟩ : EV)) 34) :: (b16, cb (cD (.slice (some ⟨b69, 0, none⟩) 1 1) false false) 37) :: (b69, cb (cH fr (cF 5 p zI zI nilV)) 54) :: (b13, cb (cS p a b (.slice (some ⟨q, 0, none⟩) way.length cq)) 107) :: (b10, cb (cD nilV false false) 37) :: (b8, cb (cFG f ⟨.slice at1 f.tr.length ct1, .slice ai1 f.ids.length ci1, .slice av1 f.val.length cv1, .slice ax1 f.txt.length cx1⟩) 52) :: (b6, cb (cW n id) 41) :: (q, cb (way.map iV ++ sp) 3) :: [(t, tabO most mb), (mb, .map es' clock')]) (by (refine perm_cnt (fun _ => ?_)); simp only [cntB_append, cntB_cons, cntB_nil, Nat.add_zero, Nat.zero_add]; try ac_rfl) ?_
  refine J.assign rfl rfl ?_
  refine J.nil ?_
  refine JX.thenN (hK14 _ _ ?_)
  refine JC.seq (fun K15 hK15 => ?_)
  refine JC.region ?_
  refine J.move rfl rfl ?_
  refine J.bin rfl rfl rfl rfl ?_
  refine J.name 113 rfl (show Value.bool _ = .bool true by simp [he]) ?_
  refine J.nil ?_
  refine JX.thenN (hK15 _ _ ?_)
  first | refine JC.condT rfl ?_ | refine JC.cond rfl (fun _ => ?_) (fun h => by first | (exfalso; simp at h; omega) | (simp at h))
  refine JC.seq (fun K16 hK16 => ?_)
  refine JC.region ?_
  refine J.move rfl rfl ?_
  refine J.bin rfl rfl rfl rfl ?_
  refine J.fieldAddr Ty.fd37_2 rfl rfl ?_
  refine J.storeO (cs := cD (.slice (some ⟨b69, 0, none⟩) 1 1) false false) (vs := [.bool (e == 5)]) Ty.s4 rfl rfl rfl rfl (by simp [Value.oneCell']) (.there .here) (by simp) ?_
  refine J.perm ((b17, cb (cE (⟨p, a, b, fr, -1⟩ : EV)) 34) :: (b16, cb (cD (.slice (some ⟨b69, 0, none⟩) 1 1) false (e == 5)) 37) :: (b69, cb (cH fr (cF 5 p zI zI nilV)) 54) :: (b13, cb (cS p a b (.slice (some ⟨q, 0, none⟩) way.length cq)) 107) :: (b10, cb (cD nilV false false) 37) :: (b8, cb (cFG f ⟨.slice at1 f.tr.length ct1, .slice ai1 f.ids.length ci1, .slice av1 f.val.length cv1, .slice ax1 f.txt.length cx1⟩) 52) :: (b6, cb (cW n id) 41) :: (q, cb (way.map iV ++ sp) 3) :: [(t, tabO most mb), (mb, .map es' clock')]) (.refl _) ?_
  refine J.nil ?_
  refine JX.thenN (hK16 _ _ ?_)
  refine JC.seq (fun K17 hK17 => ?_)
  refine JC.region ?_
  refine J.loadOA (vs := cD (.slice (some ⟨b69, 0, none⟩) 1 1) false (e == 5)) Ty.a37 Ty.s37 rfl (by repeat first | exact .head _ | apply List.Mem.tail | apply List.mem_append_right) (by exact rfl) rfl rfl ?_
  refine J.storeW Ty.s37 rfl rfl rfl rfl rfl (by simp [Value.oneCell']) (by repeat first | exact .here | apply Up.there) ?_
  refine J.nil ?_
  refine JX.thenN (hK17 _ _ ?_)
  refine JC.ret ?_
  refine JX.thenR ?_
  refine JX.retC rfl rfl Ty.a37 Ty.s37 (vs := cD (.slice (some ⟨b69, 0, none⟩) 1 1) false (e == 5)) rfl (fun w1 hw => Cells.of_block (hw.own _ (.tail _ (.tail _ (.tail _ (.tail _ (.head _)))))) rfl) (fun w1 hw => ?_)
  exact ⟨(b69, es', clock'), rfl, hT', (hw.perm (l' := ([(b17, cb (cE (⟨p, a, b, fr, -1⟩ : EV)) 34), (b16, cb (cD (.slice (some ⟨b69, 0, none⟩) 1 1) false (e == 5)) 37), (b13, cb (cS p a b (.slice (some ⟨q, 0, none⟩) way.length cq)) 107), (b10, cb (cD (.slice (some ⟨b69, 0, none⟩) 1 1) false (e == 5)) 37), (b8, cb (cFG f ⟨.slice at1 f.tr.length ct1, .slice ai1 f.ids.length ci1, .slice av1 f.val.length cv1, .slice ax1 f.txt.length cx1⟩) 52), (b6, cb (cW n id) 41), (q, cb (way.map iV ++ sp) 3)]) ++ ((b69, cb (cH fr (cF 5 p zI zI nilV)) 54) :: [(t, tabO most mb), (mb, .map es' clock')])) (by (refine perm_cnt (fun _ => ?_)); simp only [cntB_append, cntB_cons, cntB_nil, Nat.add_zero, Nat.zero_add]; try ac_rfl)).drop (List.sublist_append_right _ _)⟩

theorem gtake_last (t mb : Nat) (most : Int) (L : List EV) (es : Array MapEntry) (clock : Nat) (w : World) (hw0 : Own w [(t, tabO most mb), (mb, .map es clock)]) (hT : Tab L es clock) (n fr : Int) (id a b : IDV) (p : PV) (hp : okN p.n) (hfr : okN fr) (f : FV) (s : FSl) (hs : FRows w f s) (hso : FOff [t, mb] f s) (hg : BigF f) (hk : f.k = 4) (hpe : f.p = p) (hae : f.a = a) (hbe : f.b = b) (way : List Int) (hwe : f.tr = way) (hlen : way.length < 1099511627776) (i : Nat) (hi : 1 ≤ i) (hi2 : i < way.length) (hat : placeP way n = (i : Int)) (hfrom : way[i - 1]? = some fr) (hnd : way.Nodup) (ov : Value) (os : List Bool) (hro : Row w ov os.length (os.map bV)) (hoffo : Off [t, mb] ov (os.map bV)) (hlo : os.length < 4611686018427387904) (hlast : i + 1 = way.length) (hid : b = id) {L' : List EV} (hadd : tadd L most (⟨p, a, b, fr, -1⟩ : EV) = (0, L')) :
    Calls Try.prog 19 [.pointer (some ⟨t, 0, none⟩), .agg (cW n id).toArray, .int .i64 fr, .agg (cFG f s).toArray, ov].toArray w fun r w' => ∃ y : Array MapEntry × Nat, r = .returned (.agg (cD nilV true false).toArray) ∧ Tab L' y.1 y.2 ∧ St w [t, mb] [(t, tabO most mb), (mb, .map y.1 y.2)] w' := by
  obtain ⟨vt1, vi1, vv1, vx1⟩ := s
  obtain ⟨at1, ct1, hh, _, _⟩ := _root_.id hs.tr
  simp only at hh
  subst hh
  obtain ⟨ai1, ci1, hh, _, _⟩ := _root_.id hs.ids
  simp only at hh
  subst hh
  obtain ⟨av1, cv1, hh, _, _⟩ := _root_.id hs.val
  simp only at hh
  subst hh
  obtain ⟨ax1, cx1, hh, _, _⟩ := _root_.id hs.txt
  simp only at hh
  subst hh
  have hokE : okE (⟨p, a, b, fr, -1⟩ : EV) := ⟨hp, hfr, okN_small (n := -1) (by omega) (by omega)⟩
  refine calls_of_J (args := [.pointer (some ⟨t, 0, none⟩), .agg (cW n id).toArray, .int .i64 fr, .agg (cFG f ⟨.slice at1 f.tr.length ct1, .slice ai1 f.ids.length ci1, .slice av1 f.val.length cv1, .slice ax1 f.txt.length cx1⟩).toArray, ov]) (e := [(0, .pointer (some ⟨t, 0, none⟩)), (1, .agg (cW n id).toArray), (2, .int .i64 fr), (3, .agg (cFG f ⟨.slice at1 f.tr.length ct1, .slice ai1 f.ids.length ci1, .slice av1 f.val.length cv1, .slice ax1 f.txt.length cx1⟩).toArray), (4, ov)]) Try.func19 rfl rfl ⟨rfl, rfl, rfl, rfl, rfl, trivial⟩ (hw0.st) ?_
  refine JC.seq (fun K0 hK0 => ?_)
  refine JC.region ?_
  refine J.box rfl rfl rfl (fun b6 => ?_)
  refine J.box rfl rfl rfl (fun b8 => ?_)
  refine J.alloc zN rfl rfl (fun b10 => ?_)
  refine J.nil ?_
  refine JX.thenN (hK0 _ _ ?_)
  refine JC.seq (fun K1 hK1 => ?_)
  refine JC.region ?_
  refine J.loadOA (vs := cFG f ⟨.slice at1 f.tr.length ct1, .slice ai1 f.ids.length ci1, .slice av1 f.val.length cv1, .slice ax1 f.txt.length cx1⟩) Ty.a52 Ty.s52 rfl (by repeat first | exact .head _ | apply List.Mem.tail | apply List.mem_append_right) (by exact rfl) rfl rfl ?_
  refine J.perm ([] ++ ((b10, cb (cD nilV false false) 37) :: (b8, cb (cFG f ⟨.slice at1 f.tr.length ct1, .slice ai1 f.ids.length ci1, .slice av1 f.val.length cv1, .slice ax1 f.txt.length cx1⟩) 52) :: (b6, cb (cW n id) 41) :: [(t, tabO most mb), (mb, .map es clock)])) (.refl _) ?_
  refine J.callS (α := Value × List (Nat × Obj)) (V := fun x => .tuple #[.iface 107 (.agg (cS p a b x.1).toArray), .bool true]) (Pr := fun x => Vec 3 1 x.1 way.length (way.map iV) x.2) (L := fun x => x.2) (l1 := []) Ty.bd55 rfl rfl (fun w1 hw => ofG2 f ⟨.slice at1 f.tr.length ct1, .slice ai1 f.ids.length ci1, .slice av1 f.val.length cv1, .slice ax1 f.txt.length cx1⟩ w1 (hs.st hso hw) hg hk hpe hae hbe hwe) (fun x hv8 => ?_)
  obtain ⟨v8, lp8⟩ := x
  simp only at hv8 ⊢
  obtain ⟨q, cq, sp, rfl, rfl, hcq⟩ := Vec.pos hv8 (by omega)
  have hrq : ∀ {w1 : World} {l : List (Nat × Obj)}, St w [t, mb] ((q, cb (way.map iV ++ sp) 3) :: l) w1 → Row w1 (.slice (some ⟨q, 0, none⟩) way.length cq) way.length (way.map iV) := fun hw => hv8.row hw
  refine J.perm ((b10, cb (cD nilV false false) 37) :: (b8, cb (cFG f ⟨.slice at1 f.tr.length ct1, .slice ai1 f.ids.length ci1, .slice av1 f.val.length cv1, .slice ax1 f.txt.length cx1⟩) 52) :: (b6, cb (cW n id) 41) :: ((q, cb (way.map iV ++ sp) 3) :: [(t, tabO most mb), (mb, .map es clock)])) (by (refine perm_cnt (fun _ => ?_)); simp only [cntB_append, cntB_cons, cntB_nil, Nat.add_zero, Nat.zero_add]; try ac_rfl) ?_
  refine J.move rfl rfl ?_
  refine J.extract rfl rfl rfl ?_
  refine J.extract rfl rfl rfl ?_
  refine J.assign rfl rfl ?_
  refine J.assign rfl rfl ?_
  refine J.nil ?_
  refine JX.thenN (hK1 _ _ ?_)
  refine JC.seq (fun K2 hK2 => ?_)
  refine JC.region ?_
  refine J.move rfl rfl ?_
  (first | refine J.assertT (by kernel_rfl) rfl rfl ?_ | refine J.assertF (by kernel_rfl) rfl rfl zS rfl ?_ | refine J.assertN (by kernel_rfl) rfl zS rfl ?_)
  refine J.move rfl rfl ?_
  refine J.extract rfl rfl rfl ?_
  refine J.extract rfl rfl rfl ?_
  refine J.alloc zS rfl rfl (fun b13 => ?_)
  refine J.storeW Ty.s107 rfl rfl rfl rfl rfl (by simp [Value.oneCell']) (by repeat first | exact .here | apply Up.there) ?_
  refine J.assign rfl rfl ?_
  refine J.nil ?_
  refine JX.thenN (hK2 _ _ ?_)
  refine JC.seq (fun K3 hK3 => ?_)
  refine JC.region ?_
  refine J.fieldAddr Ty.fd107_3 rfl rfl ?_
  refine J.loadO Ty.a26 rfl (by repeat first | exact .head _ | apply List.Mem.tail | apply List.mem_append_right) (by exact rfl) rfl ?_
  refine J.fieldAddr Ty.fd41_0 rfl rfl ?_
  refine J.loadO Ty.a3 rfl (by repeat first | exact .head _ | apply List.Mem.tail | apply List.mem_append_right) (by exact rfl) rfl ?_
  refine J.callB (v := .int .i64 (i : Int)) (fun w1 w2 hw hb => hw.step hb) Ty.bd56 rfl rfl (fun w1 hw => by
    have h := place_spec (.slice (some ⟨q, 0, none⟩) way.length cq) way n w1 (hrq (hw.perm (l' := (q, cb (way.map iV ++ sp) 3) :: ((b13, cb (cS p a b (.slice (some ⟨q, 0, none⟩) way.length cq)) 107) :: (b10, cb (cD nilV false false) 37) :: (b8, cb (cFG f ⟨.slice at1 f.tr.length ct1, .slice ai1 f.ids.length ci1, .slice av1 f.val.length cv1, .slice ax1 f.txt.length cx1⟩) 52) :: (b6, cb (cW n id) 41) :: [(t, tabO most mb), (mb, .map es clock)])) (by (refine perm_cnt (fun _ => ?_)); simp only [cntB_append, cntB_cons, cntB_nil, Nat.add_zero, Nat.zero_add]; try ac_rfl))) (by omega)
    rw [hat] at h
    exact h) ?_
  refine J.assign rfl rfl ?_
  refine J.nil ?_
  refine JX.thenN (hK3 _ _ ?_)
  refine JC.seq (fun K4 hK4 => ?_)
  refine JC.seq (fun K5 hK5 => ?_)
  refine JC.region ?_
  refine J.move rfl rfl ?_
  refine J.eqNil Ty.u29 rfl rfl rfl ?_
  refine J.move rfl rfl ?_
  first | refine J.skip rfl rfl rfl rfl rfl ?_ | refine J.skipU rfl rfl rfl rfl ?_ | (refine J.unguard rfl rfl rfl ?_; refine J.move rfl rfl ?_)
  first | refine J.skip rfl rfl rfl rfl rfl ?_ | refine J.skipU rfl rfl rfl rfl ?_ | (refine J.unguard rfl rfl rfl ?_; refine J.not rfl rfl ?_)
  (first | refine J.pickT rfl rfl rfl ?_ | refine J.pickF rfl rfl rfl ?_)
  refine J.move rfl rfl ?_
  first | refine J.skip rfl rfl rfl rfl rfl ?_ | refine J.skipU rfl rfl rfl rfl ?_ | (refine J.unguard rfl rfl rfl ?_; refine J.move rfl rfl ?_)
  refine J.unguard rfl rfl rfl ?_
  refine J.bin rfl rfl rfl rfl ?_
  refine J.name 43 rfl (show Value.bool _ = .bool false by simp; omega) ?_
  (first | refine J.pickT rfl rfl rfl ?_ | refine J.pickF rfl rfl rfl ?_)
  refine J.move rfl rfl ?_
  first | refine J.skip rfl rfl rfl rfl rfl ?_ | refine J.skipU rfl rfl rfl rfl ?_ | (refine J.unguard rfl rfl rfl ?_; refine J.fieldAddr Ty.fd107_3 rfl rfl ?_)
  first | refine J.skip rfl rfl rfl rfl rfl ?_ | refine J.skipU rfl rfl rfl rfl ?_ | (refine J.unguard rfl rfl rfl ?_; refine J.loadO Ty.a26 rfl (by repeat first | exact .head _ | apply List.Mem.tail | apply List.mem_append_right) (by exact rfl) rfl ?_)
  first | refine J.skip rfl rfl rfl rfl rfl ?_ | refine J.skipU rfl rfl rfl rfl ?_ | (refine J.unguard rfl rfl rfl ?_; refine J.move rfl rfl ?_)
  first | refine J.skip rfl rfl rfl rfl rfl ?_ | refine J.skipU rfl rfl rfl rfl ?_ | (refine J.unguard rfl rfl rfl ?_; (first | refine J.subN rfl rfl (by omega) (by omega) rfl ?_ | refine J.bin rfl rfl rfl rfl ?_))
  refine J.unguard rfl rfl rfl ?_
  refine J.indexAddrS Ty.el26 Ty.s3 rfl rfl (by omega) (by omega) rfl ?_
  refine J.unguard rfl rfl rfl ?_
  refine J.load1 (v := iV fr) Ty.a3 rfl (fun w1 hw => rowI_at (i := i - 1) (hrq (hw.perm (l' := (q, cb (way.map iV ++ sp) 3) :: ((b13, cb (cS p a b (.slice (some ⟨q, 0, none⟩) way.length cq)) 107) :: (b10, cb (cD nilV false false) 37) :: (b8, cb (cFG f ⟨.slice at1 f.tr.length ct1, .slice ai1 f.ids.length ci1, .slice av1 f.val.length cv1, .slice ax1 f.txt.length cx1⟩) 52) :: (b6, cb (cW n id) 41) :: [(t, tabO most mb), (mb, .map es clock)])) (by (refine perm_cnt (fun _ => ?_)); simp only [cntB_append, cntB_cons, cntB_nil, Nat.add_zero, Nat.zero_add]; try ac_rfl))) hfrom (by omega)) rfl ?_
  first | refine J.skip rfl rfl rfl rfl rfl ?_ | refine J.skipU rfl rfl rfl rfl ?_ | (refine J.unguard rfl rfl rfl ?_; refine J.move rfl rfl ?_)
  refine J.unguard rfl rfl rfl ?_
  refine J.bin rfl rfl rfl rfl ?_
  refine J.name 53 rfl (show Value.bool _ = .bool false by simp) ?_
  (first | refine J.pickT rfl rfl rfl ?_ | refine J.pickF rfl rfl rfl ?_)
  refine J.move rfl rfl ?_
  first | refine J.skip rfl rfl rfl rfl rfl ?_ | refine J.skipU rfl rfl rfl rfl ?_ | (refine J.unguard rfl rfl rfl ?_; refine J.fieldAddr Ty.fd107_3 rfl rfl ?_)
  first | refine J.skip rfl rfl rfl rfl rfl ?_ | refine J.skipU rfl rfl rfl rfl ?_ | (refine J.unguard rfl rfl rfl ?_; refine J.loadO Ty.a26 rfl (by repeat first | exact .head _ | apply List.Mem.tail | apply List.mem_append_right) (by exact rfl) rfl ?_)
  refine J.unguard rfl rfl rfl ?_
  refine J.callB (v := .bool true) (fun w1 w2 hw hb => hw.step hb) Ty.bd52 rfl rfl (fun w1 hw => by
    have h := simple_spec (.slice (some ⟨q, 0, none⟩) way.length cq) way w1 (hrq (hw.perm (l' := (q, cb (way.map iV ++ sp) 3) :: ((b13, cb (cS p a b (.slice (some ⟨q, 0, none⟩) way.length cq)) 107) :: (b10, cb (cD nilV false false) 37) :: (b8, cb (cFG f ⟨.slice at1 f.tr.length ct1, .slice ai1 f.ids.length ci1, .slice av1 f.val.length cv1, .slice ax1 f.txt.length cx1⟩) 52) :: (b6, cb (cW n id) 41) :: [(t, tabO most mb), (mb, .map es clock)])) (by (refine perm_cnt (fun _ => ?_)); simp only [cntB_append, cntB_cons, cntB_nil, Nat.add_zero, Nat.zero_add]; try ac_rfl))) (by omega)
    rw [decide_eq_true hnd] at h
    exact h) ?_
  first | refine J.skip rfl rfl rfl rfl rfl ?_ | refine J.skipU rfl rfl rfl rfl ?_ | (refine J.unguard rfl rfl rfl ?_; refine J.not rfl rfl ?_)
  (first | refine J.pickT rfl rfl rfl ?_ | refine J.pickF rfl rfl rfl ?_)
  refine J.nil ?_
  refine JX.thenN (hK5 _ _ ?_)
  first | refine JC.condF rfl ?_ | refine JC.cond rfl (fun h => by first | (exfalso; simp at h; omega) | (simp at h)) (fun _ => ?_)
  refine JC.skip ?_
  refine JX.thenN (hK4 _ _ ?_)
  refine JC.seq (fun K6 hK6 => ?_)
  refine JC.region ?_
  refine J.move rfl rfl ?_
  refine J.fieldAddr Ty.fd107_0 rfl rfl ?_
  refine J.loadOA (vs := cP p) Ty.a25 Ty.s25 rfl (by repeat first | exact .head _ | apply List.Mem.tail | apply List.mem_append_right) (by exact rfl) rfl rfl ?_
  refine J.buildS (cs := cP p) Ty.pl114 zD rfl (by kernel_rfl) rfl ?_
  refine J.iface (by kernel_rfl) rfl rfl ?_
  refine J.callB (v := .agg (cF 5 p zI zI nilV).toArray) (fun w1 w2 hw hb => hw.step hb) Ty.bd54 rfl rfl (fun w1 hw => plainD_spec p w1) ?_
  refine J.buildS (cs := cH fr (cF 5 p zI zI nilV)) Ty.pl54 zH rfl (by kernel_rfl) rfl ?_
  refine J.buildSl (cs := cH fr (cF 5 p zI zI nilV)) Ty.el35 Ty.s54 zH rfl rfl rfl rfl (by kernel_rfl) rfl rfl (fun b69 => ?_)
  refine J.buildS (cs := cD (.slice (some ⟨b69, 0, none⟩) 1 1) false false) Ty.pl37 zN rfl (by kernel_rfl) rfl ?_
  refine J.alloc zN rfl rfl (fun b16 => ?_)
  refine J.storeW Ty.s37 rfl rfl rfl rfl rfl (by simp [Value.oneCell']) (by repeat first | exact .here | apply Up.there) ?_
  refine J.nil ?_
  refine JX.thenN (hK6 _ _ ?_)
  refine JC.seq (fun K7 hK7 => ?_)
  refine JC.region ?_
  refine J.fieldAddr Ty.fd107_0 rfl rfl ?_
  refine J.loadOA (vs := cP p) Ty.a25 Ty.s25 rfl (by repeat first | exact .head _ | apply List.Mem.tail | apply List.mem_append_right) (by exact rfl) rfl rfl ?_
  refine J.fieldAddr Ty.fd107_1 rfl rfl ?_
  refine J.loadOA (vs := cI a) Ty.a23 Ty.s23 rfl (by repeat first | exact .head _ | apply List.Mem.tail | apply List.mem_append_right) (by exact rfl) rfl rfl ?_
  refine J.fieldAddr Ty.fd107_2 rfl rfl ?_
  refine J.loadOA (vs := cI b) Ty.a23 Ty.s23 rfl (by repeat first | exact .head _ | apply List.Mem.tail | apply List.mem_append_right) (by exact rfl) rfl rfl ?_
  refine J.move rfl rfl ?_
  refine J.buildS (cs := cE (⟨p, a, b, fr, -1⟩ : EV)) Ty.pl34 Ty.zE_ rfl (by kernel_rfl) rfl ?_
  refine J.alloc Ty.zE_ rfl rfl (fun b17 => ?_)
  refine J.storeW Ty.s34 rfl rfl rfl rfl rfl (by simp [Value.oneCell']) (by repeat first | exact .here | apply Up.there) ?_
  refine J.nil ?_
  refine JX.thenN (hK7 _ _ ?_)
  refine JC.seq (fun K8 hK8 => ?_)
  refine JC.region ?_
  refine J.move rfl rfl ?_
  refine J.fieldAddr Ty.fd107_3 rfl rfl ?_
  refine J.loadO Ty.a26 rfl (by repeat first | exact .head _ | apply List.Mem.tail | apply List.mem_append_right) (by exact rfl) rfl ?_
  refine J.lenS rfl Ty.u26 rfl rfl ?_
  (first | refine J.subN rfl rfl (by omega) (by omega) rfl ?_ | refine J.bin rfl rfl rfl rfl ?_)
  refine J.bin rfl rfl rfl rfl ?_
  refine J.name 84 rfl (show Value.bool _ = .bool true by simp; omega) ?_
  refine J.assign rfl rfl ?_
  refine J.nil ?_
  refine JX.thenN (hK8 _ _ ?_)
  refine JC.seq (fun K9 hK9 => ?_)
  refine JC.seq (fun K10 hK10 => ?_)
  refine JC.region ?_
  refine J.move rfl rfl ?_
  refine J.move rfl rfl ?_
  first | refine J.skip rfl rfl rfl rfl rfl ?_ | refine J.skipU rfl rfl rfl rfl ?_ | (refine J.unguard rfl rfl rfl ?_; refine J.fieldAddr Ty.fd107_2 rfl rfl ?_)
  first | refine J.skip rfl rfl rfl rfl rfl ?_ | refine J.skipU rfl rfl rfl rfl ?_ | (refine J.unguard rfl rfl rfl ?_; refine J.loadOA (vs := cI b) Ty.a23 Ty.s23 rfl (by repeat first | exact .head _ | apply List.Mem.tail | apply List.mem_append_right) (by exact rfl) rfl rfl ?_)
  first | refine J.skip rfl rfl rfl rfl rfl ?_ | refine J.skipU rfl rfl rfl rfl ?_ | (refine J.unguard rfl rfl rfl ?_; refine J.fieldAddr Ty.fd41_1 rfl rfl ?_)
  first | refine J.skip rfl rfl rfl rfl rfl ?_ | refine J.skipU rfl rfl rfl rfl ?_ | (refine J.unguard rfl rfl rfl ?_; refine J.loadOA (vs := cI id) Ty.a23 Ty.s23 rfl (by repeat first | exact .head _ | apply List.Mem.tail | apply List.mem_append_right) (by exact rfl) rfl rfl ?_)
  refine J.unguard rfl rfl rfl ?_
  refine J.neI Ty.QI Ty.keyI rfl rfl rfl ?_
  refine J.name 91 rfl (show Value.bool _ = .bool false by simp [hid]) ?_
  (first | refine J.pickT rfl rfl rfl ?_ | refine J.pickF rfl rfl rfl ?_)
  refine J.nil ?_
  refine JX.thenN (hK10 _ _ ?_)
  first | refine JC.condF rfl ?_ | refine JC.cond rfl (fun h => by first | (exfalso; simp at h; omega) | (simp at h)) (fun _ => ?_)
  refine JC.skip ?_
  refine JX.thenN (hK9 _ _ ?_)
  refine JC.seq (fun K11 hK11 => ?_)
  refine JC.seq (fun K12 hK12 => ?_)
  refine JC.region ?_
  refine J.move rfl rfl ?_
  refine J.not rfl rfl ?_
  refine J.nil ?_
  refine JX.thenN (hK12 _ _ ?_)
  first | refine JC.condF rfl ?_ | refine JC.cond rfl (fun h => by first | (exfalso; simp at h; omega) | (simp at h)) (fun _ => ?_)
  refine JC.skip ?_
  refine JX.thenN (hK11 _ _ ?_)
  refine JC.seq (fun K13 hK13 => ?_)
  refine JC.seq (fun K14 hK14 => ?_)
  refine JC.region ?_
  refine J.move rfl rfl ?_
  refine J.loadOA (vs := cE (⟨p, a, b, fr, -1⟩ : EV)) Ty.a34 Ty.s34 rfl (by repeat first | exact .head _ | apply List.Mem.tail | apply List.mem_append_right) (by exact rfl) rfl rfl ?_
  refine J.perm ([(t, tabO most mb), (mb, .map es clock)] ++ ((b17, cb (cE (⟨p, a, b, fr, -1⟩ : EV)) 34) :: (b16, cb (cD (.slice (some ⟨b69, 0, none⟩) 1 1) false false) 37) :: (b69, cb (cH fr (cF 5 p zI zI nilV)) 54) :: (b13, cb (cS p a b (.slice (some ⟨q, 0, none⟩) way.length cq)) 107) :: (b10, cb (cD nilV false false) 37) :: (b8, cb (cFG f ⟨.slice at1 f.tr.length ct1, .slice ai1 f.ids.length ci1, .slice av1 f.val.length cv1, .slice ax1 f.txt.length cx1⟩) 52) :: (b6, cb (cW n id) 41) :: (q, cb (way.map iV ++ sp) 3) :: [])) (by (refine perm_cnt (fun _ => ?_)); simp only [cntB_append, cntB_cons, cntB_nil, Nat.add_zero, Nat.zero_add]; try ac_rfl) ?_
  refine J.callS (α := Array MapEntry × Nat) (V := fun _ => .int .i64 0) (Pr := fun y => Tab L' y.1 y.2) (L := fun y => [(t, tabO most mb), (mb, .map y.1 y.2)]) (l1 := [(t, tabO most mb), (mb, .map es clock)]) Ty.bd17 rfl rfl (fun w1 hw => add_all hw.owns hT (⟨p, a, b, fr, -1⟩ : EV) hokE hadd) (fun y hT' => ?_)
  obtain ⟨es', clock'⟩ := y
  simp only at hT' ⊢
  refine J.perm ((b17, cb (cE (⟨p, a, b, fr, -1⟩ : EV)) 34) :: (b16, cb (cD (.slice (some ⟨b69, 0, none⟩) 1 1) false false) 37) :: (b69, cb (cH fr (cF 5 p zI zI nilV)) 54) :: (b13, cb (cS p a b (.slice (some ⟨q, 0, none⟩) way.length cq)) 107) :: (b10, cb (cD nilV false false) 37) :: (b8, cb (cFG f ⟨.slice at1 f.tr.length ct1, .slice ai1 f.ids.length ci1, .slice av1 f.val.length cv1, .slice ax1 f.txt.length cx1⟩) 52) :: (b6, cb (cW n id) 41) :: (q, cb (way.map iV ++ sp) 3) :: [(t, tabO most mb), (mb, .map es' clock')]) (by (refine perm_cnt (fun _ => ?_)); simp only [cntB_append, cntB_cons, cntB_nil, Nat.add_zero, Nat.zero_add]; try ac_rfl) ?_
  refine J.assign rfl rfl ?_
  refine J.nil ?_
  refine JX.thenN (hK14 _ _ ?_)
  refine JC.seq (fun K15 hK15 => ?_)
  refine JC.region ?_
  refine J.move rfl rfl ?_
  refine J.bin rfl rfl rfl rfl ?_
  refine J.nil ?_
  refine JX.thenN (hK15 _ _ ?_)
  first | refine JC.condF rfl ?_ | refine JC.cond rfl (fun h => by first | (exfalso; simp at h; omega) | (simp at h)) (fun _ => ?_)
  refine JC.skip ?_
  refine JX.thenN (hK13 _ _ ?_)
  refine JC.seq (fun K16 hK16 => ?_)
  refine JC.seq (fun K17 hK17 => ?_)
  refine JC.region ?_
  refine J.move rfl rfl ?_
  refine J.nil ?_
  refine JX.thenN (hK17 _ _ ?_)
  first | refine JC.condT rfl ?_ | refine JC.cond rfl (fun _ => ?_) (fun h => by first | (exfalso; simp at h; omega) | (simp at h))
  refine JC.seq (fun K18 hK18 => ?_)
  refine JC.region ?_
  refine J.buildS (cs := cD nilV true false) Ty.pl37 zN rfl (by kernel_rfl) rfl ?_
  refine J.storeW Ty.s37 rfl rfl rfl rfl rfl (by simp [Value.oneCell']) (by repeat first | exact .here | apply Up.there) ?_
  refine J.nil ?_
  refine JX.thenN (hK18 _ _ ?_)
  refine JC.ret ?_
  refine JX.thenR ?_
  refine JX.retC rfl rfl Ty.a37 Ty.s37 (vs := cD nilV true false) rfl (fun w1 hw => Cells.of_block (hw.own _ (.tail _ (.tail _ (.tail _ (.tail _ (.head _)))))) rfl) (fun w1 hw => ?_)
  exact ⟨(es', clock'), rfl, hT', (hw.perm (l' := ([(b17, cb (cE (⟨p, a, b, fr, -1⟩ : EV)) 34), (b16, cb (cD (.slice (some ⟨b69, 0, none⟩) 1 1) false false) 37), (b13, cb (cS p a b (.slice (some ⟨q, 0, none⟩) way.length cq)) 107), (b10, cb (cD nilV true false) 37), (b8, cb (cFG f ⟨.slice at1 f.tr.length ct1, .slice ai1 f.ids.length ci1, .slice av1 f.val.length cv1, .slice ax1 f.txt.length cx1⟩) 52), (b6, cb (cW n id) 41), (q, cb (way.map iV ++ sp) 3), (b69, cb (cH fr (cF 5 p zI zI nilV)) 54)]) ++ ([(t, tabO most mb), (mb, .map es' clock')])) (by (refine perm_cnt (fun _ => ?_)); simp only [cntB_append, cntB_cons, cntB_nil, Nat.add_zero, Nat.zero_add]; try ac_rfl)).drop (List.sublist_append_right _ _)⟩

end Go.Proofs.Ytpldpkdlloolkaa
/-
  A Setup comes: what setup.Take does where it hands it on: contracts.
-/
namespace Go.Proofs.Ytpldpkdlloolkaa
open Go.J Go.RowKit
set_option linter.unusedVariables false
set_option linter.unusedSimpArgs false
set_option maxRecDepth 8000

theorem gtake_onfull (t mb : Nat) (most : Int) (L : List EV) (es : Array MapEntry) (clock : Nat) (w : World) (hw0 : Own w [(t, tabO most mb), (mb, .map es clock)]) (hT : Tab L es clock) (n fr : Int) (id a b : IDV) (p : PV) (hp : okN p.n) (hfr : okN fr) (f : FV) (s : FSl) (hs : FRows w f s) (hso : FOff [t, mb] f s) (hg : BigF f) (hk : f.k = 4) (hpe : f.p = p) (hae : f.a = a) (hbe : f.b = b) (way : List Int) (hwe : f.tr = way) (hlen : way.length < 1099511627776) (i : Nat) (hi : 1 ≤ i) (hi2 : i < way.length) (hat : placeP way n = (i : Int)) (hfrom : way[i - 1]? = some fr) (hnd : way.Nodup) (ov : Value) (os : List Bool) (hro : Row w ov os.length (os.map bV)) (hoffo : Off [t, mb] ov (os.map bV)) (hlo : os.length < 4611686018427387904) (nx : Int) (hnx : way[i + 1]? = some nx) (hop : openQ os nx = true) {e : Int} {L' : List EV} (hadd : tadd L most (⟨p, a, b, fr, nx⟩ : EV) = (e, L')) (he : e ≠ 0) :
    Calls Try.prog 19 [.pointer (some ⟨t, 0, none⟩), .agg (cW n id).toArray, .int .i64 fr, .agg (cFG f s).toArray, ov].toArray w fun r w' => ∃ x : Nat × Array MapEntry × Nat, r = .returned (.agg (cD (.slice (some ⟨x.1, 0, none⟩) 1 1) false (e == 5)).toArray) ∧ Tab L' x.2.1 x.2.2 ∧ St w [t, mb] ((x.1, cb (cH fr (cF 5 p zI zI nilV)) 54) :: [(t, tabO most mb), (mb, .map x.2.1 x.2.2)]) w' := by
  obtain ⟨vt1, vi1, vv1, vx1⟩ := s
  obtain ⟨at1, ct1, hh, _, _⟩ := _root_.id hs.tr
  simp only at hh
  subst hh
  obtain ⟨ai1, ci1, hh, _, _⟩ := _root_.id hs.ids
  simp only at hh
  subst hh
  obtain ⟨av1, cv1, hh, _, _⟩ := _root_.id hs.val
  simp only at hh
  subst hh
  obtain ⟨ax1, cx1, hh, _, _⟩ := _root_.id hs.txt
  simp only at hh
  subst hh
  have hlt : i + 1 < way.length := (List.getElem?_eq_some_iff.1 hnx).1
  have hokE : okE (⟨p, a, b, fr, nx⟩ : EV) := ⟨hp, hfr, by
    obtain ⟨h1, h2⟩ := open_bounds hop
    exact okN_small (n := nx) (by omega) (by omega)⟩
  refine calls_of_J (args := [.pointer (some ⟨t, 0, none⟩), .agg (cW n id).toArray, .int .i64 fr, .agg (cFG f ⟨.slice at1 f.tr.length ct1, .slice ai1 f.ids.length ci1, .slice av1 f.val.length cv1, .slice ax1 f.txt.length cx1⟩).toArray, ov]) (e := [(0, .pointer (some ⟨t, 0, none⟩)), (1, .agg (cW n id).toArray), (2, .int .i64 fr), (3, .agg (cFG f ⟨.slice at1 f.tr.length ct1, .slice ai1 f.ids.length ci1, .slice av1 f.val.length cv1, .slice ax1 f.txt.length cx1⟩).toArray), (4, ov)]) Try.func19 rfl rfl ⟨rfl, rfl, rfl, rfl, rfl, trivial⟩ (hw0.st) ?_
  refine JC.seq (fun K0 hK0 => ?_)
  refine JC.region ?_
  refine J.box rfl rfl rfl (fun b6 => ?_)
  refine J.box rfl rfl rfl (fun b8 => ?_)
  refine J.alloc zN rfl rfl (fun b10 => ?_)
  refine J.nil ?_
  refine JX.thenN (hK0 _ _ ?_)
  refine JC.seq (fun K1 hK1 => ?_)
  refine JC.region ?_
  refine J.loadOA (vs := cFG f ⟨.slice at1 f.tr.length ct1, .slice ai1 f.ids.length ci1, .slice av1 f.val.length cv1, .slice ax1 f.txt.length cx1⟩) Ty.a52 Ty.s52 rfl (by repeat first | exact .head _ | apply List.Mem.tail | apply List.mem_append_right) (by exact rfl) rfl rfl ?_
  refine J.perm ([] ++ ((b10, cb (cD nilV false false) 37) :: (b8, cb (cFG f ⟨.slice at1 f.tr.length ct1, .slice ai1 f.ids.length ci1, .slice av1 f.val.length cv1, .slice ax1 f.txt.length cx1⟩) 52) :: (b6, cb (cW n id) 41) :: [(t, tabO most mb), (mb, .map es clock)])) (.refl _) ?_
  refine J.callS (α := Value × List (Nat × Obj)) (V := fun x => .tuple #[.iface 107 (.agg (cS p a b x.1).toArray), .bool true]) (Pr := fun x => Vec 3 1 x.1 way.length (way.map iV) x.2) (L := fun x => x.2) (l1 := []) Ty.bd55 rfl rfl (fun w1 hw => ofG2 f ⟨.slice at1 f.tr.length ct1, .slice ai1 f.ids.length ci1, .slice av1 f.val.length cv1, .slice ax1 f.txt.length cx1⟩ w1 (hs.st hso hw) hg hk hpe hae hbe hwe) (fun x hv8 => ?_)
  obtain ⟨v8, lp8⟩ := x
  simp only at hv8 ⊢
  obtain ⟨q, cq, sp, rfl, rfl, hcq⟩ := Vec.pos hv8 (by omega)
  have hrq : ∀ {w1 : World} {l : List (Nat × Obj)}, St w [t, mb] ((q, cb (way.map iV ++ sp) 3) :: l) w1 → Row w1 (.slice (some ⟨q, 0, none⟩) way.length cq) way.length (way.map iV) := fun hw => hv8.row hw
  refine J.perm ((b10, cb (cD nilV false false) 37) :: (b8, cb (cFG f ⟨.slice at1 f.tr.length ct1, .slice ai1 f.ids.length ci1, .slice av1 f.val.length cv1, .slice ax1 f.txt.length cx1⟩) 52) :: (b6, cb (cW n id) 41) :: ((q, cb (way.map iV ++ sp) 3) :: [(t, tabO most mb), (mb, .map es clock)])) (by (refine perm_cnt (fun _ => ?_)); simp only [cntB_append, cntB_cons, cntB_nil, Nat.add_zero, Nat.zero_add]; try ac_rfl) ?_
  refine J.move rfl rfl ?_
  refine J.extract rfl rfl rfl ?_
  refine J.extract rfl rfl rfl ?_
  refine J.assign rfl rfl ?_
  refine J.assign rfl rfl ?_
  refine J.nil ?_
  refine JX.thenN (hK1 _ _ ?_)
  refine JC.seq (fun K2 hK2 => ?_)
  refine JC.region ?_
  refine J.move rfl rfl ?_
  (first | refine J.assertT (by kernel_rfl) rfl rfl ?_ | refine J.assertF (by kernel_rfl) rfl rfl zS rfl ?_ | refine J.assertN (by kernel_rfl) rfl zS rfl ?_)
  refine J.move rfl rfl ?_
  refine J.extract rfl rfl rfl ?_
  refine J.extract rfl rfl rfl ?_
  refine J.alloc zS rfl rfl (fun b13 => ?_)
  refine J.storeW Ty.s107 rfl rfl rfl rfl rfl (by simp [Value.oneCell']) (by repeat first | exact .here | apply Up.there) ?_
  refine J.assign rfl rfl ?_
  refine J.nil ?_
  refine JX.thenN (hK2 _ _ ?_)
  refine JC.seq (fun K3 hK3 => ?_)
  refine JC.region ?_
  refine J.fieldAddr Ty.fd107_3 rfl rfl ?_
  refine J.loadO Ty.a26 rfl (by repeat first | exact .head _ | apply List.Mem.tail | apply List.mem_append_right) (by exact rfl) rfl ?_
  refine J.fieldAddr Ty.fd41_0 rfl rfl ?_
  refine J.loadO Ty.a3 rfl (by repeat first | exact .head _ | apply List.Mem.tail | apply List.mem_append_right) (by exact rfl) rfl ?_
  refine J.callB (v := .int .i64 (i : Int)) (fun w1 w2 hw hb => hw.step hb) Ty.bd56 rfl rfl (fun w1 hw => by
    have h := place_spec (.slice (some ⟨q, 0, none⟩) way.length cq) way n w1 (hrq (hw.perm (l' := (q, cb (way.map iV ++ sp) 3) :: ((b13, cb (cS p a b (.slice (some ⟨q, 0, none⟩) way.length cq)) 107) :: (b10, cb (cD nilV false false) 37) :: (b8, cb (cFG f ⟨.slice at1 f.tr.length ct1, .slice ai1 f.ids.length ci1, .slice av1 f.val.length cv1, .slice ax1 f.txt.length cx1⟩) 52) :: (b6, cb (cW n id) 41) :: [(t, tabO most mb), (mb, .map es clock)])) (by (refine perm_cnt (fun _ => ?_)); simp only [cntB_append, cntB_cons, cntB_nil, Nat.add_zero, Nat.zero_add]; try ac_rfl))) (by omega)
    rw [hat] at h
    exact h) ?_
  refine J.assign rfl rfl ?_
  refine J.nil ?_
  refine JX.thenN (hK3 _ _ ?_)
  refine JC.seq (fun K4 hK4 => ?_)
  refine JC.seq (fun K5 hK5 => ?_)
  refine JC.region ?_
  refine J.move rfl rfl ?_
  refine J.eqNil Ty.u29 rfl rfl rfl ?_
  refine J.move rfl rfl ?_
  first | refine J.skip rfl rfl rfl rfl rfl ?_ | refine J.skipU rfl rfl rfl rfl ?_ | (refine J.unguard rfl rfl rfl ?_; refine J.move rfl rfl ?_)
  first | refine J.skip rfl rfl rfl rfl rfl ?_ | refine J.skipU rfl rfl rfl rfl ?_ | (refine J.unguard rfl rfl rfl ?_; refine J.not rfl rfl ?_)
  (first | refine J.pickT rfl rfl rfl ?_ | refine J.pickF rfl rfl rfl ?_)
  refine J.move rfl rfl ?_
  first | refine J.skip rfl rfl rfl rfl rfl ?_ | refine J.skipU rfl rfl rfl rfl ?_ | (refine J.unguard rfl rfl rfl ?_; refine J.move rfl rfl ?_)
  refine J.unguard rfl rfl rfl ?_
  refine J.bin rfl rfl rfl rfl ?_
  refine J.name 43 rfl (show Value.bool _ = .bool false by simp; omega) ?_
  (first | refine J.pickT rfl rfl rfl ?_ | refine J.pickF rfl rfl rfl ?_)
  refine J.move rfl rfl ?_
  first | refine J.skip rfl rfl rfl rfl rfl ?_ | refine J.skipU rfl rfl rfl rfl ?_ | (refine J.unguard rfl rfl rfl ?_; refine J.fieldAddr Ty.fd107_3 rfl rfl ?_)
  first | refine J.skip rfl rfl rfl rfl rfl ?_ | refine J.skipU rfl rfl rfl rfl ?_ | (refine J.unguard rfl rfl rfl ?_; refine J.loadO Ty.a26 rfl (by repeat first | exact .head _ | apply List.Mem.tail | apply List.mem_append_right) (by exact rfl) rfl ?_)
  first | refine J.skip rfl rfl rfl rfl rfl ?_ | refine J.skipU rfl rfl rfl rfl ?_ | (refine J.unguard rfl rfl rfl ?_; refine J.move rfl rfl ?_)
  first | refine J.skip rfl rfl rfl rfl rfl ?_ | refine J.skipU rfl rfl rfl rfl ?_ | (refine J.unguard rfl rfl rfl ?_; (first | refine J.subN rfl rfl (by omega) (by omega) rfl ?_ | refine J.bin rfl rfl rfl rfl ?_))
  refine J.unguard rfl rfl rfl ?_
  refine J.indexAddrS Ty.el26 Ty.s3 rfl rfl (by omega) (by omega) rfl ?_
  refine J.unguard rfl rfl rfl ?_
  refine J.load1 (v := iV fr) Ty.a3 rfl (fun w1 hw => rowI_at (i := i - 1) (hrq (hw.perm (l' := (q, cb (way.map iV ++ sp) 3) :: ((b13, cb (cS p a b (.slice (some ⟨q, 0, none⟩) way.length cq)) 107) :: (b10, cb (cD nilV false false) 37) :: (b8, cb (cFG f ⟨.slice at1 f.tr.length ct1, .slice ai1 f.ids.length ci1, .slice av1 f.val.length cv1, .slice ax1 f.txt.length cx1⟩) 52) :: (b6, cb (cW n id) 41) :: [(t, tabO most mb), (mb, .map es clock)])) (by (refine perm_cnt (fun _ => ?_)); simp only [cntB_append, cntB_cons, cntB_nil, Nat.add_zero, Nat.zero_add]; try ac_rfl))) hfrom (by omega)) rfl ?_
  first | refine J.skip rfl rfl rfl rfl rfl ?_ | refine J.skipU rfl rfl rfl rfl ?_ | (refine J.unguard rfl rfl rfl ?_; refine J.move rfl rfl ?_)
  refine J.unguard rfl rfl rfl ?_
  refine J.bin rfl rfl rfl rfl ?_
  refine J.name 53 rfl (show Value.bool _ = .bool false by simp) ?_
  (first | refine J.pickT rfl rfl rfl ?_ | refine J.pickF rfl rfl rfl ?_)
  refine J.move rfl rfl ?_
  first | refine J.skip rfl rfl rfl rfl rfl ?_ | refine J.skipU rfl rfl rfl rfl ?_ | (refine J.unguard rfl rfl rfl ?_; refine J.fieldAddr Ty.fd107_3 rfl rfl ?_)
  first | refine J.skip rfl rfl rfl rfl rfl ?_ | refine J.skipU rfl rfl rfl rfl ?_ | (refine J.unguard rfl rfl rfl ?_; refine J.loadO Ty.a26 rfl (by repeat first | exact .head _ | apply List.Mem.tail | apply List.mem_append_right) (by exact rfl) rfl ?_)
  refine J.unguard rfl rfl rfl ?_
  refine J.callB (v := .bool true) (fun w1 w2 hw hb => hw.step hb) Ty.bd52 rfl rfl (fun w1 hw => by
    have h := simple_spec (.slice (some ⟨q, 0, none⟩) way.length cq) way w1 (hrq (hw.perm (l' := (q, cb (way.map iV ++ sp) 3) :: ((b13, cb (cS p a b (.slice (some ⟨q, 0, none⟩) way.length cq)) 107) :: (b10, cb (cD nilV false false) 37) :: (b8, cb (cFG f ⟨.slice at1 f.tr.length ct1, .slice ai1 f.ids.length ci1, .slice av1 f.val.length cv1, .slice ax1 f.txt.length cx1⟩) 52) :: (b6, cb (cW n id) 41) :: [(t, tabO most mb), (mb, .map es clock)])) (by (refine perm_cnt (fun _ => ?_)); simp only [cntB_append, cntB_cons, cntB_nil, Nat.add_zero, Nat.zero_add]; try ac_rfl))) (by omega)
    rw [decide_eq_true hnd] at h
    exact h) ?_
  first | refine J.skip rfl rfl rfl rfl rfl ?_ | refine J.skipU rfl rfl rfl rfl ?_ | (refine J.unguard rfl rfl rfl ?_; refine J.not rfl rfl ?_)
  (first | refine J.pickT rfl rfl rfl ?_ | refine J.pickF rfl rfl rfl ?_)
  refine J.nil ?_
  refine JX.thenN (hK5 _ _ ?_)
  first | refine JC.condF rfl ?_ | refine JC.cond rfl (fun h => by first | (exfalso; simp at h; omega) | (simp at h)) (fun _ => ?_)
  refine JC.skip ?_
  refine JX.thenN (hK4 _ _ ?_)
  refine JC.seq (fun K6 hK6 => ?_)
  refine JC.region ?_
  refine J.move rfl rfl ?_
  refine J.fieldAddr Ty.fd107_0 rfl rfl ?_
  refine J.loadOA (vs := cP p) Ty.a25 Ty.s25 rfl (by repeat first | exact .head _ | apply List.Mem.tail | apply List.mem_append_right) (by exact rfl) rfl rfl ?_
  refine J.buildS (cs := cP p) Ty.pl114 zD rfl (by kernel_rfl) rfl ?_
  refine J.iface (by kernel_rfl) rfl rfl ?_
  refine J.callB (v := .agg (cF 5 p zI zI nilV).toArray) (fun w1 w2 hw hb => hw.step hb) Ty.bd54 rfl rfl (fun w1 hw => plainD_spec p w1) ?_
  refine J.buildS (cs := cH fr (cF 5 p zI zI nilV)) Ty.pl54 zH rfl (by kernel_rfl) rfl ?_
  refine J.buildSl (cs := cH fr (cF 5 p zI zI nilV)) Ty.el35 Ty.s54 zH rfl rfl rfl rfl (by kernel_rfl) rfl rfl (fun b69 => ?_)
  refine J.buildS (cs := cD (.slice (some ⟨b69, 0, none⟩) 1 1) false false) Ty.pl37 zN rfl (by kernel_rfl) rfl ?_
  refine J.alloc zN rfl rfl (fun b16 => ?_)
  refine J.storeW Ty.s37 rfl rfl rfl rfl rfl (by simp [Value.oneCell']) (by repeat first | exact .here | apply Up.there) ?_
  refine J.nil ?_
  refine JX.thenN (hK6 _ _ ?_)
  refine JC.seq (fun K7 hK7 => ?_)
  refine JC.region ?_
  refine J.fieldAddr Ty.fd107_0 rfl rfl ?_
  refine J.loadOA (vs := cP p) Ty.a25 Ty.s25 rfl (by repeat first | exact .head _ | apply List.Mem.tail | apply List.mem_append_right) (by exact rfl) rfl rfl ?_
  refine J.fieldAddr Ty.fd107_1 rfl rfl ?_
  refine J.loadOA (vs := cI a) Ty.a23 Ty.s23 rfl (by repeat first | exact .head _ | apply List.Mem.tail | apply List.mem_append_right) (by exact rfl) rfl rfl ?_
  refine J.fieldAddr Ty.fd107_2 rfl rfl ?_
  refine J.loadOA (vs := cI b) Ty.a23 Ty.s23 rfl (by repeat first | exact .head _ | apply List.Mem.tail | apply List.mem_append_right) (by exact rfl) rfl rfl ?_
  refine J.move rfl rfl ?_
  refine J.buildS (cs := cE (⟨p, a, b, fr, -1⟩ : EV)) Ty.pl34 Ty.zE_ rfl (by kernel_rfl) rfl ?_
  refine J.alloc Ty.zE_ rfl rfl (fun b17 => ?_)
  refine J.storeW Ty.s34 rfl rfl rfl rfl rfl (by simp [Value.oneCell']) (by repeat first | exact .here | apply Up.there) ?_
  refine J.nil ?_
  refine JX.thenN (hK7 _ _ ?_)
  refine JC.seq (fun K8 hK8 => ?_)
  refine JC.region ?_
  refine J.move rfl rfl ?_
  refine J.fieldAddr Ty.fd107_3 rfl rfl ?_
  refine J.loadO Ty.a26 rfl (by repeat first | exact .head _ | apply List.Mem.tail | apply List.mem_append_right) (by exact rfl) rfl ?_
  refine J.lenS rfl Ty.u26 rfl rfl ?_
  (first | refine J.subN rfl rfl (by omega) (by omega) rfl ?_ | refine J.bin rfl rfl rfl rfl ?_)
  refine J.bin rfl rfl rfl rfl ?_
  refine J.name 84 rfl (show Value.bool _ = .bool false by simp; omega) ?_
  refine J.assign rfl rfl ?_
  refine J.nil ?_
  refine JX.thenN (hK8 _ _ ?_)
  refine JC.seq (fun K9 hK9 => ?_)
  refine JC.seq (fun K10 hK10 => ?_)
  refine JC.region ?_
  refine J.move rfl rfl ?_
  refine J.move rfl rfl ?_
  first | refine J.skip rfl rfl rfl rfl rfl ?_ | refine J.skipU rfl rfl rfl rfl ?_ | (refine J.unguard rfl rfl rfl ?_; refine J.fieldAddr Ty.fd107_2 rfl rfl ?_)
  first | refine J.skip rfl rfl rfl rfl rfl ?_ | refine J.skipU rfl rfl rfl rfl ?_ | (refine J.unguard rfl rfl rfl ?_; refine J.loadOA (vs := cI b) Ty.a23 Ty.s23 rfl (by repeat first | exact .head _ | apply List.Mem.tail | apply List.mem_append_right) (by exact rfl) rfl rfl ?_)
  first | refine J.skip rfl rfl rfl rfl rfl ?_ | refine J.skipU rfl rfl rfl rfl ?_ | (refine J.unguard rfl rfl rfl ?_; refine J.fieldAddr Ty.fd41_1 rfl rfl ?_)
  first | refine J.skip rfl rfl rfl rfl rfl ?_ | refine J.skipU rfl rfl rfl rfl ?_ | (refine J.unguard rfl rfl rfl ?_; refine J.loadOA (vs := cI id) Ty.a23 Ty.s23 rfl (by repeat first | exact .head _ | apply List.Mem.tail | apply List.mem_append_right) (by exact rfl) rfl rfl ?_)
  first | refine J.skip rfl rfl rfl rfl rfl ?_ | refine J.skipU rfl rfl rfl rfl ?_ | (refine J.unguard rfl rfl rfl ?_; refine J.neI Ty.QI Ty.keyI rfl rfl rfl ?_)
  (first | refine J.pickT rfl rfl rfl ?_ | refine J.pickF rfl rfl rfl ?_)
  refine J.nil ?_
  refine JX.thenN (hK10 _ _ ?_)
  first | refine JC.condF rfl ?_ | refine JC.cond rfl (fun h => by first | (exfalso; simp at h; omega) | (simp at h)) (fun _ => ?_)
  refine JC.skip ?_
  refine JX.thenN (hK9 _ _ ?_)
  refine JC.seq (fun K11 hK11 => ?_)
  refine JC.seq (fun K12 hK12 => ?_)
  refine JC.region ?_
  refine J.move rfl rfl ?_
  refine J.not rfl rfl ?_
  refine J.nil ?_
  refine JX.thenN (hK12 _ _ ?_)
  first | refine JC.condT rfl ?_ | refine JC.cond rfl (fun _ => ?_) (fun h => by first | (exfalso; simp at h; omega) | (simp at h))
  refine JC.seq (fun K13 hK13 => ?_)
  refine JC.region ?_
  refine J.fieldAddr Ty.fd107_3 rfl rfl ?_
  refine J.loadO Ty.a26 rfl (by repeat first | exact .head _ | apply List.Mem.tail | apply List.mem_append_right) (by exact rfl) rfl ?_
  refine J.move rfl rfl ?_
  (first | refine J.addN rfl rfl (by omega) (by omega) rfl ?_ | refine J.bin rfl rfl rfl rfl ?_)
  refine J.indexAddrS Ty.el26 Ty.s3 rfl rfl (by omega) (by omega) rfl ?_
  refine J.load1 (v := iV nx) Ty.a3 rfl (fun w1 hw => rowI_at (i := i + 1) (hrq (hw.perm (l' := (q, cb (way.map iV ++ sp) 3) :: ((b17, cb (cE (⟨p, a, b, fr, -1⟩ : EV)) 34) :: (b16, cb (cD (.slice (some ⟨b69, 0, none⟩) 1 1) false false) 37) :: (b69, cb (cH fr (cF 5 p zI zI nilV)) 54) :: (b13, cb (cS p a b (.slice (some ⟨q, 0, none⟩) way.length cq)) 107) :: (b10, cb (cD nilV false false) 37) :: (b8, cb (cFG f ⟨.slice at1 f.tr.length ct1, .slice ai1 f.ids.length ci1, .slice av1 f.val.length cv1, .slice ax1 f.txt.length cx1⟩) 52) :: (b6, cb (cW n id) 41) :: [(t, tabO most mb), (mb, .map es clock)])) (by (refine perm_cnt (fun _ => ?_)); simp only [cntB_append, cntB_cons, cntB_nil, Nat.add_zero, Nat.zero_add]; try ac_rfl))) hnx (by omega)) rfl ?_
  refine J.fieldAddr Ty.fd34_4 rfl rfl ?_
  refine J.storeO (cs := cE (⟨p, a, b, fr, -1⟩ : EV)) (vs := [iV nx]) Ty.s3 rfl rfl rfl rfl (by simp [Value.oneCell']) .here (by simp) ?_
  refine J.perm ((b17, cb (cE (⟨p, a, b, fr, nx⟩ : EV)) 34) :: (b16, cb (cD (.slice (some ⟨b69, 0, none⟩) 1 1) false false) 37) :: (b69, cb (cH fr (cF 5 p zI zI nilV)) 54) :: (b13, cb (cS p a b (.slice (some ⟨q, 0, none⟩) way.length cq)) 107) :: (b10, cb (cD nilV false false) 37) :: (b8, cb (cFG f ⟨.slice at1 f.tr.length ct1, .slice ai1 f.ids.length ci1, .slice av1 f.val.length cv1, .slice ax1 f.txt.length cx1⟩) 52) :: (b6, cb (cW n id) 41) :: (q, cb (way.map iV ++ sp) 3) :: [(t, tabO most mb), (mb, .map es clock)]) (.refl _) ?_
  refine J.nil ?_
  refine JX.thenN (hK13 _ _ ?_)
  refine JC.seq (fun K14 hK14 => ?_)
  refine JC.region ?_
  refine J.move rfl rfl ?_
  refine J.fieldAddr Ty.fd34_4 rfl rfl ?_
  refine J.loadO Ty.a3 rfl (by repeat first | exact .head _ | apply List.Mem.tail | apply List.mem_append_right) (by exact rfl) rfl ?_
  refine J.callB (v := .bool true) (fun w1 w2 hw hb => hw.step hb) Ty.bd53 rfl rfl (fun w1 hw => by
    have h := isOpen_spec ov os nx w1 (hro.st hoffo hw) hlo
    rw [hop] at h
    exact h) ?_
  refine J.not rfl rfl ?_
  refine J.nil ?_
  refine JX.thenN (hK14 _ _ ?_)
  first | refine JC.condF rfl ?_ | refine JC.cond rfl (fun h => by first | (exfalso; simp at h; omega) | (simp at h)) (fun _ => ?_)
  refine JC.skip ?_
  refine JX.thenN (hK11 _ _ ?_)
  refine JC.seq (fun K15 hK15 => ?_)
  refine JC.seq (fun K16 hK16 => ?_)
  refine JC.region ?_
  refine J.move rfl rfl ?_
  refine J.loadOA (vs := cE (⟨p, a, b, fr, nx⟩ : EV)) Ty.a34 Ty.s34 rfl (by repeat first | exact .head _ | apply List.Mem.tail | apply List.mem_append_right) (by exact rfl) rfl rfl ?_
  refine J.perm ([(t, tabO most mb), (mb, .map es clock)] ++ ((b17, cb (cE (⟨p, a, b, fr, nx⟩ : EV)) 34) :: (b16, cb (cD (.slice (some ⟨b69, 0, none⟩) 1 1) false false) 37) :: (b69, cb (cH fr (cF 5 p zI zI nilV)) 54) :: (b13, cb (cS p a b (.slice (some ⟨q, 0, none⟩) way.length cq)) 107) :: (b10, cb (cD nilV false false) 37) :: (b8, cb (cFG f ⟨.slice at1 f.tr.length ct1, .slice ai1 f.ids.length ci1, .slice av1 f.val.length cv1, .slice ax1 f.txt.length cx1⟩) 52) :: (b6, cb (cW n id) 41) :: (q, cb (way.map iV ++ sp) 3) :: [])) (by (refine perm_cnt (fun _ => ?_)); simp only [cntB_append, cntB_cons, cntB_nil, Nat.add_zero, Nat.zero_add]; try ac_rfl) ?_
  refine J.callS (α := Array MapEntry × Nat) (V := fun _ => .int .i64 e) (Pr := fun y => Tab L' y.1 y.2) (L := fun y => [(t, tabO most mb), (mb, .map y.1 y.2)]) (l1 := [(t, tabO most mb), (mb, .map es clock)]) Ty.bd17 rfl rfl (fun w1 hw => add_all hw.owns hT (⟨p, a, b, fr, nx⟩ : EV) hokE hadd) (fun y hT' => ?_)
  obtain ⟨es', clock'⟩ := y
  simp only at hT' ⊢
  refine J.perm ((b17, cb (cE (⟨p, a, b, fr, nx⟩ : EV)) 34) :: (b16, cb (cD (.slice (some ⟨b69, 0, none⟩) 1 1) false false) 37) :: (b69, cb (cH fr (cF 5 p zI zI nilV)) 54) :: (b13, cb (cS p a b (.slice (some ⟨q, 0, none⟩) way.length cq)) 107) :: (b10, cb (cD nilV false false) 37) :: (b8, cb (cFG f ⟨.slice at1 f.tr.length ct1, .slice ai1 f.ids.length ci1, .slice av1 f.val.length cv1, .slice ax1 f.txt.length cx1⟩) 52) :: (b6, cb (cW n id) 41) :: (q, cb (way.map iV ++ sp) 3) :: [(t, tabO most mb), (mb, .map es' clock')]) (by (refine perm_cnt (fun _ => ?_)); simp only [cntB_append, cntB_cons, cntB_nil, Nat.add_zero, Nat.zero_add]; try ac_rfl) ?_
  refine J.assign rfl rfl ?_
  refine J.nil ?_
  refine JX.thenN (hK16 _ _ ?_)
  refine JC.seq (fun K17 hK17 => ?_)
  refine JC.region ?_
  refine J.move rfl rfl ?_
  refine J.bin rfl rfl rfl rfl ?_
  refine J.name 113 rfl (show Value.bool _ = .bool true by simp [he]) ?_
  refine J.nil ?_
  refine JX.thenN (hK17 _ _ ?_)
  first | refine JC.condT rfl ?_ | refine JC.cond rfl (fun _ => ?_) (fun h => by first | (exfalso; simp at h; omega) | (simp at h))
  refine JC.seq (fun K18 hK18 => ?_)
  refine JC.region ?_
  refine J.move rfl rfl ?_
  refine J.bin rfl rfl rfl rfl ?_
  refine J.fieldAddr Ty.fd37_2 rfl rfl ?_
  refine J.storeO (cs := cD (.slice (some ⟨b69, 0, none⟩) 1 1) false false) (vs := [.bool (e == 5)]) Ty.s4 rfl rfl rfl rfl (by simp [Value.oneCell']) (.there .here) (by simp) ?_
  refine J.perm ((b17, cb (cE (⟨p, a, b, fr, nx⟩ : EV)) 34) :: (b16, cb (cD (.slice (some ⟨b69, 0, none⟩) 1 1) false (e == 5)) 37) :: (b69, cb (cH fr (cF 5 p zI zI nilV)) 54) :: (b13, cb (cS p a b (.slice (some ⟨q, 0, none⟩) way.length cq)) 107) :: (b10, cb (cD nilV false false) 37) :: (b8, cb (cFG f ⟨.slice at1 f.tr.length ct1, .slice ai1 f.ids.length ci1, .slice av1 f.val.length cv1, .slice ax1 f.txt.length cx1⟩) 52) :: (b6, cb (cW n id) 41) :: (q, cb (way.map iV ++ sp) 3) :: [(t, tabO most mb), (mb, .map es' clock')]) (.refl _) ?_
  refine J.nil ?_
  refine JX.thenN (hK18 _ _ ?_)
  refine JC.seq (fun K19 hK19 => ?_)
  refine JC.region ?_
  refine J.loadOA (vs := cD (.slice (some ⟨b69, 0, none⟩) 1 1) false (e == 5)) Ty.a37 Ty.s37 rfl (by repeat first | exact .head _ | apply List.Mem.tail | apply List.mem_append_right) (by exact rfl) rfl rfl ?_
  refine J.storeW Ty.s37 rfl rfl rfl rfl rfl (by simp [Value.oneCell']) (by repeat first | exact .here | apply Up.there) ?_
  refine J.nil ?_
  refine JX.thenN (hK19 _ _ ?_)
  refine JC.ret ?_
  refine JX.thenR ?_
  refine JX.retC rfl rfl Ty.a37 Ty.s37 (vs := cD (.slice (some ⟨b69, 0, none⟩) 1 1) false (e == 5)) rfl (fun w1 hw => Cells.of_block (hw.own _ (.tail _ (.tail _ (.tail _ (.tail _ (.head _)))))) rfl) (fun w1 hw => ?_)
  exact ⟨(b69, es', clock'), rfl, hT', (hw.perm (l' := ([(b17, cb (cE (⟨p, a, b, fr, nx⟩ : EV)) 34), (b16, cb (cD (.slice (some ⟨b69, 0, none⟩) 1 1) false (e == 5)) 37), (b13, cb (cS p a b (.slice (some ⟨q, 0, none⟩) way.length cq)) 107), (b10, cb (cD (.slice (some ⟨b69, 0, none⟩) 1 1) false (e == 5)) 37), (b8, cb (cFG f ⟨.slice at1 f.tr.length ct1, .slice ai1 f.ids.length ci1, .slice av1 f.val.length cv1, .slice ax1 f.txt.length cx1⟩) 52), (b6, cb (cW n id) 41), (q, cb (way.map iV ++ sp) 3)]) ++ ((b69, cb (cH fr (cF 5 p zI zI nilV)) 54) :: [(t, tabO most mb), (mb, .map es' clock')])) (by (refine perm_cnt (fun _ => ?_)); simp only [cntB_append, cntB_cons, cntB_nil, Nat.add_zero, Nat.zero_add]; try ac_rfl)).drop (List.sublist_append_right _ _)⟩

theorem gtake_on (t mb : Nat) (most : Int) (L : List EV) (es : Array MapEntry) (clock : Nat) (w : World) (hw0 : Own w [(t, tabO most mb), (mb, .map es clock)]) (hT : Tab L es clock) (n fr : Int) (id a b : IDV) (p : PV) (hp : okN p.n) (hfr : okN fr) (f : FV) (s : FSl) (hs : FRows w f s) (hso : FOff [t, mb] f s) (hg : BigF f) (hk : f.k = 4) (hpe : f.p = p) (hae : f.a = a) (hbe : f.b = b) (way : List Int) (hwe : f.tr = way) (hlen : way.length < 1099511627776) (i : Nat) (hi : 1 ≤ i) (hi2 : i < way.length) (hat : placeP way n = (i : Int)) (hfrom : way[i - 1]? = some fr) (hnd : way.Nodup) (ov : Value) (os : List Bool) (hro : Row w ov os.length (os.map bV)) (hoffo : Off [t, mb] ov (os.map bV)) (hlo : os.length < 4611686018427387904) (nx : Int) (hnx : way[i + 1]? = some nx) (hop : openQ os nx = true) {L' : List EV} (hadd : tadd L most (⟨p, a, b, fr, nx⟩ : EV) = (0, L')) :
    Calls Try.prog 19 [.pointer (some ⟨t, 0, none⟩), .agg (cW n id).toArray, .int .i64 fr, .agg (cFG f s).toArray, ov].toArray w fun r w' => ∃ x : OutS, r = .returned (.agg (cD (.slice (some ⟨x.h, 0, none⟩) 1 1) false false).toArray) ∧ (Vec 3 1 (.slice x.a way.length x.c) way.length (way.map iV) x.lp ∧ Tab L' x.es x.ck) ∧ St w [t, mb] ((x.h, cb (cH nx (cF 4 p a b (.slice x.a way.length x.c))) 54) :: (x.lp ++ [(t, tabO most mb), (mb, .map x.es x.ck)])) w' := by
  obtain ⟨vt1, vi1, vv1, vx1⟩ := s
  obtain ⟨at1, ct1, hh, _, _⟩ := _root_.id hs.tr
  simp only at hh
  subst hh
  obtain ⟨ai1, ci1, hh, _, _⟩ := _root_.id hs.ids
  simp only at hh
  subst hh
  obtain ⟨av1, cv1, hh, _, _⟩ := _root_.id hs.val
  simp only at hh
  subst hh
  obtain ⟨ax1, cx1, hh, _, _⟩ := _root_.id hs.txt
  simp only at hh
  subst hh
  have hlt : i + 1 < way.length := (List.getElem?_eq_some_iff.1 hnx).1
  have hokE : okE (⟨p, a, b, fr, nx⟩ : EV) := ⟨hp, hfr, by
    obtain ⟨h1, h2⟩ := open_bounds hop
    exact okN_small (n := nx) (by omega) (by omega)⟩
  refine calls_of_J (args := [.pointer (some ⟨t, 0, none⟩), .agg (cW n id).toArray, .int .i64 fr, .agg (cFG f ⟨.slice at1 f.tr.length ct1, .slice ai1 f.ids.length ci1, .slice av1 f.val.length cv1, .slice ax1 f.txt.length cx1⟩).toArray, ov]) (e := [(0, .pointer (some ⟨t, 0, none⟩)), (1, .agg (cW n id).toArray), (2, .int .i64 fr), (3, .agg (cFG f ⟨.slice at1 f.tr.length ct1, .slice ai1 f.ids.length ci1, .slice av1 f.val.length cv1, .slice ax1 f.txt.length cx1⟩).toArray), (4, ov)]) Try.func19 rfl rfl ⟨rfl, rfl, rfl, rfl, rfl, trivial⟩ (hw0.st) ?_
  refine JC.seq (fun K0 hK0 => ?_)
  refine JC.region ?_
  refine J.box rfl rfl rfl (fun b6 => ?_)
  refine J.box rfl rfl rfl (fun b8 => ?_)
  refine J.alloc zN rfl rfl (fun b10 => ?_)
  refine J.nil ?_
  refine JX.thenN (hK0 _ _ ?_)
  refine JC.seq (fun K1 hK1 => ?_)
  refine JC.region ?_
  refine J.loadOA (vs := cFG f ⟨.slice at1 f.tr.length ct1, .slice ai1 f.ids.length ci1, .slice av1 f.val.length cv1, .slice ax1 f.txt.length cx1⟩) Ty.a52 Ty.s52 rfl (by repeat first | exact .head _ | apply List.Mem.tail | apply List.mem_append_right) (by exact rfl) rfl rfl ?_
  refine J.perm ([] ++ ((b10, cb (cD nilV false false) 37) :: (b8, cb (cFG f ⟨.slice at1 f.tr.length ct1, .slice ai1 f.ids.length ci1, .slice av1 f.val.length cv1, .slice ax1 f.txt.length cx1⟩) 52) :: (b6, cb (cW n id) 41) :: [(t, tabO most mb), (mb, .map es clock)])) (.refl _) ?_
  refine J.callS (α := Value × List (Nat × Obj)) (V := fun x => .tuple #[.iface 107 (.agg (cS p a b x.1).toArray), .bool true]) (Pr := fun x => Vec 3 1 x.1 way.length (way.map iV) x.2) (L := fun x => x.2) (l1 := []) Ty.bd55 rfl rfl (fun w1 hw => ofG2 f ⟨.slice at1 f.tr.length ct1, .slice ai1 f.ids.length ci1, .slice av1 f.val.length cv1, .slice ax1 f.txt.length cx1⟩ w1 (hs.st hso hw) hg hk hpe hae hbe hwe) (fun x hv8 => ?_)
  obtain ⟨v8, lp8⟩ := x
  simp only at hv8 ⊢
  obtain ⟨q, cq, sp, rfl, rfl, hcq⟩ := Vec.pos hv8 (by omega)
  have hrq : ∀ {w1 : World} {l : List (Nat × Obj)}, St w [t, mb] ((q, cb (way.map iV ++ sp) 3) :: l) w1 → Row w1 (.slice (some ⟨q, 0, none⟩) way.length cq) way.length (way.map iV) := fun hw => hv8.row hw
  refine J.perm ((b10, cb (cD nilV false false) 37) :: (b8, cb (cFG f ⟨.slice at1 f.tr.length ct1, .slice ai1 f.ids.length ci1, .slice av1 f.val.length cv1, .slice ax1 f.txt.length cx1⟩) 52) :: (b6, cb (cW n id) 41) :: ((q, cb (way.map iV ++ sp) 3) :: [(t, tabO most mb), (mb, .map es clock)])) (by (refine perm_cnt (fun _ => ?_)); simp only [cntB_append, cntB_cons, cntB_nil, Nat.add_zero, Nat.zero_add]; try ac_rfl) ?_
  refine J.move rfl rfl ?_
  refine J.extract rfl rfl rfl ?_
  refine J.extract rfl rfl rfl ?_
  refine J.assign rfl rfl ?_
  refine J.assign rfl rfl ?_
  refine J.nil ?_
  refine JX.thenN (hK1 _ _ ?_)
  refine JC.seq (fun K2 hK2 => ?_)
  refine JC.region ?_
  refine J.move rfl rfl ?_
  (first | refine J.assertT (by kernel_rfl) rfl rfl ?_ | refine J.assertF (by kernel_rfl) rfl rfl zS rfl ?_ | refine J.assertN (by kernel_rfl) rfl zS rfl ?_)
  refine J.move rfl rfl ?_
  refine J.extract rfl rfl rfl ?_
  refine J.extract rfl rfl rfl ?_
  refine J.alloc zS rfl rfl (fun b13 => ?_)
  refine J.storeW Ty.s107 rfl rfl rfl rfl rfl (by simp [Value.oneCell']) (by repeat first | exact .here | apply Up.there) ?_
  refine J.assign rfl rfl ?_
  refine J.nil ?_
  refine JX.thenN (hK2 _ _ ?_)
  refine JC.seq (fun K3 hK3 => ?_)
  refine JC.region ?_
  refine J.fieldAddr Ty.fd107_3 rfl rfl ?_
  refine J.loadO Ty.a26 rfl (by repeat first | exact .head _ | apply List.Mem.tail | apply List.mem_append_right) (by exact rfl) rfl ?_
  refine J.fieldAddr Ty.fd41_0 rfl rfl ?_
  refine J.loadO Ty.a3 rfl (by repeat first | exact .head _ | apply List.Mem.tail | apply List.mem_append_right) (by exact rfl) rfl ?_
  refine J.callB (v := .int .i64 (i : Int)) (fun w1 w2 hw hb => hw.step hb) Ty.bd56 rfl rfl (fun w1 hw => by
    have h := place_spec (.slice (some ⟨q, 0, none⟩) way.length cq) way n w1 (hrq (hw.perm (l' := (q, cb (way.map iV ++ sp) 3) :: ((b13, cb (cS p a b (.slice (some ⟨q, 0, none⟩) way.length cq)) 107) :: (b10, cb (cD nilV false false) 37) :: (b8, cb (cFG f ⟨.slice at1 f.tr.length ct1, .slice ai1 f.ids.length ci1, .slice av1 f.val.length cv1, .slice ax1 f.txt.length cx1⟩) 52) :: (b6, cb (cW n id) 41) :: [(t, tabO most mb), (mb, .map es clock)])) (by (refine perm_cnt (fun _ => ?_)); simp only [cntB_append, cntB_cons, cntB_nil, Nat.add_zero, Nat.zero_add]; try ac_rfl))) (by omega)
    rw [hat] at h
    exact h) ?_
  refine J.assign rfl rfl ?_
  refine J.nil ?_
  refine JX.thenN (hK3 _ _ ?_)
  refine JC.seq (fun K4 hK4 => ?_)
  refine JC.seq (fun K5 hK5 => ?_)
  refine JC.region ?_
  refine J.move rfl rfl ?_
  refine J.eqNil Ty.u29 rfl rfl rfl ?_
  refine J.move rfl rfl ?_
  first | refine J.skip rfl rfl rfl rfl rfl ?_ | refine J.skipU rfl rfl rfl rfl ?_ | (refine J.unguard rfl rfl rfl ?_; refine J.move rfl rfl ?_)
  first | refine J.skip rfl rfl rfl rfl rfl ?_ | refine J.skipU rfl rfl rfl rfl ?_ | (refine J.unguard rfl rfl rfl ?_; refine J.not rfl rfl ?_)
  (first | refine J.pickT rfl rfl rfl ?_ | refine J.pickF rfl rfl rfl ?_)
  refine J.move rfl rfl ?_
  first | refine J.skip rfl rfl rfl rfl rfl ?_ | refine J.skipU rfl rfl rfl rfl ?_ | (refine J.unguard rfl rfl rfl ?_; refine J.move rfl rfl ?_)
  refine J.unguard rfl rfl rfl ?_
  refine J.bin rfl rfl rfl rfl ?_
  refine J.name 43 rfl (show Value.bool _ = .bool false by simp; omega) ?_
  (first | refine J.pickT rfl rfl rfl ?_ | refine J.pickF rfl rfl rfl ?_)
  refine J.move rfl rfl ?_
  first | refine J.skip rfl rfl rfl rfl rfl ?_ | refine J.skipU rfl rfl rfl rfl ?_ | (refine J.unguard rfl rfl rfl ?_; refine J.fieldAddr Ty.fd107_3 rfl rfl ?_)
  first | refine J.skip rfl rfl rfl rfl rfl ?_ | refine J.skipU rfl rfl rfl rfl ?_ | (refine J.unguard rfl rfl rfl ?_; refine J.loadO Ty.a26 rfl (by repeat first | exact .head _ | apply List.Mem.tail | apply List.mem_append_right) (by exact rfl) rfl ?_)
  first | refine J.skip rfl rfl rfl rfl rfl ?_ | refine J.skipU rfl rfl rfl rfl ?_ | (refine J.unguard rfl rfl rfl ?_; refine J.move rfl rfl ?_)
  first | refine J.skip rfl rfl rfl rfl rfl ?_ | refine J.skipU rfl rfl rfl rfl ?_ | (refine J.unguard rfl rfl rfl ?_; (first | refine J.subN rfl rfl (by omega) (by omega) rfl ?_ | refine J.bin rfl rfl rfl rfl ?_))
  refine J.unguard rfl rfl rfl ?_
  refine J.indexAddrS Ty.el26 Ty.s3 rfl rfl (by omega) (by omega) rfl ?_
  refine J.unguard rfl rfl rfl ?_
  refine J.load1 (v := iV fr) Ty.a3 rfl (fun w1 hw => rowI_at (i := i - 1) (hrq (hw.perm (l' := (q, cb (way.map iV ++ sp) 3) :: ((b13, cb (cS p a b (.slice (some ⟨q, 0, none⟩) way.length cq)) 107) :: (b10, cb (cD nilV false false) 37) :: (b8, cb (cFG f ⟨.slice at1 f.tr.length ct1, .slice ai1 f.ids.length ci1, .slice av1 f.val.length cv1, .slice ax1 f.txt.length cx1⟩) 52) :: (b6, cb (cW n id) 41) :: [(t, tabO most mb), (mb, .map es clock)])) (by (refine perm_cnt (fun _ => ?_)); simp only [cntB_append, cntB_cons, cntB_nil, Nat.add_zero, Nat.zero_add]; try ac_rfl))) hfrom (by omega)) rfl ?_
  first | refine J.skip rfl rfl rfl rfl rfl ?_ | refine J.skipU rfl rfl rfl rfl ?_ | (refine J.unguard rfl rfl rfl ?_; refine J.move rfl rfl ?_)
  refine J.unguard rfl rfl rfl ?_
  refine J.bin rfl rfl rfl rfl ?_
  refine J.name 53 rfl (show Value.bool _ = .bool false by simp) ?_
  (first | refine J.pickT rfl rfl rfl ?_ | refine J.pickF rfl rfl rfl ?_)
  refine J.move rfl rfl ?_
  first | refine J.skip rfl rfl rfl rfl rfl ?_ | refine J.skipU rfl rfl rfl rfl ?_ | (refine J.unguard rfl rfl rfl ?_; refine J.fieldAddr Ty.fd107_3 rfl rfl ?_)
  first | refine J.skip rfl rfl rfl rfl rfl ?_ | refine J.skipU rfl rfl rfl rfl ?_ | (refine J.unguard rfl rfl rfl ?_; refine J.loadO Ty.a26 rfl (by repeat first | exact .head _ | apply List.Mem.tail | apply List.mem_append_right) (by exact rfl) rfl ?_)
  refine J.unguard rfl rfl rfl ?_
  refine J.callB (v := .bool true) (fun w1 w2 hw hb => hw.step hb) Ty.bd52 rfl rfl (fun w1 hw => by
    have h := simple_spec (.slice (some ⟨q, 0, none⟩) way.length cq) way w1 (hrq (hw.perm (l' := (q, cb (way.map iV ++ sp) 3) :: ((b13, cb (cS p a b (.slice (some ⟨q, 0, none⟩) way.length cq)) 107) :: (b10, cb (cD nilV false false) 37) :: (b8, cb (cFG f ⟨.slice at1 f.tr.length ct1, .slice ai1 f.ids.length ci1, .slice av1 f.val.length cv1, .slice ax1 f.txt.length cx1⟩) 52) :: (b6, cb (cW n id) 41) :: [(t, tabO most mb), (mb, .map es clock)])) (by (refine perm_cnt (fun _ => ?_)); simp only [cntB_append, cntB_cons, cntB_nil, Nat.add_zero, Nat.zero_add]; try ac_rfl))) (by omega)
    rw [decide_eq_true hnd] at h
    exact h) ?_
  first | refine J.skip rfl rfl rfl rfl rfl ?_ | refine J.skipU rfl rfl rfl rfl ?_ | (refine J.unguard rfl rfl rfl ?_; refine J.not rfl rfl ?_)
  (first | refine J.pickT rfl rfl rfl ?_ | refine J.pickF rfl rfl rfl ?_)
  refine J.nil ?_
  refine JX.thenN (hK5 _ _ ?_)
  first | refine JC.condF rfl ?_ | refine JC.cond rfl (fun h => by first | (exfalso; simp at h; omega) | (simp at h)) (fun _ => ?_)
  refine JC.skip ?_
  refine JX.thenN (hK4 _ _ ?_)
  refine JC.seq (fun K6 hK6 => ?_)
  refine JC.region ?_
  refine J.move rfl rfl ?_
  refine J.fieldAddr Ty.fd107_0 rfl rfl ?_
  refine J.loadOA (vs := cP p) Ty.a25 Ty.s25 rfl (by repeat first | exact .head _ | apply List.Mem.tail | apply List.mem_append_right) (by exact rfl) rfl rfl ?_
  refine J.buildS (cs := cP p) Ty.pl114 zD rfl (by kernel_rfl) rfl ?_
  refine J.iface (by kernel_rfl) rfl rfl ?_
  refine J.callB (v := .agg (cF 5 p zI zI nilV).toArray) (fun w1 w2 hw hb => hw.step hb) Ty.bd54 rfl rfl (fun w1 hw => plainD_spec p w1) ?_
  refine J.buildS (cs := cH fr (cF 5 p zI zI nilV)) Ty.pl54 zH rfl (by kernel_rfl) rfl ?_
  refine J.buildSl (cs := cH fr (cF 5 p zI zI nilV)) Ty.el35 Ty.s54 zH rfl rfl rfl rfl (by kernel_rfl) rfl rfl (fun b69 => ?_)
  refine J.buildS (cs := cD (.slice (some ⟨b69, 0, none⟩) 1 1) false false) Ty.pl37 zN rfl (by kernel_rfl) rfl ?_
  refine J.alloc zN rfl rfl (fun b16 => ?_)
  refine J.storeW Ty.s37 rfl rfl rfl rfl rfl (by simp [Value.oneCell']) (by repeat first | exact .here | apply Up.there) ?_
  refine J.nil ?_
  refine JX.thenN (hK6 _ _ ?_)
  refine JC.seq (fun K7 hK7 => ?_)
  refine JC.region ?_
  refine J.fieldAddr Ty.fd107_0 rfl rfl ?_
  refine J.loadOA (vs := cP p) Ty.a25 Ty.s25 rfl (by repeat first | exact .head _ | apply List.Mem.tail | apply List.mem_append_right) (by exact rfl) rfl rfl ?_
  refine J.fieldAddr Ty.fd107_1 rfl rfl ?_
  refine J.loadOA (vs := cI a) Ty.a23 Ty.s23 rfl (by repeat first | exact .head _ | apply List.Mem.tail | apply List.mem_append_right) (by exact rfl) rfl rfl ?_
  refine J.fieldAddr Ty.fd107_2 rfl rfl ?_
  refine J.loadOA (vs := cI b) Ty.a23 Ty.s23 rfl (by repeat first | exact .head _ | apply List.Mem.tail | apply List.mem_append_right) (by exact rfl) rfl rfl ?_
  refine J.move rfl rfl ?_
  refine J.buildS (cs := cE (⟨p, a, b, fr, -1⟩ : EV)) Ty.pl34 Ty.zE_ rfl (by kernel_rfl) rfl ?_
  refine J.alloc Ty.zE_ rfl rfl (fun b17 => ?_)
  refine J.storeW Ty.s34 rfl rfl rfl rfl rfl (by simp [Value.oneCell']) (by repeat first | exact .here | apply Up.there) ?_
  refine J.nil ?_
  refine JX.thenN (hK7 _ _ ?_)
  refine JC.seq (fun K8 hK8 => ?_)
  refine JC.region ?_
  refine J.move rfl rfl ?_
  refine J.fieldAddr Ty.fd107_3 rfl rfl ?_
  refine J.loadO Ty.a26 rfl (by repeat first | exact .head _ | apply List.Mem.tail | apply List.mem_append_right) (by exact rfl) rfl ?_
  refine J.lenS rfl Ty.u26 rfl rfl ?_
  (first | refine J.subN rfl rfl (by omega) (by omega) rfl ?_ | refine J.bin rfl rfl rfl rfl ?_)
  refine J.bin rfl rfl rfl rfl ?_
  refine J.name 84 rfl (show Value.bool _ = .bool false by simp; omega) ?_
  refine J.assign rfl rfl ?_
  refine J.nil ?_
  refine JX.thenN (hK8 _ _ ?_)
  refine JC.seq (fun K9 hK9 => ?_)
  refine JC.seq (fun K10 hK10 => ?_)
  refine JC.region ?_
  refine J.move rfl rfl ?_
  refine J.move rfl rfl ?_
  first | refine J.skip rfl rfl rfl rfl rfl ?_ | refine J.skipU rfl rfl rfl rfl ?_ | (refine J.unguard rfl rfl rfl ?_; refine J.fieldAddr Ty.fd107_2 rfl rfl ?_)
  first | refine J.skip rfl rfl rfl rfl rfl ?_ | refine J.skipU rfl rfl rfl rfl ?_ | (refine J.unguard rfl rfl rfl ?_; refine J.loadOA (vs := cI b) Ty.a23 Ty.s23 rfl (by repeat first | exact .head _ | apply List.Mem.tail | apply List.mem_append_right) (by exact rfl) rfl rfl ?_)
  first | refine J.skip rfl rfl rfl rfl rfl ?_ | refine J.skipU rfl rfl rfl rfl ?_ | (refine J.unguard rfl rfl rfl ?_; refine J.fieldAddr Ty.fd41_1 rfl rfl ?_)
  first | refine J.skip rfl rfl rfl rfl rfl ?_ | refine J.skipU rfl rfl rfl rfl ?_ | (refine J.unguard rfl rfl rfl ?_; refine J.loadOA (vs := cI id) Ty.a23 Ty.s23 rfl (by repeat first | exact .head _ | apply List.Mem.tail | apply List.mem_append_right) (by exact rfl) rfl rfl ?_)
  first | refine J.skip rfl rfl rfl rfl rfl ?_ | refine J.skipU rfl rfl rfl rfl ?_ | (refine J.unguard rfl rfl rfl ?_; refine J.neI Ty.QI Ty.keyI rfl rfl rfl ?_)
  (first | refine J.pickT rfl rfl rfl ?_ | refine J.pickF rfl rfl rfl ?_)
  refine J.nil ?_
  refine JX.thenN (hK10 _ _ ?_)
  first | refine JC.condF rfl ?_ | refine JC.cond rfl (fun h => by first | (exfalso; simp at h; omega) | (simp at h)) (fun _ => ?_)
  refine JC.skip ?_
  refine JX.thenN (hK9 _ _ ?_)
  refine JC.seq (fun K11 hK11 => ?_)
  refine JC.seq (fun K12 hK12 => ?_)
  refine JC.region ?_
  refine J.move rfl rfl ?_
  refine J.not rfl rfl ?_
  refine J.nil ?_
  refine JX.thenN (hK12 _ _ ?_)
  first | refine JC.condT rfl ?_ | refine JC.cond rfl (fun _ => ?_) (fun h => by first | (exfalso; simp at h; omega) | (simp at h))
  refine JC.seq (fun K13 hK13 => ?_)
  refine JC.region ?_
  refine J.fieldAddr Ty.fd107_3 rfl rfl ?_
  refine J.loadO Ty.a26 rfl (by repeat first | exact .head _ | apply List.Mem.tail | apply List.mem_append_right) (by exact rfl) rfl ?_
  refine J.move rfl rfl ?_
  (first | refine J.addN rfl rfl (by omega) (by omega) rfl ?_ | refine J.bin rfl rfl rfl rfl ?_)
  refine J.indexAddrS Ty.el26 Ty.s3 rfl rfl (by omega) (by omega) rfl ?_
  refine J.load1 (v := iV nx) Ty.a3 rfl (fun w1 hw => rowI_at (i := i + 1) (hrq (hw.perm (l' := (q, cb (way.map iV ++ sp) 3) :: ((b17, cb (cE (⟨p, a, b, fr, -1⟩ : EV)) 34) :: (b16, cb (cD (.slice (some ⟨b69, 0, none⟩) 1 1) false false) 37) :: (b69, cb (cH fr (cF 5 p zI zI nilV)) 54) :: (b13, cb (cS p a b (.slice (some ⟨q, 0, none⟩) way.length cq)) 107) :: (b10, cb (cD nilV false false) 37) :: (b8, cb (cFG f ⟨.slice at1 f.tr.length ct1, .slice ai1 f.ids.length ci1, .slice av1 f.val.length cv1, .slice ax1 f.txt.length cx1⟩) 52) :: (b6, cb (cW n id) 41) :: [(t, tabO most mb), (mb, .map es clock)])) (by (refine perm_cnt (fun _ => ?_)); simp only [cntB_append, cntB_cons, cntB_nil, Nat.add_zero, Nat.zero_add]; try ac_rfl))) hnx (by omega)) rfl ?_
  refine J.fieldAddr Ty.fd34_4 rfl rfl ?_
  refine J.storeO (cs := cE (⟨p, a, b, fr, -1⟩ : EV)) (vs := [iV nx]) Ty.s3 rfl rfl rfl rfl (by simp [Value.oneCell']) .here (by simp) ?_
  refine J.perm ((b17, cb (cE (⟨p, a, b, fr, nx⟩ : EV)) 34) :: (b16, cb (cD (.slice (some ⟨b69, 0, none⟩) 1 1) false false) 37) :: (b69, cb (cH fr (cF 5 p zI zI nilV)) 54) :: (b13, cb (cS p a b (.slice (some ⟨q, 0, none⟩) way.length cq)) 107) :: (b10, cb (cD nilV false false) 37) :: (b8, cb (cFG f ⟨.slice at1 f.tr.length ct1, .slice ai1 f.ids.length ci1, .slice av1 f.val.length cv1, .slice ax1 f.txt.length cx1⟩) 52) :: (b6, cb (cW n id) 41) :: (q, cb (way.map iV ++ sp) 3) :: [(t, tabO most mb), (mb, .map es clock)]) (.refl _) ?_
  refine J.nil ?_
  refine JX.thenN (hK13 _ _ ?_)
  refine JC.seq (fun K14 hK14 => ?_)
  refine JC.region ?_
  refine J.move rfl rfl ?_
  refine J.fieldAddr Ty.fd34_4 rfl rfl ?_
  refine J.loadO Ty.a3 rfl (by repeat first | exact .head _ | apply List.Mem.tail | apply List.mem_append_right) (by exact rfl) rfl ?_
  refine J.callB (v := .bool true) (fun w1 w2 hw hb => hw.step hb) Ty.bd53 rfl rfl (fun w1 hw => by
    have h := isOpen_spec ov os nx w1 (hro.st hoffo hw) hlo
    rw [hop] at h
    exact h) ?_
  refine J.not rfl rfl ?_
  refine J.nil ?_
  refine JX.thenN (hK14 _ _ ?_)
  first | refine JC.condF rfl ?_ | refine JC.cond rfl (fun h => by first | (exfalso; simp at h; omega) | (simp at h)) (fun _ => ?_)
  refine JC.skip ?_
  refine JX.thenN (hK11 _ _ ?_)
  refine JC.seq (fun K15 hK15 => ?_)
  refine JC.seq (fun K16 hK16 => ?_)
  refine JC.region ?_
  refine J.move rfl rfl ?_
  refine J.loadOA (vs := cE (⟨p, a, b, fr, nx⟩ : EV)) Ty.a34 Ty.s34 rfl (by repeat first | exact .head _ | apply List.Mem.tail | apply List.mem_append_right) (by exact rfl) rfl rfl ?_
  refine J.perm ([(t, tabO most mb), (mb, .map es clock)] ++ ((b17, cb (cE (⟨p, a, b, fr, nx⟩ : EV)) 34) :: (b16, cb (cD (.slice (some ⟨b69, 0, none⟩) 1 1) false false) 37) :: (b69, cb (cH fr (cF 5 p zI zI nilV)) 54) :: (b13, cb (cS p a b (.slice (some ⟨q, 0, none⟩) way.length cq)) 107) :: (b10, cb (cD nilV false false) 37) :: (b8, cb (cFG f ⟨.slice at1 f.tr.length ct1, .slice ai1 f.ids.length ci1, .slice av1 f.val.length cv1, .slice ax1 f.txt.length cx1⟩) 52) :: (b6, cb (cW n id) 41) :: (q, cb (way.map iV ++ sp) 3) :: [])) (by (refine perm_cnt (fun _ => ?_)); simp only [cntB_append, cntB_cons, cntB_nil, Nat.add_zero, Nat.zero_add]; try ac_rfl) ?_
  refine J.callS (α := Array MapEntry × Nat) (V := fun _ => .int .i64 0) (Pr := fun y => Tab L' y.1 y.2) (L := fun y => [(t, tabO most mb), (mb, .map y.1 y.2)]) (l1 := [(t, tabO most mb), (mb, .map es clock)]) Ty.bd17 rfl rfl (fun w1 hw => add_all hw.owns hT (⟨p, a, b, fr, nx⟩ : EV) hokE hadd) (fun y hT' => ?_)
  obtain ⟨es', clock'⟩ := y
  simp only at hT' ⊢
  refine J.perm ((b17, cb (cE (⟨p, a, b, fr, nx⟩ : EV)) 34) :: (b16, cb (cD (.slice (some ⟨b69, 0, none⟩) 1 1) false false) 37) :: (b69, cb (cH fr (cF 5 p zI zI nilV)) 54) :: (b13, cb (cS p a b (.slice (some ⟨q, 0, none⟩) way.length cq)) 107) :: (b10, cb (cD nilV false false) 37) :: (b8, cb (cFG f ⟨.slice at1 f.tr.length ct1, .slice ai1 f.ids.length ci1, .slice av1 f.val.length cv1, .slice ax1 f.txt.length cx1⟩) 52) :: (b6, cb (cW n id) 41) :: (q, cb (way.map iV ++ sp) 3) :: [(t, tabO most mb), (mb, .map es' clock')]) (by (refine perm_cnt (fun _ => ?_)); simp only [cntB_append, cntB_cons, cntB_nil, Nat.add_zero, Nat.zero_add]; try ac_rfl) ?_
  refine J.assign rfl rfl ?_
  refine J.nil ?_
  refine JX.thenN (hK16 _ _ ?_)
  refine JC.seq (fun K17 hK17 => ?_)
  refine JC.region ?_
  refine J.move rfl rfl ?_
  refine J.bin rfl rfl rfl rfl ?_
  refine J.nil ?_
  refine JX.thenN (hK17 _ _ ?_)
  first | refine JC.condF rfl ?_ | refine JC.cond rfl (fun h => by first | (exfalso; simp at h; omega) | (simp at h)) (fun _ => ?_)
  refine JC.skip ?_
  refine JX.thenN (hK15 _ _ ?_)
  refine JC.seq (fun K18 hK18 => ?_)
  refine JC.seq (fun K19 hK19 => ?_)
  refine JC.region ?_
  refine J.move rfl rfl ?_
  refine J.nil ?_
  refine JX.thenN (hK19 _ _ ?_)
  first | refine JC.condF rfl ?_ | refine JC.cond rfl (fun h => by first | (exfalso; simp at h; omega) | (simp at h)) (fun _ => ?_)
  refine JC.skip ?_
  refine JX.thenN (hK18 _ _ ?_)
  refine JC.seq (fun K20 hK20 => ?_)
  apply JC.drawX (α := Option Addr × Nat × List (Nat × Obj)) 6 (fun x => match x with | ⟨a8, c8, lp8⟩ => [.pointer (some ⟨b17, 0 + 50, none⟩), iV nx, .agg (cS p a b (.slice (some ⟨q, 0, none⟩) way.length cq)).toArray, .iface 107 (.agg (cS p a b (.slice (some ⟨q, 0, none⟩) way.length cq)).toArray), .agg (cF 4 p a b (.slice a8 way.length c8)).toArray, .agg (cH nx (cF 4 p a b (.slice a8 way.length c8))).toArray]) (fun m x => match x with | ⟨a8, c8, lp8⟩ => fun w1 => ((m 5 = true → m 4 = true) ∧ (m 4 = true → Vec 3 1 (.slice a8 way.length c8) way.length (way.map iV) lp8)) ∧ St w [t, mb] ((b17, cb (cE (⟨p, a, b, fr, nx⟩ : EV)) 34) :: (b16, cb (cD (.slice (some ⟨b69, 0, none⟩) 1 1) false false) 37) :: (b69, cb (cH fr (cF 5 p zI zI nilV)) 54) :: (b13, cb (cS p a b (.slice (some ⟨q, 0, none⟩) way.length cq)) 107) :: (b10, cb (cD nilV false false) 37) :: (b8, cb (cFG f ⟨.slice at1 f.tr.length ct1, .slice ai1 f.ids.length ci1, .slice av1 f.val.length cv1, .slice ax1 f.txt.length cx1⟩) 52) :: (b6, cb (cW n id) 41) :: (q, cb (way.map iV ++ sp) 3) :: (t, tabO most mb) :: (mb, .map es' clock') :: (bif m 4 then lp8 else [])) w1) Ty.mixed rfl rfl rfl (by kernel_rfl) rfl rfl ?hinit ?hstep ?htail
  case hinit => exact fun w1 hw => ⟨(none, 0, []), ⟨fun h => (by cases h), fun h => (by cases h)⟩, hw.drew⟩
  case hstep =>
    refine ⟨fun m x hm hp => ?_, fun m x hm hp => ?_, fun m x hm hp => ?_, fun m x hm hp => ?_, fun m x hm hp => ?_, fun m x hm hp => ?_, trivial⟩
    · skip
      obtain ⟨a8, c8, lp8⟩ := x
      show J _ _ _ _ _ (_) _
      refine J.pr (fun hF => ?_)
      refine J.fieldAddr Ty.fd34_4 rfl rfl ?_
      exact J.finX rfl (fun _ hw => ⟨⟨a8, c8, lp8⟩, rfl, fun _ _ _ => rfl, hF, hw⟩)
    · skip
      obtain ⟨a8, c8, lp8⟩ := x
      show J _ _ _ _ _ ((120, .pointer (some ⟨b17, 0 + 50, none⟩)) :: _) _
      refine J.pr (fun hF => ?_)
      refine J.loadO Ty.a3 rfl (by repeat first | exact .head _ | apply List.Mem.tail | apply List.mem_append_right) (by exact rfl) rfl ?_
      exact J.finX rfl (fun _ hw => ⟨⟨a8, c8, lp8⟩, rfl, fun _ _ _ => rfl, hF, hw⟩)
    · skip
      obtain ⟨a8, c8, lp8⟩ := x
      show J _ _ _ _ _ (_) _
      refine J.pr (fun hF => ?_)
      refine J.loadOA (vs := cS p a b (.slice (some ⟨q, 0, none⟩) way.length cq)) Ty.a107 Ty.s107 rfl (by repeat first | exact .head _ | apply List.Mem.tail | apply List.mem_append_right) (by exact rfl) rfl rfl ?_
      exact J.finX rfl (fun _ hw => ⟨⟨a8, c8, lp8⟩, rfl, fun _ _ _ => rfl, hF, hw⟩)
    · skip
      obtain ⟨a8, c8, lp8⟩ := x
      show J _ _ _ _ _ ((122, .agg (cS p a b (.slice (some ⟨q, 0, none⟩) way.length cq)).toArray) :: _) _
      refine J.pr (fun hF => ?_)
      refine J.iface (by kernel_rfl) rfl rfl ?_
      exact J.finX rfl (fun _ hw => ⟨⟨a8, c8, lp8⟩, rfl, fun _ _ _ => rfl, hF, hw⟩)
    · skip
      obtain ⟨a8, c8, lp8⟩ := x
      show J _ _ _ _ _ ((123, .iface 107 (.agg (cS p a b (.slice (some ⟨q, 0, none⟩) way.length cq)).toArray)) :: _) _
      refine J.pr (fun hF => ?_)
      refine J.callS (α := Value × List (Nat × Obj)) (V := fun x => .agg (cF 4 p a b x.1).toArray) (Pr := fun x => Vec 3 1 x.1 way.length (way.map iV) x.2) (L := fun x => x.2) (l1 := []) Ty.bd54 rfl rfl (fun w1 hw => plainS_spec p a b w1 (.slice (some ⟨q, 0, none⟩) way.length cq) way (hrq (hw.perm (l' := (q, cb (way.map iV ++ sp) 3) :: ((b17, cb (cE (⟨p, a, b, fr, nx⟩ : EV)) 34) :: (b16, cb (cD (.slice (some ⟨b69, 0, none⟩) 1 1) false false) 37) :: (b69, cb (cH fr (cF 5 p zI zI nilV)) 54) :: (b13, cb (cS p a b (.slice (some ⟨q, 0, none⟩) way.length cq)) 107) :: (b10, cb (cD nilV false false) 37) :: (b8, cb (cFG f ⟨.slice at1 f.tr.length ct1, .slice ai1 f.ids.length ci1, .slice av1 f.val.length cv1, .slice ax1 f.txt.length cx1⟩) 52) :: (b6, cb (cW n id) 41) :: (t, tabO most mb) :: (mb, .map es' clock') :: (bif m 4 then lp8 else []))) (by (refine perm_cnt (fun _ => ?_)); simp only [cntB_append, cntB_cons, cntB_nil, Nat.add_zero, Nat.zero_add]; try ac_rfl))) hlen) (fun x hv9 => ?_)
      obtain ⟨v9, lp9⟩ := x
      simp only at hv9 ⊢
      obtain ⟨a9, c9, rfl, hc9⟩ := hv9.form
      refine J.nil (JX.finB rfl (fun w1 hw => ⟨⟨⟨a9, c9, lp9⟩, rfl, fun j h1 h2 => ?_, ?_⟩, trivial⟩))
      · match j, h1 with
        | 0, _ => (first | rfl | trivial)
        | 1, _ => (first | rfl | trivial)
        | 2, _ => (first | rfl | trivial)
        | 3, _ => (first | rfl | trivial)
        | 4, _ => exact absurd (h2.symm.trans hm) (by decide)
        | 5, _ => exact absurd ((hF.1 h2).symm.trans hm) (by decide)
        | j + 6, h1 => omega
      show ((m 5 = true → true = true) ∧ (true = true → Vec 3 1 (.slice a9 way.length c9) way.length (way.map iV) lp9)) ∧ St w [t, mb] ((b17, cb (cE (⟨p, a, b, fr, nx⟩ : EV)) 34) :: (b16, cb (cD (.slice (some ⟨b69, 0, none⟩) 1 1) false false) 37) :: (b69, cb (cH fr (cF 5 p zI zI nilV)) 54) :: (b13, cb (cS p a b (.slice (some ⟨q, 0, none⟩) way.length cq)) 107) :: (b10, cb (cD nilV false false) 37) :: (b8, cb (cFG f ⟨.slice at1 f.tr.length ct1, .slice ai1 f.ids.length ci1, .slice av1 f.val.length cv1, .slice ax1 f.txt.length cx1⟩) 52) :: (b6, cb (cW n id) 41) :: (q, cb (way.map iV ++ sp) 3) :: (t, tabO most mb) :: (mb, .map es' clock') :: (bif true then lp9 else [])) w1
      simp only [hm, cond_true, cond_false] at hw ⊢
      exact ⟨⟨fun _ => trivial, fun _ => hv9⟩, hw.perm (by (refine perm_cnt (fun _ => ?_)); simp only [cntB_append, cntB_cons, cntB_nil, Nat.add_zero, Nat.zero_add]; try ac_rfl)⟩
    · skip
      obtain ⟨a8, c8, lp8⟩ := x
      show J _ _ _ _ _ ((124, .agg (cF 4 p a b (.slice a8 way.length c8)).toArray) :: (121, iV nx) :: _) _
      have hp4 : m 4 = true := predsT hp (by kernel_rfl)
      refine J.pr (fun hF => ?_)
      refine J.buildS (cs := cH nx (cF 4 p a b (.slice a8 way.length c8))) Ty.pl54 zH rfl (by kernel_rfl) rfl ?_
      refine J.nil (JX.finB rfl (fun w1 hw => ⟨⟨⟨a8, c8, lp8⟩, rfl, fun j h1 h2 => ?_, ?_⟩, trivial⟩))
      · match j, h1 with
        | 0, _ => (first | rfl | trivial)
        | 1, _ => (first | rfl | trivial)
        | 2, _ => (first | rfl | trivial)
        | 3, _ => (first | rfl | trivial)
        | 4, _ => (first | rfl | trivial)
        | 5, _ => (first | rfl | trivial)
        | j + 6, h1 => omega
      show ((true = true → m 4 = true) ∧ (m 4 = true → Vec 3 1 (.slice a8 way.length c8) way.length (way.map iV) lp8)) ∧ St w [t, mb] ((b17, cb (cE (⟨p, a, b, fr, nx⟩ : EV)) 34) :: (b16, cb (cD (.slice (some ⟨b69, 0, none⟩) 1 1) false false) 37) :: (b69, cb (cH fr (cF 5 p zI zI nilV)) 54) :: (b13, cb (cS p a b (.slice (some ⟨q, 0, none⟩) way.length cq)) 107) :: (b10, cb (cD nilV false false) 37) :: (b8, cb (cFG f ⟨.slice at1 f.tr.length ct1, .slice ai1 f.ids.length ci1, .slice av1 f.val.length cv1, .slice ax1 f.txt.length cx1⟩) 52) :: (b6, cb (cW n id) 41) :: (q, cb (way.map iV ++ sp) 3) :: (t, tabO most mb) :: (mb, .map es' clock') :: (bif m 4 then lp8 else [])) w1
      exact ⟨⟨fun _ => hp4, hF.2⟩, hw⟩
  case htail =>
    intro x
    obtain ⟨a8, c8, lp8⟩ := x
    show J _ _ _ _ _ ((125, .agg (cH nx (cF 4 p a b (.slice a8 way.length c8))).toArray) :: (124, .agg (cF 4 p a b (.slice a8 way.length c8)).toArray) :: (123, .iface 107 (.agg (cS p a b (.slice (some ⟨q, 0, none⟩) way.length cq)).toArray)) :: (122, .agg (cS p a b (.slice (some ⟨q, 0, none⟩) way.length cq)).toArray) :: (121, iV nx) :: (120, .pointer (some ⟨b17, 0 + 50, none⟩)) :: _) (fun w1 => ((true = true → true = true) ∧ (true = true → Vec 3 1 (.slice a8 way.length c8) way.length (way.map iV) lp8)) ∧ St w [t, mb] ((b17, cb (cE (⟨p, a, b, fr, nx⟩ : EV)) 34) :: (b16, cb (cD (.slice (some ⟨b69, 0, none⟩) 1 1) false false) 37) :: (b69, cb (cH fr (cF 5 p zI zI nilV)) 54) :: (b13, cb (cS p a b (.slice (some ⟨q, 0, none⟩) way.length cq)) 107) :: (b10, cb (cD nilV false false) 37) :: (b8, cb (cFG f ⟨.slice at1 f.tr.length ct1, .slice ai1 f.ids.length ci1, .slice av1 f.val.length cv1, .slice ax1 f.txt.length cx1⟩) 52) :: (b6, cb (cW n id) 41) :: (q, cb (way.map iV ++ sp) 3) :: (t, tabO most mb) :: (mb, .map es' clock') :: (bif true then lp8 else [])) w1)
    refine J.pr (fun hF => ?_)
    have hv9 := hF.2 rfl
    refine J.buildSl (cs := cH nx (cF 4 p a b (.slice a8 way.length c8))) Ty.el35 Ty.s54 zH rfl rfl rfl rfl (by kernel_rfl) rfl rfl (fun b126 => ?_)
    refine J.buildS (cs := cD (.slice (some ⟨b126, 0, none⟩) 1 1) false false) Ty.pl37 zN rfl (by kernel_rfl) rfl ?_
    refine J.storeW Ty.s37 rfl rfl rfl rfl rfl (by simp [Value.oneCell']) (by repeat first | exact .here | apply Up.there) ?_
    refine J.nil ?_
    refine JX.thenN (hK20 _ _ ?_)
    refine JC.ret ?_
    refine JX.retC rfl rfl Ty.a37 Ty.s37 (vs := cD (.slice (some ⟨b126, 0, none⟩) 1 1) false false) rfl (fun w1 hw => Cells.of_block (hw.own _ (.tail _ (.tail _ (.tail _ (.tail _ (.tail _ (.head _))))))) rfl) (fun w1 hw => ?_)
    exact ⟨⟨b126, a8, c8, lp8, es', clock'⟩, rfl, ⟨hv9, hT'⟩, (hw.perm (l' := ([(b17, cb (cE (⟨p, a, b, fr, nx⟩ : EV)) 34), (b16, cb (cD (.slice (some ⟨b69, 0, none⟩) 1 1) false false) 37), (b13, cb (cS p a b (.slice (some ⟨q, 0, none⟩) way.length cq)) 107), (b10, cb (cD (.slice (some ⟨b126, 0, none⟩) 1 1) false false) 37), (b8, cb (cFG f ⟨.slice at1 f.tr.length ct1, .slice ai1 f.ids.length ci1, .slice av1 f.val.length cv1, .slice ax1 f.txt.length cx1⟩) 52), (b6, cb (cW n id) 41), (q, cb (way.map iV ++ sp) 3), (b69, cb (cH fr (cF 5 p zI zI nilV)) 54)]) ++ ((b126, cb (cH nx (cF 4 p a b (.slice a8 way.length c8))) 54) :: (lp8 ++ [(t, tabO most mb), (mb, .map es' clock')]))) (by (refine perm_cnt (fun _ => ?_)); simp only [cntB_append, cntB_cons, cntB_nil, Nat.add_zero, Nat.zero_add]; try ac_rfl)).drop (List.sublist_append_right _ _)⟩

end Go.Proofs.Ytpldpkdlloolkaa
/-
  The document's Place, Simple, Open: contracts.
-/
namespace Go.Proofs.Ytpldpkdlloolkaa
open Go.J Go.RowKit
set_option linter.unusedVariables false
set_option linter.unusedSimpArgs false
set_option maxRecDepth 4000
theorem place_min : ∀ {xs : List Int} {n : Int} {j : Nat}, xs[j]? = some n → placeP xs n ≤ j ∧ 0 ≤ placeP xs n
  | [], _, _, h => by simp at h
  | x :: xs, n, 0, h => by
    have : x = n := by simpa using h
    simp [placeP, this]
  | x :: xs, n, j + 1, h => by
    have ih := place_min (xs := xs) (n := n) (j := j) (by simpa using h)
    simp only [placeP]
    split
    · omega
    · split <;> omega
theorem place_self {xs : List Int} {i : Nat} (h : i < xs.length) (hm : xs[i] ∉ xs.take i) : placeP xs xs[i] = i := by
  refine place_at h (fun j hj e => hm ?_) rfl
  obtain ⟨hjl, hje⟩ := List.getElem?_eq_some_iff.1 e
  rw [← hje]
  exact List.mem_take_iff_getElem.2 ⟨j, by omega, rfl⟩
theorem place_self' {xs : List Int} {i : Nat} (h : i < xs.length) (hm : xs[i] ∈ xs.take i) : placeP xs xs[i] ≠ i := by
  obtain ⟨j, hj, hje⟩ := List.mem_take_iff_getElem.1 hm
  have := place_min (xs := xs) (n := xs[i]) (j := j) (by rw [List.getElem?_eq_getElem (by omega), hje])
  omega

theorem place11_spec (v : Value) (xs : List Int) (n : Int) (w : World) (hr : Row w v xs.length (xs.map iV)) (hl : xs.length < 4611686018427387904) :
    Calls Try.prog 21 [v, .int .i64 n].toArray w fun r w' => r = .returned (.int .i64 (placeP xs n)) ∧ Bel w w' := by
  obtain ⟨a, c, rfl, hc, _⟩ := id hr
  refine calls_of_J (args := [.slice a xs.length c, .int .i64 n]) (e := [(0, .slice a xs.length c), (1, .int .i64 n)]) Try.func21 rfl rfl ⟨rfl, rfl, trivial⟩ (St.start w) ?_
  refine JC.seq (fun K0 hK0 => ?_)
  refine JC.region ?_
  refine J.assign rfl rfl ?_
  refine J.nil ?_
  refine JX.thenN (hK0 _ _ ?_)
  refine JC.seq (fun K1 hK1 => ?_)
  refine JC.seq (fun K2 hK2 => ?_)
  refine JC.region ?_
  refine J.assign rfl rfl ?_
  refine J.nil ?_
  refine JX.thenN (hK2 _ _ ?_)
  refine JC.block ?_
  refine JC.conseq (JC.cov (f := (fun i => [(0, .slice a xs.length c), (1, iV n), (5, iV ((i : Nat) : Int))]) 0) ⟨rfl, rfl, rfl, trivial⟩ (JC.loop (α := Nat) (fun i => [(0, .slice a xs.length c), (1, iV n), (5, iV ((i : Nat) : Int))]) (fun i w' => (i ≤ xs.length ∧ ∀ j, j < i → xs[j]? ≠ some n) ∧ St w [] [] w') (fun i => xs.length - i) 0 (fun i => ?_))) (fun w hw => ⟨⟨Nat.zero_le _, by omega⟩, hw⟩)
  refine JC.pr (fun hx => ?_)
  obtain ⟨hi, hpre⟩ := hx
  refine JC.seq (fun K3 hK3 => ?_)
  refine JC.seq (fun K4 hK4 => ?_)
  refine JC.region ?_
  refine J.move rfl rfl ?_
  refine J.move rfl rfl ?_
  refine J.lenS rfl Ty.u26 rfl rfl ?_
  refine J.bin rfl rfl rfl rfl ?_
  refine J.nil ?_
  refine JX.thenN (hK4 _ _ ?_)
  refine JC.cond rfl (fun h0 => ?_) (fun h0 => ?_)
  · skip
    have hlt : i < xs.length := by simp at h0; omega
    have hcl := (Row.some hr (by simp; omega))
    obtain ⟨b, o, c', hqe, _, hcl⟩ := hcl
    simp only [Value.slice.injEq] at hqe
    obtain ⟨rfl, _, rfl⟩ := hqe
    have hcell : w.cell? ⟨b, o + i * 1, none⟩ = some (iV xs[i]) := hcl.get (i := i) (by rw [List.getElem?_map, List.getElem?_eq_getElem hlt]; rfl) (by omega)
    refine JC.skip ?_
    refine JX.thenN (hK3 _ _ ?_)
    refine JC.seq (fun K5 hK5 => ?_)
    refine JC.block ?_
    refine JC.seq (fun K6 hK6 => ?_)
    refine JC.region ?_
    refine J.move rfl rfl ?_
    refine J.move rfl rfl ?_
    refine J.indexAddrS Ty.el26 Ty.s3 rfl rfl (by omega) (by omega) rfl ?_
    refine J.loadR (v := iV xs[i]) Ty.a3 rfl hcell (by simp) rfl ?_
    refine J.move rfl rfl ?_
    refine J.bin rfl rfl rfl rfl ?_
    refine J.nil ?_
    refine JX.thenN (hK6 _ _ ?_)
    refine JC.cond rfl (fun h1 => ?_) (fun h1 => ?_)
    · skip
      have he : xs[i] = n := by simp at h1; exact h1
      refine JC.seq (fun K7 hK7 => ?_)
      refine JC.region ?_
      refine J.move rfl rfl ?_
      refine J.assign rfl rfl ?_
      refine J.nil ?_
      refine JX.thenN (hK7 _ _ ?_)
      refine JC.ret ?_
      refine JX.blockR ?_
      refine JX.thenR ?_
      refine JX.thenR ?_
      refine JX.blockR ?_
      refine JX.thenR ?_
      refine JX.ret1 rfl rfl (fun w hw => ?_)
      first | exact ⟨by rw [place_at hlt hpre he], hw.below⟩ | exact ⟨by rw [place_no (by rw [← hge]; exact hpre)], hw.below⟩
    · skip
      have hne : ¬ xs[i] = n := fun e => by simp [e] at h1
      refine JC.skip ?_
      refine JX.blockN ?_
      refine JX.thenN (hK5 _ _ ?_)
      refine JC.region ?_
      refine J.move rfl rfl ?_
      (first | refine J.addN rfl rfl (by omega) (by omega) rfl ?_ | refine J.bin rfl rfl rfl rfl ?_)
      refine J.assign rfl rfl ?_
      refine J.nil ?_
      refine JX.thenN ?_
      refine JX.again (i + 1) ?_ ?_ ?_
      · omega
      · exact ⟨rfl, rfl, rfl, trivial⟩
      · exact fun w1 hw => ⟨⟨hlt, fun j hj => by
        rcases Nat.lt_or_ge j i with h | h
        · exact hpre j h
        · have : j = i := by omega
          subst this
          rw [List.getElem?_eq_getElem hlt]; simp; exact hne⟩, hw⟩
  · skip
    have hge : i = xs.length := by simp at h0; omega
    refine JC.exit ?_
    refine JX.thenE ?_
    refine JX.thenE ?_
    refine JX.blockE ?_
    refine JX.thenN (hK1 _ _ ?_)
    refine JC.seq (fun K8 hK8 => ?_)
    refine JC.region ?_
    refine J.assign rfl rfl ?_
    refine J.nil ?_
    refine JX.thenN (hK8 _ _ ?_)
    refine JC.ret ?_
    refine JX.ret1 rfl rfl (fun w hw => ?_)
    first | exact ⟨by rw [place_at hlt hpre he], hw.below⟩ | exact ⟨by rw [place_no (by rw [← hge]; exact hpre)], hw.below⟩

theorem simple11_spec (v : Value) (xs : List Int) (w : World) (hr : Row w v xs.length (xs.map iV)) (hl : xs.length < 4611686018427387904) :
    Calls Try.prog 65 [v].toArray w fun r w' => r = .returned (.bool (decide xs.Nodup)) ∧ Bel w w' := by
  obtain ⟨a, c, rfl, hc, _⟩ := id hr
  refine calls_of_J (args := [.slice a xs.length c]) (e := [(0, .slice a xs.length c)]) Try.func65 rfl rfl ⟨rfl, trivial⟩ (St.start w) ?_
  refine JC.seq (fun K0 hK0 => ?_)
  refine JC.region ?_
  refine J.assign rfl rfl ?_
  refine J.nil ?_
  refine JX.thenN (hK0 _ _ ?_)
  refine JC.seq (fun K1 hK1 => ?_)
  refine JC.seq (fun K2 hK2 => ?_)
  refine JC.region ?_
  refine J.assign rfl rfl ?_
  refine J.nil ?_
  refine JX.thenN (hK2 _ _ ?_)
  refine JC.block ?_
  refine JC.conseq (JC.cov (f := (fun i => [(0, .slice a xs.length c), (3, iV ((i : Nat) : Int))]) 0) ⟨rfl, rfl, trivial⟩ (JC.loop (α := Nat) (fun i => [(0, .slice a xs.length c), (3, iV ((i : Nat) : Int))]) (fun i w' => (i ≤ xs.length ∧ (xs.take i).Nodup) ∧ St w [] [] w') (fun i => xs.length - i) 0 (fun i => ?_))) (fun w hw => ⟨⟨Nat.zero_le _, by simp⟩, hw⟩)
  refine JC.pr (fun hx => ?_)
  obtain ⟨hi, hpre⟩ := hx
  refine JC.seq (fun K3 hK3 => ?_)
  refine JC.seq (fun K4 hK4 => ?_)
  refine JC.region ?_
  refine J.move rfl rfl ?_
  refine J.move rfl rfl ?_
  refine J.lenS rfl Ty.u26 rfl rfl ?_
  refine J.bin rfl rfl rfl rfl ?_
  refine J.nil ?_
  refine JX.thenN (hK4 _ _ ?_)
  refine JC.cond rfl (fun h0 => ?_) (fun h0 => ?_)
  · skip
    have hlt : i < xs.length := by simp at h0; omega
    have hcl := (Row.some hr (by simp; omega))
    obtain ⟨b, o, c', hqe, _, hcl⟩ := hcl
    simp only [Value.slice.injEq] at hqe
    obtain ⟨rfl, _, rfl⟩ := hqe
    have hcell : w.cell? ⟨b, o + i * 1, none⟩ = some (iV xs[i]) := hcl.get (i := i) (by rw [List.getElem?_map, List.getElem?_eq_getElem hlt]; rfl) (by omega)
    refine JC.skip ?_
    refine JX.thenN (hK3 _ _ ?_)
    refine JC.seq (fun K5 hK5 => ?_)
    refine JC.block ?_
    refine JC.seq (fun K6 hK6 => ?_)
    refine JC.region ?_
    refine J.move rfl rfl ?_
    refine J.move rfl rfl ?_
    refine J.move rfl rfl ?_
    refine J.indexAddrS Ty.el26 Ty.s3 rfl rfl (by omega) (by omega) rfl ?_
    refine J.loadR (v := iV xs[i]) Ty.a3 rfl hcell (by simp) rfl ?_
    refine J.callB (v := .int .i64 (placeP xs xs[i])) (fun w1 w2 hw hb => hw.step hb) Ty.bd21 rfl rfl (fun w1 hw => place11_spec _ xs xs[i] w1 (hr.below hw.below) hl) ?_
    refine J.move rfl rfl ?_
    refine J.bin rfl rfl rfl rfl ?_
    refine J.nil ?_
    refine JX.thenN (hK6 _ _ ?_)
    refine JC.cond rfl (fun h1 => ?_) (fun h1 => ?_)
    · skip
      have hm : xs[i] ∈ xs.take i := Classical.byContradiction fun hm => by simp [place_self hlt hm] at h1
      refine JC.seq (fun K7 hK7 => ?_)
      refine JC.region ?_
      refine J.assign rfl rfl ?_
      refine J.nil ?_
      refine JX.thenN (hK7 _ _ ?_)
      refine JC.ret ?_
      refine JX.blockR ?_
      refine JX.thenR ?_
      refine JX.thenR ?_
      refine JX.blockR ?_
      refine JX.thenR ?_
      refine JX.ret1 rfl rfl (fun w hw => ?_)
      first | exact ⟨by rw [decide_eq_false (nodup_no hlt hm)], hw.below⟩ | exact ⟨by rw [decide_eq_true (show xs.Nodup by rw [hge, List.take_of_length_le (Nat.le_refl _)] at hpre; exact hpre)], hw.below⟩
    · skip
      have hm : xs[i] ∉ xs.take i := fun hm => by simp [place_self' hlt hm] at h1
      refine JC.skip ?_
      refine JX.blockN ?_
      refine JX.thenN (hK5 _ _ ?_)
      refine JC.region ?_
      refine J.move rfl rfl ?_
      (first | refine J.addN rfl rfl (by omega) (by omega) rfl ?_ | refine J.bin rfl rfl rfl rfl ?_)
      refine J.assign rfl rfl ?_
      refine J.nil ?_
      refine JX.thenN ?_
      refine JX.again (i + 1) ?_ ?_ ?_
      · omega
      · exact ⟨rfl, rfl, trivial⟩
      · exact fun w1 hw => ⟨⟨hlt, nodup_succ hlt hpre hm⟩, hw⟩
  · skip
    have hge : i = xs.length := by simp at h0; omega
    refine JC.exit ?_
    refine JX.thenE ?_
    refine JX.thenE ?_
    refine JX.blockE ?_
    refine JX.thenN (hK1 _ _ ?_)
    refine JC.seq (fun K8 hK8 => ?_)
    refine JC.region ?_
    refine J.assign rfl rfl ?_
    refine J.nil ?_
    refine JX.thenN (hK8 _ _ ?_)
    refine JC.ret ?_
    refine JX.ret1 rfl rfl (fun w hw => ?_)
    first | exact ⟨by rw [decide_eq_false (nodup_no hlt hm)], hw.below⟩ | exact ⟨by rw [decide_eq_true (show xs.Nodup by rw [hge, List.take_of_length_le (Nat.le_refl _)] at hpre; exact hpre)], hw.below⟩

theorem open14_spec (v : Value) (os : List Bool) (n : Int) (w : World) (hr : Row w v os.length (os.map bV)) (hl : os.length < 4611686018427387904) :
    Calls Try.prog 66 [v, .int .i64 n].toArray w fun r w' => r = .returned (.bool (openQ os n)) ∧ Bel w w' := by
  obtain ⟨a, c, rfl, hc, _⟩ := id hr
  refine calls_of_J (args := [.slice a os.length c, .int .i64 n]) (e := [(0, .slice a os.length c), (1, .int .i64 n)]) Try.func66 rfl rfl ⟨rfl, rfl, trivial⟩ (St.start w) ?_
  refine JC.seq (fun K0 hK0 => ?_)
  refine JC.region ?_
  refine J.assign rfl rfl ?_
  refine J.nil ?_
  refine JX.thenN (hK0 _ _ ?_)
  refine JC.seq (fun K1 hK1 => ?_)
  refine JC.region ?_
  refine J.move rfl rfl ?_
  refine J.bin rfl rfl rfl rfl ?_
  refine J.move rfl rfl ?_
  refine J.split 7 rfl (fun hs7 => ?_) (fun hs7 => ?_)
  · skip
    try simp only [decide_eq_true_eq, decide_eq_false_iff_not, beq_iff_eq, bne_iff_ne, bne_eq_false_iff_eq, ne_eq, beq_eq_false_iff_ne, Bool.not_eq_true, Bool.not_eq_false, Int.not_lt, Int.not_le] at hs7
    first
    | exact absurd hs7 (by decide)
    | skip
      first | refine J.skip rfl rfl rfl rfl rfl ?_ | refine J.skipU rfl rfl rfl rfl ?_ | (refine J.unguard rfl rfl rfl ?_; refine J.move rfl rfl ?_)
      first | refine J.skip rfl rfl rfl rfl rfl ?_ | refine J.skipU rfl rfl rfl rfl ?_ | (refine J.unguard rfl rfl rfl ?_; refine J.move rfl rfl ?_)
      first | refine J.skip rfl rfl rfl rfl rfl ?_ | refine J.skipU rfl rfl rfl rfl ?_ | (refine J.unguard rfl rfl rfl ?_; refine J.lenS rfl Ty.u28 rfl rfl ?_)
      first | refine J.skip rfl rfl rfl rfl rfl ?_ | refine J.skipU rfl rfl rfl rfl ?_ | (refine J.unguard rfl rfl rfl ?_; refine J.bin rfl rfl rfl rfl ?_)
      (first | refine J.pickT rfl rfl rfl ?_ | refine J.pickF rfl rfl rfl ?_)
      refine J.move rfl rfl ?_
      refine J.split 13 rfl (fun hs13 => ?_) (fun hs13 => ?_)
      · skip
        try simp only [decide_eq_true_eq, decide_eq_false_iff_not, beq_iff_eq, bne_iff_ne, bne_eq_false_iff_eq, ne_eq, beq_eq_false_iff_ne, Bool.not_eq_true, Bool.not_eq_false, Int.not_lt, Int.not_le] at hs13
        first
        | exact absurd hs13 (by decide)
        | skip
          first | refine J.skip rfl rfl rfl rfl rfl ?_ | refine J.skipU rfl rfl rfl rfl ?_ | (refine J.unguard rfl rfl rfl ?_; refine J.move rfl rfl ?_)
          first | refine J.skip rfl rfl rfl rfl rfl ?_ | refine J.skipU rfl rfl rfl rfl ?_ | (refine J.unguard rfl rfl rfl ?_; refine J.move rfl rfl ?_)
          first | refine J.skip rfl rfl rfl rfl rfl ?_ | refine J.skipU rfl rfl rfl rfl ?_ | (refine J.unguard rfl rfl rfl ?_; have hlt : n.toNat < os.length := (by omega); have hcl := (Row.some hr (by simp; omega)); obtain ⟨b, o, c', hqe, _, hcl⟩ := hcl; simp only [Value.slice.injEq] at hqe; obtain ⟨rfl, _, rfl⟩ := hqe; have hcell : w.cell? ⟨b, o + n.toNat * 1, none⟩ = some (bV os[n.toNat]) := hcl.get (i := n.toNat) (by rw [List.getElem?_map, List.getElem?_eq_getElem hlt]; rfl) (by omega); refine J.indexAddrS Ty.el28 Ty.s4 rfl rfl (by omega) (by omega) rfl ?_)
          first | refine J.skip rfl rfl rfl rfl rfl ?_ | refine J.skipU rfl rfl rfl rfl ?_ | (refine J.unguard rfl rfl rfl ?_; refine J.loadR (v := bV os[n.toNat]) Ty.a4 rfl hcell (by simp) rfl ?_)
          (first | refine J.pickT rfl rfl rfl ?_ | refine J.pickF rfl rfl rfl ?_)
          refine J.assign rfl rfl ?_
          refine J.nil ?_
          refine JX.thenN (hK1 _ _ ?_)
          refine JC.ret ?_
          refine JX.ret1 rfl rfl (fun w hw => ?_)
          refine ⟨?_, hw.below⟩
          first | (simp [openQ]; omega) | (simp_all [openQ]; done)
      · skip
        try simp only [decide_eq_true_eq, decide_eq_false_iff_not, beq_iff_eq, bne_iff_ne, bne_eq_false_iff_eq, ne_eq, beq_eq_false_iff_ne, Bool.not_eq_true, Bool.not_eq_false, Int.not_lt, Int.not_le] at hs13
        first
        | exact absurd hs13 (by decide)
        | skip
          first | refine J.skip rfl rfl rfl rfl rfl ?_ | refine J.skipU rfl rfl rfl rfl ?_ | (refine J.unguard rfl rfl rfl ?_; refine J.move rfl rfl ?_)
          first | refine J.skip rfl rfl rfl rfl rfl ?_ | refine J.skipU rfl rfl rfl rfl ?_ | (refine J.unguard rfl rfl rfl ?_; refine J.move rfl rfl ?_)
          first | refine J.skip rfl rfl rfl rfl rfl ?_ | refine J.skipU rfl rfl rfl rfl ?_ | (refine J.unguard rfl rfl rfl ?_; have hlt : n.toNat < os.length := (by omega); have hcl := (Row.some hr (by simp; omega)); obtain ⟨b, o, c', hqe, _, hcl⟩ := hcl; simp only [Value.slice.injEq] at hqe; obtain ⟨rfl, _, rfl⟩ := hqe; have hcell : w.cell? ⟨b, o + n.toNat * 1, none⟩ = some (bV os[n.toNat]) := hcl.get (i := n.toNat) (by rw [List.getElem?_map, List.getElem?_eq_getElem hlt]; rfl) (by omega); refine J.indexAddrS Ty.el28 Ty.s4 rfl rfl (by omega) (by omega) rfl ?_)
          first | refine J.skip rfl rfl rfl rfl rfl ?_ | refine J.skipU rfl rfl rfl rfl ?_ | (refine J.unguard rfl rfl rfl ?_; refine J.loadR (v := bV os[n.toNat]) Ty.a4 rfl hcell (by simp) rfl ?_)
          (first | refine J.pickT rfl rfl rfl ?_ | refine J.pickF rfl rfl rfl ?_)
          refine J.assign rfl rfl ?_
          refine J.nil ?_
          refine JX.thenN (hK1 _ _ ?_)
          refine JC.ret ?_
          refine JX.ret1 rfl rfl (fun w hw => ?_)
          refine ⟨?_, hw.below⟩
          first | (simp [openQ]; omega) | (simp_all [openQ]; done)
  · skip
    try simp only [decide_eq_true_eq, decide_eq_false_iff_not, beq_iff_eq, bne_iff_ne, bne_eq_false_iff_eq, ne_eq, beq_eq_false_iff_ne, Bool.not_eq_true, Bool.not_eq_false, Int.not_lt, Int.not_le] at hs7
    first
    | exact absurd hs7 (by decide)
    | skip
      first | refine J.skip rfl rfl rfl rfl rfl ?_ | refine J.skipU rfl rfl rfl rfl ?_ | (refine J.unguard rfl rfl rfl ?_; refine J.move rfl rfl ?_)
      first | refine J.skip rfl rfl rfl rfl rfl ?_ | refine J.skipU rfl rfl rfl rfl ?_ | (refine J.unguard rfl rfl rfl ?_; refine J.move rfl rfl ?_)
      first | refine J.skip rfl rfl rfl rfl rfl ?_ | refine J.skipU rfl rfl rfl rfl ?_ | (refine J.unguard rfl rfl rfl ?_; refine J.lenS rfl Ty.u28 rfl rfl ?_)
      first | refine J.skip rfl rfl rfl rfl rfl ?_ | refine J.skipU rfl rfl rfl rfl ?_ | (refine J.unguard rfl rfl rfl ?_; refine J.bin rfl rfl rfl rfl ?_)
      (first | refine J.pickT rfl rfl rfl ?_ | refine J.pickF rfl rfl rfl ?_)
      refine J.move rfl rfl ?_
      refine J.split 13 rfl (fun hs13 => ?_) (fun hs13 => ?_)
      · skip
        try simp only [decide_eq_true_eq, decide_eq_false_iff_not, beq_iff_eq, bne_iff_ne, bne_eq_false_iff_eq, ne_eq, beq_eq_false_iff_ne, Bool.not_eq_true, Bool.not_eq_false, Int.not_lt, Int.not_le] at hs13
        first
        | exact absurd hs13 (by decide)
        | skip
          first | refine J.skip rfl rfl rfl rfl rfl ?_ | refine J.skipU rfl rfl rfl rfl ?_ | (refine J.unguard rfl rfl rfl ?_; refine J.move rfl rfl ?_)
          first | refine J.skip rfl rfl rfl rfl rfl ?_ | refine J.skipU rfl rfl rfl rfl ?_ | (refine J.unguard rfl rfl rfl ?_; refine J.move rfl rfl ?_)
          first | refine J.skip rfl rfl rfl rfl rfl ?_ | refine J.skipU rfl rfl rfl rfl ?_ | (refine J.unguard rfl rfl rfl ?_; have hlt : n.toNat < os.length := (by omega); have hcl := (Row.some hr (by simp; omega)); obtain ⟨b, o, c', hqe, _, hcl⟩ := hcl; simp only [Value.slice.injEq] at hqe; obtain ⟨rfl, _, rfl⟩ := hqe; have hcell : w.cell? ⟨b, o + n.toNat * 1, none⟩ = some (bV os[n.toNat]) := hcl.get (i := n.toNat) (by rw [List.getElem?_map, List.getElem?_eq_getElem hlt]; rfl) (by omega); refine J.indexAddrS Ty.el28 Ty.s4 rfl rfl (by omega) (by omega) rfl ?_)
          first | refine J.skip rfl rfl rfl rfl rfl ?_ | refine J.skipU rfl rfl rfl rfl ?_ | (refine J.unguard rfl rfl rfl ?_; refine J.loadR (v := bV os[n.toNat]) Ty.a4 rfl hcell (by simp) rfl ?_)
          (first | refine J.pickT rfl rfl rfl ?_ | refine J.pickF rfl rfl rfl ?_)
          refine J.assign rfl rfl ?_
          refine J.nil ?_
          refine JX.thenN (hK1 _ _ ?_)
          refine JC.ret ?_
          refine JX.ret1 rfl rfl (fun w hw => ?_)
          refine ⟨?_, hw.below⟩
          first | (simp [openQ]; omega) | (simp_all [openQ]; done)
      · skip
        try simp only [decide_eq_true_eq, decide_eq_false_iff_not, beq_iff_eq, bne_iff_ne, bne_eq_false_iff_eq, ne_eq, beq_eq_false_iff_ne, Bool.not_eq_true, Bool.not_eq_false, Int.not_lt, Int.not_le] at hs13
        first
        | exact absurd hs13 (by decide)
        | skip
          first | refine J.skip rfl rfl rfl rfl rfl ?_ | refine J.skipU rfl rfl rfl rfl ?_ | (refine J.unguard rfl rfl rfl ?_; refine J.move rfl rfl ?_)
          first | refine J.skip rfl rfl rfl rfl rfl ?_ | refine J.skipU rfl rfl rfl rfl ?_ | (refine J.unguard rfl rfl rfl ?_; refine J.move rfl rfl ?_)
          first | refine J.skip rfl rfl rfl rfl rfl ?_ | refine J.skipU rfl rfl rfl rfl ?_ | (refine J.unguard rfl rfl rfl ?_; have hlt : n.toNat < os.length := (by omega); have hcl := (Row.some hr (by simp; omega)); obtain ⟨b, o, c', hqe, _, hcl⟩ := hcl; simp only [Value.slice.injEq] at hqe; obtain ⟨rfl, _, rfl⟩ := hqe; have hcell : w.cell? ⟨b, o + n.toNat * 1, none⟩ = some (bV os[n.toNat]) := hcl.get (i := n.toNat) (by rw [List.getElem?_map, List.getElem?_eq_getElem hlt]; rfl) (by omega); refine J.indexAddrS Ty.el28 Ty.s4 rfl rfl (by omega) (by omega) rfl ?_)
          first | refine J.skip rfl rfl rfl rfl rfl ?_ | refine J.skipU rfl rfl rfl rfl ?_ | (refine J.unguard rfl rfl rfl ?_; refine J.loadR (v := bV os[n.toNat]) Ty.a4 rfl hcell (by simp) rfl ?_)
          (first | refine J.pickT rfl rfl rfl ?_ | refine J.pickF rfl rfl rfl ?_)
          refine J.assign rfl rfl ?_
          refine J.nil ?_
          refine JX.thenN (hK1 _ _ ?_)
          refine JC.ret ?_
          refine JX.ret1 rfl rfl (fun w hw => ?_)
          refine ⟨?_, hw.below⟩
          first | (simp [openQ]; omega) | (simp_all [openQ]; done)

end Go.Proofs.Ytpldpkdlloolkaa
/-
  Where a path's begin is refused ahead of the table: contracts.
-/
namespace Go.Proofs.Ytpldpkdlloolkaa
open Go.J Go.RowKit
set_option linter.unusedVariables false
set_option linter.unusedSimpArgs false
set_option maxRecDepth 8000
/-- a begin that is refused -/
def badW (n : Int) (me b : IDV) (way : List Int) : Prop := way.length < 2 ∨ 64 < way.length ∨ ¬ way.Nodup ∨ way[0]? ≠ some n ∨ b = me
theorem zN_ : zeroT Try.prog 90 = some (.agg (cD nilV false false).toArray) := by kernel_rfl

end Go.Proofs.Ytpldpkdlloolkaa
/-
  The document's Start behind its table: contracts.
-/
namespace Go.Proofs.Ytpldpkdlloolkaa
open Go.J Go.RowKit
set_option linter.unusedVariables false
set_option linter.unusedSimpArgs false
set_option maxRecDepth 8000
/-- what the document's Start leaves -/
structure OutR where
  h : Nat
  a : Option Addr
  c : Nat
  lp : List (Nat × Obj)
  v : Value
  lr : List (Nat × Obj)
end Go.Proofs.Ytpldpkdlloolkaa
/-
  What came of a path's begin, twice: contracts.
-/
namespace Go.Proofs.Ytpldpkdlloolkaa
open Go.J Go.RowKit
set_option linter.unusedVariables false
set_option linter.unusedSimpArgs false
set_option maxRecDepth 8000
theorem FRows.below {w w' : World} {f : FV} {s : FSl} (h : FRows w f s) (hb : Bel w w') : FRows w' f s := ⟨h.tr.below hb, h.ids.below hb, h.val.below hb, h.txt.below hb⟩

set_option maxHeartbeats 1000000 in
theorem same_nil (mi fu : Bool) (w : World) :
    Calls Try.prog 47 [.agg (cD nilV mi fu).toArray, .agg (cD nilV mi fu).toArray].toArray w fun r w' => r = .returned (.bool true) ∧ Bel w w' := by
  refine calls_of_J (args := [.agg (cD nilV mi fu).toArray, .agg (cD nilV mi fu).toArray]) (e := [(0, .agg (cD nilV mi fu).toArray), (1, .agg (cD nilV mi fu).toArray)]) Try.func47 rfl rfl ⟨rfl, rfl, trivial⟩ (St.start w) ?_
  refine JC.seq (fun K0 hK0 => ?_)
  refine JC.region ?_
  refine J.box rfl rfl rfl (fun b2 => ?_)
  refine J.box rfl rfl rfl (fun b3 => ?_)
  refine J.assign rfl rfl ?_
  refine J.nil ?_
  refine JX.thenN (hK0 _ _ ?_)
  refine JC.seq (fun K1 hK1 => ?_)
  refine JC.seq (fun K2 hK2 => ?_)
  refine JC.region ?_
  refine J.fieldAddr Ty.fd37_1 rfl rfl ?_
  refine J.loadO Ty.a4 rfl (.tail _ (.head _)) rfl rfl ?_
  refine J.fieldAddr Ty.fd90_1 rfl rfl ?_
  refine J.loadO Ty.a4 rfl (.head _) rfl rfl ?_
  refine J.eqBool (.inr rfl) Ty.u4 rfl rfl rfl ?_
  refine J.name 10 rfl (show _ = Value.bool false by simp) ?_
  refine J.move rfl rfl ?_
  first | refine J.skip rfl rfl rfl rfl rfl ?_ | refine J.skipU rfl rfl rfl rfl ?_ | (refine J.unguard rfl rfl rfl ?_; refine J.fieldAddr Ty.fd37_2 rfl rfl ?_)
  first | refine J.skip rfl rfl rfl rfl rfl ?_ | refine J.skipU rfl rfl rfl rfl ?_ | (refine J.unguard rfl rfl rfl ?_; refine J.loadO Ty.a4 rfl (.tail _ (.head _)) rfl rfl ?_)
  first | refine J.skip rfl rfl rfl rfl rfl ?_ | refine J.skipU rfl rfl rfl rfl ?_ | (refine J.unguard rfl rfl rfl ?_; refine J.fieldAddr Ty.fd90_2 rfl rfl ?_)
  first | refine J.skip rfl rfl rfl rfl rfl ?_ | refine J.skipU rfl rfl rfl rfl ?_ | (refine J.unguard rfl rfl rfl ?_; refine J.loadO Ty.a4 rfl (.head _) rfl rfl ?_)
  first | refine J.skip rfl rfl rfl rfl rfl ?_ | refine J.skipU rfl rfl rfl rfl ?_ | (refine J.unguard rfl rfl rfl ?_; refine J.eqBool (.inr rfl) Ty.u4 rfl rfl rfl ?_; refine J.name 16 rfl (show _ = Value.bool false by simp) ?_)
  (first | refine J.pickT rfl rfl rfl ?_ | refine J.pickF rfl rfl rfl ?_)
  refine J.move rfl rfl ?_
  first | refine J.skip rfl rfl rfl rfl rfl ?_ | refine J.skipU rfl rfl rfl rfl ?_ | (refine J.unguard rfl rfl rfl ?_; refine J.fieldAddr Ty.fd37_0 rfl rfl ?_)
  first | refine J.skip rfl rfl rfl rfl rfl ?_ | refine J.skipU rfl rfl rfl rfl ?_ | (refine J.unguard rfl rfl rfl ?_; refine J.loadO Ty.a35 rfl (.tail _ (.head _)) rfl rfl ?_)
  first | refine J.skip rfl rfl rfl rfl rfl ?_ | refine J.skipU rfl rfl rfl rfl ?_ | (refine J.unguard rfl rfl rfl ?_; refine J.lenS rfl Ty.u35 rfl rfl ?_)
  first | refine J.skip rfl rfl rfl rfl rfl ?_ | refine J.skipU rfl rfl rfl rfl ?_ | (refine J.unguard rfl rfl rfl ?_; refine J.fieldAddr Ty.fd90_0 rfl rfl ?_)
  first | refine J.skip rfl rfl rfl rfl rfl ?_ | refine J.skipU rfl rfl rfl rfl ?_ | (refine J.unguard rfl rfl rfl ?_; refine J.loadO Ty.a35 rfl (.head _) rfl rfl ?_)
  first | refine J.skip rfl rfl rfl rfl rfl ?_ | refine J.skipU rfl rfl rfl rfl ?_ | (refine J.unguard rfl rfl rfl ?_; refine J.lenS rfl Ty.u35 rfl rfl ?_)
  first | refine J.skip rfl rfl rfl rfl rfl ?_ | refine J.skipU rfl rfl rfl rfl ?_ | (refine J.unguard rfl rfl rfl ?_; refine J.bin rfl rfl rfl rfl ?_; refine J.name 25 rfl (show _ = Value.bool false by simp) ?_)
  (first | refine J.pickT rfl rfl rfl ?_ | refine J.pickF rfl rfl rfl ?_)
  refine J.nil ?_
  refine JX.thenN (hK2 _ _ ?_)
  first | refine JC.condF rfl ?_ | refine JC.cond rfl (fun h => by first | (exfalso; simp at h; omega) | (simp at h)) (fun _ => ?_)
  refine JC.skip ?_
  refine JX.thenN (hK1 _ _ ?_)
  refine JC.seq (fun K3 hK3 => ?_)
  refine JC.seq (fun K4 hK4 => ?_)
  refine JC.region ?_
  refine J.fieldAddr Ty.fd37_0 rfl rfl ?_
  refine J.loadO Ty.a35 rfl (.tail _ (.head _)) rfl rfl ?_
  refine J.lenS rfl Ty.u35 rfl rfl ?_
  refine J.name 29 rfl (show _ = .int .i64 ((0 : Nat) : Int) from rfl) ?_
  refine J.move rfl rfl ?_
  refine J.nil ?_
  refine JX.thenN (hK4 _ _ ?_)
  refine JC.block ?_
  refine JC.conseq (JC.cov (f := (fun i => [(2, .pointer (some ⟨b2, 0, none⟩)), (3, .pointer (some ⟨b3, 0, none⟩)), (29, .int .i64 ((0 : Nat) : Int)), (30, .int .i64 ((i : Nat) : Int))]) 0) ⟨rfl, rfl, rfl, rfl, trivial⟩ (JC.loop (α := Nat) (fun i => [(2, .pointer (some ⟨b2, 0, none⟩)), (3, .pointer (some ⟨b3, 0, none⟩)), (29, .int .i64 ((0 : Nat) : Int)), (30, .int .i64 ((i : Nat) : Int))]) (fun i w' => (i ≤ 0) ∧ St w [] [(b3, cb (cD nilV mi fu) 90), (b2, cb (cD nilV mi fu) 37)] w') (fun i => 0 - i) 0 (fun i => ?_))) (fun w hw => ⟨Nat.zero_le _, hw⟩)
  refine JC.pr (fun hi => ?_)
  refine JC.seq (fun K5 hK5 => ?_)
  refine JC.region ?_
  refine J.bin rfl rfl rfl rfl ?_
  refine J.nil ?_
  refine JX.thenN (hK5 _ _ ?_)
  refine JC.seq (fun K6 hK6 => ?_)
  first | refine JC.condF rfl ?_ | refine JC.cond rfl (fun h => by first | (exfalso; simp at h; omega) | (simp at h)) (fun _ => ?_)
  refine JC.exit ?_
  refine JX.thenE ?_
  refine JX.thenE ?_
  refine JX.blockE ?_
  refine JX.thenN (hK3 _ _ ?_)
  refine JC.seq (fun K7 hK7 => ?_)
  refine JC.region ?_
  refine J.assign rfl rfl ?_
  refine J.nil ?_
  refine JX.thenN (hK7 _ _ ?_)
  refine JC.ret ?_
  refine JX.ret1 rfl rfl (fun w hw => ?_)
  exact ⟨rfl, (hw.drop (List.nil_sublist _)).below⟩

set_option maxHeartbeats 1000000 in
theorem same_one (mi fu : Bool) (n1 : Int) (f : FV) (hf : OkF f) (s1 s2 : FSl) (x1 x2 : Nat) (w : World) (hs1 : FRows w f s1) (hs2 : FRows w f s2) (hh1 : w.heap[x1]? = some (cb (cH n1 (cFG f s1)) 54)) (hh2 : w.heap[x2]? = some (cb (cH n1 (cFG f s2)) 54)) :
    Calls Try.prog 47 [.agg (cD (.slice (some ⟨x1, 0, none⟩) 1 1) mi fu).toArray, .agg (cD (.slice (some ⟨x2, 0, none⟩) 1 1) mi fu).toArray].toArray w fun r w' => r = .returned (.bool true) ∧ Bel w w' := by
  refine calls_of_J (args := [.agg (cD (.slice (some ⟨x1, 0, none⟩) 1 1) mi fu).toArray, .agg (cD (.slice (some ⟨x2, 0, none⟩) 1 1) mi fu).toArray]) (e := [(0, .agg (cD (.slice (some ⟨x1, 0, none⟩) 1 1) mi fu).toArray), (1, .agg (cD (.slice (some ⟨x2, 0, none⟩) 1 1) mi fu).toArray)]) Try.func47 rfl rfl ⟨rfl, rfl, trivial⟩ (St.start w) ?_
  refine JC.seq (fun K0 hK0 => ?_)
  refine JC.region ?_
  refine J.box rfl rfl rfl (fun b2 => ?_)
  refine J.box rfl rfl rfl (fun b3 => ?_)
  refine J.assign rfl rfl ?_
  refine J.nil ?_
  refine JX.thenN (hK0 _ _ ?_)
  refine JC.seq (fun K1 hK1 => ?_)
  refine JC.seq (fun K2 hK2 => ?_)
  refine JC.region ?_
  refine J.fieldAddr Ty.fd37_1 rfl rfl ?_
  refine J.loadO Ty.a4 rfl (.tail _ (.head _)) rfl rfl ?_
  refine J.fieldAddr Ty.fd90_1 rfl rfl ?_
  refine J.loadO Ty.a4 rfl (.head _) rfl rfl ?_
  refine J.eqBool (.inr rfl) Ty.u4 rfl rfl rfl ?_
  refine J.name 10 rfl (show _ = Value.bool false by simp) ?_
  refine J.move rfl rfl ?_
  first | refine J.skip rfl rfl rfl rfl rfl ?_ | refine J.skipU rfl rfl rfl rfl ?_ | (refine J.unguard rfl rfl rfl ?_; refine J.fieldAddr Ty.fd37_2 rfl rfl ?_)
  first | refine J.skip rfl rfl rfl rfl rfl ?_ | refine J.skipU rfl rfl rfl rfl ?_ | (refine J.unguard rfl rfl rfl ?_; refine J.loadO Ty.a4 rfl (.tail _ (.head _)) rfl rfl ?_)
  first | refine J.skip rfl rfl rfl rfl rfl ?_ | refine J.skipU rfl rfl rfl rfl ?_ | (refine J.unguard rfl rfl rfl ?_; refine J.fieldAddr Ty.fd90_2 rfl rfl ?_)
  first | refine J.skip rfl rfl rfl rfl rfl ?_ | refine J.skipU rfl rfl rfl rfl ?_ | (refine J.unguard rfl rfl rfl ?_; refine J.loadO Ty.a4 rfl (.head _) rfl rfl ?_)
  first | refine J.skip rfl rfl rfl rfl rfl ?_ | refine J.skipU rfl rfl rfl rfl ?_ | (refine J.unguard rfl rfl rfl ?_; refine J.eqBool (.inr rfl) Ty.u4 rfl rfl rfl ?_; refine J.name 16 rfl (show _ = Value.bool false by simp) ?_)
  (first | refine J.pickT rfl rfl rfl ?_ | refine J.pickF rfl rfl rfl ?_)
  refine J.move rfl rfl ?_
  first | refine J.skip rfl rfl rfl rfl rfl ?_ | refine J.skipU rfl rfl rfl rfl ?_ | (refine J.unguard rfl rfl rfl ?_; refine J.fieldAddr Ty.fd37_0 rfl rfl ?_)
  first | refine J.skip rfl rfl rfl rfl rfl ?_ | refine J.skipU rfl rfl rfl rfl ?_ | (refine J.unguard rfl rfl rfl ?_; refine J.loadO Ty.a35 rfl (.tail _ (.head _)) rfl rfl ?_)
  first | refine J.skip rfl rfl rfl rfl rfl ?_ | refine J.skipU rfl rfl rfl rfl ?_ | (refine J.unguard rfl rfl rfl ?_; refine J.lenS rfl Ty.u35 rfl rfl ?_)
  first | refine J.skip rfl rfl rfl rfl rfl ?_ | refine J.skipU rfl rfl rfl rfl ?_ | (refine J.unguard rfl rfl rfl ?_; refine J.fieldAddr Ty.fd90_0 rfl rfl ?_)
  first | refine J.skip rfl rfl rfl rfl rfl ?_ | refine J.skipU rfl rfl rfl rfl ?_ | (refine J.unguard rfl rfl rfl ?_; refine J.loadO Ty.a35 rfl (.head _) rfl rfl ?_)
  first | refine J.skip rfl rfl rfl rfl rfl ?_ | refine J.skipU rfl rfl rfl rfl ?_ | (refine J.unguard rfl rfl rfl ?_; refine J.lenS rfl Ty.u35 rfl rfl ?_)
  first | refine J.skip rfl rfl rfl rfl rfl ?_ | refine J.skipU rfl rfl rfl rfl ?_ | (refine J.unguard rfl rfl rfl ?_; refine J.bin rfl rfl rfl rfl ?_; refine J.name 25 rfl (show _ = Value.bool false by simp) ?_)
  (first | refine J.pickT rfl rfl rfl ?_ | refine J.pickF rfl rfl rfl ?_)
  refine J.nil ?_
  refine JX.thenN (hK2 _ _ ?_)
  first | refine JC.condF rfl ?_ | refine JC.cond rfl (fun h => by first | (exfalso; simp at h; omega) | (simp at h)) (fun _ => ?_)
  refine JC.skip ?_
  refine JX.thenN (hK1 _ _ ?_)
  refine JC.seq (fun K3 hK3 => ?_)
  refine JC.seq (fun K4 hK4 => ?_)
  refine JC.region ?_
  refine J.fieldAddr Ty.fd37_0 rfl rfl ?_
  refine J.loadO Ty.a35 rfl (.tail _ (.head _)) rfl rfl ?_
  refine J.lenS rfl Ty.u35 rfl rfl ?_
  refine J.name 29 rfl (show _ = .int .i64 ((1 : Nat) : Int) from rfl) ?_
  refine J.move rfl rfl ?_
  refine J.nil ?_
  refine JX.thenN (hK4 _ _ ?_)
  refine JC.block ?_
  refine JC.conseq (JC.cov (f := (fun i => [(2, .pointer (some ⟨b2, 0, none⟩)), (3, .pointer (some ⟨b3, 0, none⟩)), (29, .int .i64 ((1 : Nat) : Int)), (30, .int .i64 ((i : Nat) : Int))]) 0) ⟨rfl, rfl, rfl, rfl, trivial⟩ (JC.loop (α := Nat) (fun i => [(2, .pointer (some ⟨b2, 0, none⟩)), (3, .pointer (some ⟨b3, 0, none⟩)), (29, .int .i64 ((1 : Nat) : Int)), (30, .int .i64 ((i : Nat) : Int))]) (fun i w' => (i ≤ 1) ∧ St w [] [(b3, cb (cD (.slice (some ⟨x2, 0, none⟩) 1 1) mi fu) 90), (b2, cb (cD (.slice (some ⟨x1, 0, none⟩) 1 1) mi fu) 37)] w') (fun i => 1 - i) 0 (fun i => ?_))) (fun w hw => ⟨Nat.zero_le _, hw⟩)
  refine JC.pr (fun hi => ?_)
  refine JC.seq (fun K5 hK5 => ?_)
  refine JC.region ?_
  refine J.bin rfl rfl rfl rfl ?_
  refine J.nil ?_
  refine JX.thenN (hK5 _ _ ?_)
  refine JC.seq (fun K6 hK6 => ?_)
  refine JC.cond rfl (fun h1 => ?_) (fun h1 => ?_)
  · skip
    obtain rfl : i = 0 := by simp at h1; omega
    refine JC.skip ?_
    refine JX.thenN (hK6 _ _ ?_)
    refine JC.seq (fun K7 hK7 => ?_)
    refine JC.block ?_
    refine JC.seq (fun K8 hK8 => ?_)
    refine JC.region ?_
    refine J.move rfl rfl ?_
    refine J.assign rfl rfl ?_
    refine J.nil ?_
    refine JX.thenN (hK8 _ _ ?_)
    refine JC.seq (fun K9 hK9 => ?_)
    apply JC.drawL 29 [Eqv (.pointer (some ⟨b2, 0 + 0, none⟩)), Eqv (.slice (some ⟨x1, 0, none⟩) 1 1), Eqv (.int .i64 ((0 : Nat) : Int)), Eqv (.pointer (some ⟨x1, 0 + ((0 : Nat) : Int).toNat * 96, none⟩)), Eqv (.pointer (some ⟨x1, 0 + ((0 : Nat) : Int).toNat * 96 + 0, none⟩)), Eqv (iV n1), Eqv (.pointer (some ⟨b3, 0 + 0, none⟩)), Eqv (.slice (some ⟨x2, 0, none⟩) 1 1), Eqv (.int .i64 ((0 : Nat) : Int)), Eqv (.pointer (some ⟨x2, 0 + ((0 : Nat) : Int).toNat * 96, none⟩)), Eqv (.pointer (some ⟨x2, 0 + ((0 : Nat) : Int).toNat * 96 + 0, none⟩)), Eqv (iV n1), Eqv (.bool false), Eqv (.bool false), Eqv (.pointer (some ⟨b2, 0 + 0, none⟩)), Eqv (.slice (some ⟨x1, 0, none⟩) 1 1), Eqv (.int .i64 ((0 : Nat) : Int)), Eqv (.pointer (some ⟨x1, 0 + ((0 : Nat) : Int).toNat * 96, none⟩)), Eqv (.pointer (some ⟨x1, 0 + ((0 : Nat) : Int).toNat * 96 + 1, none⟩)), Eqv (.agg (cFG f s1).toArray), Eqv (.pointer (some ⟨b3, 0 + 0, none⟩)), Eqv (.slice (some ⟨x2, 0, none⟩) 1 1), Eqv (.int .i64 ((0 : Nat) : Int)), Eqv (.pointer (some ⟨x2, 0 + ((0 : Nat) : Int).toNat * 96, none⟩)), Eqv (.pointer (some ⟨x2, 0 + ((0 : Nat) : Int).toNat * 96 + 1, none⟩)), Eqv (.agg (cFG f s2).toArray), Eqv (.bool true), Eqv (.bool false), Eqv (.bool false)] Ty.mixed rfl rfl rfl (by kernel_rfl) rfl rfl (fun w w' hw hb => hw.step hb) ⟨fun _ _ _ h _ => h, fun _ _ _ h _ => h, fun _ _ _ h _ => h, fun _ _ _ h _ => h, fun _ _ _ h _ => h, fun _ _ _ h _ => h, fun _ _ _ h _ => h, fun _ _ _ h _ => h, fun _ _ _ h _ => h, fun _ _ _ h _ => h, fun _ _ _ h _ => h, fun _ _ _ h _ => h, fun _ _ _ h _ => h, fun _ _ _ h _ => h, fun _ _ _ h _ => h, fun _ _ _ h _ => h, fun _ _ _ h _ => h, fun _ _ _ h _ => h, fun _ _ _ h _ => h, fun _ _ _ h _ => h, fun _ _ _ h _ => h, fun _ _ _ h _ => h, fun _ _ _ h _ => h, fun _ _ _ h _ => h, fun _ _ _ h _ => h, fun _ _ _ h _ => h, fun _ _ _ h _ => h, fun _ _ _ h _ => h, fun _ _ _ h _ => h, trivial⟩ ?hstep ?htail
    case hstep =>
      refine ⟨fun wi => ?_, fun wi => ?_, fun wi => ?_, fun wi => ?_, fun wi => ?_, fun wi => ?_, fun wi => ?_, fun wi => ?_, fun wi => ?_, fun wi => ?_, fun wi => ?_, fun wi => ?_, fun wi => ?_, fun wi => ?_, fun wi => ?_, fun wi => ?_, fun wi => ?_, fun wi => ?_, fun wi => ?_, fun wi => ?_, fun wi => ?_, fun wi => ?_, fun wi => ?_, fun wi => ?_, fun wi => ?_, fun wi => ?_, fun wi => ?_, fun wi => ?_, fun wi => ?_, trivial⟩
      · skip
        refine Fin.nil ?_
        refine J.fieldAddr Ty.fd37_0 rfl rfl ?_
        exact J.finP rfl
      · skip
        refine Fin.consE rfl (Fin.nil ?_)
        refine J.load1 (v := .slice (some ⟨x1, 0, none⟩) 1 1) Ty.a35 rfl (fun w1 hw => by rw [cell_of (hw.2.own _ (.tail _ (.head _)))]; rfl) rfl ?_
        exact J.finP rfl
      · skip
        refine Fin.nil ?_
        refine J.move rfl rfl ?_
        exact J.finP rfl
      · skip
        refine Fin.consE rfl (Fin.consE rfl (Fin.nil ?_))
        refine J.indexAddrS Ty.el35 Ty.s54 rfl rfl (by omega) (by omega) rfl ?_
        exact J.finP rfl
      · skip
        refine Fin.consE rfl (Fin.nil ?_)
        refine J.fieldAddr Ty.fd54_0 rfl rfl ?_
        exact J.finP rfl
      · skip
        refine Fin.consE rfl (Fin.nil ?_)
        refine J.load1 (v := iV n1) Ty.a3 rfl (fun w1 hw => by rw [cell_of (by rw [hw.2.keep x1 (lt_of_some hh1) (by simp)]; exact hh1)]; rfl) rfl ?_
        exact J.finP rfl
      · skip
        refine Fin.nil ?_
        refine J.fieldAddr Ty.fd90_0 rfl rfl ?_
        exact J.finP rfl
      · skip
        refine Fin.consE rfl (Fin.nil ?_)
        refine J.load1 (v := .slice (some ⟨x2, 0, none⟩) 1 1) Ty.a35 rfl (fun w1 hw => by rw [cell_of (hw.2.own _ (.head _))]; rfl) rfl ?_
        exact J.finP rfl
      · skip
        refine Fin.nil ?_
        refine J.move rfl rfl ?_
        exact J.finP rfl
      · skip
        refine Fin.consE rfl (Fin.consE rfl (Fin.nil ?_))
        refine J.indexAddrS Ty.el35 Ty.s54 rfl rfl (by omega) (by omega) rfl ?_
        exact J.finP rfl
      · skip
        refine Fin.consE rfl (Fin.nil ?_)
        refine J.fieldAddr Ty.fd54_0 rfl rfl ?_
        exact J.finP rfl
      · skip
        refine Fin.consE rfl (Fin.nil ?_)
        refine J.load1 (v := iV n1) Ty.a3 rfl (fun w1 hw => by rw [cell_of (by rw [hw.2.keep x2 (lt_of_some hh2) (by simp)]; exact hh2)]; rfl) rfl ?_
        exact J.finP rfl
      · skip
        refine Fin.consE rfl (Fin.consE rfl (Fin.nil ?_))
        refine J.bin rfl rfl rfl rfl ?_
        refine J.name 45 rfl (show _ = Value.bool false by simp) ?_
        exact J.finP rfl
      · skip
        refine Fin.consE rfl (Fin.nil ?_)
        refine J.move rfl rfl ?_
        exact J.finP rfl
      · skip
        refine Fin.consE rfl (Fin.nil ?_)
        first | refine J.skip rfl rfl rfl rfl rfl ?_ | refine J.skipU rfl rfl rfl rfl ?_ | (refine J.unguard rfl rfl rfl ?_; refine J.fieldAddr Ty.fd37_0 rfl rfl ?_)
        exact J.finP rfl
      · skip
        refine Fin.consE rfl (Fin.consE rfl (Fin.nil ?_))
        refine J.unguard rfl rfl rfl ?_
        refine J.load1 (v := .slice (some ⟨x1, 0, none⟩) 1 1) Ty.a35 rfl (fun w1 hw => by rw [cell_of (hw.2.own _ (.tail _ (.head _)))]; rfl) rfl ?_
        exact J.finP rfl
      · skip
        refine Fin.consE rfl (Fin.nil ?_)
        first | refine J.skip rfl rfl rfl rfl rfl ?_ | refine J.skipU rfl rfl rfl rfl ?_ | (refine J.unguard rfl rfl rfl ?_; refine J.move rfl rfl ?_)
        exact J.finP rfl
      · skip
        refine Fin.consE rfl (Fin.consE rfl (Fin.consE rfl (Fin.nil ?_)))
        refine J.unguard rfl rfl rfl ?_
        refine J.indexAddrS Ty.el35 Ty.s54 rfl rfl (by omega) (by omega) rfl ?_
        exact J.finP rfl
      · skip
        refine Fin.consE rfl (Fin.consE rfl (Fin.nil ?_))
        first | refine J.skip rfl rfl rfl rfl rfl ?_ | refine J.skipU rfl rfl rfl rfl ?_ | (refine J.unguard rfl rfl rfl ?_; refine J.fieldAddr Ty.fd54_1 rfl rfl ?_)
        exact J.finP rfl
      · skip
        refine Fin.consE rfl (Fin.consE rfl (Fin.nil ?_))
        refine J.unguard rfl rfl rfl ?_
        refine J.loadA (vs := cFG f s1) Ty.a52 Ty.s52 rfl rfl (fun w1 hw => Cells.of_block (by rw [hw.2.keep x1 (lt_of_some hh1) (by simp)]; exact hh1) rfl) rfl ?_
        exact J.finP rfl
      · skip
        refine Fin.consE rfl (Fin.nil ?_)
        first | refine J.skip rfl rfl rfl rfl rfl ?_ | refine J.skipU rfl rfl rfl rfl ?_ | (refine J.unguard rfl rfl rfl ?_; refine J.fieldAddr Ty.fd90_0 rfl rfl ?_)
        exact J.finP rfl
      · skip
        refine Fin.consE rfl (Fin.consE rfl (Fin.nil ?_))
        refine J.unguard rfl rfl rfl ?_
        refine J.load1 (v := .slice (some ⟨x2, 0, none⟩) 1 1) Ty.a35 rfl (fun w1 hw => by rw [cell_of (hw.2.own _ (.head _))]; rfl) rfl ?_
        exact J.finP rfl
      · skip
        refine Fin.consE rfl (Fin.nil ?_)
        first | refine J.skip rfl rfl rfl rfl rfl ?_ | refine J.skipU rfl rfl rfl rfl ?_ | (refine J.unguard rfl rfl rfl ?_; refine J.move rfl rfl ?_)
        exact J.finP rfl
      · skip
        refine Fin.consE rfl (Fin.consE rfl (Fin.consE rfl (Fin.nil ?_)))
        refine J.unguard rfl rfl rfl ?_
        refine J.indexAddrS Ty.el35 Ty.s54 rfl rfl (by omega) (by omega) rfl ?_
        exact J.finP rfl
      · skip
        refine Fin.consE rfl (Fin.consE rfl (Fin.nil ?_))
        first | refine J.skip rfl rfl rfl rfl rfl ?_ | refine J.skipU rfl rfl rfl rfl ?_ | (refine J.unguard rfl rfl rfl ?_; refine J.fieldAddr Ty.fd54_1 rfl rfl ?_)
        exact J.finP rfl
      · skip
        refine Fin.consE rfl (Fin.consE rfl (Fin.nil ?_))
        refine J.unguard rfl rfl rfl ?_
        refine J.loadA (vs := cFG f s2) Ty.a52 Ty.s52 rfl rfl (fun w1 hw => Cells.of_block (by rw [hw.2.keep x2 (lt_of_some hh2) (by simp)]; exact hh2) rfl) rfl ?_
        exact J.finP rfl
      · skip
        refine Fin.consE rfl (Fin.consE rfl (Fin.consE rfl (Fin.consE rfl (Fin.nil ?_))))
        refine J.unguard rfl rfl rfl ?_
        refine J.callD (v := .bool true) Ty.bd50 rfl rfl (fun w1 hw => same04_spec f hf s1 s2 w1 (hs1.below (hw.drop (List.nil_sublist _)).below) (hs2.below (hw.drop (List.nil_sublist _)).below)) ?_
        exact J.finQ rfl
      · skip
        refine Fin.consE rfl (Fin.consE rfl (Fin.nil ?_))
        first | refine J.skip rfl rfl rfl rfl rfl ?_ | refine J.skipU rfl rfl rfl rfl ?_ | (refine J.unguard rfl rfl rfl ?_; refine J.not rfl rfl ?_)
        exact J.finP rfl
      · skip
        refine Fin.consE rfl (Fin.consE rfl (Fin.nil ?_))
        (first | refine J.pickT rfl rfl rfl ?_ | refine J.pickF rfl rfl rfl ?_)
        exact J.finP rfl
    case htail =>
      refine Fin.consE rfl (Fin.consE rfl (Fin.consE rfl (Fin.consE rfl (Fin.consE rfl (Fin.consE rfl (Fin.consE rfl (Fin.consE rfl (Fin.consE rfl (Fin.consE rfl (Fin.consE rfl (Fin.consE rfl (Fin.consE rfl (Fin.consE rfl (Fin.consE rfl (Fin.consE rfl (Fin.consE rfl (Fin.consE rfl (Fin.consE rfl (Fin.consE rfl (Fin.consE rfl (Fin.consE rfl (Fin.consE rfl (Fin.consE rfl (Fin.consE rfl (Fin.consE rfl (Fin.consE rfl (Fin.consE rfl (Fin.consE rfl (Fin.nil ?_)))))))))))))))))))))))))))))
      refine J.nil ?_
      refine JX.thenN (hK9 _ _ ?_)
      first | refine JC.condF rfl ?_ | refine JC.cond rfl (fun h => by first | (exfalso; simp at h; omega) | (simp at h)) (fun _ => ?_)
      refine JC.skip ?_
      refine JX.blockN ?_
      refine JX.thenN (hK7 _ _ ?_)
      refine JC.region ?_
      (first | refine J.addN rfl rfl (by omega) (by omega) rfl ?_ | refine J.bin rfl rfl rfl rfl ?_)
      refine J.move rfl rfl ?_
      refine J.nil ?_
      refine JX.thenN ?_
      refine JX.again 1 ?_ ?_ ?_
      · omega
      · exact ⟨rfl, rfl, rfl, rfl, trivial⟩
      · exact fun w1 hw => ⟨Nat.le_refl _, hw⟩
  · skip
    try simp only [decide_eq_true_eq, decide_eq_false_iff_not, beq_iff_eq, bne_iff_ne, bne_eq_false_iff_eq, ne_eq, beq_eq_false_iff_ne, Bool.not_eq_true, Bool.not_eq_false, Int.not_lt, Int.not_le] at h1
    refine JC.exit ?_
    refine JX.thenE ?_
    refine JX.thenE ?_
    refine JX.blockE ?_
    refine JX.thenN (hK3 _ _ ?_)
    refine JC.seq (fun K10 hK10 => ?_)
    refine JC.region ?_
    refine J.assign rfl rfl ?_
    refine J.nil ?_
    refine JX.thenN (hK10 _ _ ?_)
    refine JC.ret ?_
    refine JX.ret1 rfl rfl (fun w hw => ?_)
    exact ⟨rfl, (hw.drop (List.nil_sublist _)).below⟩

end Go.Proofs.Ytpldpkdlloolkaa
/-
  A table of entries, and the document's: contract.
-/
namespace Go.Proofs.Ytpldpkdlloolkaa
open Go.J Go.RowKit
set_option linter.unusedVariables false
set_option linter.unusedSimpArgs false
set_option maxRecDepth 4000
structure LaidS where
  t1 : Nat
  m1 : Nat
  rt : Nat
  es : Array MapEntry
  ck : Nat
  vr : Value
  lr : List (Nat × Obj)
abbrev LaidS.blk (x : LaidS) (mo : Int) : List (Nat × Obj) := (x.t1, tabO mo x.m1) :: (x.m1, .map x.es x.ck) :: (x.rt, rtabO x.vr mo) :: x.lr

set_option maxHeartbeats 1000000 in
theorem laid_spec (v : Value) (xs : List EV) (most : Int) (w : World) (hrv : Row w v xs.length (fE xs)) (hok : ∀ x, x ∈ xs → okE x) (hxl : xs.length ≤ 1954687338213) {mo : Int} (hmo : min (max most 0) 128 = mo) :
    Calls Try.prog 45 [v, .int .i64 most].toArray w fun r w' => ∃ x : LaidS, r = .returned (.tuple #[.pointer (some ⟨x.t1, 0, none⟩), .pointer (some ⟨x.rt, 0, none⟩)]) ∧ (Tab (laidL mo xs) x.es x.ck ∧ Vec 34 51 x.vr (ordE (laidL mo xs)).length (fE (ordE (laidL mo xs))) x.lr) ∧ St w [] (x.blk mo) w' := by
  obtain ⟨av, cv, rfl, hcv, _⟩ := id hrv
  have hmb : mo ≤ 128 := by omega
  have hmb0 : 0 ≤ mo := by omega
  have hvr0 : Vec 34 51 (.slice none 0 0) (ordE (laidL mo (xs.take 0))).length (fE (ordE (laidL mo (xs.take 0)))) [] := by rw [show ordE (laidL mo (xs.take 0)) = [] from by simp [ordE, laidL]]; exact Vec.nil _ _
  refine calls_of_J (args := [.slice av xs.length cv, .int .i64 most]) (e := [(0, .slice av xs.length cv), (1, .int .i64 most)]) Try.func45 rfl rfl ⟨rfl, rfl, trivial⟩ (St.start w) ?_
  refine JC.seq (fun K0 hK0 => ?_)
  refine JC.region ?_
  refine J.assign rfl rfl ?_
  refine J.assign rfl rfl ?_
  refine J.nil ?_
  refine JX.thenN (hK0 _ _ ?_)
  refine JC.seq (fun K1 hK1 => ?_)
  refine JC.region ?_
  refine J.move rfl rfl ?_
  refine J.perm ([] ++ ([])) (.refl _) ?_
  refine J.callS (α := Nat × Nat) (V := fun x => .pointer (some ⟨x.1, 0, none⟩)) (Pr := fun _ => True) (L := fun x => [(x.1, tabO (min (max (most) 0) 128) x.2), (x.2, .map #[] 0)]) (l1 := []) Ty.bd16 rfl rfl (fun w1 hw => (new_spec most w1).mono fun _ _ ⟨x, h1, h2⟩ => ⟨x, h1, trivial, h2⟩) (fun x _ => ?_)
  obtain ⟨t1, m1⟩ := x
  simp only [List.cons_append, List.nil_append]
  rw [hmo]
  refine J.assign rfl rfl ?_
  refine J.nil ?_
  refine JX.thenN (hK1 _ _ ?_)
  refine JC.seq (fun K2 hK2 => ?_)
  refine JC.region ?_
  refine J.move rfl rfl ?_
  refine J.perm ([] ++ ((t1, tabO mo m1) :: (m1, .map #[] 0) :: [])) (.refl _) ?_
  refine J.callS (α := Nat) (V := fun x => .pointer (some ⟨x, 0, none⟩)) (Pr := fun _ => True) (L := fun x => [(x, rtabO (.slice none 0 0) (min (max (most) 0) 128))]) (l1 := []) Ty.bd37 rfl rfl (fun w1 hw => (rnew_spec most w1).mono fun _ _ ⟨x, h1, h2⟩ => ⟨x, h1, trivial, h2⟩) (fun rt _ => ?_)
  simp only [List.cons_append, List.nil_append]
  rw [hmo]
  refine J.assign rfl rfl ?_
  refine J.nil ?_
  refine JX.thenN (hK2 _ _ ?_)
  refine JC.seq (fun K3 hK3 => ?_)
  refine JC.seq (fun K4 hK4 => ?_)
  refine JC.region ?_
  refine J.move rfl rfl ?_
  refine J.lenS rfl Ty.u62 rfl rfl ?_
  refine J.move rfl rfl ?_
  refine J.nil ?_
  refine JX.thenN (hK4 _ _ ?_)
  refine JC.block ?_
  refine JC.conseq (JC.cov (f := (fun st => [(6, .pointer (some ⟨t1, 0, none⟩)), (7, .pointer (some ⟨rt, 0, none⟩)), (14, .slice av xs.length cv), (15, .int .i64 ((xs.length : Nat) : Int)), (16, .int .i64 ((st.1 : Nat) : Int))]) ((0, #[], 0, .slice none 0 0, []) : Nat × Array MapEntry × Nat × Value × List (Nat × Obj))) ⟨rfl, rfl, rfl, rfl, rfl, trivial⟩ (JC.loop (α := Nat × Array MapEntry × Nat × Value × List (Nat × Obj)) (fun st => [(6, .pointer (some ⟨t1, 0, none⟩)), (7, .pointer (some ⟨rt, 0, none⟩)), (14, .slice av xs.length cv), (15, .int .i64 ((xs.length : Nat) : Int)), (16, .int .i64 ((st.1 : Nat) : Int))]) (fun st w' => (st.1 ≤ xs.length ∧ Tab (laidL mo (xs.take st.1)) st.2.1 st.2.2.1 ∧ Vec 34 51 st.2.2.2.1 (ordE (laidL mo (xs.take st.1))).length (fE (ordE (laidL mo (xs.take st.1)))) st.2.2.2.2) ∧ St w [] ((t1, tabO mo m1) :: (m1, .map st.2.1 st.2.2.1) :: (rt, rtabO st.2.2.2.1 mo) :: st.2.2.2.2) w') (fun st => xs.length - st.1) ((0, #[], 0, .slice none 0 0, []) : Nat × Array MapEntry × Nat × Value × List (Nat × Obj)) (fun st => ?_))) (fun w hw => ⟨⟨Nat.zero_le _, Tab.nil, hvr0⟩, hw.perm (by (refine perm_cnt (fun _ => ?_)); simp only [cntB_append, cntB_cons, cntB_nil, Nat.add_zero, Nat.zero_add]; try ac_rfl)⟩)
  obtain ⟨i, es, ck, vr, lr⟩ := st
  refine JC.pr (fun hx1 => ?_)
  obtain ⟨hi, hT, hvr⟩ := hx1
  simp only at hi hT hvr ⊢
  obtain ⟨L, hLe⟩ : ∃ L, laidL mo (xs.take i) = L := ⟨_, rfl⟩
  have hgood := laidL_good mo (xs.take i)
  rw [hLe] at hT hvr hgood
  obtain ⟨ar, cr, rfl, hcr⟩ := hvr.form
  have hlen := hgood.len
  have hol := (ordE_perm L).length_eq
  have hl128 : L.length ≤ 128 := by omega
  have ho128 : (ordE L).length ≤ 128 := by omega
  refine JC.seq (fun K5 hK5 => ?_)
  refine JC.region ?_
  refine J.bin rfl rfl rfl rfl ?_
  refine J.nil ?_
  refine JX.thenN (hK5 _ _ ?_)
  refine JC.seq (fun K6 hK6 => ?_)
  refine JC.cond rfl (fun h0 => ?_) (fun h0 => ?_)
  · skip
    have hlt : i < xs.length := by simp at h0; omega
    have hflx := fE_length xs
    have hclx := (Row.some hrv (by omega))
    obtain ⟨qx, ox, cx', hqe, _, _⟩ := hclx
    simp only [Value.slice.injEq] at hqe
    obtain ⟨rfl, _, rfl⟩ := hqe
    obtain ⟨xa, hxa⟩ : ∃ x, xs[i]? = some x := ⟨_, List.getElem?_eq_getElem hlt⟩
    have hxo := hok xa (List.mem_of_getElem? hxa)
    refine JC.skip ?_
    refine JX.thenN (hK6 _ _ ?_)
    refine JC.seq (fun K7 hK7 => ?_)
    refine JC.block ?_
    refine JC.seq (fun K8 hK8 => ?_)
    refine JC.region ?_
    refine J.indexAddrS Ty.el62 Ty.s34 rfl rfl (by omega) (by omega) rfl ?_
    refine J.loadA (vs := cE xa) Ty.a34 Ty.s34 rfl rfl (fun w1 hw => rowE_at (hrv.below (hw.drop (List.nil_sublist _)).below) hxa (by omega)) rfl ?_
    refine J.alloc Ty.zE_ rfl rfl (fun b9 => ?_)
    refine J.storeW (cs := cE zE) (vs := cE xa) Ty.s34 rfl rfl rfl rfl rfl (one_cE _) .here ?_
    refine J.nil ?_
    refine JX.thenN (hK8 _ _ ?_)
    refine JC.seq (fun K9 hK9 => ?_)
    refine JC.region ?_
    refine J.move rfl rfl ?_
    refine J.loadOA (vs := cE xa) Ty.a34 Ty.s34 rfl (.head _) rfl rfl rfl ?_
    refine J.perm ([(t1, tabO mo m1), (m1, .map es ck)] ++ ((b9, cb (cE xa) 34) :: (rt, rtabO (.slice ar (ordE L).length cr) mo) :: lr)) (by (refine perm_cnt (fun _ => ?_)); simp only [cntB_append, cntB_cons, cntB_nil, Nat.add_zero, Nat.zero_add]; try ac_rfl) ?_
    refine J.callS (α := Array MapEntry × Nat) (V := fun _ => .int .i64 (tadd (L) mo xa).1) (Pr := fun y => Tab (tadd (L) mo xa).2 y.1 y.2) (L := fun y => [(t1, tabO mo m1), (m1, .map y.1 y.2)]) (l1 := [(t1, tabO mo m1), (m1, .map es ck)]) Ty.bd17 rfl rfl (fun w1 hw => (add_spec t1 m1 mo (L) es ck w1 hw.owns hT xa hxo).mono fun _ _ ⟨y, h1, h2, h3⟩ => ⟨y, h1, h2, h3⟩) (fun y hT2 => ?_)
    obtain ⟨es2, ck2⟩ := y
    simp only [List.cons_append, List.nil_append] at hT2 ⊢
    refine J.nil ?_
    refine JX.thenN (hK9 _ _ ?_)
    refine JC.region ?_
    refine J.move rfl rfl ?_
    refine J.loadOA (vs := cE xa) Ty.a34 Ty.s34 rfl (.tail _ (.tail _ (.head _))) rfl rfl rfl ?_
    refine J.perm ((((rt, rtabO (.slice ar (ordE L).length cr) mo)) :: lr) ++ ((b9, cb (cE xa) 34) :: (t1, tabO mo m1) :: (m1, .map es2 ck2) :: [])) (by (refine perm_cnt (fun _ => ?_)); simp only [cntB_append, cntB_cons, cntB_nil, Nat.add_zero, Nat.zero_add]; try ac_rfl) ?_
    refine J.callS (α := Value × List (Nat × Obj)) (V := fun _ => .int .i64 (tadd L mo xa).1) (Pr := fun y => Vec 34 51 y.1 (ordE (tadd L mo xa).2).length (fE (ordE (tadd L mo xa).2)) y.2) (L := fun y => (rt, rtabO y.1 mo) :: y.2) (l1 := (((rt, rtabO (.slice ar (ordE L).length cr) mo)) :: lr)) Ty.bd38 rfl rfl (fun w1 hw => (radd_spec rt _ mo (ordE L) lr w1 hw.owns hvr (ordE_ok hT) (by omega) xa hxo).mono fun _ _ ⟨y, h1, h2, h3⟩ => by rw [radd_ord hT.dist] at h1 h2; exact ⟨y, h1, h2, h3⟩) (fun y hv7 => ?_)
    obtain ⟨v7, l7⟩ := y
    simp only [List.cons_append, List.nil_append] at hv7 ⊢
    refine J.conseq (I' := St w [] ((t1, tabO mo m1) :: (m1, .map es2 ck2) :: (rt, rtabO v7 mo) :: l7)) ?_ (fun w1 hw => (hw.perm (l' := (b9, cb (cE xa) 34) :: (t1, tabO mo m1) :: (m1, .map es2 ck2) :: (rt, rtabO v7 mo) :: l7) (by (refine perm_cnt (fun _ => ?_)); simp only [cntB_append, cntB_cons, cntB_nil, Nat.add_zero, Nat.zero_add]; try ac_rfl)).drop (List.sublist_cons_self _ _))
    refine J.nil ?_
    refine JX.blockN ?_
    refine JX.thenN (hK7 _ _ ?_)
    refine JC.region ?_
    (first | refine J.addN rfl rfl (by omega) (by omega) rfl ?_ | refine J.bin rfl rfl rfl rfl ?_)
    refine J.move rfl rfl ?_
    refine J.nil ?_
    refine JX.thenN ?_
    refine JX.again ((i + 1, es2, ck2, v7, l7) : Nat × Array MapEntry × Nat × Value × List (Nat × Obj)) ?_ ?_ ?_
    · simp only; omega
    · exact ⟨rfl, rfl, rfl, rfl, rfl, trivial⟩
    · exact fun w1 hw => ⟨⟨hlt, by rw [take_snocE hxa, laidL_snoc, hLe]; exact hT2, by rw [take_snocE hxa, laidL_snoc, hLe]; exact hv7⟩, hw⟩
  · skip
    have hge : i = xs.length := by simp at h0; omega
    rw [List.take_of_length_le (by omega)] at hLe
    subst hLe
    refine JC.exit ?_
    refine JX.thenE ?_
    refine JX.thenE ?_
    refine JX.blockE ?_
    refine JX.thenN (hK3 _ _ ?_)
    refine JC.seq (fun K10 hK10 => ?_)
    refine JC.region ?_
    refine J.move rfl rfl ?_
    refine J.move rfl rfl ?_
    refine J.assign rfl rfl ?_
    refine J.assign rfl rfl ?_
    refine J.nil ?_
    refine JX.thenN (hK10 _ _ ?_)
    refine JC.ret ?_
    refine JX.ret2 rfl rfl rfl (fun w hw => ?_)
    exact ⟨⟨t1, m1, rt, es, ck, .slice ar (ordE (laidL mo xs)).length cr, lr⟩, rfl, ⟨hT, hvr⟩, hw⟩

end Go.Proofs.Ytpldpkdlloolkaa
/-
  A node's case and a way that come in.
-/
namespace Go.Proofs.Ytpldpkdlloolkaa
open Go.J Go.RowKit
set_option linter.unusedVariables false
set_option linter.unusedSimpArgs false
set_option maxRecDepth 8000
structure CaseV where
  e : Sl EV
  most : Int
  n : Int
  me : IDV
  o : Sl Bool
structure WayV where
  p : PV
  b : IDV
  t : Sl Int
abbrev cCase (c : CaseV) : List Value := [c.e.v, iV c.most] ++ cW c.n c.me ++ [c.o.v]
abbrev cWay (x : WayV) : List Value := cP x.p ++ cI x.b ++ [x.t.v]
structure RCase (W : World) (cs : List Value) (c : CaseV) : Prop where
  cells : cs = cCase c
  e : RSl 51 72 REnt W [c.e.v] c.e
  most : okN c.most
  n : okN c.n
  o : RSl 1 1 RBool W [c.o.v] c.o
structure RWay (W : World) (cs : List Value) (x : WayV) : Prop where
  cells : cs = cWay x
  p : okN x.p.n
  t : RSl 1 8 (RInt .i64) W [x.t.v] x.t
theorem fsSelf : fieldsT Try.prog 41 = some [(3, 0, 1), (23, 1, 16)] := by kernel_rfl
def RSelf : World → List Value → Int × IDV → Prop := fun _ cs s => cs = cW s.1 s.2 ∧ okN s.1
theorem dec_self : Decodes Try.prog 41 RSelf := by
  intro H enc w fuel cs x h hn
  have hl := dec_len Ty.a41 Ty.s41 h
  obtain ⟨n, hi, wi⟩ := dec_field fsSelf h hn 0 _ rfl (dec_int Ty.u3)
  obtain ⟨a, ha⟩ := dec_field fsSelf h hn 1 _ rfl dec_id
  exact ⟨(n, a), split2 (k := 1) (m := 16) hi ha hl, wi⟩
theorem fsCase : fieldsT Try.prog 85 = some [(62, 0, 1), (3, 1, 1), (41, 2, 17), (28, 19, 1)] := by kernel_rfl
theorem dec_case : Decodes Try.prog 85 RCase := by
  intro H enc w fuel cs x h hn
  have hl := dec_len Ty.a85 Ty.s85 h
  obtain ⟨e, he⟩ := dec_field fsCase h hn 0 _ rfl (dec_slice Ty.el62 Ty.s34 Ty.b34 (by omega) dec_ent)
  obtain ⟨m, hm, wm⟩ := dec_field fsCase h hn 1 _ rfl (dec_int Ty.u3)
  obtain ⟨s, hs, ws⟩ := dec_field fsCase h hn 2 _ rfl dec_self
  obtain ⟨o, ho⟩ := dec_field fsCase h hn 3 _ rfl (dec_slice Ty.el28 Ty.s4 Ty.b4 (by omega) (dec_bool Ty.u4))
  have hd : ∀ (k j : Nat), (cs.drop k).drop j = cs.drop (k + j) := fun k j => by rw [List.drop_drop]
  have e1 : (cs.drop 0).take 1 = [e.v] := he.1
  have e4 : (cs.drop 19).take 1 = [o.v] := ho.1
  have e3 : cs.drop 2 = cW s.1 s.2 ++ [o.v] := split2 (k := 17) (m := 1) (by simpa using hs) (by rw [hd]; exact e4) (by simp; omega)
  have e2 : cs.drop 1 = [iV m] ++ cs.drop 2 := split2 (k := 1) (m := 18) (by simpa using hm) (by rw [hd]; exact List.take_of_length_le (by simp; omega)) (by simp; omega)
  have e0 : cs = [e.v] ++ cs.drop 1 := split2 (k := 1) (m := 19) e1 (List.take_of_length_le (by simp; omega)) hl
  refine ⟨⟨e, m, s.1, s.2, o⟩, ?_, ?_, wm, ws, ?_⟩
  · show cs = [e.v, iV m] ++ cW s.1 s.2 ++ [o.v]
    rw [e0, e2, e3]; rfl
  · have := he; rw [show ((cs.drop (_ : Nat)).take _) = [e.v] from e1] at this; exact this
  · have := ho; rw [show ((cs.drop (_ : Nat)).take _) = [o.v] from e4] at this; exact this
theorem rslB {W : World} {s : Sl Bool} {cs : List Value} (h : RSl 1 1 RBool W cs s) : Row W s.v s.xs.length (s.xs.map bV) := by
  have := rslG (c := fun b => [bV b]) (sz := 1) (fun _ => rfl) (by omega) (fun _ _ _ h => h) h
  rwa [show s.xs.flatMap (fun b => [bV b]) = s.xs.map bV from by induction s.xs with | nil => rfl | cons a l ih => simp [ih]] at this
theorem rslI {W : World} {s : Sl Int} {cs : List Value} (h : RSl 1 8 (RInt .i64) W cs s) : Row W s.v s.xs.length (s.xs.map iV) := by
  have := rslG (c := fun b => [iV b]) (sz := 1) (fun _ => rfl) (by omega) (fun _ _ _ h => h.1) h
  rwa [show s.xs.flatMap (fun b => [iV b]) = s.xs.map iV from by induction s.xs with | nil => rfl | cons a l ih => simp [ih]] at this
end Go.Proofs.Ytpldpkdlloolkaa
/-
  Start behind its table, for any way that is good: contracts.
-/
namespace Go.Proofs.Ytpldpkdlloolkaa
open Go.J Go.RowKit
set_option linter.unusedVariables false
set_option linter.unusedSimpArgs false
set_option maxRecDepth 8000
/-- the frame of a path that begins, with all its fields -/
def fBeg (p : PV) (me b : IDV) (way : List Int) : FV := ⟨4, p, false, me, b, 0, 0, 0, 0, 0, way, [], zI, 0, zI, [], 0, 0, []⟩
theorem rowsBeg {w : World} {p : PV} {me b : IDV} {way : List Int} {tr : Value} (h : Row w tr way.length (way.map iV)) : FRows w (fBeg p me b way) ⟨tr, nilV, nilV, nilV⟩ :=
  ⟨h, ⟨none, 0, rfl, Nat.le_refl _, .inl rfl⟩, ⟨none, 0, rfl, Nat.le_refl _, .inl rfl⟩, ⟨none, 0, rfl, Nat.le_refl _, .inl rfl⟩⟩
end Go.Proofs.Ytpldpkdlloolkaa
/-
  Where a Setup that comes is passed over: contracts.
-/
namespace Go.Proofs.Ytpldpkdlloolkaa
open Go.J Go.RowKit
set_option linter.unusedVariables false
set_option linter.unusedSimpArgs false
set_option maxRecDepth 8000
/-- a frame that is passed over -/
def badT (n fr : Int) (f : FV) : Prop := f.k ≠ 4 ∨ placeP f.tr n < 1 ∨ f.tr[(placeP f.tr n).toNat - 1]? ≠ some fr ∨ ¬ f.tr.Nodup
theorem place_in {xs : List Int} {n : Int} (h : 1 ≤ placeP xs n) : ∃ i : Nat, 1 ≤ i ∧ i < xs.length ∧ placeP xs n = (i : Int) := by
  by_cases hm : n ∈ xs
  · obtain ⟨j, hj⟩ := List.mem_iff_getElem?.1 hm
    have h1 := place_min hj
    have h2 := (List.getElem?_eq_some_iff.1 hj).1
    exact ⟨(placeP xs n).toNat, by omega, by omega, by omega⟩
  · have : ∀ j : Nat, j < xs.length → xs[j]? ≠ some n := fun j _ e => hm (List.mem_iff_getElem?.2 ⟨j, e⟩)
    rw [place_no this] at h
    omega

set_option maxHeartbeats 1000000 in
theorem gtake_no (t : Nat) (n fr : Int) (me : IDV) (f : FV) (s : FSl) (ov : Value) (w : World) (hs : FRows w f s) (hg : BigF f) (hbad : badT n fr f) :
    Calls Try.prog 19 [.pointer (some ⟨t, 0, none⟩), .agg (cW n me).toArray, .int .i64 fr, .agg (cFG f s).toArray, ov].toArray w fun r w' => r = .returned (.agg (cD nilV false false).toArray) ∧ Bel w w' := by
  obtain ⟨vt1, vi1, vv1, vx1⟩ := s
  obtain ⟨at1, ct1, hh, _, _⟩ := _root_.id hs.tr
  simp only at hh
  subst hh
  obtain ⟨ai1, ci1, hh, _, _⟩ := _root_.id hs.ids
  simp only at hh
  subst hh
  obtain ⟨av1, cv1, hh, _, _⟩ := _root_.id hs.val
  simp only at hh
  subst hh
  obtain ⟨ax1, cx1, hh, _, _⟩ := _root_.id hs.txt
  simp only at hh
  subst hh
  have hbt := hg.tr
  refine calls_of_J (args := [.pointer (some ⟨t, 0, none⟩), .agg (cW n me).toArray, .int .i64 fr, .agg (cFG f ⟨.slice at1 f.tr.length ct1, .slice ai1 f.ids.length ci1, .slice av1 f.val.length cv1, .slice ax1 f.txt.length cx1⟩).toArray, ov]) (e := [(0, .pointer (some ⟨t, 0, none⟩)), (1, .agg (cW n me).toArray), (2, .int .i64 fr), (3, .agg (cFG f ⟨.slice at1 f.tr.length ct1, .slice ai1 f.ids.length ci1, .slice av1 f.val.length cv1, .slice ax1 f.txt.length cx1⟩).toArray), (4, ov)]) Try.func19 rfl rfl ⟨rfl, rfl, rfl, rfl, rfl, trivial⟩ (St.start w) ?_
  refine JC.seq (fun K0 hK0 => ?_)
  refine JC.region ?_
  refine J.box rfl rfl rfl (fun b6 => ?_)
  refine J.box rfl rfl rfl (fun b8 => ?_)
  refine J.alloc zN rfl rfl (fun b10 => ?_)
  refine J.nil ?_
  refine JX.thenN (hK0 _ _ ?_)
  refine JC.seq (fun K1 hK1 => ?_)
  by_cases hk : f.k = 4
  · skip
    refine JC.region ?_
    refine J.loadOA (vs := cFG f ⟨.slice at1 f.tr.length ct1, .slice ai1 f.ids.length ci1, .slice av1 f.val.length cv1, .slice ax1 f.txt.length cx1⟩) Ty.a52 Ty.s52 rfl (by repeat first | exact .head _ | apply List.Mem.tail | apply List.mem_append_right) (by exact rfl) rfl rfl ?_
    refine J.perm ([] ++ ((b10, cb (cD nilV false false) 37) :: (b8, cb (cFG f ⟨.slice at1 f.tr.length ct1, .slice ai1 f.ids.length ci1, .slice av1 f.val.length cv1, .slice ax1 f.txt.length cx1⟩) 52) :: (b6, cb (cW n me) 41) :: [])) (.refl _) ?_
    refine J.callS (α := Value × List (Nat × Obj)) (V := fun x => .tuple #[.iface 107 (.agg (cS f.p f.a f.b x.1).toArray), .bool true]) (Pr := fun x => Vec 3 1 x.1 f.tr.length (f.tr.map iV) x.2) (L := fun x => x.2) (l1 := []) Ty.bd55 rfl rfl (fun w1 hw => ofG_spec f ⟨.slice at1 f.tr.length ct1, .slice ai1 f.ids.length ci1, .slice av1 f.val.length cv1, .slice ax1 f.txt.length cx1⟩ w1 (hs.below hw.below) hg hk) (fun x hv8 => ?_)
    obtain ⟨v8, lp8⟩ := x
    simp only at hv8 ⊢
    obtain ⟨a8, c8, rfl, hc8⟩ := hv8.form
    refine J.perm ((b10, cb (cD nilV false false) 37) :: (b8, cb (cFG f ⟨.slice at1 f.tr.length ct1, .slice ai1 f.ids.length ci1, .slice av1 f.val.length cv1, .slice ax1 f.txt.length cx1⟩) 52) :: (b6, cb (cW n me) 41) :: lp8) (by (refine perm_cnt (fun _ => ?_)); simp only [cntB_append, cntB_cons, cntB_nil, Nat.add_zero, Nat.zero_add]; try ac_rfl) ?_
    refine J.move rfl rfl ?_
    refine J.extract rfl rfl rfl ?_
    refine J.extract rfl rfl rfl ?_
    refine J.assign rfl rfl ?_
    refine J.assign rfl rfl ?_
    refine J.nil ?_
    refine JX.thenN (hK1 _ _ ?_)
    refine JC.seq (fun K2 hK2 => ?_)
    refine JC.region ?_
    refine J.move rfl rfl ?_
    (first | refine J.assertT (by kernel_rfl) rfl rfl ?_ | refine J.assertF (by kernel_rfl) rfl rfl zS rfl ?_ | refine J.assertN (by kernel_rfl) rfl zS rfl ?_)
    refine J.move rfl rfl ?_
    refine J.extract rfl rfl rfl ?_
    refine J.extract rfl rfl rfl ?_
    refine J.alloc zS rfl rfl (fun b13 => ?_)
    refine J.storeW Ty.s107 rfl rfl rfl rfl rfl (by simp [Value.oneCell']) (by repeat first | exact .here | apply Up.there) ?_
    refine J.assign rfl rfl ?_
    refine J.nil ?_
    refine JX.thenN (hK2 _ _ ?_)
    refine JC.seq (fun K3 hK3 => ?_)
    refine JC.region ?_
    refine J.fieldAddr Ty.fd107_3 rfl rfl ?_
    refine J.loadO Ty.a26 rfl (by repeat first | exact .head _ | apply List.Mem.tail | apply List.mem_append_right) (by exact rfl) rfl ?_
    refine J.fieldAddr Ty.fd41_0 rfl rfl ?_
    refine J.loadO Ty.a3 rfl (by repeat first | exact .head _ | apply List.Mem.tail | apply List.mem_append_right) (by exact rfl) rfl ?_
    refine J.callB (v := .int .i64 (placeP f.tr n)) (fun w1 w2 hw hb => hw.step hb) Ty.bd56 rfl rfl (fun w1 hw => by
      have h := place_spec _ f.tr n w1 (vec_rowM hv8 hw (fun q hq => by simp [hq])) (by omega)
      first | exact h | (rw [hat] at h; exact h)) ?_
    refine J.assign rfl rfl ?_
    refine J.nil ?_
    refine JX.thenN (hK3 _ _ ?_)
    refine JC.seq (fun K4 hK4 => ?_)
    refine JC.seq (fun K5 hK5 => ?_)
    by_cases hc1 : placeP f.tr n < 1
    · skip
      refine JC.region ?_
      refine J.move rfl rfl ?_
      refine J.eqNil Ty.u29 rfl rfl rfl ?_
      refine J.move rfl rfl ?_
      first | refine J.skip rfl rfl rfl rfl rfl ?_ | refine J.skipU rfl rfl rfl rfl ?_ | (refine J.unguard rfl rfl rfl ?_; refine J.move rfl rfl ?_)
      first | refine J.skip rfl rfl rfl rfl rfl ?_ | refine J.skipU rfl rfl rfl rfl ?_ | (refine J.unguard rfl rfl rfl ?_; refine J.not rfl rfl ?_)
      (first | refine J.pickT rfl rfl rfl ?_ | refine J.pickF rfl rfl rfl ?_)
      refine J.move rfl rfl ?_
      first | refine J.skip rfl rfl rfl rfl rfl ?_ | refine J.skipU rfl rfl rfl rfl ?_ | (refine J.unguard rfl rfl rfl ?_; refine J.move rfl rfl ?_)
      refine J.unguard rfl rfl rfl ?_
      refine J.bin rfl rfl rfl rfl ?_
      refine J.name 43 rfl (show Value.bool _ = .bool true by simp; omega) ?_
      (first | refine J.pickT rfl rfl rfl ?_ | refine J.pickF rfl rfl rfl ?_)
      refine J.move rfl rfl ?_
      first | refine J.skip rfl rfl rfl rfl rfl ?_ | refine J.skipU rfl rfl rfl rfl ?_ | (refine J.unguard rfl rfl rfl ?_; refine J.fieldAddr Ty.fd107_3 rfl rfl ?_)
      first | refine J.skip rfl rfl rfl rfl rfl ?_ | refine J.skipU rfl rfl rfl rfl ?_ | (refine J.unguard rfl rfl rfl ?_; refine J.loadO Ty.a26 rfl (by repeat first | exact .head _ | apply List.Mem.tail | apply List.mem_append_right) (by exact rfl) rfl ?_)
      first | refine J.skip rfl rfl rfl rfl rfl ?_ | refine J.skipU rfl rfl rfl rfl ?_ | (refine J.unguard rfl rfl rfl ?_; refine J.move rfl rfl ?_)
      first | refine J.skip rfl rfl rfl rfl rfl ?_ | refine J.skipU rfl rfl rfl rfl ?_ | (refine J.unguard rfl rfl rfl ?_; (first | refine J.subN rfl rfl (by omega) (by omega) rfl ?_ | refine J.bin rfl rfl rfl rfl ?_))
      refine J.skip rfl rfl rfl rfl rfl ?_
      refine J.skip rfl rfl rfl rfl rfl ?_
      first | refine J.skip rfl rfl rfl rfl rfl ?_ | refine J.skipU rfl rfl rfl rfl ?_ | (refine J.unguard rfl rfl rfl ?_; refine J.move rfl rfl ?_)
      refine J.skip rfl rfl rfl rfl rfl ?_
      (first | refine J.pickT rfl rfl rfl ?_ | refine J.pickF rfl rfl rfl ?_)
      refine J.move rfl rfl ?_
      first | refine J.skip rfl rfl rfl rfl rfl ?_ | refine J.skipU rfl rfl rfl rfl ?_ | (refine J.unguard rfl rfl rfl ?_; refine J.fieldAddr Ty.fd107_3 rfl rfl ?_)
      first | refine J.skip rfl rfl rfl rfl rfl ?_ | refine J.skipU rfl rfl rfl rfl ?_ | (refine J.unguard rfl rfl rfl ?_; refine J.loadO Ty.a26 rfl (by repeat first | exact .head _ | apply List.Mem.tail | apply List.mem_append_right) (by exact rfl) rfl ?_)
      refine J.skip rfl rfl rfl rfl rfl ?_
      first | refine J.skip rfl rfl rfl rfl rfl ?_ | refine J.skipU rfl rfl rfl rfl ?_ | (refine J.unguard rfl rfl rfl ?_; refine J.not rfl rfl ?_)
      (first | refine J.pickT rfl rfl rfl ?_ | refine J.pickF rfl rfl rfl ?_)
      refine J.nil ?_
      refine JX.thenN (hK5 _ _ ?_)
      first | refine JC.condT rfl ?_ | refine JC.cond rfl (fun _ => ?_) (fun h => by first | (exfalso; simp at h; omega) | (simp at h))
      refine JC.seq (fun K6 hK6 => ?_)
      refine JC.region ?_
      refine J.buildS (cs := cD nilV false false) Ty.pl37 zN rfl (by kernel_rfl) rfl ?_
      refine J.storeW Ty.s37 rfl rfl rfl rfl rfl (by simp [Value.oneCell']) (by repeat first | exact .here | apply Up.there) ?_
      refine J.nil ?_
      refine JX.thenN (hK6 _ _ ?_)
      refine JC.ret ?_
      refine JX.thenR ?_
      refine JX.retC rfl rfl Ty.a37 Ty.s37 (vs := cD nilV false false) rfl (fun w1 hw => Cells.of_block (hw.own _ (.tail _ (.head _))) rfl) (fun w1 hw => ?_)
      exact ⟨rfl, (hw.drop (List.nil_sublist _)).below⟩
    · skip
      obtain ⟨i, hi, hi2, hat⟩ := place_in (xs := f.tr) (n := n) (by omega)
      obtain ⟨q8, c8q, sp, hq1, rfl, hcq⟩ := Vec.pos hv8 (by omega)
      simp only [Value.slice.injEq] at hq1
      obtain ⟨rfl, _, rfl⟩ := hq1
      obtain ⟨y, hy⟩ : ∃ y, f.tr[i - 1]? = some y := ⟨_, List.getElem?_eq_getElem (by omega)⟩
      by_cases hc2 : y = fr
      · skip
        have hc3 : ¬ f.tr.Nodup := by
          rcases hbad with h | h | h | h
          · exact absurd hk h
          · exact absurd h hc1
          · exact absurd (by rw [hat]; simp only [Int.toNat_natCast]; rw [hy, hc2]) h
          · exact h
        refine JC.region ?_
        refine J.move rfl rfl ?_
        refine J.eqNil Ty.u29 rfl rfl rfl ?_
        refine J.move rfl rfl ?_
        first | refine J.skip rfl rfl rfl rfl rfl ?_ | refine J.skipU rfl rfl rfl rfl ?_ | (refine J.unguard rfl rfl rfl ?_; refine J.move rfl rfl ?_)
        first | refine J.skip rfl rfl rfl rfl rfl ?_ | refine J.skipU rfl rfl rfl rfl ?_ | (refine J.unguard rfl rfl rfl ?_; refine J.not rfl rfl ?_)
        (first | refine J.pickT rfl rfl rfl ?_ | refine J.pickF rfl rfl rfl ?_)
        refine J.move rfl rfl ?_
        first | refine J.skip rfl rfl rfl rfl rfl ?_ | refine J.skipU rfl rfl rfl rfl ?_ | (refine J.unguard rfl rfl rfl ?_; refine J.move rfl rfl ?_)
        refine J.unguard rfl rfl rfl ?_
        refine J.bin rfl rfl rfl rfl ?_
        refine J.name 43 rfl (show Value.bool _ = .bool false by simp; omega) ?_
        (first | refine J.pickT rfl rfl rfl ?_ | refine J.pickF rfl rfl rfl ?_)
        refine J.move rfl rfl ?_
        first | refine J.skip rfl rfl rfl rfl rfl ?_ | refine J.skipU rfl rfl rfl rfl ?_ | (refine J.unguard rfl rfl rfl ?_; refine J.fieldAddr Ty.fd107_3 rfl rfl ?_)
        first | refine J.skip rfl rfl rfl rfl rfl ?_ | refine J.skipU rfl rfl rfl rfl ?_ | (refine J.unguard rfl rfl rfl ?_; refine J.loadO Ty.a26 rfl (by repeat first | exact .head _ | apply List.Mem.tail | apply List.mem_append_right) (by exact rfl) rfl ?_)
        first | refine J.skip rfl rfl rfl rfl rfl ?_ | refine J.skipU rfl rfl rfl rfl ?_ | (refine J.unguard rfl rfl rfl ?_; refine J.move rfl rfl ?_)
        first | refine J.skip rfl rfl rfl rfl rfl ?_ | refine J.skipU rfl rfl rfl rfl ?_ | (refine J.unguard rfl rfl rfl ?_; (first | refine J.subN rfl rfl (by omega) (by omega) rfl ?_ | refine J.bin rfl rfl rfl rfl ?_))
        refine J.unguard rfl rfl rfl ?_
        refine J.indexAddrS Ty.el26 Ty.s3 rfl rfl (by omega) (by omega) rfl ?_
        refine J.unguard rfl rfl rfl ?_
        refine J.load1 (v := iV y) Ty.a3 rfl (fun w1 hw => rowI_at (i := i - 1) (vec_rowM hv8 hw (fun q hq => by simp [hq])) hy (by omega)) rfl ?_
        first | refine J.skip rfl rfl rfl rfl rfl ?_ | refine J.skipU rfl rfl rfl rfl ?_ | (refine J.unguard rfl rfl rfl ?_; refine J.move rfl rfl ?_)
        refine J.unguard rfl rfl rfl ?_
        refine J.bin rfl rfl rfl rfl ?_
        refine J.name 53 rfl (show Value.bool _ = .bool false by simp [hc2]) ?_
        (first | refine J.pickT rfl rfl rfl ?_ | refine J.pickF rfl rfl rfl ?_)
        refine J.move rfl rfl ?_
        first | refine J.skip rfl rfl rfl rfl rfl ?_ | refine J.skipU rfl rfl rfl rfl ?_ | (refine J.unguard rfl rfl rfl ?_; refine J.fieldAddr Ty.fd107_3 rfl rfl ?_)
        first | refine J.skip rfl rfl rfl rfl rfl ?_ | refine J.skipU rfl rfl rfl rfl ?_ | (refine J.unguard rfl rfl rfl ?_; refine J.loadO Ty.a26 rfl (by repeat first | exact .head _ | apply List.Mem.tail | apply List.mem_append_right) (by exact rfl) rfl ?_)
        refine J.unguard rfl rfl rfl ?_
        refine J.callB (v := .bool false) (fun w1 w2 hw hb => hw.step hb) Ty.bd52 rfl rfl (fun w1 hw => by
          have h := simple_spec _ f.tr w1 (vec_rowM hv8 hw (fun q hq => by simp [hq])) (by omega)
          rw [decide_eq_false hc3] at h
          exact h) ?_
        first | refine J.skip rfl rfl rfl rfl rfl ?_ | refine J.skipU rfl rfl rfl rfl ?_ | (refine J.unguard rfl rfl rfl ?_; refine J.not rfl rfl ?_)
        (first | refine J.pickT rfl rfl rfl ?_ | refine J.pickF rfl rfl rfl ?_)
        refine J.nil ?_
        refine JX.thenN (hK5 _ _ ?_)
        first | refine JC.condT rfl ?_ | refine JC.cond rfl (fun _ => ?_) (fun h => by first | (exfalso; simp at h; omega) | (simp at h))
        refine JC.seq (fun K7 hK7 => ?_)
        refine JC.region ?_
        refine J.buildS (cs := cD nilV false false) Ty.pl37 zN rfl (by kernel_rfl) rfl ?_
        refine J.storeW Ty.s37 rfl rfl rfl rfl rfl (by simp [Value.oneCell']) (by repeat first | exact .here | apply Up.there) ?_
        refine J.nil ?_
        refine JX.thenN (hK7 _ _ ?_)
        refine JC.ret ?_
        refine JX.thenR ?_
        refine JX.retC rfl rfl Ty.a37 Ty.s37 (vs := cD nilV false false) rfl (fun w1 hw => Cells.of_block (hw.own _ (.tail _ (.head _))) rfl) (fun w1 hw => ?_)
        exact ⟨rfl, (hw.drop (List.nil_sublist _)).below⟩
      · skip
        refine JC.region ?_
        refine J.move rfl rfl ?_
        refine J.eqNil Ty.u29 rfl rfl rfl ?_
        refine J.move rfl rfl ?_
        first | refine J.skip rfl rfl rfl rfl rfl ?_ | refine J.skipU rfl rfl rfl rfl ?_ | (refine J.unguard rfl rfl rfl ?_; refine J.move rfl rfl ?_)
        first | refine J.skip rfl rfl rfl rfl rfl ?_ | refine J.skipU rfl rfl rfl rfl ?_ | (refine J.unguard rfl rfl rfl ?_; refine J.not rfl rfl ?_)
        (first | refine J.pickT rfl rfl rfl ?_ | refine J.pickF rfl rfl rfl ?_)
        refine J.move rfl rfl ?_
        first | refine J.skip rfl rfl rfl rfl rfl ?_ | refine J.skipU rfl rfl rfl rfl ?_ | (refine J.unguard rfl rfl rfl ?_; refine J.move rfl rfl ?_)
        refine J.unguard rfl rfl rfl ?_
        refine J.bin rfl rfl rfl rfl ?_
        refine J.name 43 rfl (show Value.bool _ = .bool false by simp; omega) ?_
        (first | refine J.pickT rfl rfl rfl ?_ | refine J.pickF rfl rfl rfl ?_)
        refine J.move rfl rfl ?_
        first | refine J.skip rfl rfl rfl rfl rfl ?_ | refine J.skipU rfl rfl rfl rfl ?_ | (refine J.unguard rfl rfl rfl ?_; refine J.fieldAddr Ty.fd107_3 rfl rfl ?_)
        first | refine J.skip rfl rfl rfl rfl rfl ?_ | refine J.skipU rfl rfl rfl rfl ?_ | (refine J.unguard rfl rfl rfl ?_; refine J.loadO Ty.a26 rfl (by repeat first | exact .head _ | apply List.Mem.tail | apply List.mem_append_right) (by exact rfl) rfl ?_)
        first | refine J.skip rfl rfl rfl rfl rfl ?_ | refine J.skipU rfl rfl rfl rfl ?_ | (refine J.unguard rfl rfl rfl ?_; refine J.move rfl rfl ?_)
        first | refine J.skip rfl rfl rfl rfl rfl ?_ | refine J.skipU rfl rfl rfl rfl ?_ | (refine J.unguard rfl rfl rfl ?_; (first | refine J.subN rfl rfl (by omega) (by omega) rfl ?_ | refine J.bin rfl rfl rfl rfl ?_))
        refine J.unguard rfl rfl rfl ?_
        refine J.indexAddrS Ty.el26 Ty.s3 rfl rfl (by omega) (by omega) rfl ?_
        refine J.unguard rfl rfl rfl ?_
        refine J.load1 (v := iV y) Ty.a3 rfl (fun w1 hw => rowI_at (i := i - 1) (vec_rowM hv8 hw (fun q hq => by simp [hq])) hy (by omega)) rfl ?_
        first | refine J.skip rfl rfl rfl rfl rfl ?_ | refine J.skipU rfl rfl rfl rfl ?_ | (refine J.unguard rfl rfl rfl ?_; refine J.move rfl rfl ?_)
        refine J.unguard rfl rfl rfl ?_
        refine J.bin rfl rfl rfl rfl ?_
        refine J.name 53 rfl (show Value.bool _ = .bool true by simp [hc2]) ?_
        (first | refine J.pickT rfl rfl rfl ?_ | refine J.pickF rfl rfl rfl ?_)
        refine J.move rfl rfl ?_
        first | refine J.skip rfl rfl rfl rfl rfl ?_ | refine J.skipU rfl rfl rfl rfl ?_ | (refine J.unguard rfl rfl rfl ?_; refine J.fieldAddr Ty.fd107_3 rfl rfl ?_)
        first | refine J.skip rfl rfl rfl rfl rfl ?_ | refine J.skipU rfl rfl rfl rfl ?_ | (refine J.unguard rfl rfl rfl ?_; refine J.loadO Ty.a26 rfl (by repeat first | exact .head _ | apply List.Mem.tail | apply List.mem_append_right) (by exact rfl) rfl ?_)
        refine J.skip rfl rfl rfl rfl rfl ?_
        first | refine J.skip rfl rfl rfl rfl rfl ?_ | refine J.skipU rfl rfl rfl rfl ?_ | (refine J.unguard rfl rfl rfl ?_; refine J.not rfl rfl ?_)
        (first | refine J.pickT rfl rfl rfl ?_ | refine J.pickF rfl rfl rfl ?_)
        refine J.nil ?_
        refine JX.thenN (hK5 _ _ ?_)
        first | refine JC.condT rfl ?_ | refine JC.cond rfl (fun _ => ?_) (fun h => by first | (exfalso; simp at h; omega) | (simp at h))
        refine JC.seq (fun K8 hK8 => ?_)
        refine JC.region ?_
        refine J.buildS (cs := cD nilV false false) Ty.pl37 zN rfl (by kernel_rfl) rfl ?_
        refine J.storeW Ty.s37 rfl rfl rfl rfl rfl (by simp [Value.oneCell']) (by repeat first | exact .here | apply Up.there) ?_
        refine J.nil ?_
        refine JX.thenN (hK8 _ _ ?_)
        refine JC.ret ?_
        refine JX.thenR ?_
        refine JX.retC rfl rfl Ty.a37 Ty.s37 (vs := cD nilV false false) rfl (fun w1 hw => Cells.of_block (hw.own _ (.tail _ (.head _))) rfl) (fun w1 hw => ?_)
        exact ⟨rfl, (hw.drop (List.nil_sublist _)).below⟩
  · skip
    refine JC.region ?_
    refine J.loadOA (vs := cFG f ⟨.slice at1 f.tr.length ct1, .slice ai1 f.ids.length ci1, .slice av1 f.val.length cv1, .slice ax1 f.txt.length cx1⟩) Ty.a52 Ty.s52 rfl (by repeat first | exact .head _ | apply List.Mem.tail | apply List.mem_append_right) (by exact rfl) rfl rfl ?_
    refine J.perm ([] ++ ((b10, cb (cD nilV false false) 37) :: (b8, cb (cFG f ⟨.slice at1 f.tr.length ct1, .slice ai1 f.ids.length ci1, .slice av1 f.val.length cv1, .slice ax1 f.txt.length cx1⟩) 52) :: (b6, cb (cW n me) 41) :: [])) (.refl _) ?_
    refine J.callS (α := Value × Bool) (V := fun x => .tuple #[x.1, .bool x.2]) (Pr := fun x => NoSetup x.1) (L := fun _ => []) (l1 := []) Ty.bd55 rfl rfl (fun w1 hw => of_other f ⟨.slice at1 f.tr.length ct1, .slice ai1 f.ids.length ci1, .slice av1 f.val.length cv1, .slice ax1 f.txt.length cx1⟩ w1 (hs.below hw.below) hg hk) (fun x hx => ?_)
    obtain ⟨iv, iok⟩ := x
    simp only at hx ⊢
    refine J.perm ((b10, cb (cD nilV false false) 37) :: (b8, cb (cFG f ⟨.slice at1 f.tr.length ct1, .slice ai1 f.ids.length ci1, .slice av1 f.val.length cv1, .slice ax1 f.txt.length cx1⟩) 52) :: (b6, cb (cW n me) 41) :: []) (.refl _) ?_
    refine J.move rfl rfl ?_
    refine J.extract rfl rfl rfl ?_
    refine J.extract rfl rfl rfl ?_
    refine J.assign rfl rfl ?_
    refine J.assign rfl rfl ?_
    refine J.nil ?_
    refine JX.thenN (hK1 _ _ ?_)
    refine JC.seq (fun K9 hK9 => ?_)
    rcases hx with rfl | ⟨T8, x8, rfl, hT8⟩
    · skip
      refine JC.region ?_
      refine J.move rfl rfl ?_
      refine J.assertN (by kernel_rfl) rfl zS rfl ?_
      refine J.move rfl rfl ?_
      refine J.extract rfl rfl rfl ?_
      refine J.extract rfl rfl rfl ?_
      refine J.alloc zS rfl rfl (fun b13 => ?_)
      refine J.storeW Ty.s107 rfl rfl rfl rfl rfl (by simp [Value.oneCell']) (by repeat first | exact .here | apply Up.there) ?_
      refine J.assign rfl rfl ?_
      refine J.nil ?_
      refine JX.thenN (hK9 _ _ ?_)
      refine JC.seq (fun K10 hK10 => ?_)
      refine JC.region ?_
      refine J.fieldAddr Ty.fd107_3 rfl rfl ?_
      refine J.loadO Ty.a26 rfl (by repeat first | exact .head _ | apply List.Mem.tail | apply List.mem_append_right) (by exact rfl) rfl ?_
      refine J.fieldAddr Ty.fd41_0 rfl rfl ?_
      refine J.loadO Ty.a3 rfl (by repeat first | exact .head _ | apply List.Mem.tail | apply List.mem_append_right) (by exact rfl) rfl ?_
      refine J.callB (v := .int .i64 (-1)) (fun w1 w2 hw hb => hw.step hb) Ty.bd56 rfl rfl (fun w1 hw => by
        have h := place_spec _ [] n w1 ⟨none, 0, rfl, Nat.le_refl _, .inl rfl⟩ (by simp)
        first | exact h | (rw [hat] at h; exact h)) ?_
      refine J.assign rfl rfl ?_
      refine J.nil ?_
      refine JX.thenN (hK10 _ _ ?_)
      refine JC.seq (fun K11 hK11 => ?_)
      refine JC.seq (fun K12 hK12 => ?_)
      refine JC.region ?_
      refine J.move rfl rfl ?_
      refine J.eqNil Ty.u29 rfl rfl rfl ?_
      refine J.move rfl rfl ?_
      first | refine J.skip rfl rfl rfl rfl rfl ?_ | refine J.skipU rfl rfl rfl rfl ?_ | (refine J.unguard rfl rfl rfl ?_; refine J.move rfl rfl ?_)
      first | refine J.skip rfl rfl rfl rfl rfl ?_ | refine J.skipU rfl rfl rfl rfl ?_ | (refine J.unguard rfl rfl rfl ?_; refine J.not rfl rfl ?_)
      (first | refine J.pickT rfl rfl rfl ?_ | refine J.pickF rfl rfl rfl ?_)
      refine J.move rfl rfl ?_
      first | refine J.skip rfl rfl rfl rfl rfl ?_ | refine J.skipU rfl rfl rfl rfl ?_ | (refine J.unguard rfl rfl rfl ?_; refine J.move rfl rfl ?_)
      refine J.skip rfl rfl rfl rfl rfl ?_
      (first | refine J.pickT rfl rfl rfl ?_ | refine J.pickF rfl rfl rfl ?_)
      refine J.move rfl rfl ?_
      first | refine J.skip rfl rfl rfl rfl rfl ?_ | refine J.skipU rfl rfl rfl rfl ?_ | (refine J.unguard rfl rfl rfl ?_; refine J.fieldAddr Ty.fd107_3 rfl rfl ?_)
      first | refine J.skip rfl rfl rfl rfl rfl ?_ | refine J.skipU rfl rfl rfl rfl ?_ | (refine J.unguard rfl rfl rfl ?_; refine J.loadO Ty.a26 rfl (by repeat first | exact .head _ | apply List.Mem.tail | apply List.mem_append_right) (by exact rfl) rfl ?_)
      first | refine J.skip rfl rfl rfl rfl rfl ?_ | refine J.skipU rfl rfl rfl rfl ?_ | (refine J.unguard rfl rfl rfl ?_; refine J.move rfl rfl ?_)
      first | refine J.skip rfl rfl rfl rfl rfl ?_ | refine J.skipU rfl rfl rfl rfl ?_ | (refine J.unguard rfl rfl rfl ?_; (first | refine J.subN rfl rfl (by omega) (by omega) rfl ?_ | refine J.bin rfl rfl rfl rfl ?_))
      refine J.skip rfl rfl rfl rfl rfl ?_
      refine J.skip rfl rfl rfl rfl rfl ?_
      first | refine J.skip rfl rfl rfl rfl rfl ?_ | refine J.skipU rfl rfl rfl rfl ?_ | (refine J.unguard rfl rfl rfl ?_; refine J.move rfl rfl ?_)
      refine J.skip rfl rfl rfl rfl rfl ?_
      (first | refine J.pickT rfl rfl rfl ?_ | refine J.pickF rfl rfl rfl ?_)
      refine J.move rfl rfl ?_
      first | refine J.skip rfl rfl rfl rfl rfl ?_ | refine J.skipU rfl rfl rfl rfl ?_ | (refine J.unguard rfl rfl rfl ?_; refine J.fieldAddr Ty.fd107_3 rfl rfl ?_)
      first | refine J.skip rfl rfl rfl rfl rfl ?_ | refine J.skipU rfl rfl rfl rfl ?_ | (refine J.unguard rfl rfl rfl ?_; refine J.loadO Ty.a26 rfl (by repeat first | exact .head _ | apply List.Mem.tail | apply List.mem_append_right) (by exact rfl) rfl ?_)
      refine J.skip rfl rfl rfl rfl rfl ?_
      first | refine J.skip rfl rfl rfl rfl rfl ?_ | refine J.skipU rfl rfl rfl rfl ?_ | (refine J.unguard rfl rfl rfl ?_; refine J.not rfl rfl ?_)
      (first | refine J.pickT rfl rfl rfl ?_ | refine J.pickF rfl rfl rfl ?_)
      refine J.nil ?_
      refine JX.thenN (hK12 _ _ ?_)
      first | refine JC.condT rfl ?_ | refine JC.cond rfl (fun _ => ?_) (fun h => by first | (exfalso; simp at h; omega) | (simp at h))
      refine JC.seq (fun K13 hK13 => ?_)
      refine JC.region ?_
      refine J.buildS (cs := cD nilV false false) Ty.pl37 zN rfl (by kernel_rfl) rfl ?_
      refine J.storeW Ty.s37 rfl rfl rfl rfl rfl (by simp [Value.oneCell']) (by repeat first | exact .here | apply Up.there) ?_
      refine J.nil ?_
      refine JX.thenN (hK13 _ _ ?_)
      refine JC.ret ?_
      refine JX.thenR ?_
      refine JX.retC rfl rfl Ty.a37 Ty.s37 (vs := cD nilV false false) rfl (fun w1 hw => Cells.of_block (hw.own _ (.tail _ (.head _))) rfl) (fun w1 hw => ?_)
      exact ⟨rfl, (hw.drop (List.nil_sublist _)).below⟩
    · skip
      refine JC.region ?_
      refine J.move rfl rfl ?_
      refine J.assertF (by kernel_rfl) rfl hT8 zS rfl ?_
      refine J.move rfl rfl ?_
      refine J.extract rfl rfl rfl ?_
      refine J.extract rfl rfl rfl ?_
      refine J.alloc zS rfl rfl (fun b13 => ?_)
      refine J.storeW Ty.s107 rfl rfl rfl rfl rfl (by simp [Value.oneCell']) (by repeat first | exact .here | apply Up.there) ?_
      refine J.assign rfl rfl ?_
      refine J.nil ?_
      refine JX.thenN (hK9 _ _ ?_)
      refine JC.seq (fun K14 hK14 => ?_)
      refine JC.region ?_
      refine J.fieldAddr Ty.fd107_3 rfl rfl ?_
      refine J.loadO Ty.a26 rfl (by repeat first | exact .head _ | apply List.Mem.tail | apply List.mem_append_right) (by exact rfl) rfl ?_
      refine J.fieldAddr Ty.fd41_0 rfl rfl ?_
      refine J.loadO Ty.a3 rfl (by repeat first | exact .head _ | apply List.Mem.tail | apply List.mem_append_right) (by exact rfl) rfl ?_
      refine J.callB (v := .int .i64 (-1)) (fun w1 w2 hw hb => hw.step hb) Ty.bd56 rfl rfl (fun w1 hw => by
        have h := place_spec _ [] n w1 ⟨none, 0, rfl, Nat.le_refl _, .inl rfl⟩ (by simp)
        first | exact h | (rw [hat] at h; exact h)) ?_
      refine J.assign rfl rfl ?_
      refine J.nil ?_
      refine JX.thenN (hK14 _ _ ?_)
      refine JC.seq (fun K15 hK15 => ?_)
      refine JC.seq (fun K16 hK16 => ?_)
      refine JC.region ?_
      refine J.move rfl rfl ?_
      refine J.eqNil Ty.u29 rfl rfl rfl ?_
      refine J.move rfl rfl ?_
      first | refine J.skip rfl rfl rfl rfl rfl ?_ | refine J.skipU rfl rfl rfl rfl ?_ | (refine J.unguard rfl rfl rfl ?_; refine J.move rfl rfl ?_)
      first | refine J.skip rfl rfl rfl rfl rfl ?_ | refine J.skipU rfl rfl rfl rfl ?_ | (refine J.unguard rfl rfl rfl ?_; refine J.not rfl rfl ?_)
      (first | refine J.pickT rfl rfl rfl ?_ | refine J.pickF rfl rfl rfl ?_)
      refine J.move rfl rfl ?_
      first | refine J.skip rfl rfl rfl rfl rfl ?_ | refine J.skipU rfl rfl rfl rfl ?_ | (refine J.unguard rfl rfl rfl ?_; refine J.move rfl rfl ?_)
      refine J.skip rfl rfl rfl rfl rfl ?_
      (first | refine J.pickT rfl rfl rfl ?_ | refine J.pickF rfl rfl rfl ?_)
      refine J.move rfl rfl ?_
      first | refine J.skip rfl rfl rfl rfl rfl ?_ | refine J.skipU rfl rfl rfl rfl ?_ | (refine J.unguard rfl rfl rfl ?_; refine J.fieldAddr Ty.fd107_3 rfl rfl ?_)
      first | refine J.skip rfl rfl rfl rfl rfl ?_ | refine J.skipU rfl rfl rfl rfl ?_ | (refine J.unguard rfl rfl rfl ?_; refine J.loadO Ty.a26 rfl (by repeat first | exact .head _ | apply List.Mem.tail | apply List.mem_append_right) (by exact rfl) rfl ?_)
      first | refine J.skip rfl rfl rfl rfl rfl ?_ | refine J.skipU rfl rfl rfl rfl ?_ | (refine J.unguard rfl rfl rfl ?_; refine J.move rfl rfl ?_)
      first | refine J.skip rfl rfl rfl rfl rfl ?_ | refine J.skipU rfl rfl rfl rfl ?_ | (refine J.unguard rfl rfl rfl ?_; (first | refine J.subN rfl rfl (by omega) (by omega) rfl ?_ | refine J.bin rfl rfl rfl rfl ?_))
      refine J.skip rfl rfl rfl rfl rfl ?_
      refine J.skip rfl rfl rfl rfl rfl ?_
      first | refine J.skip rfl rfl rfl rfl rfl ?_ | refine J.skipU rfl rfl rfl rfl ?_ | (refine J.unguard rfl rfl rfl ?_; refine J.move rfl rfl ?_)
      refine J.skip rfl rfl rfl rfl rfl ?_
      (first | refine J.pickT rfl rfl rfl ?_ | refine J.pickF rfl rfl rfl ?_)
      refine J.move rfl rfl ?_
      first | refine J.skip rfl rfl rfl rfl rfl ?_ | refine J.skipU rfl rfl rfl rfl ?_ | (refine J.unguard rfl rfl rfl ?_; refine J.fieldAddr Ty.fd107_3 rfl rfl ?_)
      first | refine J.skip rfl rfl rfl rfl rfl ?_ | refine J.skipU rfl rfl rfl rfl ?_ | (refine J.unguard rfl rfl rfl ?_; refine J.loadO Ty.a26 rfl (by repeat first | exact .head _ | apply List.Mem.tail | apply List.mem_append_right) (by exact rfl) rfl ?_)
      refine J.skip rfl rfl rfl rfl rfl ?_
      first | refine J.skip rfl rfl rfl rfl rfl ?_ | refine J.skipU rfl rfl rfl rfl ?_ | (refine J.unguard rfl rfl rfl ?_; refine J.not rfl rfl ?_)
      (first | refine J.pickT rfl rfl rfl ?_ | refine J.pickF rfl rfl rfl ?_)
      refine J.nil ?_
      refine JX.thenN (hK16 _ _ ?_)
      first | refine JC.condT rfl ?_ | refine JC.cond rfl (fun _ => ?_) (fun h => by first | (exfalso; simp at h; omega) | (simp at h))
      refine JC.seq (fun K17 hK17 => ?_)
      refine JC.region ?_
      refine J.buildS (cs := cD nilV false false) Ty.pl37 zN rfl (by kernel_rfl) rfl ?_
      refine J.storeW Ty.s37 rfl rfl rfl rfl rfl (by simp [Value.oneCell']) (by repeat first | exact .here | apply Up.there) ?_
      refine J.nil ?_
      refine JX.thenN (hK17 _ _ ?_)
      refine JC.ret ?_
      refine JX.thenR ?_
      refine JX.retC rfl rfl Ty.a37 Ty.s37 (vs := cD nilV false false) rfl (fun w1 hw => Cells.of_block (hw.own _ (.tail _ (.head _))) rfl) (fun w1 hw => ?_)
      exact ⟨rfl, (hw.drop (List.nil_sublist _)).below⟩

set_option maxHeartbeats 1000000 in
theorem rtake_no (rt : Nat) (n fr : Int) (me : IDV) (f : FV) (s : FSl) (ov : Value) (w : World) (hs : FRows w f s) (hg : BigF f) (hbad : badT n fr f) :
    Calls Try.prog 49 [.pointer (some ⟨rt, 0, none⟩), .int .i64 n, .agg (cI me).toArray, .int .i64 fr, .agg (cFG f s).toArray, ov].toArray w fun r w' => r = .returned (.agg (cD nilV false false).toArray) ∧ Bel w w' := by
  obtain ⟨vt1, vi1, vv1, vx1⟩ := s
  obtain ⟨at1, ct1, hh, _, _⟩ := _root_.id hs.tr
  simp only at hh
  subst hh
  obtain ⟨ai1, ci1, hh, _, _⟩ := _root_.id hs.ids
  simp only at hh
  subst hh
  obtain ⟨av1, cv1, hh, _, _⟩ := _root_.id hs.val
  simp only at hh
  subst hh
  obtain ⟨ax1, cx1, hh, _, _⟩ := _root_.id hs.txt
  simp only at hh
  subst hh
  have hbt := hg.tr
  refine calls_of_J (args := [.pointer (some ⟨rt, 0, none⟩), .int .i64 n, .agg (cI me).toArray, .int .i64 fr, .agg (cFG f ⟨.slice at1 f.tr.length ct1, .slice ai1 f.ids.length ci1, .slice av1 f.val.length cv1, .slice ax1 f.txt.length cx1⟩).toArray, ov]) (e := [(0, .pointer (some ⟨rt, 0, none⟩)), (1, .int .i64 n), (2, .agg (cI me).toArray), (3, .int .i64 fr), (4, .agg (cFG f ⟨.slice at1 f.tr.length ct1, .slice ai1 f.ids.length ci1, .slice av1 f.val.length cv1, .slice ax1 f.txt.length cx1⟩).toArray), (5, ov)]) Try.func49 rfl rfl ⟨rfl, rfl, rfl, rfl, rfl, rfl, trivial⟩ (St.start w) ?_
  refine JC.seq (fun K0 hK0 => ?_)
  refine JC.region ?_
  refine J.box rfl rfl rfl (fun b8 => ?_)
  refine J.box rfl rfl rfl (fun b10 => ?_)
  refine J.alloc zN_ rfl rfl (fun b12 => ?_)
  refine J.nil ?_
  refine JX.thenN (hK0 _ _ ?_)
  refine JC.seq (fun K1 hK1 => ?_)
  refine JC.region ?_
  refine J.fieldAddr Ty.fd52_8 rfl rfl ?_
  refine J.loadO (v := .slice at1 f.tr.length ct1) Ty.a26 rfl (.tail _ (.head _)) rfl rfl ?_
  refine J.move rfl rfl ?_
  refine J.callB (v := .int .i64 (placeP f.tr n)) (fun w1 w2 hw hb => hw.step hb) Ty.bd21 rfl rfl (fun w1 hw => place11_spec _ f.tr n w1 (hs.tr.below (hw.drop (List.nil_sublist _)).below) (by omega)) ?_
  refine J.assign rfl rfl ?_
  refine J.nil ?_
  refine JX.thenN (hK1 _ _ ?_)
  refine JC.seq (fun K2 hK2 => ?_)
  refine JC.seq (fun K3 hK3 => ?_)
  by_cases hk : f.k = 4
  · skip
    by_cases hnd : f.tr.Nodup
    · skip
      by_cases hc1 : placeP f.tr n < 1
      · skip
        refine JC.region ?_
        refine J.fieldAddr Ty.fd52_0 rfl rfl ?_
        refine J.loadO Ty.a3 rfl (by repeat first | exact .head _ | apply List.Mem.tail | apply List.mem_append_right) (by exact rfl) rfl ?_
        refine J.bin rfl rfl rfl rfl ?_
        refine J.name 24 rfl (show Value.bool _ = .bool false by simp [hk]) ?_
        refine J.move rfl rfl ?_
        first | refine J.skip rfl rfl rfl rfl rfl ?_ | refine J.skipU rfl rfl rfl rfl ?_ | (refine J.unguard rfl rfl rfl ?_; refine J.fieldAddr Ty.fd52_8 rfl rfl ?_)
        first | refine J.skip rfl rfl rfl rfl rfl ?_ | refine J.skipU rfl rfl rfl rfl ?_ | (refine J.unguard rfl rfl rfl ?_; refine J.loadO Ty.a26 rfl (by repeat first | exact .head _ | apply List.Mem.tail | apply List.mem_append_right) (by exact rfl) rfl ?_)
        refine J.unguard rfl rfl rfl ?_
        refine J.callB (v := .bool true) (fun w1 w2 hw hb => hw.step hb) Ty.bd65 rfl rfl (fun w1 hw => (by have h := simple11_spec _ f.tr w1 (hs.tr.below (hw.drop (List.nil_sublist _)).below) (by omega); rw [decide_eq_true hnd] at h; exact h)) ?_
        first | refine J.skip rfl rfl rfl rfl rfl ?_ | refine J.skipU rfl rfl rfl rfl ?_ | (refine J.unguard rfl rfl rfl ?_; refine J.not rfl rfl ?_)
        (first | refine J.pickT rfl rfl rfl ?_ | refine J.pickF rfl rfl rfl ?_)
        refine J.move rfl rfl ?_
        first | refine J.skip rfl rfl rfl rfl rfl ?_ | refine J.skipU rfl rfl rfl rfl ?_ | (refine J.unguard rfl rfl rfl ?_; refine J.move rfl rfl ?_)
        refine J.unguard rfl rfl rfl ?_
        refine J.bin rfl rfl rfl rfl ?_
        refine J.name 33 rfl (show Value.bool _ = .bool true by simp; omega) ?_
        (first | refine J.pickT rfl rfl rfl ?_ | refine J.pickF rfl rfl rfl ?_)
        refine J.move rfl rfl ?_
        first | refine J.skip rfl rfl rfl rfl rfl ?_ | refine J.skipU rfl rfl rfl rfl ?_ | (refine J.unguard rfl rfl rfl ?_; refine J.fieldAddr Ty.fd52_8 rfl rfl ?_)
        first | refine J.skip rfl rfl rfl rfl rfl ?_ | refine J.skipU rfl rfl rfl rfl ?_ | (refine J.unguard rfl rfl rfl ?_; refine J.loadO Ty.a26 rfl (by repeat first | exact .head _ | apply List.Mem.tail | apply List.mem_append_right) (by exact rfl) rfl ?_)
        first | refine J.skip rfl rfl rfl rfl rfl ?_ | refine J.skipU rfl rfl rfl rfl ?_ | (refine J.unguard rfl rfl rfl ?_; refine J.move rfl rfl ?_)
        first | refine J.skip rfl rfl rfl rfl rfl ?_ | refine J.skipU rfl rfl rfl rfl ?_ | (refine J.unguard rfl rfl rfl ?_; (first | refine J.subN rfl rfl (by omega) (by omega) rfl ?_ | refine J.bin rfl rfl rfl rfl ?_))
        refine J.skip rfl rfl rfl rfl rfl ?_
        refine J.skip rfl rfl rfl rfl rfl ?_
        first | refine J.skip rfl rfl rfl rfl rfl ?_ | refine J.skipU rfl rfl rfl rfl ?_ | (refine J.unguard rfl rfl rfl ?_; refine J.move rfl rfl ?_)
        refine J.skip rfl rfl rfl rfl rfl ?_
        (first | refine J.pickT rfl rfl rfl ?_ | refine J.pickF rfl rfl rfl ?_)
        refine J.nil ?_
        refine JX.thenN (hK3 _ _ ?_)
        first | refine JC.condT rfl ?_ | refine JC.cond rfl (fun _ => ?_) (fun h => by first | (exfalso; simp at h; omega) | (simp at h))
        refine JC.seq (fun K4 hK4 => ?_)
        refine JC.region ?_
        refine J.buildS (cs := cD nilV false false) Ty.pl90 zN_ rfl (by kernel_rfl) rfl ?_
        refine J.storeW Ty.s90 rfl rfl rfl rfl rfl (by simp [Value.oneCell']) (by repeat first | exact .here | apply Up.there) ?_
        refine J.nil ?_
        refine JX.thenN (hK4 _ _ ?_)
        refine JC.ret ?_
        refine JX.thenR ?_
        refine JX.retC rfl rfl Ty.a90 Ty.s90 (vs := cD nilV false false) rfl (fun w1 hw => Cells.of_block (hw.own _ (.head _)) rfl) (fun w1 hw => ?_)
        exact ⟨rfl, (hw.drop (List.nil_sublist _)).below⟩
      · skip
        obtain ⟨i, hi, hi2, hat⟩ := place_in (xs := f.tr) (n := n) (by omega)
        obtain ⟨qw, ow, _, hqe, _, _⟩ := Row.some hs.tr (by simp; omega)
        simp only [Value.slice.injEq] at hqe
        obtain ⟨rfl, _, rfl⟩ := hqe
        obtain ⟨y, hy⟩ : ∃ y, f.tr[i - 1]? = some y := ⟨_, List.getElem?_eq_getElem (by omega)⟩
        have hc2 : ¬ y = fr := by
          intro e
          rcases hbad with h | h | h | h
          · exact absurd hk h
          · exact absurd h hc1
          · exact absurd (by rw [hat]; simp only [Int.toNat_natCast]; rw [hy, e]) h
          · exact absurd hnd h
        refine JC.region ?_
        refine J.fieldAddr Ty.fd52_0 rfl rfl ?_
        refine J.loadO Ty.a3 rfl (by repeat first | exact .head _ | apply List.Mem.tail | apply List.mem_append_right) (by exact rfl) rfl ?_
        refine J.bin rfl rfl rfl rfl ?_
        refine J.name 24 rfl (show Value.bool _ = .bool false by simp [hk]) ?_
        refine J.move rfl rfl ?_
        first | refine J.skip rfl rfl rfl rfl rfl ?_ | refine J.skipU rfl rfl rfl rfl ?_ | (refine J.unguard rfl rfl rfl ?_; refine J.fieldAddr Ty.fd52_8 rfl rfl ?_)
        first | refine J.skip rfl rfl rfl rfl rfl ?_ | refine J.skipU rfl rfl rfl rfl ?_ | (refine J.unguard rfl rfl rfl ?_; refine J.loadO Ty.a26 rfl (by repeat first | exact .head _ | apply List.Mem.tail | apply List.mem_append_right) (by exact rfl) rfl ?_)
        refine J.unguard rfl rfl rfl ?_
        refine J.callB (v := .bool true) (fun w1 w2 hw hb => hw.step hb) Ty.bd65 rfl rfl (fun w1 hw => (by have h := simple11_spec _ f.tr w1 (hs.tr.below (hw.drop (List.nil_sublist _)).below) (by omega); rw [decide_eq_true hnd] at h; exact h)) ?_
        first | refine J.skip rfl rfl rfl rfl rfl ?_ | refine J.skipU rfl rfl rfl rfl ?_ | (refine J.unguard rfl rfl rfl ?_; refine J.not rfl rfl ?_)
        (first | refine J.pickT rfl rfl rfl ?_ | refine J.pickF rfl rfl rfl ?_)
        refine J.move rfl rfl ?_
        first | refine J.skip rfl rfl rfl rfl rfl ?_ | refine J.skipU rfl rfl rfl rfl ?_ | (refine J.unguard rfl rfl rfl ?_; refine J.move rfl rfl ?_)
        refine J.unguard rfl rfl rfl ?_
        refine J.bin rfl rfl rfl rfl ?_
        refine J.name 33 rfl (show Value.bool _ = .bool false by simp; omega) ?_
        (first | refine J.pickT rfl rfl rfl ?_ | refine J.pickF rfl rfl rfl ?_)
        refine J.move rfl rfl ?_
        first | refine J.skip rfl rfl rfl rfl rfl ?_ | refine J.skipU rfl rfl rfl rfl ?_ | (refine J.unguard rfl rfl rfl ?_; refine J.fieldAddr Ty.fd52_8 rfl rfl ?_)
        first | refine J.skip rfl rfl rfl rfl rfl ?_ | refine J.skipU rfl rfl rfl rfl ?_ | (refine J.unguard rfl rfl rfl ?_; refine J.loadO Ty.a26 rfl (by repeat first | exact .head _ | apply List.Mem.tail | apply List.mem_append_right) (by exact rfl) rfl ?_)
        first | refine J.skip rfl rfl rfl rfl rfl ?_ | refine J.skipU rfl rfl rfl rfl ?_ | (refine J.unguard rfl rfl rfl ?_; refine J.move rfl rfl ?_)
        first | refine J.skip rfl rfl rfl rfl rfl ?_ | refine J.skipU rfl rfl rfl rfl ?_ | (refine J.unguard rfl rfl rfl ?_; (first | refine J.subN rfl rfl (by omega) (by omega) rfl ?_ | refine J.bin rfl rfl rfl rfl ?_))
        refine J.unguard rfl rfl rfl ?_
        refine J.indexAddrS Ty.el26 Ty.s3 rfl rfl (by omega) (by omega) rfl ?_
        refine J.unguard rfl rfl rfl ?_
        refine J.load1 (v := iV y) Ty.a3 rfl (fun w1 hw => rowI_at2 (i := i - 1) (hs.tr.below (hw.drop (List.nil_sublist _)).below) hy (by first | omega | (simp [hat]; omega) | simp [hat])) rfl ?_
        first | refine J.skip rfl rfl rfl rfl rfl ?_ | refine J.skipU rfl rfl rfl rfl ?_ | (refine J.unguard rfl rfl rfl ?_; refine J.move rfl rfl ?_)
        refine J.unguard rfl rfl rfl ?_
        refine J.bin rfl rfl rfl rfl ?_
        refine J.name 43 rfl (show Value.bool _ = .bool true by simp [hc2]) ?_
        (first | refine J.pickT rfl rfl rfl ?_ | refine J.pickF rfl rfl rfl ?_)
        refine J.nil ?_
        refine JX.thenN (hK3 _ _ ?_)
        first | refine JC.condT rfl ?_ | refine JC.cond rfl (fun _ => ?_) (fun h => by first | (exfalso; simp at h; omega) | (simp at h))
        refine JC.seq (fun K5 hK5 => ?_)
        refine JC.region ?_
        refine J.buildS (cs := cD nilV false false) Ty.pl90 zN_ rfl (by kernel_rfl) rfl ?_
        refine J.storeW Ty.s90 rfl rfl rfl rfl rfl (by simp [Value.oneCell']) (by repeat first | exact .here | apply Up.there) ?_
        refine J.nil ?_
        refine JX.thenN (hK5 _ _ ?_)
        refine JC.ret ?_
        refine JX.thenR ?_
        refine JX.retC rfl rfl Ty.a90 Ty.s90 (vs := cD nilV false false) rfl (fun w1 hw => Cells.of_block (hw.own _ (.head _)) rfl) (fun w1 hw => ?_)
        exact ⟨rfl, (hw.drop (List.nil_sublist _)).below⟩
    · skip
      refine JC.region ?_
      refine J.fieldAddr Ty.fd52_0 rfl rfl ?_
      refine J.loadO Ty.a3 rfl (by repeat first | exact .head _ | apply List.Mem.tail | apply List.mem_append_right) (by exact rfl) rfl ?_
      refine J.bin rfl rfl rfl rfl ?_
      refine J.name 24 rfl (show Value.bool _ = .bool false by simp [hk]) ?_
      refine J.move rfl rfl ?_
      first | refine J.skip rfl rfl rfl rfl rfl ?_ | refine J.skipU rfl rfl rfl rfl ?_ | (refine J.unguard rfl rfl rfl ?_; refine J.fieldAddr Ty.fd52_8 rfl rfl ?_)
      first | refine J.skip rfl rfl rfl rfl rfl ?_ | refine J.skipU rfl rfl rfl rfl ?_ | (refine J.unguard rfl rfl rfl ?_; refine J.loadO Ty.a26 rfl (by repeat first | exact .head _ | apply List.Mem.tail | apply List.mem_append_right) (by exact rfl) rfl ?_)
      refine J.unguard rfl rfl rfl ?_
      refine J.callB (v := .bool false) (fun w1 w2 hw hb => hw.step hb) Ty.bd65 rfl rfl (fun w1 hw => (by have h := simple11_spec _ f.tr w1 (hs.tr.below (hw.drop (List.nil_sublist _)).below) (by omega); rw [decide_eq_false hnd] at h; exact h)) ?_
      first | refine J.skip rfl rfl rfl rfl rfl ?_ | refine J.skipU rfl rfl rfl rfl ?_ | (refine J.unguard rfl rfl rfl ?_; refine J.not rfl rfl ?_)
      (first | refine J.pickT rfl rfl rfl ?_ | refine J.pickF rfl rfl rfl ?_)
      refine J.move rfl rfl ?_
      first | refine J.skip rfl rfl rfl rfl rfl ?_ | refine J.skipU rfl rfl rfl rfl ?_ | (refine J.unguard rfl rfl rfl ?_; refine J.move rfl rfl ?_)
      refine J.skip rfl rfl rfl rfl rfl ?_
      (first | refine J.pickT rfl rfl rfl ?_ | refine J.pickF rfl rfl rfl ?_)
      refine J.move rfl rfl ?_
      first | refine J.skip rfl rfl rfl rfl rfl ?_ | refine J.skipU rfl rfl rfl rfl ?_ | (refine J.unguard rfl rfl rfl ?_; refine J.fieldAddr Ty.fd52_8 rfl rfl ?_)
      first | refine J.skip rfl rfl rfl rfl rfl ?_ | refine J.skipU rfl rfl rfl rfl ?_ | (refine J.unguard rfl rfl rfl ?_; refine J.loadO Ty.a26 rfl (by repeat first | exact .head _ | apply List.Mem.tail | apply List.mem_append_right) (by exact rfl) rfl ?_)
      first | refine J.skip rfl rfl rfl rfl rfl ?_ | refine J.skipU rfl rfl rfl rfl ?_ | (refine J.unguard rfl rfl rfl ?_; refine J.move rfl rfl ?_)
      first | refine J.skip rfl rfl rfl rfl rfl ?_ | refine J.skipU rfl rfl rfl rfl ?_ | (refine J.unguard rfl rfl rfl ?_; (first | refine J.subN rfl rfl (by omega) (by omega) rfl ?_ | refine J.bin rfl rfl rfl rfl ?_))
      refine J.skip rfl rfl rfl rfl rfl ?_
      refine J.skip rfl rfl rfl rfl rfl ?_
      first | refine J.skip rfl rfl rfl rfl rfl ?_ | refine J.skipU rfl rfl rfl rfl ?_ | (refine J.unguard rfl rfl rfl ?_; refine J.move rfl rfl ?_)
      refine J.skip rfl rfl rfl rfl rfl ?_
      (first | refine J.pickT rfl rfl rfl ?_ | refine J.pickF rfl rfl rfl ?_)
      refine J.nil ?_
      refine JX.thenN (hK3 _ _ ?_)
      first | refine JC.condT rfl ?_ | refine JC.cond rfl (fun _ => ?_) (fun h => by first | (exfalso; simp at h; omega) | (simp at h))
      refine JC.seq (fun K6 hK6 => ?_)
      refine JC.region ?_
      refine J.buildS (cs := cD nilV false false) Ty.pl90 zN_ rfl (by kernel_rfl) rfl ?_
      refine J.storeW Ty.s90 rfl rfl rfl rfl rfl (by simp [Value.oneCell']) (by repeat first | exact .here | apply Up.there) ?_
      refine J.nil ?_
      refine JX.thenN (hK6 _ _ ?_)
      refine JC.ret ?_
      refine JX.thenR ?_
      refine JX.retC rfl rfl Ty.a90 Ty.s90 (vs := cD nilV false false) rfl (fun w1 hw => Cells.of_block (hw.own _ (.head _)) rfl) (fun w1 hw => ?_)
      exact ⟨rfl, (hw.drop (List.nil_sublist _)).below⟩
  · skip
    refine JC.region ?_
    refine J.fieldAddr Ty.fd52_0 rfl rfl ?_
    refine J.loadO Ty.a3 rfl (by repeat first | exact .head _ | apply List.Mem.tail | apply List.mem_append_right) (by exact rfl) rfl ?_
    refine J.bin rfl rfl rfl rfl ?_
    refine J.name 24 rfl (show Value.bool _ = .bool true by simp [hk]) ?_
    refine J.move rfl rfl ?_
    first | refine J.skip rfl rfl rfl rfl rfl ?_ | refine J.skipU rfl rfl rfl rfl ?_ | (refine J.unguard rfl rfl rfl ?_; refine J.fieldAddr Ty.fd52_8 rfl rfl ?_)
    first | refine J.skip rfl rfl rfl rfl rfl ?_ | refine J.skipU rfl rfl rfl rfl ?_ | (refine J.unguard rfl rfl rfl ?_; refine J.loadO Ty.a26 rfl (by repeat first | exact .head _ | apply List.Mem.tail | apply List.mem_append_right) (by exact rfl) rfl ?_)
    refine J.skip rfl rfl rfl rfl rfl ?_
    first | refine J.skip rfl rfl rfl rfl rfl ?_ | refine J.skipU rfl rfl rfl rfl ?_ | (refine J.unguard rfl rfl rfl ?_; refine J.not rfl rfl ?_)
    (first | refine J.pickT rfl rfl rfl ?_ | refine J.pickF rfl rfl rfl ?_)
    refine J.move rfl rfl ?_
    first | refine J.skip rfl rfl rfl rfl rfl ?_ | refine J.skipU rfl rfl rfl rfl ?_ | (refine J.unguard rfl rfl rfl ?_; refine J.move rfl rfl ?_)
    refine J.skip rfl rfl rfl rfl rfl ?_
    (first | refine J.pickT rfl rfl rfl ?_ | refine J.pickF rfl rfl rfl ?_)
    refine J.move rfl rfl ?_
    first | refine J.skip rfl rfl rfl rfl rfl ?_ | refine J.skipU rfl rfl rfl rfl ?_ | (refine J.unguard rfl rfl rfl ?_; refine J.fieldAddr Ty.fd52_8 rfl rfl ?_)
    first | refine J.skip rfl rfl rfl rfl rfl ?_ | refine J.skipU rfl rfl rfl rfl ?_ | (refine J.unguard rfl rfl rfl ?_; refine J.loadO Ty.a26 rfl (by repeat first | exact .head _ | apply List.Mem.tail | apply List.mem_append_right) (by exact rfl) rfl ?_)
    first | refine J.skip rfl rfl rfl rfl rfl ?_ | refine J.skipU rfl rfl rfl rfl ?_ | (refine J.unguard rfl rfl rfl ?_; refine J.move rfl rfl ?_)
    first | refine J.skip rfl rfl rfl rfl rfl ?_ | refine J.skipU rfl rfl rfl rfl ?_ | (refine J.unguard rfl rfl rfl ?_; (first | refine J.subN rfl rfl (by omega) (by omega) rfl ?_ | refine J.bin rfl rfl rfl rfl ?_))
    refine J.skip rfl rfl rfl rfl rfl ?_
    refine J.skip rfl rfl rfl rfl rfl ?_
    first | refine J.skip rfl rfl rfl rfl rfl ?_ | refine J.skipU rfl rfl rfl rfl ?_ | (refine J.unguard rfl rfl rfl ?_; refine J.move rfl rfl ?_)
    refine J.skip rfl rfl rfl rfl rfl ?_
    (first | refine J.pickT rfl rfl rfl ?_ | refine J.pickF rfl rfl rfl ?_)
    refine J.nil ?_
    refine JX.thenN (hK3 _ _ ?_)
    first | refine JC.condT rfl ?_ | refine JC.cond rfl (fun _ => ?_) (fun h => by first | (exfalso; simp at h; omega) | (simp at h))
    refine JC.seq (fun K7 hK7 => ?_)
    refine JC.region ?_
    refine J.buildS (cs := cD nilV false false) Ty.pl90 zN_ rfl (by kernel_rfl) rfl ?_
    refine J.storeW Ty.s90 rfl rfl rfl rfl rfl (by simp [Value.oneCell']) (by repeat first | exact .here | apply Up.there) ?_
    refine J.nil ?_
    refine JX.thenN (hK7 _ _ ?_)
    refine JC.ret ?_
    refine JX.thenR ?_
    refine JX.retC rfl rfl Ty.a90 Ty.s90 (vs := cD nilV false false) rfl (fun w1 hw => Cells.of_block (hw.own _ (.head _)) rfl) (fun w1 hw => ?_)
    exact ⟨rfl, (hw.drop (List.nil_sublist _)).below⟩

end Go.Proofs.Ytpldpkdlloolkaa
