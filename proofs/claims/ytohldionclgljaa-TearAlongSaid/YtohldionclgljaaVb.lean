/-
  Frames with all their fields; two frames that are one: contracts.
-/
import Derived.Test.YtohldionclgljaaTf
import Derived.Test.YtohldionclgljaaUn
namespace Go.Proofs.Ytohldionclgljaa
open Go.J Go.RowKit
set_option linter.unusedVariables false
set_option linter.unusedSimpArgs false
set_option maxRecDepth 8000
structure FV where
  k : Int
  p : PV
  toA : Bool
  a : IDV
  b : IDV
  n : Int
  fi : Int
  fn : Int
  ti : Int
  tn : Int
  tr : List Int
  ids : List IDV
  key : IDV
  vn : Int
  vw : IDV
  val : List UInt8
  op : Int
  ttl : Int
  txt : List UInt8
/-- a frame's slices -/
structure FSl where
  tr : Value
  ids : Value
  val : Value
  txt : Value
abbrev cIt (f : FV) (v : Value) : List Value := cI f.key ++ [iV f.vn] ++ cI f.vw ++ [v]
abbrev cFG (f : FV) (s : FSl) : List Value :=
  iV f.k :: (cP f.p ++ [.bool f.toA] ++ cI f.a ++ cI f.b ++ [iV f.n, iV f.fi, iV f.fn, iV f.ti, iV f.tn, s.tr, s.ids] ++ cIt f s.val ++ [iV f.op, iV f.ttl, s.txt])
structure FRows (w : World) (f : FV) (s : FSl) : Prop where
  tr : Row w s.tr f.tr.length (f.tr.map iV)
  ids : Row w s.ids f.ids.length (f.ids.flatMap cI)
  val : Row w s.val f.val.length (f.val.map u8)
  txt : Row w s.txt f.txt.length (f.txt.map u8)
structure OkF (f : FV) : Prop where
  p : okN f.p.n
  fi : okN f.fi
  fn : okN f.fn
  ti : okN f.ti
  tn : okN f.tn
  vn : okN f.vn
  ltr : f.tr.length < 4611686018427387904
  lids : f.ids.length < 4611686018427387904
theorem zF_ : zeroT Try.prog 80 = some (.agg (cFG ⟨0, zP, false, zI, zI, 0, 0, 0, 0, 0, [], [], zI, 0, zI, [], 0, 0, []⟩ ⟨nilV, nilV, nilV, nilV⟩).toArray) := by kernel_rfl
theorem cells72 : Try.prog.cellsOf 72 = 2 := by kernel_rfl
theorem cells75 : Try.prog.cellsOf 75 = 17 := by kernel_rfl
theorem fk72 : fieldsK Try.prog 72 = some [(2, 0), (2, 1)] := by kernel_rfl
theorem fk75 : fieldsK Try.prog 75 = some [(2, 0), (23, 1)] := by kernel_rfl
theorem litsN (x y : Int) (hx : okN x) (hy : okN y) (d : Nat) : Try.prog.keyLits (d + 3) 72 [iV x, iV y] = some [[.int .i64 x], [.int .i64 y]].flatten := by
  refine lits_struct (d := d + 2) fk72 (by rw [cells72]; rfl) ?_
  have h1 : Try.prog.keyLits (d + 2) 2 [.int .i64 x] = some [.int .i64 x] := lits_int (d := d + 1) Ty.u2 hx
  have h2 : Try.prog.keyLits (d + 2) 2 [.int .i64 y] = some [.int .i64 y] := lits_int (d := d + 1) Ty.u2 hy
  simp only [List.mapM_cons, List.mapM_nil, Ty.c2]
  rw [show ([iV x, iV y].drop 0).take 1 = [.int .i64 x] from rfl, show ([iV x, iV y].drop 1).take 1 = [.int .i64 y] from rfl, h1, h2]; rfl
theorem litsV (x : Int) (a : IDV) (hx : okN x) (d : Nat) : Try.prog.keyLits (d + 3) 75 (iV x :: cI a) = some [[.int .i64 x], (lI a).flatten].flatten := by
  refine lits_struct (d := d + 2) fk75 (by rw [cells75]; rfl) ?_
  have h1 : Try.prog.keyLits (d + 2) 2 [.int .i64 x] = some [.int .i64 x] := lits_int (d := d + 1) Ty.u2 hx
  have h2 := Ty.litsI a d
  simp only [List.mapM_cons, List.mapM_nil, Ty.c2, Ty.c23]
  rw [show ((iV x :: cI a).drop 0).take 1 = [.int .i64 x] from rfl, show ((iV x :: cI a).drop 1).take 16 = cI a from rfl, h1, h2]; rfl
theorem keyN (x y : Int) (hx : okN x) (hy : okN y) : ∃ l, keyOf Try.prog 72 (.agg [iV x, iV y].toArray) = some l := key_of Ty.size_ (by kernel_rfl) (by kernel_rfl) (by rw [cells72]; rfl) (litsN x y hx hy _)
theorem keyV (x : Int) (a : IDV) (hx : okN x) : ∃ l, keyOf Try.prog 75 (.agg (iV x :: cI a).toArray) = some l := key_of Ty.size_ (by kernel_rfl) (by kernel_rfl) (by rw [cells75]; rfl) (litsV x a hx _)
theorem QN : EqL Try.prog 72 := EqL.of (m := 5) (by kernel_rfl) (by omega) (by kernel_rfl) (by kernel_rfl) (by kernel_rfl)
theorem QV : EqL Try.prog 75 := EqL.of (m := 5) (by kernel_rfl) (by omega) (by kernel_rfl) (by kernel_rfl) (by kernel_rfl)

set_option maxHeartbeats 1000000 in
theorem sameItem_spec (f : FV) (hf : OkF f) (v1 v2 : Value) (w : World) (h1 : Row w v1 f.val.length (f.val.map u8)) (h2 : Row w v2 f.val.length (f.val.map u8)) :
    Calls Try.prog 73 [.agg (cIt f v1).toArray, .agg (cIt f v2).toArray].toArray w fun r w' => r = .returned (.bool true) ∧ Bel w w' := by
  obtain ⟨av1, cv1, rfl, hcv1, _⟩ := id h1
  obtain ⟨av2, cv2, rfl, hcv2, _⟩ := id h2
  refine calls_of_J (args := [.agg (cIt f (.slice av1 f.val.length cv1)).toArray, .agg (cIt f (.slice av2 f.val.length cv2)).toArray]) (e := [(0, .agg (cIt f (.slice av1 f.val.length cv1)).toArray), (1, .agg (cIt f (.slice av2 f.val.length cv2)).toArray)]) Try.func73 rfl rfl ⟨rfl, rfl, trivial⟩ (St.start w) ?_
  refine JC.seq (fun K0 hK0 => ?_)
  refine JC.region ?_
  refine J.box rfl rfl rfl (fun b2 => ?_)
  refine J.box rfl rfl rfl (fun b3 => ?_)
  refine J.assign rfl rfl ?_
  refine J.nil ?_
  refine JX.thenN (hK0 _ _ ?_)
  refine JC.seq (fun K1 hK1 => ?_)
  refine JC.region ?_
  refine J.fieldAddr Ty.fd78_0 rfl rfl ?_
  refine J.loadOA (vs := cI f.key) Ty.a23 Ty.s23 rfl (.tail _ (.head _)) rfl rfl rfl ?_
  refine J.fieldAddr Ty.fd78_0 rfl rfl ?_
  refine J.loadOA (vs := cI f.key) Ty.a23 Ty.s23 rfl (.head _) rfl rfl rfl ?_
  refine J.eqI Ty.QI Ty.keyI rfl rfl rfl ?_
  refine J.name 9 rfl (show _ = Value.bool true by simp) ?_
  refine J.move rfl rfl ?_
  first | refine J.skip rfl rfl rfl rfl rfl ?_ | refine J.skipU rfl rfl rfl rfl ?_ | (refine J.unguard rfl rfl rfl ?_; refine J.fieldAddr Ty.fd78_1 rfl rfl ?_)
  first | refine J.skip rfl rfl rfl rfl rfl ?_ | refine J.skipU rfl rfl rfl rfl ?_ | (refine J.unguard rfl rfl rfl ?_; refine J.loadOA (vs := iV f.vn :: cI f.vw) Ty.a75 Ty.s75 rfl (.tail _ (.head _)) rfl rfl rfl ?_)
  first | refine J.skip rfl rfl rfl rfl rfl ?_ | refine J.skipU rfl rfl rfl rfl ?_ | (refine J.unguard rfl rfl rfl ?_; refine J.fieldAddr Ty.fd78_1 rfl rfl ?_)
  first | refine J.skip rfl rfl rfl rfl rfl ?_ | refine J.skipU rfl rfl rfl rfl ?_ | (refine J.unguard rfl rfl rfl ?_; refine J.loadOA (vs := iV f.vn :: cI f.vw) Ty.a75 Ty.s75 rfl (.head _) rfl rfl rfl ?_)
  first | refine J.skip rfl rfl rfl rfl rfl ?_ | refine J.skipU rfl rfl rfl rfl ?_ | (refine J.unguard rfl rfl rfl ?_; obtain ⟨_, k1⟩ := keyV f.vn f.vw hf.vn; refine J.eqA QV rfl rfl k1 k1 rfl fun r hr => ?_; obtain rfl : r = true := hr.2 rfl)
  (first | refine J.pickT rfl rfl rfl ?_ | refine J.pickF rfl rfl rfl ?_)
  refine J.move rfl rfl ?_
  first | refine J.skip rfl rfl rfl rfl rfl ?_ | refine J.skipU rfl rfl rfl rfl ?_ | (refine J.unguard rfl rfl rfl ?_; refine J.fieldAddr Ty.fd78_2 rfl rfl ?_)
  first | refine J.skip rfl rfl rfl rfl rfl ?_ | refine J.skipU rfl rfl rfl rfl ?_ | (refine J.unguard rfl rfl rfl ?_; refine J.loadO Ty.a76 rfl (.tail _ (.head _)) rfl rfl ?_)
  first | refine J.skip rfl rfl rfl rfl rfl ?_ | refine J.skipU rfl rfl rfl rfl ?_ | (refine J.unguard rfl rfl rfl ?_; refine J.toStr Ty.el76 Ty.u5 Ty.u9 rfl (fun w1 hw => h1.below hw.below) rfl rfl ?_)
  first | refine J.skip rfl rfl rfl rfl rfl ?_ | refine J.skipU rfl rfl rfl rfl ?_ | (refine J.unguard rfl rfl rfl ?_; refine J.fieldAddr Ty.fd78_2 rfl rfl ?_)
  first | refine J.skip rfl rfl rfl rfl rfl ?_ | refine J.skipU rfl rfl rfl rfl ?_ | (refine J.unguard rfl rfl rfl ?_; refine J.loadO Ty.a76 rfl (.head _) rfl rfl ?_)
  first | refine J.skip rfl rfl rfl rfl rfl ?_ | refine J.skipU rfl rfl rfl rfl ?_ | (refine J.unguard rfl rfl rfl ?_; refine J.toStr Ty.el76 Ty.u5 Ty.u9 rfl (fun w1 hw => h2.below hw.below) rfl rfl ?_)
  first | refine J.skip rfl rfl rfl rfl rfl ?_ | refine J.skipU rfl rfl rfl rfl ?_ | (refine J.unguard rfl rfl rfl ?_; refine J.strEq rfl rfl rfl ?_; refine J.name 24 rfl (show _ = Value.bool true by simp) ?_)
  (first | refine J.pickT rfl rfl rfl ?_ | refine J.pickF rfl rfl rfl ?_)
  refine J.assign rfl rfl ?_
  refine J.nil ?_
  refine JX.thenN (hK1 _ _ ?_)
  refine JC.ret ?_
  refine JX.ret1 rfl rfl (fun w hw => ?_)
  exact ⟨rfl, (hw.drop (List.nil_sublist _)).below⟩

theorem rowI_at2 {w : World} {b o k c q i : Nat} {xs : List Int} {n : Int} (h : Row w (.slice (some ⟨b, o, none⟩) k c) k (xs.map iV)) (hi : xs[i]? = some n) (hq : q = o + i) : w.cell? ⟨b, q, none⟩ = some (iV n) := by
  have hl : i < xs.length := (List.getElem?_eq_some_iff.1 hi).1
  obtain ⟨b', o', c', hv, _, hc⟩ := Row.some h (by simp; omega)
  simp only [Value.slice.injEq, Option.some.injEq, Addr.mk.injEq] at hv
  obtain ⟨⟨rfl, rfl, _⟩, _, rfl⟩ := hv
  exact hc.get (i := i) (by rw [List.getElem?_map, hi]; rfl) hq

set_option maxHeartbeats 1000000 in
theorem same04_spec (f : FV) (hf : OkF f) (s1 s2 : FSl) (w : World) (hs1 : FRows w f s1) (hs2 : FRows w f s2) :
    Calls Try.prog 56 [.agg (cFG f s1).toArray, .agg (cFG f s2).toArray].toArray w fun r w' => r = .returned (.bool true) ∧ Bel w w' := by
  obtain ⟨vt1, vi1, vv1, vx1⟩ := s1
  obtain ⟨at1, ct1, hh, _, _⟩ := id hs1.tr
  simp only at hh
  subst hh
  obtain ⟨ai1, ci1, hh, _, _⟩ := id hs1.ids
  simp only at hh
  subst hh
  obtain ⟨av1, cv1, hh, _, _⟩ := id hs1.val
  simp only at hh
  subst hh
  obtain ⟨ax1, cx1, hh, _, _⟩ := id hs1.txt
  simp only at hh
  subst hh
  obtain ⟨vt2, vi2, vv2, vx2⟩ := s2
  obtain ⟨at2, ct2, hh, _, _⟩ := id hs2.tr
  simp only at hh
  subst hh
  obtain ⟨ai2, ci2, hh, _, _⟩ := id hs2.ids
  simp only at hh
  subst hh
  obtain ⟨av2, cv2, hh, _, _⟩ := id hs2.val
  simp only at hh
  subst hh
  obtain ⟨ax2, cx2, hh, _, _⟩ := id hs2.txt
  simp only at hh
  subst hh
  refine calls_of_J (args := [.agg (cFG f ⟨.slice at1 f.tr.length ct1, .slice ai1 f.ids.length ci1, .slice av1 f.val.length cv1, .slice ax1 f.txt.length cx1⟩).toArray, .agg (cFG f ⟨.slice at2 f.tr.length ct2, .slice ai2 f.ids.length ci2, .slice av2 f.val.length cv2, .slice ax2 f.txt.length cx2⟩).toArray]) (e := [(0, .agg (cFG f ⟨.slice at1 f.tr.length ct1, .slice ai1 f.ids.length ci1, .slice av1 f.val.length cv1, .slice ax1 f.txt.length cx1⟩).toArray), (1, .agg (cFG f ⟨.slice at2 f.tr.length ct2, .slice ai2 f.ids.length ci2, .slice av2 f.val.length cv2, .slice ax2 f.txt.length cx2⟩).toArray)]) Try.func56 rfl rfl ⟨rfl, rfl, trivial⟩ (St.start w) ?_
  refine JC.seq (fun K0 hK0 => ?_)
  refine JC.region ?_
  refine J.box rfl rfl rfl (fun b2 => ?_)
  refine J.box rfl rfl rfl (fun b3 => ?_)
  refine J.assign rfl rfl ?_
  refine J.nil ?_
  refine JX.thenN (hK0 _ _ ?_)
  refine JC.seq (fun K1 hK1 => ?_)
  refine JC.seq (fun K2 hK2 => ?_)
  refine JC.region ?_
  refine J.fieldAddr Ty.fd80_8 rfl rfl ?_
  refine J.loadO Ty.a59 rfl (.tail _ (.head _)) rfl rfl ?_
  refine J.lenS rfl Ty.u59 rfl rfl ?_
  refine J.fieldAddr Ty.fd80_8 rfl rfl ?_
  refine J.loadO Ty.a59 rfl (.head _) rfl rfl ?_
  refine J.lenS rfl Ty.u59 rfl rfl ?_
  refine J.bin rfl rfl rfl rfl ?_
  refine J.name 13 rfl (show _ = Value.bool false by simp) ?_
  refine J.move rfl rfl ?_
  first | refine J.skip rfl rfl rfl rfl rfl ?_ | refine J.skipU rfl rfl rfl rfl ?_ | (refine J.unguard rfl rfl rfl ?_; refine J.fieldAddr Ty.fd80_9 rfl rfl ?_)
  first | refine J.skip rfl rfl rfl rfl rfl ?_ | refine J.skipU rfl rfl rfl rfl ?_ | (refine J.unguard rfl rfl rfl ?_; refine J.loadO Ty.a73 rfl (.tail _ (.head _)) rfl rfl ?_)
  first | refine J.skip rfl rfl rfl rfl rfl ?_ | refine J.skipU rfl rfl rfl rfl ?_ | (refine J.unguard rfl rfl rfl ?_; refine J.lenS rfl Ty.u73 rfl rfl ?_)
  first | refine J.skip rfl rfl rfl rfl rfl ?_ | refine J.skipU rfl rfl rfl rfl ?_ | (refine J.unguard rfl rfl rfl ?_; refine J.fieldAddr Ty.fd80_9 rfl rfl ?_)
  first | refine J.skip rfl rfl rfl rfl rfl ?_ | refine J.skipU rfl rfl rfl rfl ?_ | (refine J.unguard rfl rfl rfl ?_; refine J.loadO Ty.a73 rfl (.head _) rfl rfl ?_)
  first | refine J.skip rfl rfl rfl rfl rfl ?_ | refine J.skipU rfl rfl rfl rfl ?_ | (refine J.unguard rfl rfl rfl ?_; refine J.lenS rfl Ty.u73 rfl rfl ?_)
  first | refine J.skip rfl rfl rfl rfl rfl ?_ | refine J.skipU rfl rfl rfl rfl ?_ | (refine J.unguard rfl rfl rfl ?_; refine J.bin rfl rfl rfl rfl ?_; refine J.name 21 rfl (show _ = Value.bool false by simp) ?_)
  (first | refine J.pickT rfl rfl rfl ?_ | refine J.pickF rfl rfl rfl ?_)
  refine J.nil ?_
  refine JX.thenN (hK2 _ _ ?_)
  first | refine JC.condF rfl ?_ | refine JC.cond rfl (fun h => by first | (exfalso; simp at h; omega) | (simp at h)) (fun _ => ?_)
  refine JC.skip ?_
  refine JX.thenN (hK1 _ _ ?_)
  refine JC.seq (fun K3 hK3 => ?_)
  refine JC.seq (fun K4 hK4 => ?_)
  refine JC.region ?_
  refine J.assign rfl rfl ?_
  refine J.nil ?_
  refine JX.thenN (hK4 _ _ ?_)
  refine JC.block ?_
  refine JC.conseq (JC.cov (f := (fun i => [(2, .pointer (some ⟨b2, 0, none⟩)), (3, .pointer (some ⟨b3, 0, none⟩)), (5, .int .i64 ((i : Nat) : Int))]) 0) ⟨rfl, rfl, rfl, trivial⟩ (JC.loop (α := Nat) (fun i => [(2, .pointer (some ⟨b2, 0, none⟩)), (3, .pointer (some ⟨b3, 0, none⟩)), (5, .int .i64 ((i : Nat) : Int))]) (fun i w' => (i ≤ f.tr.length) ∧ St w [] [(b3, cb (cFG f ⟨.slice at2 f.tr.length ct2, .slice ai2 f.ids.length ci2, .slice av2 f.val.length cv2, .slice ax2 f.txt.length cx2⟩) 80), (b2, cb (cFG f ⟨.slice at1 f.tr.length ct1, .slice ai1 f.ids.length ci1, .slice av1 f.val.length cv1, .slice ax1 f.txt.length cx1⟩) 80)] w') (fun i => f.tr.length - i) 0 (fun i => ?_))) (fun w hw => ⟨Nat.zero_le _, hw⟩)
  refine JC.pr (fun hi => ?_)
  refine JC.seq (fun K5 hK5 => ?_)
  refine JC.seq (fun K6 hK6 => ?_)
  refine JC.region ?_
  refine J.move rfl rfl ?_
  refine J.fieldAddr Ty.fd80_8 rfl rfl ?_
  refine J.loadO Ty.a59 rfl (.tail _ (.head _)) rfl rfl ?_
  refine J.lenS rfl Ty.u59 rfl rfl ?_
  refine J.bin rfl rfl rfl rfl ?_
  refine J.nil ?_
  refine JX.thenN (hK6 _ _ ?_)
  refine JC.cond rfl (fun h1 => ?_) (fun h1 => ?_)
  · skip
    have hlt : i < f.tr.length := by simp at h1; omega
    obtain ⟨qt1, ot1, _, hqe, _, _⟩ := Row.some hs1.tr (by simp; omega)
    simp only [Value.slice.injEq] at hqe
    obtain ⟨rfl, _, rfl⟩ := hqe
    obtain ⟨qt2, ot2, _, hqe, _, _⟩ := Row.some hs2.tr (by simp; omega)
    simp only [Value.slice.injEq] at hqe
    obtain ⟨rfl, _, rfl⟩ := hqe
    obtain ⟨ti, hti⟩ : ∃ y, f.tr[i]? = some y := ⟨_, List.getElem?_eq_getElem hlt⟩
    have hl1 := hf.ltr
    refine JC.skip ?_
    refine JX.thenN (hK5 _ _ ?_)
    refine JC.seq (fun K7 hK7 => ?_)
    refine JC.block ?_
    refine JC.seq (fun K8 hK8 => ?_)
    apply JC.drawL 11 [Eqv (.pointer (some ⟨b2, 0 + 56, none⟩)), Eqv (.slice (some ⟨qt1, ot1, none⟩) f.tr.length ct1), Eqv (.int .i64 ((i : Nat) : Int)), Eqv (.pointer (some ⟨qt1, ot1 + (i : Int).toNat * 1, none⟩)), Eqv (iV ti), Eqv (.pointer (some ⟨b3, 0 + 56, none⟩)), Eqv (.slice (some ⟨qt2, ot2, none⟩) f.tr.length ct2), Eqv (.int .i64 ((i : Nat) : Int)), Eqv (.pointer (some ⟨qt2, ot2 + (i : Int).toNat * 1, none⟩)), Eqv (iV ti), Eqv (.bool false)] Ty.mixed rfl rfl rfl (by kernel_rfl) rfl rfl (fun w w' hw hb => hw.step hb) ⟨fun _ _ _ h _ => h, fun _ _ _ h _ => h, fun _ _ _ h _ => h, fun _ _ _ h _ => h, fun _ _ _ h _ => h, fun _ _ _ h _ => h, fun _ _ _ h _ => h, fun _ _ _ h _ => h, fun _ _ _ h _ => h, fun _ _ _ h _ => h, fun _ _ _ h _ => h, trivial⟩ ?hstep ?htail
    case hstep =>
      refine ⟨fun wi => ?_, fun wi => ?_, fun wi => ?_, fun wi => ?_, fun wi => ?_, fun wi => ?_, fun wi => ?_, fun wi => ?_, fun wi => ?_, fun wi => ?_, fun wi => ?_, trivial⟩
      · skip
        refine Fin.nil ?_
        refine J.fieldAddr Ty.fd80_8 rfl rfl ?_
        exact J.finP rfl
      · skip
        refine Fin.consE rfl (Fin.nil ?_)
        refine J.load1 (v := .slice (some ⟨qt1, ot1, none⟩) f.tr.length ct1) Ty.a59 rfl (fun w1 hw => by rw [cell_of (hw.2.own _ (.tail _ (.head _)))]; rfl) rfl ?_
        exact J.finP rfl
      · skip
        refine Fin.nil ?_
        refine J.move rfl rfl ?_
        exact J.finP rfl
      · skip
        refine Fin.consE rfl (Fin.consE rfl (Fin.nil ?_))
        refine J.indexAddrS Ty.el59 Ty.s3 rfl rfl (by omega) (by omega) rfl ?_
        exact J.finP rfl
      · skip
        refine Fin.consE rfl (Fin.nil ?_)
        refine J.load1 (v := iV ti) Ty.a3 rfl (fun w1 hw => rowI_at2 (hs1.tr.below (hw.2.drop (List.nil_sublist _)).below) hti (by simp)) rfl ?_
        exact J.finP rfl
      · skip
        refine Fin.nil ?_
        refine J.fieldAddr Ty.fd80_8 rfl rfl ?_
        exact J.finP rfl
      · skip
        refine Fin.consE rfl (Fin.nil ?_)
        refine J.load1 (v := .slice (some ⟨qt2, ot2, none⟩) f.tr.length ct2) Ty.a59 rfl (fun w1 hw => by rw [cell_of (hw.2.own _ (.head _))]; rfl) rfl ?_
        exact J.finP rfl
      · skip
        refine Fin.nil ?_
        refine J.move rfl rfl ?_
        exact J.finP rfl
      · skip
        refine Fin.consE rfl (Fin.consE rfl (Fin.nil ?_))
        refine J.indexAddrS Ty.el59 Ty.s3 rfl rfl (by omega) (by omega) rfl ?_
        exact J.finP rfl
      · skip
        refine Fin.consE rfl (Fin.nil ?_)
        refine J.load1 (v := iV ti) Ty.a3 rfl (fun w1 hw => rowI_at2 (hs2.tr.below (hw.2.drop (List.nil_sublist _)).below) hti (by simp)) rfl ?_
        exact J.finP rfl
      · skip
        refine Fin.consE rfl (Fin.consE rfl (Fin.nil ?_))
        refine J.bin rfl rfl rfl rfl ?_
        refine J.name 40 rfl (show _ = Value.bool false by simp) ?_
        exact J.finP rfl
    case htail =>
      refine Fin.consE rfl (Fin.consE rfl (Fin.consE rfl (Fin.consE rfl (Fin.consE rfl (Fin.consE rfl (Fin.consE rfl (Fin.consE rfl (Fin.consE rfl (Fin.consE rfl (Fin.consE rfl (Fin.nil ?_)))))))))))
      refine J.nil ?_
      refine JX.thenN (hK8 _ _ ?_)
      first | refine JC.condF rfl ?_ | refine JC.cond rfl (fun h => by first | (exfalso; simp at h; omega) | (simp at h)) (fun _ => ?_)
      refine JC.skip ?_
      refine JX.blockN ?_
      refine JX.thenN (hK7 _ _ ?_)
      refine JC.region ?_
      refine J.move rfl rfl ?_
      (first | refine J.addN rfl rfl (by omega) (by omega) rfl ?_ | refine J.bin rfl rfl rfl rfl ?_)
      refine J.assign rfl rfl ?_
      refine J.nil ?_
      refine JX.thenN ?_
      refine JX.again (i + 1) ?_ ?_ ?_
      · omega
      · exact ⟨rfl, rfl, rfl, trivial⟩
      · exact fun w1 hw => ⟨hlt, hw⟩
  · skip
    try simp only [decide_eq_true_eq, decide_eq_false_iff_not, beq_iff_eq, bne_iff_ne, bne_eq_false_iff_eq, ne_eq, beq_eq_false_iff_ne, Bool.not_eq_true, Bool.not_eq_false, Int.not_lt, Int.not_le] at h1
    refine JC.exit ?_
    refine JX.thenE ?_
    refine JX.thenE ?_
    refine JX.blockE ?_
    refine JX.thenN (hK3 _ _ ?_)
    refine JC.seq (fun K9 hK9 => ?_)
    refine JC.seq (fun K10 hK10 => ?_)
    refine JC.region ?_
    refine J.assign rfl rfl ?_
    refine J.nil ?_
    refine JX.thenN (hK10 _ _ ?_)
    refine JC.block ?_
    refine JC.conseq (JC.cov (f := (fun i => [(2, .pointer (some ⟨b2, 0, none⟩)), (3, .pointer (some ⟨b3, 0, none⟩)), (6, .int .i64 ((i : Nat) : Int))]) 0) ⟨rfl, rfl, rfl, trivial⟩ (JC.loop (α := Nat) (fun i => [(2, .pointer (some ⟨b2, 0, none⟩)), (3, .pointer (some ⟨b3, 0, none⟩)), (6, .int .i64 ((i : Nat) : Int))]) (fun i w' => (i ≤ f.ids.length) ∧ St w [] [(b3, cb (cFG f ⟨.slice at2 f.tr.length ct2, .slice ai2 f.ids.length ci2, .slice av2 f.val.length cv2, .slice ax2 f.txt.length cx2⟩) 80), (b2, cb (cFG f ⟨.slice at1 f.tr.length ct1, .slice ai1 f.ids.length ci1, .slice av1 f.val.length cv1, .slice ax1 f.txt.length cx1⟩) 80)] w') (fun i => f.ids.length - i) 0 (fun i => ?_))) (fun w hw => ⟨Nat.zero_le _, hw⟩)
    refine JC.pr (fun hi => ?_)
    refine JC.seq (fun K11 hK11 => ?_)
    refine JC.seq (fun K12 hK12 => ?_)
    refine JC.region ?_
    refine J.move rfl rfl ?_
    refine J.fieldAddr Ty.fd80_9 rfl rfl ?_
    refine J.loadO Ty.a73 rfl (.tail _ (.head _)) rfl rfl ?_
    refine J.lenS rfl Ty.u73 rfl rfl ?_
    refine J.bin rfl rfl rfl rfl ?_
    refine J.nil ?_
    refine JX.thenN (hK12 _ _ ?_)
    refine JC.cond rfl (fun h3 => ?_) (fun h3 => ?_)
    · skip
      have hlt : i < f.ids.length := by simp at h3; omega
      have hfl := fG_length (c := cI) (sz := 16) (fun _ => rfl) f.ids
      obtain ⟨qi1, oi1, _, hqe, _, _⟩ := Row.some hs1.ids (by omega)
      simp only [Value.slice.injEq] at hqe
      obtain ⟨rfl, _, rfl⟩ := hqe
      obtain ⟨qi2, oi2, _, hqe, _, _⟩ := Row.some hs2.ids (by omega)
      simp only [Value.slice.injEq] at hqe
      obtain ⟨rfl, _, rfl⟩ := hqe
      obtain ⟨idi, hii⟩ : ∃ y, f.ids[i]? = some y := ⟨_, List.getElem?_eq_getElem hlt⟩
      have hl1 := hf.lids
      refine JC.skip ?_
      refine JX.thenN (hK11 _ _ ?_)
      refine JC.seq (fun K13 hK13 => ?_)
      refine JC.block ?_
      refine JC.seq (fun K14 hK14 => ?_)
      apply JC.drawL 11 [Eqv (.pointer (some ⟨b2, 0 + 57, none⟩)), Eqv (.slice (some ⟨qi1, oi1, none⟩) f.ids.length ci1), Eqv (.int .i64 ((i : Nat) : Int)), Eqv (.pointer (some ⟨qi1, oi1 + (i : Int).toNat * 16, none⟩)), Eqv (.agg (cI idi).toArray), Eqv (.pointer (some ⟨b3, 0 + 57, none⟩)), Eqv (.slice (some ⟨qi2, oi2, none⟩) f.ids.length ci2), Eqv (.int .i64 ((i : Nat) : Int)), Eqv (.pointer (some ⟨qi2, oi2 + (i : Int).toNat * 16, none⟩)), Eqv (.agg (cI idi).toArray), Eqv (.bool false)] Ty.mixed rfl rfl rfl (by kernel_rfl) rfl rfl (fun w w' hw hb => hw.step hb) ⟨fun _ _ _ h _ => h, fun _ _ _ h _ => h, fun _ _ _ h _ => h, fun _ _ _ h _ => h, fun _ _ _ h _ => h, fun _ _ _ h _ => h, fun _ _ _ h _ => h, fun _ _ _ h _ => h, fun _ _ _ h _ => h, fun _ _ _ h _ => h, fun _ _ _ h _ => h, trivial⟩ ?hstep ?htail
      case hstep =>
        refine ⟨fun wi => ?_, fun wi => ?_, fun wi => ?_, fun wi => ?_, fun wi => ?_, fun wi => ?_, fun wi => ?_, fun wi => ?_, fun wi => ?_, fun wi => ?_, fun wi => ?_, trivial⟩
        · skip
          refine Fin.nil ?_
          refine J.fieldAddr Ty.fd80_9 rfl rfl ?_
          exact J.finP rfl
        · skip
          refine Fin.consE rfl (Fin.nil ?_)
          refine J.load1 (v := .slice (some ⟨qi1, oi1, none⟩) f.ids.length ci1) Ty.a73 rfl (fun w1 hw => by rw [cell_of (hw.2.own _ (.tail _ (.head _)))]; rfl) rfl ?_
          exact J.finP rfl
        · skip
          refine Fin.nil ?_
          refine J.move rfl rfl ?_
          exact J.finP rfl
        · skip
          refine Fin.consE rfl (Fin.consE rfl (Fin.nil ?_))
          refine J.indexAddrS Ty.el73 Ty.s23 rfl rfl (by omega) (by omega) rfl ?_
          exact J.finP rfl
        · skip
          refine Fin.consE rfl (Fin.nil ?_)
          refine J.loadA (vs := cI idi) Ty.a23 Ty.s23 rfl rfl (fun w1 hw => rowG_at (sz := 16) (fun _ => rfl) (hs1.ids.below (hw.2.drop (List.nil_sublist _)).below) hii (by simp)) rfl ?_
          exact J.finP rfl
        · skip
          refine Fin.nil ?_
          refine J.fieldAddr Ty.fd80_9 rfl rfl ?_
          exact J.finP rfl
        · skip
          refine Fin.consE rfl (Fin.nil ?_)
          refine J.load1 (v := .slice (some ⟨qi2, oi2, none⟩) f.ids.length ci2) Ty.a73 rfl (fun w1 hw => by rw [cell_of (hw.2.own _ (.head _))]; rfl) rfl ?_
          exact J.finP rfl
        · skip
          refine Fin.nil ?_
          refine J.move rfl rfl ?_
          exact J.finP rfl
        · skip
          refine Fin.consE rfl (Fin.consE rfl (Fin.nil ?_))
          refine J.indexAddrS Ty.el73 Ty.s23 rfl rfl (by omega) (by omega) rfl ?_
          exact J.finP rfl
        · skip
          refine Fin.consE rfl (Fin.nil ?_)
          refine J.loadA (vs := cI idi) Ty.a23 Ty.s23 rfl rfl (fun w1 hw => rowG_at (sz := 16) (fun _ => rfl) (hs2.ids.below (hw.2.drop (List.nil_sublist _)).below) hii (by simp)) rfl ?_
          exact J.finP rfl
        · skip
          refine Fin.consE rfl (Fin.consE rfl (Fin.nil ?_))
          refine J.neI Ty.QI Ty.keyI rfl rfl rfl ?_
          refine J.name 58 rfl (show _ = Value.bool false by simp) ?_
          exact J.finP rfl
      case htail =>
        refine Fin.consE rfl (Fin.consE rfl (Fin.consE rfl (Fin.consE rfl (Fin.consE rfl (Fin.consE rfl (Fin.consE rfl (Fin.consE rfl (Fin.consE rfl (Fin.consE rfl (Fin.consE rfl (Fin.nil ?_)))))))))))
        refine J.nil ?_
        refine JX.thenN (hK14 _ _ ?_)
        first | refine JC.condF rfl ?_ | refine JC.cond rfl (fun h => by first | (exfalso; simp at h; omega) | (simp at h)) (fun _ => ?_)
        refine JC.skip ?_
        refine JX.blockN ?_
        refine JX.thenN (hK13 _ _ ?_)
        refine JC.region ?_
        refine J.move rfl rfl ?_
        (first | refine J.addN rfl rfl (by omega) (by omega) rfl ?_ | refine J.bin rfl rfl rfl rfl ?_)
        refine J.assign rfl rfl ?_
        refine J.nil ?_
        refine JX.thenN ?_
        refine JX.again (i + 1) ?_ ?_ ?_
        · omega
        · exact ⟨rfl, rfl, rfl, trivial⟩
        · exact fun w1 hw => ⟨hlt, hw⟩
    · skip
      try simp only [decide_eq_true_eq, decide_eq_false_iff_not, beq_iff_eq, bne_iff_ne, bne_eq_false_iff_eq, ne_eq, beq_eq_false_iff_ne, Bool.not_eq_true, Bool.not_eq_false, Int.not_lt, Int.not_le] at h3
      refine JC.exit ?_
      refine JX.thenE ?_
      refine JX.thenE ?_
      refine JX.blockE ?_
      refine JX.thenN (hK9 _ _ ?_)
      refine JC.seq (fun K15 hK15 => ?_)
      refine JC.region ?_
      refine J.fieldAddr Ty.fd80_0 rfl rfl ?_
      refine J.loadO Ty.a3 rfl (.tail _ (.head _)) rfl rfl ?_
      refine J.fieldAddr Ty.fd80_0 rfl rfl ?_
      refine J.loadO Ty.a3 rfl (.head _) rfl rfl ?_
      refine J.bin rfl rfl rfl rfl ?_
      refine J.name 63 rfl (show _ = Value.bool true by simp) ?_
      refine J.move rfl rfl ?_
      first | refine J.skip rfl rfl rfl rfl rfl ?_ | refine J.skipU rfl rfl rfl rfl ?_ | (refine J.unguard rfl rfl rfl ?_; refine J.fieldAddr Ty.fd80_1 rfl rfl ?_)
      first | refine J.skip rfl rfl rfl rfl rfl ?_ | refine J.skipU rfl rfl rfl rfl ?_ | (refine J.unguard rfl rfl rfl ?_; refine J.loadOA (vs := cP f.p) Ty.a38 Ty.s38 rfl (.tail _ (.head _)) rfl rfl rfl ?_)
      first | refine J.skip rfl rfl rfl rfl rfl ?_ | refine J.skipU rfl rfl rfl rfl ?_ | (refine J.unguard rfl rfl rfl ?_; refine J.fieldAddr Ty.fd80_1 rfl rfl ?_)
      first | refine J.skip rfl rfl rfl rfl rfl ?_ | refine J.skipU rfl rfl rfl rfl ?_ | (refine J.unguard rfl rfl rfl ?_; refine J.loadOA (vs := cP f.p) Ty.a38 Ty.s38 rfl (.head _) rfl rfl rfl ?_)
      first | refine J.skip rfl rfl rfl rfl rfl ?_ | refine J.skipU rfl rfl rfl rfl ?_ | (refine J.unguard rfl rfl rfl ?_; refine J.eqP Ty.QP Ty.keyP rfl rfl hf.p hf.p rfl ?_; refine J.name 69 rfl (show _ = Value.bool true by simp) ?_)
      (first | refine J.pickT rfl rfl rfl ?_ | refine J.pickF rfl rfl rfl ?_)
      refine J.move rfl rfl ?_
      first | refine J.skip rfl rfl rfl rfl rfl ?_ | refine J.skipU rfl rfl rfl rfl ?_ | (refine J.unguard rfl rfl rfl ?_; refine J.fieldAddr Ty.fd80_2 rfl rfl ?_)
      first | refine J.skip rfl rfl rfl rfl rfl ?_ | refine J.skipU rfl rfl rfl rfl ?_ | (refine J.unguard rfl rfl rfl ?_; refine J.loadO Ty.a4 rfl (.tail _ (.head _)) rfl rfl ?_)
      first | refine J.skip rfl rfl rfl rfl rfl ?_ | refine J.skipU rfl rfl rfl rfl ?_ | (refine J.unguard rfl rfl rfl ?_; refine J.fieldAddr Ty.fd80_2 rfl rfl ?_)
      first | refine J.skip rfl rfl rfl rfl rfl ?_ | refine J.skipU rfl rfl rfl rfl ?_ | (refine J.unguard rfl rfl rfl ?_; refine J.loadO Ty.a4 rfl (.head _) rfl rfl ?_)
      first | refine J.skip rfl rfl rfl rfl rfl ?_ | refine J.skipU rfl rfl rfl rfl ?_ | (refine J.unguard rfl rfl rfl ?_; refine J.eqBool (.inl rfl) Ty.u4 rfl rfl rfl ?_; refine J.name 76 rfl (show _ = Value.bool true by simp) ?_)
      (first | refine J.pickT rfl rfl rfl ?_ | refine J.pickF rfl rfl rfl ?_)
      refine J.move rfl rfl ?_
      first | refine J.skip rfl rfl rfl rfl rfl ?_ | refine J.skipU rfl rfl rfl rfl ?_ | (refine J.unguard rfl rfl rfl ?_; refine J.fieldAddr Ty.fd80_3 rfl rfl ?_)
      first | refine J.skip rfl rfl rfl rfl rfl ?_ | refine J.skipU rfl rfl rfl rfl ?_ | (refine J.unguard rfl rfl rfl ?_; refine J.loadOA (vs := cI f.a) Ty.a23 Ty.s23 rfl (.tail _ (.head _)) rfl rfl rfl ?_)
      first | refine J.skip rfl rfl rfl rfl rfl ?_ | refine J.skipU rfl rfl rfl rfl ?_ | (refine J.unguard rfl rfl rfl ?_; refine J.fieldAddr Ty.fd80_3 rfl rfl ?_)
      first | refine J.skip rfl rfl rfl rfl rfl ?_ | refine J.skipU rfl rfl rfl rfl ?_ | (refine J.unguard rfl rfl rfl ?_; refine J.loadOA (vs := cI f.a) Ty.a23 Ty.s23 rfl (.head _) rfl rfl rfl ?_)
      first | refine J.skip rfl rfl rfl rfl rfl ?_ | refine J.skipU rfl rfl rfl rfl ?_ | (refine J.unguard rfl rfl rfl ?_; refine J.eqI Ty.QI Ty.keyI rfl rfl rfl ?_; refine J.name 83 rfl (show _ = Value.bool true by simp) ?_)
      (first | refine J.pickT rfl rfl rfl ?_ | refine J.pickF rfl rfl rfl ?_)
      refine J.move rfl rfl ?_
      first | refine J.skip rfl rfl rfl rfl rfl ?_ | refine J.skipU rfl rfl rfl rfl ?_ | (refine J.unguard rfl rfl rfl ?_; refine J.fieldAddr Ty.fd80_4 rfl rfl ?_)
      first | refine J.skip rfl rfl rfl rfl rfl ?_ | refine J.skipU rfl rfl rfl rfl ?_ | (refine J.unguard rfl rfl rfl ?_; refine J.loadOA (vs := cI f.b) Ty.a23 Ty.s23 rfl (.tail _ (.head _)) rfl rfl rfl ?_)
      first | refine J.skip rfl rfl rfl rfl rfl ?_ | refine J.skipU rfl rfl rfl rfl ?_ | (refine J.unguard rfl rfl rfl ?_; refine J.fieldAddr Ty.fd80_4 rfl rfl ?_)
      first | refine J.skip rfl rfl rfl rfl rfl ?_ | refine J.skipU rfl rfl rfl rfl ?_ | (refine J.unguard rfl rfl rfl ?_; refine J.loadOA (vs := cI f.b) Ty.a23 Ty.s23 rfl (.head _) rfl rfl rfl ?_)
      first | refine J.skip rfl rfl rfl rfl rfl ?_ | refine J.skipU rfl rfl rfl rfl ?_ | (refine J.unguard rfl rfl rfl ?_; refine J.eqI Ty.QI Ty.keyI rfl rfl rfl ?_; refine J.name 90 rfl (show _ = Value.bool true by simp) ?_)
      (first | refine J.pickT rfl rfl rfl ?_ | refine J.pickF rfl rfl rfl ?_)
      refine J.move rfl rfl ?_
      first | refine J.skip rfl rfl rfl rfl rfl ?_ | refine J.skipU rfl rfl rfl rfl ?_ | (refine J.unguard rfl rfl rfl ?_; refine J.fieldAddr Ty.fd80_5 rfl rfl ?_)
      first | refine J.skip rfl rfl rfl rfl rfl ?_ | refine J.skipU rfl rfl rfl rfl ?_ | (refine J.unguard rfl rfl rfl ?_; refine J.loadO Ty.a2 rfl (.tail _ (.head _)) rfl rfl ?_)
      first | refine J.skip rfl rfl rfl rfl rfl ?_ | refine J.skipU rfl rfl rfl rfl ?_ | (refine J.unguard rfl rfl rfl ?_; refine J.fieldAddr Ty.fd80_5 rfl rfl ?_)
      first | refine J.skip rfl rfl rfl rfl rfl ?_ | refine J.skipU rfl rfl rfl rfl ?_ | (refine J.unguard rfl rfl rfl ?_; refine J.loadO Ty.a2 rfl (.head _) rfl rfl ?_)
      first | refine J.skip rfl rfl rfl rfl rfl ?_ | refine J.skipU rfl rfl rfl rfl ?_ | (refine J.unguard rfl rfl rfl ?_; refine J.bin rfl rfl rfl rfl ?_; refine J.name 97 rfl (show _ = Value.bool true by simp) ?_)
      (first | refine J.pickT rfl rfl rfl ?_ | refine J.pickF rfl rfl rfl ?_)
      refine J.move rfl rfl ?_
      first | refine J.skip rfl rfl rfl rfl rfl ?_ | refine J.skipU rfl rfl rfl rfl ?_ | (refine J.unguard rfl rfl rfl ?_; refine J.fieldAddr Ty.fd80_6 rfl rfl ?_)
      first | refine J.skip rfl rfl rfl rfl rfl ?_ | refine J.skipU rfl rfl rfl rfl ?_ | (refine J.unguard rfl rfl rfl ?_; refine J.loadOA (vs := [iV f.fi, iV f.fn]) Ty.a72 Ty.s72 rfl (.tail _ (.head _)) rfl rfl rfl ?_)
      first | refine J.skip rfl rfl rfl rfl rfl ?_ | refine J.skipU rfl rfl rfl rfl ?_ | (refine J.unguard rfl rfl rfl ?_; refine J.fieldAddr Ty.fd80_6 rfl rfl ?_)
      first | refine J.skip rfl rfl rfl rfl rfl ?_ | refine J.skipU rfl rfl rfl rfl ?_ | (refine J.unguard rfl rfl rfl ?_; refine J.loadOA (vs := [iV f.fi, iV f.fn]) Ty.a72 Ty.s72 rfl (.head _) rfl rfl rfl ?_)
      first | refine J.skip rfl rfl rfl rfl rfl ?_ | refine J.skipU rfl rfl rfl rfl ?_ | (refine J.unguard rfl rfl rfl ?_; obtain ⟨_, k1⟩ := keyN f.fi f.fn hf.fi hf.fn; refine J.eqA QN rfl rfl k1 k1 rfl fun r hr => ?_; obtain rfl : r = true := hr.2 rfl)
      (first | refine J.pickT rfl rfl rfl ?_ | refine J.pickF rfl rfl rfl ?_)
      refine J.move rfl rfl ?_
      first | refine J.skip rfl rfl rfl rfl rfl ?_ | refine J.skipU rfl rfl rfl rfl ?_ | (refine J.unguard rfl rfl rfl ?_; refine J.fieldAddr Ty.fd80_7 rfl rfl ?_)
      first | refine J.skip rfl rfl rfl rfl rfl ?_ | refine J.skipU rfl rfl rfl rfl ?_ | (refine J.unguard rfl rfl rfl ?_; refine J.loadOA (vs := [iV f.ti, iV f.tn]) Ty.a72 Ty.s72 rfl (.tail _ (.head _)) rfl rfl rfl ?_)
      first | refine J.skip rfl rfl rfl rfl rfl ?_ | refine J.skipU rfl rfl rfl rfl ?_ | (refine J.unguard rfl rfl rfl ?_; refine J.fieldAddr Ty.fd80_7 rfl rfl ?_)
      first | refine J.skip rfl rfl rfl rfl rfl ?_ | refine J.skipU rfl rfl rfl rfl ?_ | (refine J.unguard rfl rfl rfl ?_; refine J.loadOA (vs := [iV f.ti, iV f.tn]) Ty.a72 Ty.s72 rfl (.head _) rfl rfl rfl ?_)
      first | refine J.skip rfl rfl rfl rfl rfl ?_ | refine J.skipU rfl rfl rfl rfl ?_ | (refine J.unguard rfl rfl rfl ?_; obtain ⟨_, k1⟩ := keyN f.ti f.tn hf.ti hf.tn; refine J.eqA QN rfl rfl k1 k1 rfl fun r hr => ?_; obtain rfl : r = true := hr.2 rfl)
      (first | refine J.pickT rfl rfl rfl ?_ | refine J.pickF rfl rfl rfl ?_)
      refine J.move rfl rfl ?_
      first | refine J.skip rfl rfl rfl rfl rfl ?_ | refine J.skipU rfl rfl rfl rfl ?_ | (refine J.unguard rfl rfl rfl ?_; refine J.fieldAddr Ty.fd80_10 rfl rfl ?_)
      first | refine J.skip rfl rfl rfl rfl rfl ?_ | refine J.skipU rfl rfl rfl rfl ?_ | (refine J.unguard rfl rfl rfl ?_; refine J.loadOA (vs := cIt f (.slice av1 f.val.length cv1)) Ty.a78 Ty.s78 rfl (.tail _ (.head _)) rfl rfl rfl ?_)
      first | refine J.skip rfl rfl rfl rfl rfl ?_ | refine J.skipU rfl rfl rfl rfl ?_ | (refine J.unguard rfl rfl rfl ?_; refine J.fieldAddr Ty.fd80_10 rfl rfl ?_)
      first | refine J.skip rfl rfl rfl rfl rfl ?_ | refine J.skipU rfl rfl rfl rfl ?_ | (refine J.unguard rfl rfl rfl ?_; refine J.loadOA (vs := cIt f (.slice av2 f.val.length cv2)) Ty.a78 Ty.s78 rfl (.head _) rfl rfl rfl ?_)
      first | refine J.skip rfl rfl rfl rfl rfl ?_ | refine J.skipU rfl rfl rfl rfl ?_ | (refine J.unguard rfl rfl rfl ?_; refine J.callB (v := .bool true) (fun w1 w2 hw hb => hw.step hb) Ty.bd73 rfl rfl (fun w1 hw => sameItem_spec f hf _ _ w1 (hs1.val.below (hw.drop (List.nil_sublist _)).below) (hs2.val.below (hw.drop (List.nil_sublist _)).below)) ?_)
      (first | refine J.pickT rfl rfl rfl ?_ | refine J.pickF rfl rfl rfl ?_)
      refine J.move rfl rfl ?_
      first | refine J.skip rfl rfl rfl rfl rfl ?_ | refine J.skipU rfl rfl rfl rfl ?_ | (refine J.unguard rfl rfl rfl ?_; refine J.fieldAddr Ty.fd80_11 rfl rfl ?_)
      first | refine J.skip rfl rfl rfl rfl rfl ?_ | refine J.skipU rfl rfl rfl rfl ?_ | (refine J.unguard rfl rfl rfl ?_; refine J.loadO Ty.a3 rfl (.tail _ (.head _)) rfl rfl ?_)
      first | refine J.skip rfl rfl rfl rfl rfl ?_ | refine J.skipU rfl rfl rfl rfl ?_ | (refine J.unguard rfl rfl rfl ?_; refine J.fieldAddr Ty.fd80_11 rfl rfl ?_)
      first | refine J.skip rfl rfl rfl rfl rfl ?_ | refine J.skipU rfl rfl rfl rfl ?_ | (refine J.unguard rfl rfl rfl ?_; refine J.loadO Ty.a3 rfl (.head _) rfl rfl ?_)
      first | refine J.skip rfl rfl rfl rfl rfl ?_ | refine J.skipU rfl rfl rfl rfl ?_ | (refine J.unguard rfl rfl rfl ?_; refine J.bin rfl rfl rfl rfl ?_; refine J.name 125 rfl (show _ = Value.bool true by simp) ?_)
      (first | refine J.pickT rfl rfl rfl ?_ | refine J.pickF rfl rfl rfl ?_)
      refine J.move rfl rfl ?_
      first | refine J.skip rfl rfl rfl rfl rfl ?_ | refine J.skipU rfl rfl rfl rfl ?_ | (refine J.unguard rfl rfl rfl ?_; refine J.fieldAddr Ty.fd80_12 rfl rfl ?_)
      first | refine J.skip rfl rfl rfl rfl rfl ?_ | refine J.skipU rfl rfl rfl rfl ?_ | (refine J.unguard rfl rfl rfl ?_; refine J.loadO Ty.a3 rfl (.tail _ (.head _)) rfl rfl ?_)
      first | refine J.skip rfl rfl rfl rfl rfl ?_ | refine J.skipU rfl rfl rfl rfl ?_ | (refine J.unguard rfl rfl rfl ?_; refine J.fieldAddr Ty.fd80_12 rfl rfl ?_)
      first | refine J.skip rfl rfl rfl rfl rfl ?_ | refine J.skipU rfl rfl rfl rfl ?_ | (refine J.unguard rfl rfl rfl ?_; refine J.loadO Ty.a3 rfl (.head _) rfl rfl ?_)
      first | refine J.skip rfl rfl rfl rfl rfl ?_ | refine J.skipU rfl rfl rfl rfl ?_ | (refine J.unguard rfl rfl rfl ?_; refine J.bin rfl rfl rfl rfl ?_; refine J.name 132 rfl (show _ = Value.bool true by simp) ?_)
      (first | refine J.pickT rfl rfl rfl ?_ | refine J.pickF rfl rfl rfl ?_)
      refine J.move rfl rfl ?_
      first | refine J.skip rfl rfl rfl rfl rfl ?_ | refine J.skipU rfl rfl rfl rfl ?_ | (refine J.unguard rfl rfl rfl ?_; refine J.fieldAddr Ty.fd80_13 rfl rfl ?_)
      first | refine J.skip rfl rfl rfl rfl rfl ?_ | refine J.skipU rfl rfl rfl rfl ?_ | (refine J.unguard rfl rfl rfl ?_; refine J.loadO Ty.a76 rfl (.tail _ (.head _)) rfl rfl ?_)
      first | refine J.skip rfl rfl rfl rfl rfl ?_ | refine J.skipU rfl rfl rfl rfl ?_ | (refine J.unguard rfl rfl rfl ?_; refine J.toStr Ty.el76 Ty.u5 Ty.u9 rfl (fun w1 hw => hs1.txt.below (hw.drop (List.nil_sublist _)).below) rfl rfl ?_)
      first | refine J.skip rfl rfl rfl rfl rfl ?_ | refine J.skipU rfl rfl rfl rfl ?_ | (refine J.unguard rfl rfl rfl ?_; refine J.fieldAddr Ty.fd80_13 rfl rfl ?_)
      first | refine J.skip rfl rfl rfl rfl rfl ?_ | refine J.skipU rfl rfl rfl rfl ?_ | (refine J.unguard rfl rfl rfl ?_; refine J.loadO Ty.a76 rfl (.head _) rfl rfl ?_)
      first | refine J.skip rfl rfl rfl rfl rfl ?_ | refine J.skipU rfl rfl rfl rfl ?_ | (refine J.unguard rfl rfl rfl ?_; refine J.toStr Ty.el76 Ty.u5 Ty.u9 rfl (fun w1 hw => hs2.txt.below (hw.drop (List.nil_sublist _)).below) rfl rfl ?_)
      first | refine J.skip rfl rfl rfl rfl rfl ?_ | refine J.skipU rfl rfl rfl rfl ?_ | (refine J.unguard rfl rfl rfl ?_; refine J.strEq rfl rfl rfl ?_; refine J.name 141 rfl (show _ = Value.bool true by simp) ?_)
      (first | refine J.pickT rfl rfl rfl ?_ | refine J.pickF rfl rfl rfl ?_)
      refine J.assign rfl rfl ?_
      refine J.nil ?_
      refine JX.thenN (hK15 _ _ ?_)
      refine JC.ret ?_
      refine JX.ret1 rfl rfl (fun w hw => ?_)
      exact ⟨rfl, (hw.drop (List.nil_sublist _)).below⟩

end Go.Proofs.Ytohldionclgljaa
