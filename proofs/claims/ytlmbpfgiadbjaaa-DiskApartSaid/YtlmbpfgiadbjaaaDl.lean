/-
  The laws of layer 5 (disk): walks.
-/
import Derived.Test.YtlmbpfgiadbjaaaDk
import Derived.Test.YtlmbpfgiadbjaaaRa
namespace Go.Proofs.Ytlmbpfgiadbjaaa
open Go.J Go.RowKit
set_option linter.unusedVariables false
set_option linter.unusedSimpArgs false
set_option maxRecDepth 8000


theorem fix_put : put (List.replicate (64 * 2) 0) 0 [7] = 7 :: List.replicate 127 0 := by decide
theorem fix_sec : sec (7 :: List.replicate 127 0) 1 = List.replicate 64 0 := by decide

theorem fixed5 (w : World) :
    Calls Try.prog 16 [].toArray w fun r w' => r = .returned (.bool true) ∧ Below w.heap.size w w' := by
  refine calls_of_J (args := []) (e := []) Try.func16 rfl rfl trivial (St.start w) ?_
  refine JC.seq (fun K0 hK0 => ?_)
  refine JC.region ?_
  refine J.assign rfl rfl ?_
  refine J.nil ?_
  refine JX.thenN (hK0 _ _ ?_)
  refine JC.seq (fun K1 hK1 => ?_)
  refine JC.region ?_
  refine J.callS (l1 := []) Ty.bd14 rfl rfl (fun w hw => new_spec _ w) (fun x _ => ?_)
  obtain ⟨d, s⟩ := x
  simp only [List.append_nil, show (min (max (2 : Int) 0) 4096).toNat = 2 from rfl]
  refine J.assign rfl rfl ?_
  refine J.nil ?_
  refine JX.thenN (hK1 _ _ ?_)
  refine JC.seq (fun K2 hK2 => ?_)
  refine JC.seq (fun K3 hK3 => ?_)
  refine JC.region ?_
  refine J.move rfl rfl ?_
  refine J.eqNil Ty.u23 rfl rfl rfl ?_
  refine J.nil ?_
  refine JX.thenN (hK3 _ _ ?_)
  first | refine JC.condF rfl ?_ | refine JC.cond rfl (fun h => by first | (exfalso; simp at h; omega) | (simp at h)) (fun _ => ?_)
  refine JC.skip ?_
  refine JX.thenN (hK2 _ _ ?_)
  refine JC.seq (fun K4 hK4 => ?_)
  refine JC.region ?_
  refine J.move rfl rfl ?_
  refine J.callT (l1 := [_]) (L := [(d, dkO s 2 1 0)]) Ty.bd19 rfl rfl (fun w hw => power_spec d s 2 (-1) 0 1 w hw.owns) ?_
  refine J.nil ?_
  refine JX.thenN (hK4 _ _ ?_)
  refine JC.seq (fun K5 hK5 => ?_)
  refine JC.region ?_
  refine J.move rfl rfl ?_
  refine J.buildSl Ty.el28 Ty.s5 Ty.z5 rfl rfl rfl rfl rfl rfl rfl (fun b12 => ?_)
  refine J.rot ?_
  refine J.callT (l1 := [_, _]) (l := [_]) (L := [(d, dkO s 2 0 1), (s, dkS (7 :: List.replicate 127 0))]) Ty.bd17 rfl rfl (fun w hw => fix_put ▸ write_power d s 2 (List.replicate (64 * 2) 0) [7] 1 0 0 (some ⟨b12, 0, none⟩) 1 1 w hw.owns rfl (by omega) (by omega) (by omega) (by omega) (by omega) rfl
    (Row.own (cs := [.int .u8 7]) (tb := 5) (fr := (0, 0)) hw (.tail _ (.tail _ (.head _))) rfl (Nat.le_refl _)) (Off.mk (hw.off (.head _))) (by omega) (by omega)) ?_
  refine J.assign rfl rfl ?_
  refine J.nil ?_
  refine JX.thenN (hK5 _ _ ?_)
  refine JC.seq (fun K6 hK6 => ?_)
  refine JC.region ?_
  refine J.move rfl rfl ?_
  refine J.buildSl Ty.el28 Ty.s5 Ty.z5 rfl rfl rfl rfl rfl rfl rfl (fun b15 => ?_)
  refine J.callB (fun w w' hw hb => hw.step hb) Ty.bd17 rfl rfl (fun w hw => write_down d s 2 1 w (hw.drop (List.sublist_cons_self _ _)).owns' 1 (some ⟨b15, 0, none⟩) 1 1 (by omega) (by omega) (by omega)) ?_
  refine J.assign rfl rfl ?_
  refine J.nil ?_
  refine JX.thenN (hK6 _ _ ?_)
  refine JC.seq (fun K7 hK7 => ?_)
  refine JC.region ?_
  refine J.move rfl rfl ?_
  refine J.sub (l' := [(d, dkO s 2 0 1), (s, dkS (7 :: List.replicate 127 0))]) (.cons _ (.cons_cons _ (.cons_cons _ (List.nil_sublist _)))) ?_
  refine J.callS (l1 := [(d, dkO s 2 0 1), (s, dkS (7 :: List.replicate 127 0))]) (l := []) Ty.bd20 rfl rfl (fun w hw => read_spec d s 2 _ 0 1 1 w hw.owns rfl (by omega) (by omega)) (fun x hx => ?_)
  obtain ⟨v19, lp⟩ := x
  simp only [show (1 : Int).toNat = 1 from rfl, fix_sec] at hx
  simp only [List.append_nil]
  refine J.move rfl rfl ?_
  refine J.extract rfl rfl rfl ?_
  refine J.extract rfl rfl rfl ?_
  refine J.assign rfl rfl ?_
  refine J.assign rfl rfl ?_
  refine J.nil ?_
  refine JX.thenN (hK7 _ _ ?_)
  refine JC.seq (fun K8 hK8 => ?_)
  apply JC.drawL 27 [Eqv _, Eqv _, Eqv _, Eqv _, Eqv _, Eqv _, Eqv _, Eqv _, Eqv _, Eqv _, Eqv _, Eqv _, Eqv _, RowP 64 ((List.replicate 64 (0 : UInt8)).map u8), Eqv _, Eqv _, Eqv _, Eqv _, Eqv _, Eqv _, Eqv _, Eqv _, Eqv _, Eqv _, Eqv _, Eqv _, Eqv _] Ty.mixed rfl rfl rfl (by kernel_rfl) rfl rfl (fun w w' hw hb => hw.step hb) ⟨fun _ _ _ h _ => h, fun _ _ _ h _ => h, fun _ _ _ h _ => h, fun _ _ _ h _ => h, fun _ _ _ h _ => h, fun _ _ _ h _ => h, fun _ _ _ h _ => h, fun _ _ _ h _ => h, fun _ _ _ h _ => h, fun _ _ _ h _ => h, fun _ _ _ h _ => h, fun _ _ _ h _ => h, fun _ _ _ h _ => h, RowP.st _ _, fun _ _ _ h _ => h, fun _ _ _ h _ => h, fun _ _ _ h _ => h, fun _ _ _ h _ => h, fun _ _ _ h _ => h, fun _ _ _ h _ => h, fun _ _ _ h _ => h, fun _ _ _ h _ => h, fun _ _ _ h _ => h, fun _ _ _ h _ => h, fun _ _ _ h _ => h, fun _ _ _ h _ => h, fun _ _ _ h _ => h, trivial⟩ ?hstep ?htail
  case hstep =>
    refine ⟨fun wi => ?_, fun wi => ?_, fun wi => ?_, fun wi => ?_, fun wi => ?_, fun wi => ?_, fun wi => ?_, fun wi => ?_, fun wi => ?_, fun wi => ?_, fun wi => ?_, fun wi => ?_, fun wi => ?_, fun wi => ?_, fun wi => ?_, fun wi => ?_, fun wi => ?_, fun wi => ?_, fun wi => ?_, fun wi => ?_, fun wi => ?_, fun wi => ?_, fun wi => ?_, fun wi => ?_, fun wi => ?_, fun wi => ?_, fun wi => ?_, trivial⟩
    · skip
      refine Fin.nil ?_
      refine J.move rfl rfl ?_
      refine J.nil (JX.fin rfl (fun w hw => ⟨rfl, (by rw [hw.1]; exact Below.refl _ _)⟩))
    · skip
      refine Fin.cons (fun v8_0 => ?_)
      refine Fin.nil ?_
      refine J.prE (fun h => ?_); subst h
      refine J.bin rfl rfl rfl rfl ?_
      refine J.nil (JX.fin rfl (fun w hw => ⟨rfl, (by rw [hw.1]; exact Below.refl _ _)⟩))
    · skip
      refine Fin.cons (fun v8_1 => ?_)
      refine Fin.nil ?_
      refine J.prE (fun h => ?_); subst h
      refine J.move rfl rfl ?_
      refine J.nil (JX.fin rfl (fun w hw => ⟨rfl, (by rw [hw.1]; exact Below.refl _ _)⟩))
    · skip
      refine Fin.cons (fun v8_2 => ?_)
      refine Fin.nil ?_
      refine J.prE (fun h => ?_); subst h
      first
        | (refine J.skip rfl rfl rfl rfl rfl ?_)
        | (refine J.skipU rfl rfl rfl rfl ?_)
        | (refine J.unguard rfl rfl rfl ?_; refine J.move rfl rfl ?_)
      refine J.nil (JX.fin rfl (fun w hw => ⟨rfl, (by rw [hw.1]; exact Below.refl _ _)⟩))
    · skip
      refine Fin.cons (fun v8_3 => ?_)
      refine Fin.cons (fun v8_2 => ?_)
      refine Fin.nil ?_
      refine J.prE (fun h => ?_); subst h
      refine J.prE (fun h => ?_); subst h
      first
        | (refine J.skip rfl rfl rfl rfl rfl ?_)
        | (refine J.skipU rfl rfl rfl rfl ?_)
        | (refine J.unguard rfl rfl rfl ?_; refine J.bin rfl rfl rfl rfl ?_)
      refine J.nil (JX.fin rfl (fun w hw => ⟨rfl, (by rw [hw.1]; exact Below.refl _ _)⟩))
    · skip
      refine Fin.cons (fun v8_2 => ?_)
      refine Fin.cons (fun v8_4 => ?_)
      refine Fin.nil ?_
      refine J.prE (fun h => ?_); subst h
      refine J.prE (fun h => ?_); subst h
      (first | refine J.pickT rfl rfl rfl ?_ | refine J.pickF rfl rfl rfl ?_)
      refine J.nil (JX.fin rfl (fun w hw => ⟨rfl, (by rw [hw.1]; exact Below.refl _ _)⟩))
    · skip
      refine Fin.cons (fun v8_5 => ?_)
      refine Fin.cons (fun v8_2 => ?_)
      refine Fin.nil ?_
      refine J.prE (fun h => ?_); subst h
      refine J.prE (fun h => ?_); subst h
      refine J.move rfl rfl ?_
      refine J.nil (JX.fin rfl (fun w hw => ⟨rfl, (by rw [hw.1]; exact Below.refl _ _)⟩))
    · skip
      refine Fin.cons (fun v8_6 => ?_)
      refine Fin.nil ?_
      refine J.prE (fun h => ?_); subst h
      first
        | (refine J.skip rfl rfl rfl rfl rfl ?_)
        | (refine J.skipU rfl rfl rfl rfl ?_)
        | (refine J.unguard rfl rfl rfl ?_; refine J.move rfl rfl ?_)
      refine J.nil (JX.fin rfl (fun w hw => ⟨rfl, (by rw [hw.1]; exact Below.refl _ _)⟩))
    · skip
      refine Fin.cons (fun v8_7 => ?_)
      refine Fin.cons (fun v8_6 => ?_)
      refine Fin.nil ?_
      refine J.prE (fun h => ?_); subst h
      refine J.prE (fun h => ?_); subst h
      first
        | (refine J.skip rfl rfl rfl rfl rfl ?_)
        | (refine J.skipU rfl rfl rfl rfl ?_)
        | (refine J.unguard rfl rfl rfl ?_; refine J.bin rfl rfl rfl rfl ?_)
      refine J.nil (JX.fin rfl (fun w hw => ⟨rfl, (by rw [hw.1]; exact Below.refl _ _)⟩))
    · skip
      refine Fin.cons (fun v8_6 => ?_)
      refine Fin.cons (fun v8_8 => ?_)
      refine Fin.nil ?_
      refine J.prE (fun h => ?_); subst h
      refine J.prE (fun h => ?_); subst h
      (first | refine J.pickT rfl rfl rfl ?_ | refine J.pickF rfl rfl rfl ?_)
      refine J.nil (JX.fin rfl (fun w hw => ⟨rfl, (by rw [hw.1]; exact Below.refl _ _)⟩))
    · skip
      refine Fin.cons (fun v8_9 => ?_)
      refine Fin.cons (fun v8_6 => ?_)
      refine Fin.nil ?_
      refine J.prE (fun h => ?_); subst h
      refine J.prE (fun h => ?_); subst h
      refine J.move rfl rfl ?_
      refine J.nil (JX.fin rfl (fun w hw => ⟨rfl, (by rw [hw.1]; exact Below.refl _ _)⟩))
    · skip
      refine Fin.cons (fun v8_10 => ?_)
      refine Fin.nil ?_
      refine J.prE (fun h => ?_); subst h
      first
        | (refine J.skip rfl rfl rfl rfl rfl ?_)
        | (refine J.skipU rfl rfl rfl rfl ?_)
        | (refine J.unguard rfl rfl rfl ?_; refine J.move rfl rfl ?_)
      refine J.nil (JX.fin rfl (fun w hw => ⟨rfl, (by rw [hw.1]; exact Below.refl _ _)⟩))
    · skip
      refine Fin.cons (fun v8_11 => ?_)
      refine Fin.cons (fun v8_10 => ?_)
      refine Fin.nil ?_
      refine J.prE (fun h => ?_); subst h
      refine J.prE (fun h => ?_); subst h
      refine J.unguard rfl rfl rfl ?_
      refine J.toStr (m := 64) Ty.el28 Ty.u5 Ty.u9 rfl (fun w hw => hx.row hw.2) (by simp) rfl ?_
      refine J.nil (JX.fin rfl (fun w hw => ⟨rfl, (by rw [hw.1]; exact Below.refl _ _)⟩))
    · skip
      refine Fin.cons (fun v8_10 => ?_)
      refine Fin.nil ?_
      refine J.prE (fun h => ?_); subst h
      refine J.unguard rfl rfl rfl ?_
      refine J.fresh ?_
      refine J.make Ty.el28 Ty.s5 Ty.b5 Ty.z5 rfl rfl rfl rfl (by omega) (by omega) (by omega) rfl (fun b35 => ?_)
      refine J.nil (JX.fin rfl (fun w hw => ⟨Row.own (cs := (List.replicate 64 (0 : UInt8)).map u8) (tb := 5) (fr := (0, 0)) hw (.head _) (by simp) (Nat.le_refl _), hw.below⟩))
    · skip
      refine Fin.cons (fun v8_13 => ?_)
      refine Fin.cons (fun v8_10 => ?_)
      refine Fin.nil ?_
      refine J.prE (fun h => ?_); subst h
      refine J.prR ?_
      refine J.unguard rfl rfl rfl ?_
      refine J.toStr (m := 64) Ty.el28 Ty.u5 Ty.u9 rfl (fun w hw => hw.2.1) (by simp) rfl ?_
      refine J.nil (JX.fin rfl (fun w hw => ⟨rfl, (by rw [hw.1]; exact Below.refl _ _)⟩))
    · skip
      refine Fin.cons (fun v8_12 => ?_)
      refine Fin.cons (fun v8_14 => ?_)
      refine Fin.cons (fun v8_10 => ?_)
      refine Fin.nil ?_
      refine J.prE (fun h => ?_); subst h
      refine J.prE (fun h => ?_); subst h
      refine J.prE (fun h => ?_); subst h
      first
        | (refine J.skip rfl rfl rfl rfl rfl ?_)
        | (refine J.skipU rfl rfl rfl rfl ?_)
        | (refine J.unguard rfl rfl rfl ?_; (first | refine J.strEq rfl rfl rfl ?_ | refine J.bin rfl rfl rfl rfl ?_))
      refine J.nil (JX.fin rfl (fun w hw => ⟨rfl, (by rw [hw.1]; exact Below.refl _ _)⟩))
    · skip
      refine Fin.cons (fun v8_10 => ?_)
      refine Fin.cons (fun v8_15 => ?_)
      refine Fin.nil ?_
      refine J.prE (fun h => ?_); subst h
      refine J.prE (fun h => ?_); subst h
      (first | refine J.pickT rfl rfl rfl ?_ | refine J.pickF rfl rfl rfl ?_)
      refine J.nil (JX.fin rfl (fun w hw => ⟨rfl, (by rw [hw.1]; exact Below.refl _ _)⟩))
    · skip
      refine Fin.cons (fun v8_16 => ?_)
      refine Fin.cons (fun v8_10 => ?_)
      refine Fin.nil ?_
      refine J.prE (fun h => ?_); subst h
      refine J.prE (fun h => ?_); subst h
      refine J.move rfl rfl ?_
      refine J.nil (JX.fin rfl (fun w hw => ⟨rfl, (by rw [hw.1]; exact Below.refl _ _)⟩))
    · skip
      refine Fin.cons (fun v8_17 => ?_)
      refine Fin.nil ?_
      refine J.prE (fun h => ?_); subst h
      first
        | (refine J.skip rfl rfl rfl rfl rfl ?_)
        | (refine J.skipU rfl rfl rfl rfl ?_)
        | (refine J.unguard rfl rfl rfl ?_; refine J.move rfl rfl ?_)
      refine J.nil (JX.fin rfl (fun w hw => ⟨rfl, (by rw [hw.1]; exact Below.refl _ _)⟩))
    · skip
      refine Fin.cons (fun v8_18 => ?_)
      refine Fin.cons (fun v8_17 => ?_)
      refine Fin.cons (fun v8_17 => ?_)
      refine Fin.nil ?_
      refine J.prE (fun h => ?_); subst h
      refine J.prE (fun h => ?_); subst h
      refine J.prE (fun h => ?_); subst h
      refine J.unguard rfl rfl rfl ?_
      refine J.callD Ty.bd22 rfl rfl (fun w hw => done_spec d s 2 0 1 w (hw.drop (List.sublist_append_right _ _)).owns') ?_
      refine J.nil (JX.fin rfl (fun w hw => ⟨rfl, hw⟩))
    · skip
      refine Fin.cons (fun v8_19 => ?_)
      refine Fin.cons (fun v8_17 => ?_)
      refine Fin.nil ?_
      refine J.prE (fun h => ?_); subst h
      refine J.prE (fun h => ?_); subst h
      first
        | (refine J.skip rfl rfl rfl rfl rfl ?_)
        | (refine J.skipU rfl rfl rfl rfl ?_)
        | (refine J.unguard rfl rfl rfl ?_; refine J.bin rfl rfl rfl rfl ?_)
      refine J.nil (JX.fin rfl (fun w hw => ⟨rfl, (by rw [hw.1]; exact Below.refl _ _)⟩))
    · skip
      refine Fin.cons (fun v8_17 => ?_)
      refine Fin.cons (fun v8_20 => ?_)
      refine Fin.nil ?_
      refine J.prE (fun h => ?_); subst h
      refine J.prE (fun h => ?_); subst h
      (first | refine J.pickT rfl rfl rfl ?_ | refine J.pickF rfl rfl rfl ?_)
      refine J.nil (JX.fin rfl (fun w hw => ⟨rfl, (by rw [hw.1]; exact Below.refl _ _)⟩))
    · skip
      refine Fin.cons (fun v8_21 => ?_)
      refine Fin.cons (fun v8_19 => ?_)
      refine Fin.nil ?_
      refine J.prE (fun h => ?_); subst h
      refine J.prE (fun h => ?_); subst h
      refine J.move rfl rfl ?_
      refine J.nil (JX.fin rfl (fun w hw => ⟨rfl, (by rw [hw.1]; exact Below.refl _ _)⟩))
    · skip
      refine Fin.cons (fun v8_22 => ?_)
      refine Fin.nil ?_
      refine J.prE (fun h => ?_); subst h
      first
        | (refine J.skip rfl rfl rfl rfl rfl ?_)
        | (refine J.skipU rfl rfl rfl rfl ?_)
        | (refine J.unguard rfl rfl rfl ?_; refine J.move rfl rfl ?_)
      refine J.nil (JX.fin rfl (fun w hw => ⟨rfl, (by rw [hw.1]; exact Below.refl _ _)⟩))
    · skip
      refine Fin.cons (fun v8_23 => ?_)
      refine Fin.cons (fun v8_22 => ?_)
      refine Fin.cons (fun v8_22 => ?_)
      refine Fin.nil ?_
      refine J.prE (fun h => ?_); subst h
      refine J.prE (fun h => ?_); subst h
      refine J.prE (fun h => ?_); subst h
      refine J.unguard rfl rfl rfl ?_
      refine J.callD Ty.bd23 rfl rfl (fun w hw => size_spec d s 2 0 1 w (hw.drop (List.sublist_append_right _ _)).owns') ?_
      refine J.nil (JX.fin rfl (fun w hw => ⟨rfl, hw⟩))
    · skip
      refine Fin.cons (fun v8_24 => ?_)
      refine Fin.cons (fun v8_22 => ?_)
      refine Fin.nil ?_
      refine J.prE (fun h => ?_); subst h
      refine J.prE (fun h => ?_); subst h
      first
        | (refine J.skip rfl rfl rfl rfl rfl ?_)
        | (refine J.skipU rfl rfl rfl rfl ?_)
        | (refine J.unguard rfl rfl rfl ?_; refine J.bin rfl rfl rfl rfl ?_)
      refine J.nil (JX.fin rfl (fun w hw => ⟨rfl, (by rw [hw.1]; exact Below.refl _ _)⟩))
    · skip
      refine Fin.cons (fun v8_22 => ?_)
      refine Fin.cons (fun v8_25 => ?_)
      refine Fin.nil ?_
      refine J.prE (fun h => ?_); subst h
      refine J.prE (fun h => ?_); subst h
      (first | refine J.pickT rfl rfl rfl ?_ | refine J.pickF rfl rfl rfl ?_)
      refine J.nil (JX.fin rfl (fun w hw => ⟨rfl, (by rw [hw.1]; exact Below.refl _ _)⟩))
  case htail =>
    refine Fin.cons (fun v8_0 => ?_)
    refine Fin.cons (fun v8_1 => ?_)
    refine Fin.cons (fun v8_2 => ?_)
    refine Fin.cons (fun v8_3 => ?_)
    refine Fin.cons (fun v8_4 => ?_)
    refine Fin.cons (fun v8_5 => ?_)
    refine Fin.cons (fun v8_6 => ?_)
    refine Fin.cons (fun v8_7 => ?_)
    refine Fin.cons (fun v8_8 => ?_)
    refine Fin.cons (fun v8_9 => ?_)
    refine Fin.cons (fun v8_10 => ?_)
    refine Fin.cons (fun v8_11 => ?_)
    refine Fin.cons (fun v8_12 => ?_)
    refine Fin.cons (fun v8_13 => ?_)
    refine Fin.cons (fun v8_14 => ?_)
    refine Fin.cons (fun v8_15 => ?_)
    refine Fin.cons (fun v8_16 => ?_)
    refine Fin.cons (fun v8_17 => ?_)
    refine Fin.cons (fun v8_18 => ?_)
    refine Fin.cons (fun v8_19 => ?_)
    refine Fin.cons (fun v8_20 => ?_)
    refine Fin.cons (fun v8_21 => ?_)
    refine Fin.cons (fun v8_22 => ?_)
    refine Fin.cons (fun v8_23 => ?_)
    refine Fin.cons (fun v8_24 => ?_)
    refine Fin.cons (fun v8_25 => ?_)
    refine Fin.cons (fun v8_26 => ?_)
    refine Fin.nil ?_
    refine J.prE (fun h => ?_); subst h
    refine J.prE (fun h => ?_); subst h
    refine J.prE (fun h => ?_); subst h
    refine J.prE (fun h => ?_); subst h
    refine J.prE (fun h => ?_); subst h
    refine J.prE (fun h => ?_); subst h
    refine J.prE (fun h => ?_); subst h
    refine J.prE (fun h => ?_); subst h
    refine J.prE (fun h => ?_); subst h
    refine J.prE (fun h => ?_); subst h
    refine J.prE (fun h => ?_); subst h
    refine J.prE (fun h => ?_); subst h
    refine J.prE (fun h => ?_); subst h
    refine J.drop ?_
    refine J.prE (fun h => ?_); subst h
    refine J.prE (fun h => ?_); subst h
    refine J.prE (fun h => ?_); subst h
    refine J.prE (fun h => ?_); subst h
    refine J.prE (fun h => ?_); subst h
    refine J.prE (fun h => ?_); subst h
    refine J.prE (fun h => ?_); subst h
    refine J.prE (fun h => ?_); subst h
    refine J.prE (fun h => ?_); subst h
    refine J.prE (fun h => ?_); subst h
    refine J.prE (fun h => ?_); subst h
    refine J.prE (fun h => ?_); subst h
    refine J.prE (fun h => ?_); subst h
    refine J.assign rfl rfl ?_
    refine J.nil ?_
    refine JX.thenN (hK8 _ _ ?_)
    refine JC.ret ?_
    refine JX.ret1 rfl rfl (fun w hw => ?_)
    exact ⟨rfl, hw.below⟩

theorem diskNil_walk (i : Int) (_w1 : (Lit.int .i64 i).wf = true) (b : Sl UInt8) {W : World} (_w2 : RSl 1 1 RU8 W [b.v] b) (w : World) :
    Calls Try.prog 5 [.int .i64 i, b.v].toArray w fun r w' => r = .returned (.bool true) ∧ Below w.heap.size w w' := by
  refine calls_of_J (args := [.int .i64 i, b.v]) (e := [(0, .int .i64 i), (1, b.v)]) Try.func5 rfl rfl ⟨rfl, rfl, trivial⟩ (St.start w) ?_
  refine JC.seq (fun K0 hK0 => ?_)
  refine JC.region ?_
  refine J.assign rfl rfl ?_
  refine J.nil ?_
  refine JX.thenN (hK0 _ _ ?_)
  refine JC.seq (fun K1 hK1 => ?_)
  refine JC.region ?_
  refine J.assign rfl rfl ?_
  refine J.nil ?_
  refine JX.thenN (hK1 _ _ ?_)
  refine JC.seq (fun K2 hK2 => ?_)
  refine JC.region ?_
  refine J.move rfl rfl ?_
  refine J.move rfl rfl ?_
  refine J.callB (fun w w' hw hb => hw.step hb) Ty.bd19 rfl rfl (fun w hw => power_nil _ w) ?_
  refine J.nil ?_
  refine JX.thenN (hK2 _ _ ?_)
  refine JC.seq (fun K3 hK3 => ?_)
  refine JC.region ?_
  refine J.move rfl rfl ?_
  refine J.move rfl rfl ?_
  refine J.callB (fun w w' hw hb => hw.step hb) Ty.bd20 rfl rfl (fun w hw => read_nil _ w) ?_
  refine J.move rfl rfl ?_
  refine J.extract rfl rfl rfl ?_
  refine J.extract rfl rfl rfl ?_
  refine J.assign rfl rfl ?_
  refine J.assign rfl rfl ?_
  refine J.nil ?_
  refine JX.thenN (hK3 _ _ ?_)
  refine JC.seq (fun K4 hK4 => ?_)
  refine JC.region ?_
  refine J.callB (fun w w' hw hb => hw.step hb) Ty.bd16 rfl rfl (fun w hw => fixed5 w) ?_
  refine J.move rfl rfl ?_
  first
    | (refine J.skip rfl rfl rfl rfl rfl ?_)
    | (refine J.skipU rfl rfl rfl rfl ?_)
    | (refine J.unguard rfl rfl rfl ?_; refine J.move rfl rfl ?_)
  first
    | (refine J.skip rfl rfl rfl rfl rfl ?_)
    | (refine J.skipU rfl rfl rfl rfl ?_)
    | (refine J.unguard rfl rfl rfl ?_; refine J.callB (fun w w' hw hb => hw.step hb) Ty.bd23 rfl rfl (fun w hw => size_nil w) ?_)
  first
    | (refine J.skip rfl rfl rfl rfl rfl ?_)
    | (refine J.skipU rfl rfl rfl rfl ?_)
    | (refine J.unguard rfl rfl rfl ?_; refine J.bin rfl rfl rfl rfl ?_)
  (first | refine J.pickT rfl rfl rfl ?_ | refine J.pickF rfl rfl rfl ?_)
  refine J.move rfl rfl ?_
  first
    | (refine J.skip rfl rfl rfl rfl rfl ?_)
    | (refine J.skipU rfl rfl rfl rfl ?_)
    | (refine J.unguard rfl rfl rfl ?_; refine J.move rfl rfl ?_)
  first
    | (refine J.skip rfl rfl rfl rfl rfl ?_)
    | (refine J.skipU rfl rfl rfl rfl ?_)
    | (refine J.unguard rfl rfl rfl ?_; refine J.callB (fun w w' hw hb => hw.step hb) Ty.bd22 rfl rfl (fun w hw => done_nil w) ?_)
  first
    | (refine J.skip rfl rfl rfl rfl rfl ?_)
    | (refine J.skipU rfl rfl rfl rfl ?_)
    | (refine J.unguard rfl rfl rfl ?_; refine J.bin rfl rfl rfl rfl ?_)
  (first | refine J.pickT rfl rfl rfl ?_ | refine J.pickF rfl rfl rfl ?_)
  refine J.move rfl rfl ?_
  first
    | (refine J.skip rfl rfl rfl rfl rfl ?_)
    | (refine J.skipU rfl rfl rfl rfl ?_)
    | (refine J.unguard rfl rfl rfl ?_; refine J.move rfl rfl ?_)
  first
    | (refine J.skip rfl rfl rfl rfl rfl ?_)
    | (refine J.skipU rfl rfl rfl rfl ?_)
    | (refine J.unguard rfl rfl rfl ?_; refine J.callB (fun w w' hw hb => hw.step hb) Ty.bd24 rfl rfl (fun w hw => bytes_nil w) ?_)
  first
    | (refine J.skip rfl rfl rfl rfl rfl ?_)
    | (refine J.skipU rfl rfl rfl rfl ?_)
    | (refine J.unguard rfl rfl rfl ?_; refine J.lenS rfl Ty.u28 rfl rfl ?_)
  first
    | (refine J.skip rfl rfl rfl rfl rfl ?_)
    | (refine J.skipU rfl rfl rfl rfl ?_)
    | (refine J.unguard rfl rfl rfl ?_; refine J.bin rfl rfl rfl rfl ?_)
  (first | refine J.pickT rfl rfl rfl ?_ | refine J.pickF rfl rfl rfl ?_)
  refine J.move rfl rfl ?_
  first
    | (refine J.skip rfl rfl rfl rfl rfl ?_)
    | (refine J.skipU rfl rfl rfl rfl ?_)
    | (refine J.unguard rfl rfl rfl ?_; refine J.move rfl rfl ?_)
  first
    | (refine J.skip rfl rfl rfl rfl rfl ?_)
    | (refine J.skipU rfl rfl rfl rfl ?_)
    | (refine J.unguard rfl rfl rfl ?_; refine J.lenS rfl Ty.u28 rfl rfl ?_)
  first
    | (refine J.skip rfl rfl rfl rfl rfl ?_)
    | (refine J.skipU rfl rfl rfl rfl ?_)
    | (refine J.unguard rfl rfl rfl ?_; refine J.bin rfl rfl rfl rfl ?_)
  (first | refine J.pickT rfl rfl rfl ?_ | refine J.pickF rfl rfl rfl ?_)
  refine J.move rfl rfl ?_
  first
    | (refine J.skip rfl rfl rfl rfl rfl ?_)
    | (refine J.skipU rfl rfl rfl rfl ?_)
    | (refine J.unguard rfl rfl rfl ?_; refine J.move rfl rfl ?_)
  first
    | (refine J.skip rfl rfl rfl rfl rfl ?_)
    | (refine J.skipU rfl rfl rfl rfl ?_)
    | (refine J.unguard rfl rfl rfl ?_; refine J.bin rfl rfl rfl rfl ?_)
  (first | refine J.pickT rfl rfl rfl ?_ | refine J.pickF rfl rfl rfl ?_)
  refine J.move rfl rfl ?_
  first
    | (refine J.skip rfl rfl rfl rfl rfl ?_)
    | (refine J.skipU rfl rfl rfl rfl ?_)
    | (refine J.unguard rfl rfl rfl ?_; refine J.move rfl rfl ?_)
  first
    | (refine J.skip rfl rfl rfl rfl rfl ?_)
    | (refine J.skipU rfl rfl rfl rfl ?_)
    | (refine J.unguard rfl rfl rfl ?_; refine J.move rfl rfl ?_)
  first
    | (refine J.skip rfl rfl rfl rfl rfl ?_)
    | (refine J.skipU rfl rfl rfl rfl ?_)
    | (refine J.unguard rfl rfl rfl ?_; refine J.move rfl rfl ?_)
  first
    | (refine J.skip rfl rfl rfl rfl rfl ?_)
    | (refine J.skipU rfl rfl rfl rfl ?_)
    | (refine J.unguard rfl rfl rfl ?_; refine J.callB (fun w w' hw hb => hw.step hb) Ty.bd17 rfl rfl (fun w hw => write_nil _ _ w) ?_)
  first
    | (refine J.skip rfl rfl rfl rfl rfl ?_)
    | (refine J.skipU rfl rfl rfl rfl ?_)
    | (refine J.unguard rfl rfl rfl ?_; refine J.bin rfl rfl rfl rfl ?_)
  (first | refine J.pickT rfl rfl rfl ?_ | refine J.pickF rfl rfl rfl ?_)
  refine J.assign rfl rfl ?_
  refine J.nil ?_
  refine JX.thenN (hK4 _ _ ?_)
  refine JC.ret ?_
  refine JX.ret1 rfl rfl (fun w hw => ?_)
  exact ⟨rfl, hw.below⟩

end Go.Proofs.Ytlmbpfgiadbjaaa
