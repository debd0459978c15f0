/-
  Where a path's begin is refused ahead of the table: contracts.
-/
import Derived.Test.YtpldpkdlloolkaaTs
import Derived.Test.YtpldpkdlloolkaaVc
namespace Go.Proofs.Ytpldpkdlloolkaa
open Go.J Go.RowKit
set_option linter.unusedVariables false
set_option linter.unusedSimpArgs false
set_option maxRecDepth 8000
/-- a begin that is refused -/
def badW (n : Int) (me b : IDV) (way : List Int) : Prop := way.length < 2 ∨ 64 < way.length ∨ ¬ way.Nodup ∨ way[0]? ≠ some n ∨ b = me
theorem zN_ : zeroT Try.prog 90 = some (.agg (cD nilV false false).toArray) := by kernel_rfl

set_option maxHeartbeats 1000000 in
theorem start_arg (t : Nat) (n : Int) (me b : IDV) (p : PV) (wv : Value) (way : List Int) (ov : Value) (os : List Bool) (w : World) (hr : Row w wv way.length (way.map iV)) (hlw : way.length < 4611686018427387904) (hro : Row w ov os.length (os.map bV)) (hlo : os.length < 4611686018427387904) (hbad : badW n me b way) :
    Calls Try.prog 18 [.pointer (some ⟨t, 0, none⟩), .agg (cW n me).toArray, .agg (cP p).toArray, .agg (cI b).toArray, wv, ov].toArray w fun r w' => r = .returned (.tuple #[.agg (cD nilV false false).toArray, .int .i64 1]) ∧ Bel w w' := by
  obtain ⟨aw, cw, rfl, hcw, _⟩ := id hr
  refine calls_of_J (args := [.pointer (some ⟨t, 0, none⟩), .agg (cW n me).toArray, .agg (cP p).toArray, .agg (cI b).toArray, .slice aw way.length cw, ov]) (e := [(0, .pointer (some ⟨t, 0, none⟩)), (1, .agg (cW n me).toArray), (2, .agg (cP p).toArray), (3, .agg (cI b).toArray), (4, .slice aw way.length cw), (5, ov)]) Try.func18 rfl rfl ⟨rfl, rfl, rfl, rfl, rfl, rfl, trivial⟩ (St.start w) ?_
  refine JC.seq (fun K0 hK0 => ?_)
  refine JC.region ?_
  refine J.box rfl rfl rfl (fun b7 => ?_)
  refine J.box rfl rfl rfl (fun b8 => ?_)
  refine J.box rfl rfl rfl (fun b9 => ?_)
  refine J.alloc zN rfl rfl (fun b12 => ?_)
  refine J.assign rfl rfl ?_
  refine J.nil ?_
  refine JX.thenN (hK0 _ _ ?_)
  refine JC.seq (fun K1 hK1 => ?_)
  refine JC.seq (fun K2 hK2 => ?_)
  by_cases hc1 : way.length < 2
  · skip
    apply JC.drawL 31 [Eqv (.pointer (some ⟨t, 0, none⟩)), Eqv (.bool false), Eqv (.bool false), Eqv (.slice aw way.length cw), Eqv (.int .i64 ((way.length : Nat) : Int)), Eqv (.bool true), Eqv (.bool true), Eqv (.bool true), Eqv (undef), Eqv (undef), Eqv (undef), Eqv (.bool true), Eqv (.bool true), Eqv (undef), Eqv (undef), Eqv (undef), Eqv (.bool true), Eqv (.bool true), Eqv (undef), Eqv (undef), Eqv (undef), Eqv (undef), Eqv (undef), Eqv (undef), Eqv (.bool true), Eqv (.bool true), Eqv (undef), Eqv (undef), Eqv (undef), Eqv (undef), Eqv (.bool true)] Ty.mixed rfl rfl rfl (by kernel_rfl) rfl rfl (fun w w' hw hb => hw.step hb) ⟨fun _ _ _ h _ => h, fun _ _ _ h _ => h, fun _ _ _ h _ => h, fun _ _ _ h _ => h, fun _ _ _ h _ => h, fun _ _ _ h _ => h, fun _ _ _ h _ => h, fun _ _ _ h _ => h, fun _ _ _ h _ => h, fun _ _ _ h _ => h, fun _ _ _ h _ => h, fun _ _ _ h _ => h, fun _ _ _ h _ => h, fun _ _ _ h _ => h, fun _ _ _ h _ => h, fun _ _ _ h _ => h, fun _ _ _ h _ => h, fun _ _ _ h _ => h, fun _ _ _ h _ => h, fun _ _ _ h _ => h, fun _ _ _ h _ => h, fun _ _ _ h _ => h, fun _ _ _ h _ => h, fun _ _ _ h _ => h, fun _ _ _ h _ => h, fun _ _ _ h _ => h, fun _ _ _ h _ => h, fun _ _ _ h _ => h, fun _ _ _ h _ => h, fun _ _ _ h _ => h, fun _ _ _ h _ => h, trivial⟩ ?hstep ?htail
    case hstep =>
      refine ⟨fun wi => ?_, fun wi => ?_, fun wi => ?_, fun wi => ?_, fun wi => ?_, fun wi => ?_, fun wi => ?_, fun wi => ?_, fun wi => ?_, fun wi => ?_, fun wi => ?_, fun wi => ?_, fun wi => ?_, fun wi => ?_, fun wi => ?_, fun wi => ?_, fun wi => ?_, fun wi => ?_, fun wi => ?_, fun wi => ?_, fun wi => ?_, fun wi => ?_, fun wi => ?_, fun wi => ?_, fun wi => ?_, fun wi => ?_, fun wi => ?_, fun wi => ?_, fun wi => ?_, fun wi => ?_, fun wi => ?_, trivial⟩
      · skip
        refine Fin.nil ?_
        refine J.move rfl rfl ?_
        exact J.finP rfl
      · skip
        refine Fin.consE rfl (Fin.nil ?_)
        refine J.eqNil Ty.u29 rfl rfl rfl ?_
        exact J.finP rfl
      · skip
        refine Fin.consE rfl (Fin.nil ?_)
        refine J.move rfl rfl ?_
        exact J.finP rfl
      · skip
        refine Fin.consE rfl (Fin.nil ?_)
        first | refine J.skip rfl rfl rfl rfl rfl ?_ | refine J.skipU rfl rfl rfl rfl ?_ | (refine J.unguard rfl rfl rfl ?_; refine J.move rfl rfl ?_)
        exact J.finP rfl
      · skip
        refine Fin.consE rfl (Fin.consE rfl (Fin.nil ?_))
        first | refine J.skip rfl rfl rfl rfl rfl ?_ | refine J.skipU rfl rfl rfl rfl ?_ | (refine J.unguard rfl rfl rfl ?_; refine J.lenS rfl Ty.u26 rfl rfl ?_)
        exact J.finP rfl
      · skip
        refine Fin.consE rfl (Fin.consE rfl (Fin.nil ?_))
        refine J.unguard rfl rfl rfl ?_
        refine J.bin rfl rfl rfl rfl ?_
        refine J.name 21 rfl (show Value.bool _ = .bool true by simp; omega) ?_
        exact J.finP rfl
      · skip
        refine Fin.consE rfl (Fin.consE rfl (Fin.nil ?_))
        (first | refine J.pickT rfl rfl rfl ?_ | refine J.pickF rfl rfl rfl ?_)
        exact J.finP rfl
      · skip
        refine Fin.consE rfl (Fin.consE rfl (Fin.nil ?_))
        refine J.move rfl rfl ?_
        exact J.finP rfl
      · skip
        refine Fin.consE rfl (Fin.nil ?_)
        first | refine J.skip rfl rfl rfl rfl rfl ?_ | refine J.skipU rfl rfl rfl rfl ?_ | (refine J.unguard rfl rfl rfl ?_; refine J.move rfl rfl ?_)
        exact J.finP rfl
      · skip
        refine Fin.consE rfl (Fin.consE rfl (Fin.nil ?_))
        first | refine J.skip rfl rfl rfl rfl rfl ?_ | refine J.skipU rfl rfl rfl rfl ?_ | (refine J.unguard rfl rfl rfl ?_; refine J.lenS rfl Ty.u26 rfl rfl ?_)
        exact J.finP rfl
      · skip
        refine Fin.consE rfl (Fin.consE rfl (Fin.nil ?_))
        first | refine J.skip rfl rfl rfl rfl rfl ?_ | refine J.skipU rfl rfl rfl rfl ?_ | (refine J.unguard rfl rfl rfl ?_; refine J.bin rfl rfl rfl rfl ?_)
        exact J.finP rfl
      · skip
        refine Fin.consE rfl (Fin.consE rfl (Fin.nil ?_))
        (first | refine J.pickT rfl rfl rfl ?_ | refine J.pickF rfl rfl rfl ?_)
        exact J.finP rfl
      · skip
        refine Fin.consE rfl (Fin.consE rfl (Fin.nil ?_))
        refine J.move rfl rfl ?_
        exact J.finP rfl
      · skip
        refine Fin.consE rfl (Fin.nil ?_)
        first | refine J.skip rfl rfl rfl rfl rfl ?_ | refine J.skipU rfl rfl rfl rfl ?_ | (refine J.unguard rfl rfl rfl ?_; refine J.move rfl rfl ?_)
        exact J.finP rfl
      · skip
        refine Fin.consE rfl (Fin.consE rfl (Fin.consE rfl (Fin.nil ?_)))
        first | refine J.skip rfl rfl rfl rfl rfl ?_ | refine J.skipU rfl rfl rfl rfl ?_ | (refine J.unguard rfl rfl rfl ?_; fail)
        exact J.finP rfl
      · skip
        refine Fin.consE rfl (Fin.consE rfl (Fin.nil ?_))
        first | refine J.skip rfl rfl rfl rfl rfl ?_ | refine J.skipU rfl rfl rfl rfl ?_ | (refine J.unguard rfl rfl rfl ?_; refine J.not rfl rfl ?_)
        exact J.finP rfl
      · skip
        refine Fin.consE rfl (Fin.consE rfl (Fin.nil ?_))
        (first | refine J.pickT rfl rfl rfl ?_ | refine J.pickF rfl rfl rfl ?_)
        exact J.finP rfl
      · skip
        refine Fin.consE rfl (Fin.consE rfl (Fin.nil ?_))
        refine J.move rfl rfl ?_
        exact J.finP rfl
      · skip
        refine Fin.consE rfl (Fin.nil ?_)
        first | refine J.skip rfl rfl rfl rfl rfl ?_ | refine J.skipU rfl rfl rfl rfl ?_ | (refine J.unguard rfl rfl rfl ?_; refine J.move rfl rfl ?_)
        exact J.finP rfl
      · skip
        refine Fin.consE rfl (Fin.consE rfl (Fin.nil ?_))
        first | refine J.skip rfl rfl rfl rfl rfl ?_ | refine J.skipU rfl rfl rfl rfl ?_ | (refine J.unguard rfl rfl rfl ?_; refine J.indexAddrS Ty.el26 Ty.s3 rfl rfl (by omega) (by omega) rfl ?_)
        exact J.finP rfl
      · skip
        refine Fin.consE rfl (Fin.consE rfl (Fin.nil ?_))
        first | refine J.skip rfl rfl rfl rfl rfl ?_ | refine J.skipU rfl rfl rfl rfl ?_ | (refine J.unguard rfl rfl rfl ?_; refine J.load1 Ty.a3 rfl (fun w hw => (cell_of (hw.2.own (_, _) (by repeat first | exact .head _ | apply List.Mem.tail | apply List.mem_append_right))).trans (by exact rfl)) rfl ?_)
        exact J.finP rfl
      · skip
        refine Fin.consE rfl (Fin.nil ?_)
        first | refine J.skip rfl rfl rfl rfl rfl ?_ | refine J.skipU rfl rfl rfl rfl ?_ | (refine J.unguard rfl rfl rfl ?_; refine J.fieldAddr Ty.fd41_0 rfl rfl ?_)
        exact J.finP rfl
      · skip
        refine Fin.consE rfl (Fin.consE rfl (Fin.nil ?_))
        first | refine J.skip rfl rfl rfl rfl rfl ?_ | refine J.skipU rfl rfl rfl rfl ?_ | (refine J.unguard rfl rfl rfl ?_; refine J.load1 Ty.a3 rfl (fun w hw => (cell_of (hw.2.own (_, _) (by repeat first | exact .head _ | apply List.Mem.tail | apply List.mem_append_right))).trans (by exact rfl)) rfl ?_)
        exact J.finP rfl
      · skip
        refine Fin.consE rfl (Fin.consE rfl (Fin.consE rfl (Fin.nil ?_)))
        first | refine J.skip rfl rfl rfl rfl rfl ?_ | refine J.skipU rfl rfl rfl rfl ?_ | (refine J.unguard rfl rfl rfl ?_; refine J.bin rfl rfl rfl rfl ?_)
        exact J.finP rfl
      · skip
        refine Fin.consE rfl (Fin.consE rfl (Fin.nil ?_))
        (first | refine J.pickT rfl rfl rfl ?_ | refine J.pickF rfl rfl rfl ?_)
        exact J.finP rfl
      · skip
        refine Fin.consE rfl (Fin.consE rfl (Fin.nil ?_))
        refine J.move rfl rfl ?_
        exact J.finP rfl
      · skip
        refine Fin.consE rfl (Fin.nil ?_)
        first | refine J.skip rfl rfl rfl rfl rfl ?_ | refine J.skipU rfl rfl rfl rfl ?_ | (refine J.unguard rfl rfl rfl ?_; refine J.loadOA Ty.a23 Ty.s23 rfl (by repeat first | exact .head _ | apply List.Mem.tail | apply List.mem_append_right) (by exact rfl) rfl rfl ?_)
        exact J.finP rfl
      · skip
        refine Fin.consE rfl (Fin.nil ?_)
        first | refine J.skip rfl rfl rfl rfl rfl ?_ | refine J.skipU rfl rfl rfl rfl ?_ | (refine J.unguard rfl rfl rfl ?_; refine J.fieldAddr Ty.fd41_1 rfl rfl ?_)
        exact J.finP rfl
      · skip
        refine Fin.consE rfl (Fin.consE rfl (Fin.nil ?_))
        first | refine J.skip rfl rfl rfl rfl rfl ?_ | refine J.skipU rfl rfl rfl rfl ?_ | (refine J.unguard rfl rfl rfl ?_; refine J.loadOA Ty.a23 Ty.s23 rfl (by repeat first | exact .head _ | apply List.Mem.tail | apply List.mem_append_right) (by exact rfl) rfl rfl ?_)
        exact J.finP rfl
      · skip
        refine Fin.consE rfl (Fin.consE rfl (Fin.consE rfl (Fin.nil ?_)))
        first | refine J.skip rfl rfl rfl rfl rfl ?_ | refine J.skipU rfl rfl rfl rfl ?_ | (refine J.unguard rfl rfl rfl ?_; refine J.eqI Ty.QI Ty.keyI rfl rfl rfl ?_)
        exact J.finP rfl
      · skip
        refine Fin.consE rfl (Fin.consE rfl (Fin.nil ?_))
        (first | refine J.pickT rfl rfl rfl ?_ | refine J.pickF rfl rfl rfl ?_)
        exact J.finP rfl
    case htail =>
      refine Fin.consE rfl (Fin.consE rfl (Fin.consE rfl (Fin.consE rfl (Fin.consE rfl (Fin.consE rfl (Fin.consE rfl (Fin.consE rfl (Fin.consE rfl (Fin.consE rfl (Fin.consE rfl (Fin.consE rfl (Fin.consE rfl (Fin.consE rfl (Fin.consE rfl (Fin.consE rfl (Fin.consE rfl (Fin.consE rfl (Fin.consE rfl (Fin.consE rfl (Fin.consE rfl (Fin.consE rfl (Fin.consE rfl (Fin.consE rfl (Fin.consE rfl (Fin.consE rfl (Fin.consE rfl (Fin.consE rfl (Fin.consE rfl (Fin.consE rfl (Fin.consE rfl (Fin.nil ?_)))))))))))))))))))))))))))))))
      refine J.nil ?_
      refine JX.thenN (hK2 _ _ ?_)
      first | refine JC.condT rfl ?_ | refine JC.cond rfl (fun _ => ?_) (fun h => by first | (exfalso; simp at h; omega) | (simp at h))
      refine JC.seq (fun K3 hK3 => ?_)
      refine JC.region ?_
      refine J.buildS (cs := cD nilV false false) Ty.pl37 zN rfl (by kernel_rfl) rfl ?_
      refine J.storeW Ty.s37 rfl rfl rfl rfl rfl (by simp [Value.oneCell']) (by repeat first | exact .here | apply Up.there) ?_
      refine J.assign rfl rfl ?_
      refine J.nil ?_
      refine JX.thenN (hK3 _ _ ?_)
      refine JC.ret ?_
      refine JX.thenR ?_
      refine JX.retCT rfl rfl rfl Ty.a37 Ty.s37 (vs := cD nilV false false) rfl (fun w1 hw => Cells.of_block (hw.own _ (.head _)) rfl) (fun w1 hw => ?_)
      exact ⟨rfl, (hw.drop (List.nil_sublist _)).below⟩
  · skip
    by_cases hc2 : 64 < way.length
    · skip
      apply JC.drawL 31 [Eqv (.pointer (some ⟨t, 0, none⟩)), Eqv (.bool false), Eqv (.bool false), Eqv (.slice aw way.length cw), Eqv (.int .i64 ((way.length : Nat) : Int)), Eqv (.bool false), Eqv (.bool false), Eqv (.bool false), Eqv (.slice aw way.length cw), Eqv (.int .i64 ((way.length : Nat) : Int)), Eqv (.bool true), Eqv (.bool true), Eqv (.bool true), Eqv (undef), Eqv (undef), Eqv (undef), Eqv (.bool true), Eqv (.bool true), Eqv (undef), Eqv (undef), Eqv (undef), Eqv (undef), Eqv (undef), Eqv (undef), Eqv (.bool true), Eqv (.bool true), Eqv (undef), Eqv (undef), Eqv (undef), Eqv (undef), Eqv (.bool true)] Ty.mixed rfl rfl rfl (by kernel_rfl) rfl rfl (fun w w' hw hb => hw.step hb) ⟨fun _ _ _ h _ => h, fun _ _ _ h _ => h, fun _ _ _ h _ => h, fun _ _ _ h _ => h, fun _ _ _ h _ => h, fun _ _ _ h _ => h, fun _ _ _ h _ => h, fun _ _ _ h _ => h, fun _ _ _ h _ => h, fun _ _ _ h _ => h, fun _ _ _ h _ => h, fun _ _ _ h _ => h, fun _ _ _ h _ => h, fun _ _ _ h _ => h, fun _ _ _ h _ => h, fun _ _ _ h _ => h, fun _ _ _ h _ => h, fun _ _ _ h _ => h, fun _ _ _ h _ => h, fun _ _ _ h _ => h, fun _ _ _ h _ => h, fun _ _ _ h _ => h, fun _ _ _ h _ => h, fun _ _ _ h _ => h, fun _ _ _ h _ => h, fun _ _ _ h _ => h, fun _ _ _ h _ => h, fun _ _ _ h _ => h, fun _ _ _ h _ => h, fun _ _ _ h _ => h, fun _ _ _ h _ => h, trivial⟩ ?hstep ?htail
      case hstep =>
        refine ⟨fun wi => ?_, fun wi => ?_, fun wi => ?_, fun wi => ?_, fun wi => ?_, fun wi => ?_, fun wi => ?_, fun wi => ?_, fun wi => ?_, fun wi => ?_, fun wi => ?_, fun wi => ?_, fun wi => ?_, fun wi => ?_, fun wi => ?_, fun wi => ?_, fun wi => ?_, fun wi => ?_, fun wi => ?_, fun wi => ?_, fun wi => ?_, fun wi => ?_, fun wi => ?_, fun wi => ?_, fun wi => ?_, fun wi => ?_, fun wi => ?_, fun wi => ?_, fun wi => ?_, fun wi => ?_, fun wi => ?_, trivial⟩
        · skip
          refine Fin.nil ?_
          refine J.move rfl rfl ?_
          exact J.finP rfl
        · skip
          refine Fin.consE rfl (Fin.nil ?_)
          refine J.eqNil Ty.u29 rfl rfl rfl ?_
          exact J.finP rfl
        · skip
          refine Fin.consE rfl (Fin.nil ?_)
          refine J.move rfl rfl ?_
          exact J.finP rfl
        · skip
          refine Fin.consE rfl (Fin.nil ?_)
          first | refine J.skip rfl rfl rfl rfl rfl ?_ | refine J.skipU rfl rfl rfl rfl ?_ | (refine J.unguard rfl rfl rfl ?_; refine J.move rfl rfl ?_)
          exact J.finP rfl
        · skip
          refine Fin.consE rfl (Fin.consE rfl (Fin.nil ?_))
          first | refine J.skip rfl rfl rfl rfl rfl ?_ | refine J.skipU rfl rfl rfl rfl ?_ | (refine J.unguard rfl rfl rfl ?_; refine J.lenS rfl Ty.u26 rfl rfl ?_)
          exact J.finP rfl
        · skip
          refine Fin.consE rfl (Fin.consE rfl (Fin.nil ?_))
          refine J.unguard rfl rfl rfl ?_
          refine J.bin rfl rfl rfl rfl ?_
          refine J.name 21 rfl (show Value.bool _ = .bool false by simp; omega) ?_
          exact J.finP rfl
        · skip
          refine Fin.consE rfl (Fin.consE rfl (Fin.nil ?_))
          (first | refine J.pickT rfl rfl rfl ?_ | refine J.pickF rfl rfl rfl ?_)
          exact J.finP rfl
        · skip
          refine Fin.consE rfl (Fin.consE rfl (Fin.nil ?_))
          refine J.move rfl rfl ?_
          exact J.finP rfl
        · skip
          refine Fin.consE rfl (Fin.nil ?_)
          first | refine J.skip rfl rfl rfl rfl rfl ?_ | refine J.skipU rfl rfl rfl rfl ?_ | (refine J.unguard rfl rfl rfl ?_; refine J.move rfl rfl ?_)
          exact J.finP rfl
        · skip
          refine Fin.consE rfl (Fin.consE rfl (Fin.nil ?_))
          first | refine J.skip rfl rfl rfl rfl rfl ?_ | refine J.skipU rfl rfl rfl rfl ?_ | (refine J.unguard rfl rfl rfl ?_; refine J.lenS rfl Ty.u26 rfl rfl ?_)
          exact J.finP rfl
        · skip
          refine Fin.consE rfl (Fin.consE rfl (Fin.nil ?_))
          refine J.unguard rfl rfl rfl ?_
          refine J.bin rfl rfl rfl rfl ?_
          refine J.name 26 rfl (show Value.bool _ = .bool true by simp; omega) ?_
          exact J.finP rfl
        · skip
          refine Fin.consE rfl (Fin.consE rfl (Fin.nil ?_))
          (first | refine J.pickT rfl rfl rfl ?_ | refine J.pickF rfl rfl rfl ?_)
          exact J.finP rfl
        · skip
          refine Fin.consE rfl (Fin.consE rfl (Fin.nil ?_))
          refine J.move rfl rfl ?_
          exact J.finP rfl
        · skip
          refine Fin.consE rfl (Fin.nil ?_)
          first | refine J.skip rfl rfl rfl rfl rfl ?_ | refine J.skipU rfl rfl rfl rfl ?_ | (refine J.unguard rfl rfl rfl ?_; refine J.move rfl rfl ?_)
          exact J.finP rfl
        · skip
          refine Fin.consE rfl (Fin.consE rfl (Fin.consE rfl (Fin.nil ?_)))
          first | refine J.skip rfl rfl rfl rfl rfl ?_ | refine J.skipU rfl rfl rfl rfl ?_ | (refine J.unguard rfl rfl rfl ?_; fail)
          exact J.finP rfl
        · skip
          refine Fin.consE rfl (Fin.consE rfl (Fin.nil ?_))
          first | refine J.skip rfl rfl rfl rfl rfl ?_ | refine J.skipU rfl rfl rfl rfl ?_ | (refine J.unguard rfl rfl rfl ?_; refine J.not rfl rfl ?_)
          exact J.finP rfl
        · skip
          refine Fin.consE rfl (Fin.consE rfl (Fin.nil ?_))
          (first | refine J.pickT rfl rfl rfl ?_ | refine J.pickF rfl rfl rfl ?_)
          exact J.finP rfl
        · skip
          refine Fin.consE rfl (Fin.consE rfl (Fin.nil ?_))
          refine J.move rfl rfl ?_
          exact J.finP rfl
        · skip
          refine Fin.consE rfl (Fin.nil ?_)
          first | refine J.skip rfl rfl rfl rfl rfl ?_ | refine J.skipU rfl rfl rfl rfl ?_ | (refine J.unguard rfl rfl rfl ?_; refine J.move rfl rfl ?_)
          exact J.finP rfl
        · skip
          refine Fin.consE rfl (Fin.consE rfl (Fin.nil ?_))
          first | refine J.skip rfl rfl rfl rfl rfl ?_ | refine J.skipU rfl rfl rfl rfl ?_ | (refine J.unguard rfl rfl rfl ?_; refine J.indexAddrS Ty.el26 Ty.s3 rfl rfl (by omega) (by omega) rfl ?_)
          exact J.finP rfl
        · skip
          refine Fin.consE rfl (Fin.consE rfl (Fin.nil ?_))
          first | refine J.skip rfl rfl rfl rfl rfl ?_ | refine J.skipU rfl rfl rfl rfl ?_ | (refine J.unguard rfl rfl rfl ?_; refine J.load1 Ty.a3 rfl (fun w hw => (cell_of (hw.2.own (_, _) (by repeat first | exact .head _ | apply List.Mem.tail | apply List.mem_append_right))).trans (by exact rfl)) rfl ?_)
          exact J.finP rfl
        · skip
          refine Fin.consE rfl (Fin.nil ?_)
          first | refine J.skip rfl rfl rfl rfl rfl ?_ | refine J.skipU rfl rfl rfl rfl ?_ | (refine J.unguard rfl rfl rfl ?_; refine J.fieldAddr Ty.fd41_0 rfl rfl ?_)
          exact J.finP rfl
        · skip
          refine Fin.consE rfl (Fin.consE rfl (Fin.nil ?_))
          first | refine J.skip rfl rfl rfl rfl rfl ?_ | refine J.skipU rfl rfl rfl rfl ?_ | (refine J.unguard rfl rfl rfl ?_; refine J.load1 Ty.a3 rfl (fun w hw => (cell_of (hw.2.own (_, _) (by repeat first | exact .head _ | apply List.Mem.tail | apply List.mem_append_right))).trans (by exact rfl)) rfl ?_)
          exact J.finP rfl
        · skip
          refine Fin.consE rfl (Fin.consE rfl (Fin.consE rfl (Fin.nil ?_)))
          first | refine J.skip rfl rfl rfl rfl rfl ?_ | refine J.skipU rfl rfl rfl rfl ?_ | (refine J.unguard rfl rfl rfl ?_; refine J.bin rfl rfl rfl rfl ?_)
          exact J.finP rfl
        · skip
          refine Fin.consE rfl (Fin.consE rfl (Fin.nil ?_))
          (first | refine J.pickT rfl rfl rfl ?_ | refine J.pickF rfl rfl rfl ?_)
          exact J.finP rfl
        · skip
          refine Fin.consE rfl (Fin.consE rfl (Fin.nil ?_))
          refine J.move rfl rfl ?_
          exact J.finP rfl
        · skip
          refine Fin.consE rfl (Fin.nil ?_)
          first | refine J.skip rfl rfl rfl rfl rfl ?_ | refine J.skipU rfl rfl rfl rfl ?_ | (refine J.unguard rfl rfl rfl ?_; refine J.loadOA Ty.a23 Ty.s23 rfl (by repeat first | exact .head _ | apply List.Mem.tail | apply List.mem_append_right) (by exact rfl) rfl rfl ?_)
          exact J.finP rfl
        · skip
          refine Fin.consE rfl (Fin.nil ?_)
          first | refine J.skip rfl rfl rfl rfl rfl ?_ | refine J.skipU rfl rfl rfl rfl ?_ | (refine J.unguard rfl rfl rfl ?_; refine J.fieldAddr Ty.fd41_1 rfl rfl ?_)
          exact J.finP rfl
        · skip
          refine Fin.consE rfl (Fin.consE rfl (Fin.nil ?_))
          first | refine J.skip rfl rfl rfl rfl rfl ?_ | refine J.skipU rfl rfl rfl rfl ?_ | (refine J.unguard rfl rfl rfl ?_; refine J.loadOA Ty.a23 Ty.s23 rfl (by repeat first | exact .head _ | apply List.Mem.tail | apply List.mem_append_right) (by exact rfl) rfl rfl ?_)
          exact J.finP rfl
        · skip
          refine Fin.consE rfl (Fin.consE rfl (Fin.consE rfl (Fin.nil ?_)))
          first | refine J.skip rfl rfl rfl rfl rfl ?_ | refine J.skipU rfl rfl rfl rfl ?_ | (refine J.unguard rfl rfl rfl ?_; refine J.eqI Ty.QI Ty.keyI rfl rfl rfl ?_)
          exact J.finP rfl
        · skip
          refine Fin.consE rfl (Fin.consE rfl (Fin.nil ?_))
          (first | refine J.pickT rfl rfl rfl ?_ | refine J.pickF rfl rfl rfl ?_)
          exact J.finP rfl
      case htail =>
        refine Fin.consE rfl (Fin.consE rfl (Fin.consE rfl (Fin.consE rfl (Fin.consE rfl (Fin.consE rfl (Fin.consE rfl (Fin.consE rfl (Fin.consE rfl (Fin.consE rfl (Fin.consE rfl (Fin.consE rfl (Fin.consE rfl (Fin.consE rfl (Fin.consE rfl (Fin.consE rfl (Fin.consE rfl (Fin.consE rfl (Fin.consE rfl (Fin.consE rfl (Fin.consE rfl (Fin.consE rfl (Fin.consE rfl (Fin.consE rfl (Fin.consE rfl (Fin.consE rfl (Fin.consE rfl (Fin.consE rfl (Fin.consE rfl (Fin.consE rfl (Fin.consE rfl (Fin.nil ?_)))))))))))))))))))))))))))))))
        refine J.nil ?_
        refine JX.thenN (hK2 _ _ ?_)
        first | refine JC.condT rfl ?_ | refine JC.cond rfl (fun _ => ?_) (fun h => by first | (exfalso; simp at h; omega) | (simp at h))
        refine JC.seq (fun K4 hK4 => ?_)
        refine JC.region ?_
        refine J.buildS (cs := cD nilV false false) Ty.pl37 zN rfl (by kernel_rfl) rfl ?_
        refine J.storeW Ty.s37 rfl rfl rfl rfl rfl (by simp [Value.oneCell']) (by repeat first | exact .here | apply Up.there) ?_
        refine J.assign rfl rfl ?_
        refine J.nil ?_
        refine JX.thenN (hK4 _ _ ?_)
        refine JC.ret ?_
        refine JX.thenR ?_
        refine JX.retCT rfl rfl rfl Ty.a37 Ty.s37 (vs := cD nilV false false) rfl (fun w1 hw => Cells.of_block (hw.own _ (.head _)) rfl) (fun w1 hw => ?_)
        exact ⟨rfl, (hw.drop (List.nil_sublist _)).below⟩
    · skip
      by_cases hc3 : ¬ way.Nodup
      · skip
        apply JC.drawL 31 [Eqv (.pointer (some ⟨t, 0, none⟩)), Eqv (.bool false), Eqv (.bool false), Eqv (.slice aw way.length cw), Eqv (.int .i64 ((way.length : Nat) : Int)), Eqv (.bool false), Eqv (.bool false), Eqv (.bool false), Eqv (.slice aw way.length cw), Eqv (.int .i64 ((way.length : Nat) : Int)), Eqv (.bool false), Eqv (.bool false), Eqv (.bool false), Eqv (.slice aw way.length cw), Eqv (.bool false), Eqv (.bool true), Eqv (.bool true), Eqv (.bool true), Eqv (undef), Eqv (undef), Eqv (undef), Eqv (undef), Eqv (undef), Eqv (undef), Eqv (.bool true), Eqv (.bool true), Eqv (undef), Eqv (undef), Eqv (undef), Eqv (undef), Eqv (.bool true)] Ty.mixed rfl rfl rfl (by kernel_rfl) rfl rfl (fun w w' hw hb => hw.step hb) ⟨fun _ _ _ h _ => h, fun _ _ _ h _ => h, fun _ _ _ h _ => h, fun _ _ _ h _ => h, fun _ _ _ h _ => h, fun _ _ _ h _ => h, fun _ _ _ h _ => h, fun _ _ _ h _ => h, fun _ _ _ h _ => h, fun _ _ _ h _ => h, fun _ _ _ h _ => h, fun _ _ _ h _ => h, fun _ _ _ h _ => h, fun _ _ _ h _ => h, fun _ _ _ h _ => h, fun _ _ _ h _ => h, fun _ _ _ h _ => h, fun _ _ _ h _ => h, fun _ _ _ h _ => h, fun _ _ _ h _ => h, fun _ _ _ h _ => h, fun _ _ _ h _ => h, fun _ _ _ h _ => h, fun _ _ _ h _ => h, fun _ _ _ h _ => h, fun _ _ _ h _ => h, fun _ _ _ h _ => h, fun _ _ _ h _ => h, fun _ _ _ h _ => h, fun _ _ _ h _ => h, fun _ _ _ h _ => h, trivial⟩ ?hstep ?htail
        case hstep =>
          refine ⟨fun wi => ?_, fun wi => ?_, fun wi => ?_, fun wi => ?_, fun wi => ?_, fun wi => ?_, fun wi => ?_, fun wi => ?_, fun wi => ?_, fun wi => ?_, fun wi => ?_, fun wi => ?_, fun wi => ?_, fun wi => ?_, fun wi => ?_, fun wi => ?_, fun wi => ?_, fun wi => ?_, fun wi => ?_, fun wi => ?_, fun wi => ?_, fun wi => ?_, fun wi => ?_, fun wi => ?_, fun wi => ?_, fun wi => ?_, fun wi => ?_, fun wi => ?_, fun wi => ?_, fun wi => ?_, fun wi => ?_, trivial⟩
          · skip
            refine Fin.nil ?_
            refine J.move rfl rfl ?_
            exact J.finP rfl
          · skip
            refine Fin.consE rfl (Fin.nil ?_)
            refine J.eqNil Ty.u29 rfl rfl rfl ?_
            exact J.finP rfl
          · skip
            refine Fin.consE rfl (Fin.nil ?_)
            refine J.move rfl rfl ?_
            exact J.finP rfl
          · skip
            refine Fin.consE rfl (Fin.nil ?_)
            first | refine J.skip rfl rfl rfl rfl rfl ?_ | refine J.skipU rfl rfl rfl rfl ?_ | (refine J.unguard rfl rfl rfl ?_; refine J.move rfl rfl ?_)
            exact J.finP rfl
          · skip
            refine Fin.consE rfl (Fin.consE rfl (Fin.nil ?_))
            first | refine J.skip rfl rfl rfl rfl rfl ?_ | refine J.skipU rfl rfl rfl rfl ?_ | (refine J.unguard rfl rfl rfl ?_; refine J.lenS rfl Ty.u26 rfl rfl ?_)
            exact J.finP rfl
          · skip
            refine Fin.consE rfl (Fin.consE rfl (Fin.nil ?_))
            refine J.unguard rfl rfl rfl ?_
            refine J.bin rfl rfl rfl rfl ?_
            refine J.name 21 rfl (show Value.bool _ = .bool false by simp; omega) ?_
            exact J.finP rfl
          · skip
            refine Fin.consE rfl (Fin.consE rfl (Fin.nil ?_))
            (first | refine J.pickT rfl rfl rfl ?_ | refine J.pickF rfl rfl rfl ?_)
            exact J.finP rfl
          · skip
            refine Fin.consE rfl (Fin.consE rfl (Fin.nil ?_))
            refine J.move rfl rfl ?_
            exact J.finP rfl
          · skip
            refine Fin.consE rfl (Fin.nil ?_)
            first | refine J.skip rfl rfl rfl rfl rfl ?_ | refine J.skipU rfl rfl rfl rfl ?_ | (refine J.unguard rfl rfl rfl ?_; refine J.move rfl rfl ?_)
            exact J.finP rfl
          · skip
            refine Fin.consE rfl (Fin.consE rfl (Fin.nil ?_))
            first | refine J.skip rfl rfl rfl rfl rfl ?_ | refine J.skipU rfl rfl rfl rfl ?_ | (refine J.unguard rfl rfl rfl ?_; refine J.lenS rfl Ty.u26 rfl rfl ?_)
            exact J.finP rfl
          · skip
            refine Fin.consE rfl (Fin.consE rfl (Fin.nil ?_))
            refine J.unguard rfl rfl rfl ?_
            refine J.bin rfl rfl rfl rfl ?_
            refine J.name 26 rfl (show Value.bool _ = .bool false by simp; omega) ?_
            exact J.finP rfl
          · skip
            refine Fin.consE rfl (Fin.consE rfl (Fin.nil ?_))
            (first | refine J.pickT rfl rfl rfl ?_ | refine J.pickF rfl rfl rfl ?_)
            exact J.finP rfl
          · skip
            refine Fin.consE rfl (Fin.consE rfl (Fin.nil ?_))
            refine J.move rfl rfl ?_
            exact J.finP rfl
          · skip
            refine Fin.consE rfl (Fin.nil ?_)
            first | refine J.skip rfl rfl rfl rfl rfl ?_ | refine J.skipU rfl rfl rfl rfl ?_ | (refine J.unguard rfl rfl rfl ?_; refine J.move rfl rfl ?_)
            exact J.finP rfl
          · skip
            refine Fin.consE rfl (Fin.consE rfl (Fin.consE rfl (Fin.nil ?_)))
            refine J.unguard rfl rfl rfl ?_
            refine J.callD (v := .bool false) Ty.bd52 rfl rfl (fun w1 hw => (by have h := simple_spec _ way w1 (hr.below (hw.drop (List.nil_sublist _)).below) hlw; rw [decide_eq_false hc3] at h; exact h)) ?_
            exact J.finQ rfl
          · skip
            refine Fin.consE rfl (Fin.consE rfl (Fin.nil ?_))
            first | refine J.skip rfl rfl rfl rfl rfl ?_ | refine J.skipU rfl rfl rfl rfl ?_ | (refine J.unguard rfl rfl rfl ?_; refine J.not rfl rfl ?_)
            exact J.finP rfl
          · skip
            refine Fin.consE rfl (Fin.consE rfl (Fin.nil ?_))
            (first | refine J.pickT rfl rfl rfl ?_ | refine J.pickF rfl rfl rfl ?_)
            exact J.finP rfl
          · skip
            refine Fin.consE rfl (Fin.consE rfl (Fin.nil ?_))
            refine J.move rfl rfl ?_
            exact J.finP rfl
          · skip
            refine Fin.consE rfl (Fin.nil ?_)
            first | refine J.skip rfl rfl rfl rfl rfl ?_ | refine J.skipU rfl rfl rfl rfl ?_ | (refine J.unguard rfl rfl rfl ?_; refine J.move rfl rfl ?_)
            exact J.finP rfl
          · skip
            refine Fin.consE rfl (Fin.consE rfl (Fin.nil ?_))
            first | refine J.skip rfl rfl rfl rfl rfl ?_ | refine J.skipU rfl rfl rfl rfl ?_ | (refine J.unguard rfl rfl rfl ?_; refine J.indexAddrS Ty.el26 Ty.s3 rfl rfl (by omega) (by omega) rfl ?_)
            exact J.finP rfl
          · skip
            refine Fin.consE rfl (Fin.consE rfl (Fin.nil ?_))
            first | refine J.skip rfl rfl rfl rfl rfl ?_ | refine J.skipU rfl rfl rfl rfl ?_ | (refine J.unguard rfl rfl rfl ?_; refine J.load1 Ty.a3 rfl (fun w hw => (cell_of (hw.2.own (_, _) (by repeat first | exact .head _ | apply List.Mem.tail | apply List.mem_append_right))).trans (by exact rfl)) rfl ?_)
            exact J.finP rfl
          · skip
            refine Fin.consE rfl (Fin.nil ?_)
            first | refine J.skip rfl rfl rfl rfl rfl ?_ | refine J.skipU rfl rfl rfl rfl ?_ | (refine J.unguard rfl rfl rfl ?_; refine J.fieldAddr Ty.fd41_0 rfl rfl ?_)
            exact J.finP rfl
          · skip
            refine Fin.consE rfl (Fin.consE rfl (Fin.nil ?_))
            first | refine J.skip rfl rfl rfl rfl rfl ?_ | refine J.skipU rfl rfl rfl rfl ?_ | (refine J.unguard rfl rfl rfl ?_; refine J.load1 Ty.a3 rfl (fun w hw => (cell_of (hw.2.own (_, _) (by repeat first | exact .head _ | apply List.Mem.tail | apply List.mem_append_right))).trans (by exact rfl)) rfl ?_)
            exact J.finP rfl
          · skip
            refine Fin.consE rfl (Fin.consE rfl (Fin.consE rfl (Fin.nil ?_)))
            first | refine J.skip rfl rfl rfl rfl rfl ?_ | refine J.skipU rfl rfl rfl rfl ?_ | (refine J.unguard rfl rfl rfl ?_; refine J.bin rfl rfl rfl rfl ?_)
            exact J.finP rfl
          · skip
            refine Fin.consE rfl (Fin.consE rfl (Fin.nil ?_))
            (first | refine J.pickT rfl rfl rfl ?_ | refine J.pickF rfl rfl rfl ?_)
            exact J.finP rfl
          · skip
            refine Fin.consE rfl (Fin.consE rfl (Fin.nil ?_))
            refine J.move rfl rfl ?_
            exact J.finP rfl
          · skip
            refine Fin.consE rfl (Fin.nil ?_)
            first | refine J.skip rfl rfl rfl rfl rfl ?_ | refine J.skipU rfl rfl rfl rfl ?_ | (refine J.unguard rfl rfl rfl ?_; refine J.loadOA Ty.a23 Ty.s23 rfl (by repeat first | exact .head _ | apply List.Mem.tail | apply List.mem_append_right) (by exact rfl) rfl rfl ?_)
            exact J.finP rfl
          · skip
            refine Fin.consE rfl (Fin.nil ?_)
            first | refine J.skip rfl rfl rfl rfl rfl ?_ | refine J.skipU rfl rfl rfl rfl ?_ | (refine J.unguard rfl rfl rfl ?_; refine J.fieldAddr Ty.fd41_1 rfl rfl ?_)
            exact J.finP rfl
          · skip
            refine Fin.consE rfl (Fin.consE rfl (Fin.nil ?_))
            first | refine J.skip rfl rfl rfl rfl rfl ?_ | refine J.skipU rfl rfl rfl rfl ?_ | (refine J.unguard rfl rfl rfl ?_; refine J.loadOA Ty.a23 Ty.s23 rfl (by repeat first | exact .head _ | apply List.Mem.tail | apply List.mem_append_right) (by exact rfl) rfl rfl ?_)
            exact J.finP rfl
          · skip
            refine Fin.consE rfl (Fin.consE rfl (Fin.consE rfl (Fin.nil ?_)))
            first | refine J.skip rfl rfl rfl rfl rfl ?_ | refine J.skipU rfl rfl rfl rfl ?_ | (refine J.unguard rfl rfl rfl ?_; refine J.eqI Ty.QI Ty.keyI rfl rfl rfl ?_)
            exact J.finP rfl
          · skip
            refine Fin.consE rfl (Fin.consE rfl (Fin.nil ?_))
            (first | refine J.pickT rfl rfl rfl ?_ | refine J.pickF rfl rfl rfl ?_)
            exact J.finP rfl
        case htail =>
          refine Fin.consE rfl (Fin.consE rfl (Fin.consE rfl (Fin.consE rfl (Fin.consE rfl (Fin.consE rfl (Fin.consE rfl (Fin.consE rfl (Fin.consE rfl (Fin.consE rfl (Fin.consE rfl (Fin.consE rfl (Fin.consE rfl (Fin.consE rfl (Fin.consE rfl (Fin.consE rfl (Fin.consE rfl (Fin.consE rfl (Fin.consE rfl (Fin.consE rfl (Fin.consE rfl (Fin.consE rfl (Fin.consE rfl (Fin.consE rfl (Fin.consE rfl (Fin.consE rfl (Fin.consE rfl (Fin.consE rfl (Fin.consE rfl (Fin.consE rfl (Fin.consE rfl (Fin.nil ?_)))))))))))))))))))))))))))))))
          refine J.nil ?_
          refine JX.thenN (hK2 _ _ ?_)
          first | refine JC.condT rfl ?_ | refine JC.cond rfl (fun _ => ?_) (fun h => by first | (exfalso; simp at h; omega) | (simp at h))
          refine JC.seq (fun K5 hK5 => ?_)
          refine JC.region ?_
          refine J.buildS (cs := cD nilV false false) Ty.pl37 zN rfl (by kernel_rfl) rfl ?_
          refine J.storeW Ty.s37 rfl rfl rfl rfl rfl (by simp [Value.oneCell']) (by repeat first | exact .here | apply Up.there) ?_
          refine J.assign rfl rfl ?_
          refine J.nil ?_
          refine JX.thenN (hK5 _ _ ?_)
          refine JC.ret ?_
          refine JX.thenR ?_
          refine JX.retCT rfl rfl rfl Ty.a37 Ty.s37 (vs := cD nilV false false) rfl (fun w1 hw => Cells.of_block (hw.own _ (.head _)) rfl) (fun w1 hw => ?_)
          exact ⟨rfl, (hw.drop (List.nil_sublist _)).below⟩
      · skip
        have hnd : way.Nodup := Classical.not_not.1 hc3
        by_cases hc4 : way[0]? ≠ some n
        · skip
          obtain ⟨qw, ow, _, hqe, _, _⟩ := Row.some hr (by simp; omega)
          simp only [Value.slice.injEq] at hqe
          obtain ⟨rfl, _, rfl⟩ := hqe
          obtain ⟨n0, hn0⟩ : ∃ y, way[0]? = some y := ⟨_, List.getElem?_eq_getElem (by omega)⟩
          apply JC.drawL 31 [Eqv (.pointer (some ⟨t, 0, none⟩)), Eqv (.bool false), Eqv (.bool false), Eqv (.slice (some ⟨qw, ow, none⟩) way.length cw), Eqv (.int .i64 ((way.length : Nat) : Int)), Eqv (.bool false), Eqv (.bool false), Eqv (.bool false), Eqv (.slice (some ⟨qw, ow, none⟩) way.length cw), Eqv (.int .i64 ((way.length : Nat) : Int)), Eqv (.bool false), Eqv (.bool false), Eqv (.bool false), Eqv (.slice (some ⟨qw, ow, none⟩) way.length cw), Eqv (.bool true), Eqv (.bool false), Eqv (.bool false), Eqv (.bool false), Eqv (.slice (some ⟨qw, ow, none⟩) way.length cw), Eqv (.pointer (some ⟨qw, ow + (0 : Int).toNat * 1, none⟩)), Eqv (iV n0), Eqv (.pointer (some ⟨b7, 0 + 0, none⟩)), Eqv (iV n), Eqv (.bool true), Eqv (.bool true), Eqv (.bool true), Eqv (undef), Eqv (undef), Eqv (undef), Eqv (undef), Eqv (.bool true)] Ty.mixed rfl rfl rfl (by kernel_rfl) rfl rfl (fun w w' hw hb => hw.step hb) ⟨fun _ _ _ h _ => h, fun _ _ _ h _ => h, fun _ _ _ h _ => h, fun _ _ _ h _ => h, fun _ _ _ h _ => h, fun _ _ _ h _ => h, fun _ _ _ h _ => h, fun _ _ _ h _ => h, fun _ _ _ h _ => h, fun _ _ _ h _ => h, fun _ _ _ h _ => h, fun _ _ _ h _ => h, fun _ _ _ h _ => h, fun _ _ _ h _ => h, fun _ _ _ h _ => h, fun _ _ _ h _ => h, fun _ _ _ h _ => h, fun _ _ _ h _ => h, fun _ _ _ h _ => h, fun _ _ _ h _ => h, fun _ _ _ h _ => h, fun _ _ _ h _ => h, fun _ _ _ h _ => h, fun _ _ _ h _ => h, fun _ _ _ h _ => h, fun _ _ _ h _ => h, fun _ _ _ h _ => h, fun _ _ _ h _ => h, fun _ _ _ h _ => h, fun _ _ _ h _ => h, fun _ _ _ h _ => h, trivial⟩ ?hstep ?htail
          case hstep =>
            refine ⟨fun wi => ?_, fun wi => ?_, fun wi => ?_, fun wi => ?_, fun wi => ?_, fun wi => ?_, fun wi => ?_, fun wi => ?_, fun wi => ?_, fun wi => ?_, fun wi => ?_, fun wi => ?_, fun wi => ?_, fun wi => ?_, fun wi => ?_, fun wi => ?_, fun wi => ?_, fun wi => ?_, fun wi => ?_, fun wi => ?_, fun wi => ?_, fun wi => ?_, fun wi => ?_, fun wi => ?_, fun wi => ?_, fun wi => ?_, fun wi => ?_, fun wi => ?_, fun wi => ?_, fun wi => ?_, fun wi => ?_, trivial⟩
            · skip
              refine Fin.nil ?_
              refine J.move rfl rfl ?_
              exact J.finP rfl
            · skip
              refine Fin.consE rfl (Fin.nil ?_)
              refine J.eqNil Ty.u29 rfl rfl rfl ?_
              exact J.finP rfl
            · skip
              refine Fin.consE rfl (Fin.nil ?_)
              refine J.move rfl rfl ?_
              exact J.finP rfl
            · skip
              refine Fin.consE rfl (Fin.nil ?_)
              first | refine J.skip rfl rfl rfl rfl rfl ?_ | refine J.skipU rfl rfl rfl rfl ?_ | (refine J.unguard rfl rfl rfl ?_; refine J.move rfl rfl ?_)
              exact J.finP rfl
            · skip
              refine Fin.consE rfl (Fin.consE rfl (Fin.nil ?_))
              first | refine J.skip rfl rfl rfl rfl rfl ?_ | refine J.skipU rfl rfl rfl rfl ?_ | (refine J.unguard rfl rfl rfl ?_; refine J.lenS rfl Ty.u26 rfl rfl ?_)
              exact J.finP rfl
            · skip
              refine Fin.consE rfl (Fin.consE rfl (Fin.nil ?_))
              refine J.unguard rfl rfl rfl ?_
              refine J.bin rfl rfl rfl rfl ?_
              refine J.name 21 rfl (show Value.bool _ = .bool false by simp; omega) ?_
              exact J.finP rfl
            · skip
              refine Fin.consE rfl (Fin.consE rfl (Fin.nil ?_))
              (first | refine J.pickT rfl rfl rfl ?_ | refine J.pickF rfl rfl rfl ?_)
              exact J.finP rfl
            · skip
              refine Fin.consE rfl (Fin.consE rfl (Fin.nil ?_))
              refine J.move rfl rfl ?_
              exact J.finP rfl
            · skip
              refine Fin.consE rfl (Fin.nil ?_)
              first | refine J.skip rfl rfl rfl rfl rfl ?_ | refine J.skipU rfl rfl rfl rfl ?_ | (refine J.unguard rfl rfl rfl ?_; refine J.move rfl rfl ?_)
              exact J.finP rfl
            · skip
              refine Fin.consE rfl (Fin.consE rfl (Fin.nil ?_))
              first | refine J.skip rfl rfl rfl rfl rfl ?_ | refine J.skipU rfl rfl rfl rfl ?_ | (refine J.unguard rfl rfl rfl ?_; refine J.lenS rfl Ty.u26 rfl rfl ?_)
              exact J.finP rfl
            · skip
              refine Fin.consE rfl (Fin.consE rfl (Fin.nil ?_))
              refine J.unguard rfl rfl rfl ?_
              refine J.bin rfl rfl rfl rfl ?_
              refine J.name 26 rfl (show Value.bool _ = .bool false by simp; omega) ?_
              exact J.finP rfl
            · skip
              refine Fin.consE rfl (Fin.consE rfl (Fin.nil ?_))
              (first | refine J.pickT rfl rfl rfl ?_ | refine J.pickF rfl rfl rfl ?_)
              exact J.finP rfl
            · skip
              refine Fin.consE rfl (Fin.consE rfl (Fin.nil ?_))
              refine J.move rfl rfl ?_
              exact J.finP rfl
            · skip
              refine Fin.consE rfl (Fin.nil ?_)
              first | refine J.skip rfl rfl rfl rfl rfl ?_ | refine J.skipU rfl rfl rfl rfl ?_ | (refine J.unguard rfl rfl rfl ?_; refine J.move rfl rfl ?_)
              exact J.finP rfl
            · skip
              refine Fin.consE rfl (Fin.consE rfl (Fin.consE rfl (Fin.nil ?_)))
              refine J.unguard rfl rfl rfl ?_
              refine J.callD (v := .bool true) Ty.bd52 rfl rfl (fun w1 hw => (by have h := simple_spec _ way w1 (hr.below (hw.drop (List.nil_sublist _)).below) hlw; rw [decide_eq_true hnd] at h; exact h)) ?_
              exact J.finQ rfl
            · skip
              refine Fin.consE rfl (Fin.consE rfl (Fin.nil ?_))
              first | refine J.skip rfl rfl rfl rfl rfl ?_ | refine J.skipU rfl rfl rfl rfl ?_ | (refine J.unguard rfl rfl rfl ?_; refine J.not rfl rfl ?_)
              exact J.finP rfl
            · skip
              refine Fin.consE rfl (Fin.consE rfl (Fin.nil ?_))
              (first | refine J.pickT rfl rfl rfl ?_ | refine J.pickF rfl rfl rfl ?_)
              exact J.finP rfl
            · skip
              refine Fin.consE rfl (Fin.consE rfl (Fin.nil ?_))
              refine J.move rfl rfl ?_
              exact J.finP rfl
            · skip
              refine Fin.consE rfl (Fin.nil ?_)
              first | refine J.skip rfl rfl rfl rfl rfl ?_ | refine J.skipU rfl rfl rfl rfl ?_ | (refine J.unguard rfl rfl rfl ?_; refine J.move rfl rfl ?_)
              exact J.finP rfl
            · skip
              refine Fin.consE rfl (Fin.consE rfl (Fin.nil ?_))
              refine J.unguard rfl rfl rfl ?_
              refine J.indexAddrS Ty.el26 Ty.s3 rfl rfl (by omega) (by omega) rfl ?_
              exact J.finP rfl
            · skip
              refine Fin.consE rfl (Fin.consE rfl (Fin.nil ?_))
              refine J.unguard rfl rfl rfl ?_
              refine J.load1 (v := iV n0) Ty.a3 rfl (fun w1 hw => rowI_at2 (i := 0) (hr.below (hw.2.drop (List.nil_sublist _)).below) hn0 (by simp)) rfl ?_
              exact J.finP rfl
            · skip
              refine Fin.consE rfl (Fin.nil ?_)
              first | refine J.skip rfl rfl rfl rfl rfl ?_ | refine J.skipU rfl rfl rfl rfl ?_ | (refine J.unguard rfl rfl rfl ?_; refine J.fieldAddr Ty.fd41_0 rfl rfl ?_)
              exact J.finP rfl
            · skip
              refine Fin.consE rfl (Fin.consE rfl (Fin.nil ?_))
              first | refine J.skip rfl rfl rfl rfl rfl ?_ | refine J.skipU rfl rfl rfl rfl ?_ | (refine J.unguard rfl rfl rfl ?_; refine J.load1 Ty.a3 rfl (fun w hw => (cell_of (hw.2.own (_, _) (by repeat first | exact .head _ | apply List.Mem.tail | apply List.mem_append_right))).trans (by exact rfl)) rfl ?_)
              exact J.finP rfl
            · skip
              refine Fin.consE rfl (Fin.consE rfl (Fin.consE rfl (Fin.nil ?_)))
              refine J.unguard rfl rfl rfl ?_
              refine J.bin rfl rfl rfl rfl ?_
              refine J.name 39 rfl (show Value.bool _ = .bool true by simp; intro e; exact hc4 (by rw [hn0, e])) ?_
              exact J.finP rfl
            · skip
              refine Fin.consE rfl (Fin.consE rfl (Fin.nil ?_))
              (first | refine J.pickT rfl rfl rfl ?_ | refine J.pickF rfl rfl rfl ?_)
              exact J.finP rfl
            · skip
              refine Fin.consE rfl (Fin.consE rfl (Fin.nil ?_))
              refine J.move rfl rfl ?_
              exact J.finP rfl
            · skip
              refine Fin.consE rfl (Fin.nil ?_)
              first | refine J.skip rfl rfl rfl rfl rfl ?_ | refine J.skipU rfl rfl rfl rfl ?_ | (refine J.unguard rfl rfl rfl ?_; refine J.loadOA Ty.a23 Ty.s23 rfl (by repeat first | exact .head _ | apply List.Mem.tail | apply List.mem_append_right) (by exact rfl) rfl rfl ?_)
              exact J.finP rfl
            · skip
              refine Fin.consE rfl (Fin.nil ?_)
              first | refine J.skip rfl rfl rfl rfl rfl ?_ | refine J.skipU rfl rfl rfl rfl ?_ | (refine J.unguard rfl rfl rfl ?_; refine J.fieldAddr Ty.fd41_1 rfl rfl ?_)
              exact J.finP rfl
            · skip
              refine Fin.consE rfl (Fin.consE rfl (Fin.nil ?_))
              first | refine J.skip rfl rfl rfl rfl rfl ?_ | refine J.skipU rfl rfl rfl rfl ?_ | (refine J.unguard rfl rfl rfl ?_; refine J.loadOA Ty.a23 Ty.s23 rfl (by repeat first | exact .head _ | apply List.Mem.tail | apply List.mem_append_right) (by exact rfl) rfl rfl ?_)
              exact J.finP rfl
            · skip
              refine Fin.consE rfl (Fin.consE rfl (Fin.consE rfl (Fin.nil ?_)))
              first | refine J.skip rfl rfl rfl rfl rfl ?_ | refine J.skipU rfl rfl rfl rfl ?_ | (refine J.unguard rfl rfl rfl ?_; refine J.eqI Ty.QI Ty.keyI rfl rfl rfl ?_)
              exact J.finP rfl
            · skip
              refine Fin.consE rfl (Fin.consE rfl (Fin.nil ?_))
              (first | refine J.pickT rfl rfl rfl ?_ | refine J.pickF rfl rfl rfl ?_)
              exact J.finP rfl
          case htail =>
            refine Fin.consE rfl (Fin.consE rfl (Fin.consE rfl (Fin.consE rfl (Fin.consE rfl (Fin.consE rfl (Fin.consE rfl (Fin.consE rfl (Fin.consE rfl (Fin.consE rfl (Fin.consE rfl (Fin.consE rfl (Fin.consE rfl (Fin.consE rfl (Fin.consE rfl (Fin.consE rfl (Fin.consE rfl (Fin.consE rfl (Fin.consE rfl (Fin.consE rfl (Fin.consE rfl (Fin.consE rfl (Fin.consE rfl (Fin.consE rfl (Fin.consE rfl (Fin.consE rfl (Fin.consE rfl (Fin.consE rfl (Fin.consE rfl (Fin.consE rfl (Fin.consE rfl (Fin.nil ?_)))))))))))))))))))))))))))))))
            refine J.nil ?_
            refine JX.thenN (hK2 _ _ ?_)
            first | refine JC.condT rfl ?_ | refine JC.cond rfl (fun _ => ?_) (fun h => by first | (exfalso; simp at h; omega) | (simp at h))
            refine JC.seq (fun K6 hK6 => ?_)
            refine JC.region ?_
            refine J.buildS (cs := cD nilV false false) Ty.pl37 zN rfl (by kernel_rfl) rfl ?_
            refine J.storeW Ty.s37 rfl rfl rfl rfl rfl (by simp [Value.oneCell']) (by repeat first | exact .here | apply Up.there) ?_
            refine J.assign rfl rfl ?_
            refine J.nil ?_
            refine JX.thenN (hK6 _ _ ?_)
            refine JC.ret ?_
            refine JX.thenR ?_
            refine JX.retCT rfl rfl rfl Ty.a37 Ty.s37 (vs := cD nilV false false) rfl (fun w1 hw => Cells.of_block (hw.own _ (.head _)) rfl) (fun w1 hw => ?_)
            exact ⟨rfl, (hw.drop (List.nil_sublist _)).below⟩
        · skip
          obtain ⟨qw, ow, _, hqe, _, _⟩ := Row.some hr (by simp; omega)
          simp only [Value.slice.injEq] at hqe
          obtain ⟨rfl, _, rfl⟩ := hqe
          obtain ⟨n0, hn0⟩ : ∃ y, way[0]? = some y := ⟨_, List.getElem?_eq_getElem (by omega)⟩
          obtain rfl : n = n0 := by have h9 := Classical.not_not.1 hc4; rw [hn0] at h9; exact (Option.some.inj h9).symm
          by_cases hc5 : b = me
          · skip
            apply JC.drawL 31 [Eqv (.pointer (some ⟨t, 0, none⟩)), Eqv (.bool false), Eqv (.bool false), Eqv (.slice (some ⟨qw, ow, none⟩) way.length cw), Eqv (.int .i64 ((way.length : Nat) : Int)), Eqv (.bool false), Eqv (.bool false), Eqv (.bool false), Eqv (.slice (some ⟨qw, ow, none⟩) way.length cw), Eqv (.int .i64 ((way.length : Nat) : Int)), Eqv (.bool false), Eqv (.bool false), Eqv (.bool false), Eqv (.slice (some ⟨qw, ow, none⟩) way.length cw), Eqv (.bool true), Eqv (.bool false), Eqv (.bool false), Eqv (.bool false), Eqv (.slice (some ⟨qw, ow, none⟩) way.length cw), Eqv (.pointer (some ⟨qw, ow + (0 : Int).toNat * 1, none⟩)), Eqv (iV n), Eqv (.pointer (some ⟨b7, 0 + 0, none⟩)), Eqv (iV n), Eqv (.bool false), Eqv (.bool false), Eqv (.bool false), Eqv (.agg (cI b).toArray), Eqv (.pointer (some ⟨b7, 0 + 1, none⟩)), Eqv (.agg (cI me).toArray), Eqv (.bool true), Eqv (.bool true)] Ty.mixed rfl rfl rfl (by kernel_rfl) rfl rfl (fun w w' hw hb => hw.step hb) ⟨fun _ _ _ h _ => h, fun _ _ _ h _ => h, fun _ _ _ h _ => h, fun _ _ _ h _ => h, fun _ _ _ h _ => h, fun _ _ _ h _ => h, fun _ _ _ h _ => h, fun _ _ _ h _ => h, fun _ _ _ h _ => h, fun _ _ _ h _ => h, fun _ _ _ h _ => h, fun _ _ _ h _ => h, fun _ _ _ h _ => h, fun _ _ _ h _ => h, fun _ _ _ h _ => h, fun _ _ _ h _ => h, fun _ _ _ h _ => h, fun _ _ _ h _ => h, fun _ _ _ h _ => h, fun _ _ _ h _ => h, fun _ _ _ h _ => h, fun _ _ _ h _ => h, fun _ _ _ h _ => h, fun _ _ _ h _ => h, fun _ _ _ h _ => h, fun _ _ _ h _ => h, fun _ _ _ h _ => h, fun _ _ _ h _ => h, fun _ _ _ h _ => h, fun _ _ _ h _ => h, fun _ _ _ h _ => h, trivial⟩ ?hstep ?htail
            case hstep =>
              refine ⟨fun wi => ?_, fun wi => ?_, fun wi => ?_, fun wi => ?_, fun wi => ?_, fun wi => ?_, fun wi => ?_, fun wi => ?_, fun wi => ?_, fun wi => ?_, fun wi => ?_, fun wi => ?_, fun wi => ?_, fun wi => ?_, fun wi => ?_, fun wi => ?_, fun wi => ?_, fun wi => ?_, fun wi => ?_, fun wi => ?_, fun wi => ?_, fun wi => ?_, fun wi => ?_, fun wi => ?_, fun wi => ?_, fun wi => ?_, fun wi => ?_, fun wi => ?_, fun wi => ?_, fun wi => ?_, fun wi => ?_, trivial⟩
              · skip
                refine Fin.nil ?_
                refine J.move rfl rfl ?_
                exact J.finP rfl
              · skip
                refine Fin.consE rfl (Fin.nil ?_)
                refine J.eqNil Ty.u29 rfl rfl rfl ?_
                exact J.finP rfl
              · skip
                refine Fin.consE rfl (Fin.nil ?_)
                refine J.move rfl rfl ?_
                exact J.finP rfl
              · skip
                refine Fin.consE rfl (Fin.nil ?_)
                first | refine J.skip rfl rfl rfl rfl rfl ?_ | refine J.skipU rfl rfl rfl rfl ?_ | (refine J.unguard rfl rfl rfl ?_; refine J.move rfl rfl ?_)
                exact J.finP rfl
              · skip
                refine Fin.consE rfl (Fin.consE rfl (Fin.nil ?_))
                first | refine J.skip rfl rfl rfl rfl rfl ?_ | refine J.skipU rfl rfl rfl rfl ?_ | (refine J.unguard rfl rfl rfl ?_; refine J.lenS rfl Ty.u26 rfl rfl ?_)
                exact J.finP rfl
              · skip
                refine Fin.consE rfl (Fin.consE rfl (Fin.nil ?_))
                refine J.unguard rfl rfl rfl ?_
                refine J.bin rfl rfl rfl rfl ?_
                refine J.name 21 rfl (show Value.bool _ = .bool false by simp; omega) ?_
                exact J.finP rfl
              · skip
                refine Fin.consE rfl (Fin.consE rfl (Fin.nil ?_))
                (first | refine J.pickT rfl rfl rfl ?_ | refine J.pickF rfl rfl rfl ?_)
                exact J.finP rfl
              · skip
                refine Fin.consE rfl (Fin.consE rfl (Fin.nil ?_))
                refine J.move rfl rfl ?_
                exact J.finP rfl
              · skip
                refine Fin.consE rfl (Fin.nil ?_)
                first | refine J.skip rfl rfl rfl rfl rfl ?_ | refine J.skipU rfl rfl rfl rfl ?_ | (refine J.unguard rfl rfl rfl ?_; refine J.move rfl rfl ?_)
                exact J.finP rfl
              · skip
                refine Fin.consE rfl (Fin.consE rfl (Fin.nil ?_))
                first | refine J.skip rfl rfl rfl rfl rfl ?_ | refine J.skipU rfl rfl rfl rfl ?_ | (refine J.unguard rfl rfl rfl ?_; refine J.lenS rfl Ty.u26 rfl rfl ?_)
                exact J.finP rfl
              · skip
                refine Fin.consE rfl (Fin.consE rfl (Fin.nil ?_))
                refine J.unguard rfl rfl rfl ?_
                refine J.bin rfl rfl rfl rfl ?_
                refine J.name 26 rfl (show Value.bool _ = .bool false by simp; omega) ?_
                exact J.finP rfl
              · skip
                refine Fin.consE rfl (Fin.consE rfl (Fin.nil ?_))
                (first | refine J.pickT rfl rfl rfl ?_ | refine J.pickF rfl rfl rfl ?_)
                exact J.finP rfl
              · skip
                refine Fin.consE rfl (Fin.consE rfl (Fin.nil ?_))
                refine J.move rfl rfl ?_
                exact J.finP rfl
              · skip
                refine Fin.consE rfl (Fin.nil ?_)
                first | refine J.skip rfl rfl rfl rfl rfl ?_ | refine J.skipU rfl rfl rfl rfl ?_ | (refine J.unguard rfl rfl rfl ?_; refine J.move rfl rfl ?_)
                exact J.finP rfl
              · skip
                refine Fin.consE rfl (Fin.consE rfl (Fin.consE rfl (Fin.nil ?_)))
                refine J.unguard rfl rfl rfl ?_
                refine J.callD (v := .bool true) Ty.bd52 rfl rfl (fun w1 hw => (by have h := simple_spec _ way w1 (hr.below (hw.drop (List.nil_sublist _)).below) hlw; rw [decide_eq_true hnd] at h; exact h)) ?_
                exact J.finQ rfl
              · skip
                refine Fin.consE rfl (Fin.consE rfl (Fin.nil ?_))
                first | refine J.skip rfl rfl rfl rfl rfl ?_ | refine J.skipU rfl rfl rfl rfl ?_ | (refine J.unguard rfl rfl rfl ?_; refine J.not rfl rfl ?_)
                exact J.finP rfl
              · skip
                refine Fin.consE rfl (Fin.consE rfl (Fin.nil ?_))
                (first | refine J.pickT rfl rfl rfl ?_ | refine J.pickF rfl rfl rfl ?_)
                exact J.finP rfl
              · skip
                refine Fin.consE rfl (Fin.consE rfl (Fin.nil ?_))
                refine J.move rfl rfl ?_
                exact J.finP rfl
              · skip
                refine Fin.consE rfl (Fin.nil ?_)
                first | refine J.skip rfl rfl rfl rfl rfl ?_ | refine J.skipU rfl rfl rfl rfl ?_ | (refine J.unguard rfl rfl rfl ?_; refine J.move rfl rfl ?_)
                exact J.finP rfl
              · skip
                refine Fin.consE rfl (Fin.consE rfl (Fin.nil ?_))
                refine J.unguard rfl rfl rfl ?_
                refine J.indexAddrS Ty.el26 Ty.s3 rfl rfl (by omega) (by omega) rfl ?_
                exact J.finP rfl
              · skip
                refine Fin.consE rfl (Fin.consE rfl (Fin.nil ?_))
                refine J.unguard rfl rfl rfl ?_
                refine J.load1 (v := iV n) Ty.a3 rfl (fun w1 hw => rowI_at2 (i := 0) (hr.below (hw.2.drop (List.nil_sublist _)).below) hn0 (by simp)) rfl ?_
                exact J.finP rfl
              · skip
                refine Fin.consE rfl (Fin.nil ?_)
                first | refine J.skip rfl rfl rfl rfl rfl ?_ | refine J.skipU rfl rfl rfl rfl ?_ | (refine J.unguard rfl rfl rfl ?_; refine J.fieldAddr Ty.fd41_0 rfl rfl ?_)
                exact J.finP rfl
              · skip
                refine Fin.consE rfl (Fin.consE rfl (Fin.nil ?_))
                first | refine J.skip rfl rfl rfl rfl rfl ?_ | refine J.skipU rfl rfl rfl rfl ?_ | (refine J.unguard rfl rfl rfl ?_; refine J.load1 Ty.a3 rfl (fun w hw => (cell_of (hw.2.own (_, _) (by repeat first | exact .head _ | apply List.Mem.tail | apply List.mem_append_right))).trans (by exact rfl)) rfl ?_)
                exact J.finP rfl
              · skip
                refine Fin.consE rfl (Fin.consE rfl (Fin.consE rfl (Fin.nil ?_)))
                refine J.unguard rfl rfl rfl ?_
                refine J.bin rfl rfl rfl rfl ?_
                refine J.name 39 rfl (show Value.bool _ = .bool false by simp) ?_
                exact J.finP rfl
              · skip
                refine Fin.consE rfl (Fin.consE rfl (Fin.nil ?_))
                (first | refine J.pickT rfl rfl rfl ?_ | refine J.pickF rfl rfl rfl ?_)
                exact J.finP rfl
              · skip
                refine Fin.consE rfl (Fin.consE rfl (Fin.nil ?_))
                refine J.move rfl rfl ?_
                exact J.finP rfl
              · skip
                refine Fin.consE rfl (Fin.nil ?_)
                refine J.unguard rfl rfl rfl ?_
                refine J.loadA (vs := cI b) Ty.a23 Ty.s23 rfl rfl (fun w1 hw => Cells.of_block (hw.2.own _ (.tail _ (.head _))) rfl) rfl ?_
                exact J.finP rfl
              · skip
                refine Fin.consE rfl (Fin.nil ?_)
                first | refine J.skip rfl rfl rfl rfl rfl ?_ | refine J.skipU rfl rfl rfl rfl ?_ | (refine J.unguard rfl rfl rfl ?_; refine J.fieldAddr Ty.fd41_1 rfl rfl ?_)
                exact J.finP rfl
              · skip
                refine Fin.consE rfl (Fin.consE rfl (Fin.nil ?_))
                refine J.unguard rfl rfl rfl ?_
                refine J.loadA (vs := cI me) Ty.a23 Ty.s23 rfl rfl (fun w1 hw => Cells.of_block (hw.2.own _ (.tail _ (.tail _ (.tail _ (.head _))))) rfl) rfl ?_
                exact J.finP rfl
              · skip
                refine Fin.consE rfl (Fin.consE rfl (Fin.consE rfl (Fin.nil ?_)))
                refine J.unguard rfl rfl rfl ?_
                refine J.eqI Ty.QI Ty.keyI rfl rfl rfl ?_
                refine J.name 45 rfl (show Value.bool _ = .bool true by simp [hc5]) ?_
                exact J.finP rfl
              · skip
                refine Fin.consE rfl (Fin.consE rfl (Fin.nil ?_))
                (first | refine J.pickT rfl rfl rfl ?_ | refine J.pickF rfl rfl rfl ?_)
                exact J.finP rfl
            case htail =>
              refine Fin.consE rfl (Fin.consE rfl (Fin.consE rfl (Fin.consE rfl (Fin.consE rfl (Fin.consE rfl (Fin.consE rfl (Fin.consE rfl (Fin.consE rfl (Fin.consE rfl (Fin.consE rfl (Fin.consE rfl (Fin.consE rfl (Fin.consE rfl (Fin.consE rfl (Fin.consE rfl (Fin.consE rfl (Fin.consE rfl (Fin.consE rfl (Fin.consE rfl (Fin.consE rfl (Fin.consE rfl (Fin.consE rfl (Fin.consE rfl (Fin.consE rfl (Fin.consE rfl (Fin.consE rfl (Fin.consE rfl (Fin.consE rfl (Fin.consE rfl (Fin.consE rfl (Fin.nil ?_)))))))))))))))))))))))))))))))
              refine J.nil ?_
              refine JX.thenN (hK2 _ _ ?_)
              first | refine JC.condT rfl ?_ | refine JC.cond rfl (fun _ => ?_) (fun h => by first | (exfalso; simp at h; omega) | (simp at h))
              refine JC.seq (fun K7 hK7 => ?_)
              refine JC.region ?_
              refine J.buildS (cs := cD nilV false false) Ty.pl37 zN rfl (by kernel_rfl) rfl ?_
              refine J.storeW Ty.s37 rfl rfl rfl rfl rfl (by simp [Value.oneCell']) (by repeat first | exact .here | apply Up.there) ?_
              refine J.assign rfl rfl ?_
              refine J.nil ?_
              refine JX.thenN (hK7 _ _ ?_)
              refine JC.ret ?_
              refine JX.thenR ?_
              refine JX.retCT rfl rfl rfl Ty.a37 Ty.s37 (vs := cD nilV false false) rfl (fun w1 hw => Cells.of_block (hw.own _ (.head _)) rfl) (fun w1 hw => ?_)
              exact ⟨rfl, (hw.drop (List.nil_sublist _)).below⟩
          · skip
            exact absurd hbad (by unfold badW; intro h; rcases h with h | h | h | h | h; exact hc1 h; exact hc2 h; exact hc3 h; exact h hn0; exact hc5 h)

set_option maxHeartbeats 1000000 in
theorem start_shut (t : Nat) (n : Int) (me b : IDV) (p : PV) (wv : Value) (way : List Int) (ov : Value) (os : List Bool) (w : World) (hr : Row w wv way.length (way.map iV)) (hlw : way.length < 4611686018427387904) (hro : Row w ov os.length (os.map bV)) (hlo : os.length < 4611686018427387904) (hgood : ¬ badW n me b way) (n1 : Int) (hn1 : way[1]? = some n1) (hop : openQ os n1 = false) :
    Calls Try.prog 18 [.pointer (some ⟨t, 0, none⟩), .agg (cW n me).toArray, .agg (cP p).toArray, .agg (cI b).toArray, wv, ov].toArray w fun r w' => r = .returned (.tuple #[.agg (cD nilV false false).toArray, .int .i64 10]) ∧ Bel w w' := by
  obtain ⟨aw, cw, rfl, hcw, _⟩ := id hr
  obtain ⟨hc1, hc2, hc3, hc4, hc5⟩ : ¬ way.length < 2 ∧ ¬ 64 < way.length ∧ ¬ ¬ way.Nodup ∧ ¬ way[0]? ≠ some n ∧ ¬ b = me := ⟨fun h => hgood (.inl h), fun h => hgood (.inr (.inl h)), fun h => hgood (.inr (.inr (.inl h))), fun h => hgood (.inr (.inr (.inr (.inl h)))), fun h => hgood (.inr (.inr (.inr (.inr h))))⟩
  have hnd : way.Nodup := Classical.not_not.1 hc3
  obtain ⟨qw, ow, _, hqe, _, _⟩ := Row.some hr (by simp; omega)
  simp only [Value.slice.injEq] at hqe
  obtain ⟨rfl, _, rfl⟩ := hqe
  obtain ⟨n0, hn0⟩ : ∃ y, way[0]? = some y := ⟨_, List.getElem?_eq_getElem (by omega)⟩
  obtain rfl : n = n0 := by have h9 := Classical.not_not.1 hc4; rw [hn0] at h9; exact (Option.some.inj h9).symm
  refine calls_of_J (args := [.pointer (some ⟨t, 0, none⟩), .agg (cW n me).toArray, .agg (cP p).toArray, .agg (cI b).toArray, .slice (some ⟨qw, ow, none⟩) way.length cw, ov]) (e := [(0, .pointer (some ⟨t, 0, none⟩)), (1, .agg (cW n me).toArray), (2, .agg (cP p).toArray), (3, .agg (cI b).toArray), (4, .slice (some ⟨qw, ow, none⟩) way.length cw), (5, ov)]) Try.func18 rfl rfl ⟨rfl, rfl, rfl, rfl, rfl, rfl, trivial⟩ (St.start w) ?_
  refine JC.seq (fun K0 hK0 => ?_)
  refine JC.region ?_
  refine J.box rfl rfl rfl (fun b7 => ?_)
  refine J.box rfl rfl rfl (fun b8 => ?_)
  refine J.box rfl rfl rfl (fun b9 => ?_)
  refine J.alloc zN rfl rfl (fun b12 => ?_)
  refine J.assign rfl rfl ?_
  refine J.nil ?_
  refine JX.thenN (hK0 _ _ ?_)
  refine JC.seq (fun K1 hK1 => ?_)
  refine JC.seq (fun K2 hK2 => ?_)
  apply JC.drawL 31 [Eqv (.pointer (some ⟨t, 0, none⟩)), Eqv (.bool false), Eqv (.bool false), Eqv (.slice (some ⟨qw, ow, none⟩) way.length cw), Eqv (.int .i64 ((way.length : Nat) : Int)), Eqv (.bool false), Eqv (.bool false), Eqv (.bool false), Eqv (.slice (some ⟨qw, ow, none⟩) way.length cw), Eqv (.int .i64 ((way.length : Nat) : Int)), Eqv (.bool false), Eqv (.bool false), Eqv (.bool false), Eqv (.slice (some ⟨qw, ow, none⟩) way.length cw), Eqv (.bool true), Eqv (.bool false), Eqv (.bool false), Eqv (.bool false), Eqv (.slice (some ⟨qw, ow, none⟩) way.length cw), Eqv (.pointer (some ⟨qw, ow + (0 : Int).toNat * 1, none⟩)), Eqv (iV n), Eqv (.pointer (some ⟨b7, 0 + 0, none⟩)), Eqv (iV n), Eqv (.bool false), Eqv (.bool false), Eqv (.bool false), Eqv (.agg (cI b).toArray), Eqv (.pointer (some ⟨b7, 0 + 1, none⟩)), Eqv (.agg (cI me).toArray), Eqv (.bool false), Eqv (.bool false)] Ty.mixed rfl rfl rfl (by kernel_rfl) rfl rfl (fun w w' hw hb => hw.step hb) ⟨fun _ _ _ h _ => h, fun _ _ _ h _ => h, fun _ _ _ h _ => h, fun _ _ _ h _ => h, fun _ _ _ h _ => h, fun _ _ _ h _ => h, fun _ _ _ h _ => h, fun _ _ _ h _ => h, fun _ _ _ h _ => h, fun _ _ _ h _ => h, fun _ _ _ h _ => h, fun _ _ _ h _ => h, fun _ _ _ h _ => h, fun _ _ _ h _ => h, fun _ _ _ h _ => h, fun _ _ _ h _ => h, fun _ _ _ h _ => h, fun _ _ _ h _ => h, fun _ _ _ h _ => h, fun _ _ _ h _ => h, fun _ _ _ h _ => h, fun _ _ _ h _ => h, fun _ _ _ h _ => h, fun _ _ _ h _ => h, fun _ _ _ h _ => h, fun _ _ _ h _ => h, fun _ _ _ h _ => h, fun _ _ _ h _ => h, fun _ _ _ h _ => h, fun _ _ _ h _ => h, fun _ _ _ h _ => h, trivial⟩ ?hstep ?htail
  case hstep =>
    refine ⟨fun wi => ?_, fun wi => ?_, fun wi => ?_, fun wi => ?_, fun wi => ?_, fun wi => ?_, fun wi => ?_, fun wi => ?_, fun wi => ?_, fun wi => ?_, fun wi => ?_, fun wi => ?_, fun wi => ?_, fun wi => ?_, fun wi => ?_, fun wi => ?_, fun wi => ?_, fun wi => ?_, fun wi => ?_, fun wi => ?_, fun wi => ?_, fun wi => ?_, fun wi => ?_, fun wi => ?_, fun wi => ?_, fun wi => ?_, fun wi => ?_, fun wi => ?_, fun wi => ?_, fun wi => ?_, fun wi => ?_, trivial⟩
    · skip
      refine Fin.nil ?_
      refine J.move rfl rfl ?_
      exact J.finP rfl
    · skip
      refine Fin.consE rfl (Fin.nil ?_)
      refine J.eqNil Ty.u29 rfl rfl rfl ?_
      exact J.finP rfl
    · skip
      refine Fin.consE rfl (Fin.nil ?_)
      refine J.move rfl rfl ?_
      exact J.finP rfl
    · skip
      refine Fin.consE rfl (Fin.nil ?_)
      first | refine J.skip rfl rfl rfl rfl rfl ?_ | refine J.skipU rfl rfl rfl rfl ?_ | (refine J.unguard rfl rfl rfl ?_; refine J.move rfl rfl ?_)
      exact J.finP rfl
    · skip
      refine Fin.consE rfl (Fin.consE rfl (Fin.nil ?_))
      first | refine J.skip rfl rfl rfl rfl rfl ?_ | refine J.skipU rfl rfl rfl rfl ?_ | (refine J.unguard rfl rfl rfl ?_; refine J.lenS rfl Ty.u26 rfl rfl ?_)
      exact J.finP rfl
    · skip
      refine Fin.consE rfl (Fin.consE rfl (Fin.nil ?_))
      refine J.unguard rfl rfl rfl ?_
      refine J.bin rfl rfl rfl rfl ?_
      refine J.name 21 rfl (show Value.bool _ = .bool false by simp; omega) ?_
      exact J.finP rfl
    · skip
      refine Fin.consE rfl (Fin.consE rfl (Fin.nil ?_))
      (first | refine J.pickT rfl rfl rfl ?_ | refine J.pickF rfl rfl rfl ?_)
      exact J.finP rfl
    · skip
      refine Fin.consE rfl (Fin.consE rfl (Fin.nil ?_))
      refine J.move rfl rfl ?_
      exact J.finP rfl
    · skip
      refine Fin.consE rfl (Fin.nil ?_)
      first | refine J.skip rfl rfl rfl rfl rfl ?_ | refine J.skipU rfl rfl rfl rfl ?_ | (refine J.unguard rfl rfl rfl ?_; refine J.move rfl rfl ?_)
      exact J.finP rfl
    · skip
      refine Fin.consE rfl (Fin.consE rfl (Fin.nil ?_))
      first | refine J.skip rfl rfl rfl rfl rfl ?_ | refine J.skipU rfl rfl rfl rfl ?_ | (refine J.unguard rfl rfl rfl ?_; refine J.lenS rfl Ty.u26 rfl rfl ?_)
      exact J.finP rfl
    · skip
      refine Fin.consE rfl (Fin.consE rfl (Fin.nil ?_))
      refine J.unguard rfl rfl rfl ?_
      refine J.bin rfl rfl rfl rfl ?_
      refine J.name 26 rfl (show Value.bool _ = .bool false by simp; omega) ?_
      exact J.finP rfl
    · skip
      refine Fin.consE rfl (Fin.consE rfl (Fin.nil ?_))
      (first | refine J.pickT rfl rfl rfl ?_ | refine J.pickF rfl rfl rfl ?_)
      exact J.finP rfl
    · skip
      refine Fin.consE rfl (Fin.consE rfl (Fin.nil ?_))
      refine J.move rfl rfl ?_
      exact J.finP rfl
    · skip
      refine Fin.consE rfl (Fin.nil ?_)
      first | refine J.skip rfl rfl rfl rfl rfl ?_ | refine J.skipU rfl rfl rfl rfl ?_ | (refine J.unguard rfl rfl rfl ?_; refine J.move rfl rfl ?_)
      exact J.finP rfl
    · skip
      refine Fin.consE rfl (Fin.consE rfl (Fin.consE rfl (Fin.nil ?_)))
      refine J.unguard rfl rfl rfl ?_
      refine J.callD (v := .bool true) Ty.bd52 rfl rfl (fun w1 hw => (by have h := simple_spec _ way w1 (hr.below (hw.drop (List.nil_sublist _)).below) hlw; rw [decide_eq_true hnd] at h; exact h)) ?_
      exact J.finQ rfl
    · skip
      refine Fin.consE rfl (Fin.consE rfl (Fin.nil ?_))
      first | refine J.skip rfl rfl rfl rfl rfl ?_ | refine J.skipU rfl rfl rfl rfl ?_ | (refine J.unguard rfl rfl rfl ?_; refine J.not rfl rfl ?_)
      exact J.finP rfl
    · skip
      refine Fin.consE rfl (Fin.consE rfl (Fin.nil ?_))
      (first | refine J.pickT rfl rfl rfl ?_ | refine J.pickF rfl rfl rfl ?_)
      exact J.finP rfl
    · skip
      refine Fin.consE rfl (Fin.consE rfl (Fin.nil ?_))
      refine J.move rfl rfl ?_
      exact J.finP rfl
    · skip
      refine Fin.consE rfl (Fin.nil ?_)
      first | refine J.skip rfl rfl rfl rfl rfl ?_ | refine J.skipU rfl rfl rfl rfl ?_ | (refine J.unguard rfl rfl rfl ?_; refine J.move rfl rfl ?_)
      exact J.finP rfl
    · skip
      refine Fin.consE rfl (Fin.consE rfl (Fin.nil ?_))
      refine J.unguard rfl rfl rfl ?_
      refine J.indexAddrS Ty.el26 Ty.s3 rfl rfl (by omega) (by omega) rfl ?_
      exact J.finP rfl
    · skip
      refine Fin.consE rfl (Fin.consE rfl (Fin.nil ?_))
      refine J.unguard rfl rfl rfl ?_
      refine J.load1 (v := iV n) Ty.a3 rfl (fun w1 hw => rowI_at2 (i := 0) (hr.below (hw.2.drop (List.nil_sublist _)).below) hn0 (by simp)) rfl ?_
      exact J.finP rfl
    · skip
      refine Fin.consE rfl (Fin.nil ?_)
      first | refine J.skip rfl rfl rfl rfl rfl ?_ | refine J.skipU rfl rfl rfl rfl ?_ | (refine J.unguard rfl rfl rfl ?_; refine J.fieldAddr Ty.fd41_0 rfl rfl ?_)
      exact J.finP rfl
    · skip
      refine Fin.consE rfl (Fin.consE rfl (Fin.nil ?_))
      first | refine J.skip rfl rfl rfl rfl rfl ?_ | refine J.skipU rfl rfl rfl rfl ?_ | (refine J.unguard rfl rfl rfl ?_; refine J.load1 Ty.a3 rfl (fun w hw => (cell_of (hw.2.own (_, _) (by repeat first | exact .head _ | apply List.Mem.tail | apply List.mem_append_right))).trans (by exact rfl)) rfl ?_)
      exact J.finP rfl
    · skip
      refine Fin.consE rfl (Fin.consE rfl (Fin.consE rfl (Fin.nil ?_)))
      refine J.unguard rfl rfl rfl ?_
      refine J.bin rfl rfl rfl rfl ?_
      refine J.name 39 rfl (show Value.bool _ = .bool false by simp) ?_
      exact J.finP rfl
    · skip
      refine Fin.consE rfl (Fin.consE rfl (Fin.nil ?_))
      (first | refine J.pickT rfl rfl rfl ?_ | refine J.pickF rfl rfl rfl ?_)
      exact J.finP rfl
    · skip
      refine Fin.consE rfl (Fin.consE rfl (Fin.nil ?_))
      refine J.move rfl rfl ?_
      exact J.finP rfl
    · skip
      refine Fin.consE rfl (Fin.nil ?_)
      refine J.unguard rfl rfl rfl ?_
      refine J.loadA (vs := cI b) Ty.a23 Ty.s23 rfl rfl (fun w1 hw => Cells.of_block (hw.2.own _ (.tail _ (.head _))) rfl) rfl ?_
      exact J.finP rfl
    · skip
      refine Fin.consE rfl (Fin.nil ?_)
      first | refine J.skip rfl rfl rfl rfl rfl ?_ | refine J.skipU rfl rfl rfl rfl ?_ | (refine J.unguard rfl rfl rfl ?_; refine J.fieldAddr Ty.fd41_1 rfl rfl ?_)
      exact J.finP rfl
    · skip
      refine Fin.consE rfl (Fin.consE rfl (Fin.nil ?_))
      refine J.unguard rfl rfl rfl ?_
      refine J.loadA (vs := cI me) Ty.a23 Ty.s23 rfl rfl (fun w1 hw => Cells.of_block (hw.2.own _ (.tail _ (.tail _ (.tail _ (.head _))))) rfl) rfl ?_
      exact J.finP rfl
    · skip
      refine Fin.consE rfl (Fin.consE rfl (Fin.consE rfl (Fin.nil ?_)))
      refine J.unguard rfl rfl rfl ?_
      refine J.eqI Ty.QI Ty.keyI rfl rfl rfl ?_
      refine J.name 45 rfl (show Value.bool _ = .bool false by simp [hc5]) ?_
      exact J.finP rfl
    · skip
      refine Fin.consE rfl (Fin.consE rfl (Fin.nil ?_))
      (first | refine J.pickT rfl rfl rfl ?_ | refine J.pickF rfl rfl rfl ?_)
      exact J.finP rfl
  case htail =>
    refine Fin.consE rfl (Fin.consE rfl (Fin.consE rfl (Fin.consE rfl (Fin.consE rfl (Fin.consE rfl (Fin.consE rfl (Fin.consE rfl (Fin.consE rfl (Fin.consE rfl (Fin.consE rfl (Fin.consE rfl (Fin.consE rfl (Fin.consE rfl (Fin.consE rfl (Fin.consE rfl (Fin.consE rfl (Fin.consE rfl (Fin.consE rfl (Fin.consE rfl (Fin.consE rfl (Fin.consE rfl (Fin.consE rfl (Fin.consE rfl (Fin.consE rfl (Fin.consE rfl (Fin.consE rfl (Fin.consE rfl (Fin.consE rfl (Fin.consE rfl (Fin.consE rfl (Fin.nil ?_)))))))))))))))))))))))))))))))
    refine J.nil ?_
    refine JX.thenN (hK2 _ _ ?_)
    first | refine JC.condF rfl ?_ | refine JC.cond rfl (fun h => by first | (exfalso; simp at h; omega) | (simp at h)) (fun _ => ?_)
    refine JC.skip ?_
    refine JX.thenN (hK1 _ _ ?_)
    refine JC.seq (fun K3 hK3 => ?_)
    refine JC.seq (fun K4 hK4 => ?_)
    refine JC.region ?_
    refine J.move rfl rfl ?_
    refine J.move rfl rfl ?_
    refine J.indexAddrS Ty.el26 Ty.s3 rfl rfl (by omega) (by omega) rfl ?_
    refine J.load1 (v := iV n1) Ty.a3 rfl (fun w1 hw => rowI_at2 (i := 1) (hr.below (hw.drop (List.nil_sublist _)).below) hn1 (by simp)) rfl ?_
    refine J.callB (v := .bool false) (fun w1 w2 hw hb => hw.step hb) Ty.bd53 rfl rfl (fun w1 hw => by
      have h := isOpen_spec ov os n1 w1 (hro.below (hw.drop (List.nil_sublist _)).below) hlo
      rw [hop] at h
      exact h) ?_
    refine J.not rfl rfl ?_
    refine J.nil ?_
    refine JX.thenN (hK4 _ _ ?_)
    first | refine JC.condT rfl ?_ | refine JC.cond rfl (fun _ => ?_) (fun h => by first | (exfalso; simp at h; omega) | (simp at h))
    refine JC.seq (fun K5 hK5 => ?_)
    refine JC.region ?_
    refine J.buildS (cs := cD nilV false false) Ty.pl37 zN rfl (by kernel_rfl) rfl ?_
    refine J.storeW Ty.s37 rfl rfl rfl rfl rfl (by simp [Value.oneCell']) (by repeat first | exact .here | apply Up.there) ?_
    refine J.assign rfl rfl ?_
    refine J.nil ?_
    refine JX.thenN (hK5 _ _ ?_)
    refine JC.ret ?_
    refine JX.thenR ?_
    refine JX.retCT rfl rfl rfl Ty.a37 Ty.s37 (vs := cD nilV false false) rfl (fun w1 hw => Cells.of_block (hw.own _ (.head _)) rfl) (fun w1 hw => ?_)
    exact ⟨rfl, (hw.drop (List.nil_sublist _)).below⟩

set_option maxHeartbeats 1000000 in
theorem rstart_arg (rt : Nat) (n : Int) (me b : IDV) (p : PV) (wv : Value) (way : List Int) (ov : Value) (os : List Bool) (w : World) (hr : Row w wv way.length (way.map iV)) (hlw : way.length < 4611686018427387904) (hro : Row w ov os.length (os.map bV)) (hlo : os.length < 4611686018427387904) (hbad : badW n me b way) :
    Calls Try.prog 46 [.pointer (some ⟨rt, 0, none⟩), .int .i64 n, .agg (cI me).toArray, .agg (cP p).toArray, .agg (cI b).toArray, wv, ov].toArray w fun r w' => r = .returned (.tuple #[.agg (cD nilV false false).toArray, .int .i64 1]) ∧ Bel w w' := by
  obtain ⟨aw, cw, rfl, hcw, _⟩ := id hr
  refine calls_of_J (args := [.pointer (some ⟨rt, 0, none⟩), .int .i64 n, .agg (cI me).toArray, .agg (cP p).toArray, .agg (cI b).toArray, .slice aw way.length cw, ov]) (e := [(0, .pointer (some ⟨rt, 0, none⟩)), (1, .int .i64 n), (2, .agg (cI me).toArray), (3, .agg (cP p).toArray), (4, .agg (cI b).toArray), (5, .slice aw way.length cw), (6, ov)]) Try.func46 rfl rfl ⟨rfl, rfl, rfl, rfl, rfl, rfl, rfl, trivial⟩ (St.start w) ?_
  refine JC.seq (fun K0 hK0 => ?_)
  refine JC.region ?_
  refine J.box rfl rfl rfl (fun b9 => ?_)
  refine J.box rfl rfl rfl (fun b10 => ?_)
  refine J.box rfl rfl rfl (fun b11 => ?_)
  refine J.alloc zN_ rfl rfl (fun b14 => ?_)
  refine J.assign rfl rfl ?_
  refine J.nil ?_
  refine JX.thenN (hK0 _ _ ?_)
  refine JC.seq (fun K1 hK1 => ?_)
  refine JC.seq (fun K2 hK2 => ?_)
  by_cases hc1 : way.length < 2
  · skip
    refine JC.region ?_
    refine J.move rfl rfl ?_
    refine J.lenS rfl Ty.u26 rfl rfl ?_
    refine J.bin rfl rfl rfl rfl ?_
    refine J.name 20 rfl (show Value.bool _ = .bool true by simp; omega) ?_
    refine J.move rfl rfl ?_
    first | refine J.skip rfl rfl rfl rfl rfl ?_ | refine J.skipU rfl rfl rfl rfl ?_ | (refine J.unguard rfl rfl rfl ?_; refine J.move rfl rfl ?_)
    first | refine J.skip rfl rfl rfl rfl rfl ?_ | refine J.skipU rfl rfl rfl rfl ?_ | (refine J.unguard rfl rfl rfl ?_; refine J.lenS rfl Ty.u26 rfl rfl ?_)
    first | refine J.skip rfl rfl rfl rfl rfl ?_ | refine J.skipU rfl rfl rfl rfl ?_ | (refine J.unguard rfl rfl rfl ?_; refine J.bin rfl rfl rfl rfl ?_; refine J.name 24 rfl (show Value.bool _ = .bool false by simp; omega) ?_)
    (first | refine J.pickT rfl rfl rfl ?_ | refine J.pickF rfl rfl rfl ?_)
    refine J.move rfl rfl ?_
    first | refine J.skip rfl rfl rfl rfl rfl ?_ | refine J.skipU rfl rfl rfl rfl ?_ | (refine J.unguard rfl rfl rfl ?_; refine J.move rfl rfl ?_)
    first | refine J.skip rfl rfl rfl rfl rfl ?_ | refine J.skipU rfl rfl rfl rfl ?_ | (refine J.unguard rfl rfl rfl ?_; skip)
    first | refine J.skip rfl rfl rfl rfl rfl ?_ | refine J.skipU rfl rfl rfl rfl ?_ | (refine J.unguard rfl rfl rfl ?_; refine J.not rfl rfl ?_)
    (first | refine J.pickT rfl rfl rfl ?_ | refine J.pickF rfl rfl rfl ?_)
    refine J.move rfl rfl ?_
    first | refine J.skip rfl rfl rfl rfl rfl ?_ | refine J.skipU rfl rfl rfl rfl ?_ | (refine J.unguard rfl rfl rfl ?_; refine J.move rfl rfl ?_)
    first | refine J.skip rfl rfl rfl rfl rfl ?_ | refine J.skipU rfl rfl rfl rfl ?_ | (refine J.unguard rfl rfl rfl ?_; refine J.indexAddrS Ty.el26 Ty.s3 rfl rfl (by omega) (by omega) rfl ?_)
    first | refine J.skip rfl rfl rfl rfl rfl ?_ | refine J.skipU rfl rfl rfl rfl ?_ | (refine J.unguard rfl rfl rfl ?_; skip)
    first | refine J.skip rfl rfl rfl rfl rfl ?_ | refine J.skipU rfl rfl rfl rfl ?_ | (refine J.unguard rfl rfl rfl ?_; refine J.move rfl rfl ?_)
    first | refine J.skip rfl rfl rfl rfl rfl ?_ | refine J.skipU rfl rfl rfl rfl ?_ | (refine J.unguard rfl rfl rfl ?_; refine J.bin rfl rfl rfl rfl ?_; refine J.name 36 rfl (show Value.bool _ = .bool false by simp) ?_)
    (first | refine J.pickT rfl rfl rfl ?_ | refine J.pickF rfl rfl rfl ?_)
    refine J.move rfl rfl ?_
    first | refine J.skip rfl rfl rfl rfl rfl ?_ | refine J.skipU rfl rfl rfl rfl ?_ | (refine J.unguard rfl rfl rfl ?_; refine J.loadA (vs := cI b) Ty.a23 Ty.s23 rfl rfl (fun w1 hw => Cells.of_block (hw.own _ (.tail _ (.head _))) rfl) rfl ?_)
    first | refine J.skip rfl rfl rfl rfl rfl ?_ | refine J.skipU rfl rfl rfl rfl ?_ | (refine J.unguard rfl rfl rfl ?_; refine J.loadA (vs := cI me) Ty.a23 Ty.s23 rfl rfl (fun w1 hw => Cells.of_block (hw.own _ (.tail _ (.tail _ (.tail _ (.head _))))) rfl) rfl ?_)
    first | refine J.skip rfl rfl rfl rfl rfl ?_ | refine J.skipU rfl rfl rfl rfl ?_ | (refine J.unguard rfl rfl rfl ?_; skip)
    (first | refine J.pickT rfl rfl rfl ?_ | refine J.pickF rfl rfl rfl ?_)
    refine J.nil ?_
    refine JX.thenN (hK2 _ _ ?_)
    first | refine JC.condT rfl ?_ | refine JC.cond rfl (fun _ => ?_) (fun h => by first | (exfalso; simp at h; omega) | (simp at h))
    refine JC.seq (fun K3 hK3 => ?_)
    refine JC.region ?_
    refine J.buildS (cs := cD nilV false false) Ty.pl90 zN_ rfl (by kernel_rfl) rfl ?_
    refine J.storeW Ty.s90 rfl rfl rfl rfl rfl (by simp [Value.oneCell']) (by repeat first | exact .here | apply Up.there) ?_
    refine J.assign rfl rfl ?_
    refine J.nil ?_
    refine JX.thenN (hK3 _ _ ?_)
    refine JC.ret ?_
    refine JX.thenR ?_
    refine JX.retCT rfl rfl rfl Ty.a90 Ty.s90 (vs := cD nilV false false) rfl (fun w1 hw => Cells.of_block (hw.own _ (.head _)) rfl) (fun w1 hw => ?_)
    exact ⟨rfl, (hw.drop (List.nil_sublist _)).below⟩
  · skip
    by_cases hc2 : 64 < way.length
    · skip
      refine JC.region ?_
      refine J.move rfl rfl ?_
      refine J.lenS rfl Ty.u26 rfl rfl ?_
      refine J.bin rfl rfl rfl rfl ?_
      refine J.name 20 rfl (show Value.bool _ = .bool false by simp; omega) ?_
      refine J.move rfl rfl ?_
      first | refine J.skip rfl rfl rfl rfl rfl ?_ | refine J.skipU rfl rfl rfl rfl ?_ | (refine J.unguard rfl rfl rfl ?_; refine J.move rfl rfl ?_)
      first | refine J.skip rfl rfl rfl rfl rfl ?_ | refine J.skipU rfl rfl rfl rfl ?_ | (refine J.unguard rfl rfl rfl ?_; refine J.lenS rfl Ty.u26 rfl rfl ?_)
      first | refine J.skip rfl rfl rfl rfl rfl ?_ | refine J.skipU rfl rfl rfl rfl ?_ | (refine J.unguard rfl rfl rfl ?_; refine J.bin rfl rfl rfl rfl ?_; refine J.name 24 rfl (show Value.bool _ = .bool true by simp; omega) ?_)
      (first | refine J.pickT rfl rfl rfl ?_ | refine J.pickF rfl rfl rfl ?_)
      refine J.move rfl rfl ?_
      first | refine J.skip rfl rfl rfl rfl rfl ?_ | refine J.skipU rfl rfl rfl rfl ?_ | (refine J.unguard rfl rfl rfl ?_; refine J.move rfl rfl ?_)
      first | refine J.skip rfl rfl rfl rfl rfl ?_ | refine J.skipU rfl rfl rfl rfl ?_ | (refine J.unguard rfl rfl rfl ?_; skip)
      first | refine J.skip rfl rfl rfl rfl rfl ?_ | refine J.skipU rfl rfl rfl rfl ?_ | (refine J.unguard rfl rfl rfl ?_; refine J.not rfl rfl ?_)
      (first | refine J.pickT rfl rfl rfl ?_ | refine J.pickF rfl rfl rfl ?_)
      refine J.move rfl rfl ?_
      first | refine J.skip rfl rfl rfl rfl rfl ?_ | refine J.skipU rfl rfl rfl rfl ?_ | (refine J.unguard rfl rfl rfl ?_; refine J.move rfl rfl ?_)
      first | refine J.skip rfl rfl rfl rfl rfl ?_ | refine J.skipU rfl rfl rfl rfl ?_ | (refine J.unguard rfl rfl rfl ?_; refine J.indexAddrS Ty.el26 Ty.s3 rfl rfl (by omega) (by omega) rfl ?_)
      first | refine J.skip rfl rfl rfl rfl rfl ?_ | refine J.skipU rfl rfl rfl rfl ?_ | (refine J.unguard rfl rfl rfl ?_; skip)
      first | refine J.skip rfl rfl rfl rfl rfl ?_ | refine J.skipU rfl rfl rfl rfl ?_ | (refine J.unguard rfl rfl rfl ?_; refine J.move rfl rfl ?_)
      first | refine J.skip rfl rfl rfl rfl rfl ?_ | refine J.skipU rfl rfl rfl rfl ?_ | (refine J.unguard rfl rfl rfl ?_; refine J.bin rfl rfl rfl rfl ?_; refine J.name 36 rfl (show Value.bool _ = .bool false by simp) ?_)
      (first | refine J.pickT rfl rfl rfl ?_ | refine J.pickF rfl rfl rfl ?_)
      refine J.move rfl rfl ?_
      first | refine J.skip rfl rfl rfl rfl rfl ?_ | refine J.skipU rfl rfl rfl rfl ?_ | (refine J.unguard rfl rfl rfl ?_; refine J.loadA (vs := cI b) Ty.a23 Ty.s23 rfl rfl (fun w1 hw => Cells.of_block (hw.own _ (.tail _ (.head _))) rfl) rfl ?_)
      first | refine J.skip rfl rfl rfl rfl rfl ?_ | refine J.skipU rfl rfl rfl rfl ?_ | (refine J.unguard rfl rfl rfl ?_; refine J.loadA (vs := cI me) Ty.a23 Ty.s23 rfl rfl (fun w1 hw => Cells.of_block (hw.own _ (.tail _ (.tail _ (.tail _ (.head _))))) rfl) rfl ?_)
      first | refine J.skip rfl rfl rfl rfl rfl ?_ | refine J.skipU rfl rfl rfl rfl ?_ | (refine J.unguard rfl rfl rfl ?_; skip)
      (first | refine J.pickT rfl rfl rfl ?_ | refine J.pickF rfl rfl rfl ?_)
      refine J.nil ?_
      refine JX.thenN (hK2 _ _ ?_)
      first | refine JC.condT rfl ?_ | refine JC.cond rfl (fun _ => ?_) (fun h => by first | (exfalso; simp at h; omega) | (simp at h))
      refine JC.seq (fun K4 hK4 => ?_)
      refine JC.region ?_
      refine J.buildS (cs := cD nilV false false) Ty.pl90 zN_ rfl (by kernel_rfl) rfl ?_
      refine J.storeW Ty.s90 rfl rfl rfl rfl rfl (by simp [Value.oneCell']) (by repeat first | exact .here | apply Up.there) ?_
      refine J.assign rfl rfl ?_
      refine J.nil ?_
      refine JX.thenN (hK4 _ _ ?_)
      refine JC.ret ?_
      refine JX.thenR ?_
      refine JX.retCT rfl rfl rfl Ty.a90 Ty.s90 (vs := cD nilV false false) rfl (fun w1 hw => Cells.of_block (hw.own _ (.head _)) rfl) (fun w1 hw => ?_)
      exact ⟨rfl, (hw.drop (List.nil_sublist _)).below⟩
    · skip
      by_cases hc3 : ¬ way.Nodup
      · skip
        refine JC.region ?_
        refine J.move rfl rfl ?_
        refine J.lenS rfl Ty.u26 rfl rfl ?_
        refine J.bin rfl rfl rfl rfl ?_
        refine J.name 20 rfl (show Value.bool _ = .bool false by simp; omega) ?_
        refine J.move rfl rfl ?_
        first | refine J.skip rfl rfl rfl rfl rfl ?_ | refine J.skipU rfl rfl rfl rfl ?_ | (refine J.unguard rfl rfl rfl ?_; refine J.move rfl rfl ?_)
        first | refine J.skip rfl rfl rfl rfl rfl ?_ | refine J.skipU rfl rfl rfl rfl ?_ | (refine J.unguard rfl rfl rfl ?_; refine J.lenS rfl Ty.u26 rfl rfl ?_)
        first | refine J.skip rfl rfl rfl rfl rfl ?_ | refine J.skipU rfl rfl rfl rfl ?_ | (refine J.unguard rfl rfl rfl ?_; refine J.bin rfl rfl rfl rfl ?_; refine J.name 24 rfl (show Value.bool _ = .bool false by simp; omega) ?_)
        (first | refine J.pickT rfl rfl rfl ?_ | refine J.pickF rfl rfl rfl ?_)
        refine J.move rfl rfl ?_
        first | refine J.skip rfl rfl rfl rfl rfl ?_ | refine J.skipU rfl rfl rfl rfl ?_ | (refine J.unguard rfl rfl rfl ?_; refine J.move rfl rfl ?_)
        first | refine J.skip rfl rfl rfl rfl rfl ?_ | refine J.skipU rfl rfl rfl rfl ?_ | (refine J.unguard rfl rfl rfl ?_; refine J.callB (v := .bool false) (fun w1 w2 hw hb => hw.step hb) Ty.bd65 rfl rfl (fun w1 hw => (by have h := simple11_spec _ way w1 (hr.below (hw.drop (List.nil_sublist _)).below) hlw; rw [decide_eq_false hc3] at h; exact h)) ?_)
        first | refine J.skip rfl rfl rfl rfl rfl ?_ | refine J.skipU rfl rfl rfl rfl ?_ | (refine J.unguard rfl rfl rfl ?_; refine J.not rfl rfl ?_)
        (first | refine J.pickT rfl rfl rfl ?_ | refine J.pickF rfl rfl rfl ?_)
        refine J.move rfl rfl ?_
        first | refine J.skip rfl rfl rfl rfl rfl ?_ | refine J.skipU rfl rfl rfl rfl ?_ | (refine J.unguard rfl rfl rfl ?_; refine J.move rfl rfl ?_)
        first | refine J.skip rfl rfl rfl rfl rfl ?_ | refine J.skipU rfl rfl rfl rfl ?_ | (refine J.unguard rfl rfl rfl ?_; refine J.indexAddrS Ty.el26 Ty.s3 rfl rfl (by omega) (by omega) rfl ?_)
        first | refine J.skip rfl rfl rfl rfl rfl ?_ | refine J.skipU rfl rfl rfl rfl ?_ | (refine J.unguard rfl rfl rfl ?_; skip)
        first | refine J.skip rfl rfl rfl rfl rfl ?_ | refine J.skipU rfl rfl rfl rfl ?_ | (refine J.unguard rfl rfl rfl ?_; refine J.move rfl rfl ?_)
        first | refine J.skip rfl rfl rfl rfl rfl ?_ | refine J.skipU rfl rfl rfl rfl ?_ | (refine J.unguard rfl rfl rfl ?_; refine J.bin rfl rfl rfl rfl ?_; refine J.name 36 rfl (show Value.bool _ = .bool false by simp) ?_)
        (first | refine J.pickT rfl rfl rfl ?_ | refine J.pickF rfl rfl rfl ?_)
        refine J.move rfl rfl ?_
        first | refine J.skip rfl rfl rfl rfl rfl ?_ | refine J.skipU rfl rfl rfl rfl ?_ | (refine J.unguard rfl rfl rfl ?_; refine J.loadA (vs := cI b) Ty.a23 Ty.s23 rfl rfl (fun w1 hw => Cells.of_block (hw.own _ (.tail _ (.head _))) rfl) rfl ?_)
        first | refine J.skip rfl rfl rfl rfl rfl ?_ | refine J.skipU rfl rfl rfl rfl ?_ | (refine J.unguard rfl rfl rfl ?_; refine J.loadA (vs := cI me) Ty.a23 Ty.s23 rfl rfl (fun w1 hw => Cells.of_block (hw.own _ (.tail _ (.tail _ (.tail _ (.head _))))) rfl) rfl ?_)
        first | refine J.skip rfl rfl rfl rfl rfl ?_ | refine J.skipU rfl rfl rfl rfl ?_ | (refine J.unguard rfl rfl rfl ?_; skip)
        (first | refine J.pickT rfl rfl rfl ?_ | refine J.pickF rfl rfl rfl ?_)
        refine J.nil ?_
        refine JX.thenN (hK2 _ _ ?_)
        first | refine JC.condT rfl ?_ | refine JC.cond rfl (fun _ => ?_) (fun h => by first | (exfalso; simp at h; omega) | (simp at h))
        refine JC.seq (fun K5 hK5 => ?_)
        refine JC.region ?_
        refine J.buildS (cs := cD nilV false false) Ty.pl90 zN_ rfl (by kernel_rfl) rfl ?_
        refine J.storeW Ty.s90 rfl rfl rfl rfl rfl (by simp [Value.oneCell']) (by repeat first | exact .here | apply Up.there) ?_
        refine J.assign rfl rfl ?_
        refine J.nil ?_
        refine JX.thenN (hK5 _ _ ?_)
        refine JC.ret ?_
        refine JX.thenR ?_
        refine JX.retCT rfl rfl rfl Ty.a90 Ty.s90 (vs := cD nilV false false) rfl (fun w1 hw => Cells.of_block (hw.own _ (.head _)) rfl) (fun w1 hw => ?_)
        exact ⟨rfl, (hw.drop (List.nil_sublist _)).below⟩
      · skip
        have hnd : way.Nodup := Classical.not_not.1 hc3
        by_cases hc4 : way[0]? ≠ some n
        · skip
          obtain ⟨qw, ow, _, hqe, _, _⟩ := Row.some hr (by simp; omega)
          simp only [Value.slice.injEq] at hqe
          obtain ⟨rfl, _, rfl⟩ := hqe
          obtain ⟨n0, hn0⟩ : ∃ y, way[0]? = some y := ⟨_, List.getElem?_eq_getElem (by omega)⟩
          refine JC.region ?_
          refine J.move rfl rfl ?_
          refine J.lenS rfl Ty.u26 rfl rfl ?_
          refine J.bin rfl rfl rfl rfl ?_
          refine J.name 20 rfl (show Value.bool _ = .bool false by simp; omega) ?_
          refine J.move rfl rfl ?_
          first | refine J.skip rfl rfl rfl rfl rfl ?_ | refine J.skipU rfl rfl rfl rfl ?_ | (refine J.unguard rfl rfl rfl ?_; refine J.move rfl rfl ?_)
          first | refine J.skip rfl rfl rfl rfl rfl ?_ | refine J.skipU rfl rfl rfl rfl ?_ | (refine J.unguard rfl rfl rfl ?_; refine J.lenS rfl Ty.u26 rfl rfl ?_)
          first | refine J.skip rfl rfl rfl rfl rfl ?_ | refine J.skipU rfl rfl rfl rfl ?_ | (refine J.unguard rfl rfl rfl ?_; refine J.bin rfl rfl rfl rfl ?_; refine J.name 24 rfl (show Value.bool _ = .bool false by simp; omega) ?_)
          (first | refine J.pickT rfl rfl rfl ?_ | refine J.pickF rfl rfl rfl ?_)
          refine J.move rfl rfl ?_
          first | refine J.skip rfl rfl rfl rfl rfl ?_ | refine J.skipU rfl rfl rfl rfl ?_ | (refine J.unguard rfl rfl rfl ?_; refine J.move rfl rfl ?_)
          first | refine J.skip rfl rfl rfl rfl rfl ?_ | refine J.skipU rfl rfl rfl rfl ?_ | (refine J.unguard rfl rfl rfl ?_; refine J.callB (v := .bool true) (fun w1 w2 hw hb => hw.step hb) Ty.bd65 rfl rfl (fun w1 hw => (by have h := simple11_spec _ way w1 (hr.below (hw.drop (List.nil_sublist _)).below) hlw; rw [decide_eq_true hnd] at h; exact h)) ?_)
          first | refine J.skip rfl rfl rfl rfl rfl ?_ | refine J.skipU rfl rfl rfl rfl ?_ | (refine J.unguard rfl rfl rfl ?_; refine J.not rfl rfl ?_)
          (first | refine J.pickT rfl rfl rfl ?_ | refine J.pickF rfl rfl rfl ?_)
          refine J.move rfl rfl ?_
          first | refine J.skip rfl rfl rfl rfl rfl ?_ | refine J.skipU rfl rfl rfl rfl ?_ | (refine J.unguard rfl rfl rfl ?_; refine J.move rfl rfl ?_)
          first | refine J.skip rfl rfl rfl rfl rfl ?_ | refine J.skipU rfl rfl rfl rfl ?_ | (refine J.unguard rfl rfl rfl ?_; refine J.indexAddrS Ty.el26 Ty.s3 rfl rfl (by omega) (by omega) rfl ?_)
          first | refine J.skip rfl rfl rfl rfl rfl ?_ | refine J.skipU rfl rfl rfl rfl ?_ | (refine J.unguard rfl rfl rfl ?_; refine J.load1 (v := iV n0) Ty.a3 rfl (fun w1 hw => rowI_at2 (i := 0) (hr.below (hw.drop (List.nil_sublist _)).below) hn0 (by simp)) rfl ?_)
          first | refine J.skip rfl rfl rfl rfl rfl ?_ | refine J.skipU rfl rfl rfl rfl ?_ | (refine J.unguard rfl rfl rfl ?_; refine J.move rfl rfl ?_)
          first | refine J.skip rfl rfl rfl rfl rfl ?_ | refine J.skipU rfl rfl rfl rfl ?_ | (refine J.unguard rfl rfl rfl ?_; refine J.bin rfl rfl rfl rfl ?_; refine J.name 36 rfl (show Value.bool _ = .bool true by simp; intro e; exact hc4 (by rw [hn0, e])) ?_)
          (first | refine J.pickT rfl rfl rfl ?_ | refine J.pickF rfl rfl rfl ?_)
          refine J.move rfl rfl ?_
          first | refine J.skip rfl rfl rfl rfl rfl ?_ | refine J.skipU rfl rfl rfl rfl ?_ | (refine J.unguard rfl rfl rfl ?_; refine J.loadA (vs := cI b) Ty.a23 Ty.s23 rfl rfl (fun w1 hw => Cells.of_block (hw.own _ (.tail _ (.head _))) rfl) rfl ?_)
          first | refine J.skip rfl rfl rfl rfl rfl ?_ | refine J.skipU rfl rfl rfl rfl ?_ | (refine J.unguard rfl rfl rfl ?_; refine J.loadA (vs := cI me) Ty.a23 Ty.s23 rfl rfl (fun w1 hw => Cells.of_block (hw.own _ (.tail _ (.tail _ (.tail _ (.head _))))) rfl) rfl ?_)
          first | refine J.skip rfl rfl rfl rfl rfl ?_ | refine J.skipU rfl rfl rfl rfl ?_ | (refine J.unguard rfl rfl rfl ?_; skip)
          (first | refine J.pickT rfl rfl rfl ?_ | refine J.pickF rfl rfl rfl ?_)
          refine J.nil ?_
          refine JX.thenN (hK2 _ _ ?_)
          first | refine JC.condT rfl ?_ | refine JC.cond rfl (fun _ => ?_) (fun h => by first | (exfalso; simp at h; omega) | (simp at h))
          refine JC.seq (fun K6 hK6 => ?_)
          refine JC.region ?_
          refine J.buildS (cs := cD nilV false false) Ty.pl90 zN_ rfl (by kernel_rfl) rfl ?_
          refine J.storeW Ty.s90 rfl rfl rfl rfl rfl (by simp [Value.oneCell']) (by repeat first | exact .here | apply Up.there) ?_
          refine J.assign rfl rfl ?_
          refine J.nil ?_
          refine JX.thenN (hK6 _ _ ?_)
          refine JC.ret ?_
          refine JX.thenR ?_
          refine JX.retCT rfl rfl rfl Ty.a90 Ty.s90 (vs := cD nilV false false) rfl (fun w1 hw => Cells.of_block (hw.own _ (.head _)) rfl) (fun w1 hw => ?_)
          exact ⟨rfl, (hw.drop (List.nil_sublist _)).below⟩
        · skip
          obtain ⟨qw, ow, _, hqe, _, _⟩ := Row.some hr (by simp; omega)
          simp only [Value.slice.injEq] at hqe
          obtain ⟨rfl, _, rfl⟩ := hqe
          obtain ⟨n0, hn0⟩ : ∃ y, way[0]? = some y := ⟨_, List.getElem?_eq_getElem (by omega)⟩
          obtain rfl : n = n0 := by have h9 := Classical.not_not.1 hc4; rw [hn0] at h9; exact (Option.some.inj h9).symm
          by_cases hc5 : b = me
          · skip
            refine JC.region ?_
            refine J.move rfl rfl ?_
            refine J.lenS rfl Ty.u26 rfl rfl ?_
            refine J.bin rfl rfl rfl rfl ?_
            refine J.name 20 rfl (show Value.bool _ = .bool false by simp; omega) ?_
            refine J.move rfl rfl ?_
            first | refine J.skip rfl rfl rfl rfl rfl ?_ | refine J.skipU rfl rfl rfl rfl ?_ | (refine J.unguard rfl rfl rfl ?_; refine J.move rfl rfl ?_)
            first | refine J.skip rfl rfl rfl rfl rfl ?_ | refine J.skipU rfl rfl rfl rfl ?_ | (refine J.unguard rfl rfl rfl ?_; refine J.lenS rfl Ty.u26 rfl rfl ?_)
            first | refine J.skip rfl rfl rfl rfl rfl ?_ | refine J.skipU rfl rfl rfl rfl ?_ | (refine J.unguard rfl rfl rfl ?_; refine J.bin rfl rfl rfl rfl ?_; refine J.name 24 rfl (show Value.bool _ = .bool false by simp; omega) ?_)
            (first | refine J.pickT rfl rfl rfl ?_ | refine J.pickF rfl rfl rfl ?_)
            refine J.move rfl rfl ?_
            first | refine J.skip rfl rfl rfl rfl rfl ?_ | refine J.skipU rfl rfl rfl rfl ?_ | (refine J.unguard rfl rfl rfl ?_; refine J.move rfl rfl ?_)
            first | refine J.skip rfl rfl rfl rfl rfl ?_ | refine J.skipU rfl rfl rfl rfl ?_ | (refine J.unguard rfl rfl rfl ?_; refine J.callB (v := .bool true) (fun w1 w2 hw hb => hw.step hb) Ty.bd65 rfl rfl (fun w1 hw => (by have h := simple11_spec _ way w1 (hr.below (hw.drop (List.nil_sublist _)).below) hlw; rw [decide_eq_true hnd] at h; exact h)) ?_)
            first | refine J.skip rfl rfl rfl rfl rfl ?_ | refine J.skipU rfl rfl rfl rfl ?_ | (refine J.unguard rfl rfl rfl ?_; refine J.not rfl rfl ?_)
            (first | refine J.pickT rfl rfl rfl ?_ | refine J.pickF rfl rfl rfl ?_)
            refine J.move rfl rfl ?_
            first | refine J.skip rfl rfl rfl rfl rfl ?_ | refine J.skipU rfl rfl rfl rfl ?_ | (refine J.unguard rfl rfl rfl ?_; refine J.move rfl rfl ?_)
            first | refine J.skip rfl rfl rfl rfl rfl ?_ | refine J.skipU rfl rfl rfl rfl ?_ | (refine J.unguard rfl rfl rfl ?_; refine J.indexAddrS Ty.el26 Ty.s3 rfl rfl (by omega) (by omega) rfl ?_)
            first | refine J.skip rfl rfl rfl rfl rfl ?_ | refine J.skipU rfl rfl rfl rfl ?_ | (refine J.unguard rfl rfl rfl ?_; refine J.load1 (v := iV n) Ty.a3 rfl (fun w1 hw => rowI_at2 (i := 0) (hr.below (hw.drop (List.nil_sublist _)).below) hn0 (by simp)) rfl ?_)
            first | refine J.skip rfl rfl rfl rfl rfl ?_ | refine J.skipU rfl rfl rfl rfl ?_ | (refine J.unguard rfl rfl rfl ?_; refine J.move rfl rfl ?_)
            first | refine J.skip rfl rfl rfl rfl rfl ?_ | refine J.skipU rfl rfl rfl rfl ?_ | (refine J.unguard rfl rfl rfl ?_; refine J.bin rfl rfl rfl rfl ?_; refine J.name 36 rfl (show Value.bool _ = .bool false by simp) ?_)
            (first | refine J.pickT rfl rfl rfl ?_ | refine J.pickF rfl rfl rfl ?_)
            refine J.move rfl rfl ?_
            first | refine J.skip rfl rfl rfl rfl rfl ?_ | refine J.skipU rfl rfl rfl rfl ?_ | (refine J.unguard rfl rfl rfl ?_; refine J.loadA (vs := cI b) Ty.a23 Ty.s23 rfl rfl (fun w1 hw => Cells.of_block (hw.own _ (.tail _ (.head _))) rfl) rfl ?_)
            first | refine J.skip rfl rfl rfl rfl rfl ?_ | refine J.skipU rfl rfl rfl rfl ?_ | (refine J.unguard rfl rfl rfl ?_; refine J.loadA (vs := cI me) Ty.a23 Ty.s23 rfl rfl (fun w1 hw => Cells.of_block (hw.own _ (.tail _ (.tail _ (.tail _ (.head _))))) rfl) rfl ?_)
            first | refine J.skip rfl rfl rfl rfl rfl ?_ | refine J.skipU rfl rfl rfl rfl ?_ | (refine J.unguard rfl rfl rfl ?_; refine J.eqI Ty.QI Ty.keyI rfl rfl rfl ?_; refine J.name 41 rfl (show Value.bool _ = .bool true by simp [hc5]) ?_)
            (first | refine J.pickT rfl rfl rfl ?_ | refine J.pickF rfl rfl rfl ?_)
            refine J.nil ?_
            refine JX.thenN (hK2 _ _ ?_)
            first | refine JC.condT rfl ?_ | refine JC.cond rfl (fun _ => ?_) (fun h => by first | (exfalso; simp at h; omega) | (simp at h))
            refine JC.seq (fun K7 hK7 => ?_)
            refine JC.region ?_
            refine J.buildS (cs := cD nilV false false) Ty.pl90 zN_ rfl (by kernel_rfl) rfl ?_
            refine J.storeW Ty.s90 rfl rfl rfl rfl rfl (by simp [Value.oneCell']) (by repeat first | exact .here | apply Up.there) ?_
            refine J.assign rfl rfl ?_
            refine J.nil ?_
            refine JX.thenN (hK7 _ _ ?_)
            refine JC.ret ?_
            refine JX.thenR ?_
            refine JX.retCT rfl rfl rfl Ty.a90 Ty.s90 (vs := cD nilV false false) rfl (fun w1 hw => Cells.of_block (hw.own _ (.head _)) rfl) (fun w1 hw => ?_)
            exact ⟨rfl, (hw.drop (List.nil_sublist _)).below⟩
          · skip
            exact absurd hbad (by unfold badW; intro h; rcases h with h | h | h | h | h; exact hc1 h; exact hc2 h; exact hc3 h; exact h hn0; exact hc5 h)

set_option maxHeartbeats 1000000 in
theorem rstart_shut (rt : Nat) (n : Int) (me b : IDV) (p : PV) (wv : Value) (way : List Int) (ov : Value) (os : List Bool) (w : World) (hr : Row w wv way.length (way.map iV)) (hlw : way.length < 4611686018427387904) (hro : Row w ov os.length (os.map bV)) (hlo : os.length < 4611686018427387904) (hgood : ¬ badW n me b way) (n1 : Int) (hn1 : way[1]? = some n1) (hop : openQ os n1 = false) :
    Calls Try.prog 46 [.pointer (some ⟨rt, 0, none⟩), .int .i64 n, .agg (cI me).toArray, .agg (cP p).toArray, .agg (cI b).toArray, wv, ov].toArray w fun r w' => r = .returned (.tuple #[.agg (cD nilV false false).toArray, .int .i64 10]) ∧ Bel w w' := by
  obtain ⟨aw, cw, rfl, hcw, _⟩ := id hr
  obtain ⟨hc1, hc2, hc3, hc4, hc5⟩ : ¬ way.length < 2 ∧ ¬ 64 < way.length ∧ ¬ ¬ way.Nodup ∧ ¬ way[0]? ≠ some n ∧ ¬ b = me := ⟨fun h => hgood (.inl h), fun h => hgood (.inr (.inl h)), fun h => hgood (.inr (.inr (.inl h))), fun h => hgood (.inr (.inr (.inr (.inl h)))), fun h => hgood (.inr (.inr (.inr (.inr h))))⟩
  have hnd : way.Nodup := Classical.not_not.1 hc3
  obtain ⟨qw, ow, _, hqe, _, _⟩ := Row.some hr (by simp; omega)
  simp only [Value.slice.injEq] at hqe
  obtain ⟨rfl, _, rfl⟩ := hqe
  obtain ⟨n0, hn0⟩ : ∃ y, way[0]? = some y := ⟨_, List.getElem?_eq_getElem (by omega)⟩
  obtain rfl : n = n0 := by have h9 := Classical.not_not.1 hc4; rw [hn0] at h9; exact (Option.some.inj h9).symm
  refine calls_of_J (args := [.pointer (some ⟨rt, 0, none⟩), .int .i64 n, .agg (cI me).toArray, .agg (cP p).toArray, .agg (cI b).toArray, .slice (some ⟨qw, ow, none⟩) way.length cw, ov]) (e := [(0, .pointer (some ⟨rt, 0, none⟩)), (1, .int .i64 n), (2, .agg (cI me).toArray), (3, .agg (cP p).toArray), (4, .agg (cI b).toArray), (5, .slice (some ⟨qw, ow, none⟩) way.length cw), (6, ov)]) Try.func46 rfl rfl ⟨rfl, rfl, rfl, rfl, rfl, rfl, rfl, trivial⟩ (St.start w) ?_
  refine JC.seq (fun K0 hK0 => ?_)
  refine JC.region ?_
  refine J.box rfl rfl rfl (fun b9 => ?_)
  refine J.box rfl rfl rfl (fun b10 => ?_)
  refine J.box rfl rfl rfl (fun b11 => ?_)
  refine J.alloc zN_ rfl rfl (fun b14 => ?_)
  refine J.assign rfl rfl ?_
  refine J.nil ?_
  refine JX.thenN (hK0 _ _ ?_)
  refine JC.seq (fun K1 hK1 => ?_)
  refine JC.seq (fun K2 hK2 => ?_)
  refine JC.region ?_
  refine J.move rfl rfl ?_
  refine J.lenS rfl Ty.u26 rfl rfl ?_
  refine J.bin rfl rfl rfl rfl ?_
  refine J.name 20 rfl (show Value.bool _ = .bool false by simp; omega) ?_
  refine J.move rfl rfl ?_
  first | refine J.skip rfl rfl rfl rfl rfl ?_ | refine J.skipU rfl rfl rfl rfl ?_ | (refine J.unguard rfl rfl rfl ?_; refine J.move rfl rfl ?_)
  first | refine J.skip rfl rfl rfl rfl rfl ?_ | refine J.skipU rfl rfl rfl rfl ?_ | (refine J.unguard rfl rfl rfl ?_; refine J.lenS rfl Ty.u26 rfl rfl ?_)
  first | refine J.skip rfl rfl rfl rfl rfl ?_ | refine J.skipU rfl rfl rfl rfl ?_ | (refine J.unguard rfl rfl rfl ?_; refine J.bin rfl rfl rfl rfl ?_; refine J.name 24 rfl (show Value.bool _ = .bool false by simp; omega) ?_)
  (first | refine J.pickT rfl rfl rfl ?_ | refine J.pickF rfl rfl rfl ?_)
  refine J.move rfl rfl ?_
  first | refine J.skip rfl rfl rfl rfl rfl ?_ | refine J.skipU rfl rfl rfl rfl ?_ | (refine J.unguard rfl rfl rfl ?_; refine J.move rfl rfl ?_)
  first | refine J.skip rfl rfl rfl rfl rfl ?_ | refine J.skipU rfl rfl rfl rfl ?_ | (refine J.unguard rfl rfl rfl ?_; refine J.callB (v := .bool true) (fun w1 w2 hw hb => hw.step hb) Ty.bd65 rfl rfl (fun w1 hw => (by have h := simple11_spec _ way w1 (hr.below (hw.drop (List.nil_sublist _)).below) hlw; rw [decide_eq_true hnd] at h; exact h)) ?_)
  first | refine J.skip rfl rfl rfl rfl rfl ?_ | refine J.skipU rfl rfl rfl rfl ?_ | (refine J.unguard rfl rfl rfl ?_; refine J.not rfl rfl ?_)
  (first | refine J.pickT rfl rfl rfl ?_ | refine J.pickF rfl rfl rfl ?_)
  refine J.move rfl rfl ?_
  first | refine J.skip rfl rfl rfl rfl rfl ?_ | refine J.skipU rfl rfl rfl rfl ?_ | (refine J.unguard rfl rfl rfl ?_; refine J.move rfl rfl ?_)
  first | refine J.skip rfl rfl rfl rfl rfl ?_ | refine J.skipU rfl rfl rfl rfl ?_ | (refine J.unguard rfl rfl rfl ?_; refine J.indexAddrS Ty.el26 Ty.s3 rfl rfl (by omega) (by omega) rfl ?_)
  first | refine J.skip rfl rfl rfl rfl rfl ?_ | refine J.skipU rfl rfl rfl rfl ?_ | (refine J.unguard rfl rfl rfl ?_; refine J.load1 (v := iV n) Ty.a3 rfl (fun w1 hw => rowI_at2 (i := 0) (hr.below (hw.drop (List.nil_sublist _)).below) hn0 (by simp)) rfl ?_)
  first | refine J.skip rfl rfl rfl rfl rfl ?_ | refine J.skipU rfl rfl rfl rfl ?_ | (refine J.unguard rfl rfl rfl ?_; refine J.move rfl rfl ?_)
  first | refine J.skip rfl rfl rfl rfl rfl ?_ | refine J.skipU rfl rfl rfl rfl ?_ | (refine J.unguard rfl rfl rfl ?_; refine J.bin rfl rfl rfl rfl ?_; refine J.name 36 rfl (show Value.bool _ = .bool false by simp) ?_)
  (first | refine J.pickT rfl rfl rfl ?_ | refine J.pickF rfl rfl rfl ?_)
  refine J.move rfl rfl ?_
  first | refine J.skip rfl rfl rfl rfl rfl ?_ | refine J.skipU rfl rfl rfl rfl ?_ | (refine J.unguard rfl rfl rfl ?_; refine J.loadA (vs := cI b) Ty.a23 Ty.s23 rfl rfl (fun w1 hw => Cells.of_block (hw.own _ (.tail _ (.head _))) rfl) rfl ?_)
  first | refine J.skip rfl rfl rfl rfl rfl ?_ | refine J.skipU rfl rfl rfl rfl ?_ | (refine J.unguard rfl rfl rfl ?_; refine J.loadA (vs := cI me) Ty.a23 Ty.s23 rfl rfl (fun w1 hw => Cells.of_block (hw.own _ (.tail _ (.tail _ (.tail _ (.head _))))) rfl) rfl ?_)
  first | refine J.skip rfl rfl rfl rfl rfl ?_ | refine J.skipU rfl rfl rfl rfl ?_ | (refine J.unguard rfl rfl rfl ?_; refine J.eqI Ty.QI Ty.keyI rfl rfl rfl ?_; refine J.name 41 rfl (show Value.bool _ = .bool false by simp [hc5]) ?_)
  (first | refine J.pickT rfl rfl rfl ?_ | refine J.pickF rfl rfl rfl ?_)
  refine J.nil ?_
  refine JX.thenN (hK2 _ _ ?_)
  first | refine JC.condF rfl ?_ | refine JC.cond rfl (fun h => by first | (exfalso; simp at h; omega) | (simp at h)) (fun _ => ?_)
  refine JC.skip ?_
  refine JX.thenN (hK1 _ _ ?_)
  refine JC.seq (fun K3 hK3 => ?_)
  refine JC.seq (fun K4 hK4 => ?_)
  refine JC.region ?_
  refine J.move rfl rfl ?_
  refine J.move rfl rfl ?_
  refine J.indexAddrS Ty.el26 Ty.s3 rfl rfl (by omega) (by omega) rfl ?_
  refine J.load1 (v := iV n1) Ty.a3 rfl (fun w1 hw => rowI_at2 (i := 1) (hr.below (hw.drop (List.nil_sublist _)).below) hn1 (by simp)) rfl ?_
  refine J.callB (v := .bool false) (fun w1 w2 hw hb => hw.step hb) Ty.bd66 rfl rfl (fun w1 hw => by
    have h := open14_spec ov os n1 w1 (hro.below (hw.drop (List.nil_sublist _)).below) hlo
    rw [hop] at h
    exact h) ?_
  refine J.not rfl rfl ?_
  refine J.nil ?_
  refine JX.thenN (hK4 _ _ ?_)
  first | refine JC.condT rfl ?_ | refine JC.cond rfl (fun _ => ?_) (fun h => by first | (exfalso; simp at h; omega) | (simp at h))
  refine JC.seq (fun K5 hK5 => ?_)
  refine JC.region ?_
  refine J.buildS (cs := cD nilV false false) Ty.pl90 zN_ rfl (by kernel_rfl) rfl ?_
  refine J.storeW Ty.s90 rfl rfl rfl rfl rfl (by simp [Value.oneCell']) (by repeat first | exact .here | apply Up.there) ?_
  refine J.assign rfl rfl ?_
  refine J.nil ?_
  refine JX.thenN (hK5 _ _ ?_)
  refine JC.ret ?_
  refine JX.thenR ?_
  refine JX.retCT rfl rfl rfl Ty.a90 Ty.s90 (vs := cD nilV false false) rfl (fun w1 hw => Cells.of_block (hw.own _ (.head _)) rfl) (fun w1 hw => ?_)
  exact ⟨rfl, (hw.drop (List.nil_sublist _)).below⟩

end Go.Proofs.Ytpldpkdlloolkaa
