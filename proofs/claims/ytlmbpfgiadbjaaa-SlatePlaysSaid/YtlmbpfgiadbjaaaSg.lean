/-
  Slate's small methods, the law's helpers, the chapter's example.
-/
import Derived.Test.YtlmbpfgiadbjaaaSf
import Derived.Test.YtlmbpfgiadbjaaaRa
namespace Go.Proofs.Ytlmbpfgiadbjaaa
open Go.J Go.RowKit
set_option linter.unusedVariables false
set_option linter.unusedSimpArgs false
set_option maxRecDepth 8000
/-- appending, told by parts -/
theorem append_all (lb d s n : Nat) (q : LogP) (down : Bool) (B rec_ : List UInt8) (p k : Int) (a : Option Addr) (m c : Nat) (w : World) (hw0 : Own w [(lb, lgO d q down), (d, dkO s n p k), (s, dkS B)]) (hB : B.length = 64 * n) (hn : n ≤ 4096) (hn3 : 3 ≤ n) (hg : q.gen < 9223372036854775808) (hu : q.used ≤ n - 2) (hcn : q.cnt ≤ q.used) (hk : 0 ≤ k) (hk2 : k < 4611686018427380000) (hp : p < 9223372036854775808) (hml : rec_.length = m) (hm47 : m ≤ 140737488351232) (hr : Row w (.slice a m c) m (rec_.map u8)) (hoff : Off [lb, d, s] (.slice a m c) (rec_.map u8)) {x : Int × LogP × Bool × DS} (hx : appendP n q down ⟨B, p, k⟩ rec_ = x) :
    Calls Try.prog 28 [.pointer (some ⟨lb, 0, none⟩), .slice a m c].toArray w fun r w' => r = .returned (.int .i64 x.1) ∧ St w [lb, d, s] [(lb, lgO d x.2.1 x.2.2.1), (d, dkO s n x.2.2.2.p x.2.2.2.k), (s, dkS x.2.2.2.B)] w' := by
  subst hx
  exact append_spec lb d s n q down B rec_ p k a m c w hw0 hB hn hn3 hg hu hcn hk hk2 hp hml hm47 hr hoff

theorem len_spec (lb d : Nat) (q : LogP) (down : Bool) (w : World) {l : List (Nat × Obj)} (hw0 : Own w ((lb, lgO d q down) :: l)) :
    Calls Try.prog 29 [.pointer (some ⟨lb, 0, none⟩)].toArray w fun r w' => r = .returned (.int .i64 ((q.cnt : Nat) : Int)) ∧ Below w.heap.size w w' := by
  refine calls_of_J (args := [.pointer (some ⟨lb, 0, none⟩)]) (e := [(0, .pointer (some ⟨lb, 0, none⟩))]) Try.func29 rfl rfl ⟨rfl, trivial⟩ (hw0.st) ?_
  refine JC.seq (fun K0 hK0 => ?_)
  refine JC.region ?_
  refine J.assign rfl rfl ?_
  refine J.nil ?_
  refine JX.thenN (hK0 _ _ ?_)
  refine JC.seq (fun K1 hK1 => ?_)
  refine JC.seq (fun K2 hK2 => ?_)
  refine JC.region ?_
  refine J.move rfl rfl ?_
  refine J.eqNil Ty.u48 rfl rfl rfl ?_
  refine J.nil ?_
  refine JX.thenN (hK2 _ _ ?_)
  first | refine JC.condF rfl ?_ | refine JC.cond rfl (fun h => by first | (exfalso; simp at h; omega) | (simp at h)) (fun _ => ?_)
  refine JC.skip ?_
  refine JX.thenN (hK1 _ _ ?_)
  refine JC.seq (fun K3 hK3 => ?_)
  refine JC.region ?_
  refine J.move rfl rfl ?_
  refine J.nilCheck rfl rfl ?_
  refine J.fieldAddr Ty.fd80_3 rfl rfl ?_
  (first | refine J.loadO Ty.a3 rfl (.head _) rfl rfl ?_ | refine J.loadO Ty.a3 rfl (.tail _ (.head _)) rfl rfl ?_ | refine J.loadO Ty.a3 rfl (.tail _ (.tail _ (.head _))) rfl rfl ?_ | refine J.loadO Ty.a3 rfl (.tail _ (.tail _ (.tail _ (.head _)))) rfl rfl ?_ | refine J.loadO Ty.a3 rfl (.tail _ (.tail _ (.tail _ (.tail _ (.head _))))) rfl rfl ?_ | refine J.loadO Ty.a3 rfl (List.mem_append_right _ (.head _)) rfl rfl ?_ | refine J.loadO Ty.a3 rfl (List.mem_append_right _ (.tail _ (.head _))) rfl rfl ?_ | refine J.loadO Ty.a3 rfl (List.mem_append_right _ (.tail _ (.tail _ (.head _)))) rfl rfl ?_ | refine J.loadO Ty.a3 rfl (List.mem_append_right _ (.tail _ (.tail _ (.tail _ (.head _))))) rfl rfl ?_ | refine J.loadO Ty.a3 rfl (List.mem_append_right _ (.tail _ (.tail _ (.tail _ (.tail _ (.head _)))))) rfl rfl ?_)
  refine J.assign rfl rfl ?_
  refine J.nil ?_
  refine JX.thenN (hK3 _ _ ?_)
  refine JC.ret ?_
  refine JX.ret1 rfl rfl (fun w hw => ?_)
  exact ⟨rfl, hw.same hw0 (fun p hp => hp)⟩

theorem len_nil (w : World) :
    Calls Try.prog 29 [.pointer none].toArray w fun r w' => r = .returned (.int .i64 0) ∧ Below w.heap.size w w' := by
  refine calls_of_J (args := [.pointer none]) (e := [(0, .pointer none)]) Try.func29 rfl rfl ⟨rfl, trivial⟩ (St.start w) ?_
  refine JC.seq (fun K0 hK0 => ?_)
  refine JC.region ?_
  refine J.assign rfl rfl ?_
  refine J.nil ?_
  refine JX.thenN (hK0 _ _ ?_)
  refine JC.seq (fun K1 hK1 => ?_)
  refine JC.seq (fun K2 hK2 => ?_)
  refine JC.region ?_
  refine J.move rfl rfl ?_
  refine J.eqNil Ty.u48 rfl rfl rfl ?_
  refine J.nil ?_
  refine JX.thenN (hK2 _ _ ?_)
  first | refine JC.condT rfl ?_ | refine JC.cond rfl (fun _ => ?_) (fun h => by first | (exfalso; simp at h; omega) | (simp at h))
  refine JC.seq (fun K3 hK3 => ?_)
  refine JC.region ?_
  refine J.assign rfl rfl ?_
  refine J.nil ?_
  refine JX.thenN (hK3 _ _ ?_)
  refine JC.ret ?_
  refine JX.thenR ?_
  refine JX.ret1 rfl rfl (fun w hw => ?_)
  exact ⟨rfl, hw.below⟩

theorem down_spec (lb d : Nat) (q : LogP) (down : Bool) (w : World) {l : List (Nat × Obj)} (hw0 : Own w ((lb, lgO d q down) :: l)) :
    Calls Try.prog 32 [.pointer (some ⟨lb, 0, none⟩)].toArray w fun r w' => r = .returned (.bool down) ∧ Below w.heap.size w w' := by
  refine calls_of_J (args := [.pointer (some ⟨lb, 0, none⟩)]) (e := [(0, .pointer (some ⟨lb, 0, none⟩))]) Try.func32 rfl rfl ⟨rfl, trivial⟩ (hw0.st) ?_
  refine JC.seq (fun K0 hK0 => ?_)
  refine JC.region ?_
  refine J.assign rfl rfl ?_
  refine J.nil ?_
  refine JX.thenN (hK0 _ _ ?_)
  refine JC.seq (fun K1 hK1 => ?_)
  refine JC.region ?_
  refine J.move rfl rfl ?_
  refine J.neNil Ty.u48 rfl rfl rfl ?_
  refine J.move rfl rfl ?_
  first
    | (refine J.skip rfl rfl rfl rfl rfl ?_)
    | (refine J.skipU rfl rfl rfl rfl ?_)
    | (refine J.unguard rfl rfl rfl ?_; refine J.move rfl rfl ?_)
  first
    | (refine J.skip rfl rfl rfl rfl rfl ?_)
    | (refine J.skipU rfl rfl rfl rfl ?_)
    | (refine J.unguard rfl rfl rfl ?_; refine J.nilCheck rfl rfl ?_)
  first
    | (refine J.skip rfl rfl rfl rfl rfl ?_)
    | (refine J.skipU rfl rfl rfl rfl ?_)
    | (refine J.unguard rfl rfl rfl ?_; refine J.fieldAddr Ty.fd80_4 rfl rfl ?_)
  first
    | (refine J.skip rfl rfl rfl rfl rfl ?_)
    | (refine J.skipU rfl rfl rfl rfl ?_)
    | (refine J.unguard rfl rfl rfl ?_; (first | refine J.loadO Ty.a4 rfl (.head _) rfl rfl ?_ | refine J.loadO Ty.a4 rfl (.tail _ (.head _)) rfl rfl ?_ | refine J.loadO Ty.a4 rfl (.tail _ (.tail _ (.head _))) rfl rfl ?_ | refine J.loadO Ty.a4 rfl (.tail _ (.tail _ (.tail _ (.head _)))) rfl rfl ?_ | refine J.loadO Ty.a4 rfl (.tail _ (.tail _ (.tail _ (.tail _ (.head _))))) rfl rfl ?_ | refine J.loadO Ty.a4 rfl (List.mem_append_right _ (.head _)) rfl rfl ?_ | refine J.loadO Ty.a4 rfl (List.mem_append_right _ (.tail _ (.head _))) rfl rfl ?_ | refine J.loadO Ty.a4 rfl (List.mem_append_right _ (.tail _ (.tail _ (.head _)))) rfl rfl ?_ | refine J.loadO Ty.a4 rfl (List.mem_append_right _ (.tail _ (.tail _ (.tail _ (.head _))))) rfl rfl ?_ | refine J.loadO Ty.a4 rfl (List.mem_append_right _ (.tail _ (.tail _ (.tail _ (.tail _ (.head _)))))) rfl rfl ?_))
  (first | refine J.pickT rfl rfl rfl ?_ | refine J.pickF rfl rfl rfl ?_)
  refine J.assign rfl rfl ?_
  refine J.nil ?_
  refine JX.thenN (hK1 _ _ ?_)
  refine JC.ret ?_
  refine JX.ret1 rfl rfl (fun w hw => ?_)
  exact ⟨rfl, hw.same hw0 (fun p hp => hp)⟩

theorem down_nil (w : World) :
    Calls Try.prog 32 [.pointer none].toArray w fun r w' => r = .returned (.bool false) ∧ Below w.heap.size w w' := by
  refine calls_of_J (args := [.pointer none]) (e := [(0, .pointer none)]) Try.func32 rfl rfl ⟨rfl, trivial⟩ (St.start w) ?_
  refine JC.seq (fun K0 hK0 => ?_)
  refine JC.region ?_
  refine J.assign rfl rfl ?_
  refine J.nil ?_
  refine JX.thenN (hK0 _ _ ?_)
  refine JC.seq (fun K1 hK1 => ?_)
  refine JC.region ?_
  refine J.move rfl rfl ?_
  refine J.neNil Ty.u48 rfl rfl rfl ?_
  refine J.move rfl rfl ?_
  first
    | (refine J.skip rfl rfl rfl rfl rfl ?_)
    | (refine J.skipU rfl rfl rfl rfl ?_)
    | (refine J.unguard rfl rfl rfl ?_; refine J.move rfl rfl ?_)
  first
    | (refine J.skip rfl rfl rfl rfl rfl ?_)
    | (refine J.skipU rfl rfl rfl rfl ?_)
    | (refine J.unguard rfl rfl rfl ?_; refine J.nilCheck rfl rfl ?_)
  first
    | (refine J.skip rfl rfl rfl rfl rfl ?_)
    | (refine J.skipU rfl rfl rfl rfl ?_)
    | (refine J.unguard rfl rfl rfl ?_; refine J.fieldAddr Ty.fd80_4 rfl rfl ?_)
  first
    | (refine J.skip rfl rfl rfl rfl rfl ?_)
    | (refine J.skipU rfl rfl rfl rfl ?_)
    | (refine J.unguard rfl rfl rfl ?_; (first | refine J.loadO Ty.a4 rfl (.head _) rfl rfl ?_ | refine J.loadO Ty.a4 rfl (.tail _ (.head _)) rfl rfl ?_ | refine J.loadO Ty.a4 rfl (.tail _ (.tail _ (.head _))) rfl rfl ?_ | refine J.loadO Ty.a4 rfl (.tail _ (.tail _ (.tail _ (.head _)))) rfl rfl ?_ | refine J.loadO Ty.a4 rfl (.tail _ (.tail _ (.tail _ (.tail _ (.head _))))) rfl rfl ?_ | refine J.loadO Ty.a4 rfl (List.mem_append_right _ (.head _)) rfl rfl ?_ | refine J.loadO Ty.a4 rfl (List.mem_append_right _ (.tail _ (.head _))) rfl rfl ?_ | refine J.loadO Ty.a4 rfl (List.mem_append_right _ (.tail _ (.tail _ (.head _)))) rfl rfl ?_ | refine J.loadO Ty.a4 rfl (List.mem_append_right _ (.tail _ (.tail _ (.tail _ (.head _))))) rfl rfl ?_ | refine J.loadO Ty.a4 rfl (List.mem_append_right _ (.tail _ (.tail _ (.tail _ (.tail _ (.head _)))))) rfl rfl ?_))
  (first | refine J.pickT rfl rfl rfl ?_ | refine J.pickF rfl rfl rfl ?_)
  refine J.assign rfl rfl ?_
  refine J.nil ?_
  refine JX.thenN (hK1 _ _ ?_)
  refine JC.ret ?_
  refine JX.ret1 rfl rfl (fun w hw => ?_)
  exact ⟨rfl, hw.below⟩

theorem room_nil (w : World) :
    Calls Try.prog 31 [.pointer none].toArray w fun r w' => r = .returned (.int .i64 0) ∧ Below w.heap.size w w' := by
  refine calls_of_J (args := [.pointer none]) (e := [(0, .pointer none)]) Try.func31 rfl rfl ⟨rfl, trivial⟩ (St.start w) ?_
  refine JC.seq (fun K0 hK0 => ?_)
  refine JC.region ?_
  refine J.assign rfl rfl ?_
  refine J.nil ?_
  refine JX.thenN (hK0 _ _ ?_)
  refine JC.seq (fun K1 hK1 => ?_)
  refine JC.seq (fun K2 hK2 => ?_)
  refine JC.region ?_
  refine J.move rfl rfl ?_
  refine J.eqNil Ty.u48 rfl rfl rfl ?_
  refine J.nil ?_
  refine JX.thenN (hK2 _ _ ?_)
  first | refine JC.condT rfl ?_ | refine JC.cond rfl (fun _ => ?_) (fun h => by first | (exfalso; simp at h; omega) | (simp at h))
  refine JC.seq (fun K3 hK3 => ?_)
  refine JC.region ?_
  refine J.assign rfl rfl ?_
  refine J.nil ?_
  refine JX.thenN (hK3 _ _ ?_)
  refine JC.ret ?_
  refine JX.thenR ?_
  refine JX.ret1 rfl rfl (fun w hw => ?_)
  exact ⟨rfl, hw.below⟩

theorem room_spec (lb d s n : Nat) (q : LogP) (down : Bool) (p k : Int) (w : World) {l : List (Nat × Obj)} (hw0 : Own w ((lb, lgO d q down) :: (d, dkO s n p k) :: l)) (hn : n ≤ 4096) (hu : q.used ≤ 4096) :
    Calls Try.prog 31 [.pointer (some ⟨lb, 0, none⟩)].toArray w fun r w' => r = .returned (.int .i64 ((n : Int) - 2 - ((q.used : Nat) : Int))) ∧ Below w.heap.size w w' := by
  refine calls_of_J (args := [.pointer (some ⟨lb, 0, none⟩)]) (e := [(0, .pointer (some ⟨lb, 0, none⟩))]) Try.func31 rfl rfl ⟨rfl, trivial⟩ (hw0.st) ?_
  refine JC.seq (fun K0 hK0 => ?_)
  refine JC.region ?_
  refine J.assign rfl rfl ?_
  refine J.nil ?_
  refine JX.thenN (hK0 _ _ ?_)
  refine JC.seq (fun K1 hK1 => ?_)
  refine JC.seq (fun K2 hK2 => ?_)
  refine JC.region ?_
  refine J.move rfl rfl ?_
  refine J.eqNil Ty.u48 rfl rfl rfl ?_
  refine J.nil ?_
  refine JX.thenN (hK2 _ _ ?_)
  first | refine JC.condF rfl ?_ | refine JC.cond rfl (fun h => by first | (exfalso; simp at h; omega) | (simp at h)) (fun _ => ?_)
  refine JC.skip ?_
  refine JX.thenN (hK1 _ _ ?_)
  refine JC.seq (fun K3 hK3 => ?_)
  apply JC.drawL 11 [Eqv _, Eqv _, Eqv _, Eqv _, Eqv _, Eqv _, Eqv _, Eqv _, Eqv _, Eqv _, Eqv _] Ty.mixed rfl rfl rfl (by kernel_rfl) rfl rfl (fun w w' hw hb => hw.step hb) ⟨fun _ _ _ h _ => h, fun _ _ _ h _ => h, fun _ _ _ h _ => h, fun _ _ _ h _ => h, fun _ _ _ h _ => h, fun _ _ _ h _ => h, fun _ _ _ h _ => h, fun _ _ _ h _ => h, fun _ _ _ h _ => h, fun _ _ _ h _ => h, fun _ _ _ h _ => h, trivial⟩ ?hstep ?htail
  case hstep =>
    refine ⟨fun wi => ?_, fun wi => ?_, fun wi => ?_, fun wi => ?_, fun wi => ?_, fun wi => ?_, fun wi => ?_, fun wi => ?_, fun wi => ?_, fun wi => ?_, fun wi => ?_, trivial⟩
    · skip
      refine Fin.nil ?_
      refine J.move rfl rfl ?_
      refine J.nil (JX.fin rfl (fun w hw => ⟨rfl, (by rw [hw.1]; exact Below.refl _ _)⟩))
    · skip
      refine Fin.cons (fun v3_0 => ?_)
      refine Fin.nil ?_
      refine J.prE (fun h => ?_); subst h
      refine J.nilCheck rfl rfl ?_
      refine J.nil (JX.fin rfl (fun w hw => ⟨rfl, (by rw [hw.1]; exact Below.refl _ _)⟩))
    · skip
      refine Fin.cons (fun v3_1 => ?_)
      refine Fin.nil ?_
      refine J.prE (fun h => ?_); subst h
      refine J.fieldAddr Ty.fd80_0 rfl rfl ?_
      refine J.nil (JX.fin rfl (fun w hw => ⟨rfl, (by rw [hw.1]; exact Below.refl _ _)⟩))
    · skip
      refine Fin.cons (fun v3_2 => ?_)
      refine Fin.nil ?_
      refine J.prE (fun h => ?_); subst h
      (first | refine J.load1 Ty.a23 rfl (fun w hw => (cell_of (hw.2.own _ (.head _))).trans rfl) rfl ?_ | refine J.load1 Ty.a23 rfl (fun w hw => (cell_of (hw.2.own _ (.tail _ (.head _)))).trans rfl) rfl ?_ | refine J.load1 Ty.a23 rfl (fun w hw => (cell_of (hw.2.own _ (.tail _ (.tail _ (.head _))))).trans rfl) rfl ?_ | refine J.load1 Ty.a23 rfl (fun w hw => (cell_of (hw.2.own _ (.tail _ (.tail _ (.tail _ (.head _)))))).trans rfl) rfl ?_ | refine J.load1 Ty.a23 rfl (fun w hw => (cell_of (hw.2.own _ (.tail _ (.tail _ (.tail _ (.tail _ (.head _))))))).trans rfl) rfl ?_ | refine J.load1 Ty.a23 rfl (fun w hw => (cell_of (hw.2.own _ (List.mem_append_right _ (.head _)))).trans rfl) rfl ?_ | refine J.load1 Ty.a23 rfl (fun w hw => (cell_of (hw.2.own _ (List.mem_append_right _ (.tail _ (.head _))))).trans rfl) rfl ?_ | refine J.load1 Ty.a23 rfl (fun w hw => (cell_of (hw.2.own _ (List.mem_append_right _ (.tail _ (.tail _ (.head _)))))).trans rfl) rfl ?_ | refine J.load1 Ty.a23 rfl (fun w hw => (cell_of (hw.2.own _ (List.mem_append_right _ (.tail _ (.tail _ (.tail _ (.head _))))))).trans rfl) rfl ?_ | refine J.load1 Ty.a23 rfl (fun w hw => (cell_of (hw.2.own _ (List.mem_append_right _ (.tail _ (.tail _ (.tail _ (.tail _ (.head _)))))))).trans rfl) rfl ?_)
      refine J.nil (JX.fin rfl (fun w hw => ⟨rfl, (by rw [hw.1]; exact Below.refl _ _)⟩))
    · skip
      refine Fin.cons (fun v3_3 => ?_)
      refine Fin.nil ?_
      refine J.prE (fun h => ?_); subst h
      refine J.callD Ty.bd23 rfl rfl (fun w1 hw => size_spec d s n p k w1 (hw.drop (List.sublist_cons_self _ _)).owns') ?_
      refine J.nil (JX.fin rfl (fun w hw => ⟨rfl, hw⟩))
    · skip
      refine Fin.cons (fun v3_4 => ?_)
      refine Fin.nil ?_
      refine J.prE (fun h => ?_); subst h
      refine J.subN rfl rfl (by omega) (by omega) rfl ?_
      refine J.nil (JX.fin rfl (fun w hw => ⟨rfl, (by rw [hw.1]; exact Below.refl _ _)⟩))
    · skip
      refine Fin.nil ?_
      refine J.move rfl rfl ?_
      refine J.nil (JX.fin rfl (fun w hw => ⟨rfl, (by rw [hw.1]; exact Below.refl _ _)⟩))
    · skip
      refine Fin.cons (fun v3_6 => ?_)
      refine Fin.nil ?_
      refine J.prE (fun h => ?_); subst h
      refine J.nilCheck rfl rfl ?_
      refine J.nil (JX.fin rfl (fun w hw => ⟨rfl, (by rw [hw.1]; exact Below.refl _ _)⟩))
    · skip
      refine Fin.cons (fun v3_7 => ?_)
      refine Fin.nil ?_
      refine J.prE (fun h => ?_); subst h
      refine J.fieldAddr Ty.fd80_2 rfl rfl ?_
      refine J.nil (JX.fin rfl (fun w hw => ⟨rfl, (by rw [hw.1]; exact Below.refl _ _)⟩))
    · skip
      refine Fin.cons (fun v3_8 => ?_)
      refine Fin.nil ?_
      refine J.prE (fun h => ?_); subst h
      (first | refine J.load1 Ty.a3 rfl (fun w hw => (cell_of (hw.2.own _ (.head _))).trans rfl) rfl ?_ | refine J.load1 Ty.a3 rfl (fun w hw => (cell_of (hw.2.own _ (.tail _ (.head _)))).trans rfl) rfl ?_ | refine J.load1 Ty.a3 rfl (fun w hw => (cell_of (hw.2.own _ (.tail _ (.tail _ (.head _))))).trans rfl) rfl ?_ | refine J.load1 Ty.a3 rfl (fun w hw => (cell_of (hw.2.own _ (.tail _ (.tail _ (.tail _ (.head _)))))).trans rfl) rfl ?_ | refine J.load1 Ty.a3 rfl (fun w hw => (cell_of (hw.2.own _ (.tail _ (.tail _ (.tail _ (.tail _ (.head _))))))).trans rfl) rfl ?_ | refine J.load1 Ty.a3 rfl (fun w hw => (cell_of (hw.2.own _ (List.mem_append_right _ (.head _)))).trans rfl) rfl ?_ | refine J.load1 Ty.a3 rfl (fun w hw => (cell_of (hw.2.own _ (List.mem_append_right _ (.tail _ (.head _))))).trans rfl) rfl ?_ | refine J.load1 Ty.a3 rfl (fun w hw => (cell_of (hw.2.own _ (List.mem_append_right _ (.tail _ (.tail _ (.head _)))))).trans rfl) rfl ?_ | refine J.load1 Ty.a3 rfl (fun w hw => (cell_of (hw.2.own _ (List.mem_append_right _ (.tail _ (.tail _ (.tail _ (.head _))))))).trans rfl) rfl ?_ | refine J.load1 Ty.a3 rfl (fun w hw => (cell_of (hw.2.own _ (List.mem_append_right _ (.tail _ (.tail _ (.tail _ (.tail _ (.head _)))))))).trans rfl) rfl ?_)
      refine J.nil (JX.fin rfl (fun w hw => ⟨rfl, (by rw [hw.1]; exact Below.refl _ _)⟩))
    · skip
      refine Fin.cons (fun v3_5 => ?_)
      refine Fin.cons (fun v3_9 => ?_)
      refine Fin.nil ?_
      refine J.prE (fun h => ?_); subst h
      refine J.prE (fun h => ?_); subst h
      refine J.subN rfl rfl (by omega) (by omega) rfl ?_
      refine J.nil (JX.fin rfl (fun w hw => ⟨rfl, (by rw [hw.1]; exact Below.refl _ _)⟩))
  case htail =>
    refine Fin.cons (fun v3_0 => ?_)
    refine Fin.cons (fun v3_1 => ?_)
    refine Fin.cons (fun v3_2 => ?_)
    refine Fin.cons (fun v3_3 => ?_)
    refine Fin.cons (fun v3_4 => ?_)
    refine Fin.cons (fun v3_5 => ?_)
    refine Fin.cons (fun v3_6 => ?_)
    refine Fin.cons (fun v3_7 => ?_)
    refine Fin.cons (fun v3_8 => ?_)
    refine Fin.cons (fun v3_9 => ?_)
    refine Fin.cons (fun v3_10 => ?_)
    refine Fin.nil ?_
    refine J.prE (fun h => ?_); subst h
    refine J.prE (fun h => ?_); subst h
    refine J.prE (fun h => ?_); subst h
    refine J.prE (fun h => ?_); subst h
    refine J.prE (fun h => ?_); subst h
    refine J.prE (fun h => ?_); subst h
    refine J.prE (fun h => ?_); subst h
    refine J.prE (fun h => ?_); subst h
    refine J.prE (fun h => ?_); subst h
    refine J.prE (fun h => ?_); subst h
    refine J.prE (fun h => ?_); subst h
    refine J.assign rfl rfl ?_
    refine J.nil ?_
    refine JX.thenN (hK3 _ _ ?_)
    refine JC.ret ?_
    refine JX.ret1 rfl rfl (fun w hw => ?_)
    exact ⟨rfl, hw.same hw0 (fun p hp => hp)⟩

theorem append_nil (bv : Value) (w : World) :
    Calls Try.prog 28 [.pointer none, bv].toArray w fun r w' => r = .returned (.int .i64 1) ∧ Below w.heap.size w w' := by
  refine calls_of_J (args := [.pointer none, bv]) (e := [(0, .pointer none), (1, bv)]) Try.func28 rfl rfl ⟨rfl, rfl, trivial⟩ (St.start w) ?_
  refine JC.seq (fun K0 hK0 => ?_)
  refine JC.region ?_
  refine J.assign rfl rfl ?_
  refine J.nil ?_
  refine JX.thenN (hK0 _ _ ?_)
  refine JC.seq (fun K1 hK1 => ?_)
  refine JC.block ?_
  refine JC.seq (fun K2 hK2 => ?_)
  refine JC.region ?_
  refine J.move rfl rfl ?_
  refine J.eqNil Ty.u48 rfl rfl rfl ?_
  refine J.assign rfl rfl ?_
  refine J.nil ?_
  refine JX.thenN (hK2 _ _ ?_)
  first | refine JC.condT rfl ?_ | refine JC.cond rfl (fun _ => ?_) (fun h => by first | (exfalso; simp at h; omega) | (simp at h))
  refine JC.seq (fun K3 hK3 => ?_)
  refine JC.region ?_
  refine J.assign rfl rfl ?_
  refine J.nil ?_
  refine JX.thenN (hK3 _ _ ?_)
  refine JC.ret ?_
  refine JX.blockR ?_
  refine JX.thenR ?_
  refine JX.ret1 rfl rfl (fun w hw => ?_)
  exact ⟨rfl, hw.below⟩

theorem open_nil (w : World) :
    Calls Try.prog 26 [.pointer none].toArray w fun r w' => r = .returned (.tuple #[.pointer none, .slice none 0 0, .int .i64 1]) ∧ Below w.heap.size w w' := by
  refine calls_of_J (args := [.pointer none]) (e := [(0, .pointer none)]) Try.func26 rfl rfl ⟨rfl, trivial⟩ (St.start w) ?_
  refine JC.seq (fun K0 hK0 => ?_)
  refine JC.region ?_
  refine J.assign rfl rfl ?_
  refine J.assign rfl rfl ?_
  refine J.assign rfl rfl ?_
  refine J.nil ?_
  refine JX.thenN (hK0 _ _ ?_)
  refine JC.seq (fun K1 hK1 => ?_)
  refine JC.seq (fun K2 hK2 => ?_)
  refine JC.region ?_
  refine J.move rfl rfl ?_
  refine J.callB (fun w1 w2 hw hb => hw.step hb) Ty.bd23 rfl rfl (fun w1 hw => size_nil w1) ?_
  refine J.bin rfl rfl rfl rfl ?_
  refine J.nil ?_
  refine JX.thenN (hK2 _ _ ?_)
  first | refine JC.condT rfl ?_ | refine JC.cond rfl (fun _ => ?_) (fun h => by first | (exfalso; simp at h; omega) | (simp at h))
  refine JC.seq (fun K3 hK3 => ?_)
  refine JC.region ?_
  refine J.assign rfl rfl ?_
  refine J.assign rfl rfl ?_
  refine J.assign rfl rfl ?_
  refine J.nil ?_
  refine JX.thenN (hK3 _ _ ?_)
  refine JC.ret ?_
  refine JX.thenR ?_
  refine JX.ret3 rfl rfl rfl rfl (fun w hw => ?_)
  exact ⟨rfl, hw.below⟩

theorem sectors_spec (a : Option Addr) (m c most N : Nat) (bs : List UInt8) (w : World) (hb : Row w (.slice a m c) m (bs.map u8)) (hbl : bs.length = m) (hm : m ≤ 140737488351232) (hmost : most ≤ 4096) (hN : N = min (m / 64) most) :
    Calls Try.prog 33 [.slice a m c, .int .i64 ((most : Nat) : Int)].toArray w fun r w' => ∃ x : Value × List (Nat × Obj), r = .returned x.1 ∧ Vec 5 1 x.1 (64 * N) ((bs.take (64 * N)).map u8) x.2 ∧ St w [] x.2 w' := by
  refine calls_of_J (args := [.slice a m c, .int .i64 ((most : Nat) : Int)]) (e := [(0, .slice a m c), (1, .int .i64 ((most : Nat) : Int))]) Try.func33 rfl rfl ⟨rfl, rfl, trivial⟩ (St.start w) ?_
  refine JC.seq (fun K0 hK0 => ?_)
  refine JC.region ?_
  refine J.assign rfl rfl ?_
  refine J.nil ?_
  refine JX.thenN (hK0 _ _ ?_)
  refine JC.seq (fun K1 hK1 => ?_)
  refine JC.region ?_
  refine J.move rfl rfl ?_
  refine J.lenS rfl Ty.u28 rfl rfl ?_
  refine J.quoN rfl rfl (by omega) (by omega) (by omega) rfl ?_
  refine J.move rfl rfl ?_
  refine J.min2 rfl rfl rfl ?_
  refine J.name 10 rfl (congrArg (Value.int .i64) (show _ = ((N : Nat) : Int) by omega)) ?_
  refine J.assign rfl rfl ?_
  refine J.nil ?_
  refine JX.thenN (hK1 _ _ ?_)
  refine JC.seq (fun K2 hK2 => ?_)
  refine JC.region ?_
  refine J.buildSl Ty.el28 Ty.s5 Ty.z5 rfl rfl rfl rfl rfl rfl rfl (fun b11 => ?_)
  refine J.move rfl rfl ?_
  refine J.move rfl rfl ?_
  (first | refine J.mulN rfl rfl (by omega) (by omega) rfl ?_ | refine J.bin rfl rfl rfl rfl ?_)
  refine J.sliceS (i := 0) (j := 64 * N) Ty.el28 Ty.s5 rfl rfl rfl rfl (by simp only [bnd]; rw [if_pos (by omega)]; congr 1 <;> omega) (by omega) (by have := hb.cap; omega) hb.cap rfl ?_
  refine J.append (lp := [(b11, cb [] 5)]) (xs := []) (ys := ((bs.map u8).drop (0 * 1)).take ((64 * N - 0) * 1)) (k := 0) (m := 64 * N - 0) Ty.el28 Ty.s5 Ty.b5 Ty.z5 rfl (.inl ⟨5, Ty.u28⟩) rfl rfl ⟨rfl, .inr ⟨b11, 0, [], rfl, rfl, rfl, Nat.le_refl _⟩⟩ (fun w1 hw => .inl ((hb.st (.inr (by simp)) hw).slice (sz := 1) (i := 0) (j := 64 * N) (by simp [hbl]) (by omega) (by omega))) (by simp [hbl]; omega) (fun y hy => one_u8 bs y (List.mem_of_mem_drop (List.mem_of_mem_take hy))) (by omega) (by omega) rfl (fun v1 lp1 hv1 => ?_)
  rw [Nat.zero_add, List.nil_append, Nat.zero_mul, List.drop_zero, Nat.mul_one, Nat.sub_zero, ← List.map_take] at hv1
  refine J.assign rfl rfl ?_
  refine J.nil ?_
  refine JX.thenN (hK2 _ _ ?_)
  refine JC.ret ?_
  refine JX.ret1 rfl rfl (fun w hw => ?_)
  exact ⟨(v1, lp1), rfl, hv1, hw.drop (by simp)⟩

theorem pair_spec (a : Option Addr) (m c n : Nat) (bs : List UInt8) (w : World) (hb : Row w (.slice a m c) m (bs.map u8)) (hbl : bs.length = m) (hm : m = 64 * n) (hn : n ≤ 4096) :
    Calls Try.prog 34 [.slice a m c].toArray w fun r w' => ∃ x : Nat × Nat × Nat × Value × List (Nat × Obj), r = .returned (.tuple #[.pointer (some ⟨x.1, 0, none⟩), .pointer (some ⟨x.2.2.1, 0, none⟩)]) ∧ Vec 5 1 x.2.2.2.1 (64 * n) (bs.map u8) x.2.2.2.2 ∧ St w [] ((x.1, dkO x.2.1 n (-1) 0) :: (x.2.1, dkS bs) :: (x.2.2.1, rfO x.2.2.2.1 (-1) 0) :: x.2.2.2.2) w' := by
  subst hm
  refine calls_of_J (args := [.slice a (64 * n) c]) (e := [(0, .slice a (64 * n) c)]) Try.func34 rfl rfl ⟨rfl, trivial⟩ (St.start w) ?_
  refine JC.seq (fun K0 hK0 => ?_)
  refine JC.region ?_
  refine J.assign rfl rfl ?_
  refine J.assign rfl rfl ?_
  refine J.nil ?_
  refine JX.thenN (hK0 _ _ ?_)
  refine JC.seq (fun K1 hK1 => ?_)
  refine JC.region ?_
  refine J.move rfl rfl ?_
  refine J.callS (l1 := []) Ty.bd25 rfl rfl (fun w1 hw => of_spec a (64 * n) c n bs w1 (hb.st (.inr (by simp)) hw) hbl rfl hn) (fun y _ => ?_)
  obtain ⟨d, s⟩ := y
  simp only
  refine J.move rfl rfl ?_
  refine J.extract rfl rfl rfl ?_
  refine J.extract rfl rfl rfl ?_
  refine J.assign rfl rfl ?_
  refine J.assign rfl rfl ?_
  refine J.nil ?_
  refine JX.thenN (hK1 _ _ ?_)
  refine JC.seq (fun K2 hK2 => ?_)
  refine JC.region ?_
  refine J.move rfl rfl ?_
  refine J.buildSl Ty.el28 Ty.s5 Ty.z5 rfl rfl rfl rfl rfl rfl rfl (fun b12 => ?_)
  refine J.move rfl rfl ?_
  refine J.append (lp := [(b12, cb [] 5)]) (xs := []) (ys := bs.map u8) (k := 0) (m := 64 * n) Ty.el28 Ty.s5 Ty.b5 Ty.z5 rfl (.inl ⟨5, Ty.u28⟩) rfl rfl ⟨rfl, .inr ⟨b12, 0, [], rfl, rfl, rfl, Nat.le_refl _⟩⟩ (fun w1 hw => .inl (hb.st (.inr (by simp)) hw)) (by simp [hbl]) (one_u8 _) (by omega) (by omega) rfl (fun v1 lp1 hv1 => ?_)
  rw [Nat.zero_add, List.nil_append] at hv1
  obtain ⟨a1, c1, rfl, hc1⟩ := hv1.form
  refine J.buildS Ty.pl35 Ty.z35 rfl rfl rfl ?_
  refine J.box rfl rfl rfl (fun b16 => ?_)
  refine J.assign rfl rfl ?_
  refine J.assign rfl rfl ?_
  refine J.nil ?_
  refine JX.thenN (hK2 _ _ ?_)
  refine JC.ret ?_
  refine JX.ret2 rfl rfl rfl (fun w hw => ?_)
  have hw2 : St _ [] ((b16, rfO (.slice a1 (64 * n) c1) (-1) 0) :: (lp1 ++ [(d, dkO s n (-1) 0), (s, dkS bs)])) w := hw
  exact ⟨(d, s, b16, _, lp1), rfl, hv1, hw2.perm (by (refine perm_cnt (fun _ => ?_)); simp only [cntB_append, cntB_cons, cntB_nil, Nat.add_zero, Nat.zero_add]; try ac_rfl)⟩


def fa1 : Int × LogP × Bool × DS := appendP 5 ⟨0, 0, 0, []⟩ false ⟨List.replicate 320 0, -1, 0⟩ [97, 98, 99]
def fa2 : Int × LogP × Bool × DS := appendP 5 fa1.2.1 fa1.2.2.1 fa1.2.2.2 (List.replicate 63 0)
def fa3 : Int × LogP × Bool × DS := appendP 5 fa2.2.1 fa2.2.2.1 fa2.2.2.2 []
theorem fa1_facts : fa1.1 = 0 ∧ fa1.2.1.gen = 1 ∧ fa1.2.1.used = 1 ∧ fa1.2.1.cnt = 1 ∧ fa1.2.2.1 = false ∧ fa1.2.2.2.B.length = 320 ∧ 0 ≤ fa1.2.2.2.k ∧ fa1.2.2.2.k < 10 ∧ fa1.2.2.2.p = -1 := by decide +kernel
theorem fa1_sec1 : (sec fa1.2.2.2.B 1)[7]? = some 1 ∧ (sec fa1.2.2.2.B 1)[15]? = some 1 ∧ (sec fa1.2.2.2.B 1)[23]? = some 1 ∧ (sec fa1.2.2.2.B 2).take 5 = [0, 3, 97, 98, 99] := by decide +kernel
theorem fa2_facts : fa2.1 = 0 ∧ fa2.2.1.gen = 2 ∧ fa2.2.1.used ≤ 3 ∧ fa2.2.1.cnt ≤ fa2.2.1.used ∧ fa2.2.2.1 = false ∧ fa2.2.2.2.B.length = 320 ∧ 0 ≤ fa2.2.2.2.k ∧ fa2.2.2.2.k < 10 ∧ fa2.2.2.2.p = -1 := by decide +kernel
theorem fa3_facts : fa3.1 = 5 ∧ fa3.2.2.1 = false := by decide +kernel
theorem fopen : openP (List.replicate 320 0) 5 = (0, some ⟨0, 0, 0, []⟩) := by rfl

theorem fixed_open (d s : Nat) (w : World) (hw0 : Own w [(d, dkO s 5 (-1) 0), (s, dkS (List.replicate 320 0))]) : Calls Try.prog 26 [.pointer (some ⟨d, 0, none⟩)].toArray w fun r w' => ∃ x : Nat × Option Addr × Nat × List (Nat × Obj), r = .returned (.tuple #[.pointer (some ⟨x.1, 0, none⟩), .slice x.2.1 0 x.2.2.1, .int .i64 0]) ∧ True ∧ St w [] ((x.1, lgO d ⟨0, 0, 0, []⟩ false) :: x.2.2.2) w' := by
  refine (open_spec d s 5 (List.replicate 320 0) (-1) 0 w hw0 (by simp) (by omega)).mono fun r w2 h => ?_
  rw [fopen] at h
  obtain ⟨b, v, vs, lv, lps, h1, h2, h3, h4⟩ := h
  obtain ⟨a, c, rfl, _⟩ := h2.form
  exact ⟨(b, a, c, lv ++ lps), h1, trivial, h4⟩

theorem at_u8' {ys : List UInt8} {sp : List Value} {j : Nat} {x : UInt8} (h : ys[j]? = some x) : (ys.map u8 ++ sp)[0 + (j : Int).toNat * 1]? = some (u8 x) := by
  have hj := (List.getElem?_eq_some_iff.1 h).1
  rw [at_u8 hj]
  have := (List.getElem?_eq_some_iff.1 h).2
  rw [this]

theorem fixed6 (w : World) :
    Calls Try.prog 27 [].toArray w fun r w' => r = .returned (.bool true) ∧ Below w.heap.size w w' := by
  refine calls_of_J (args := []) (e := []) Try.func27 rfl rfl trivial (St.start w) ?_
  refine JC.seq (fun K0 hK0 => ?_)
  refine JC.region ?_
  refine J.assign rfl rfl ?_
  refine J.nil ?_
  refine JX.thenN (hK0 _ _ ?_)
  refine JC.seq (fun K1 hK1 => ?_)
  refine JC.region ?_
  refine J.callS (l1 := []) Ty.bd14 rfl rfl (fun w1 hw => new_spec _ w1) (fun x _ => ?_)
  obtain ⟨d, s⟩ := x
  simp only [List.append_nil, show (min (max (5 : Int) 0) 4096).toNat = 5 from rfl]
  refine J.assign rfl rfl ?_
  refine J.nil ?_
  refine JX.thenN (hK1 _ _ ?_)
  refine JC.seq (fun K2 hK2 => ?_)
  refine JC.region ?_
  refine J.move rfl rfl ?_
  refine J.perm ([] ++ [(d, dkO s 5 (-1) 0), (s, dkS (List.replicate 320 0))]) (.refl _) ?_
  refine J.callS (l1 := []) Ty.bd26 rfl rfl (fun w1 hw => fixed_open d s w1 hw.owns') (fun x _ => ?_)
  obtain ⟨lb, a0, c0, lx⟩ := x
  simp only
  refine J.perm ((lb, lgO d ⟨0, 0, 0, []⟩ false) :: ([(d, dkO s 5 (-1) 0), (s, dkS (List.replicate 320 0))] ++ lx)) (by (refine perm_cnt (fun _ => ?_)); simp only [cntB_append, cntB_cons, cntB_nil, Nat.add_zero, Nat.zero_add]; try ac_rfl) ?_
  refine J.move rfl rfl ?_
  refine J.extract rfl rfl rfl ?_
  refine J.extract rfl rfl rfl ?_
  refine J.extract rfl rfl rfl ?_
  refine J.assign rfl rfl ?_
  refine J.assign rfl rfl ?_
  refine J.assign rfl rfl ?_
  refine J.nil ?_
  refine JX.thenN (hK2 _ _ ?_)
  refine JC.seq (fun K3 hK3 => ?_)
  refine JC.seq (fun K4 hK4 => ?_)
  refine JC.region ?_
  refine J.move rfl rfl ?_
  refine J.eqNil Ty.u23 rfl rfl rfl ?_
  refine J.move rfl rfl ?_
  first
    | (refine J.skip rfl rfl rfl rfl rfl ?_)
    | (refine J.skipU rfl rfl rfl rfl ?_)
    | (refine J.unguard rfl rfl rfl ?_; refine J.move rfl rfl ?_)
  first
    | (refine J.skip rfl rfl rfl rfl rfl ?_)
    | (refine J.skipU rfl rfl rfl rfl ?_)
    | (refine J.unguard rfl rfl rfl ?_; refine J.eqNil Ty.u48 rfl rfl rfl ?_)
  (first | refine J.pickT rfl rfl rfl ?_ | refine J.pickF rfl rfl rfl ?_)
  refine J.move rfl rfl ?_
  first
    | (refine J.skip rfl rfl rfl rfl rfl ?_)
    | (refine J.skipU rfl rfl rfl rfl ?_)
    | (refine J.unguard rfl rfl rfl ?_; refine J.move rfl rfl ?_)
  first
    | (refine J.skip rfl rfl rfl rfl rfl ?_)
    | (refine J.skipU rfl rfl rfl rfl ?_)
    | (refine J.unguard rfl rfl rfl ?_; refine J.bin rfl rfl rfl rfl ?_)
  (first | refine J.pickT rfl rfl rfl ?_ | refine J.pickF rfl rfl rfl ?_)
  refine J.move rfl rfl ?_
  first
    | (refine J.skip rfl rfl rfl rfl rfl ?_)
    | (refine J.skipU rfl rfl rfl rfl ?_)
    | (refine J.unguard rfl rfl rfl ?_; refine J.move rfl rfl ?_)
  first
    | (refine J.skip rfl rfl rfl rfl rfl ?_)
    | (refine J.skipU rfl rfl rfl rfl ?_)
    | (refine J.unguard rfl rfl rfl ?_; refine J.lenS rfl Ty.u47 rfl rfl ?_)
  first
    | (refine J.skip rfl rfl rfl rfl rfl ?_)
    | (refine J.skipU rfl rfl rfl rfl ?_)
    | (refine J.unguard rfl rfl rfl ?_; refine J.bin rfl rfl rfl rfl ?_)
  (first | refine J.pickT rfl rfl rfl ?_ | refine J.pickF rfl rfl rfl ?_)
  refine J.move rfl rfl ?_
  first
    | (refine J.skip rfl rfl rfl rfl rfl ?_)
    | (refine J.skipU rfl rfl rfl rfl ?_)
    | (refine J.unguard rfl rfl rfl ?_; refine J.move rfl rfl ?_)
  refine J.unguard rfl rfl rfl ?_
  refine J.buildSl Ty.el28 Ty.s5 Ty.z5 rfl rfl rfl rfl rfl rfl rfl (fun b33 => ?_)
  refine J.perm ((b33, cb [u8 97, u8 98, u8 99] 5) :: (lb, lgO d ⟨0, 0, 0, []⟩ false) :: ([(d, dkO s 5 (-1) 0), (s, dkS (List.replicate 320 0))] ++ lx)) (.refl _) ?_
  refine J.unguard rfl rfl rfl ?_
  refine J.convBytes Ty.u28 Ty.u5 rfl .here rfl ?_
  refine J.perm ([(lb, lgO d ⟨0, 0, 0, []⟩ false), (d, dkO s 5 (-1) 0), (s, dkS (List.replicate 320 0))] ++ ((b33, Obj.cells [u8 97, u8 98, u8 99].toArray 5 (3, 4)) :: lx)) (by (refine perm_cnt (fun _ => ?_)); simp only [cntB_append, cntB_cons, cntB_nil, Nat.add_zero, Nat.zero_add]; try ac_rfl) ?_
  refine J.unguard rfl rfl rfl ?_
  refine J.callT (l1 := [(lb, lgO d ⟨0, 0, 0, []⟩ false), (d, dkO s 5 (-1) 0), (s, dkS (List.replicate 320 0))]) (L := [(lb, lgO d fa1.2.1 fa1.2.2.1), (d, dkO s 5 fa1.2.2.2.p fa1.2.2.2.k), (s, dkS fa1.2.2.2.B)]) Ty.bd28 rfl rfl (fun w1 hw => append_all lb d s 5 _ _ _ [97, 98, 99] _ _ (some ⟨b33, 0, none⟩) 3 3 w1 hw.owns (by simp) (by omega) (by omega) (by simp) (by simp) (by simp) (by omega) (by omega) (by omega) rfl (by omega) (Row.own (cs := [u8 97, u8 98, u8 99]) (tb := 5) (fr := (3, 4)) hw (List.mem_append_right _ (.head _)) rfl (Nat.le_refl _)) (Off.mk (hw.off (.head _))) (show _ = fa1 from rfl)) ?_
  obtain ⟨h10, h11, h12, h13, h14, h15, h16, h17, h18⟩ := fa1_facts
  rw [h10]
  first
    | (refine J.skip rfl rfl rfl rfl rfl ?_)
    | (refine J.skipU rfl rfl rfl rfl ?_)
    | (refine J.unguard rfl rfl rfl ?_; refine J.bin rfl rfl rfl rfl ?_)
  (first | refine J.pickT rfl rfl rfl ?_ | refine J.pickF rfl rfl rfl ?_)
  refine J.move rfl rfl ?_
  first
    | (refine J.skip rfl rfl rfl rfl rfl ?_)
    | (refine J.skipU rfl rfl rfl rfl ?_)
    | (refine J.unguard rfl rfl rfl ?_; refine J.move rfl rfl ?_)
  refine J.unguard rfl rfl rfl ?_
  refine J.callB (fun w1 w2 hw hb => hw.step hb) Ty.bd29 rfl rfl (fun w1 hw => h13 ▸ len_spec lb d _ _ w1 hw.owns') ?_
  first
    | (refine J.skip rfl rfl rfl rfl rfl ?_)
    | (refine J.skipU rfl rfl rfl rfl ?_)
    | (refine J.unguard rfl rfl rfl ?_; refine J.bin rfl rfl rfl rfl ?_)
  (first | refine J.pickT rfl rfl rfl ?_ | refine J.pickF rfl rfl rfl ?_)
  refine J.move rfl rfl ?_
  first
    | (refine J.skip rfl rfl rfl rfl rfl ?_)
    | (refine J.skipU rfl rfl rfl rfl ?_)
    | (refine J.unguard rfl rfl rfl ?_; refine J.move rfl rfl ?_)
  refine J.unguard rfl rfl rfl ?_
  refine J.callB (fun w1 w2 hw hb => hw.step hb) Ty.bd31 rfl rfl (fun w1 hw => h12 ▸ room_spec lb d s 5 _ _ _ _ w1 hw.owns' (by omega) (by omega)) ?_
  first
    | (refine J.skip rfl rfl rfl rfl rfl ?_)
    | (refine J.skipU rfl rfl rfl rfl ?_)
    | (refine J.unguard rfl rfl rfl ?_; refine J.bin rfl rfl rfl rfl ?_)
  (first | refine J.pickT rfl rfl rfl ?_ | refine J.pickF rfl rfl rfl ?_)
  refine J.nil ?_
  refine JX.thenN (hK4 _ _ ?_)
  first | refine JC.condF rfl ?_ | refine JC.cond rfl (fun h => by first | (exfalso; simp at h; omega) | (simp at h)) (fun _ => ?_)
  refine JC.skip ?_
  refine JX.thenN (hK3 _ _ ?_)
  refine JC.seq (fun K5 hK5 => ?_)
  refine JC.region ?_
  refine J.move rfl rfl ?_
  refine J.perm ([] ++ ((lb, lgO d fa1.2.1 fa1.2.2.1) :: (d, dkO s 5 fa1.2.2.2.p fa1.2.2.2.k) :: (s, dkS fa1.2.2.2.B) :: ((b33, Obj.cells [u8 97, u8 98, u8 99].toArray 5 (3, 4)) :: lx))) (by (refine perm_cnt (fun _ => ?_)); simp only [cntB_append, cntB_cons, cntB_nil, Nat.add_zero, Nat.zero_add]; try ac_rfl) ?_
  refine J.callS (l1 := []) (l := (lb, lgO d fa1.2.1 fa1.2.2.1) :: (d, dkO s 5 fa1.2.2.2.p fa1.2.2.2.k) :: (s, dkS fa1.2.2.2.B) :: ((b33, Obj.cells [u8 97, u8 98, u8 99].toArray 5 (3, 4)) :: lx)) Ty.bd20 rfl rfl (fun w1 hw => (read_spec d s 5 fa1.2.2.2.B fa1.2.2.2.p fa1.2.2.2.k 1 w1 (St.owns (l1 := [(d, dkO s 5 fa1.2.2.2.p fa1.2.2.2.k), (s, dkS fa1.2.2.2.B)]) (l := (lb, lgO d fa1.2.1 fa1.2.2.1) :: ((b33, Obj.cells [u8 97, u8 98, u8 99].toArray 5 (3, 4)) :: lx)) (hw.perm (by (refine perm_cnt (fun _ => ?_)); simp only [cntB_append, cntB_cons, cntB_nil, Nat.add_zero, Nat.zero_add]; try ac_rfl))) (by omega) (by omega) (by omega)).mono fun _ w2 ⟨x, e1, e2, e3⟩ => ⟨x, e1, e2, St.free (St.owns (l1 := [(d, dkO s 5 fa1.2.2.2.p fa1.2.2.2.k), (s, dkS fa1.2.2.2.B)]) (l := (lb, lgO d fa1.2.1 fa1.2.2.1) :: ((b33, Obj.cells [u8 97, u8 98, u8 99].toArray 5 (3, 4)) :: lx)) (hw.perm (by (refine perm_cnt (fun _ => ?_)); simp only [cntB_append, cntB_cons, cntB_nil, Nat.add_zero, Nat.zero_add]; try ac_rfl))) e3⟩) (fun x hv50 => ?_)
  obtain ⟨v50, lp50⟩ := x
  simp only at hv50 ⊢
  obtain ⟨a50, c50, rfl, _⟩ := hv50.form
  obtain ⟨q50, sp50, hq50, rfl, _, _⟩ := hv50.at (j := 0) (by omega)
  subst hq50
  rw [show (1 : Int).toNat = 1 from rfl] at hv50 ⊢
  refine J.perm ((q50, cb ((sec fa1.2.2.2.B 1).map u8 ++ sp50) 5) :: (lb, lgO d fa1.2.1 fa1.2.2.1) :: (d, dkO s 5 fa1.2.2.2.p fa1.2.2.2.k) :: (s, dkS fa1.2.2.2.B) :: ((b33, Obj.cells [u8 97, u8 98, u8 99].toArray 5 (3, 4)) :: lx)) (.refl _) ?_
  refine J.move rfl rfl ?_
  refine J.extract rfl rfl rfl ?_
  refine J.extract rfl rfl rfl ?_
  refine J.assign rfl rfl ?_
  refine J.assign rfl rfl ?_
  refine J.nil ?_
  refine JX.thenN (hK5 _ _ ?_)
  refine JC.seq (fun K6 hK6 => ?_)
  refine JC.region ?_
  refine J.move rfl rfl ?_
  refine J.perm ([] ++ ((q50, cb ((sec fa1.2.2.2.B 1).map u8 ++ sp50) 5) :: (lb, lgO d fa1.2.1 fa1.2.2.1) :: (d, dkO s 5 fa1.2.2.2.p fa1.2.2.2.k) :: (s, dkS fa1.2.2.2.B) :: ((b33, Obj.cells [u8 97, u8 98, u8 99].toArray 5 (3, 4)) :: lx))) (by (refine perm_cnt (fun _ => ?_)); simp only [cntB_append, cntB_cons, cntB_nil, Nat.add_zero, Nat.zero_add]; try ac_rfl) ?_
  refine J.callS (l1 := []) (l := (q50, cb ((sec fa1.2.2.2.B 1).map u8 ++ sp50) 5) :: (lb, lgO d fa1.2.1 fa1.2.2.1) :: (d, dkO s 5 fa1.2.2.2.p fa1.2.2.2.k) :: (s, dkS fa1.2.2.2.B) :: ((b33, Obj.cells [u8 97, u8 98, u8 99].toArray 5 (3, 4)) :: lx)) Ty.bd20 rfl rfl (fun w1 hw => (read_spec d s 5 fa1.2.2.2.B fa1.2.2.2.p fa1.2.2.2.k 2 w1 (St.owns (l1 := [(d, dkO s 5 fa1.2.2.2.p fa1.2.2.2.k), (s, dkS fa1.2.2.2.B)]) (l := (q50, cb ((sec fa1.2.2.2.B 1).map u8 ++ sp50) 5) :: (lb, lgO d fa1.2.1 fa1.2.2.1) :: ((b33, Obj.cells [u8 97, u8 98, u8 99].toArray 5 (3, 4)) :: lx)) (hw.perm (by (refine perm_cnt (fun _ => ?_)); simp only [cntB_append, cntB_cons, cntB_nil, Nat.add_zero, Nat.zero_add]; try ac_rfl))) (by omega) (by omega) (by omega)).mono fun _ w2 ⟨x, e1, e2, e3⟩ => ⟨x, e1, e2, St.free (St.owns (l1 := [(d, dkO s 5 fa1.2.2.2.p fa1.2.2.2.k), (s, dkS fa1.2.2.2.B)]) (l := (q50, cb ((sec fa1.2.2.2.B 1).map u8 ++ sp50) 5) :: (lb, lgO d fa1.2.1 fa1.2.2.1) :: ((b33, Obj.cells [u8 97, u8 98, u8 99].toArray 5 (3, 4)) :: lx)) (hw.perm (by (refine perm_cnt (fun _ => ?_)); simp only [cntB_append, cntB_cons, cntB_nil, Nat.add_zero, Nat.zero_add]; try ac_rfl))) e3⟩) (fun x hv55 => ?_)
  obtain ⟨v55, lp55⟩ := x
  simp only at hv55 ⊢
  obtain ⟨a55, c55, rfl, _⟩ := hv55.form
  obtain ⟨q55, sp55, hq55, rfl, _, _⟩ := hv55.at (j := 0) (by omega)
  subst hq55
  rw [show (2 : Int).toNat = 2 from rfl] at hv55 ⊢
  refine J.perm ((q50, cb ((sec fa1.2.2.2.B 1).map u8 ++ sp50) 5) :: (q55, cb ((sec fa1.2.2.2.B 2).map u8 ++ sp55) 5) :: (lb, lgO d fa1.2.1 fa1.2.2.1) :: (d, dkO s 5 fa1.2.2.2.p fa1.2.2.2.k) :: (s, dkS fa1.2.2.2.B) :: ((b33, Obj.cells [u8 97, u8 98, u8 99].toArray 5 (3, 4)) :: lx)) (by (refine perm_cnt (fun _ => ?_)); simp only [cntB_append, cntB_cons, cntB_nil, Nat.add_zero, Nat.zero_add]; try ac_rfl) ?_
  obtain ⟨f7, f15, f23, f5⟩ := fa1_sec1
  refine J.move rfl rfl ?_
  refine J.extract rfl rfl rfl ?_
  refine J.extract rfl rfl rfl ?_
  refine J.assign rfl rfl ?_
  refine J.assign rfl rfl ?_
  refine J.nil ?_
  refine JX.thenN (hK6 _ _ ?_)
  refine JC.seq (fun K7 hK7 => ?_)
  refine JC.seq (fun K8 hK8 => ?_)
  refine JC.region ?_
  refine J.move rfl rfl ?_
  refine J.lenS rfl Ty.u28 rfl rfl ?_
  refine J.bin rfl rfl rfl rfl ?_
  refine J.move rfl rfl ?_
  first
    | (refine J.skip rfl rfl rfl rfl rfl ?_)
    | (refine J.skipU rfl rfl rfl rfl ?_)
    | (refine J.unguard rfl rfl rfl ?_; refine J.move rfl rfl ?_)
  first
    | (refine J.skip rfl rfl rfl rfl rfl ?_)
    | (refine J.skipU rfl rfl rfl rfl ?_)
    | (refine J.unguard rfl rfl rfl ?_; refine J.lenS rfl Ty.u28 rfl rfl ?_)
  first
    | (refine J.skip rfl rfl rfl rfl rfl ?_)
    | (refine J.skipU rfl rfl rfl rfl ?_)
    | (refine J.unguard rfl rfl rfl ?_; refine J.bin rfl rfl rfl rfl ?_)
  (first | refine J.pickT rfl rfl rfl ?_ | refine J.pickF rfl rfl rfl ?_)
  refine J.move rfl rfl ?_
  first
    | (refine J.skip rfl rfl rfl rfl rfl ?_)
    | (refine J.skipU rfl rfl rfl rfl ?_)
    | (refine J.unguard rfl rfl rfl ?_; refine J.move rfl rfl ?_)
  first
    | (refine J.skip rfl rfl rfl rfl rfl ?_)
    | (refine J.skipU rfl rfl rfl rfl ?_)
    | (refine J.unguard rfl rfl rfl ?_; refine J.indexAddrS Ty.el28 Ty.s5 rfl rfl (by omega) (by omega) rfl ?_)
  refine J.unguard rfl rfl rfl ?_
  refine J.loadO (v := u8 1) Ty.a5 rfl (.head _) (at_u8' (j := 7) f7) rfl ?_
  first
    | (refine J.skip rfl rfl rfl rfl rfl ?_)
    | (refine J.skipU rfl rfl rfl rfl ?_)
    | (refine J.unguard rfl rfl rfl ?_; refine J.bin rfl rfl rfl rfl ?_)
  (first | refine J.pickT rfl rfl rfl ?_ | refine J.pickF rfl rfl rfl ?_)
  refine J.move rfl rfl ?_
  first
    | (refine J.skip rfl rfl rfl rfl rfl ?_)
    | (refine J.skipU rfl rfl rfl rfl ?_)
    | (refine J.unguard rfl rfl rfl ?_; refine J.move rfl rfl ?_)
  first
    | (refine J.skip rfl rfl rfl rfl rfl ?_)
    | (refine J.skipU rfl rfl rfl rfl ?_)
    | (refine J.unguard rfl rfl rfl ?_; refine J.indexAddrS Ty.el28 Ty.s5 rfl rfl (by omega) (by omega) rfl ?_)
  refine J.unguard rfl rfl rfl ?_
  refine J.loadO (v := u8 1) Ty.a5 rfl (.head _) (at_u8' (j := 15) f15) rfl ?_
  first
    | (refine J.skip rfl rfl rfl rfl rfl ?_)
    | (refine J.skipU rfl rfl rfl rfl ?_)
    | (refine J.unguard rfl rfl rfl ?_; refine J.bin rfl rfl rfl rfl ?_)
  (first | refine J.pickT rfl rfl rfl ?_ | refine J.pickF rfl rfl rfl ?_)
  refine J.move rfl rfl ?_
  first
    | (refine J.skip rfl rfl rfl rfl rfl ?_)
    | (refine J.skipU rfl rfl rfl rfl ?_)
    | (refine J.unguard rfl rfl rfl ?_; refine J.move rfl rfl ?_)
  first
    | (refine J.skip rfl rfl rfl rfl rfl ?_)
    | (refine J.skipU rfl rfl rfl rfl ?_)
    | (refine J.unguard rfl rfl rfl ?_; refine J.indexAddrS Ty.el28 Ty.s5 rfl rfl (by omega) (by omega) rfl ?_)
  refine J.unguard rfl rfl rfl ?_
  refine J.loadO (v := u8 1) Ty.a5 rfl (.head _) (at_u8' (j := 23) f23) rfl ?_
  first
    | (refine J.skip rfl rfl rfl rfl rfl ?_)
    | (refine J.skipU rfl rfl rfl rfl ?_)
    | (refine J.unguard rfl rfl rfl ?_; refine J.bin rfl rfl rfl rfl ?_)
  (first | refine J.pickT rfl rfl rfl ?_ | refine J.pickF rfl rfl rfl ?_)
  refine J.move rfl rfl ?_
  first
    | (refine J.skip rfl rfl rfl rfl rfl ?_)
    | (refine J.skipU rfl rfl rfl rfl ?_)
    | (refine J.unguard rfl rfl rfl ?_; refine J.move rfl rfl ?_)
  refine J.unguard rfl rfl rfl ?_
  refine J.sliceS (i := 0) (j := 5) Ty.el28 Ty.s5 rfl rfl rfl rfl (by simp [bnd]) (by omega) (by omega) (by omega) rfl ?_
  refine J.unguard rfl rfl rfl ?_
  refine J.toStr (m := 5 - 0) (bs := [0, 3, 97, 98, 99]) Ty.el28 Ty.u5 Ty.u9 rfl (fun w1 hw => by
    have h1 := (hv55.row (l := (q50, cb ((sec fa1.2.2.2.B 1).map u8 ++ sp50) 5) :: (lb, lgO d fa1.2.1 fa1.2.2.1) :: (d, dkO s 5 fa1.2.2.2.p fa1.2.2.2.k) :: (s, dkS fa1.2.2.2.B) :: ((b33, Obj.cells [u8 97, u8 98, u8 99].toArray 5 (3, 4)) :: lx)) (hw.perm (by (refine perm_cnt (fun _ => ?_)); simp only [cntB_append, cntB_cons, cntB_nil, Nat.add_zero, Nat.zero_add]; try ac_rfl))).slice (sz := 1) (i := 0) (j := 5) (by rw [List.length_map, sec_len64 (by omega)]) (by omega) (by omega)
    rw [show List.take ((5 - 0) * 1) (List.drop (0 * 1) ((sec fa1.2.2.2.B 2).map u8)) = ([0, 3, 97, 98, 99] : List UInt8).map u8 from by rw [← f5, List.map_take]; rfl] at h1
    exact h1) rfl rfl ?_
  refine J.unguard rfl rfl rfl ?_
  refine J.strNe (xs := [0, 3, 97, 98, 99]) (ys := [0, 3, 97, 98, 99]) rfl rfl rfl ?_
  (first | refine J.pickT rfl rfl rfl ?_ | refine J.pickF rfl rfl rfl ?_)
  refine J.nil ?_
  refine JX.thenN (hK8 _ _ ?_)
  first | refine JC.condF rfl ?_ | refine JC.cond rfl (fun h => by first | (exfalso; simp at h; omega) | (simp at h)) (fun _ => ?_)
  refine JC.skip ?_
  refine JX.thenN (hK7 _ _ ?_)
  refine JC.seq (fun K9 hK9 => ?_)
  refine JC.region ?_
  refine J.move rfl rfl ?_
  refine J.make Ty.el28 Ty.s5 Ty.b5 Ty.z5 rfl rfl rfl rfl (by omega) (by omega) (by omega) rfl (fun b91 => ?_)
  refine J.perm ((b91, cb ((List.replicate 63 (0 : UInt8)).map u8) 5) :: (q50, cb ((sec fa1.2.2.2.B 1).map u8 ++ sp50) 5) :: (q55, cb ((sec fa1.2.2.2.B 2).map u8 ++ sp55) 5) :: (lb, lgO d fa1.2.1 fa1.2.2.1) :: (d, dkO s 5 fa1.2.2.2.p fa1.2.2.2.k) :: (s, dkS fa1.2.2.2.B) :: ((b33, Obj.cells [u8 97, u8 98, u8 99].toArray 5 (3, 4)) :: lx)) (by exact .refl _) ?_
  refine J.perm ([(lb, lgO d fa1.2.1 fa1.2.2.1), (d, dkO s 5 fa1.2.2.2.p fa1.2.2.2.k), (s, dkS fa1.2.2.2.B)] ++ ((b91, cb ((List.replicate 63 (0 : UInt8)).map u8) 5) :: ((q50, cb ((sec fa1.2.2.2.B 1).map u8 ++ sp50) 5) :: (q55, cb ((sec fa1.2.2.2.B 2).map u8 ++ sp55) 5) :: ((b33, Obj.cells [u8 97, u8 98, u8 99].toArray 5 (3, 4)) :: lx)))) (by (refine perm_cnt (fun _ => ?_)); simp only [cntB_append, cntB_cons, cntB_nil, Nat.add_zero, Nat.zero_add]; try ac_rfl) ?_
  refine J.callT (l1 := [(lb, lgO d fa1.2.1 fa1.2.2.1), (d, dkO s 5 fa1.2.2.2.p fa1.2.2.2.k), (s, dkS fa1.2.2.2.B)]) (L := [(lb, lgO d fa2.2.1 fa2.2.2.1), (d, dkO s 5 fa2.2.2.2.p fa2.2.2.2.k), (s, dkS fa2.2.2.2.B)]) Ty.bd28 rfl rfl (fun w1 hw => append_all lb d s 5 _ _ _ (List.replicate 63 0) _ _ (some ⟨b91, 0, none⟩) 63 63 w1 hw.owns h15 (by omega) (by omega) (by omega) (by omega) (by omega) h16 (by omega) (by omega) (by simp) (by omega) (Row.own (cs := (List.replicate 63 (0 : UInt8)).map u8) (tb := 5) (fr := (0, 0)) hw (List.mem_append_right _ (.head _)) (by simp) (Nat.le_refl _)) (Off.mk (hw.off (.head _))) (show _ = fa2 from rfl)) ?_
  obtain ⟨h20, h21, h22, h23, h24, h25, h26, h27, h28⟩ := fa2_facts
  rw [h20]
  refine J.bin rfl rfl rfl rfl ?_
  refine J.move rfl rfl ?_
  first
    | (refine J.skip rfl rfl rfl rfl rfl ?_)
    | (refine J.skipU rfl rfl rfl rfl ?_)
    | (refine J.unguard rfl rfl rfl ?_; refine J.move rfl rfl ?_)
  refine J.unguard rfl rfl rfl ?_
  refine J.callT (l1 := [(lb, lgO d fa2.2.1 fa2.2.2.1), (d, dkO s 5 fa2.2.2.2.p fa2.2.2.2.k), (s, dkS fa2.2.2.2.B)]) (L := [(lb, lgO d fa3.2.1 fa3.2.2.1), (d, dkO s 5 fa3.2.2.2.p fa3.2.2.2.k), (s, dkS fa3.2.2.2.B)]) Ty.bd28 rfl rfl (fun w1 hw => append_all lb d s 5 _ _ _ [] _ _ none 0 0 w1 hw.owns h25 (by omega) (by omega) (by omega) (by omega) (by omega) h26 (by omega) (by omega) rfl (by omega) ⟨none, 0, rfl, Nat.le_refl _, .inl rfl⟩ (.inl rfl) (show _ = fa3 from rfl)) ?_
  obtain ⟨h30, h31⟩ := fa3_facts
  rw [h30]
  first
    | (refine J.skip rfl rfl rfl rfl rfl ?_)
    | (refine J.skipU rfl rfl rfl rfl ?_)
    | (refine J.unguard rfl rfl rfl ?_; refine J.bin rfl rfl rfl rfl ?_)
  (first | refine J.pickT rfl rfl rfl ?_ | refine J.pickF rfl rfl rfl ?_)
  refine J.move rfl rfl ?_
  first
    | (refine J.skip rfl rfl rfl rfl rfl ?_)
    | (refine J.skipU rfl rfl rfl rfl ?_)
    | (refine J.unguard rfl rfl rfl ?_; refine J.move rfl rfl ?_)
  refine J.unguard rfl rfl rfl ?_
  refine J.callB (fun w1 w2 hw hb => hw.step hb) Ty.bd32 rfl rfl (fun w1 hw => h31 ▸ down_spec lb d _ _ w1 hw.owns') ?_
  first
    | (refine J.skip rfl rfl rfl rfl rfl ?_)
    | (refine J.skipU rfl rfl rfl rfl ?_)
    | (refine J.unguard rfl rfl rfl ?_; refine J.not rfl rfl ?_)
  (first | refine J.pickT rfl rfl rfl ?_ | refine J.pickF rfl rfl rfl ?_)
  refine J.assign rfl rfl ?_
  refine J.nil ?_
  refine JX.thenN (hK9 _ _ ?_)
  refine JC.ret ?_
  refine JX.ret1 rfl rfl (fun w hw => ?_)
  exact ⟨rfl, hw.below⟩

end Go.Proofs.Ytlmbpfgiadbjaaa
