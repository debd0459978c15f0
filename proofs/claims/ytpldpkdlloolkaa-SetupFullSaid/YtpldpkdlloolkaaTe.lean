/-
  A table without room refuses every path: walk of the law SetupFull.
-/
import Derived.Test.YtpldpkdlloolkaaTx
import Derived.Test.YtpldpkdlloolkaaTd
namespace Go.Proofs.Ytpldpkdlloolkaa
open Go.J Go.RowKit
set_option linter.unusedVariables false
set_option linter.unusedSimpArgs false
set_option maxRecDepth 8000
theorem tadd_full {x0 x : EV} (h : rightP x) (hn : x0.p ≠ x.p) : tadd [x0] 1 x = (5, [x0]) := by
  unfold tadd
  rw [if_neg (by simpa using h), if_neg (by simp [tget, hn]), if_pos (by simp)]
theorem open6 {n : Int} (h1 : 1 ≤ n) (h2 : n ≤ 5) : openQ [true, true, true, true, true, true] n = true := by
  have : n = 1 ∨ n = 2 ∨ n = 3 ∨ n = 4 ∨ n = 5 := by omega
  rcases this with rfl | rfl | rfl | rfl | rfl <;> rfl
theorem row_two {w : World} {wb wo wc k : Nat} {n0 n1 : Int} {rest : List Int} (hr : Row w (.slice (some ⟨wb, wo, none⟩) k wc) k ((n0 :: n1 :: rest).map iV)) (hk : k = rest.length + 2) : Row w (.slice (some ⟨wb, wo, none⟩) 2 wc) 2 ([n0, n1].map iV) := by
  have h := Row.slice (i := 0) (j := 2) (sz := 1) hr (by simp; omega) (by omega) (by omega)
  have hc := hr.cap
  rw [if_neg (by omega)] at h
  simpa [Addr.add] using h

theorem full1 (w : World) (p q : PV) (hkp : okN p.n) (hkq : okN q.n) (v : Value) (h1 : p = q) :
    Calls Try.prog 3 [.agg (cP p).toArray, .agg (cP q).toArray, v].toArray w fun r w' => r = .returned (.bool true) ∧ Below w.heap.size w w' := by
  refine calls_of_J (args := [.agg (cP p).toArray, .agg (cP q).toArray, v]) (e := [(0, .agg (cP p).toArray), (1, .agg (cP q).toArray), (2, v)]) Try.func3 rfl rfl ⟨rfl, rfl, rfl, trivial⟩ (St.start w) ?_
  refine JC.seq (fun K0 hK0 => ?_)
  refine JC.region ?_
  refine J.box rfl rfl rfl (fun b3 => ?_)
  refine J.box rfl rfl rfl (fun b4 => ?_)
  refine J.assign rfl rfl ?_
  refine J.nil ?_
  refine JX.thenN (hK0 _ _ ?_)
  refine JC.seq (fun K1 hK1 => ?_)
  refine JC.seq (fun K2 hK2 => ?_)
  refine JC.region ?_
  (first | refine J.loadOA Ty.a25 Ty.s25 rfl (.head _) rfl rfl rfl ?_ | refine J.loadOA Ty.a25 Ty.s25 rfl (.tail _ (.head _)) rfl rfl rfl ?_ | refine J.loadOA Ty.a25 Ty.s25 rfl (.tail _ (.tail _ (.head _))) rfl rfl rfl ?_ | refine J.loadOA Ty.a25 Ty.s25 rfl (.tail _ (.tail _ (.tail _ (.head _)))) rfl rfl rfl ?_ | refine J.loadOA Ty.a25 Ty.s25 rfl (.tail _ (.tail _ (.tail _ (.tail _ (.head _))))) rfl rfl rfl ?_ | refine J.loadOA Ty.a25 Ty.s25 rfl (.tail _ (.tail _ (.tail _ (.tail _ (.tail _ (.head _)))))) rfl rfl rfl ?_ | refine J.loadOA Ty.a25 Ty.s25 rfl (.tail _ (.tail _ (.tail _ (.tail _ (.tail _ (.tail _ (.head _))))))) rfl rfl rfl ?_ | refine J.loadOA Ty.a25 Ty.s25 rfl (.tail _ (.tail _ (.tail _ (.tail _ (.tail _ (.tail _ (.tail _ (.head _)))))))) rfl rfl rfl ?_ | refine J.loadOA Ty.a25 Ty.s25 rfl (.tail _ (.tail _ (.tail _ (.tail _ (.tail _ (.tail _ (.tail _ (.tail _ (.head _))))))))) rfl rfl rfl ?_ | refine J.loadOA Ty.a25 Ty.s25 rfl (List.mem_append_right _ (.head _)) rfl rfl rfl ?_ | refine J.loadOA Ty.a25 Ty.s25 rfl (List.mem_append_right _ (.tail _ (.head _))) rfl rfl rfl ?_ | refine J.loadOA Ty.a25 Ty.s25 rfl (List.mem_append_right _ (.tail _ (.tail _ (.head _)))) rfl rfl rfl ?_ | refine J.loadOA Ty.a25 Ty.s25 rfl (List.mem_append_right _ (.tail _ (.tail _ (.tail _ (.head _))))) rfl rfl rfl ?_ | refine J.loadOA Ty.a25 Ty.s25 rfl (List.mem_append_right _ (.tail _ (.tail _ (.tail _ (.tail _ (.head _)))))) rfl rfl rfl ?_ | refine J.loadOA Ty.a25 Ty.s25 rfl (List.mem_append_right _ (.tail _ (.tail _ (.tail _ (.tail _ (.tail _ (.head _))))))) rfl rfl rfl ?_ | refine J.loadOA Ty.a25 Ty.s25 rfl (List.mem_append_right _ (.tail _ (.tail _ (.tail _ (.tail _ (.tail _ (.tail _ (.head _)))))))) rfl rfl rfl ?_ | refine J.loadOA Ty.a25 Ty.s25 rfl (List.mem_append_right _ (.tail _ (.tail _ (.tail _ (.tail _ (.tail _ (.tail _ (.tail _ (.head _))))))))) rfl rfl rfl ?_ | refine J.loadOA Ty.a25 Ty.s25 rfl (List.mem_append_right _ (.tail _ (.tail _ (.tail _ (.tail _ (.tail _ (.tail _ (.tail _ (.tail _ (.head _)))))))))) rfl rfl rfl ?_)
  (first | refine J.loadOA Ty.a25 Ty.s25 rfl (.head _) rfl rfl rfl ?_ | refine J.loadOA Ty.a25 Ty.s25 rfl (.tail _ (.head _)) rfl rfl rfl ?_ | refine J.loadOA Ty.a25 Ty.s25 rfl (.tail _ (.tail _ (.head _))) rfl rfl rfl ?_ | refine J.loadOA Ty.a25 Ty.s25 rfl (.tail _ (.tail _ (.tail _ (.head _)))) rfl rfl rfl ?_ | refine J.loadOA Ty.a25 Ty.s25 rfl (.tail _ (.tail _ (.tail _ (.tail _ (.head _))))) rfl rfl rfl ?_ | refine J.loadOA Ty.a25 Ty.s25 rfl (.tail _ (.tail _ (.tail _ (.tail _ (.tail _ (.head _)))))) rfl rfl rfl ?_ | refine J.loadOA Ty.a25 Ty.s25 rfl (.tail _ (.tail _ (.tail _ (.tail _ (.tail _ (.tail _ (.head _))))))) rfl rfl rfl ?_ | refine J.loadOA Ty.a25 Ty.s25 rfl (.tail _ (.tail _ (.tail _ (.tail _ (.tail _ (.tail _ (.tail _ (.head _)))))))) rfl rfl rfl ?_ | refine J.loadOA Ty.a25 Ty.s25 rfl (.tail _ (.tail _ (.tail _ (.tail _ (.tail _ (.tail _ (.tail _ (.tail _ (.head _))))))))) rfl rfl rfl ?_ | refine J.loadOA Ty.a25 Ty.s25 rfl (List.mem_append_right _ (.head _)) rfl rfl rfl ?_ | refine J.loadOA Ty.a25 Ty.s25 rfl (List.mem_append_right _ (.tail _ (.head _))) rfl rfl rfl ?_ | refine J.loadOA Ty.a25 Ty.s25 rfl (List.mem_append_right _ (.tail _ (.tail _ (.head _)))) rfl rfl rfl ?_ | refine J.loadOA Ty.a25 Ty.s25 rfl (List.mem_append_right _ (.tail _ (.tail _ (.tail _ (.head _))))) rfl rfl rfl ?_ | refine J.loadOA Ty.a25 Ty.s25 rfl (List.mem_append_right _ (.tail _ (.tail _ (.tail _ (.tail _ (.head _)))))) rfl rfl rfl ?_ | refine J.loadOA Ty.a25 Ty.s25 rfl (List.mem_append_right _ (.tail _ (.tail _ (.tail _ (.tail _ (.tail _ (.head _))))))) rfl rfl rfl ?_ | refine J.loadOA Ty.a25 Ty.s25 rfl (List.mem_append_right _ (.tail _ (.tail _ (.tail _ (.tail _ (.tail _ (.tail _ (.head _)))))))) rfl rfl rfl ?_ | refine J.loadOA Ty.a25 Ty.s25 rfl (List.mem_append_right _ (.tail _ (.tail _ (.tail _ (.tail _ (.tail _ (.tail _ (.tail _ (.head _))))))))) rfl rfl rfl ?_ | refine J.loadOA Ty.a25 Ty.s25 rfl (List.mem_append_right _ (.tail _ (.tail _ (.tail _ (.tail _ (.tail _ (.tail _ (.tail _ (.tail _ (.head _)))))))))) rfl rfl rfl ?_)
  refine J.eqP Ty.QP Ty.keyP rfl rfl hkp hkq rfl ?_
  refine J.name 14 rfl (show Value.bool _ = .bool true by simp [h1]) ?_
  refine J.move rfl rfl ?_
  first
    | (refine J.skip rfl rfl rfl rfl rfl ?_)
    | (refine J.skipU rfl rfl rfl rfl ?_)
    | (refine J.unguard rfl rfl rfl ?_; refine J.move rfl rfl ?_)
  first
    | (refine J.skip rfl rfl rfl rfl rfl ?_)
    | (refine J.skipU rfl rfl rfl rfl ?_)
    | (refine J.unguard rfl rfl rfl ?_; refine J.lenS rfl Ty.u26 rfl rfl ?_)
  first
    | (refine J.skip rfl rfl rfl rfl rfl ?_)
    | (refine J.skipU rfl rfl rfl rfl ?_)
    | (refine J.unguard rfl rfl rfl ?_; refine J.bin rfl rfl rfl rfl ?_; refine J.name 18 rfl (show Value.bool _ = .bool false by first | (simp; done) | (simp; omega)) ?_)
  (first | refine J.pickT rfl rfl rfl ?_ | refine J.pickF rfl rfl rfl ?_)
  refine J.move rfl rfl ?_
  first
    | (refine J.skip rfl rfl rfl rfl rfl ?_)
    | (refine J.skipU rfl rfl rfl rfl ?_)
    | (refine J.unguard rfl rfl rfl ?_; refine J.move rfl rfl ?_)
  first
    | (refine J.skip rfl rfl rfl rfl rfl ?_)
    | (refine J.skipU rfl rfl rfl rfl ?_)
    | (refine J.unguard rfl rfl rfl ?_; refine J.indexAddrS Ty.el26 Ty.s3 rfl rfl (by omega) (by omega) rfl ?_)
  first
    | (refine J.skip rfl rfl rfl rfl rfl ?_)
    | (refine J.skipU rfl rfl rfl rfl ?_)
    | (refine J.unguard rfl rfl rfl ?_; refine J.load1 (v := iV n0) Ty.a3 rfl (fun w1 hw => rowI_at (i := 0) (hr.below hw.below) rfl (by omega)) rfl ?_)
  first
    | (refine J.skip rfl rfl rfl rfl rfl ?_)
    | (refine J.skipU rfl rfl rfl rfl ?_)
    | (refine J.unguard rfl rfl rfl ?_; refine J.bin rfl rfl rfl rfl ?_; refine J.name 24 rfl (show Value.bool _ = .bool false by first | (simp [h3]; done) | (simp; done)) ?_)
  (first | refine J.pickT rfl rfl rfl ?_ | refine J.pickF rfl rfl rfl ?_)
  refine J.move rfl rfl ?_
  first
    | (refine J.skip rfl rfl rfl rfl rfl ?_)
    | (refine J.skipU rfl rfl rfl rfl ?_)
    | (refine J.unguard rfl rfl rfl ?_; refine J.move rfl rfl ?_)
  first
    | (refine J.skip rfl rfl rfl rfl rfl ?_)
    | (refine J.skipU rfl rfl rfl rfl ?_)
    | (refine J.unguard rfl rfl rfl ?_; refine J.indexAddrS Ty.el26 Ty.s3 rfl rfl (by omega) (by omega) rfl ?_)
  first
    | (refine J.skip rfl rfl rfl rfl rfl ?_)
    | (refine J.skipU rfl rfl rfl rfl ?_)
    | (refine J.unguard rfl rfl rfl ?_; refine J.load1 (v := iV n1) Ty.a3 rfl (fun w1 hw => rowI_at (i := 1) (hr.below hw.below) rfl (by omega)) rfl ?_)
  first
    | (refine J.skip rfl rfl rfl rfl rfl ?_)
    | (refine J.skipU rfl rfl rfl rfl ?_)
    | (refine J.unguard rfl rfl rfl ?_; refine J.bin rfl rfl rfl rfl ?_; refine J.name 30 rfl (show Value.bool _ = .bool false by first | (simp; done) | (simp; omega)) ?_)
  (first | refine J.pickT rfl rfl rfl ?_ | refine J.pickF rfl rfl rfl ?_)
  refine J.move rfl rfl ?_
  first
    | (refine J.skip rfl rfl rfl rfl rfl ?_)
    | (refine J.skipU rfl rfl rfl rfl ?_)
    | (refine J.unguard rfl rfl rfl ?_; refine J.move rfl rfl ?_)
  first
    | (refine J.skip rfl rfl rfl rfl rfl ?_)
    | (refine J.skipU rfl rfl rfl rfl ?_)
    | (refine J.unguard rfl rfl rfl ?_; refine J.indexAddrS Ty.el26 Ty.s3 rfl rfl (by omega) (by omega) rfl ?_)
  first
    | (refine J.skip rfl rfl rfl rfl rfl ?_)
    | (refine J.skipU rfl rfl rfl rfl ?_)
    | (refine J.unguard rfl rfl rfl ?_; refine J.load1 (v := iV n1) Ty.a3 rfl (fun w1 hw => rowI_at (i := 1) (hr.below hw.below) rfl (by omega)) rfl ?_)
  first
    | (refine J.skip rfl rfl rfl rfl rfl ?_)
    | (refine J.skipU rfl rfl rfl rfl ?_)
    | (refine J.unguard rfl rfl rfl ?_; refine J.bin rfl rfl rfl rfl ?_; refine J.name 36 rfl (show Value.bool _ = .bool false by first | (simp; done) | (simp; omega)) ?_)
  (first | refine J.pickT rfl rfl rfl ?_ | refine J.pickF rfl rfl rfl ?_)
  refine J.move rfl rfl ?_
  first
    | (refine J.skip rfl rfl rfl rfl rfl ?_)
    | (refine J.skipU rfl rfl rfl rfl ?_)
    | (refine J.unguard rfl rfl rfl ?_; refine J.callB (v := .bool true) (fun w1 w2 hw hb => hw.step hb) Ty.bd15 rfl rfl (fun w1 hw => fixed14_spec w1) ?_)
  first
    | (refine J.skip rfl rfl rfl rfl rfl ?_)
    | (refine J.skipU rfl rfl rfl rfl ?_)
    | (refine J.unguard rfl rfl rfl ?_; refine J.not rfl rfl ?_)
  (first | refine J.pickT rfl rfl rfl ?_ | refine J.pickF rfl rfl rfl ?_)
  refine J.nil ?_
  refine JX.thenN (hK2 _ _ ?_)
  first | refine JC.condT rfl ?_ | refine JC.cond rfl (fun _ => ?_) (fun h => by first | (exfalso; simp at h; omega) | (simp at h))
  refine JC.seq (fun K3 hK3 => ?_)
  refine JC.region ?_
  refine J.callB (v := .bool true) (fun w1 w2 hw hb => hw.step hb) Ty.bd15 rfl rfl (fun w1 hw => fixed14_spec w1) ?_
  refine J.assign rfl rfl ?_
  refine J.nil ?_
  refine JX.thenN (hK3 _ _ ?_)
  refine JC.ret ?_
  refine JX.thenR ?_
  refine JX.ret1 rfl rfl (fun w hw => ?_)
  exact ⟨rfl, hw.below⟩

theorem full2 (w : World) (p q : PV) (hkp : okN p.n) (hkq : okN q.n) (a : Option Addr) (k c : Nat) (h1 : ¬ p = q) (h2 : k < 2) :
    Calls Try.prog 3 [.agg (cP p).toArray, .agg (cP q).toArray, .slice a k c].toArray w fun r w' => r = .returned (.bool true) ∧ Below w.heap.size w w' := by
  refine calls_of_J (args := [.agg (cP p).toArray, .agg (cP q).toArray, .slice a k c]) (e := [(0, .agg (cP p).toArray), (1, .agg (cP q).toArray), (2, .slice a k c)]) Try.func3 rfl rfl ⟨rfl, rfl, rfl, trivial⟩ (St.start w) ?_
  refine JC.seq (fun K0 hK0 => ?_)
  refine JC.region ?_
  refine J.box rfl rfl rfl (fun b3 => ?_)
  refine J.box rfl rfl rfl (fun b4 => ?_)
  refine J.assign rfl rfl ?_
  refine J.nil ?_
  refine JX.thenN (hK0 _ _ ?_)
  refine JC.seq (fun K1 hK1 => ?_)
  refine JC.seq (fun K2 hK2 => ?_)
  refine JC.region ?_
  (first | refine J.loadOA Ty.a25 Ty.s25 rfl (.head _) rfl rfl rfl ?_ | refine J.loadOA Ty.a25 Ty.s25 rfl (.tail _ (.head _)) rfl rfl rfl ?_ | refine J.loadOA Ty.a25 Ty.s25 rfl (.tail _ (.tail _ (.head _))) rfl rfl rfl ?_ | refine J.loadOA Ty.a25 Ty.s25 rfl (.tail _ (.tail _ (.tail _ (.head _)))) rfl rfl rfl ?_ | refine J.loadOA Ty.a25 Ty.s25 rfl (.tail _ (.tail _ (.tail _ (.tail _ (.head _))))) rfl rfl rfl ?_ | refine J.loadOA Ty.a25 Ty.s25 rfl (.tail _ (.tail _ (.tail _ (.tail _ (.tail _ (.head _)))))) rfl rfl rfl ?_ | refine J.loadOA Ty.a25 Ty.s25 rfl (.tail _ (.tail _ (.tail _ (.tail _ (.tail _ (.tail _ (.head _))))))) rfl rfl rfl ?_ | refine J.loadOA Ty.a25 Ty.s25 rfl (.tail _ (.tail _ (.tail _ (.tail _ (.tail _ (.tail _ (.tail _ (.head _)))))))) rfl rfl rfl ?_ | refine J.loadOA Ty.a25 Ty.s25 rfl (.tail _ (.tail _ (.tail _ (.tail _ (.tail _ (.tail _ (.tail _ (.tail _ (.head _))))))))) rfl rfl rfl ?_ | refine J.loadOA Ty.a25 Ty.s25 rfl (List.mem_append_right _ (.head _)) rfl rfl rfl ?_ | refine J.loadOA Ty.a25 Ty.s25 rfl (List.mem_append_right _ (.tail _ (.head _))) rfl rfl rfl ?_ | refine J.loadOA Ty.a25 Ty.s25 rfl (List.mem_append_right _ (.tail _ (.tail _ (.head _)))) rfl rfl rfl ?_ | refine J.loadOA Ty.a25 Ty.s25 rfl (List.mem_append_right _ (.tail _ (.tail _ (.tail _ (.head _))))) rfl rfl rfl ?_ | refine J.loadOA Ty.a25 Ty.s25 rfl (List.mem_append_right _ (.tail _ (.tail _ (.tail _ (.tail _ (.head _)))))) rfl rfl rfl ?_ | refine J.loadOA Ty.a25 Ty.s25 rfl (List.mem_append_right _ (.tail _ (.tail _ (.tail _ (.tail _ (.tail _ (.head _))))))) rfl rfl rfl ?_ | refine J.loadOA Ty.a25 Ty.s25 rfl (List.mem_append_right _ (.tail _ (.tail _ (.tail _ (.tail _ (.tail _ (.tail _ (.head _)))))))) rfl rfl rfl ?_ | refine J.loadOA Ty.a25 Ty.s25 rfl (List.mem_append_right _ (.tail _ (.tail _ (.tail _ (.tail _ (.tail _ (.tail _ (.tail _ (.head _))))))))) rfl rfl rfl ?_ | refine J.loadOA Ty.a25 Ty.s25 rfl (List.mem_append_right _ (.tail _ (.tail _ (.tail _ (.tail _ (.tail _ (.tail _ (.tail _ (.tail _ (.head _)))))))))) rfl rfl rfl ?_)
  (first | refine J.loadOA Ty.a25 Ty.s25 rfl (.head _) rfl rfl rfl ?_ | refine J.loadOA Ty.a25 Ty.s25 rfl (.tail _ (.head _)) rfl rfl rfl ?_ | refine J.loadOA Ty.a25 Ty.s25 rfl (.tail _ (.tail _ (.head _))) rfl rfl rfl ?_ | refine J.loadOA Ty.a25 Ty.s25 rfl (.tail _ (.tail _ (.tail _ (.head _)))) rfl rfl rfl ?_ | refine J.loadOA Ty.a25 Ty.s25 rfl (.tail _ (.tail _ (.tail _ (.tail _ (.head _))))) rfl rfl rfl ?_ | refine J.loadOA Ty.a25 Ty.s25 rfl (.tail _ (.tail _ (.tail _ (.tail _ (.tail _ (.head _)))))) rfl rfl rfl ?_ | refine J.loadOA Ty.a25 Ty.s25 rfl (.tail _ (.tail _ (.tail _ (.tail _ (.tail _ (.tail _ (.head _))))))) rfl rfl rfl ?_ | refine J.loadOA Ty.a25 Ty.s25 rfl (.tail _ (.tail _ (.tail _ (.tail _ (.tail _ (.tail _ (.tail _ (.head _)))))))) rfl rfl rfl ?_ | refine J.loadOA Ty.a25 Ty.s25 rfl (.tail _ (.tail _ (.tail _ (.tail _ (.tail _ (.tail _ (.tail _ (.tail _ (.head _))))))))) rfl rfl rfl ?_ | refine J.loadOA Ty.a25 Ty.s25 rfl (List.mem_append_right _ (.head _)) rfl rfl rfl ?_ | refine J.loadOA Ty.a25 Ty.s25 rfl (List.mem_append_right _ (.tail _ (.head _))) rfl rfl rfl ?_ | refine J.loadOA Ty.a25 Ty.s25 rfl (List.mem_append_right _ (.tail _ (.tail _ (.head _)))) rfl rfl rfl ?_ | refine J.loadOA Ty.a25 Ty.s25 rfl (List.mem_append_right _ (.tail _ (.tail _ (.tail _ (.head _))))) rfl rfl rfl ?_ | refine J.loadOA Ty.a25 Ty.s25 rfl (List.mem_append_right _ (.tail _ (.tail _ (.tail _ (.tail _ (.head _)))))) rfl rfl rfl ?_ | refine J.loadOA Ty.a25 Ty.s25 rfl (List.mem_append_right _ (.tail _ (.tail _ (.tail _ (.tail _ (.tail _ (.head _))))))) rfl rfl rfl ?_ | refine J.loadOA Ty.a25 Ty.s25 rfl (List.mem_append_right _ (.tail _ (.tail _ (.tail _ (.tail _ (.tail _ (.tail _ (.head _)))))))) rfl rfl rfl ?_ | refine J.loadOA Ty.a25 Ty.s25 rfl (List.mem_append_right _ (.tail _ (.tail _ (.tail _ (.tail _ (.tail _ (.tail _ (.tail _ (.head _))))))))) rfl rfl rfl ?_ | refine J.loadOA Ty.a25 Ty.s25 rfl (List.mem_append_right _ (.tail _ (.tail _ (.tail _ (.tail _ (.tail _ (.tail _ (.tail _ (.tail _ (.head _)))))))))) rfl rfl rfl ?_)
  refine J.eqP Ty.QP Ty.keyP rfl rfl hkp hkq rfl ?_
  refine J.name 14 rfl (show Value.bool _ = .bool false by simp [h1]) ?_
  refine J.move rfl rfl ?_
  first
    | (refine J.skip rfl rfl rfl rfl rfl ?_)
    | (refine J.skipU rfl rfl rfl rfl ?_)
    | (refine J.unguard rfl rfl rfl ?_; refine J.move rfl rfl ?_)
  first
    | (refine J.skip rfl rfl rfl rfl rfl ?_)
    | (refine J.skipU rfl rfl rfl rfl ?_)
    | (refine J.unguard rfl rfl rfl ?_; refine J.lenS rfl Ty.u26 rfl rfl ?_)
  first
    | (refine J.skip rfl rfl rfl rfl rfl ?_)
    | (refine J.skipU rfl rfl rfl rfl ?_)
    | (refine J.unguard rfl rfl rfl ?_; refine J.bin rfl rfl rfl rfl ?_; refine J.name 18 rfl (show Value.bool _ = .bool true by first | (simp; done) | (simp; omega)) ?_)
  (first | refine J.pickT rfl rfl rfl ?_ | refine J.pickF rfl rfl rfl ?_)
  refine J.move rfl rfl ?_
  first
    | (refine J.skip rfl rfl rfl rfl rfl ?_)
    | (refine J.skipU rfl rfl rfl rfl ?_)
    | (refine J.unguard rfl rfl rfl ?_; refine J.move rfl rfl ?_)
  first
    | (refine J.skip rfl rfl rfl rfl rfl ?_)
    | (refine J.skipU rfl rfl rfl rfl ?_)
    | (refine J.unguard rfl rfl rfl ?_; refine J.indexAddrS Ty.el26 Ty.s3 rfl rfl (by omega) (by omega) rfl ?_)
  first
    | (refine J.skip rfl rfl rfl rfl rfl ?_)
    | (refine J.skipU rfl rfl rfl rfl ?_)
    | (refine J.unguard rfl rfl rfl ?_; refine J.load1 (v := iV n0) Ty.a3 rfl (fun w1 hw => rowI_at (i := 0) (hr.below hw.below) rfl (by omega)) rfl ?_)
  first
    | (refine J.skip rfl rfl rfl rfl rfl ?_)
    | (refine J.skipU rfl rfl rfl rfl ?_)
    | (refine J.unguard rfl rfl rfl ?_; refine J.bin rfl rfl rfl rfl ?_; refine J.name 24 rfl (show Value.bool _ = .bool false by first | (simp [h3]; done) | (simp; done)) ?_)
  (first | refine J.pickT rfl rfl rfl ?_ | refine J.pickF rfl rfl rfl ?_)
  refine J.move rfl rfl ?_
  first
    | (refine J.skip rfl rfl rfl rfl rfl ?_)
    | (refine J.skipU rfl rfl rfl rfl ?_)
    | (refine J.unguard rfl rfl rfl ?_; refine J.move rfl rfl ?_)
  first
    | (refine J.skip rfl rfl rfl rfl rfl ?_)
    | (refine J.skipU rfl rfl rfl rfl ?_)
    | (refine J.unguard rfl rfl rfl ?_; refine J.indexAddrS Ty.el26 Ty.s3 rfl rfl (by omega) (by omega) rfl ?_)
  first
    | (refine J.skip rfl rfl rfl rfl rfl ?_)
    | (refine J.skipU rfl rfl rfl rfl ?_)
    | (refine J.unguard rfl rfl rfl ?_; refine J.load1 (v := iV n1) Ty.a3 rfl (fun w1 hw => rowI_at (i := 1) (hr.below hw.below) rfl (by omega)) rfl ?_)
  first
    | (refine J.skip rfl rfl rfl rfl rfl ?_)
    | (refine J.skipU rfl rfl rfl rfl ?_)
    | (refine J.unguard rfl rfl rfl ?_; refine J.bin rfl rfl rfl rfl ?_; refine J.name 30 rfl (show Value.bool _ = .bool false by first | (simp; done) | (simp; omega)) ?_)
  (first | refine J.pickT rfl rfl rfl ?_ | refine J.pickF rfl rfl rfl ?_)
  refine J.move rfl rfl ?_
  first
    | (refine J.skip rfl rfl rfl rfl rfl ?_)
    | (refine J.skipU rfl rfl rfl rfl ?_)
    | (refine J.unguard rfl rfl rfl ?_; refine J.move rfl rfl ?_)
  first
    | (refine J.skip rfl rfl rfl rfl rfl ?_)
    | (refine J.skipU rfl rfl rfl rfl ?_)
    | (refine J.unguard rfl rfl rfl ?_; refine J.indexAddrS Ty.el26 Ty.s3 rfl rfl (by omega) (by omega) rfl ?_)
  first
    | (refine J.skip rfl rfl rfl rfl rfl ?_)
    | (refine J.skipU rfl rfl rfl rfl ?_)
    | (refine J.unguard rfl rfl rfl ?_; refine J.load1 (v := iV n1) Ty.a3 rfl (fun w1 hw => rowI_at (i := 1) (hr.below hw.below) rfl (by omega)) rfl ?_)
  first
    | (refine J.skip rfl rfl rfl rfl rfl ?_)
    | (refine J.skipU rfl rfl rfl rfl ?_)
    | (refine J.unguard rfl rfl rfl ?_; refine J.bin rfl rfl rfl rfl ?_; refine J.name 36 rfl (show Value.bool _ = .bool false by first | (simp; done) | (simp; omega)) ?_)
  (first | refine J.pickT rfl rfl rfl ?_ | refine J.pickF rfl rfl rfl ?_)
  refine J.move rfl rfl ?_
  first
    | (refine J.skip rfl rfl rfl rfl rfl ?_)
    | (refine J.skipU rfl rfl rfl rfl ?_)
    | (refine J.unguard rfl rfl rfl ?_; refine J.callB (v := .bool true) (fun w1 w2 hw hb => hw.step hb) Ty.bd15 rfl rfl (fun w1 hw => fixed14_spec w1) ?_)
  first
    | (refine J.skip rfl rfl rfl rfl rfl ?_)
    | (refine J.skipU rfl rfl rfl rfl ?_)
    | (refine J.unguard rfl rfl rfl ?_; refine J.not rfl rfl ?_)
  (first | refine J.pickT rfl rfl rfl ?_ | refine J.pickF rfl rfl rfl ?_)
  refine J.nil ?_
  refine JX.thenN (hK2 _ _ ?_)
  first | refine JC.condT rfl ?_ | refine JC.cond rfl (fun _ => ?_) (fun h => by first | (exfalso; simp at h; omega) | (simp at h))
  refine JC.seq (fun K3 hK3 => ?_)
  refine JC.region ?_
  refine J.callB (v := .bool true) (fun w1 w2 hw hb => hw.step hb) Ty.bd15 rfl rfl (fun w1 hw => fixed14_spec w1) ?_
  refine J.assign rfl rfl ?_
  refine J.nil ?_
  refine JX.thenN (hK3 _ _ ?_)
  refine JC.ret ?_
  refine JX.thenR ?_
  refine JX.ret1 rfl rfl (fun w hw => ?_)
  exact ⟨rfl, hw.below⟩

theorem full3 (w : World) (p q : PV) (hkp : okN p.n) (hkq : okN q.n) (wb wo wc : Nat) (n1 : Int) (rest : List Int) (n0 : Int) (hr : Row w (.slice (some ⟨wb, wo, none⟩) (rest.length + 2) wc) (rest.length + 2) ((n0 :: n1 :: rest).map iV)) (h1 : ¬ p = q) (h3 : ¬ n0 = 0) :
    Calls Try.prog 3 [.agg (cP p).toArray, .agg (cP q).toArray, .slice (some ⟨wb, wo, none⟩) (rest.length + 2) wc].toArray w fun r w' => r = .returned (.bool true) ∧ Below w.heap.size w w' := by
  have hcap := hr.cap
  refine calls_of_J (args := [.agg (cP p).toArray, .agg (cP q).toArray, .slice (some ⟨wb, wo, none⟩) (rest.length + 2) wc]) (e := [(0, .agg (cP p).toArray), (1, .agg (cP q).toArray), (2, .slice (some ⟨wb, wo, none⟩) (rest.length + 2) wc)]) Try.func3 rfl rfl ⟨rfl, rfl, rfl, trivial⟩ (St.start w) ?_
  refine JC.seq (fun K0 hK0 => ?_)
  refine JC.region ?_
  refine J.box rfl rfl rfl (fun b3 => ?_)
  refine J.box rfl rfl rfl (fun b4 => ?_)
  refine J.assign rfl rfl ?_
  refine J.nil ?_
  refine JX.thenN (hK0 _ _ ?_)
  refine JC.seq (fun K1 hK1 => ?_)
  refine JC.seq (fun K2 hK2 => ?_)
  refine JC.region ?_
  (first | refine J.loadOA Ty.a25 Ty.s25 rfl (.head _) rfl rfl rfl ?_ | refine J.loadOA Ty.a25 Ty.s25 rfl (.tail _ (.head _)) rfl rfl rfl ?_ | refine J.loadOA Ty.a25 Ty.s25 rfl (.tail _ (.tail _ (.head _))) rfl rfl rfl ?_ | refine J.loadOA Ty.a25 Ty.s25 rfl (.tail _ (.tail _ (.tail _ (.head _)))) rfl rfl rfl ?_ | refine J.loadOA Ty.a25 Ty.s25 rfl (.tail _ (.tail _ (.tail _ (.tail _ (.head _))))) rfl rfl rfl ?_ | refine J.loadOA Ty.a25 Ty.s25 rfl (.tail _ (.tail _ (.tail _ (.tail _ (.tail _ (.head _)))))) rfl rfl rfl ?_ | refine J.loadOA Ty.a25 Ty.s25 rfl (.tail _ (.tail _ (.tail _ (.tail _ (.tail _ (.tail _ (.head _))))))) rfl rfl rfl ?_ | refine J.loadOA Ty.a25 Ty.s25 rfl (.tail _ (.tail _ (.tail _ (.tail _ (.tail _ (.tail _ (.tail _ (.head _)))))))) rfl rfl rfl ?_ | refine J.loadOA Ty.a25 Ty.s25 rfl (.tail _ (.tail _ (.tail _ (.tail _ (.tail _ (.tail _ (.tail _ (.tail _ (.head _))))))))) rfl rfl rfl ?_ | refine J.loadOA Ty.a25 Ty.s25 rfl (List.mem_append_right _ (.head _)) rfl rfl rfl ?_ | refine J.loadOA Ty.a25 Ty.s25 rfl (List.mem_append_right _ (.tail _ (.head _))) rfl rfl rfl ?_ | refine J.loadOA Ty.a25 Ty.s25 rfl (List.mem_append_right _ (.tail _ (.tail _ (.head _)))) rfl rfl rfl ?_ | refine J.loadOA Ty.a25 Ty.s25 rfl (List.mem_append_right _ (.tail _ (.tail _ (.tail _ (.head _))))) rfl rfl rfl ?_ | refine J.loadOA Ty.a25 Ty.s25 rfl (List.mem_append_right _ (.tail _ (.tail _ (.tail _ (.tail _ (.head _)))))) rfl rfl rfl ?_ | refine J.loadOA Ty.a25 Ty.s25 rfl (List.mem_append_right _ (.tail _ (.tail _ (.tail _ (.tail _ (.tail _ (.head _))))))) rfl rfl rfl ?_ | refine J.loadOA Ty.a25 Ty.s25 rfl (List.mem_append_right _ (.tail _ (.tail _ (.tail _ (.tail _ (.tail _ (.tail _ (.head _)))))))) rfl rfl rfl ?_ | refine J.loadOA Ty.a25 Ty.s25 rfl (List.mem_append_right _ (.tail _ (.tail _ (.tail _ (.tail _ (.tail _ (.tail _ (.tail _ (.head _))))))))) rfl rfl rfl ?_ | refine J.loadOA Ty.a25 Ty.s25 rfl (List.mem_append_right _ (.tail _ (.tail _ (.tail _ (.tail _ (.tail _ (.tail _ (.tail _ (.tail _ (.head _)))))))))) rfl rfl rfl ?_)
  (first | refine J.loadOA Ty.a25 Ty.s25 rfl (.head _) rfl rfl rfl ?_ | refine J.loadOA Ty.a25 Ty.s25 rfl (.tail _ (.head _)) rfl rfl rfl ?_ | refine J.loadOA Ty.a25 Ty.s25 rfl (.tail _ (.tail _ (.head _))) rfl rfl rfl ?_ | refine J.loadOA Ty.a25 Ty.s25 rfl (.tail _ (.tail _ (.tail _ (.head _)))) rfl rfl rfl ?_ | refine J.loadOA Ty.a25 Ty.s25 rfl (.tail _ (.tail _ (.tail _ (.tail _ (.head _))))) rfl rfl rfl ?_ | refine J.loadOA Ty.a25 Ty.s25 rfl (.tail _ (.tail _ (.tail _ (.tail _ (.tail _ (.head _)))))) rfl rfl rfl ?_ | refine J.loadOA Ty.a25 Ty.s25 rfl (.tail _ (.tail _ (.tail _ (.tail _ (.tail _ (.tail _ (.head _))))))) rfl rfl rfl ?_ | refine J.loadOA Ty.a25 Ty.s25 rfl (.tail _ (.tail _ (.tail _ (.tail _ (.tail _ (.tail _ (.tail _ (.head _)))))))) rfl rfl rfl ?_ | refine J.loadOA Ty.a25 Ty.s25 rfl (.tail _ (.tail _ (.tail _ (.tail _ (.tail _ (.tail _ (.tail _ (.tail _ (.head _))))))))) rfl rfl rfl ?_ | refine J.loadOA Ty.a25 Ty.s25 rfl (List.mem_append_right _ (.head _)) rfl rfl rfl ?_ | refine J.loadOA Ty.a25 Ty.s25 rfl (List.mem_append_right _ (.tail _ (.head _))) rfl rfl rfl ?_ | refine J.loadOA Ty.a25 Ty.s25 rfl (List.mem_append_right _ (.tail _ (.tail _ (.head _)))) rfl rfl rfl ?_ | refine J.loadOA Ty.a25 Ty.s25 rfl (List.mem_append_right _ (.tail _ (.tail _ (.tail _ (.head _))))) rfl rfl rfl ?_ | refine J.loadOA Ty.a25 Ty.s25 rfl (List.mem_append_right _ (.tail _ (.tail _ (.tail _ (.tail _ (.head _)))))) rfl rfl rfl ?_ | refine J.loadOA Ty.a25 Ty.s25 rfl (List.mem_append_right _ (.tail _ (.tail _ (.tail _ (.tail _ (.tail _ (.head _))))))) rfl rfl rfl ?_ | refine J.loadOA Ty.a25 Ty.s25 rfl (List.mem_append_right _ (.tail _ (.tail _ (.tail _ (.tail _ (.tail _ (.tail _ (.head _)))))))) rfl rfl rfl ?_ | refine J.loadOA Ty.a25 Ty.s25 rfl (List.mem_append_right _ (.tail _ (.tail _ (.tail _ (.tail _ (.tail _ (.tail _ (.tail _ (.head _))))))))) rfl rfl rfl ?_ | refine J.loadOA Ty.a25 Ty.s25 rfl (List.mem_append_right _ (.tail _ (.tail _ (.tail _ (.tail _ (.tail _ (.tail _ (.tail _ (.tail _ (.head _)))))))))) rfl rfl rfl ?_)
  refine J.eqP Ty.QP Ty.keyP rfl rfl hkp hkq rfl ?_
  refine J.name 14 rfl (show Value.bool _ = .bool false by simp [h1]) ?_
  refine J.move rfl rfl ?_
  first
    | (refine J.skip rfl rfl rfl rfl rfl ?_)
    | (refine J.skipU rfl rfl rfl rfl ?_)
    | (refine J.unguard rfl rfl rfl ?_; refine J.move rfl rfl ?_)
  first
    | (refine J.skip rfl rfl rfl rfl rfl ?_)
    | (refine J.skipU rfl rfl rfl rfl ?_)
    | (refine J.unguard rfl rfl rfl ?_; refine J.lenS rfl Ty.u26 rfl rfl ?_)
  first
    | (refine J.skip rfl rfl rfl rfl rfl ?_)
    | (refine J.skipU rfl rfl rfl rfl ?_)
    | (refine J.unguard rfl rfl rfl ?_; refine J.bin rfl rfl rfl rfl ?_; refine J.name 18 rfl (show Value.bool _ = .bool false by first | (simp; done) | (simp; omega)) ?_)
  (first | refine J.pickT rfl rfl rfl ?_ | refine J.pickF rfl rfl rfl ?_)
  refine J.move rfl rfl ?_
  first
    | (refine J.skip rfl rfl rfl rfl rfl ?_)
    | (refine J.skipU rfl rfl rfl rfl ?_)
    | (refine J.unguard rfl rfl rfl ?_; refine J.move rfl rfl ?_)
  first
    | (refine J.skip rfl rfl rfl rfl rfl ?_)
    | (refine J.skipU rfl rfl rfl rfl ?_)
    | (refine J.unguard rfl rfl rfl ?_; refine J.indexAddrS Ty.el26 Ty.s3 rfl rfl (by omega) (by omega) rfl ?_)
  first
    | (refine J.skip rfl rfl rfl rfl rfl ?_)
    | (refine J.skipU rfl rfl rfl rfl ?_)
    | (refine J.unguard rfl rfl rfl ?_; refine J.load1 (v := iV n0) Ty.a3 rfl (fun w1 hw => rowI_at (i := 0) (hr.below hw.below) rfl (by omega)) rfl ?_)
  first
    | (refine J.skip rfl rfl rfl rfl rfl ?_)
    | (refine J.skipU rfl rfl rfl rfl ?_)
    | (refine J.unguard rfl rfl rfl ?_; refine J.bin rfl rfl rfl rfl ?_; refine J.name 24 rfl (show Value.bool _ = .bool true by first | (simp [h3]; done) | (simp; done)) ?_)
  (first | refine J.pickT rfl rfl rfl ?_ | refine J.pickF rfl rfl rfl ?_)
  refine J.move rfl rfl ?_
  first
    | (refine J.skip rfl rfl rfl rfl rfl ?_)
    | (refine J.skipU rfl rfl rfl rfl ?_)
    | (refine J.unguard rfl rfl rfl ?_; refine J.move rfl rfl ?_)
  first
    | (refine J.skip rfl rfl rfl rfl rfl ?_)
    | (refine J.skipU rfl rfl rfl rfl ?_)
    | (refine J.unguard rfl rfl rfl ?_; refine J.indexAddrS Ty.el26 Ty.s3 rfl rfl (by omega) (by omega) rfl ?_)
  first
    | (refine J.skip rfl rfl rfl rfl rfl ?_)
    | (refine J.skipU rfl rfl rfl rfl ?_)
    | (refine J.unguard rfl rfl rfl ?_; refine J.load1 (v := iV n1) Ty.a3 rfl (fun w1 hw => rowI_at (i := 1) (hr.below hw.below) rfl (by omega)) rfl ?_)
  first
    | (refine J.skip rfl rfl rfl rfl rfl ?_)
    | (refine J.skipU rfl rfl rfl rfl ?_)
    | (refine J.unguard rfl rfl rfl ?_; refine J.bin rfl rfl rfl rfl ?_; refine J.name 30 rfl (show Value.bool _ = .bool false by first | (simp; done) | (simp; omega)) ?_)
  (first | refine J.pickT rfl rfl rfl ?_ | refine J.pickF rfl rfl rfl ?_)
  refine J.move rfl rfl ?_
  first
    | (refine J.skip rfl rfl rfl rfl rfl ?_)
    | (refine J.skipU rfl rfl rfl rfl ?_)
    | (refine J.unguard rfl rfl rfl ?_; refine J.move rfl rfl ?_)
  first
    | (refine J.skip rfl rfl rfl rfl rfl ?_)
    | (refine J.skipU rfl rfl rfl rfl ?_)
    | (refine J.unguard rfl rfl rfl ?_; refine J.indexAddrS Ty.el26 Ty.s3 rfl rfl (by omega) (by omega) rfl ?_)
  first
    | (refine J.skip rfl rfl rfl rfl rfl ?_)
    | (refine J.skipU rfl rfl rfl rfl ?_)
    | (refine J.unguard rfl rfl rfl ?_; refine J.load1 (v := iV n1) Ty.a3 rfl (fun w1 hw => rowI_at (i := 1) (hr.below hw.below) rfl (by omega)) rfl ?_)
  first
    | (refine J.skip rfl rfl rfl rfl rfl ?_)
    | (refine J.skipU rfl rfl rfl rfl ?_)
    | (refine J.unguard rfl rfl rfl ?_; refine J.bin rfl rfl rfl rfl ?_; refine J.name 36 rfl (show Value.bool _ = .bool false by first | (simp; done) | (simp; omega)) ?_)
  (first | refine J.pickT rfl rfl rfl ?_ | refine J.pickF rfl rfl rfl ?_)
  refine J.move rfl rfl ?_
  first
    | (refine J.skip rfl rfl rfl rfl rfl ?_)
    | (refine J.skipU rfl rfl rfl rfl ?_)
    | (refine J.unguard rfl rfl rfl ?_; refine J.callB (v := .bool true) (fun w1 w2 hw hb => hw.step hb) Ty.bd15 rfl rfl (fun w1 hw => fixed14_spec w1) ?_)
  first
    | (refine J.skip rfl rfl rfl rfl rfl ?_)
    | (refine J.skipU rfl rfl rfl rfl ?_)
    | (refine J.unguard rfl rfl rfl ?_; refine J.not rfl rfl ?_)
  (first | refine J.pickT rfl rfl rfl ?_ | refine J.pickF rfl rfl rfl ?_)
  refine J.nil ?_
  refine JX.thenN (hK2 _ _ ?_)
  first | refine JC.condT rfl ?_ | refine JC.cond rfl (fun _ => ?_) (fun h => by first | (exfalso; simp at h; omega) | (simp at h))
  refine JC.seq (fun K3 hK3 => ?_)
  refine JC.region ?_
  refine J.callB (v := .bool true) (fun w1 w2 hw hb => hw.step hb) Ty.bd15 rfl rfl (fun w1 hw => fixed14_spec w1) ?_
  refine J.assign rfl rfl ?_
  refine J.nil ?_
  refine JX.thenN (hK3 _ _ ?_)
  refine JC.ret ?_
  refine JX.thenR ?_
  refine JX.ret1 rfl rfl (fun w hw => ?_)
  exact ⟨rfl, hw.below⟩

theorem full4 (w : World) (p q : PV) (hkp : okN p.n) (hkq : okN q.n) (wb wo wc : Nat) (n1 : Int) (rest : List Int) (hr : Row w (.slice (some ⟨wb, wo, none⟩) (rest.length + 2) wc) (rest.length + 2) ((0 :: n1 :: rest).map iV)) (h1 : ¬ p = q) (h4 : n1 < 1) :
    Calls Try.prog 3 [.agg (cP p).toArray, .agg (cP q).toArray, .slice (some ⟨wb, wo, none⟩) (rest.length + 2) wc].toArray w fun r w' => r = .returned (.bool true) ∧ Below w.heap.size w w' := by
  have hcap := hr.cap
  refine calls_of_J (args := [.agg (cP p).toArray, .agg (cP q).toArray, .slice (some ⟨wb, wo, none⟩) (rest.length + 2) wc]) (e := [(0, .agg (cP p).toArray), (1, .agg (cP q).toArray), (2, .slice (some ⟨wb, wo, none⟩) (rest.length + 2) wc)]) Try.func3 rfl rfl ⟨rfl, rfl, rfl, trivial⟩ (St.start w) ?_
  refine JC.seq (fun K0 hK0 => ?_)
  refine JC.region ?_
  refine J.box rfl rfl rfl (fun b3 => ?_)
  refine J.box rfl rfl rfl (fun b4 => ?_)
  refine J.assign rfl rfl ?_
  refine J.nil ?_
  refine JX.thenN (hK0 _ _ ?_)
  refine JC.seq (fun K1 hK1 => ?_)
  refine JC.seq (fun K2 hK2 => ?_)
  refine JC.region ?_
  (first | refine J.loadOA Ty.a25 Ty.s25 rfl (.head _) rfl rfl rfl ?_ | refine J.loadOA Ty.a25 Ty.s25 rfl (.tail _ (.head _)) rfl rfl rfl ?_ | refine J.loadOA Ty.a25 Ty.s25 rfl (.tail _ (.tail _ (.head _))) rfl rfl rfl ?_ | refine J.loadOA Ty.a25 Ty.s25 rfl (.tail _ (.tail _ (.tail _ (.head _)))) rfl rfl rfl ?_ | refine J.loadOA Ty.a25 Ty.s25 rfl (.tail _ (.tail _ (.tail _ (.tail _ (.head _))))) rfl rfl rfl ?_ | refine J.loadOA Ty.a25 Ty.s25 rfl (.tail _ (.tail _ (.tail _ (.tail _ (.tail _ (.head _)))))) rfl rfl rfl ?_ | refine J.loadOA Ty.a25 Ty.s25 rfl (.tail _ (.tail _ (.tail _ (.tail _ (.tail _ (.tail _ (.head _))))))) rfl rfl rfl ?_ | refine J.loadOA Ty.a25 Ty.s25 rfl (.tail _ (.tail _ (.tail _ (.tail _ (.tail _ (.tail _ (.tail _ (.head _)))))))) rfl rfl rfl ?_ | refine J.loadOA Ty.a25 Ty.s25 rfl (.tail _ (.tail _ (.tail _ (.tail _ (.tail _ (.tail _ (.tail _ (.tail _ (.head _))))))))) rfl rfl rfl ?_ | refine J.loadOA Ty.a25 Ty.s25 rfl (List.mem_append_right _ (.head _)) rfl rfl rfl ?_ | refine J.loadOA Ty.a25 Ty.s25 rfl (List.mem_append_right _ (.tail _ (.head _))) rfl rfl rfl ?_ | refine J.loadOA Ty.a25 Ty.s25 rfl (List.mem_append_right _ (.tail _ (.tail _ (.head _)))) rfl rfl rfl ?_ | refine J.loadOA Ty.a25 Ty.s25 rfl (List.mem_append_right _ (.tail _ (.tail _ (.tail _ (.head _))))) rfl rfl rfl ?_ | refine J.loadOA Ty.a25 Ty.s25 rfl (List.mem_append_right _ (.tail _ (.tail _ (.tail _ (.tail _ (.head _)))))) rfl rfl rfl ?_ | refine J.loadOA Ty.a25 Ty.s25 rfl (List.mem_append_right _ (.tail _ (.tail _ (.tail _ (.tail _ (.tail _ (.head _))))))) rfl rfl rfl ?_ | refine J.loadOA Ty.a25 Ty.s25 rfl (List.mem_append_right _ (.tail _ (.tail _ (.tail _ (.tail _ (.tail _ (.tail _ (.head _)))))))) rfl rfl rfl ?_ | refine J.loadOA Ty.a25 Ty.s25 rfl (List.mem_append_right _ (.tail _ (.tail _ (.tail _ (.tail _ (.tail _ (.tail _ (.tail _ (.head _))))))))) rfl rfl rfl ?_ | refine J.loadOA Ty.a25 Ty.s25 rfl (List.mem_append_right _ (.tail _ (.tail _ (.tail _ (.tail _ (.tail _ (.tail _ (.tail _ (.tail _ (.head _)))))))))) rfl rfl rfl ?_)
  (first | refine J.loadOA Ty.a25 Ty.s25 rfl (.head _) rfl rfl rfl ?_ | refine J.loadOA Ty.a25 Ty.s25 rfl (.tail _ (.head _)) rfl rfl rfl ?_ | refine J.loadOA Ty.a25 Ty.s25 rfl (.tail _ (.tail _ (.head _))) rfl rfl rfl ?_ | refine J.loadOA Ty.a25 Ty.s25 rfl (.tail _ (.tail _ (.tail _ (.head _)))) rfl rfl rfl ?_ | refine J.loadOA Ty.a25 Ty.s25 rfl (.tail _ (.tail _ (.tail _ (.tail _ (.head _))))) rfl rfl rfl ?_ | refine J.loadOA Ty.a25 Ty.s25 rfl (.tail _ (.tail _ (.tail _ (.tail _ (.tail _ (.head _)))))) rfl rfl rfl ?_ | refine J.loadOA Ty.a25 Ty.s25 rfl (.tail _ (.tail _ (.tail _ (.tail _ (.tail _ (.tail _ (.head _))))))) rfl rfl rfl ?_ | refine J.loadOA Ty.a25 Ty.s25 rfl (.tail _ (.tail _ (.tail _ (.tail _ (.tail _ (.tail _ (.tail _ (.head _)))))))) rfl rfl rfl ?_ | refine J.loadOA Ty.a25 Ty.s25 rfl (.tail _ (.tail _ (.tail _ (.tail _ (.tail _ (.tail _ (.tail _ (.tail _ (.head _))))))))) rfl rfl rfl ?_ | refine J.loadOA Ty.a25 Ty.s25 rfl (List.mem_append_right _ (.head _)) rfl rfl rfl ?_ | refine J.loadOA Ty.a25 Ty.s25 rfl (List.mem_append_right _ (.tail _ (.head _))) rfl rfl rfl ?_ | refine J.loadOA Ty.a25 Ty.s25 rfl (List.mem_append_right _ (.tail _ (.tail _ (.head _)))) rfl rfl rfl ?_ | refine J.loadOA Ty.a25 Ty.s25 rfl (List.mem_append_right _ (.tail _ (.tail _ (.tail _ (.head _))))) rfl rfl rfl ?_ | refine J.loadOA Ty.a25 Ty.s25 rfl (List.mem_append_right _ (.tail _ (.tail _ (.tail _ (.tail _ (.head _)))))) rfl rfl rfl ?_ | refine J.loadOA Ty.a25 Ty.s25 rfl (List.mem_append_right _ (.tail _ (.tail _ (.tail _ (.tail _ (.tail _ (.head _))))))) rfl rfl rfl ?_ | refine J.loadOA Ty.a25 Ty.s25 rfl (List.mem_append_right _ (.tail _ (.tail _ (.tail _ (.tail _ (.tail _ (.tail _ (.head _)))))))) rfl rfl rfl ?_ | refine J.loadOA Ty.a25 Ty.s25 rfl (List.mem_append_right _ (.tail _ (.tail _ (.tail _ (.tail _ (.tail _ (.tail _ (.tail _ (.head _))))))))) rfl rfl rfl ?_ | refine J.loadOA Ty.a25 Ty.s25 rfl (List.mem_append_right _ (.tail _ (.tail _ (.tail _ (.tail _ (.tail _ (.tail _ (.tail _ (.tail _ (.head _)))))))))) rfl rfl rfl ?_)
  refine J.eqP Ty.QP Ty.keyP rfl rfl hkp hkq rfl ?_
  refine J.name 14 rfl (show Value.bool _ = .bool false by simp [h1]) ?_
  refine J.move rfl rfl ?_
  first
    | (refine J.skip rfl rfl rfl rfl rfl ?_)
    | (refine J.skipU rfl rfl rfl rfl ?_)
    | (refine J.unguard rfl rfl rfl ?_; refine J.move rfl rfl ?_)
  first
    | (refine J.skip rfl rfl rfl rfl rfl ?_)
    | (refine J.skipU rfl rfl rfl rfl ?_)
    | (refine J.unguard rfl rfl rfl ?_; refine J.lenS rfl Ty.u26 rfl rfl ?_)
  first
    | (refine J.skip rfl rfl rfl rfl rfl ?_)
    | (refine J.skipU rfl rfl rfl rfl ?_)
    | (refine J.unguard rfl rfl rfl ?_; refine J.bin rfl rfl rfl rfl ?_; refine J.name 18 rfl (show Value.bool _ = .bool false by first | (simp; done) | (simp; omega)) ?_)
  (first | refine J.pickT rfl rfl rfl ?_ | refine J.pickF rfl rfl rfl ?_)
  refine J.move rfl rfl ?_
  first
    | (refine J.skip rfl rfl rfl rfl rfl ?_)
    | (refine J.skipU rfl rfl rfl rfl ?_)
    | (refine J.unguard rfl rfl rfl ?_; refine J.move rfl rfl ?_)
  first
    | (refine J.skip rfl rfl rfl rfl rfl ?_)
    | (refine J.skipU rfl rfl rfl rfl ?_)
    | (refine J.unguard rfl rfl rfl ?_; refine J.indexAddrS Ty.el26 Ty.s3 rfl rfl (by omega) (by omega) rfl ?_)
  first
    | (refine J.skip rfl rfl rfl rfl rfl ?_)
    | (refine J.skipU rfl rfl rfl rfl ?_)
    | (refine J.unguard rfl rfl rfl ?_; refine J.load1 (v := iV 0) Ty.a3 rfl (fun w1 hw => rowI_at (i := 0) (hr.below hw.below) rfl (by omega)) rfl ?_)
  first
    | (refine J.skip rfl rfl rfl rfl rfl ?_)
    | (refine J.skipU rfl rfl rfl rfl ?_)
    | (refine J.unguard rfl rfl rfl ?_; refine J.bin rfl rfl rfl rfl ?_; refine J.name 24 rfl (show Value.bool _ = .bool false by first | (simp [h3]; done) | (simp; done)) ?_)
  (first | refine J.pickT rfl rfl rfl ?_ | refine J.pickF rfl rfl rfl ?_)
  refine J.move rfl rfl ?_
  first
    | (refine J.skip rfl rfl rfl rfl rfl ?_)
    | (refine J.skipU rfl rfl rfl rfl ?_)
    | (refine J.unguard rfl rfl rfl ?_; refine J.move rfl rfl ?_)
  first
    | (refine J.skip rfl rfl rfl rfl rfl ?_)
    | (refine J.skipU rfl rfl rfl rfl ?_)
    | (refine J.unguard rfl rfl rfl ?_; refine J.indexAddrS Ty.el26 Ty.s3 rfl rfl (by omega) (by omega) rfl ?_)
  first
    | (refine J.skip rfl rfl rfl rfl rfl ?_)
    | (refine J.skipU rfl rfl rfl rfl ?_)
    | (refine J.unguard rfl rfl rfl ?_; refine J.load1 (v := iV n1) Ty.a3 rfl (fun w1 hw => rowI_at (i := 1) (hr.below hw.below) rfl (by omega)) rfl ?_)
  first
    | (refine J.skip rfl rfl rfl rfl rfl ?_)
    | (refine J.skipU rfl rfl rfl rfl ?_)
    | (refine J.unguard rfl rfl rfl ?_; refine J.bin rfl rfl rfl rfl ?_; refine J.name 30 rfl (show Value.bool _ = .bool true by first | (simp; done) | (simp; omega)) ?_)
  (first | refine J.pickT rfl rfl rfl ?_ | refine J.pickF rfl rfl rfl ?_)
  refine J.move rfl rfl ?_
  first
    | (refine J.skip rfl rfl rfl rfl rfl ?_)
    | (refine J.skipU rfl rfl rfl rfl ?_)
    | (refine J.unguard rfl rfl rfl ?_; refine J.move rfl rfl ?_)
  first
    | (refine J.skip rfl rfl rfl rfl rfl ?_)
    | (refine J.skipU rfl rfl rfl rfl ?_)
    | (refine J.unguard rfl rfl rfl ?_; refine J.indexAddrS Ty.el26 Ty.s3 rfl rfl (by omega) (by omega) rfl ?_)
  first
    | (refine J.skip rfl rfl rfl rfl rfl ?_)
    | (refine J.skipU rfl rfl rfl rfl ?_)
    | (refine J.unguard rfl rfl rfl ?_; refine J.load1 (v := iV n1) Ty.a3 rfl (fun w1 hw => rowI_at (i := 1) (hr.below hw.below) rfl (by omega)) rfl ?_)
  first
    | (refine J.skip rfl rfl rfl rfl rfl ?_)
    | (refine J.skipU rfl rfl rfl rfl ?_)
    | (refine J.unguard rfl rfl rfl ?_; refine J.bin rfl rfl rfl rfl ?_; refine J.name 36 rfl (show Value.bool _ = .bool false by first | (simp; done) | (simp; omega)) ?_)
  (first | refine J.pickT rfl rfl rfl ?_ | refine J.pickF rfl rfl rfl ?_)
  refine J.move rfl rfl ?_
  first
    | (refine J.skip rfl rfl rfl rfl rfl ?_)
    | (refine J.skipU rfl rfl rfl rfl ?_)
    | (refine J.unguard rfl rfl rfl ?_; refine J.callB (v := .bool true) (fun w1 w2 hw hb => hw.step hb) Ty.bd15 rfl rfl (fun w1 hw => fixed14_spec w1) ?_)
  first
    | (refine J.skip rfl rfl rfl rfl rfl ?_)
    | (refine J.skipU rfl rfl rfl rfl ?_)
    | (refine J.unguard rfl rfl rfl ?_; refine J.not rfl rfl ?_)
  (first | refine J.pickT rfl rfl rfl ?_ | refine J.pickF rfl rfl rfl ?_)
  refine J.nil ?_
  refine JX.thenN (hK2 _ _ ?_)
  first | refine JC.condT rfl ?_ | refine JC.cond rfl (fun _ => ?_) (fun h => by first | (exfalso; simp at h; omega) | (simp at h))
  refine JC.seq (fun K3 hK3 => ?_)
  refine JC.region ?_
  refine J.callB (v := .bool true) (fun w1 w2 hw hb => hw.step hb) Ty.bd15 rfl rfl (fun w1 hw => fixed14_spec w1) ?_
  refine J.assign rfl rfl ?_
  refine J.nil ?_
  refine JX.thenN (hK3 _ _ ?_)
  refine JC.ret ?_
  refine JX.thenR ?_
  refine JX.ret1 rfl rfl (fun w hw => ?_)
  exact ⟨rfl, hw.below⟩

theorem full5 (w : World) (p q : PV) (hkp : okN p.n) (hkq : okN q.n) (wb wo wc : Nat) (n1 : Int) (rest : List Int) (hr : Row w (.slice (some ⟨wb, wo, none⟩) (rest.length + 2) wc) (rest.length + 2) ((0 :: n1 :: rest).map iV)) (h1 : ¬ p = q) (h4 : 1 ≤ n1) (h5 : 5 < n1) :
    Calls Try.prog 3 [.agg (cP p).toArray, .agg (cP q).toArray, .slice (some ⟨wb, wo, none⟩) (rest.length + 2) wc].toArray w fun r w' => r = .returned (.bool true) ∧ Below w.heap.size w w' := by
  have hcap := hr.cap
  refine calls_of_J (args := [.agg (cP p).toArray, .agg (cP q).toArray, .slice (some ⟨wb, wo, none⟩) (rest.length + 2) wc]) (e := [(0, .agg (cP p).toArray), (1, .agg (cP q).toArray), (2, .slice (some ⟨wb, wo, none⟩) (rest.length + 2) wc)]) Try.func3 rfl rfl ⟨rfl, rfl, rfl, trivial⟩ (St.start w) ?_
  refine JC.seq (fun K0 hK0 => ?_)
  refine JC.region ?_
  refine J.box rfl rfl rfl (fun b3 => ?_)
  refine J.box rfl rfl rfl (fun b4 => ?_)
  refine J.assign rfl rfl ?_
  refine J.nil ?_
  refine JX.thenN (hK0 _ _ ?_)
  refine JC.seq (fun K1 hK1 => ?_)
  refine JC.seq (fun K2 hK2 => ?_)
  refine JC.region ?_
  (first | refine J.loadOA Ty.a25 Ty.s25 rfl (.head _) rfl rfl rfl ?_ | refine J.loadOA Ty.a25 Ty.s25 rfl (.tail _ (.head _)) rfl rfl rfl ?_ | refine J.loadOA Ty.a25 Ty.s25 rfl (.tail _ (.tail _ (.head _))) rfl rfl rfl ?_ | refine J.loadOA Ty.a25 Ty.s25 rfl (.tail _ (.tail _ (.tail _ (.head _)))) rfl rfl rfl ?_ | refine J.loadOA Ty.a25 Ty.s25 rfl (.tail _ (.tail _ (.tail _ (.tail _ (.head _))))) rfl rfl rfl ?_ | refine J.loadOA Ty.a25 Ty.s25 rfl (.tail _ (.tail _ (.tail _ (.tail _ (.tail _ (.head _)))))) rfl rfl rfl ?_ | refine J.loadOA Ty.a25 Ty.s25 rfl (.tail _ (.tail _ (.tail _ (.tail _ (.tail _ (.tail _ (.head _))))))) rfl rfl rfl ?_ | refine J.loadOA Ty.a25 Ty.s25 rfl (.tail _ (.tail _ (.tail _ (.tail _ (.tail _ (.tail _ (.tail _ (.head _)))))))) rfl rfl rfl ?_ | refine J.loadOA Ty.a25 Ty.s25 rfl (.tail _ (.tail _ (.tail _ (.tail _ (.tail _ (.tail _ (.tail _ (.tail _ (.head _))))))))) rfl rfl rfl ?_ | refine J.loadOA Ty.a25 Ty.s25 rfl (List.mem_append_right _ (.head _)) rfl rfl rfl ?_ | refine J.loadOA Ty.a25 Ty.s25 rfl (List.mem_append_right _ (.tail _ (.head _))) rfl rfl rfl ?_ | refine J.loadOA Ty.a25 Ty.s25 rfl (List.mem_append_right _ (.tail _ (.tail _ (.head _)))) rfl rfl rfl ?_ | refine J.loadOA Ty.a25 Ty.s25 rfl (List.mem_append_right _ (.tail _ (.tail _ (.tail _ (.head _))))) rfl rfl rfl ?_ | refine J.loadOA Ty.a25 Ty.s25 rfl (List.mem_append_right _ (.tail _ (.tail _ (.tail _ (.tail _ (.head _)))))) rfl rfl rfl ?_ | refine J.loadOA Ty.a25 Ty.s25 rfl (List.mem_append_right _ (.tail _ (.tail _ (.tail _ (.tail _ (.tail _ (.head _))))))) rfl rfl rfl ?_ | refine J.loadOA Ty.a25 Ty.s25 rfl (List.mem_append_right _ (.tail _ (.tail _ (.tail _ (.tail _ (.tail _ (.tail _ (.head _)))))))) rfl rfl rfl ?_ | refine J.loadOA Ty.a25 Ty.s25 rfl (List.mem_append_right _ (.tail _ (.tail _ (.tail _ (.tail _ (.tail _ (.tail _ (.tail _ (.head _))))))))) rfl rfl rfl ?_ | refine J.loadOA Ty.a25 Ty.s25 rfl (List.mem_append_right _ (.tail _ (.tail _ (.tail _ (.tail _ (.tail _ (.tail _ (.tail _ (.tail _ (.head _)))))))))) rfl rfl rfl ?_)
  (first | refine J.loadOA Ty.a25 Ty.s25 rfl (.head _) rfl rfl rfl ?_ | refine J.loadOA Ty.a25 Ty.s25 rfl (.tail _ (.head _)) rfl rfl rfl ?_ | refine J.loadOA Ty.a25 Ty.s25 rfl (.tail _ (.tail _ (.head _))) rfl rfl rfl ?_ | refine J.loadOA Ty.a25 Ty.s25 rfl (.tail _ (.tail _ (.tail _ (.head _)))) rfl rfl rfl ?_ | refine J.loadOA Ty.a25 Ty.s25 rfl (.tail _ (.tail _ (.tail _ (.tail _ (.head _))))) rfl rfl rfl ?_ | refine J.loadOA Ty.a25 Ty.s25 rfl (.tail _ (.tail _ (.tail _ (.tail _ (.tail _ (.head _)))))) rfl rfl rfl ?_ | refine J.loadOA Ty.a25 Ty.s25 rfl (.tail _ (.tail _ (.tail _ (.tail _ (.tail _ (.tail _ (.head _))))))) rfl rfl rfl ?_ | refine J.loadOA Ty.a25 Ty.s25 rfl (.tail _ (.tail _ (.tail _ (.tail _ (.tail _ (.tail _ (.tail _ (.head _)))))))) rfl rfl rfl ?_ | refine J.loadOA Ty.a25 Ty.s25 rfl (.tail _ (.tail _ (.tail _ (.tail _ (.tail _ (.tail _ (.tail _ (.tail _ (.head _))))))))) rfl rfl rfl ?_ | refine J.loadOA Ty.a25 Ty.s25 rfl (List.mem_append_right _ (.head _)) rfl rfl rfl ?_ | refine J.loadOA Ty.a25 Ty.s25 rfl (List.mem_append_right _ (.tail _ (.head _))) rfl rfl rfl ?_ | refine J.loadOA Ty.a25 Ty.s25 rfl (List.mem_append_right _ (.tail _ (.tail _ (.head _)))) rfl rfl rfl ?_ | refine J.loadOA Ty.a25 Ty.s25 rfl (List.mem_append_right _ (.tail _ (.tail _ (.tail _ (.head _))))) rfl rfl rfl ?_ | refine J.loadOA Ty.a25 Ty.s25 rfl (List.mem_append_right _ (.tail _ (.tail _ (.tail _ (.tail _ (.head _)))))) rfl rfl rfl ?_ | refine J.loadOA Ty.a25 Ty.s25 rfl (List.mem_append_right _ (.tail _ (.tail _ (.tail _ (.tail _ (.tail _ (.head _))))))) rfl rfl rfl ?_ | refine J.loadOA Ty.a25 Ty.s25 rfl (List.mem_append_right _ (.tail _ (.tail _ (.tail _ (.tail _ (.tail _ (.tail _ (.head _)))))))) rfl rfl rfl ?_ | refine J.loadOA Ty.a25 Ty.s25 rfl (List.mem_append_right _ (.tail _ (.tail _ (.tail _ (.tail _ (.tail _ (.tail _ (.tail _ (.head _))))))))) rfl rfl rfl ?_ | refine J.loadOA Ty.a25 Ty.s25 rfl (List.mem_append_right _ (.tail _ (.tail _ (.tail _ (.tail _ (.tail _ (.tail _ (.tail _ (.tail _ (.head _)))))))))) rfl rfl rfl ?_)
  refine J.eqP Ty.QP Ty.keyP rfl rfl hkp hkq rfl ?_
  refine J.name 14 rfl (show Value.bool _ = .bool false by simp [h1]) ?_
  refine J.move rfl rfl ?_
  first
    | (refine J.skip rfl rfl rfl rfl rfl ?_)
    | (refine J.skipU rfl rfl rfl rfl ?_)
    | (refine J.unguard rfl rfl rfl ?_; refine J.move rfl rfl ?_)
  first
    | (refine J.skip rfl rfl rfl rfl rfl ?_)
    | (refine J.skipU rfl rfl rfl rfl ?_)
    | (refine J.unguard rfl rfl rfl ?_; refine J.lenS rfl Ty.u26 rfl rfl ?_)
  first
    | (refine J.skip rfl rfl rfl rfl rfl ?_)
    | (refine J.skipU rfl rfl rfl rfl ?_)
    | (refine J.unguard rfl rfl rfl ?_; refine J.bin rfl rfl rfl rfl ?_; refine J.name 18 rfl (show Value.bool _ = .bool false by first | (simp; done) | (simp; omega)) ?_)
  (first | refine J.pickT rfl rfl rfl ?_ | refine J.pickF rfl rfl rfl ?_)
  refine J.move rfl rfl ?_
  first
    | (refine J.skip rfl rfl rfl rfl rfl ?_)
    | (refine J.skipU rfl rfl rfl rfl ?_)
    | (refine J.unguard rfl rfl rfl ?_; refine J.move rfl rfl ?_)
  first
    | (refine J.skip rfl rfl rfl rfl rfl ?_)
    | (refine J.skipU rfl rfl rfl rfl ?_)
    | (refine J.unguard rfl rfl rfl ?_; refine J.indexAddrS Ty.el26 Ty.s3 rfl rfl (by omega) (by omega) rfl ?_)
  first
    | (refine J.skip rfl rfl rfl rfl rfl ?_)
    | (refine J.skipU rfl rfl rfl rfl ?_)
    | (refine J.unguard rfl rfl rfl ?_; refine J.load1 (v := iV 0) Ty.a3 rfl (fun w1 hw => rowI_at (i := 0) (hr.below hw.below) rfl (by omega)) rfl ?_)
  first
    | (refine J.skip rfl rfl rfl rfl rfl ?_)
    | (refine J.skipU rfl rfl rfl rfl ?_)
    | (refine J.unguard rfl rfl rfl ?_; refine J.bin rfl rfl rfl rfl ?_; refine J.name 24 rfl (show Value.bool _ = .bool false by first | (simp [h3]; done) | (simp; done)) ?_)
  (first | refine J.pickT rfl rfl rfl ?_ | refine J.pickF rfl rfl rfl ?_)
  refine J.move rfl rfl ?_
  first
    | (refine J.skip rfl rfl rfl rfl rfl ?_)
    | (refine J.skipU rfl rfl rfl rfl ?_)
    | (refine J.unguard rfl rfl rfl ?_; refine J.move rfl rfl ?_)
  first
    | (refine J.skip rfl rfl rfl rfl rfl ?_)
    | (refine J.skipU rfl rfl rfl rfl ?_)
    | (refine J.unguard rfl rfl rfl ?_; refine J.indexAddrS Ty.el26 Ty.s3 rfl rfl (by omega) (by omega) rfl ?_)
  first
    | (refine J.skip rfl rfl rfl rfl rfl ?_)
    | (refine J.skipU rfl rfl rfl rfl ?_)
    | (refine J.unguard rfl rfl rfl ?_; refine J.load1 (v := iV n1) Ty.a3 rfl (fun w1 hw => rowI_at (i := 1) (hr.below hw.below) rfl (by omega)) rfl ?_)
  first
    | (refine J.skip rfl rfl rfl rfl rfl ?_)
    | (refine J.skipU rfl rfl rfl rfl ?_)
    | (refine J.unguard rfl rfl rfl ?_; refine J.bin rfl rfl rfl rfl ?_; refine J.name 30 rfl (show Value.bool _ = .bool false by first | (simp; done) | (simp; omega)) ?_)
  (first | refine J.pickT rfl rfl rfl ?_ | refine J.pickF rfl rfl rfl ?_)
  refine J.move rfl rfl ?_
  first
    | (refine J.skip rfl rfl rfl rfl rfl ?_)
    | (refine J.skipU rfl rfl rfl rfl ?_)
    | (refine J.unguard rfl rfl rfl ?_; refine J.move rfl rfl ?_)
  first
    | (refine J.skip rfl rfl rfl rfl rfl ?_)
    | (refine J.skipU rfl rfl rfl rfl ?_)
    | (refine J.unguard rfl rfl rfl ?_; refine J.indexAddrS Ty.el26 Ty.s3 rfl rfl (by omega) (by omega) rfl ?_)
  first
    | (refine J.skip rfl rfl rfl rfl rfl ?_)
    | (refine J.skipU rfl rfl rfl rfl ?_)
    | (refine J.unguard rfl rfl rfl ?_; refine J.load1 (v := iV n1) Ty.a3 rfl (fun w1 hw => rowI_at (i := 1) (hr.below hw.below) rfl (by omega)) rfl ?_)
  first
    | (refine J.skip rfl rfl rfl rfl rfl ?_)
    | (refine J.skipU rfl rfl rfl rfl ?_)
    | (refine J.unguard rfl rfl rfl ?_; refine J.bin rfl rfl rfl rfl ?_; refine J.name 36 rfl (show Value.bool _ = .bool true by first | (simp; done) | (simp; omega)) ?_)
  (first | refine J.pickT rfl rfl rfl ?_ | refine J.pickF rfl rfl rfl ?_)
  refine J.move rfl rfl ?_
  first
    | (refine J.skip rfl rfl rfl rfl rfl ?_)
    | (refine J.skipU rfl rfl rfl rfl ?_)
    | (refine J.unguard rfl rfl rfl ?_; refine J.callB (v := .bool true) (fun w1 w2 hw hb => hw.step hb) Ty.bd15 rfl rfl (fun w1 hw => fixed14_spec w1) ?_)
  first
    | (refine J.skip rfl rfl rfl rfl rfl ?_)
    | (refine J.skipU rfl rfl rfl rfl ?_)
    | (refine J.unguard rfl rfl rfl ?_; refine J.not rfl rfl ?_)
  (first | refine J.pickT rfl rfl rfl ?_ | refine J.pickF rfl rfl rfl ?_)
  refine J.nil ?_
  refine JX.thenN (hK2 _ _ ?_)
  first | refine JC.condT rfl ?_ | refine JC.cond rfl (fun _ => ?_) (fun h => by first | (exfalso; simp at h; omega) | (simp at h))
  refine JC.seq (fun K3 hK3 => ?_)
  refine JC.region ?_
  refine J.callB (v := .bool true) (fun w1 w2 hw hb => hw.step hb) Ty.bd15 rfl rfl (fun w1 hw => fixed14_spec w1) ?_
  refine J.assign rfl rfl ?_
  refine J.nil ?_
  refine JX.thenN (hK3 _ _ ?_)
  refine JC.ret ?_
  refine JX.thenR ?_
  refine JX.ret1 rfl rfl (fun w hw => ?_)
  exact ⟨rfl, hw.below⟩

theorem full6 (w : World) (p q : PV) (hkp : okN p.n) (hkq : okN q.n) (wb wo wc : Nat) (n1 : Int) (rest : List Int) (hr : Row w (.slice (some ⟨wb, wo, none⟩) (rest.length + 2) wc) (rest.length + 2) ((0 :: n1 :: rest).map iV)) (h1 : ¬ p = q) (h4 : 1 ≤ n1) (h5 : n1 ≤ 5) :
    Calls Try.prog 3 [.agg (cP p).toArray, .agg (cP q).toArray, .slice (some ⟨wb, wo, none⟩) (rest.length + 2) wc].toArray w fun r w' => r = .returned (.bool true) ∧ Below w.heap.size w w' := by
  have hcap := hr.cap
  have hr2 := row_two hr rfl
  refine calls_of_J (args := [.agg (cP p).toArray, .agg (cP q).toArray, .slice (some ⟨wb, wo, none⟩) (rest.length + 2) wc]) (e := [(0, .agg (cP p).toArray), (1, .agg (cP q).toArray), (2, .slice (some ⟨wb, wo, none⟩) (rest.length + 2) wc)]) Try.func3 rfl rfl ⟨rfl, rfl, rfl, trivial⟩ (St.start w) ?_
  refine JC.seq (fun K0 hK0 => ?_)
  refine JC.region ?_
  refine J.box rfl rfl rfl (fun b3 => ?_)
  refine J.box rfl rfl rfl (fun b4 => ?_)
  refine J.assign rfl rfl ?_
  refine J.nil ?_
  refine JX.thenN (hK0 _ _ ?_)
  refine JC.seq (fun K1 hK1 => ?_)
  refine JC.seq (fun K2 hK2 => ?_)
  refine JC.region ?_
  (first | refine J.loadOA (vs := cP p) Ty.a25 Ty.s25 rfl (.head _) rfl rfl rfl ?_ | refine J.loadOA (vs := cP p) Ty.a25 Ty.s25 rfl (.tail _ (.head _)) rfl rfl rfl ?_ | refine J.loadOA (vs := cP p) Ty.a25 Ty.s25 rfl (.tail _ (.tail _ (.head _))) rfl rfl rfl ?_ | refine J.loadOA (vs := cP p) Ty.a25 Ty.s25 rfl (.tail _ (.tail _ (.tail _ (.head _)))) rfl rfl rfl ?_ | refine J.loadOA (vs := cP p) Ty.a25 Ty.s25 rfl (.tail _ (.tail _ (.tail _ (.tail _ (.head _))))) rfl rfl rfl ?_ | refine J.loadOA (vs := cP p) Ty.a25 Ty.s25 rfl (.tail _ (.tail _ (.tail _ (.tail _ (.tail _ (.head _)))))) rfl rfl rfl ?_ | refine J.loadOA (vs := cP p) Ty.a25 Ty.s25 rfl (.tail _ (.tail _ (.tail _ (.tail _ (.tail _ (.tail _ (.head _))))))) rfl rfl rfl ?_ | refine J.loadOA (vs := cP p) Ty.a25 Ty.s25 rfl (.tail _ (.tail _ (.tail _ (.tail _ (.tail _ (.tail _ (.tail _ (.head _)))))))) rfl rfl rfl ?_ | refine J.loadOA (vs := cP p) Ty.a25 Ty.s25 rfl (.tail _ (.tail _ (.tail _ (.tail _ (.tail _ (.tail _ (.tail _ (.tail _ (.head _))))))))) rfl rfl rfl ?_ | refine J.loadOA (vs := cP p) Ty.a25 Ty.s25 rfl (List.mem_append_right _ (.head _)) rfl rfl rfl ?_ | refine J.loadOA (vs := cP p) Ty.a25 Ty.s25 rfl (List.mem_append_right _ (.tail _ (.head _))) rfl rfl rfl ?_ | refine J.loadOA (vs := cP p) Ty.a25 Ty.s25 rfl (List.mem_append_right _ (.tail _ (.tail _ (.head _)))) rfl rfl rfl ?_ | refine J.loadOA (vs := cP p) Ty.a25 Ty.s25 rfl (List.mem_append_right _ (.tail _ (.tail _ (.tail _ (.head _))))) rfl rfl rfl ?_ | refine J.loadOA (vs := cP p) Ty.a25 Ty.s25 rfl (List.mem_append_right _ (.tail _ (.tail _ (.tail _ (.tail _ (.head _)))))) rfl rfl rfl ?_ | refine J.loadOA (vs := cP p) Ty.a25 Ty.s25 rfl (List.mem_append_right _ (.tail _ (.tail _ (.tail _ (.tail _ (.tail _ (.head _))))))) rfl rfl rfl ?_ | refine J.loadOA (vs := cP p) Ty.a25 Ty.s25 rfl (List.mem_append_right _ (.tail _ (.tail _ (.tail _ (.tail _ (.tail _ (.tail _ (.head _)))))))) rfl rfl rfl ?_ | refine J.loadOA (vs := cP p) Ty.a25 Ty.s25 rfl (List.mem_append_right _ (.tail _ (.tail _ (.tail _ (.tail _ (.tail _ (.tail _ (.tail _ (.head _))))))))) rfl rfl rfl ?_ | refine J.loadOA (vs := cP p) Ty.a25 Ty.s25 rfl (List.mem_append_right _ (.tail _ (.tail _ (.tail _ (.tail _ (.tail _ (.tail _ (.tail _ (.tail _ (.head _)))))))))) rfl rfl rfl ?_)
  (first | refine J.loadOA (vs := cP q) Ty.a25 Ty.s25 rfl (.head _) rfl rfl rfl ?_ | refine J.loadOA (vs := cP q) Ty.a25 Ty.s25 rfl (.tail _ (.head _)) rfl rfl rfl ?_ | refine J.loadOA (vs := cP q) Ty.a25 Ty.s25 rfl (.tail _ (.tail _ (.head _))) rfl rfl rfl ?_ | refine J.loadOA (vs := cP q) Ty.a25 Ty.s25 rfl (.tail _ (.tail _ (.tail _ (.head _)))) rfl rfl rfl ?_ | refine J.loadOA (vs := cP q) Ty.a25 Ty.s25 rfl (.tail _ (.tail _ (.tail _ (.tail _ (.head _))))) rfl rfl rfl ?_ | refine J.loadOA (vs := cP q) Ty.a25 Ty.s25 rfl (.tail _ (.tail _ (.tail _ (.tail _ (.tail _ (.head _)))))) rfl rfl rfl ?_ | refine J.loadOA (vs := cP q) Ty.a25 Ty.s25 rfl (.tail _ (.tail _ (.tail _ (.tail _ (.tail _ (.tail _ (.head _))))))) rfl rfl rfl ?_ | refine J.loadOA (vs := cP q) Ty.a25 Ty.s25 rfl (.tail _ (.tail _ (.tail _ (.tail _ (.tail _ (.tail _ (.tail _ (.head _)))))))) rfl rfl rfl ?_ | refine J.loadOA (vs := cP q) Ty.a25 Ty.s25 rfl (.tail _ (.tail _ (.tail _ (.tail _ (.tail _ (.tail _ (.tail _ (.tail _ (.head _))))))))) rfl rfl rfl ?_ | refine J.loadOA (vs := cP q) Ty.a25 Ty.s25 rfl (List.mem_append_right _ (.head _)) rfl rfl rfl ?_ | refine J.loadOA (vs := cP q) Ty.a25 Ty.s25 rfl (List.mem_append_right _ (.tail _ (.head _))) rfl rfl rfl ?_ | refine J.loadOA (vs := cP q) Ty.a25 Ty.s25 rfl (List.mem_append_right _ (.tail _ (.tail _ (.head _)))) rfl rfl rfl ?_ | refine J.loadOA (vs := cP q) Ty.a25 Ty.s25 rfl (List.mem_append_right _ (.tail _ (.tail _ (.tail _ (.head _))))) rfl rfl rfl ?_ | refine J.loadOA (vs := cP q) Ty.a25 Ty.s25 rfl (List.mem_append_right _ (.tail _ (.tail _ (.tail _ (.tail _ (.head _)))))) rfl rfl rfl ?_ | refine J.loadOA (vs := cP q) Ty.a25 Ty.s25 rfl (List.mem_append_right _ (.tail _ (.tail _ (.tail _ (.tail _ (.tail _ (.head _))))))) rfl rfl rfl ?_ | refine J.loadOA (vs := cP q) Ty.a25 Ty.s25 rfl (List.mem_append_right _ (.tail _ (.tail _ (.tail _ (.tail _ (.tail _ (.tail _ (.head _)))))))) rfl rfl rfl ?_ | refine J.loadOA (vs := cP q) Ty.a25 Ty.s25 rfl (List.mem_append_right _ (.tail _ (.tail _ (.tail _ (.tail _ (.tail _ (.tail _ (.tail _ (.head _))))))))) rfl rfl rfl ?_ | refine J.loadOA (vs := cP q) Ty.a25 Ty.s25 rfl (List.mem_append_right _ (.tail _ (.tail _ (.tail _ (.tail _ (.tail _ (.tail _ (.tail _ (.tail _ (.head _)))))))))) rfl rfl rfl ?_)
  refine J.eqP Ty.QP Ty.keyP rfl rfl hkp hkq rfl ?_
  refine J.name 14 rfl (show Value.bool _ = .bool false by simp [h1]) ?_
  refine J.move rfl rfl ?_
  first
    | (refine J.skip rfl rfl rfl rfl rfl ?_)
    | (refine J.skipU rfl rfl rfl rfl ?_)
    | (refine J.unguard rfl rfl rfl ?_; refine J.move rfl rfl ?_)
  first
    | (refine J.skip rfl rfl rfl rfl rfl ?_)
    | (refine J.skipU rfl rfl rfl rfl ?_)
    | (refine J.unguard rfl rfl rfl ?_; refine J.lenS rfl Ty.u26 rfl rfl ?_)
  first
    | (refine J.skip rfl rfl rfl rfl rfl ?_)
    | (refine J.skipU rfl rfl rfl rfl ?_)
    | (refine J.unguard rfl rfl rfl ?_; refine J.bin rfl rfl rfl rfl ?_; refine J.name 18 rfl (show Value.bool _ = .bool false by first | (simp; done) | (simp; omega)) ?_)
  (first | refine J.pickT rfl rfl rfl ?_ | refine J.pickF rfl rfl rfl ?_)
  refine J.move rfl rfl ?_
  first
    | (refine J.skip rfl rfl rfl rfl rfl ?_)
    | (refine J.skipU rfl rfl rfl rfl ?_)
    | (refine J.unguard rfl rfl rfl ?_; refine J.move rfl rfl ?_)
  first
    | (refine J.skip rfl rfl rfl rfl rfl ?_)
    | (refine J.skipU rfl rfl rfl rfl ?_)
    | (refine J.unguard rfl rfl rfl ?_; refine J.indexAddrS Ty.el26 Ty.s3 rfl rfl (by omega) (by omega) rfl ?_)
  first
    | (refine J.skip rfl rfl rfl rfl rfl ?_)
    | (refine J.skipU rfl rfl rfl rfl ?_)
    | (refine J.unguard rfl rfl rfl ?_; refine J.load1 (v := iV 0) Ty.a3 rfl (fun w1 hw => rowI_at (i := 0) (hr.below hw.below) rfl (by omega)) rfl ?_)
  first
    | (refine J.skip rfl rfl rfl rfl rfl ?_)
    | (refine J.skipU rfl rfl rfl rfl ?_)
    | (refine J.unguard rfl rfl rfl ?_; refine J.bin rfl rfl rfl rfl ?_; refine J.name 24 rfl (show Value.bool _ = .bool false by first | (simp [h3]; done) | (simp; done)) ?_)
  (first | refine J.pickT rfl rfl rfl ?_ | refine J.pickF rfl rfl rfl ?_)
  refine J.move rfl rfl ?_
  first
    | (refine J.skip rfl rfl rfl rfl rfl ?_)
    | (refine J.skipU rfl rfl rfl rfl ?_)
    | (refine J.unguard rfl rfl rfl ?_; refine J.move rfl rfl ?_)
  first
    | (refine J.skip rfl rfl rfl rfl rfl ?_)
    | (refine J.skipU rfl rfl rfl rfl ?_)
    | (refine J.unguard rfl rfl rfl ?_; refine J.indexAddrS Ty.el26 Ty.s3 rfl rfl (by omega) (by omega) rfl ?_)
  first
    | (refine J.skip rfl rfl rfl rfl rfl ?_)
    | (refine J.skipU rfl rfl rfl rfl ?_)
    | (refine J.unguard rfl rfl rfl ?_; refine J.load1 (v := iV n1) Ty.a3 rfl (fun w1 hw => rowI_at (i := 1) (hr.below hw.below) rfl (by omega)) rfl ?_)
  first
    | (refine J.skip rfl rfl rfl rfl rfl ?_)
    | (refine J.skipU rfl rfl rfl rfl ?_)
    | (refine J.unguard rfl rfl rfl ?_; refine J.bin rfl rfl rfl rfl ?_; refine J.name 30 rfl (show Value.bool _ = .bool false by first | (simp; done) | (simp; omega)) ?_)
  (first | refine J.pickT rfl rfl rfl ?_ | refine J.pickF rfl rfl rfl ?_)
  refine J.move rfl rfl ?_
  first
    | (refine J.skip rfl rfl rfl rfl rfl ?_)
    | (refine J.skipU rfl rfl rfl rfl ?_)
    | (refine J.unguard rfl rfl rfl ?_; refine J.move rfl rfl ?_)
  first
    | (refine J.skip rfl rfl rfl rfl rfl ?_)
    | (refine J.skipU rfl rfl rfl rfl ?_)
    | (refine J.unguard rfl rfl rfl ?_; refine J.indexAddrS Ty.el26 Ty.s3 rfl rfl (by omega) (by omega) rfl ?_)
  first
    | (refine J.skip rfl rfl rfl rfl rfl ?_)
    | (refine J.skipU rfl rfl rfl rfl ?_)
    | (refine J.unguard rfl rfl rfl ?_; refine J.load1 (v := iV n1) Ty.a3 rfl (fun w1 hw => rowI_at (i := 1) (hr.below hw.below) rfl (by omega)) rfl ?_)
  first
    | (refine J.skip rfl rfl rfl rfl rfl ?_)
    | (refine J.skipU rfl rfl rfl rfl ?_)
    | (refine J.unguard rfl rfl rfl ?_; refine J.bin rfl rfl rfl rfl ?_; refine J.name 36 rfl (show Value.bool _ = .bool false by first | (simp; done) | (simp; omega)) ?_)
  (first | refine J.pickT rfl rfl rfl ?_ | refine J.pickF rfl rfl rfl ?_)
  refine J.move rfl rfl ?_
  first
    | (refine J.skip rfl rfl rfl rfl rfl ?_)
    | (refine J.skipU rfl rfl rfl rfl ?_)
    | (refine J.unguard rfl rfl rfl ?_; refine J.callB (v := .bool true) (fun w1 w2 hw hb => hw.step hb) Ty.bd15 rfl rfl (fun w1 hw => fixed14_spec w1) ?_)
  first
    | (refine J.skip rfl rfl rfl rfl rfl ?_)
    | (refine J.skipU rfl rfl rfl rfl ?_)
    | (refine J.unguard rfl rfl rfl ?_; refine J.not rfl rfl ?_)
  (first | refine J.pickT rfl rfl rfl ?_ | refine J.pickF rfl rfl rfl ?_)
  refine J.nil ?_
  refine JX.thenN (hK2 _ _ ?_)
  first | refine JC.condF rfl ?_ | refine JC.cond rfl (fun h => by first | (exfalso; simp at h; omega) | (simp at h)) (fun _ => ?_)
  refine JC.skip ?_
  refine JX.thenN (hK1 _ _ ?_)
  refine JC.seq (fun K3 hK3 => ?_)
  refine JC.region ?_
  refine J.buildSl (cs := (OPS 6).map bV) Ty.el28 Ty.s4 Ty.z4 rfl rfl rfl rfl (by kernel_rfl) rfl rfl (fun b43 => ?_)
  refine J.assign rfl rfl ?_
  refine J.nil ?_
  refine JX.thenN (hK3 _ _ ?_)
  refine JC.seq (fun K4 hK4 => ?_)
  refine JC.region ?_
  refine J.perm ([] ++ ((b43, cb ((OPS 6).map bV) 4) :: (b4, cb (cP q) 25) :: (b3, cb (cP p) 25) :: [])) (.refl _) ?_
  refine J.callS (α := Nat × Nat) (V := fun x => .pointer (some ⟨x.1, 0, none⟩)) (Pr := fun _ => True) (L := fun x => [(x.1, tabO 1 x.2), (x.2, .map #[] 0)]) (l1 := []) Ty.bd16 rfl rfl (fun w1 hw => (new_spec 1 w1).mono fun _ _ ⟨x, h1, h2⟩ => ⟨x, h1, trivial, h2⟩) (fun x _ => ?_)
  obtain ⟨t8, m8⟩ := x
  simp only
  refine J.assign rfl rfl ?_
  refine J.nil ?_
  refine JX.thenN (hK4 _ _ ?_)
  refine JC.seq (fun K5 hK5 => ?_)
  refine JC.seq (fun K6 hK6 => ?_)
  refine JC.region ?_
  refine J.move rfl rfl ?_
  (first | refine J.loadOA (vs := cP q) Ty.a25 Ty.s25 rfl (.head _) rfl rfl rfl ?_ | refine J.loadOA (vs := cP q) Ty.a25 Ty.s25 rfl (.tail _ (.head _)) rfl rfl rfl ?_ | refine J.loadOA (vs := cP q) Ty.a25 Ty.s25 rfl (.tail _ (.tail _ (.head _))) rfl rfl rfl ?_ | refine J.loadOA (vs := cP q) Ty.a25 Ty.s25 rfl (.tail _ (.tail _ (.tail _ (.head _)))) rfl rfl rfl ?_ | refine J.loadOA (vs := cP q) Ty.a25 Ty.s25 rfl (.tail _ (.tail _ (.tail _ (.tail _ (.head _))))) rfl rfl rfl ?_ | refine J.loadOA (vs := cP q) Ty.a25 Ty.s25 rfl (.tail _ (.tail _ (.tail _ (.tail _ (.tail _ (.head _)))))) rfl rfl rfl ?_ | refine J.loadOA (vs := cP q) Ty.a25 Ty.s25 rfl (.tail _ (.tail _ (.tail _ (.tail _ (.tail _ (.tail _ (.head _))))))) rfl rfl rfl ?_ | refine J.loadOA (vs := cP q) Ty.a25 Ty.s25 rfl (.tail _ (.tail _ (.tail _ (.tail _ (.tail _ (.tail _ (.tail _ (.head _)))))))) rfl rfl rfl ?_ | refine J.loadOA (vs := cP q) Ty.a25 Ty.s25 rfl (.tail _ (.tail _ (.tail _ (.tail _ (.tail _ (.tail _ (.tail _ (.tail _ (.head _))))))))) rfl rfl rfl ?_ | refine J.loadOA (vs := cP q) Ty.a25 Ty.s25 rfl (List.mem_append_right _ (.head _)) rfl rfl rfl ?_ | refine J.loadOA (vs := cP q) Ty.a25 Ty.s25 rfl (List.mem_append_right _ (.tail _ (.head _))) rfl rfl rfl ?_ | refine J.loadOA (vs := cP q) Ty.a25 Ty.s25 rfl (List.mem_append_right _ (.tail _ (.tail _ (.head _)))) rfl rfl rfl ?_ | refine J.loadOA (vs := cP q) Ty.a25 Ty.s25 rfl (List.mem_append_right _ (.tail _ (.tail _ (.tail _ (.head _))))) rfl rfl rfl ?_ | refine J.loadOA (vs := cP q) Ty.a25 Ty.s25 rfl (List.mem_append_right _ (.tail _ (.tail _ (.tail _ (.tail _ (.head _)))))) rfl rfl rfl ?_ | refine J.loadOA (vs := cP q) Ty.a25 Ty.s25 rfl (List.mem_append_right _ (.tail _ (.tail _ (.tail _ (.tail _ (.tail _ (.head _))))))) rfl rfl rfl ?_ | refine J.loadOA (vs := cP q) Ty.a25 Ty.s25 rfl (List.mem_append_right _ (.tail _ (.tail _ (.tail _ (.tail _ (.tail _ (.tail _ (.head _)))))))) rfl rfl rfl ?_ | refine J.loadOA (vs := cP q) Ty.a25 Ty.s25 rfl (List.mem_append_right _ (.tail _ (.tail _ (.tail _ (.tail _ (.tail _ (.tail _ (.tail _ (.head _))))))))) rfl rfl rfl ?_ | refine J.loadOA (vs := cP q) Ty.a25 Ty.s25 rfl (List.mem_append_right _ (.tail _ (.tail _ (.tail _ (.tail _ (.tail _ (.tail _ (.tail _ (.tail _ (.head _)))))))))) rfl rfl rfl ?_)
  refine J.buildA (cs := cI (idN 1)) Ty.ar23 Ty.s5 Ty.z23 rfl (by kernel_rfl) rfl ?_
  refine J.buildA (cs := cI (idN 2)) Ty.ar23 Ty.s5 Ty.z23 rfl (by kernel_rfl) rfl ?_
  refine J.buildS (cs := cE (⟨q, idN 1, idN 2, 1, 2⟩ : EV)) Ty.pl34 Ty.zE_ rfl (by kernel_rfl) rfl ?_
  refine J.perm ([(t8, tabO 1 m8), (m8, .map #[] 0)] ++ ((b43, cb ((OPS 6).map bV) 4) :: (b4, cb (cP q) 25) :: (b3, cb (cP p) 25) :: [])) (.refl _) ?_
  refine J.callS (α := Array MapEntry × Nat) (V := fun _ => .int .i64 0) (Pr := fun y => Tab [(⟨q, idN 1, idN 2, 1, 2⟩ : EV)] y.1 y.2) (L := fun y => [(t8, tabO 1 m8), (m8, .map y.1 y.2)]) (l1 := [(t8, tabO 1 m8), (m8, .map #[] 0)]) Ty.bd17 rfl rfl (fun w1 hw => add_all hw.owns Tab.nil (⟨q, idN 1, idN 2, 1, 2⟩ : EV) ⟨hkq, (show okN 1 by decide), (show okN 2 by decide)⟩ (tadd_nil ⟨idN_ne (by decide), (show okTN 1 by decide), (show okTN 2 by decide), (show (1 : Int) ≠ 2 by decide)⟩ (by decide))) (fun y hT => ?_)
  obtain ⟨es5, ck5⟩ := y
  simp only at hT ⊢
  refine J.perm ((b43, cb ((OPS 6).map bV) 4) :: (b3, cb (cP p) 25) :: (b4, cb (cP q) 25) :: (t8, tabO 1 m8) :: (m8, .map es5 ck5) :: []) (by (refine perm_cnt (fun _ => ?_)); simp only [cntB_append, cntB_cons, cntB_nil, Nat.add_zero, Nat.zero_add]; try ac_rfl) ?_
  refine J.bin rfl rfl rfl rfl ?_
  refine J.nil ?_
  refine JX.thenN (hK6 _ _ ?_)
  first | refine JC.condF rfl ?_ | refine JC.cond rfl (fun h => by first | (exfalso; simp at h; omega) | (simp at h)) (fun _ => ?_)
  refine JC.skip ?_
  refine JX.thenN (hK5 _ _ ?_)
  refine JC.seq (fun K7 hK7 => ?_)
  apply JC.drawX (α := Array MapEntry × Nat × Nat) 14 (fun x => match x with | ⟨es7, ck7, xa⟩ => [.pointer (some ⟨t8, 0, none⟩), .agg (cI (idN 1)).toArray, .agg (cW 0 (idN 1)).toArray, .agg (cP p).toArray, .agg (cI (idN 2)).toArray, .slice (some ⟨wb, wo, none⟩) (rest.length + 2) wc, .slice (some ⟨wb, wo, none⟩) 2 wc, .slice (some ⟨b43, 0, none⟩) 6 6, .tuple #[.agg (cD nilV false true).toArray, .int .i64 5], .tuple #[.agg (cD nilV false true).toArray, .int .i64 5], .agg (cD nilV false true).toArray, .int .i64 5, .pointer (some ⟨xa, 0, none⟩), undef]) (fun m x => match x with | ⟨es7, ck7, xa⟩ => fun w1 => ((m 13 = true → m 12 = true) ∧ (m 8 = true → Tab [(⟨q, idN 1, idN 2, 1, 2⟩ : EV)] es7 ck7)) ∧ St w [] ((b43, cb ((OPS 6).map bV) 4) :: (b3, cb (cP p) 25) :: (b4, cb (cP q) 25) :: ((bif m 8 then [(t8, tabO 1 m8), (m8, .map es7 ck7)] else [(t8, tabO 1 m8), (m8, .map es5 ck5)]) ++ (bif m 12 then [(xa, cb (bif m 13 then (cD nilV false true) else (cD nilV false false)) 37)] else []))) w1) Ty.mixed rfl rfl rfl (by kernel_rfl) rfl rfl ?hinit ?hstep ?htail
  case hinit => exact fun w1 hw => ⟨(#[], 0, 0), ⟨fun h => (by cases h), fun h => (by cases h)⟩, hw.drew⟩
  case hstep =>
    refine ⟨fun m x hm hp => ?_, fun m x hm hp => ?_, fun m x hm hp => ?_, fun m x hm hp => ?_, fun m x hm hp => ?_, fun m x hm hp => ?_, fun m x hm hp => ?_, fun m x hm hp => ?_, fun m x hm hp => ?_, fun m x hm hp => ?_, fun m x hm hp => ?_, fun m x hm hp => ?_, fun m x hm hp => ?_, fun m x hm hp => ?_, trivial⟩
    · skip
      obtain ⟨es7, ck7, xa⟩ := x
      show J _ _ _ _ _ (_) (fun w1 => ((m 13 = true → m 12 = true) ∧ (m 8 = true → Tab [(⟨q, idN 1, idN 2, 1, 2⟩ : EV)] es7 ck7)) ∧ St w [] ((b43, cb ((OPS 6).map bV) 4) :: (b3, cb (cP p) 25) :: (b4, cb (cP q) 25) :: ((bif m 8 then [(t8, tabO 1 m8), (m8, .map es7 ck7)] else [(t8, tabO 1 m8), (m8, .map es5 ck5)]) ++ (bif m 12 then [(xa, cb (bif m 13 then (cD nilV false true) else (cD nilV false false)) 37)] else []))) w1)
      refine J.pr (fun hF => ?_)
      refine J.move rfl rfl ?_
      exact J.nil (JX.finB rfl (fun w1 hw => ⟨⟨⟨es7, ck7, xa⟩, rfl, fun _ _ _ => rfl, hF, hw⟩, trivial⟩))
    · skip
      obtain ⟨es7, ck7, xa⟩ := x
      show J _ _ _ _ _ (_) (fun w1 => ((m 13 = true → m 12 = true) ∧ (m 8 = true → Tab [(⟨q, idN 1, idN 2, 1, 2⟩ : EV)] es7 ck7)) ∧ St w [] ((b43, cb ((OPS 6).map bV) 4) :: (b3, cb (cP p) 25) :: (b4, cb (cP q) 25) :: ((bif m 8 then [(t8, tabO 1 m8), (m8, .map es7 ck7)] else [(t8, tabO 1 m8), (m8, .map es5 ck5)]) ++ (bif m 12 then [(xa, cb (bif m 13 then (cD nilV false true) else (cD nilV false false)) 37)] else []))) w1)
      refine J.pr (fun hF => ?_)
      refine J.buildA (cs := cI (idN 1)) Ty.ar23 Ty.s5 Ty.z23 rfl (by kernel_rfl) rfl ?_
      exact J.nil (JX.finB rfl (fun w1 hw => ⟨⟨⟨es7, ck7, xa⟩, rfl, fun _ _ _ => rfl, hF, hw⟩, trivial⟩))
    · skip
      obtain ⟨es7, ck7, xa⟩ := x
      show J _ _ _ _ _ ((54, .agg (cI (idN 1)).toArray) :: _) (fun w1 => ((m 13 = true → m 12 = true) ∧ (m 8 = true → Tab [(⟨q, idN 1, idN 2, 1, 2⟩ : EV)] es7 ck7)) ∧ St w [] ((b43, cb ((OPS 6).map bV) 4) :: (b3, cb (cP p) 25) :: (b4, cb (cP q) 25) :: ((bif m 8 then [(t8, tabO 1 m8), (m8, .map es7 ck7)] else [(t8, tabO 1 m8), (m8, .map es5 ck5)]) ++ (bif m 12 then [(xa, cb (bif m 13 then (cD nilV false true) else (cD nilV false false)) 37)] else []))) w1)
      refine J.pr (fun hF => ?_)
      refine J.buildS (cs := cW 0 (idN 1)) Ty.pl41 zW rfl (by kernel_rfl) rfl ?_
      exact J.nil (JX.finB rfl (fun w1 hw => ⟨⟨⟨es7, ck7, xa⟩, rfl, fun _ _ _ => rfl, hF, hw⟩, trivial⟩))
    · skip
      obtain ⟨es7, ck7, xa⟩ := x
      show J _ _ _ _ _ (_) (fun w1 => ((m 13 = true → m 12 = true) ∧ (m 8 = true → Tab [(⟨q, idN 1, idN 2, 1, 2⟩ : EV)] es7 ck7)) ∧ St w [] ((b43, cb ((OPS 6).map bV) 4) :: (b3, cb (cP p) 25) :: (b4, cb (cP q) 25) :: ((bif m 8 then [(t8, tabO 1 m8), (m8, .map es7 ck7)] else [(t8, tabO 1 m8), (m8, .map es5 ck5)]) ++ (bif m 12 then [(xa, cb (bif m 13 then (cD nilV false true) else (cD nilV false false)) 37)] else []))) w1)
      refine J.pr (fun hF => ?_)
      (first | refine J.loadOA (vs := cP p) Ty.a25 Ty.s25 rfl (.head _) rfl rfl rfl ?_ | refine J.loadOA (vs := cP p) Ty.a25 Ty.s25 rfl (.tail _ (.head _)) rfl rfl rfl ?_ | refine J.loadOA (vs := cP p) Ty.a25 Ty.s25 rfl (.tail _ (.tail _ (.head _))) rfl rfl rfl ?_ | refine J.loadOA (vs := cP p) Ty.a25 Ty.s25 rfl (.tail _ (.tail _ (.tail _ (.head _)))) rfl rfl rfl ?_ | refine J.loadOA (vs := cP p) Ty.a25 Ty.s25 rfl (.tail _ (.tail _ (.tail _ (.tail _ (.head _))))) rfl rfl rfl ?_ | refine J.loadOA (vs := cP p) Ty.a25 Ty.s25 rfl (.tail _ (.tail _ (.tail _ (.tail _ (.tail _ (.head _)))))) rfl rfl rfl ?_ | refine J.loadOA (vs := cP p) Ty.a25 Ty.s25 rfl (.tail _ (.tail _ (.tail _ (.tail _ (.tail _ (.tail _ (.head _))))))) rfl rfl rfl ?_ | refine J.loadOA (vs := cP p) Ty.a25 Ty.s25 rfl (.tail _ (.tail _ (.tail _ (.tail _ (.tail _ (.tail _ (.tail _ (.head _)))))))) rfl rfl rfl ?_ | refine J.loadOA (vs := cP p) Ty.a25 Ty.s25 rfl (.tail _ (.tail _ (.tail _ (.tail _ (.tail _ (.tail _ (.tail _ (.tail _ (.head _))))))))) rfl rfl rfl ?_ | refine J.loadOA (vs := cP p) Ty.a25 Ty.s25 rfl (List.mem_append_right _ (.head _)) rfl rfl rfl ?_ | refine J.loadOA (vs := cP p) Ty.a25 Ty.s25 rfl (List.mem_append_right _ (.tail _ (.head _))) rfl rfl rfl ?_ | refine J.loadOA (vs := cP p) Ty.a25 Ty.s25 rfl (List.mem_append_right _ (.tail _ (.tail _ (.head _)))) rfl rfl rfl ?_ | refine J.loadOA (vs := cP p) Ty.a25 Ty.s25 rfl (List.mem_append_right _ (.tail _ (.tail _ (.tail _ (.head _))))) rfl rfl rfl ?_ | refine J.loadOA (vs := cP p) Ty.a25 Ty.s25 rfl (List.mem_append_right _ (.tail _ (.tail _ (.tail _ (.tail _ (.head _)))))) rfl rfl rfl ?_ | refine J.loadOA (vs := cP p) Ty.a25 Ty.s25 rfl (List.mem_append_right _ (.tail _ (.tail _ (.tail _ (.tail _ (.tail _ (.head _))))))) rfl rfl rfl ?_ | refine J.loadOA (vs := cP p) Ty.a25 Ty.s25 rfl (List.mem_append_right _ (.tail _ (.tail _ (.tail _ (.tail _ (.tail _ (.tail _ (.head _)))))))) rfl rfl rfl ?_ | refine J.loadOA (vs := cP p) Ty.a25 Ty.s25 rfl (List.mem_append_right _ (.tail _ (.tail _ (.tail _ (.tail _ (.tail _ (.tail _ (.tail _ (.head _))))))))) rfl rfl rfl ?_ | refine J.loadOA (vs := cP p) Ty.a25 Ty.s25 rfl (List.mem_append_right _ (.tail _ (.tail _ (.tail _ (.tail _ (.tail _ (.tail _ (.tail _ (.tail _ (.head _)))))))))) rfl rfl rfl ?_)
      exact J.nil (JX.finB rfl (fun w1 hw => ⟨⟨⟨es7, ck7, xa⟩, rfl, fun _ _ _ => rfl, hF, hw⟩, trivial⟩))
    · skip
      obtain ⟨es7, ck7, xa⟩ := x
      show J _ _ _ _ _ (_) (fun w1 => ((m 13 = true → m 12 = true) ∧ (m 8 = true → Tab [(⟨q, idN 1, idN 2, 1, 2⟩ : EV)] es7 ck7)) ∧ St w [] ((b43, cb ((OPS 6).map bV) 4) :: (b3, cb (cP p) 25) :: (b4, cb (cP q) 25) :: ((bif m 8 then [(t8, tabO 1 m8), (m8, .map es7 ck7)] else [(t8, tabO 1 m8), (m8, .map es5 ck5)]) ++ (bif m 12 then [(xa, cb (bif m 13 then (cD nilV false true) else (cD nilV false false)) 37)] else []))) w1)
      refine J.pr (fun hF => ?_)
      refine J.buildA (cs := cI (idN 2)) Ty.ar23 Ty.s5 Ty.z23 rfl (by kernel_rfl) rfl ?_
      exact J.nil (JX.finB rfl (fun w1 hw => ⟨⟨⟨es7, ck7, xa⟩, rfl, fun _ _ _ => rfl, hF, hw⟩, trivial⟩))
    · skip
      obtain ⟨es7, ck7, xa⟩ := x
      show J _ _ _ _ _ (_) (fun w1 => ((m 13 = true → m 12 = true) ∧ (m 8 = true → Tab [(⟨q, idN 1, idN 2, 1, 2⟩ : EV)] es7 ck7)) ∧ St w [] ((b43, cb ((OPS 6).map bV) 4) :: (b3, cb (cP p) 25) :: (b4, cb (cP q) 25) :: ((bif m 8 then [(t8, tabO 1 m8), (m8, .map es7 ck7)] else [(t8, tabO 1 m8), (m8, .map es5 ck5)]) ++ (bif m 12 then [(xa, cb (bif m 13 then (cD nilV false true) else (cD nilV false false)) 37)] else []))) w1)
      refine J.pr (fun hF => ?_)
      refine J.move rfl rfl ?_
      exact J.nil (JX.finB rfl (fun w1 hw => ⟨⟨⟨es7, ck7, xa⟩, rfl, fun _ _ _ => rfl, hF, hw⟩, trivial⟩))
    · skip
      obtain ⟨es7, ck7, xa⟩ := x
      show J _ _ _ _ _ ((58, .slice (some ⟨wb, wo, none⟩) (rest.length + 2) wc) :: _) (fun w1 => ((m 13 = true → m 12 = true) ∧ (m 8 = true → Tab [(⟨q, idN 1, idN 2, 1, 2⟩ : EV)] es7 ck7)) ∧ St w [] ((b43, cb ((OPS 6).map bV) 4) :: (b3, cb (cP p) 25) :: (b4, cb (cP q) 25) :: ((bif m 8 then [(t8, tabO 1 m8), (m8, .map es7 ck7)] else [(t8, tabO 1 m8), (m8, .map es5 ck5)]) ++ (bif m 12 then [(xa, cb (bif m 13 then (cD nilV false true) else (cD nilV false false)) 37)] else []))) w1)
      refine J.pr (fun hF => ?_)
      refine J.sliceS Ty.el26 Ty.s3 rfl rfl rfl rfl rfl (by omega) (by omega) (by omega) rfl ?_
      refine J.name 59 rfl (show _ = Value.slice (some ⟨wb, wo, none⟩) 2 wc by rw [if_neg (by omega)]; simp [Addr.add]) ?_
      exact J.nil (JX.finB rfl (fun w1 hw => ⟨⟨⟨es7, ck7, xa⟩, rfl, fun _ _ _ => rfl, hF, hw⟩, trivial⟩))
    · skip
      obtain ⟨es7, ck7, xa⟩ := x
      show J _ _ _ _ _ (_) (fun w1 => ((m 13 = true → m 12 = true) ∧ (m 8 = true → Tab [(⟨q, idN 1, idN 2, 1, 2⟩ : EV)] es7 ck7)) ∧ St w [] ((b43, cb ((OPS 6).map bV) 4) :: (b3, cb (cP p) 25) :: (b4, cb (cP q) 25) :: ((bif m 8 then [(t8, tabO 1 m8), (m8, .map es7 ck7)] else [(t8, tabO 1 m8), (m8, .map es5 ck5)]) ++ (bif m 12 then [(xa, cb (bif m 13 then (cD nilV false true) else (cD nilV false false)) 37)] else []))) w1)
      refine J.pr (fun hF => ?_)
      refine J.move rfl rfl ?_
      exact J.nil (JX.finB rfl (fun w1 hw => ⟨⟨⟨es7, ck7, xa⟩, rfl, fun _ _ _ => rfl, hF, hw⟩, trivial⟩))
    · skip
      obtain ⟨es7, ck7, xa⟩ := x
      show J _ _ _ _ _ ((60, .slice (some ⟨b43, 0, none⟩) 6 6) :: (59, .slice (some ⟨wb, wo, none⟩) 2 wc) :: (57, .agg (cI (idN 2)).toArray) :: (56, .agg (cP p).toArray) :: (55, .agg (cW 0 (idN 1)).toArray) :: (53, .pointer (some ⟨t8, 0, none⟩)) :: _) (fun w1 => ((m 13 = true → m 12 = true) ∧ (m 8 = true → Tab [(⟨q, idN 1, idN 2, 1, 2⟩ : EV)] es7 ck7)) ∧ St w [] ((b43, cb ((OPS 6).map bV) 4) :: (b3, cb (cP p) 25) :: (b4, cb (cP q) 25) :: ((bif m 8 then [(t8, tabO 1 m8), (m8, .map es7 ck7)] else [(t8, tabO 1 m8), (m8, .map es5 ck5)]) ++ (bif m 12 then [(xa, cb (bif m 13 then (cD nilV false true) else (cD nilV false false)) 37)] else []))) w1)
      refine J.pr (fun hF => ?_)
      refine J.conseq (I' := St w [] ([(t8, tabO 1 m8), (m8, .map es5 ck5)] ++ ((b43, cb ((OPS 6).map bV) 4) :: (b3, cb (cP p) 25) :: (b4, cb (cP q) 25) :: (bif m 12 then [(xa, cb (bif m 13 then (cD nilV false true) else (cD nilV false false)) 37)] else [])))) ?_ (fun w1 hw => by simp only [hm, cond_true, cond_false] at hw; exact hw.perm (by (refine perm_cnt (fun _ => ?_)); simp only [cntB_append, cntB_cons, cntB_nil, Nat.add_zero, Nat.zero_add]; try ac_rfl))
      refine J.callS (α := Array MapEntry × Nat) (V := fun _ => .tuple #[.agg (cD nilV false true).toArray, .int .i64 5]) (Pr := fun y => Tab [(⟨q, idN 1, idN 2, 1, 2⟩ : EV)] y.1 y.2) (L := fun y => [(t8, tabO 1 m8), (m8, .map y.1 y.2)]) (l1 := [(t8, tabO 1 m8), (m8, .map es5 ck5)]) Ty.bd18 rfl rfl
        (fun w1 hw => start_full t8 m8 1 [(⟨q, idN 1, idN 2, 1, 2⟩ : EV)] es5 ck5 w1 hw.owns hT 0 n1 (idN 1) (idN 2) p hkp wb wo wc [] (hr2.below hw.below) (hr2.offNew hw (fun x hx => List.mem_append_left _ hx)) (by simp) (by simp; omega) (idN_ne (by decide)) (.slice (some ⟨b43, 0, none⟩) 6 6) [true, true, true, true, true, true] (Row.own hw (.tail _ (.tail _ (.head _))) rfl (Nat.le_refl _)) (Off.mk (hw.off (l1 := [(t8, tabO 1 m8), (m8, .map es5 ck5)]) (.head _))) (by simp) (open6 h4 h5) (tadd_full ⟨idN_ne (by decide), (show okTN (-1) by decide), (show okTN n1 from ⟨by omega, by omega⟩), (show (-1 : Int) ≠ n1 by omega)⟩ (fun e => h1 e.symm)) (by decide)) (fun y hT7 => ?_)
      obtain ⟨es8, ck8⟩ := y
      simp only at hT7 ⊢
      refine J.nil (JX.finB rfl (fun w1 hw => ⟨⟨⟨es8, ck8, xa⟩, rfl, fun j h1 h2 => ?_, ?_⟩, trivial⟩))
      · match j, h1 with
        | 0, _ => rfl
        | 1, _ => rfl
        | 2, _ => rfl
        | 3, _ => rfl
        | 4, _ => rfl
        | 5, _ => rfl
        | 6, _ => rfl
        | 7, _ => rfl
        | 8, _ => rfl
        | 9, _ => rfl
        | 10, _ => rfl
        | 11, _ => rfl
        | 12, _ => rfl
        | 13, _ => rfl
        | j + 14, h1 => omega
      show ((m 13 = true → m 12 = true) ∧ (true = true → Tab [(⟨q, idN 1, idN 2, 1, 2⟩ : EV)] es8 ck8)) ∧ St w [] ((b43, cb ((OPS 6).map bV) 4) :: (b3, cb (cP p) 25) :: (b4, cb (cP q) 25) :: ((bif true then [(t8, tabO 1 m8), (m8, .map es8 ck8)] else [(t8, tabO 1 m8), (m8, .map es5 ck5)]) ++ (bif m 12 then [(xa, cb (bif m 13 then (cD nilV false true) else (cD nilV false false)) 37)] else []))) w1
      refine ⟨⟨hF.1, fun _ => hT7⟩, ?_⟩
      simp only [cond_true]
      exact hw.perm (by (refine perm_cnt (fun _ => ?_)); simp only [cntB_append, cntB_cons, cntB_nil, Nat.add_zero, Nat.zero_add]; try ac_rfl)
    · skip
      obtain ⟨es7, ck7, xa⟩ := x
      show J _ _ _ _ _ ((61, .tuple #[.agg (cD nilV false true).toArray, .int .i64 5]) :: _) (fun w1 => ((m 13 = true → m 12 = true) ∧ (m 8 = true → Tab [(⟨q, idN 1, idN 2, 1, 2⟩ : EV)] es7 ck7)) ∧ St w [] ((b43, cb ((OPS 6).map bV) 4) :: (b3, cb (cP p) 25) :: (b4, cb (cP q) 25) :: ((bif m 8 then [(t8, tabO 1 m8), (m8, .map es7 ck7)] else [(t8, tabO 1 m8), (m8, .map es5 ck5)]) ++ (bif m 12 then [(xa, cb (bif m 13 then (cD nilV false true) else (cD nilV false false)) 37)] else []))) w1)
      have hp8 : m 8 = true := predsT hp (by kernel_rfl)
      refine J.pr (fun hF => ?_)
      refine J.move rfl rfl ?_
      exact J.nil (JX.finB rfl (fun w1 hw => ⟨⟨⟨es7, ck7, xa⟩, rfl, fun _ _ _ => rfl, hF, hw⟩, trivial⟩))
    · skip
      obtain ⟨es7, ck7, xa⟩ := x
      show J _ _ _ _ _ ((52, .tuple #[.agg (cD nilV false true).toArray, .int .i64 5]) :: _) (fun w1 => ((m 13 = true → m 12 = true) ∧ (m 8 = true → Tab [(⟨q, idN 1, idN 2, 1, 2⟩ : EV)] es7 ck7)) ∧ St w [] ((b43, cb ((OPS 6).map bV) 4) :: (b3, cb (cP p) 25) :: (b4, cb (cP q) 25) :: ((bif m 8 then [(t8, tabO 1 m8), (m8, .map es7 ck7)] else [(t8, tabO 1 m8), (m8, .map es5 ck5)]) ++ (bif m 12 then [(xa, cb (bif m 13 then (cD nilV false true) else (cD nilV false false)) 37)] else []))) w1)
      refine J.pr (fun hF => ?_)
      refine J.extract rfl rfl rfl ?_
      exact J.nil (JX.finB rfl (fun w1 hw => ⟨⟨⟨es7, ck7, xa⟩, rfl, fun _ _ _ => rfl, hF, hw⟩, trivial⟩))
    · skip
      obtain ⟨es7, ck7, xa⟩ := x
      show J _ _ _ _ _ ((52, .tuple #[.agg (cD nilV false true).toArray, .int .i64 5]) :: _) (fun w1 => ((m 13 = true → m 12 = true) ∧ (m 8 = true → Tab [(⟨q, idN 1, idN 2, 1, 2⟩ : EV)] es7 ck7)) ∧ St w [] ((b43, cb ((OPS 6).map bV) 4) :: (b3, cb (cP p) 25) :: (b4, cb (cP q) 25) :: ((bif m 8 then [(t8, tabO 1 m8), (m8, .map es7 ck7)] else [(t8, tabO 1 m8), (m8, .map es5 ck5)]) ++ (bif m 12 then [(xa, cb (bif m 13 then (cD nilV false true) else (cD nilV false false)) 37)] else []))) w1)
      refine J.pr (fun hF => ?_)
      refine J.extract rfl rfl rfl ?_
      exact J.nil (JX.finB rfl (fun w1 hw => ⟨⟨⟨es7, ck7, xa⟩, rfl, fun _ _ _ => rfl, hF, hw⟩, trivial⟩))
    · skip
      obtain ⟨es7, ck7, xa⟩ := x
      show J _ _ _ _ _ (_) (fun w1 => ((m 13 = true → m 12 = true) ∧ (m 8 = true → Tab [(⟨q, idN 1, idN 2, 1, 2⟩ : EV)] es7 ck7)) ∧ St w [] ((b43, cb ((OPS 6).map bV) 4) :: (b3, cb (cP p) 25) :: (b4, cb (cP q) 25) :: ((bif m 8 then [(t8, tabO 1 m8), (m8, .map es7 ck7)] else [(t8, tabO 1 m8), (m8, .map es5 ck5)]) ++ (bif m 12 then [(xa, cb (bif m 13 then (cD nilV false true) else (cD nilV false false)) 37)] else []))) w1)
      refine J.pr (fun hF => ?_)
      have h13 : m 13 = false := by cases h : m 13 with
        | false => rfl
        | true => rw [hF.1 h] at hm; cases hm
      refine J.alloc zN rfl rfl (fun b9 => ?_)
      refine J.nil (JX.finB rfl (fun w1 hw => ⟨⟨⟨es7, ck7, b9⟩, rfl, fun j h1 h2 => ?_, ?_⟩, trivial⟩))
      · match j, h1 with
        | 0, _ => rfl
        | 1, _ => rfl
        | 2, _ => rfl
        | 3, _ => rfl
        | 4, _ => rfl
        | 5, _ => rfl
        | 6, _ => rfl
        | 7, _ => rfl
        | 8, _ => rfl
        | 9, _ => rfl
        | 10, _ => rfl
        | 11, _ => rfl
        | 12, _ => exact absurd (h2.symm.trans hm) (by decide)
        | 13, _ => rfl
        | j + 14, h1 => omega
      show ((m 13 = true → true = true) ∧ (m 8 = true → Tab [(⟨q, idN 1, idN 2, 1, 2⟩ : EV)] es7 ck7)) ∧ St w [] ((b43, cb ((OPS 6).map bV) 4) :: (b3, cb (cP p) 25) :: (b4, cb (cP q) 25) :: ((bif m 8 then [(t8, tabO 1 m8), (m8, .map es7 ck7)] else [(t8, tabO 1 m8), (m8, .map es5 ck5)]) ++ (bif true then [(b9, cb (bif m 13 then (cD nilV false true) else (cD nilV false false)) 37)] else []))) w1
      refine ⟨⟨fun _ => rfl, hF.2⟩, ?_⟩
      simp only [hm, h13, cond_true, cond_false] at hw ⊢
      exact hw.perm (by (refine perm_cnt (fun _ => ?_)); simp only [cntB_append, cntB_cons, cntB_nil, Nat.add_zero, Nat.zero_add]; try ac_rfl)
    · skip
      obtain ⟨es7, ck7, xa⟩ := x
      show J _ _ _ _ _ ((9, .pointer (some ⟨xa, 0, none⟩)) :: (62, .agg (cD nilV false true).toArray) :: (52, .tuple #[.agg (cD nilV false true).toArray, .int .i64 5]) :: (61, .tuple #[.agg (cD nilV false true).toArray, .int .i64 5]) :: (60, .slice (some ⟨b43, 0, none⟩) 6 6) :: (59, .slice (some ⟨wb, wo, none⟩) 2 wc) :: (58, .slice (some ⟨wb, wo, none⟩) (rest.length + 2) wc) :: (57, .agg (cI (idN 2)).toArray) :: (56, .agg (cP p).toArray) :: (55, .agg (cW 0 (idN 1)).toArray) :: (54, .agg (cI (idN 1)).toArray) :: (53, .pointer (some ⟨t8, 0, none⟩)) :: (61, .tuple #[.agg (cD nilV false true).toArray, .int .i64 5]) :: (62, .agg (cD nilV false true).toArray) :: (9, .pointer (some ⟨xa, 0, none⟩)) :: _) (fun w1 => ((m 13 = true → m 12 = true) ∧ (m 8 = true → Tab [(⟨q, idN 1, idN 2, 1, 2⟩ : EV)] es7 ck7)) ∧ St w [] ((b43, cb ((OPS 6).map bV) 4) :: (b3, cb (cP p) 25) :: (b4, cb (cP q) 25) :: ((bif m 8 then [(t8, tabO 1 m8), (m8, .map es7 ck7)] else [(t8, tabO 1 m8), (m8, .map es5 ck5)]) ++ (bif m 12 then [(xa, cb (bif m 13 then (cD nilV false true) else (cD nilV false false)) 37)] else []))) w1)
      have hp12 : m 12 = true := predsT hp (by kernel_rfl)
      have hp10 : m 10 = true := predsT hp (by kernel_rfl)
      have hp8 : m 8 = true := predsT hp (by kernel_rfl)
      have hp8 : m 8 = true := predsT hp (by kernel_rfl)
      have hp10 : m 10 = true := predsT hp (by kernel_rfl)
      have hp12 : m 12 = true := predsT hp (by kernel_rfl)
      refine J.pr (fun hF => ?_)
      refine J.conseq (I' := St w [] ((xa, cb (cD nilV false false) 37) :: ((b43, cb ((OPS 6).map bV) 4) :: (b3, cb (cP p) 25) :: (b4, cb (cP q) 25) :: (bif m 8 then [(t8, tabO 1 m8), (m8, .map es7 ck7)] else [(t8, tabO 1 m8), (m8, .map es5 ck5)])))) ?_ (fun w1 hw => by simp only [hm, hp12, cond_true, cond_false] at hw; exact hw.perm (by (refine perm_cnt (fun _ => ?_)); simp only [cntB_append, cntB_cons, cntB_nil, Nat.add_zero, Nat.zero_add]; try ac_rfl))
      refine J.storeW (cs := (cD nilV false false)) (vs := (cD nilV false true)) Ty.s37 rfl rfl rfl rfl rfl (by simp [Value.oneCell']) .here ?_
      refine J.nil (JX.finN undef (fun w1 hw => ⟨⟨es7, ck7, xa⟩, rfl, fun j h1 h2 => ?_, ?_⟩))
      · match j, h1 with
        | 0, _ => rfl
        | 1, _ => rfl
        | 2, _ => rfl
        | 3, _ => rfl
        | 4, _ => rfl
        | 5, _ => rfl
        | 6, _ => rfl
        | 7, _ => rfl
        | 8, _ => rfl
        | 9, _ => rfl
        | 10, _ => rfl
        | 11, _ => rfl
        | 12, _ => rfl
        | 13, _ => rfl
        | j + 14, h1 => omega
      show ((true = true → m 12 = true) ∧ (m 8 = true → Tab [(⟨q, idN 1, idN 2, 1, 2⟩ : EV)] es7 ck7)) ∧ St w [] ((b43, cb ((OPS 6).map bV) 4) :: (b3, cb (cP p) 25) :: (b4, cb (cP q) 25) :: ((bif m 8 then [(t8, tabO 1 m8), (m8, .map es7 ck7)] else [(t8, tabO 1 m8), (m8, .map es5 ck5)]) ++ (bif m 12 then [(xa, cb (bif true then (cD nilV false true) else (cD nilV false false)) 37)] else []))) w1
      refine ⟨⟨fun _ => hp12, hF.2⟩, ?_⟩
      simp only [hp12, cond_true]
      exact hw.perm (by (refine perm_cnt (fun _ => ?_)); simp only [cntB_append, cntB_cons, cntB_nil, Nat.add_zero, Nat.zero_add]; try ac_rfl)
  case htail =>
    intro x
    obtain ⟨es7, ck7, xa⟩ := x
    show J _ _ _ _ _ ((9, .pointer (some ⟨xa, 0, none⟩)) :: (63, .int .i64 5) :: (62, .agg (cD nilV false true).toArray) :: (52, .tuple #[.agg (cD nilV false true).toArray, .int .i64 5]) :: (61, .tuple #[.agg (cD nilV false true).toArray, .int .i64 5]) :: (60, .slice (some ⟨b43, 0, none⟩) 6 6) :: (59, .slice (some ⟨wb, wo, none⟩) 2 wc) :: (58, .slice (some ⟨wb, wo, none⟩) (rest.length + 2) wc) :: (57, .agg (cI (idN 2)).toArray) :: (56, .agg (cP p).toArray) :: (55, .agg (cW 0 (idN 1)).toArray) :: (54, .agg (cI (idN 1)).toArray) :: (53, .pointer (some ⟨t8, 0, none⟩)) :: _) (fun w1 => ((true = true → true = true) ∧ (true = true → Tab [(⟨q, idN 1, idN 2, 1, 2⟩ : EV)] es7 ck7)) ∧ St w [] ((b43, cb ((OPS 6).map bV) 4) :: (b3, cb (cP p) 25) :: (b4, cb (cP q) 25) :: ((bif true then [(t8, tabO 1 m8), (m8, .map es7 ck7)] else [(t8, tabO 1 m8), (m8, .map es5 ck5)]) ++ (bif true then [(xa, cb (bif true then (cD nilV false true) else (cD nilV false false)) 37)] else []))) w1)
    refine J.pr (fun hF => ?_)
    have hT7 := hF.2 rfl
    refine J.conseq (I' := St w [] ((xa, cb (cD nilV false true) 37) :: (b43, cb ((OPS 6).map bV) 4) :: (b3, cb (cP p) 25) :: (b4, cb (cP q) 25) :: (t8, tabO 1 m8) :: (m8, .map es7 ck7) :: [])) ?_ (fun w1 hw => by simp only [cond_true] at hw; exact hw.perm (by (refine perm_cnt (fun _ => ?_)); simp only [cntB_append, cntB_cons, cntB_nil, Nat.add_zero, Nat.zero_add]; try ac_rfl))
    refine J.assign rfl rfl ?_
    refine J.nil ?_
    refine JX.thenN (hK7 _ _ ?_)
    refine JC.seq (fun K8 hK8 => ?_)
    apply JC.drawX (α := Nat × Array MapEntry × Nat × Nat) 15 (fun x => match x with | ⟨h8, es9, ck9, xb⟩ => [.pointer (some ⟨t8, 0, none⟩), .slice (some ⟨wb, wo, none⟩) (rest.length + 2) wc, .pointer (some ⟨wb, wo + (1 : Int).toNat * 1, none⟩), iV n1, .agg (cI (idN 2)).toArray, .agg (cW n1 (idN 2)).toArray, .agg (cP p).toArray, .agg (cI (idN 1)).toArray, .agg (cI (idN 2)).toArray, .slice (some ⟨wb, wo, none⟩) (rest.length + 2) wc, .slice (some ⟨wb, wo, none⟩) 2 wc, .agg (cF 4 p (idN 1) (idN 2) (.slice (some ⟨wb, wo, none⟩) 2 wc)).toArray, .slice (some ⟨b43, 0, none⟩) 6 6, .agg (cD (.slice (some ⟨h8, 0, none⟩) 1 1) false true).toArray, .pointer (some ⟨xb, 0, none⟩)]) (fun m x => match x with | ⟨h8, es9, ck9, xb⟩ => fun w1 => (m 13 = true → Tab [(⟨q, idN 1, idN 2, 1, 2⟩ : EV)] es9 ck9) ∧ St w [] ((xa, cb (cD nilV false true) 37) :: (b43, cb ((OPS 6).map bV) 4) :: (b3, cb (cP p) 25) :: (b4, cb (cP q) 25) :: ((bif m 13 then [(h8, cb (cH 0 (cF 5 p zI zI nilV)) 54), (t8, tabO 1 m8), (m8, .map es9 ck9)] else [(t8, tabO 1 m8), (m8, .map es7 ck7)]) ++ (bif m 14 then [(xb, cb (cD nilV false false) 37)] else []))) w1) Ty.mixed rfl rfl rfl (by kernel_rfl) rfl rfl ?hinit ?hstep ?htail
    case hinit => exact fun w1 hw => ⟨(0, #[], 0, 0), fun h => (by cases h), hw.drew⟩
    case hstep =>
      refine ⟨fun m x hm hp => ?_, fun m x hm hp => ?_, fun m x hm hp => ?_, fun m x hm hp => ?_, fun m x hm hp => ?_, fun m x hm hp => ?_, fun m x hm hp => ?_, fun m x hm hp => ?_, fun m x hm hp => ?_, fun m x hm hp => ?_, fun m x hm hp => ?_, fun m x hm hp => ?_, fun m x hm hp => ?_, fun m x hm hp => ?_, fun m x hm hp => ?_, trivial⟩
      · skip
        obtain ⟨h8, es9, ck9, xb⟩ := x
        show J _ _ _ _ _ (_) (fun w1 => (m 13 = true → Tab [(⟨q, idN 1, idN 2, 1, 2⟩ : EV)] es9 ck9) ∧ St w [] ((xa, cb (cD nilV false true) 37) :: (b43, cb ((OPS 6).map bV) 4) :: (b3, cb (cP p) 25) :: (b4, cb (cP q) 25) :: ((bif m 13 then [(h8, cb (cH 0 (cF 5 p zI zI nilV)) 54), (t8, tabO 1 m8), (m8, .map es9 ck9)] else [(t8, tabO 1 m8), (m8, .map es7 ck7)]) ++ (bif m 14 then [(xb, cb (cD nilV false false) 37)] else []))) w1)
        refine J.pr (fun hF => ?_)
        refine J.move rfl rfl ?_
        exact J.nil (JX.finB rfl (fun w1 hw => ⟨⟨⟨h8, es9, ck9, xb⟩, rfl, fun _ _ _ => rfl, hF, hw⟩, trivial⟩))
      · skip
        obtain ⟨h8, es9, ck9, xb⟩ := x
        show J _ _ _ _ _ (_) (fun w1 => (m 13 = true → Tab [(⟨q, idN 1, idN 2, 1, 2⟩ : EV)] es9 ck9) ∧ St w [] ((xa, cb (cD nilV false true) 37) :: (b43, cb ((OPS 6).map bV) 4) :: (b3, cb (cP p) 25) :: (b4, cb (cP q) 25) :: ((bif m 13 then [(h8, cb (cH 0 (cF 5 p zI zI nilV)) 54), (t8, tabO 1 m8), (m8, .map es9 ck9)] else [(t8, tabO 1 m8), (m8, .map es7 ck7)]) ++ (bif m 14 then [(xb, cb (cD nilV false false) 37)] else []))) w1)
        refine J.pr (fun hF => ?_)
        refine J.move rfl rfl ?_
        exact J.nil (JX.finB rfl (fun w1 hw => ⟨⟨⟨h8, es9, ck9, xb⟩, rfl, fun _ _ _ => rfl, hF, hw⟩, trivial⟩))
      · skip
        obtain ⟨h8, es9, ck9, xb⟩ := x
        show J _ _ _ _ _ ((65, .slice (some ⟨wb, wo, none⟩) (rest.length + 2) wc) :: _) (fun w1 => (m 13 = true → Tab [(⟨q, idN 1, idN 2, 1, 2⟩ : EV)] es9 ck9) ∧ St w [] ((xa, cb (cD nilV false true) 37) :: (b43, cb ((OPS 6).map bV) 4) :: (b3, cb (cP p) 25) :: (b4, cb (cP q) 25) :: ((bif m 13 then [(h8, cb (cH 0 (cF 5 p zI zI nilV)) 54), (t8, tabO 1 m8), (m8, .map es9 ck9)] else [(t8, tabO 1 m8), (m8, .map es7 ck7)]) ++ (bif m 14 then [(xb, cb (cD nilV false false) 37)] else []))) w1)
        refine J.pr (fun hF => ?_)
        refine J.indexAddrS Ty.el26 Ty.s3 rfl rfl (by omega) (by omega) rfl ?_
        exact J.nil (JX.finB rfl (fun w1 hw => ⟨⟨⟨h8, es9, ck9, xb⟩, rfl, fun _ _ _ => rfl, hF, hw⟩, trivial⟩))
      · skip
        obtain ⟨h8, es9, ck9, xb⟩ := x
        show J _ _ _ _ _ ((66, .pointer (some ⟨wb, wo + (1 : Int).toNat * 1, none⟩)) :: _) (fun w1 => (m 13 = true → Tab [(⟨q, idN 1, idN 2, 1, 2⟩ : EV)] es9 ck9) ∧ St w [] ((xa, cb (cD nilV false true) 37) :: (b43, cb ((OPS 6).map bV) 4) :: (b3, cb (cP p) 25) :: (b4, cb (cP q) 25) :: ((bif m 13 then [(h8, cb (cH 0 (cF 5 p zI zI nilV)) 54), (t8, tabO 1 m8), (m8, .map es9 ck9)] else [(t8, tabO 1 m8), (m8, .map es7 ck7)]) ++ (bif m 14 then [(xb, cb (cD nilV false false) 37)] else []))) w1)
        refine J.pr (fun hF => ?_)
        refine J.load1 (v := iV n1) Ty.a3 rfl (fun w1 hw => rowI_at (i := 1) (hr.below hw.below) rfl (by omega)) rfl ?_
        exact J.nil (JX.finB rfl (fun w1 hw => ⟨⟨⟨h8, es9, ck9, xb⟩, rfl, fun _ _ _ => rfl, hF, hw⟩, trivial⟩))
      · skip
        obtain ⟨h8, es9, ck9, xb⟩ := x
        show J _ _ _ _ _ (_) (fun w1 => (m 13 = true → Tab [(⟨q, idN 1, idN 2, 1, 2⟩ : EV)] es9 ck9) ∧ St w [] ((xa, cb (cD nilV false true) 37) :: (b43, cb ((OPS 6).map bV) 4) :: (b3, cb (cP p) 25) :: (b4, cb (cP q) 25) :: ((bif m 13 then [(h8, cb (cH 0 (cF 5 p zI zI nilV)) 54), (t8, tabO 1 m8), (m8, .map es9 ck9)] else [(t8, tabO 1 m8), (m8, .map es7 ck7)]) ++ (bif m 14 then [(xb, cb (cD nilV false false) 37)] else []))) w1)
        refine J.pr (fun hF => ?_)
        refine J.buildA (cs := cI (idN 2)) Ty.ar23 Ty.s5 Ty.z23 rfl (by kernel_rfl) rfl ?_
        exact J.nil (JX.finB rfl (fun w1 hw => ⟨⟨⟨h8, es9, ck9, xb⟩, rfl, fun _ _ _ => rfl, hF, hw⟩, trivial⟩))
      · skip
        obtain ⟨h8, es9, ck9, xb⟩ := x
        show J _ _ _ _ _ ((68, .agg (cI (idN 2)).toArray) :: (67, iV n1) :: _) (fun w1 => (m 13 = true → Tab [(⟨q, idN 1, idN 2, 1, 2⟩ : EV)] es9 ck9) ∧ St w [] ((xa, cb (cD nilV false true) 37) :: (b43, cb ((OPS 6).map bV) 4) :: (b3, cb (cP p) 25) :: (b4, cb (cP q) 25) :: ((bif m 13 then [(h8, cb (cH 0 (cF 5 p zI zI nilV)) 54), (t8, tabO 1 m8), (m8, .map es9 ck9)] else [(t8, tabO 1 m8), (m8, .map es7 ck7)]) ++ (bif m 14 then [(xb, cb (cD nilV false false) 37)] else []))) w1)
        refine J.pr (fun hF => ?_)
        refine J.buildS (cs := cW n1 (idN 2)) Ty.pl41 zW rfl (by kernel_rfl) rfl ?_
        exact J.nil (JX.finB rfl (fun w1 hw => ⟨⟨⟨h8, es9, ck9, xb⟩, rfl, fun _ _ _ => rfl, hF, hw⟩, trivial⟩))
      · skip
        obtain ⟨h8, es9, ck9, xb⟩ := x
        show J _ _ _ _ _ (_) (fun w1 => (m 13 = true → Tab [(⟨q, idN 1, idN 2, 1, 2⟩ : EV)] es9 ck9) ∧ St w [] ((xa, cb (cD nilV false true) 37) :: (b43, cb ((OPS 6).map bV) 4) :: (b3, cb (cP p) 25) :: (b4, cb (cP q) 25) :: ((bif m 13 then [(h8, cb (cH 0 (cF 5 p zI zI nilV)) 54), (t8, tabO 1 m8), (m8, .map es9 ck9)] else [(t8, tabO 1 m8), (m8, .map es7 ck7)]) ++ (bif m 14 then [(xb, cb (cD nilV false false) 37)] else []))) w1)
        refine J.pr (fun hF => ?_)
        (first | refine J.loadOA (vs := cP p) Ty.a25 Ty.s25 rfl (.head _) rfl rfl rfl ?_ | refine J.loadOA (vs := cP p) Ty.a25 Ty.s25 rfl (.tail _ (.head _)) rfl rfl rfl ?_ | refine J.loadOA (vs := cP p) Ty.a25 Ty.s25 rfl (.tail _ (.tail _ (.head _))) rfl rfl rfl ?_ | refine J.loadOA (vs := cP p) Ty.a25 Ty.s25 rfl (.tail _ (.tail _ (.tail _ (.head _)))) rfl rfl rfl ?_ | refine J.loadOA (vs := cP p) Ty.a25 Ty.s25 rfl (.tail _ (.tail _ (.tail _ (.tail _ (.head _))))) rfl rfl rfl ?_ | refine J.loadOA (vs := cP p) Ty.a25 Ty.s25 rfl (.tail _ (.tail _ (.tail _ (.tail _ (.tail _ (.head _)))))) rfl rfl rfl ?_ | refine J.loadOA (vs := cP p) Ty.a25 Ty.s25 rfl (.tail _ (.tail _ (.tail _ (.tail _ (.tail _ (.tail _ (.head _))))))) rfl rfl rfl ?_ | refine J.loadOA (vs := cP p) Ty.a25 Ty.s25 rfl (.tail _ (.tail _ (.tail _ (.tail _ (.tail _ (.tail _ (.tail _ (.head _)))))))) rfl rfl rfl ?_ | refine J.loadOA (vs := cP p) Ty.a25 Ty.s25 rfl (.tail _ (.tail _ (.tail _ (.tail _ (.tail _ (.tail _ (.tail _ (.tail _ (.head _))))))))) rfl rfl rfl ?_ | refine J.loadOA (vs := cP p) Ty.a25 Ty.s25 rfl (List.mem_append_right _ (.head _)) rfl rfl rfl ?_ | refine J.loadOA (vs := cP p) Ty.a25 Ty.s25 rfl (List.mem_append_right _ (.tail _ (.head _))) rfl rfl rfl ?_ | refine J.loadOA (vs := cP p) Ty.a25 Ty.s25 rfl (List.mem_append_right _ (.tail _ (.tail _ (.head _)))) rfl rfl rfl ?_ | refine J.loadOA (vs := cP p) Ty.a25 Ty.s25 rfl (List.mem_append_right _ (.tail _ (.tail _ (.tail _ (.head _))))) rfl rfl rfl ?_ | refine J.loadOA (vs := cP p) Ty.a25 Ty.s25 rfl (List.mem_append_right _ (.tail _ (.tail _ (.tail _ (.tail _ (.head _)))))) rfl rfl rfl ?_ | refine J.loadOA (vs := cP p) Ty.a25 Ty.s25 rfl (List.mem_append_right _ (.tail _ (.tail _ (.tail _ (.tail _ (.tail _ (.head _))))))) rfl rfl rfl ?_ | refine J.loadOA (vs := cP p) Ty.a25 Ty.s25 rfl (List.mem_append_right _ (.tail _ (.tail _ (.tail _ (.tail _ (.tail _ (.tail _ (.head _)))))))) rfl rfl rfl ?_ | refine J.loadOA (vs := cP p) Ty.a25 Ty.s25 rfl (List.mem_append_right _ (.tail _ (.tail _ (.tail _ (.tail _ (.tail _ (.tail _ (.tail _ (.head _))))))))) rfl rfl rfl ?_ | refine J.loadOA (vs := cP p) Ty.a25 Ty.s25 rfl (List.mem_append_right _ (.tail _ (.tail _ (.tail _ (.tail _ (.tail _ (.tail _ (.tail _ (.tail _ (.head _)))))))))) rfl rfl rfl ?_)
        exact J.nil (JX.finB rfl (fun w1 hw => ⟨⟨⟨h8, es9, ck9, xb⟩, rfl, fun _ _ _ => rfl, hF, hw⟩, trivial⟩))
      · skip
        obtain ⟨h8, es9, ck9, xb⟩ := x
        show J _ _ _ _ _ (_) (fun w1 => (m 13 = true → Tab [(⟨q, idN 1, idN 2, 1, 2⟩ : EV)] es9 ck9) ∧ St w [] ((xa, cb (cD nilV false true) 37) :: (b43, cb ((OPS 6).map bV) 4) :: (b3, cb (cP p) 25) :: (b4, cb (cP q) 25) :: ((bif m 13 then [(h8, cb (cH 0 (cF 5 p zI zI nilV)) 54), (t8, tabO 1 m8), (m8, .map es9 ck9)] else [(t8, tabO 1 m8), (m8, .map es7 ck7)]) ++ (bif m 14 then [(xb, cb (cD nilV false false) 37)] else []))) w1)
        refine J.pr (fun hF => ?_)
        refine J.buildA (cs := cI (idN 1)) Ty.ar23 Ty.s5 Ty.z23 rfl (by kernel_rfl) rfl ?_
        exact J.nil (JX.finB rfl (fun w1 hw => ⟨⟨⟨h8, es9, ck9, xb⟩, rfl, fun _ _ _ => rfl, hF, hw⟩, trivial⟩))
      · skip
        obtain ⟨h8, es9, ck9, xb⟩ := x
        show J _ _ _ _ _ (_) (fun w1 => (m 13 = true → Tab [(⟨q, idN 1, idN 2, 1, 2⟩ : EV)] es9 ck9) ∧ St w [] ((xa, cb (cD nilV false true) 37) :: (b43, cb ((OPS 6).map bV) 4) :: (b3, cb (cP p) 25) :: (b4, cb (cP q) 25) :: ((bif m 13 then [(h8, cb (cH 0 (cF 5 p zI zI nilV)) 54), (t8, tabO 1 m8), (m8, .map es9 ck9)] else [(t8, tabO 1 m8), (m8, .map es7 ck7)]) ++ (bif m 14 then [(xb, cb (cD nilV false false) 37)] else []))) w1)
        refine J.pr (fun hF => ?_)
        refine J.buildA (cs := cI (idN 2)) Ty.ar23 Ty.s5 Ty.z23 rfl (by kernel_rfl) rfl ?_
        exact J.nil (JX.finB rfl (fun w1 hw => ⟨⟨⟨h8, es9, ck9, xb⟩, rfl, fun _ _ _ => rfl, hF, hw⟩, trivial⟩))
      · skip
        obtain ⟨h8, es9, ck9, xb⟩ := x
        show J _ _ _ _ _ (_) (fun w1 => (m 13 = true → Tab [(⟨q, idN 1, idN 2, 1, 2⟩ : EV)] es9 ck9) ∧ St w [] ((xa, cb (cD nilV false true) 37) :: (b43, cb ((OPS 6).map bV) 4) :: (b3, cb (cP p) 25) :: (b4, cb (cP q) 25) :: ((bif m 13 then [(h8, cb (cH 0 (cF 5 p zI zI nilV)) 54), (t8, tabO 1 m8), (m8, .map es9 ck9)] else [(t8, tabO 1 m8), (m8, .map es7 ck7)]) ++ (bif m 14 then [(xb, cb (cD nilV false false) 37)] else []))) w1)
        refine J.pr (fun hF => ?_)
        refine J.move rfl rfl ?_
        exact J.nil (JX.finB rfl (fun w1 hw => ⟨⟨⟨h8, es9, ck9, xb⟩, rfl, fun _ _ _ => rfl, hF, hw⟩, trivial⟩))
      · skip
        obtain ⟨h8, es9, ck9, xb⟩ := x
        show J _ _ _ _ _ ((73, .slice (some ⟨wb, wo, none⟩) (rest.length + 2) wc) :: _) (fun w1 => (m 13 = true → Tab [(⟨q, idN 1, idN 2, 1, 2⟩ : EV)] es9 ck9) ∧ St w [] ((xa, cb (cD nilV false true) 37) :: (b43, cb ((OPS 6).map bV) 4) :: (b3, cb (cP p) 25) :: (b4, cb (cP q) 25) :: ((bif m 13 then [(h8, cb (cH 0 (cF 5 p zI zI nilV)) 54), (t8, tabO 1 m8), (m8, .map es9 ck9)] else [(t8, tabO 1 m8), (m8, .map es7 ck7)]) ++ (bif m 14 then [(xb, cb (cD nilV false false) 37)] else []))) w1)
        refine J.pr (fun hF => ?_)
        refine J.sliceS Ty.el26 Ty.s3 rfl rfl rfl rfl rfl (by omega) (by omega) (by omega) rfl ?_
        refine J.name 74 rfl (show _ = Value.slice (some ⟨wb, wo, none⟩) 2 wc by rw [if_neg (by omega)]; simp [Addr.add]) ?_
        exact J.nil (JX.finB rfl (fun w1 hw => ⟨⟨⟨h8, es9, ck9, xb⟩, rfl, fun _ _ _ => rfl, hF, hw⟩, trivial⟩))
      · skip
        obtain ⟨h8, es9, ck9, xb⟩ := x
        show J _ _ _ _ _ ((74, .slice (some ⟨wb, wo, none⟩) 2 wc) :: (72, .agg (cI (idN 2)).toArray) :: (71, .agg (cI (idN 1)).toArray) :: (70, .agg (cP p).toArray) :: _) (fun w1 => (m 13 = true → Tab [(⟨q, idN 1, idN 2, 1, 2⟩ : EV)] es9 ck9) ∧ St w [] ((xa, cb (cD nilV false true) 37) :: (b43, cb ((OPS 6).map bV) 4) :: (b3, cb (cP p) 25) :: (b4, cb (cP q) 25) :: ((bif m 13 then [(h8, cb (cH 0 (cF 5 p zI zI nilV)) 54), (t8, tabO 1 m8), (m8, .map es9 ck9)] else [(t8, tabO 1 m8), (m8, .map es7 ck7)]) ++ (bif m 14 then [(xb, cb (cD nilV false false) 37)] else []))) w1)
        refine J.pr (fun hF => ?_)
        refine J.buildS (cs := cF 4 p (idN 1) (idN 2) (.slice (some ⟨wb, wo, none⟩) 2 wc)) Ty.pl52 zF rfl (by kernel_rfl) rfl ?_
        exact J.nil (JX.finB rfl (fun w1 hw => ⟨⟨⟨h8, es9, ck9, xb⟩, rfl, fun _ _ _ => rfl, hF, hw⟩, trivial⟩))
      · skip
        obtain ⟨h8, es9, ck9, xb⟩ := x
        show J _ _ _ _ _ (_) (fun w1 => (m 13 = true → Tab [(⟨q, idN 1, idN 2, 1, 2⟩ : EV)] es9 ck9) ∧ St w [] ((xa, cb (cD nilV false true) 37) :: (b43, cb ((OPS 6).map bV) 4) :: (b3, cb (cP p) 25) :: (b4, cb (cP q) 25) :: ((bif m 13 then [(h8, cb (cH 0 (cF 5 p zI zI nilV)) 54), (t8, tabO 1 m8), (m8, .map es9 ck9)] else [(t8, tabO 1 m8), (m8, .map es7 ck7)]) ++ (bif m 14 then [(xb, cb (cD nilV false false) 37)] else []))) w1)
        refine J.pr (fun hF => ?_)
        refine J.move rfl rfl ?_
        exact J.nil (JX.finB rfl (fun w1 hw => ⟨⟨⟨h8, es9, ck9, xb⟩, rfl, fun _ _ _ => rfl, hF, hw⟩, trivial⟩))
      · skip
        obtain ⟨h8, es9, ck9, xb⟩ := x
        show J _ _ _ _ _ ((76, .slice (some ⟨b43, 0, none⟩) 6 6) :: (75, .agg (cF 4 p (idN 1) (idN 2) (.slice (some ⟨wb, wo, none⟩) 2 wc)).toArray) :: (69, .agg (cW n1 (idN 2)).toArray) :: (64, .pointer (some ⟨t8, 0, none⟩)) :: _) (fun w1 => (m 13 = true → Tab [(⟨q, idN 1, idN 2, 1, 2⟩ : EV)] es9 ck9) ∧ St w [] ((xa, cb (cD nilV false true) 37) :: (b43, cb ((OPS 6).map bV) 4) :: (b3, cb (cP p) 25) :: (b4, cb (cP q) 25) :: ((bif m 13 then [(h8, cb (cH 0 (cF 5 p zI zI nilV)) 54), (t8, tabO 1 m8), (m8, .map es9 ck9)] else [(t8, tabO 1 m8), (m8, .map es7 ck7)]) ++ (bif m 14 then [(xb, cb (cD nilV false false) 37)] else []))) w1)
        refine J.pr (fun hF => ?_)
        refine J.conseq (I' := St w [] ([(t8, tabO 1 m8), (m8, .map es7 ck7)] ++ ((xa, cb (cD nilV false true) 37) :: (b43, cb ((OPS 6).map bV) 4) :: (b3, cb (cP p) 25) :: (b4, cb (cP q) 25) :: (bif m 14 then [(xb, cb (cD nilV false false) 37)] else [])))) ?_ (fun w1 hw => by simp only [hm, cond_true, cond_false] at hw; exact hw.perm (by (refine perm_cnt (fun _ => ?_)); simp only [cntB_append, cntB_cons, cntB_nil, Nat.add_zero, Nat.zero_add]; try ac_rfl))
        refine J.callS (α := Nat × Array MapEntry × Nat) (V := fun x => .agg (cD (.slice (some ⟨x.1, 0, none⟩) 1 1) false true).toArray) (Pr := fun y => Tab [(⟨q, idN 1, idN 2, 1, 2⟩ : EV)] y.2.1 y.2.2) (L := fun x => (x.1, cb (cH 0 (cF 5 p zI zI nilV)) 54) :: [(t8, tabO 1 m8), (m8, .map x.2.1 x.2.2)]) (l1 := [(t8, tabO 1 m8), (m8, .map es7 ck7)]) Ty.bd19 rfl rfl
          (fun w1 hw => take_full t8 m8 1 [(⟨q, idN 1, idN 2, 1, 2⟩ : EV)] es7 ck7 w1 hw.owns hT7 n1 0 (idN 2) (idN 1) (idN 2) p hkp (show okN 0 by decide) (.slice (some ⟨wb, wo, none⟩) 2 wc) [0, n1] (hr2.below hw.below) (hr2.offNew hw (fun x hx => List.mem_append_left _ hx)) (by simp) 1 (by decide) (by simp) (by simp [placeP, show ¬ (0 : Int) = n1 by omega]) rfl (by simp; omega) (.slice (some ⟨b43, 0, none⟩) 6 6) [true, true, true, true, true, true] (Row.own hw (.tail _ (.tail _ (.tail _ (.head _)))) rfl (Nat.le_refl _)) (Off.mk (hw.off (l1 := [(t8, tabO 1 m8), (m8, .map es7 ck7)]) (.tail _ (.head _)))) (by simp) rfl rfl (tadd_full ⟨idN_ne (by decide), (show okTN 0 by decide), (show okTN (-1) by decide), (show (0 : Int) ≠ -1 by decide)⟩ (fun e => h1 e.symm)) (by decide)) (fun y hT9 => ?_)
        obtain ⟨h9, es10, ck10⟩ := y
        simp only at hT9 ⊢
        refine J.nil (JX.finB rfl (fun w1 hw => ⟨⟨⟨h9, es10, ck10, xb⟩, rfl, fun j h1 h2 => ?_, ?_⟩, trivial⟩))
        · match j, h1 with
          | 0, _ => rfl
          | 1, _ => rfl
          | 2, _ => rfl
          | 3, _ => rfl
          | 4, _ => rfl
          | 5, _ => rfl
          | 6, _ => rfl
          | 7, _ => rfl
          | 8, _ => rfl
          | 9, _ => rfl
          | 10, _ => rfl
          | 11, _ => rfl
          | 12, _ => rfl
          | 13, _ => exact absurd (h2.symm.trans hm) (by decide)
          | 14, _ => rfl
          | j + 15, h1 => omega
        show (true = true → Tab [(⟨q, idN 1, idN 2, 1, 2⟩ : EV)] es10 ck10) ∧ St w [] ((xa, cb (cD nilV false true) 37) :: (b43, cb ((OPS 6).map bV) 4) :: (b3, cb (cP p) 25) :: (b4, cb (cP q) 25) :: ((bif true then [(h9, cb (cH 0 (cF 5 p zI zI nilV)) 54), (t8, tabO 1 m8), (m8, .map es10 ck10)] else [(t8, tabO 1 m8), (m8, .map es7 ck7)]) ++ (bif m 14 then [(xb, cb (cD nilV false false) 37)] else []))) w1
        refine ⟨fun _ => hT9, ?_⟩
        simp only [cond_true]
        exact hw.perm (by (refine perm_cnt (fun _ => ?_)); simp only [cntB_append, cntB_cons, cntB_nil, Nat.add_zero, Nat.zero_add]; try ac_rfl)
      · skip
        obtain ⟨h8, es9, ck9, xb⟩ := x
        show J _ _ _ _ _ (_) (fun w1 => (m 13 = true → Tab [(⟨q, idN 1, idN 2, 1, 2⟩ : EV)] es9 ck9) ∧ St w [] ((xa, cb (cD nilV false true) 37) :: (b43, cb ((OPS 6).map bV) 4) :: (b3, cb (cP p) 25) :: (b4, cb (cP q) 25) :: ((bif m 13 then [(h8, cb (cH 0 (cF 5 p zI zI nilV)) 54), (t8, tabO 1 m8), (m8, .map es9 ck9)] else [(t8, tabO 1 m8), (m8, .map es7 ck7)]) ++ (bif m 14 then [(xb, cb (cD nilV false false) 37)] else []))) w1)
        refine J.pr (fun hF => ?_)
        refine J.alloc zN rfl rfl (fun b11 => ?_)
        refine J.nil (JX.finB rfl (fun w1 hw => ⟨⟨⟨h8, es9, ck9, b11⟩, rfl, fun j h1 h2 => ?_, ?_⟩, trivial⟩))
        · match j, h1 with
          | 0, _ => rfl
          | 1, _ => rfl
          | 2, _ => rfl
          | 3, _ => rfl
          | 4, _ => rfl
          | 5, _ => rfl
          | 6, _ => rfl
          | 7, _ => rfl
          | 8, _ => rfl
          | 9, _ => rfl
          | 10, _ => rfl
          | 11, _ => rfl
          | 12, _ => rfl
          | 13, _ => rfl
          | 14, _ => exact absurd (h2.symm.trans hm) (by decide)
          | j + 15, h1 => omega
        show (m 13 = true → Tab [(⟨q, idN 1, idN 2, 1, 2⟩ : EV)] es9 ck9) ∧ St w [] ((xa, cb (cD nilV false true) 37) :: (b43, cb ((OPS 6).map bV) 4) :: (b3, cb (cP p) 25) :: (b4, cb (cP q) 25) :: ((bif m 13 then [(h8, cb (cH 0 (cF 5 p zI zI nilV)) 54), (t8, tabO 1 m8), (m8, .map es9 ck9)] else [(t8, tabO 1 m8), (m8, .map es7 ck7)]) ++ (bif true then [(b11, cb (cD nilV false false) 37)] else []))) w1
        refine ⟨hF, ?_⟩
        simp only [hm, cond_true, cond_false] at hw ⊢
        exact hw.perm (by (refine perm_cnt (fun _ => ?_)); simp only [cntB_append, cntB_cons, cntB_nil, Nat.add_zero, Nat.zero_add]; try ac_rfl)
    case htail =>
      intro x
      obtain ⟨h8, es9, ck9, xb⟩ := x
      show J _ _ _ _ _ ((11, .pointer (some ⟨xb, 0, none⟩)) :: (77, .agg (cD (.slice (some ⟨h8, 0, none⟩) 1 1) false true).toArray) :: (76, .slice (some ⟨b43, 0, none⟩) 6 6) :: (75, .agg (cF 4 p (idN 1) (idN 2) (.slice (some ⟨wb, wo, none⟩) 2 wc)).toArray) :: (74, .slice (some ⟨wb, wo, none⟩) 2 wc) :: (73, .slice (some ⟨wb, wo, none⟩) (rest.length + 2) wc) :: (72, .agg (cI (idN 2)).toArray) :: (71, .agg (cI (idN 1)).toArray) :: (70, .agg (cP p).toArray) :: (69, .agg (cW n1 (idN 2)).toArray) :: (68, .agg (cI (idN 2)).toArray) :: (67, iV n1) :: (66, .pointer (some ⟨wb, wo + (1 : Int).toNat * 1, none⟩)) :: (65, .slice (some ⟨wb, wo, none⟩) (rest.length + 2) wc) :: (64, .pointer (some ⟨t8, 0, none⟩)) :: _) (fun w1 => (true = true → Tab [(⟨q, idN 1, idN 2, 1, 2⟩ : EV)] es9 ck9) ∧ St w [] ((xa, cb (cD nilV false true) 37) :: (b43, cb ((OPS 6).map bV) 4) :: (b3, cb (cP p) 25) :: (b4, cb (cP q) 25) :: ((bif true then [(h8, cb (cH 0 (cF 5 p zI zI nilV)) 54), (t8, tabO 1 m8), (m8, .map es9 ck9)] else [(t8, tabO 1 m8), (m8, .map es7 ck7)]) ++ (bif true then [(xb, cb (cD nilV false false) 37)] else []))) w1)
      refine J.pr (fun hF => ?_)
      have hT9 := hF rfl
      refine J.conseq (I' := St w [] ((xb, cb (cD nilV false false) 37) :: (h8, cb (cH 0 (cF 5 p zI zI nilV)) 54) :: (xa, cb (cD nilV false true) 37) :: (b43, cb ((OPS 6).map bV) 4) :: (b3, cb (cP p) 25) :: (b4, cb (cP q) 25) :: (t8, tabO 1 m8) :: (m8, .map es9 ck9) :: [])) ?_ (fun w1 hw => by simp only [cond_true] at hw; exact hw.perm (by (refine perm_cnt (fun _ => ?_)); simp only [cntB_append, cntB_cons, cntB_nil, Nat.add_zero, Nat.zero_add]; try ac_rfl))
      (first | refine J.storeW Ty.s37 rfl rfl rfl rfl rfl (by simp [Value.oneCell']) .here ?_ | refine J.storeW Ty.s37 rfl rfl rfl rfl rfl (by simp [Value.oneCell']) (.there .here) ?_ | refine J.storeW Ty.s37 rfl rfl rfl rfl rfl (by simp [Value.oneCell']) (.there (.there .here)) ?_ | refine J.storeW Ty.s37 rfl rfl rfl rfl rfl (by simp [Value.oneCell']) (.there (.there (.there .here))) ?_ | refine J.storeW Ty.s37 rfl rfl rfl rfl rfl (by simp [Value.oneCell']) (.there (.there (.there (.there .here)))) ?_ | refine J.storeW Ty.s37 rfl rfl rfl rfl rfl (by simp [Value.oneCell']) (.there (.there (.there (.there (.there .here))))) ?_ | refine J.storeW Ty.s37 rfl rfl rfl rfl rfl (by simp [Value.oneCell']) (.there (.there (.there (.there (.there (.there .here)))))) ?_ | refine J.storeW Ty.s37 rfl rfl rfl rfl rfl (by simp [Value.oneCell']) (.there (.there (.there (.there (.there (.there (.there .here))))))) ?_)
      refine J.nil ?_
      refine JX.thenN (hK8 _ _ ?_)
      refine JC.seq (fun K9 hK9 => ?_)
      refine JC.region ?_
      refine J.fieldAddr Ty.fd37_2 rfl rfl ?_
      (first | refine J.loadO Ty.a4 rfl (.head _) rfl rfl ?_ | refine J.loadO Ty.a4 rfl (.tail _ (.head _)) rfl rfl ?_ | refine J.loadO Ty.a4 rfl (.tail _ (.tail _ (.head _))) rfl rfl ?_ | refine J.loadO Ty.a4 rfl (.tail _ (.tail _ (.tail _ (.head _)))) rfl rfl ?_ | refine J.loadO Ty.a4 rfl (.tail _ (.tail _ (.tail _ (.tail _ (.head _))))) rfl rfl ?_ | refine J.loadO Ty.a4 rfl (.tail _ (.tail _ (.tail _ (.tail _ (.tail _ (.head _)))))) rfl rfl ?_ | refine J.loadO Ty.a4 rfl (.tail _ (.tail _ (.tail _ (.tail _ (.tail _ (.tail _ (.head _))))))) rfl rfl ?_ | refine J.loadO Ty.a4 rfl (.tail _ (.tail _ (.tail _ (.tail _ (.tail _ (.tail _ (.tail _ (.head _)))))))) rfl rfl ?_ | refine J.loadO Ty.a4 rfl (.tail _ (.tail _ (.tail _ (.tail _ (.tail _ (.tail _ (.tail _ (.tail _ (.head _))))))))) rfl rfl ?_ | refine J.loadO Ty.a4 rfl (List.mem_append_right _ (.head _)) rfl rfl ?_ | refine J.loadO Ty.a4 rfl (List.mem_append_right _ (.tail _ (.head _))) rfl rfl ?_ | refine J.loadO Ty.a4 rfl (List.mem_append_right _ (.tail _ (.tail _ (.head _)))) rfl rfl ?_ | refine J.loadO Ty.a4 rfl (List.mem_append_right _ (.tail _ (.tail _ (.tail _ (.head _))))) rfl rfl ?_ | refine J.loadO Ty.a4 rfl (List.mem_append_right _ (.tail _ (.tail _ (.tail _ (.tail _ (.head _)))))) rfl rfl ?_ | refine J.loadO Ty.a4 rfl (List.mem_append_right _ (.tail _ (.tail _ (.tail _ (.tail _ (.tail _ (.head _))))))) rfl rfl ?_ | refine J.loadO Ty.a4 rfl (List.mem_append_right _ (.tail _ (.tail _ (.tail _ (.tail _ (.tail _ (.tail _ (.head _)))))))) rfl rfl ?_ | refine J.loadO Ty.a4 rfl (List.mem_append_right _ (.tail _ (.tail _ (.tail _ (.tail _ (.tail _ (.tail _ (.tail _ (.head _))))))))) rfl rfl ?_ | refine J.loadO Ty.a4 rfl (List.mem_append_right _ (.tail _ (.tail _ (.tail _ (.tail _ (.tail _ (.tail _ (.tail _ (.tail _ (.head _)))))))))) rfl rfl ?_)
      refine J.move rfl rfl ?_
      first
        | (refine J.skip rfl rfl rfl rfl rfl ?_)
        | (refine J.skipU rfl rfl rfl rfl ?_)
        | (refine J.unguard rfl rfl rfl ?_; refine J.fieldAddr Ty.fd37_1 rfl rfl ?_)
      first
        | (refine J.skip rfl rfl rfl rfl rfl ?_)
        | (refine J.skipU rfl rfl rfl rfl ?_)
        | (refine J.unguard rfl rfl rfl ?_; (first | refine J.loadO Ty.a4 rfl (.head _) rfl rfl ?_ | refine J.loadO Ty.a4 rfl (.tail _ (.head _)) rfl rfl ?_ | refine J.loadO Ty.a4 rfl (.tail _ (.tail _ (.head _))) rfl rfl ?_ | refine J.loadO Ty.a4 rfl (.tail _ (.tail _ (.tail _ (.head _)))) rfl rfl ?_ | refine J.loadO Ty.a4 rfl (.tail _ (.tail _ (.tail _ (.tail _ (.head _))))) rfl rfl ?_ | refine J.loadO Ty.a4 rfl (.tail _ (.tail _ (.tail _ (.tail _ (.tail _ (.head _)))))) rfl rfl ?_ | refine J.loadO Ty.a4 rfl (.tail _ (.tail _ (.tail _ (.tail _ (.tail _ (.tail _ (.head _))))))) rfl rfl ?_ | refine J.loadO Ty.a4 rfl (.tail _ (.tail _ (.tail _ (.tail _ (.tail _ (.tail _ (.tail _ (.head _)))))))) rfl rfl ?_ | refine J.loadO Ty.a4 rfl (.tail _ (.tail _ (.tail _ (.tail _ (.tail _ (.tail _ (.tail _ (.tail _ (.head _))))))))) rfl rfl ?_ | refine J.loadO Ty.a4 rfl (List.mem_append_right _ (.head _)) rfl rfl ?_ | refine J.loadO Ty.a4 rfl (List.mem_append_right _ (.tail _ (.head _))) rfl rfl ?_ | refine J.loadO Ty.a4 rfl (List.mem_append_right _ (.tail _ (.tail _ (.head _)))) rfl rfl ?_ | refine J.loadO Ty.a4 rfl (List.mem_append_right _ (.tail _ (.tail _ (.tail _ (.head _))))) rfl rfl ?_ | refine J.loadO Ty.a4 rfl (List.mem_append_right _ (.tail _ (.tail _ (.tail _ (.tail _ (.head _)))))) rfl rfl ?_ | refine J.loadO Ty.a4 rfl (List.mem_append_right _ (.tail _ (.tail _ (.tail _ (.tail _ (.tail _ (.head _))))))) rfl rfl ?_ | refine J.loadO Ty.a4 rfl (List.mem_append_right _ (.tail _ (.tail _ (.tail _ (.tail _ (.tail _ (.tail _ (.head _)))))))) rfl rfl ?_ | refine J.loadO Ty.a4 rfl (List.mem_append_right _ (.tail _ (.tail _ (.tail _ (.tail _ (.tail _ (.tail _ (.tail _ (.head _))))))))) rfl rfl ?_ | refine J.loadO Ty.a4 rfl (List.mem_append_right _ (.tail _ (.tail _ (.tail _ (.tail _ (.tail _ (.tail _ (.tail _ (.tail _ (.head _)))))))))) rfl rfl ?_))
      first
        | (refine J.skip rfl rfl rfl rfl rfl ?_)
        | (refine J.skipU rfl rfl rfl rfl ?_)
        | (refine J.unguard rfl rfl rfl ?_; refine J.not rfl rfl ?_)
      (first | refine J.pickT rfl rfl rfl ?_ | refine J.pickF rfl rfl rfl ?_)
      refine J.move rfl rfl ?_
      first
        | (refine J.skip rfl rfl rfl rfl rfl ?_)
        | (refine J.skipU rfl rfl rfl rfl ?_)
        | (refine J.unguard rfl rfl rfl ?_; refine J.fieldAddr Ty.fd37_0 rfl rfl ?_)
      first
        | (refine J.skip rfl rfl rfl rfl rfl ?_)
        | (refine J.skipU rfl rfl rfl rfl ?_)
        | (refine J.unguard rfl rfl rfl ?_; (first | refine J.loadO Ty.a35 rfl (.head _) rfl rfl ?_ | refine J.loadO Ty.a35 rfl (.tail _ (.head _)) rfl rfl ?_ | refine J.loadO Ty.a35 rfl (.tail _ (.tail _ (.head _))) rfl rfl ?_ | refine J.loadO Ty.a35 rfl (.tail _ (.tail _ (.tail _ (.head _)))) rfl rfl ?_ | refine J.loadO Ty.a35 rfl (.tail _ (.tail _ (.tail _ (.tail _ (.head _))))) rfl rfl ?_ | refine J.loadO Ty.a35 rfl (.tail _ (.tail _ (.tail _ (.tail _ (.tail _ (.head _)))))) rfl rfl ?_ | refine J.loadO Ty.a35 rfl (.tail _ (.tail _ (.tail _ (.tail _ (.tail _ (.tail _ (.head _))))))) rfl rfl ?_ | refine J.loadO Ty.a35 rfl (.tail _ (.tail _ (.tail _ (.tail _ (.tail _ (.tail _ (.tail _ (.head _)))))))) rfl rfl ?_ | refine J.loadO Ty.a35 rfl (.tail _ (.tail _ (.tail _ (.tail _ (.tail _ (.tail _ (.tail _ (.tail _ (.head _))))))))) rfl rfl ?_ | refine J.loadO Ty.a35 rfl (List.mem_append_right _ (.head _)) rfl rfl ?_ | refine J.loadO Ty.a35 rfl (List.mem_append_right _ (.tail _ (.head _))) rfl rfl ?_ | refine J.loadO Ty.a35 rfl (List.mem_append_right _ (.tail _ (.tail _ (.head _)))) rfl rfl ?_ | refine J.loadO Ty.a35 rfl (List.mem_append_right _ (.tail _ (.tail _ (.tail _ (.head _))))) rfl rfl ?_ | refine J.loadO Ty.a35 rfl (List.mem_append_right _ (.tail _ (.tail _ (.tail _ (.tail _ (.head _)))))) rfl rfl ?_ | refine J.loadO Ty.a35 rfl (List.mem_append_right _ (.tail _ (.tail _ (.tail _ (.tail _ (.tail _ (.head _))))))) rfl rfl ?_ | refine J.loadO Ty.a35 rfl (List.mem_append_right _ (.tail _ (.tail _ (.tail _ (.tail _ (.tail _ (.tail _ (.head _)))))))) rfl rfl ?_ | refine J.loadO Ty.a35 rfl (List.mem_append_right _ (.tail _ (.tail _ (.tail _ (.tail _ (.tail _ (.tail _ (.tail _ (.head _))))))))) rfl rfl ?_ | refine J.loadO Ty.a35 rfl (List.mem_append_right _ (.tail _ (.tail _ (.tail _ (.tail _ (.tail _ (.tail _ (.tail _ (.tail _ (.head _)))))))))) rfl rfl ?_))
      first
        | (refine J.skip rfl rfl rfl rfl rfl ?_)
        | (refine J.skipU rfl rfl rfl rfl ?_)
        | (refine J.unguard rfl rfl rfl ?_; refine J.lenS rfl Ty.u35 rfl rfl ?_)
      first
        | (refine J.skip rfl rfl rfl rfl rfl ?_)
        | (refine J.skipU rfl rfl rfl rfl ?_)
        | (refine J.unguard rfl rfl rfl ?_; refine J.bin rfl rfl rfl rfl ?_)
      (first | refine J.pickT rfl rfl rfl ?_ | refine J.pickF rfl rfl rfl ?_)
      refine J.move rfl rfl ?_
      first
        | (refine J.skip rfl rfl rfl rfl rfl ?_)
        | (refine J.skipU rfl rfl rfl rfl ?_)
        | (refine J.unguard rfl rfl rfl ?_; refine J.move rfl rfl ?_)
      first
        | (refine J.skip rfl rfl rfl rfl rfl ?_)
        | (refine J.skipU rfl rfl rfl rfl ?_)
        | (refine J.unguard rfl rfl rfl ?_; refine J.bin rfl rfl rfl rfl ?_)
      (first | refine J.pickT rfl rfl rfl ?_ | refine J.pickF rfl rfl rfl ?_)
      refine J.move rfl rfl ?_
      first
        | (refine J.skip rfl rfl rfl rfl rfl ?_)
        | (refine J.skipU rfl rfl rfl rfl ?_)
        | (refine J.unguard rfl rfl rfl ?_; refine J.fieldAddr Ty.fd37_2 rfl rfl ?_)
      first
        | (refine J.skip rfl rfl rfl rfl rfl ?_)
        | (refine J.skipU rfl rfl rfl rfl ?_)
        | (refine J.unguard rfl rfl rfl ?_; (first | refine J.loadO Ty.a4 rfl (.head _) rfl rfl ?_ | refine J.loadO Ty.a4 rfl (.tail _ (.head _)) rfl rfl ?_ | refine J.loadO Ty.a4 rfl (.tail _ (.tail _ (.head _))) rfl rfl ?_ | refine J.loadO Ty.a4 rfl (.tail _ (.tail _ (.tail _ (.head _)))) rfl rfl ?_ | refine J.loadO Ty.a4 rfl (.tail _ (.tail _ (.tail _ (.tail _ (.head _))))) rfl rfl ?_ | refine J.loadO Ty.a4 rfl (.tail _ (.tail _ (.tail _ (.tail _ (.tail _ (.head _)))))) rfl rfl ?_ | refine J.loadO Ty.a4 rfl (.tail _ (.tail _ (.tail _ (.tail _ (.tail _ (.tail _ (.head _))))))) rfl rfl ?_ | refine J.loadO Ty.a4 rfl (.tail _ (.tail _ (.tail _ (.tail _ (.tail _ (.tail _ (.tail _ (.head _)))))))) rfl rfl ?_ | refine J.loadO Ty.a4 rfl (.tail _ (.tail _ (.tail _ (.tail _ (.tail _ (.tail _ (.tail _ (.tail _ (.head _))))))))) rfl rfl ?_ | refine J.loadO Ty.a4 rfl (List.mem_append_right _ (.head _)) rfl rfl ?_ | refine J.loadO Ty.a4 rfl (List.mem_append_right _ (.tail _ (.head _))) rfl rfl ?_ | refine J.loadO Ty.a4 rfl (List.mem_append_right _ (.tail _ (.tail _ (.head _)))) rfl rfl ?_ | refine J.loadO Ty.a4 rfl (List.mem_append_right _ (.tail _ (.tail _ (.tail _ (.head _))))) rfl rfl ?_ | refine J.loadO Ty.a4 rfl (List.mem_append_right _ (.tail _ (.tail _ (.tail _ (.tail _ (.head _)))))) rfl rfl ?_ | refine J.loadO Ty.a4 rfl (List.mem_append_right _ (.tail _ (.tail _ (.tail _ (.tail _ (.tail _ (.head _))))))) rfl rfl ?_ | refine J.loadO Ty.a4 rfl (List.mem_append_right _ (.tail _ (.tail _ (.tail _ (.tail _ (.tail _ (.tail _ (.head _)))))))) rfl rfl ?_ | refine J.loadO Ty.a4 rfl (List.mem_append_right _ (.tail _ (.tail _ (.tail _ (.tail _ (.tail _ (.tail _ (.tail _ (.head _))))))))) rfl rfl ?_ | refine J.loadO Ty.a4 rfl (List.mem_append_right _ (.tail _ (.tail _ (.tail _ (.tail _ (.tail _ (.tail _ (.tail _ (.tail _ (.head _)))))))))) rfl rfl ?_))
      (first | refine J.pickT rfl rfl rfl ?_ | refine J.pickF rfl rfl rfl ?_)
      refine J.move rfl rfl ?_
      first
        | (refine J.skip rfl rfl rfl rfl rfl ?_)
        | (refine J.skipU rfl rfl rfl rfl ?_)
        | (refine J.unguard rfl rfl rfl ?_; refine J.fieldAddr Ty.fd37_0 rfl rfl ?_)
      first
        | (refine J.skip rfl rfl rfl rfl rfl ?_)
        | (refine J.skipU rfl rfl rfl rfl ?_)
        | (refine J.unguard rfl rfl rfl ?_; (first | refine J.loadO Ty.a35 rfl (.head _) rfl rfl ?_ | refine J.loadO Ty.a35 rfl (.tail _ (.head _)) rfl rfl ?_ | refine J.loadO Ty.a35 rfl (.tail _ (.tail _ (.head _))) rfl rfl ?_ | refine J.loadO Ty.a35 rfl (.tail _ (.tail _ (.tail _ (.head _)))) rfl rfl ?_ | refine J.loadO Ty.a35 rfl (.tail _ (.tail _ (.tail _ (.tail _ (.head _))))) rfl rfl ?_ | refine J.loadO Ty.a35 rfl (.tail _ (.tail _ (.tail _ (.tail _ (.tail _ (.head _)))))) rfl rfl ?_ | refine J.loadO Ty.a35 rfl (.tail _ (.tail _ (.tail _ (.tail _ (.tail _ (.tail _ (.head _))))))) rfl rfl ?_ | refine J.loadO Ty.a35 rfl (.tail _ (.tail _ (.tail _ (.tail _ (.tail _ (.tail _ (.tail _ (.head _)))))))) rfl rfl ?_ | refine J.loadO Ty.a35 rfl (.tail _ (.tail _ (.tail _ (.tail _ (.tail _ (.tail _ (.tail _ (.tail _ (.head _))))))))) rfl rfl ?_ | refine J.loadO Ty.a35 rfl (List.mem_append_right _ (.head _)) rfl rfl ?_ | refine J.loadO Ty.a35 rfl (List.mem_append_right _ (.tail _ (.head _))) rfl rfl ?_ | refine J.loadO Ty.a35 rfl (List.mem_append_right _ (.tail _ (.tail _ (.head _)))) rfl rfl ?_ | refine J.loadO Ty.a35 rfl (List.mem_append_right _ (.tail _ (.tail _ (.tail _ (.head _))))) rfl rfl ?_ | refine J.loadO Ty.a35 rfl (List.mem_append_right _ (.tail _ (.tail _ (.tail _ (.tail _ (.head _)))))) rfl rfl ?_ | refine J.loadO Ty.a35 rfl (List.mem_append_right _ (.tail _ (.tail _ (.tail _ (.tail _ (.tail _ (.head _))))))) rfl rfl ?_ | refine J.loadO Ty.a35 rfl (List.mem_append_right _ (.tail _ (.tail _ (.tail _ (.tail _ (.tail _ (.tail _ (.head _)))))))) rfl rfl ?_ | refine J.loadO Ty.a35 rfl (List.mem_append_right _ (.tail _ (.tail _ (.tail _ (.tail _ (.tail _ (.tail _ (.tail _ (.head _))))))))) rfl rfl ?_ | refine J.loadO Ty.a35 rfl (List.mem_append_right _ (.tail _ (.tail _ (.tail _ (.tail _ (.tail _ (.tail _ (.tail _ (.tail _ (.head _)))))))))) rfl rfl ?_))
      first
        | (refine J.skip rfl rfl rfl rfl rfl ?_)
        | (refine J.skipU rfl rfl rfl rfl ?_)
        | (refine J.unguard rfl rfl rfl ?_; refine J.lenS rfl Ty.u35 rfl rfl ?_)
      first
        | (refine J.skip rfl rfl rfl rfl rfl ?_)
        | (refine J.skipU rfl rfl rfl rfl ?_)
        | (refine J.unguard rfl rfl rfl ?_; refine J.bin rfl rfl rfl rfl ?_)
      (first | refine J.pickT rfl rfl rfl ?_ | refine J.pickF rfl rfl rfl ?_)
      refine J.move rfl rfl ?_
      first
        | (refine J.skip rfl rfl rfl rfl rfl ?_)
        | (refine J.skipU rfl rfl rfl rfl ?_)
        | (refine J.unguard rfl rfl rfl ?_; refine J.fieldAddr Ty.fd37_0 rfl rfl ?_)
      first
        | (refine J.skip rfl rfl rfl rfl rfl ?_)
        | (refine J.skipU rfl rfl rfl rfl ?_)
        | (refine J.unguard rfl rfl rfl ?_; (first | refine J.loadO Ty.a35 rfl (.head _) rfl rfl ?_ | refine J.loadO Ty.a35 rfl (.tail _ (.head _)) rfl rfl ?_ | refine J.loadO Ty.a35 rfl (.tail _ (.tail _ (.head _))) rfl rfl ?_ | refine J.loadO Ty.a35 rfl (.tail _ (.tail _ (.tail _ (.head _)))) rfl rfl ?_ | refine J.loadO Ty.a35 rfl (.tail _ (.tail _ (.tail _ (.tail _ (.head _))))) rfl rfl ?_ | refine J.loadO Ty.a35 rfl (.tail _ (.tail _ (.tail _ (.tail _ (.tail _ (.head _)))))) rfl rfl ?_ | refine J.loadO Ty.a35 rfl (.tail _ (.tail _ (.tail _ (.tail _ (.tail _ (.tail _ (.head _))))))) rfl rfl ?_ | refine J.loadO Ty.a35 rfl (.tail _ (.tail _ (.tail _ (.tail _ (.tail _ (.tail _ (.tail _ (.head _)))))))) rfl rfl ?_ | refine J.loadO Ty.a35 rfl (.tail _ (.tail _ (.tail _ (.tail _ (.tail _ (.tail _ (.tail _ (.tail _ (.head _))))))))) rfl rfl ?_ | refine J.loadO Ty.a35 rfl (List.mem_append_right _ (.head _)) rfl rfl ?_ | refine J.loadO Ty.a35 rfl (List.mem_append_right _ (.tail _ (.head _))) rfl rfl ?_ | refine J.loadO Ty.a35 rfl (List.mem_append_right _ (.tail _ (.tail _ (.head _)))) rfl rfl ?_ | refine J.loadO Ty.a35 rfl (List.mem_append_right _ (.tail _ (.tail _ (.tail _ (.head _))))) rfl rfl ?_ | refine J.loadO Ty.a35 rfl (List.mem_append_right _ (.tail _ (.tail _ (.tail _ (.tail _ (.head _)))))) rfl rfl ?_ | refine J.loadO Ty.a35 rfl (List.mem_append_right _ (.tail _ (.tail _ (.tail _ (.tail _ (.tail _ (.head _))))))) rfl rfl ?_ | refine J.loadO Ty.a35 rfl (List.mem_append_right _ (.tail _ (.tail _ (.tail _ (.tail _ (.tail _ (.tail _ (.head _)))))))) rfl rfl ?_ | refine J.loadO Ty.a35 rfl (List.mem_append_right _ (.tail _ (.tail _ (.tail _ (.tail _ (.tail _ (.tail _ (.tail _ (.head _))))))))) rfl rfl ?_ | refine J.loadO Ty.a35 rfl (List.mem_append_right _ (.tail _ (.tail _ (.tail _ (.tail _ (.tail _ (.tail _ (.tail _ (.tail _ (.head _)))))))))) rfl rfl ?_))
      first
        | (refine J.skip rfl rfl rfl rfl rfl ?_)
        | (refine J.skipU rfl rfl rfl rfl ?_)
        | (refine J.unguard rfl rfl rfl ?_; refine J.indexAddrS Ty.el35 Ty.s54 rfl rfl (by omega) (by omega) rfl ?_)
      first
        | (refine J.skip rfl rfl rfl rfl rfl ?_)
        | (refine J.skipU rfl rfl rfl rfl ?_)
        | (refine J.unguard rfl rfl rfl ?_; refine J.fieldAddr Ty.fd54_1 rfl rfl ?_)
      first
        | (refine J.skip rfl rfl rfl rfl rfl ?_)
        | (refine J.skipU rfl rfl rfl rfl ?_)
        | (refine J.unguard rfl rfl rfl ?_; refine J.fieldAddr Ty.fd52_0 rfl rfl ?_)
      first
        | (refine J.skip rfl rfl rfl rfl rfl ?_)
        | (refine J.skipU rfl rfl rfl rfl ?_)
        | (refine J.unguard rfl rfl rfl ?_; (first | refine J.loadO Ty.a3 rfl (.head _) rfl rfl ?_ | refine J.loadO Ty.a3 rfl (.tail _ (.head _)) rfl rfl ?_ | refine J.loadO Ty.a3 rfl (.tail _ (.tail _ (.head _))) rfl rfl ?_ | refine J.loadO Ty.a3 rfl (.tail _ (.tail _ (.tail _ (.head _)))) rfl rfl ?_ | refine J.loadO Ty.a3 rfl (.tail _ (.tail _ (.tail _ (.tail _ (.head _))))) rfl rfl ?_ | refine J.loadO Ty.a3 rfl (.tail _ (.tail _ (.tail _ (.tail _ (.tail _ (.head _)))))) rfl rfl ?_ | refine J.loadO Ty.a3 rfl (.tail _ (.tail _ (.tail _ (.tail _ (.tail _ (.tail _ (.head _))))))) rfl rfl ?_ | refine J.loadO Ty.a3 rfl (.tail _ (.tail _ (.tail _ (.tail _ (.tail _ (.tail _ (.tail _ (.head _)))))))) rfl rfl ?_ | refine J.loadO Ty.a3 rfl (.tail _ (.tail _ (.tail _ (.tail _ (.tail _ (.tail _ (.tail _ (.tail _ (.head _))))))))) rfl rfl ?_ | refine J.loadO Ty.a3 rfl (List.mem_append_right _ (.head _)) rfl rfl ?_ | refine J.loadO Ty.a3 rfl (List.mem_append_right _ (.tail _ (.head _))) rfl rfl ?_ | refine J.loadO Ty.a3 rfl (List.mem_append_right _ (.tail _ (.tail _ (.head _)))) rfl rfl ?_ | refine J.loadO Ty.a3 rfl (List.mem_append_right _ (.tail _ (.tail _ (.tail _ (.head _))))) rfl rfl ?_ | refine J.loadO Ty.a3 rfl (List.mem_append_right _ (.tail _ (.tail _ (.tail _ (.tail _ (.head _)))))) rfl rfl ?_ | refine J.loadO Ty.a3 rfl (List.mem_append_right _ (.tail _ (.tail _ (.tail _ (.tail _ (.tail _ (.head _))))))) rfl rfl ?_ | refine J.loadO Ty.a3 rfl (List.mem_append_right _ (.tail _ (.tail _ (.tail _ (.tail _ (.tail _ (.tail _ (.head _)))))))) rfl rfl ?_ | refine J.loadO Ty.a3 rfl (List.mem_append_right _ (.tail _ (.tail _ (.tail _ (.tail _ (.tail _ (.tail _ (.tail _ (.head _))))))))) rfl rfl ?_ | refine J.loadO Ty.a3 rfl (List.mem_append_right _ (.tail _ (.tail _ (.tail _ (.tail _ (.tail _ (.tail _ (.tail _ (.tail _ (.head _)))))))))) rfl rfl ?_))
      first
        | (refine J.skip rfl rfl rfl rfl rfl ?_)
        | (refine J.skipU rfl rfl rfl rfl ?_)
        | (refine J.unguard rfl rfl rfl ?_; refine J.bin rfl rfl rfl rfl ?_)
      (first | refine J.pickT rfl rfl rfl ?_ | refine J.pickF rfl rfl rfl ?_)
      refine J.move rfl rfl ?_
      first
        | (refine J.skip rfl rfl rfl rfl rfl ?_)
        | (refine J.skipU rfl rfl rfl rfl ?_)
        | (refine J.unguard rfl rfl rfl ?_; refine J.move rfl rfl ?_)
      refine J.unguard rfl rfl rfl ?_
      refine J.callB (v := .int .i64 1) (fun w1 w2 hw hb => hw.step hb) Ty.bd20 rfl rfl (fun w1 hw => len_spec t8 m8 1 [(⟨q, idN 1, idN 2, 1, 2⟩ : EV)] es9 ck9 w1 (St.owns (l1 := [(t8, tabO 1 m8), (m8, .map es9 ck9)]) (l := (xb, cb (cD (.slice (some ⟨h8, 0, none⟩) 1 1) false true) 37) :: (h8, cb (cH 0 (cF 5 p zI zI nilV)) 54) :: (xa, cb (cD nilV false true) 37) :: (b43, cb ((OPS 6).map bV) 4) :: (b3, cb (cP p) 25) :: (b4, cb (cP q) 25) :: []) (hw.perm (by (refine perm_cnt (fun _ => ?_)); simp only [cntB_append, cntB_cons, cntB_nil, Nat.add_zero, Nat.zero_add]; try ac_rfl))) hT9) ?_
      first
        | (refine J.skip rfl rfl rfl rfl rfl ?_)
        | (refine J.skipU rfl rfl rfl rfl ?_)
        | (refine J.unguard rfl rfl rfl ?_; refine J.bin rfl rfl rfl rfl ?_)
      (first | refine J.pickT rfl rfl rfl ?_ | refine J.pickF rfl rfl rfl ?_)
      refine J.assign rfl rfl ?_
      refine J.nil ?_
      refine JX.thenN (hK9 _ _ ?_)
      refine JC.ret ?_
      refine JX.ret1 rfl rfl (fun w hw => ?_)
      exact ⟨rfl, hw.below⟩

theorem setupFull_walk (w : World) (pc : List Value) (p : PV) (hpc : RPath w pc p) (qc : List Value) (q : PV) (hqc : RPath w qc q) (o : Sl Int) (ho : RSl 1 8 (RInt .i64) w [o.v] o) :
    Calls Try.prog 3 [.agg pc.toArray, .agg qc.toArray, o.v].toArray w fun r w' => r = .returned (.bool true) ∧ Below w.heap.size w w' := by
  obtain ⟨rfl, hp⟩ := hpc
  obtain ⟨rfl, hq⟩ := hqc
  by_cases h1 : p = q
  · exact full1 w p q hp hq o.v h1
  by_cases h2 : o.xs.length < 2
  · exact full2 w p q hp hq o.a o.xs.length o.c h1 h2
  have hr := RSl.rowI ho
  obtain ⟨b, off, c, hv, _, _⟩ := Row.some hr (by simp; omega)
  rw [hv] at hr ⊢
  match hx : o.xs with
  | [] => rw [hx] at h2; simp at h2
  | [_] => rw [hx] at h2; simp at h2
  | n0 :: n1 :: rest =>
    rw [hx] at hr
    by_cases h3 : n0 = 0
    · subst h3
      rcases Int.lt_or_le n1 1 with h4 | h4
      · exact full4 w p q hp hq b off c n1 rest hr h1 h4
      · rcases Int.lt_or_le 5 n1 with h5 | h5
        · exact full5 w p q hp hq b off c n1 rest hr h1 h4 h5
        · exact full6 w p q hp hq b off c n1 rest hr h1 h4 h5
    · exact full3 w p q hp hq b off c n1 rest n0 hr h1 h3
end Go.Proofs.Ytpldpkdlloolkaa
