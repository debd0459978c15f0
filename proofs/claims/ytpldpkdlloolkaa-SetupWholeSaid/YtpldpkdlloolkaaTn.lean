/-
  What the law SetupWhole calls: contracts.
-/
import Derived.Test.YtpldpkdlloolkaaTx
import Derived.Test.YtpldpkdlloolkaaTd
namespace Go.Proofs.Ytpldpkdlloolkaa
open Go.J Go.RowKit
set_option linter.unusedVariables false
set_option linter.unusedSimpArgs false
set_option maxRecDepth 8000
def idW (n : Int) : IDV := fun i => if i = 0 then 7 else if i = 1 then UInt8.ofNat n.toNat else 0
theorem idW_ne {n m : Int} (hn : 0 ≤ n ∧ n < 6) (hm : 0 ≤ m ∧ m < 6) (h : n ≠ m) : idW n ≠ idW m := by
  intro e
  have h1 : UInt8.ofNat n.toNat = UInt8.ofNat m.toNat := by simpa [idW] using congrFun e 1
  have h2 := congrArg UInt8.toNat h1
  simp at h2
  omega
theorem wrap_small {n : Int} (hn : 0 ≤ n ∧ n < 6) : Value.int .u8 (IntKind.u8.wrap n) = u8 (UInt8.ofNat n.toNat) := by
  rw [wrap_u8m]
  show Value.int .u8 _ = Value.int .u8 _
  congr 1
  simp
  omega

theorem rplace_spec (v : Value) (xs : List Int) (n : Int) (w : World) (hr : Row w v xs.length (xs.map iV)) (hl : xs.length < 4611686018427387904) :
    Calls Try.prog 21 [v, .int .i64 n].toArray w fun r w' => r = .returned (.int .i64 (placeP xs n)) ∧ Below w.heap.size w w' := by
  obtain ⟨a, c, rfl, hc, _⟩ := id hr
  refine calls_of_J (args := [.slice a xs.length c, .int .i64 n]) (e := [(0, .slice a xs.length c), (1, .int .i64 n)]) Try.func21 rfl rfl ⟨rfl, rfl, trivial⟩ (St.start w) ?_
  refine JC.seq (fun K0 hK0 => ?_)
  refine JC.region ?_
  refine J.assign rfl rfl ?_
  refine J.nil ?_
  refine JX.thenN (hK0 _ _ ?_)
  refine JC.seq (fun K1 hK1 => ?_)
  refine JC.seq (fun K2 hK2 => ?_)
  refine JC.region ?_
  refine J.assign rfl rfl ?_
  refine J.nil ?_
  refine JX.thenN (hK2 _ _ ?_)
  refine JC.block ?_
  refine JC.conseq (JC.cov (f := (fun i => [(0, .slice a xs.length c), (1, iV n), (5, iV ((i : Nat) : Int))]) 0) ⟨rfl, rfl, rfl, trivial⟩ (JC.loop (α := Nat) (fun i => [(0, .slice a xs.length c), (1, iV n), (5, iV ((i : Nat) : Int))]) (fun i w' => (i ≤ xs.length ∧ ∀ j, j < i → xs[j]? ≠ some n) ∧ St w [] [] w') (fun i => xs.length - i) 0 (fun i => ?_))) (fun w hw => ⟨⟨Nat.zero_le _, by omega⟩, hw⟩)
  refine JC.pr (fun hx => ?_)
  obtain ⟨hi, hpre⟩ := hx
  refine JC.seq (fun K3 hK3 => ?_)
  refine JC.seq (fun K4 hK4 => ?_)
  refine JC.region ?_
  refine J.move rfl rfl ?_
  refine J.move rfl rfl ?_
  refine J.lenS rfl Ty.u26 rfl rfl ?_
  refine J.bin rfl rfl rfl rfl ?_
  refine J.nil ?_
  refine JX.thenN (hK4 _ _ ?_)
  refine JC.cond rfl (fun h0 => ?_) (fun h0 => ?_)
  · skip
    have hlt : i < xs.length := by simp at h0; omega
    have hcl := (Row.some hr (by simp; omega))
    obtain ⟨b, o, c', hqe, _, hcl⟩ := hcl
    simp only [Value.slice.injEq] at hqe
    obtain ⟨rfl, _, rfl⟩ := hqe
    have hcell : w.cell? ⟨b, o + i * 1, none⟩ = some (iV xs[i]) := hcl.get (i := i) (by rw [List.getElem?_map, List.getElem?_eq_getElem hlt]; rfl) (by omega)
    refine JC.skip ?_
    refine JX.thenN (hK3 _ _ ?_)
    refine JC.seq (fun K5 hK5 => ?_)
    refine JC.block ?_
    refine JC.seq (fun K6 hK6 => ?_)
    refine JC.region ?_
    refine J.move rfl rfl ?_
    refine J.move rfl rfl ?_
    refine J.indexAddrS Ty.el26 Ty.s3 rfl rfl (by omega) (by omega) rfl ?_
    refine J.loadR (v := iV xs[i]) Ty.a3 rfl hcell (by simp) rfl ?_
    refine J.move rfl rfl ?_
    refine J.bin rfl rfl rfl rfl ?_
    refine J.nil ?_
    refine JX.thenN (hK6 _ _ ?_)
    refine JC.cond rfl (fun h1 => ?_) (fun h1 => ?_)
    · skip
      have he : xs[i] = n := by simp at h1; exact h1
      refine JC.seq (fun K7 hK7 => ?_)
      refine JC.region ?_
      refine J.move rfl rfl ?_
      refine J.assign rfl rfl ?_
      refine J.nil ?_
      refine JX.thenN (hK7 _ _ ?_)
      refine JC.ret ?_
      refine JX.blockR ?_
      refine JX.thenR ?_
      refine JX.thenR ?_
      refine JX.blockR ?_
      refine JX.thenR ?_
      refine JX.ret1 rfl rfl (fun w hw => ?_)
      first | exact ⟨by rw [place_at hlt hpre he], hw.below⟩ | exact ⟨by rw [place_no (by rw [← hge]; exact hpre)], hw.below⟩
    · skip
      have hne : ¬ xs[i] = n := fun e => by simp [e] at h1
      refine JC.skip ?_
      refine JX.blockN ?_
      refine JX.thenN (hK5 _ _ ?_)
      refine JC.region ?_
      refine J.move rfl rfl ?_
      (first | refine J.addN rfl rfl (by omega) (by omega) rfl ?_ | refine J.bin rfl rfl rfl rfl ?_)
      refine J.assign rfl rfl ?_
      refine J.nil ?_
      refine JX.thenN ?_
      refine JX.again (i + 1) ?_ ?_ ?_
      · omega
      · exact ⟨rfl, rfl, rfl, trivial⟩
      · exact fun w1 hw => ⟨⟨hlt, fun j hj => by
        rcases Nat.lt_or_ge j i with h | h
        · exact hpre j h
        · have : j = i := by omega
          subst this
          rw [List.getElem?_eq_getElem hlt]; simp; exact hne⟩, hw⟩
  · skip
    have hge : i = xs.length := by simp at h0; omega
    refine JC.exit ?_
    refine JX.thenE ?_
    refine JX.thenE ?_
    refine JX.blockE ?_
    refine JX.thenN (hK1 _ _ ?_)
    refine JC.seq (fun K8 hK8 => ?_)
    refine JC.region ?_
    refine J.assign rfl rfl ?_
    refine J.nil ?_
    refine JX.thenN (hK8 _ _ ?_)
    refine JC.ret ?_
    refine JX.ret1 rfl rfl (fun w hw => ?_)
    first | exact ⟨by rw [place_at hlt hpre he], hw.below⟩ | exact ⟨by rw [place_no (by rw [← hge]; exact hpre)], hw.below⟩

theorem idc_spec (b5 q cq : Nat) (W : List Int) (sp : List Value) (w : World) (hw0 : Own w [(b5, cb [.slice (some ⟨q, 0, none⟩) W.length cq] 26), (q, cb (W.map iV ++ sp) 3)]) (hcq : W.length ≤ cq) (k : Int) (i : Nat) (hk : k = (i : Int)) (n : Int) (hn : W[i]? = some n) (hr6 : 0 ≤ n ∧ n < 6) :
    Calls Try.prog 22 [.int .i64 k, .pointer (some ⟨b5, 0, none⟩)].toArray w fun r w' => r = .returned (.agg (cI (idW n)).toArray) ∧ Below w.heap.size w w' := by
  have hi := (List.getElem?_eq_some_iff.1 hn).1
  subst hk
  refine calls_of_J (args := [.int .i64 (i : Int), .pointer (some ⟨b5, 0, none⟩)]) (e := [(0, .int .i64 (i : Int)), (1, .pointer (some ⟨b5, 0, none⟩))]) Try.func22 rfl rfl ⟨rfl, rfl, trivial⟩ (hw0.st) ?_
  refine JC.seq (fun K0 hK0 => ?_)
  refine JC.region ?_
  refine J.alloc Ty.z23 rfl rfl (fun b3 => ?_)
  refine J.nil ?_
  refine JX.thenN (hK0 _ _ ?_)
  refine JC.seq (fun K1 hK1 => ?_)
  refine JC.region ?_
  (first | refine J.loadO Ty.a26 rfl (.head _) rfl rfl ?_ | refine J.loadO Ty.a26 rfl (.tail _ (.head _)) rfl rfl ?_ | refine J.loadO Ty.a26 rfl (.tail _ (.tail _ (.head _))) rfl rfl ?_ | refine J.loadO Ty.a26 rfl (.tail _ (.tail _ (.tail _ (.head _)))) rfl rfl ?_ | refine J.loadO Ty.a26 rfl (.tail _ (.tail _ (.tail _ (.tail _ (.head _))))) rfl rfl ?_ | refine J.loadO Ty.a26 rfl (.tail _ (.tail _ (.tail _ (.tail _ (.tail _ (.head _)))))) rfl rfl ?_ | refine J.loadO Ty.a26 rfl (.tail _ (.tail _ (.tail _ (.tail _ (.tail _ (.tail _ (.head _))))))) rfl rfl ?_ | refine J.loadO Ty.a26 rfl (.tail _ (.tail _ (.tail _ (.tail _ (.tail _ (.tail _ (.tail _ (.head _)))))))) rfl rfl ?_ | refine J.loadO Ty.a26 rfl (.tail _ (.tail _ (.tail _ (.tail _ (.tail _ (.tail _ (.tail _ (.tail _ (.head _))))))))) rfl rfl ?_ | refine J.loadO Ty.a26 rfl (List.mem_append_right _ (.head _)) rfl rfl ?_ | refine J.loadO Ty.a26 rfl (List.mem_append_right _ (.tail _ (.head _))) rfl rfl ?_ | refine J.loadO Ty.a26 rfl (List.mem_append_right _ (.tail _ (.tail _ (.head _)))) rfl rfl ?_ | refine J.loadO Ty.a26 rfl (List.mem_append_right _ (.tail _ (.tail _ (.tail _ (.head _))))) rfl rfl ?_ | refine J.loadO Ty.a26 rfl (List.mem_append_right _ (.tail _ (.tail _ (.tail _ (.tail _ (.head _)))))) rfl rfl ?_ | refine J.loadO Ty.a26 rfl (List.mem_append_right _ (.tail _ (.tail _ (.tail _ (.tail _ (.tail _ (.head _))))))) rfl rfl ?_ | refine J.loadO Ty.a26 rfl (List.mem_append_right _ (.tail _ (.tail _ (.tail _ (.tail _ (.tail _ (.tail _ (.head _)))))))) rfl rfl ?_ | refine J.loadO Ty.a26 rfl (List.mem_append_right _ (.tail _ (.tail _ (.tail _ (.tail _ (.tail _ (.tail _ (.tail _ (.head _))))))))) rfl rfl ?_ | refine J.loadO Ty.a26 rfl (List.mem_append_right _ (.tail _ (.tail _ (.tail _ (.tail _ (.tail _ (.tail _ (.tail _ (.tail _ (.head _)))))))))) rfl rfl ?_)
  refine J.move rfl rfl ?_
  refine J.indexAddrS Ty.el26 Ty.s3 rfl rfl (by omega) (by omega) rfl ?_
  refine J.load1 (v := iV n) Ty.a3 rfl (fun w1 hw => (cell_of (hw.own _ (.tail _ (.tail _ (.head _))))).trans (by rw [show 0 + ((i : Nat) : Int).toNat * 1 = i by omega, List.getElem?_append_left (by simp; omega), List.getElem?_map, hn]; rfl)) rfl ?_
  refine J.convInt Ty.u3 Ty.u5 rfl rfl ?_
  refine J.name 8 rfl (wrap_small hr6) ?_
  refine J.buildA (cs := cI (idW n)) Ty.ar23 Ty.s5 Ty.z23 rfl (by kernel_rfl) rfl ?_
  (first | refine J.storeW Ty.s23 rfl rfl rfl rfl rfl (by simp [Value.oneCell']) .here ?_ | refine J.storeW Ty.s23 rfl rfl rfl rfl rfl (by simp [Value.oneCell']) (.there .here) ?_ | refine J.storeW Ty.s23 rfl rfl rfl rfl rfl (by simp [Value.oneCell']) (.there (.there .here)) ?_ | refine J.storeW Ty.s23 rfl rfl rfl rfl rfl (by simp [Value.oneCell']) (.there (.there (.there .here))) ?_ | refine J.storeW Ty.s23 rfl rfl rfl rfl rfl (by simp [Value.oneCell']) (.there (.there (.there (.there .here)))) ?_ | refine J.storeW Ty.s23 rfl rfl rfl rfl rfl (by simp [Value.oneCell']) (.there (.there (.there (.there (.there .here))))) ?_ | refine J.storeW Ty.s23 rfl rfl rfl rfl rfl (by simp [Value.oneCell']) (.there (.there (.there (.there (.there (.there .here)))))) ?_ | refine J.storeW Ty.s23 rfl rfl rfl rfl rfl (by simp [Value.oneCell']) (.there (.there (.there (.there (.there (.there (.there .here))))))) ?_)
  refine J.nil ?_
  refine JX.thenN (hK1 _ _ ?_)
  refine JC.ret ?_
  refine JX.retC rfl rfl Ty.a23 Ty.s23 (vs := cI (idW n)) rfl (fun w1 hw => Cells.of_block (hw.own _ (.head _)) rfl) (fun w1 hw => ?_)
  exact ⟨rfl, hw.same hw0 (fun p hp => by simp at hp ⊢; rcases hp with rfl | rfl <;> simp)⟩

end Go.Proofs.Ytpldpkdlloolkaa
