/-
  Along a simple trail a Setup leaves an entry at each place: walk of the law SetupWhole, second part.
-/
import Derived.Test.YtpldpkdlloolkaaTq
namespace Go.Proofs.Ytpldpkdlloolkaa
open Go.J Go.RowKit
set_option linter.unusedVariables false
set_option linter.unusedSimpArgs false
set_option maxRecDepth 8000

set_option maxHeartbeats 4000000 in
theorem whole_all (w : World) (a : Option Addr) (c : Nat) (xs : List Int) (p : PV) (hkp : okN p.n) (hr : Row w (.slice a xs.length c) xs.length (xs.map iV)) (hxl : xs.length ≤ 17592186043904) :
    Calls Try.prog 4 [.slice a xs.length c, .agg (cP p).toArray].toArray w fun r w' => r = .returned (.bool true) ∧ Below w.heap.size w w' := by
  refine calls_of_J (args := [.slice a xs.length c, .agg (cP p).toArray]) (e := [(0, .slice a xs.length c), (1, .agg (cP p).toArray)]) Try.func4 rfl rfl ⟨rfl, rfl, trivial⟩ (St.start w) ?_
  refine JC.seq (fun K0 hK0 => ?_)
  refine JC.region ?_
  refine J.box rfl rfl rfl (fun b3 => ?_)
  refine J.assign rfl rfl ?_
  refine J.nil ?_
  refine JX.thenN (hK0 _ _ ?_)
  refine JC.seq (fun K1 hK1 => ?_)
  refine JC.region ?_
  refine J.alloc Ty.z26 rfl rfl (fun b5 => ?_)
  refine J.nil ?_
  refine JX.thenN (hK1 _ _ ?_)
  refine JC.seq (fun K2 hK2 => ?_)
  refine JC.seq (fun K3 hK3 => ?_)
  refine JC.region ?_
  refine J.move rfl rfl ?_
  refine J.lenS rfl Ty.u26 rfl rfl ?_
  refine J.move rfl rfl ?_
  refine J.nil ?_
  refine JX.thenN (hK3 _ _ ?_)
  refine JC.block ?_
  refine JC.conseq (JC.cov (f := (fun st => [(0, .slice a xs.length c), (3, .pointer (some ⟨b3, 0, none⟩)), (5, .pointer (some ⟨b5, 0, none⟩)), (19, .slice a xs.length c), (20, iV ((xs.length : Nat) : Int)), (21, iV ((st.i : Nat) : Int))]) (⟨0, [], none, 0, []⟩ : LS)) ⟨rfl, rfl, rfl, rfl, rfl, rfl, trivial⟩ (JC.loop (α := LS) (fun st => [(0, .slice a xs.length c), (3, .pointer (some ⟨b3, 0, none⟩)), (5, .pointer (some ⟨b5, 0, none⟩)), (19, .slice a xs.length c), (20, iV ((xs.length : Nat) : Int)), (21, iV ((st.i : Nat) : Int))]) (fun st w' => (st.i ≤ xs.length ∧ st.W.length ≤ st.i ∧ st.W.Nodup ∧ (∀ n, n ∈ st.W → 0 ≤ n ∧ n < 6) ∧ Vec 3 1 (.slice st.a5 st.W.length st.c5) st.W.length (st.W.map iV) st.lp) ∧ St w [] ((b5, cb [(.slice st.a5 st.W.length st.c5)] 26) :: (b3, cb (cP p) 25) :: st.lp) w') (fun st => xs.length - st.i) (⟨0, [], none, 0, []⟩ : LS) (fun st => ?_))) (fun w hw => ⟨⟨Nat.zero_le _, Nat.le_refl _, List.nodup_nil, by simp, Vec.nil _ _⟩, hw⟩)
  obtain ⟨i, W, a5, c5, lp5⟩ := st
  refine JC.pr (fun hx => ?_)
  obtain ⟨hi, hWi, hnd, hran, hv5⟩ := hx
  simp only at hi hWi hnd hran hv5 ⊢
  refine JC.seq (fun K4 hK4 => ?_)
  refine JC.region ?_
  refine J.bin rfl rfl rfl rfl ?_
  refine J.nil ?_
  refine JX.thenN (hK4 _ _ ?_)
  refine JC.seq (fun K5 hK5 => ?_)
  refine JC.cond rfl (fun h0 => ?_) (fun h0 => ?_)
  · skip
    have hlt : i < xs.length := by simp at h0; omega
    have hcl := (Row.some hr (by simp; omega))
    obtain ⟨b, o, c', hqe, _, hcl⟩ := hcl
    simp only [Value.slice.injEq] at hqe
    obtain ⟨rfl, _, rfl⟩ := hqe
    have hcell : w.cell? ⟨b, o + i * 1, none⟩ = some (iV xs[i]) := hcl.get (i := i) (by rw [List.getElem?_map, List.getElem?_eq_getElem hlt]; rfl) (by omega)
    refine JC.skip ?_
    refine JX.thenN (hK5 _ _ ?_)
    refine JC.seq (fun K6 hK6 => ?_)
    refine JC.block ?_
    refine JC.seq (fun K7 hK7 => ?_)
    refine JC.region ?_
    refine J.indexAddrS Ty.el26 Ty.s3 rfl rfl (by omega) (by omega) rfl ?_
    refine J.loadR (v := iV xs[i]) Ty.a3 rfl hcell (by simp) rfl ?_
    refine J.assign rfl rfl ?_
    refine J.nil ?_
    refine JX.thenN (hK7 _ _ ?_)
    refine JC.seq (fun K8 hK8 => ?_)
    refine JC.region ?_
    refine J.move rfl rfl ?_
    refine J.bin rfl rfl rfl rfl ?_
    refine J.move rfl rfl ?_
    refine J.split 27 rfl (fun hs27 => ?_) (fun hs27 => ?_)
    · skip
      try simp only [decide_eq_true_eq, decide_eq_false_iff_not, beq_iff_eq, bne_iff_ne, bne_eq_false_iff_eq, ne_eq, beq_eq_false_iff_ne, Bool.not_eq_true, Bool.not_eq_false, Int.not_lt, Int.not_le] at hs27
      first
      | exact absurd hs27 (by decide)
      | skip
        first
          | (refine J.skip rfl rfl rfl rfl rfl ?_)
          | (refine J.skipU rfl rfl rfl rfl ?_)
          | (refine J.unguard rfl rfl rfl ?_; refine J.move rfl rfl ?_)
        first
          | (refine J.skip rfl rfl rfl rfl rfl ?_)
          | (refine J.skipU rfl rfl rfl rfl ?_)
          | (refine J.unguard rfl rfl rfl ?_; refine J.bin rfl rfl rfl rfl ?_)
        (first | refine J.pickT rfl rfl rfl ?_ | refine J.pickF rfl rfl rfl ?_)
        refine J.move rfl rfl ?_
        refine J.split 31 rfl (fun hs31 => ?_) (fun hs31 => ?_)
        · skip
          try simp only [decide_eq_true_eq, decide_eq_false_iff_not, beq_iff_eq, bne_iff_ne, bne_eq_false_iff_eq, ne_eq, beq_eq_false_iff_ne, Bool.not_eq_true, Bool.not_eq_false, Int.not_lt, Int.not_le] at hs31
          first
          | exact absurd hs31 (by decide)
          | skip
            first
              | (refine J.skip rfl rfl rfl rfl rfl ?_)
              | (refine J.skipU rfl rfl rfl rfl ?_)
              | (refine J.unguard rfl rfl rfl ?_; (first | refine J.loadO Ty.a26 rfl (.head _) rfl rfl ?_ | refine J.loadO Ty.a26 rfl (.tail _ (.head _)) rfl rfl ?_ | refine J.loadO Ty.a26 rfl (.tail _ (.tail _ (.head _))) rfl rfl ?_ | refine J.loadO Ty.a26 rfl (.tail _ (.tail _ (.tail _ (.head _)))) rfl rfl ?_ | refine J.loadO Ty.a26 rfl (.tail _ (.tail _ (.tail _ (.tail _ (.head _))))) rfl rfl ?_ | refine J.loadO Ty.a26 rfl (.tail _ (.tail _ (.tail _ (.tail _ (.tail _ (.head _)))))) rfl rfl ?_ | refine J.loadO Ty.a26 rfl (.tail _ (.tail _ (.tail _ (.tail _ (.tail _ (.tail _ (.head _))))))) rfl rfl ?_ | refine J.loadO Ty.a26 rfl (.tail _ (.tail _ (.tail _ (.tail _ (.tail _ (.tail _ (.tail _ (.head _)))))))) rfl rfl ?_ | refine J.loadO Ty.a26 rfl (.tail _ (.tail _ (.tail _ (.tail _ (.tail _ (.tail _ (.tail _ (.tail _ (.head _))))))))) rfl rfl ?_ | refine J.loadO Ty.a26 rfl (.tail _ (.tail _ (.tail _ (.tail _ (.tail _ (.tail _ (.tail _ (.tail _ (.tail _ (.head _)))))))))) rfl rfl ?_ | refine J.loadO Ty.a26 rfl (.tail _ (.tail _ (.tail _ (.tail _ (.tail _ (.tail _ (.tail _ (.tail _ (.tail _ (.tail _ (.head _))))))))))) rfl rfl ?_ | refine J.loadO Ty.a26 rfl (.tail _ (.tail _ (.tail _ (.tail _ (.tail _ (.tail _ (.tail _ (.tail _ (.tail _ (.tail _ (.tail _ (.head _)))))))))))) rfl rfl ?_ | refine J.loadO Ty.a26 rfl (List.mem_append_right _ (.head _)) rfl rfl ?_ | refine J.loadO Ty.a26 rfl (List.mem_append_right _ (.tail _ (.head _))) rfl rfl ?_ | refine J.loadO Ty.a26 rfl (List.mem_append_right _ (.tail _ (.tail _ (.head _)))) rfl rfl ?_ | refine J.loadO Ty.a26 rfl (List.mem_append_right _ (.tail _ (.tail _ (.tail _ (.head _))))) rfl rfl ?_ | refine J.loadO Ty.a26 rfl (List.mem_append_right _ (.tail _ (.tail _ (.tail _ (.tail _ (.head _)))))) rfl rfl ?_ | refine J.loadO Ty.a26 rfl (List.mem_append_right _ (.tail _ (.tail _ (.tail _ (.tail _ (.tail _ (.head _))))))) rfl rfl ?_ | refine J.loadO Ty.a26 rfl (List.mem_append_right _ (.tail _ (.tail _ (.tail _ (.tail _ (.tail _ (.tail _ (.head _)))))))) rfl rfl ?_ | refine J.loadO Ty.a26 rfl (List.mem_append_right _ (.tail _ (.tail _ (.tail _ (.tail _ (.tail _ (.tail _ (.tail _ (.head _))))))))) rfl rfl ?_ | refine J.loadO Ty.a26 rfl (List.mem_append_right _ (.tail _ (.tail _ (.tail _ (.tail _ (.tail _ (.tail _ (.tail _ (.tail _ (.head _)))))))))) rfl rfl ?_ | refine J.loadO Ty.a26 rfl (List.mem_append_right _ (.tail _ (.tail _ (.tail _ (.tail _ (.tail _ (.tail _ (.tail _ (.tail _ (.tail _ (.head _))))))))))) rfl rfl ?_ | refine J.loadO Ty.a26 rfl (List.mem_append_right _ (.tail _ (.tail _ (.tail _ (.tail _ (.tail _ (.tail _ (.tail _ (.tail _ (.tail _ (.tail _ (.head _)))))))))))) rfl rfl ?_ | refine J.loadO Ty.a26 rfl (List.mem_append_right _ (.tail _ (.tail _ (.tail _ (.tail _ (.tail _ (.tail _ (.tail _ (.tail _ (.tail _ (.tail _ (.tail _ (.head _))))))))))))) rfl rfl ?_))
            first
              | (refine J.skip rfl rfl rfl rfl rfl ?_)
              | (refine J.skipU rfl rfl rfl rfl ?_)
              | (refine J.unguard rfl rfl rfl ?_; refine J.move rfl rfl ?_)
            first
              | (refine J.skip rfl rfl rfl rfl rfl ?_)
              | (refine J.skipU rfl rfl rfl rfl ?_)
              | (refine J.unguard rfl rfl rfl ?_; refine J.callB (v := .int .i64 (placeP W xs[i])) (fun w1 w2 hw hb => hw.step hb) Ty.bd21 rfl rfl (fun w1 hw => rplace_spec (.slice a5 W.length c5) W xs[i] w1 (hv5.row (l := (b5, cb [(.slice a5 W.length c5)] 26) :: (b3, cb (cP p) 25) :: []) (hw.perm (by (refine perm_cnt (fun _ => ?_)); simp only [cntB_append, cntB_cons, cntB_nil, Nat.add_zero, Nat.zero_add]; try ac_rfl))) (by omega)) ?_)
            first
              | (refine J.skip rfl rfl rfl rfl rfl ?_)
              | (refine J.skipU rfl rfl rfl rfl ?_)
              | (refine J.unguard rfl rfl rfl ?_; refine J.bin rfl rfl rfl rfl ?_)
            (first | refine J.pickT rfl rfl rfl ?_ | refine J.pickF rfl rfl rfl ?_)
            refine J.nil ?_
            refine JX.thenN (hK8 _ _ ?_)
            refine JC.cond rfl (fun h1 => ?_) (fun h1 => ?_)
            · skip
              have hpl : placeP W xs[i] < 0 := by simp at h1; exact h1
              have hnm : xs[i] ∉ W := fun hm => by have := place_mem.2 hm; omega
              have hn6 : 0 ≤ xs[i] ∧ xs[i] < 6 := by simp at hs27 hs31; omega
              have hnd2 : (W ++ [xs[i]]).Nodup := List.nodup_append.2 ⟨hnd, by simp, fun a ha b hb => by simp at hb; subst hb; exact fun e => hnm (e ▸ ha)⟩
              have hran2 : ∀ n, n ∈ W ++ [xs[i]] → 0 ≤ n ∧ n < 6 := fun n hn => by
                rcases List.mem_append.1 hn with hn | hn
                · exact hran n hn
                · simp at hn; rw [hn]; exact hn6
              refine JC.region ?_
              (first | refine J.loadO Ty.a26 rfl (.head _) rfl rfl ?_ | refine J.loadO Ty.a26 rfl (.tail _ (.head _)) rfl rfl ?_ | refine J.loadO Ty.a26 rfl (.tail _ (.tail _ (.head _))) rfl rfl ?_ | refine J.loadO Ty.a26 rfl (.tail _ (.tail _ (.tail _ (.head _)))) rfl rfl ?_ | refine J.loadO Ty.a26 rfl (.tail _ (.tail _ (.tail _ (.tail _ (.head _))))) rfl rfl ?_ | refine J.loadO Ty.a26 rfl (.tail _ (.tail _ (.tail _ (.tail _ (.tail _ (.head _)))))) rfl rfl ?_ | refine J.loadO Ty.a26 rfl (.tail _ (.tail _ (.tail _ (.tail _ (.tail _ (.tail _ (.head _))))))) rfl rfl ?_ | refine J.loadO Ty.a26 rfl (.tail _ (.tail _ (.tail _ (.tail _ (.tail _ (.tail _ (.tail _ (.head _)))))))) rfl rfl ?_ | refine J.loadO Ty.a26 rfl (.tail _ (.tail _ (.tail _ (.tail _ (.tail _ (.tail _ (.tail _ (.tail _ (.head _))))))))) rfl rfl ?_ | refine J.loadO Ty.a26 rfl (.tail _ (.tail _ (.tail _ (.tail _ (.tail _ (.tail _ (.tail _ (.tail _ (.tail _ (.head _)))))))))) rfl rfl ?_ | refine J.loadO Ty.a26 rfl (.tail _ (.tail _ (.tail _ (.tail _ (.tail _ (.tail _ (.tail _ (.tail _ (.tail _ (.tail _ (.head _))))))))))) rfl rfl ?_ | refine J.loadO Ty.a26 rfl (.tail _ (.tail _ (.tail _ (.tail _ (.tail _ (.tail _ (.tail _ (.tail _ (.tail _ (.tail _ (.tail _ (.head _)))))))))))) rfl rfl ?_ | refine J.loadO Ty.a26 rfl (List.mem_append_right _ (.head _)) rfl rfl ?_ | refine J.loadO Ty.a26 rfl (List.mem_append_right _ (.tail _ (.head _))) rfl rfl ?_ | refine J.loadO Ty.a26 rfl (List.mem_append_right _ (.tail _ (.tail _ (.head _)))) rfl rfl ?_ | refine J.loadO Ty.a26 rfl (List.mem_append_right _ (.tail _ (.tail _ (.tail _ (.head _))))) rfl rfl ?_ | refine J.loadO Ty.a26 rfl (List.mem_append_right _ (.tail _ (.tail _ (.tail _ (.tail _ (.head _)))))) rfl rfl ?_ | refine J.loadO Ty.a26 rfl (List.mem_append_right _ (.tail _ (.tail _ (.tail _ (.tail _ (.tail _ (.head _))))))) rfl rfl ?_ | refine J.loadO Ty.a26 rfl (List.mem_append_right _ (.tail _ (.tail _ (.tail _ (.tail _ (.tail _ (.tail _ (.head _)))))))) rfl rfl ?_ | refine J.loadO Ty.a26 rfl (List.mem_append_right _ (.tail _ (.tail _ (.tail _ (.tail _ (.tail _ (.tail _ (.tail _ (.head _))))))))) rfl rfl ?_ | refine J.loadO Ty.a26 rfl (List.mem_append_right _ (.tail _ (.tail _ (.tail _ (.tail _ (.tail _ (.tail _ (.tail _ (.tail _ (.head _)))))))))) rfl rfl ?_ | refine J.loadO Ty.a26 rfl (List.mem_append_right _ (.tail _ (.tail _ (.tail _ (.tail _ (.tail _ (.tail _ (.tail _ (.tail _ (.tail _ (.head _))))))))))) rfl rfl ?_ | refine J.loadO Ty.a26 rfl (List.mem_append_right _ (.tail _ (.tail _ (.tail _ (.tail _ (.tail _ (.tail _ (.tail _ (.tail _ (.tail _ (.tail _ (.head _)))))))))))) rfl rfl ?_ | refine J.loadO Ty.a26 rfl (List.mem_append_right _ (.tail _ (.tail _ (.tail _ (.tail _ (.tail _ (.tail _ (.tail _ (.tail _ (.tail _ (.tail _ (.tail _ (.head _))))))))))))) rfl rfl ?_)
              refine J.move rfl rfl ?_
              refine J.buildSl (cs := [iV xs[i]]) Ty.el26 Ty.s3 Ty.z3 rfl rfl rfl rfl (by kernel_rfl) rfl rfl (fun b39 => ?_)
              refine J.perm (lp5 ++ ((b39, cb [iV xs[i]] 3) :: (b5, cb [(.slice a5 W.length c5)] 26) :: (b3, cb (cP p) 25) :: [])) (by (refine perm_cnt (fun _ => ?_)); simp only [cntB_append, cntB_cons, cntB_nil, Nat.add_zero, Nat.zero_add]; try ac_rfl) ?_
              refine J.append (lp := lp5) (xs := W.map iV) (ys := [iV xs[i]]) (k := W.length) (m := 1) Ty.el26 Ty.s3 Ty.b3 Ty.z3 rfl (.inl ⟨3, Ty.u26⟩) rfl rfl hv5 (fun w1 hw => .inl (Row.own hw (List.mem_append_right _ (.head _)) rfl (Nat.le_refl _))) (by simp) (by simp [Value.oneCell']) (by omega) (by omega) rfl (fun v40 lp40 hv40 => ?_)
              have hv40 : Vec 3 1 v40 (W ++ [xs[i]]).length ((W ++ [xs[i]]).map iV) lp40 := by
                have h := hv40
                rw [List.length_append, List.map_append]
                exact h
              obtain ⟨a40, c40, rfl, hc40⟩ := hv40.form
              refine J.perm ((b39, cb [iV xs[i]] 3) :: (b5, cb [(.slice a5 W.length c5)] 26) :: (b3, cb (cP p) 25) :: lp40) (by (refine perm_cnt (fun _ => ?_)); simp only [cntB_append, cntB_cons, cntB_nil, Nat.add_zero, Nat.zero_add]; try ac_rfl) ?_
              refine J.storeO (cs := [(.slice a5 W.length c5)]) (vs := [.slice a40 (W ++ [xs[i]]).length c40]) Ty.s26 rfl rfl rfl rfl (by simp [Value.oneCell']) (.there .here) (by simp) ?_
              refine J.nil ?_
              refine JX.blockN ?_
              refine JX.thenN (hK6 _ _ ?_)
              refine JC.region ?_
              (first | refine J.addN rfl rfl (by omega) (by omega) rfl ?_ | refine J.bin rfl rfl rfl rfl ?_)
              refine J.move rfl rfl ?_
              refine J.nil ?_
              refine JX.thenN ?_
              refine JX.again (⟨i + 1, W ++ [xs[i]], a40, c40, lp40⟩ : LS) ?_ ?_ ?_
              · simp only; omega
              · exact ⟨rfl, rfl, rfl, rfl, rfl, rfl, trivial⟩
              · exact fun w1 hw => ⟨⟨hlt, by simp only [List.length_append, List.length_singleton]; omega, hnd2, hran2, hv40⟩, (hw.perm (l' := [(b39, cb [iV xs[i]] 3)] ++ ((b5, cb [.slice a40 (W ++ [xs[i]]).length c40] 26) :: (b3, cb (cP p) 25) :: lp40)) (by (refine perm_cnt (fun _ => ?_)); simp only [cntB_append, cntB_cons, cntB_nil, Nat.add_zero, Nat.zero_add]; try ac_rfl)).drop (List.sublist_append_right _ _)⟩
            · skip
              try simp only [decide_eq_true_eq, decide_eq_false_iff_not, beq_iff_eq, bne_iff_ne, bne_eq_false_iff_eq, ne_eq, beq_eq_false_iff_ne, Bool.not_eq_true, Bool.not_eq_false, Int.not_lt, Int.not_le] at h1
              refine JC.skip ?_
              refine JX.blockN ?_
              refine JX.thenN (hK6 _ _ ?_)
              refine JC.region ?_
              (first | refine J.addN rfl rfl (by omega) (by omega) rfl ?_ | refine J.bin rfl rfl rfl rfl ?_)
              refine J.move rfl rfl ?_
              refine J.nil ?_
              refine JX.thenN ?_
              refine JX.again (⟨i + 1, W, a5, c5, lp5⟩ : LS) ?_ ?_ ?_
              · simp only; omega
              · exact ⟨rfl, rfl, rfl, rfl, rfl, rfl, trivial⟩
              · exact fun w1 hw => ⟨⟨hlt, by simp only; omega, hnd, hran, hv5⟩, hw⟩
        · skip
          try simp only [decide_eq_true_eq, decide_eq_false_iff_not, beq_iff_eq, bne_iff_ne, bne_eq_false_iff_eq, ne_eq, beq_eq_false_iff_ne, Bool.not_eq_true, Bool.not_eq_false, Int.not_lt, Int.not_le] at hs31
          first
          | exact absurd hs31 (by decide)
          | skip
            first
              | (refine J.skip rfl rfl rfl rfl rfl ?_)
              | (refine J.skipU rfl rfl rfl rfl ?_)
              | (refine J.unguard rfl rfl rfl ?_; (first | refine J.loadO Ty.a26 rfl (.head _) rfl rfl ?_ | refine J.loadO Ty.a26 rfl (.tail _ (.head _)) rfl rfl ?_ | refine J.loadO Ty.a26 rfl (.tail _ (.tail _ (.head _))) rfl rfl ?_ | refine J.loadO Ty.a26 rfl (.tail _ (.tail _ (.tail _ (.head _)))) rfl rfl ?_ | refine J.loadO Ty.a26 rfl (.tail _ (.tail _ (.tail _ (.tail _ (.head _))))) rfl rfl ?_ | refine J.loadO Ty.a26 rfl (.tail _ (.tail _ (.tail _ (.tail _ (.tail _ (.head _)))))) rfl rfl ?_ | refine J.loadO Ty.a26 rfl (.tail _ (.tail _ (.tail _ (.tail _ (.tail _ (.tail _ (.head _))))))) rfl rfl ?_ | refine J.loadO Ty.a26 rfl (.tail _ (.tail _ (.tail _ (.tail _ (.tail _ (.tail _ (.tail _ (.head _)))))))) rfl rfl ?_ | refine J.loadO Ty.a26 rfl (.tail _ (.tail _ (.tail _ (.tail _ (.tail _ (.tail _ (.tail _ (.tail _ (.head _))))))))) rfl rfl ?_ | refine J.loadO Ty.a26 rfl (.tail _ (.tail _ (.tail _ (.tail _ (.tail _ (.tail _ (.tail _ (.tail _ (.tail _ (.head _)))))))))) rfl rfl ?_ | refine J.loadO Ty.a26 rfl (.tail _ (.tail _ (.tail _ (.tail _ (.tail _ (.tail _ (.tail _ (.tail _ (.tail _ (.tail _ (.head _))))))))))) rfl rfl ?_ | refine J.loadO Ty.a26 rfl (.tail _ (.tail _ (.tail _ (.tail _ (.tail _ (.tail _ (.tail _ (.tail _ (.tail _ (.tail _ (.tail _ (.head _)))))))))))) rfl rfl ?_ | refine J.loadO Ty.a26 rfl (List.mem_append_right _ (.head _)) rfl rfl ?_ | refine J.loadO Ty.a26 rfl (List.mem_append_right _ (.tail _ (.head _))) rfl rfl ?_ | refine J.loadO Ty.a26 rfl (List.mem_append_right _ (.tail _ (.tail _ (.head _)))) rfl rfl ?_ | refine J.loadO Ty.a26 rfl (List.mem_append_right _ (.tail _ (.tail _ (.tail _ (.head _))))) rfl rfl ?_ | refine J.loadO Ty.a26 rfl (List.mem_append_right _ (.tail _ (.tail _ (.tail _ (.tail _ (.head _)))))) rfl rfl ?_ | refine J.loadO Ty.a26 rfl (List.mem_append_right _ (.tail _ (.tail _ (.tail _ (.tail _ (.tail _ (.head _))))))) rfl rfl ?_ | refine J.loadO Ty.a26 rfl (List.mem_append_right _ (.tail _ (.tail _ (.tail _ (.tail _ (.tail _ (.tail _ (.head _)))))))) rfl rfl ?_ | refine J.loadO Ty.a26 rfl (List.mem_append_right _ (.tail _ (.tail _ (.tail _ (.tail _ (.tail _ (.tail _ (.tail _ (.head _))))))))) rfl rfl ?_ | refine J.loadO Ty.a26 rfl (List.mem_append_right _ (.tail _ (.tail _ (.tail _ (.tail _ (.tail _ (.tail _ (.tail _ (.tail _ (.head _)))))))))) rfl rfl ?_ | refine J.loadO Ty.a26 rfl (List.mem_append_right _ (.tail _ (.tail _ (.tail _ (.tail _ (.tail _ (.tail _ (.tail _ (.tail _ (.tail _ (.head _))))))))))) rfl rfl ?_ | refine J.loadO Ty.a26 rfl (List.mem_append_right _ (.tail _ (.tail _ (.tail _ (.tail _ (.tail _ (.tail _ (.tail _ (.tail _ (.tail _ (.tail _ (.head _)))))))))))) rfl rfl ?_ | refine J.loadO Ty.a26 rfl (List.mem_append_right _ (.tail _ (.tail _ (.tail _ (.tail _ (.tail _ (.tail _ (.tail _ (.tail _ (.tail _ (.tail _ (.tail _ (.head _))))))))))))) rfl rfl ?_))
            first
              | (refine J.skip rfl rfl rfl rfl rfl ?_)
              | (refine J.skipU rfl rfl rfl rfl ?_)
              | (refine J.unguard rfl rfl rfl ?_; refine J.move rfl rfl ?_)
            first
              | (refine J.skip rfl rfl rfl rfl rfl ?_)
              | (refine J.skipU rfl rfl rfl rfl ?_)
              | (refine J.unguard rfl rfl rfl ?_; refine J.callB (v := .int .i64 (placeP W xs[i])) (fun w1 w2 hw hb => hw.step hb) Ty.bd21 rfl rfl (fun w1 hw => rplace_spec (.slice a5 W.length c5) W xs[i] w1 (hv5.row (l := (b5, cb [(.slice a5 W.length c5)] 26) :: (b3, cb (cP p) 25) :: []) (hw.perm (by (refine perm_cnt (fun _ => ?_)); simp only [cntB_append, cntB_cons, cntB_nil, Nat.add_zero, Nat.zero_add]; try ac_rfl))) (by omega)) ?_)
            first
              | (refine J.skip rfl rfl rfl rfl rfl ?_)
              | (refine J.skipU rfl rfl rfl rfl ?_)
              | (refine J.unguard rfl rfl rfl ?_; refine J.bin rfl rfl rfl rfl ?_)
            (first | refine J.pickT rfl rfl rfl ?_ | refine J.pickF rfl rfl rfl ?_)
            refine J.nil ?_
            refine JX.thenN (hK8 _ _ ?_)
            first | refine JC.condF rfl ?_ | refine JC.cond rfl (fun h => by first | (exfalso; simp at h; omega) | (simp at h)) (fun _ => ?_)
            refine JC.skip ?_
            refine JX.blockN ?_
            refine JX.thenN (hK6 _ _ ?_)
            refine JC.region ?_
            (first | refine J.addN rfl rfl (by omega) (by omega) rfl ?_ | refine J.bin rfl rfl rfl rfl ?_)
            refine J.move rfl rfl ?_
            refine J.nil ?_
            refine JX.thenN ?_
            refine JX.again (⟨i + 1, W, a5, c5, lp5⟩ : LS) ?_ ?_ ?_
            · simp only; omega
            · exact ⟨rfl, rfl, rfl, rfl, rfl, rfl, trivial⟩
            · exact fun w1 hw => ⟨⟨hlt, by simp only; omega, hnd, hran, hv5⟩, hw⟩
    · skip
      try simp only [decide_eq_true_eq, decide_eq_false_iff_not, beq_iff_eq, bne_iff_ne, bne_eq_false_iff_eq, ne_eq, beq_eq_false_iff_ne, Bool.not_eq_true, Bool.not_eq_false, Int.not_lt, Int.not_le] at hs27
      first
      | exact absurd hs27 (by decide)
      | skip
        first
          | (refine J.skip rfl rfl rfl rfl rfl ?_)
          | (refine J.skipU rfl rfl rfl rfl ?_)
          | (refine J.unguard rfl rfl rfl ?_; refine J.move rfl rfl ?_)
        first
          | (refine J.skip rfl rfl rfl rfl rfl ?_)
          | (refine J.skipU rfl rfl rfl rfl ?_)
          | (refine J.unguard rfl rfl rfl ?_; refine J.bin rfl rfl rfl rfl ?_)
        (first | refine J.pickT rfl rfl rfl ?_ | refine J.pickF rfl rfl rfl ?_)
        refine J.move rfl rfl ?_
        refine J.split 31 rfl (fun hs31 => ?_) (fun hs31 => ?_)
        · skip
          try simp only [decide_eq_true_eq, decide_eq_false_iff_not, beq_iff_eq, bne_iff_ne, bne_eq_false_iff_eq, ne_eq, beq_eq_false_iff_ne, Bool.not_eq_true, Bool.not_eq_false, Int.not_lt, Int.not_le] at hs31
          first
          | exact absurd hs31 (by decide)
          | skip
            first
              | (refine J.skip rfl rfl rfl rfl rfl ?_)
              | (refine J.skipU rfl rfl rfl rfl ?_)
              | (refine J.unguard rfl rfl rfl ?_; (first | refine J.loadO Ty.a26 rfl (.head _) rfl rfl ?_ | refine J.loadO Ty.a26 rfl (.tail _ (.head _)) rfl rfl ?_ | refine J.loadO Ty.a26 rfl (.tail _ (.tail _ (.head _))) rfl rfl ?_ | refine J.loadO Ty.a26 rfl (.tail _ (.tail _ (.tail _ (.head _)))) rfl rfl ?_ | refine J.loadO Ty.a26 rfl (.tail _ (.tail _ (.tail _ (.tail _ (.head _))))) rfl rfl ?_ | refine J.loadO Ty.a26 rfl (.tail _ (.tail _ (.tail _ (.tail _ (.tail _ (.head _)))))) rfl rfl ?_ | refine J.loadO Ty.a26 rfl (.tail _ (.tail _ (.tail _ (.tail _ (.tail _ (.tail _ (.head _))))))) rfl rfl ?_ | refine J.loadO Ty.a26 rfl (.tail _ (.tail _ (.tail _ (.tail _ (.tail _ (.tail _ (.tail _ (.head _)))))))) rfl rfl ?_ | refine J.loadO Ty.a26 rfl (.tail _ (.tail _ (.tail _ (.tail _ (.tail _ (.tail _ (.tail _ (.tail _ (.head _))))))))) rfl rfl ?_ | refine J.loadO Ty.a26 rfl (.tail _ (.tail _ (.tail _ (.tail _ (.tail _ (.tail _ (.tail _ (.tail _ (.tail _ (.head _)))))))))) rfl rfl ?_ | refine J.loadO Ty.a26 rfl (.tail _ (.tail _ (.tail _ (.tail _ (.tail _ (.tail _ (.tail _ (.tail _ (.tail _ (.tail _ (.head _))))))))))) rfl rfl ?_ | refine J.loadO Ty.a26 rfl (.tail _ (.tail _ (.tail _ (.tail _ (.tail _ (.tail _ (.tail _ (.tail _ (.tail _ (.tail _ (.tail _ (.head _)))))))))))) rfl rfl ?_ | refine J.loadO Ty.a26 rfl (List.mem_append_right _ (.head _)) rfl rfl ?_ | refine J.loadO Ty.a26 rfl (List.mem_append_right _ (.tail _ (.head _))) rfl rfl ?_ | refine J.loadO Ty.a26 rfl (List.mem_append_right _ (.tail _ (.tail _ (.head _)))) rfl rfl ?_ | refine J.loadO Ty.a26 rfl (List.mem_append_right _ (.tail _ (.tail _ (.tail _ (.head _))))) rfl rfl ?_ | refine J.loadO Ty.a26 rfl (List.mem_append_right _ (.tail _ (.tail _ (.tail _ (.tail _ (.head _)))))) rfl rfl ?_ | refine J.loadO Ty.a26 rfl (List.mem_append_right _ (.tail _ (.tail _ (.tail _ (.tail _ (.tail _ (.head _))))))) rfl rfl ?_ | refine J.loadO Ty.a26 rfl (List.mem_append_right _ (.tail _ (.tail _ (.tail _ (.tail _ (.tail _ (.tail _ (.head _)))))))) rfl rfl ?_ | refine J.loadO Ty.a26 rfl (List.mem_append_right _ (.tail _ (.tail _ (.tail _ (.tail _ (.tail _ (.tail _ (.tail _ (.head _))))))))) rfl rfl ?_ | refine J.loadO Ty.a26 rfl (List.mem_append_right _ (.tail _ (.tail _ (.tail _ (.tail _ (.tail _ (.tail _ (.tail _ (.tail _ (.head _)))))))))) rfl rfl ?_ | refine J.loadO Ty.a26 rfl (List.mem_append_right _ (.tail _ (.tail _ (.tail _ (.tail _ (.tail _ (.tail _ (.tail _ (.tail _ (.tail _ (.head _))))))))))) rfl rfl ?_ | refine J.loadO Ty.a26 rfl (List.mem_append_right _ (.tail _ (.tail _ (.tail _ (.tail _ (.tail _ (.tail _ (.tail _ (.tail _ (.tail _ (.tail _ (.head _)))))))))))) rfl rfl ?_ | refine J.loadO Ty.a26 rfl (List.mem_append_right _ (.tail _ (.tail _ (.tail _ (.tail _ (.tail _ (.tail _ (.tail _ (.tail _ (.tail _ (.tail _ (.tail _ (.head _))))))))))))) rfl rfl ?_))
            first
              | (refine J.skip rfl rfl rfl rfl rfl ?_)
              | (refine J.skipU rfl rfl rfl rfl ?_)
              | (refine J.unguard rfl rfl rfl ?_; refine J.move rfl rfl ?_)
            first
              | (refine J.skip rfl rfl rfl rfl rfl ?_)
              | (refine J.skipU rfl rfl rfl rfl ?_)
              | (refine J.unguard rfl rfl rfl ?_; refine J.callB (v := .int .i64 (placeP W xs[i])) (fun w1 w2 hw hb => hw.step hb) Ty.bd21 rfl rfl (fun w1 hw => rplace_spec (.slice a5 W.length c5) W xs[i] w1 (hv5.row (l := (b5, cb [(.slice a5 W.length c5)] 26) :: (b3, cb (cP p) 25) :: []) (hw.perm (by (refine perm_cnt (fun _ => ?_)); simp only [cntB_append, cntB_cons, cntB_nil, Nat.add_zero, Nat.zero_add]; try ac_rfl))) (by omega)) ?_)
            first
              | (refine J.skip rfl rfl rfl rfl rfl ?_)
              | (refine J.skipU rfl rfl rfl rfl ?_)
              | (refine J.unguard rfl rfl rfl ?_; refine J.bin rfl rfl rfl rfl ?_)
            (first | refine J.pickT rfl rfl rfl ?_ | refine J.pickF rfl rfl rfl ?_)
            refine J.nil ?_
            refine JX.thenN (hK8 _ _ ?_)
            first | refine JC.condF rfl ?_ | refine JC.cond rfl (fun h => by first | (exfalso; simp at h; omega) | (simp at h)) (fun _ => ?_)
            refine JC.skip ?_
            refine JX.blockN ?_
            refine JX.thenN (hK6 _ _ ?_)
            refine JC.region ?_
            (first | refine J.addN rfl rfl (by omega) (by omega) rfl ?_ | refine J.bin rfl rfl rfl rfl ?_)
            refine J.move rfl rfl ?_
            refine J.nil ?_
            refine JX.thenN ?_
            refine JX.again (⟨i + 1, W, a5, c5, lp5⟩ : LS) ?_ ?_ ?_
            · simp only; omega
            · exact ⟨rfl, rfl, rfl, rfl, rfl, rfl, trivial⟩
            · exact fun w1 hw => ⟨⟨hlt, by simp only; omega, hnd, hran, hv5⟩, hw⟩
        · skip
          try simp only [decide_eq_true_eq, decide_eq_false_iff_not, beq_iff_eq, bne_iff_ne, bne_eq_false_iff_eq, ne_eq, beq_eq_false_iff_ne, Bool.not_eq_true, Bool.not_eq_false, Int.not_lt, Int.not_le] at hs31
          first
          | exact absurd hs31 (by decide)
          | skip
            first
              | (refine J.skip rfl rfl rfl rfl rfl ?_)
              | (refine J.skipU rfl rfl rfl rfl ?_)
              | (refine J.unguard rfl rfl rfl ?_; (first | refine J.loadO Ty.a26 rfl (.head _) rfl rfl ?_ | refine J.loadO Ty.a26 rfl (.tail _ (.head _)) rfl rfl ?_ | refine J.loadO Ty.a26 rfl (.tail _ (.tail _ (.head _))) rfl rfl ?_ | refine J.loadO Ty.a26 rfl (.tail _ (.tail _ (.tail _ (.head _)))) rfl rfl ?_ | refine J.loadO Ty.a26 rfl (.tail _ (.tail _ (.tail _ (.tail _ (.head _))))) rfl rfl ?_ | refine J.loadO Ty.a26 rfl (.tail _ (.tail _ (.tail _ (.tail _ (.tail _ (.head _)))))) rfl rfl ?_ | refine J.loadO Ty.a26 rfl (.tail _ (.tail _ (.tail _ (.tail _ (.tail _ (.tail _ (.head _))))))) rfl rfl ?_ | refine J.loadO Ty.a26 rfl (.tail _ (.tail _ (.tail _ (.tail _ (.tail _ (.tail _ (.tail _ (.head _)))))))) rfl rfl ?_ | refine J.loadO Ty.a26 rfl (.tail _ (.tail _ (.tail _ (.tail _ (.tail _ (.tail _ (.tail _ (.tail _ (.head _))))))))) rfl rfl ?_ | refine J.loadO Ty.a26 rfl (.tail _ (.tail _ (.tail _ (.tail _ (.tail _ (.tail _ (.tail _ (.tail _ (.tail _ (.head _)))))))))) rfl rfl ?_ | refine J.loadO Ty.a26 rfl (.tail _ (.tail _ (.tail _ (.tail _ (.tail _ (.tail _ (.tail _ (.tail _ (.tail _ (.tail _ (.head _))))))))))) rfl rfl ?_ | refine J.loadO Ty.a26 rfl (.tail _ (.tail _ (.tail _ (.tail _ (.tail _ (.tail _ (.tail _ (.tail _ (.tail _ (.tail _ (.tail _ (.head _)))))))))))) rfl rfl ?_ | refine J.loadO Ty.a26 rfl (List.mem_append_right _ (.head _)) rfl rfl ?_ | refine J.loadO Ty.a26 rfl (List.mem_append_right _ (.tail _ (.head _))) rfl rfl ?_ | refine J.loadO Ty.a26 rfl (List.mem_append_right _ (.tail _ (.tail _ (.head _)))) rfl rfl ?_ | refine J.loadO Ty.a26 rfl (List.mem_append_right _ (.tail _ (.tail _ (.tail _ (.head _))))) rfl rfl ?_ | refine J.loadO Ty.a26 rfl (List.mem_append_right _ (.tail _ (.tail _ (.tail _ (.tail _ (.head _)))))) rfl rfl ?_ | refine J.loadO Ty.a26 rfl (List.mem_append_right _ (.tail _ (.tail _ (.tail _ (.tail _ (.tail _ (.head _))))))) rfl rfl ?_ | refine J.loadO Ty.a26 rfl (List.mem_append_right _ (.tail _ (.tail _ (.tail _ (.tail _ (.tail _ (.tail _ (.head _)))))))) rfl rfl ?_ | refine J.loadO Ty.a26 rfl (List.mem_append_right _ (.tail _ (.tail _ (.tail _ (.tail _ (.tail _ (.tail _ (.tail _ (.head _))))))))) rfl rfl ?_ | refine J.loadO Ty.a26 rfl (List.mem_append_right _ (.tail _ (.tail _ (.tail _ (.tail _ (.tail _ (.tail _ (.tail _ (.tail _ (.head _)))))))))) rfl rfl ?_ | refine J.loadO Ty.a26 rfl (List.mem_append_right _ (.tail _ (.tail _ (.tail _ (.tail _ (.tail _ (.tail _ (.tail _ (.tail _ (.tail _ (.head _))))))))))) rfl rfl ?_ | refine J.loadO Ty.a26 rfl (List.mem_append_right _ (.tail _ (.tail _ (.tail _ (.tail _ (.tail _ (.tail _ (.tail _ (.tail _ (.tail _ (.tail _ (.head _)))))))))))) rfl rfl ?_ | refine J.loadO Ty.a26 rfl (List.mem_append_right _ (.tail _ (.tail _ (.tail _ (.tail _ (.tail _ (.tail _ (.tail _ (.tail _ (.tail _ (.tail _ (.tail _ (.head _))))))))))))) rfl rfl ?_))
            first
              | (refine J.skip rfl rfl rfl rfl rfl ?_)
              | (refine J.skipU rfl rfl rfl rfl ?_)
              | (refine J.unguard rfl rfl rfl ?_; refine J.move rfl rfl ?_)
            first
              | (refine J.skip rfl rfl rfl rfl rfl ?_)
              | (refine J.skipU rfl rfl rfl rfl ?_)
              | (refine J.unguard rfl rfl rfl ?_; refine J.callB (v := .int .i64 (placeP W xs[i])) (fun w1 w2 hw hb => hw.step hb) Ty.bd21 rfl rfl (fun w1 hw => rplace_spec (.slice a5 W.length c5) W xs[i] w1 (hv5.row (l := (b5, cb [(.slice a5 W.length c5)] 26) :: (b3, cb (cP p) 25) :: []) (hw.perm (by (refine perm_cnt (fun _ => ?_)); simp only [cntB_append, cntB_cons, cntB_nil, Nat.add_zero, Nat.zero_add]; try ac_rfl))) (by omega)) ?_)
            first
              | (refine J.skip rfl rfl rfl rfl rfl ?_)
              | (refine J.skipU rfl rfl rfl rfl ?_)
              | (refine J.unguard rfl rfl rfl ?_; refine J.bin rfl rfl rfl rfl ?_)
            (first | refine J.pickT rfl rfl rfl ?_ | refine J.pickF rfl rfl rfl ?_)
            refine J.nil ?_
            refine JX.thenN (hK8 _ _ ?_)
            first | refine JC.condF rfl ?_ | refine JC.cond rfl (fun h => by first | (exfalso; simp at h; omega) | (simp at h)) (fun _ => ?_)
            refine JC.skip ?_
            refine JX.blockN ?_
            refine JX.thenN (hK6 _ _ ?_)
            refine JC.region ?_
            (first | refine J.addN rfl rfl (by omega) (by omega) rfl ?_ | refine J.bin rfl rfl rfl rfl ?_)
            refine J.move rfl rfl ?_
            refine J.nil ?_
            refine JX.thenN ?_
            refine JX.again (⟨i + 1, W, a5, c5, lp5⟩ : LS) ?_ ?_ ?_
            · simp only; omega
            · exact ⟨rfl, rfl, rfl, rfl, rfl, rfl, trivial⟩
            · exact fun w1 hw => ⟨⟨hlt, by simp only; omega, hnd, hran, hv5⟩, hw⟩
  · skip
    have hge : i = xs.length := by simp at h0; omega
    refine JC.exit ?_
    refine JX.thenE ?_
    refine JX.thenE ?_
    refine JX.blockE ?_
    refine JX.thenN (hK2 _ _ ?_)
    refine JC.seq (fun K9 hK9 => ?_)
    refine JC.seq (fun K10 hK10 => ?_)
    refine JC.region ?_
    (first | refine J.loadO Ty.a26 rfl (.head _) rfl rfl ?_ | refine J.loadO Ty.a26 rfl (.tail _ (.head _)) rfl rfl ?_ | refine J.loadO Ty.a26 rfl (.tail _ (.tail _ (.head _))) rfl rfl ?_ | refine J.loadO Ty.a26 rfl (.tail _ (.tail _ (.tail _ (.head _)))) rfl rfl ?_ | refine J.loadO Ty.a26 rfl (.tail _ (.tail _ (.tail _ (.tail _ (.head _))))) rfl rfl ?_ | refine J.loadO Ty.a26 rfl (.tail _ (.tail _ (.tail _ (.tail _ (.tail _ (.head _)))))) rfl rfl ?_ | refine J.loadO Ty.a26 rfl (.tail _ (.tail _ (.tail _ (.tail _ (.tail _ (.tail _ (.head _))))))) rfl rfl ?_ | refine J.loadO Ty.a26 rfl (.tail _ (.tail _ (.tail _ (.tail _ (.tail _ (.tail _ (.tail _ (.head _)))))))) rfl rfl ?_ | refine J.loadO Ty.a26 rfl (.tail _ (.tail _ (.tail _ (.tail _ (.tail _ (.tail _ (.tail _ (.tail _ (.head _))))))))) rfl rfl ?_ | refine J.loadO Ty.a26 rfl (.tail _ (.tail _ (.tail _ (.tail _ (.tail _ (.tail _ (.tail _ (.tail _ (.tail _ (.head _)))))))))) rfl rfl ?_ | refine J.loadO Ty.a26 rfl (.tail _ (.tail _ (.tail _ (.tail _ (.tail _ (.tail _ (.tail _ (.tail _ (.tail _ (.tail _ (.head _))))))))))) rfl rfl ?_ | refine J.loadO Ty.a26 rfl (.tail _ (.tail _ (.tail _ (.tail _ (.tail _ (.tail _ (.tail _ (.tail _ (.tail _ (.tail _ (.tail _ (.head _)))))))))))) rfl rfl ?_ | refine J.loadO Ty.a26 rfl (List.mem_append_right _ (.head _)) rfl rfl ?_ | refine J.loadO Ty.a26 rfl (List.mem_append_right _ (.tail _ (.head _))) rfl rfl ?_ | refine J.loadO Ty.a26 rfl (List.mem_append_right _ (.tail _ (.tail _ (.head _)))) rfl rfl ?_ | refine J.loadO Ty.a26 rfl (List.mem_append_right _ (.tail _ (.tail _ (.tail _ (.head _))))) rfl rfl ?_ | refine J.loadO Ty.a26 rfl (List.mem_append_right _ (.tail _ (.tail _ (.tail _ (.tail _ (.head _)))))) rfl rfl ?_ | refine J.loadO Ty.a26 rfl (List.mem_append_right _ (.tail _ (.tail _ (.tail _ (.tail _ (.tail _ (.head _))))))) rfl rfl ?_ | refine J.loadO Ty.a26 rfl (List.mem_append_right _ (.tail _ (.tail _ (.tail _ (.tail _ (.tail _ (.tail _ (.head _)))))))) rfl rfl ?_ | refine J.loadO Ty.a26 rfl (List.mem_append_right _ (.tail _ (.tail _ (.tail _ (.tail _ (.tail _ (.tail _ (.tail _ (.head _))))))))) rfl rfl ?_ | refine J.loadO Ty.a26 rfl (List.mem_append_right _ (.tail _ (.tail _ (.tail _ (.tail _ (.tail _ (.tail _ (.tail _ (.tail _ (.head _)))))))))) rfl rfl ?_ | refine J.loadO Ty.a26 rfl (List.mem_append_right _ (.tail _ (.tail _ (.tail _ (.tail _ (.tail _ (.tail _ (.tail _ (.tail _ (.tail _ (.head _))))))))))) rfl rfl ?_ | refine J.loadO Ty.a26 rfl (List.mem_append_right _ (.tail _ (.tail _ (.tail _ (.tail _ (.tail _ (.tail _ (.tail _ (.tail _ (.tail _ (.tail _ (.head _)))))))))))) rfl rfl ?_ | refine J.loadO Ty.a26 rfl (List.mem_append_right _ (.tail _ (.tail _ (.tail _ (.tail _ (.tail _ (.tail _ (.tail _ (.tail _ (.tail _ (.tail _ (.tail _ (.head _))))))))))))) rfl rfl ?_)
    refine J.lenS rfl Ty.u26 rfl rfl ?_
    refine J.bin rfl rfl rfl rfl ?_
    refine J.move rfl rfl ?_
    refine J.split 45 rfl (fun hs45 => ?_) (fun hs45 => ?_)
    · skip
      try simp only [decide_eq_true_eq, decide_eq_false_iff_not, beq_iff_eq, bne_iff_ne, bne_eq_false_iff_eq, ne_eq, beq_eq_false_iff_ne, Bool.not_eq_true, Bool.not_eq_false, Int.not_lt, Int.not_le] at hs45
      first
      | exact absurd hs45 (by decide)
      | skip
        first
          | (refine J.skip rfl rfl rfl rfl rfl ?_)
          | (refine J.skipU rfl rfl rfl rfl ?_)
          | (refine J.unguard rfl rfl rfl ?_; refine J.callB (v := .bool true) (fun w1 w2 hw hb => hw.step hb) Ty.bd15 rfl rfl (fun w1 hw => fixed14_spec w1) ?_)
        first
          | (refine J.skip rfl rfl rfl rfl rfl ?_)
          | (refine J.skipU rfl rfl rfl rfl ?_)
          | (refine J.unguard rfl rfl rfl ?_; refine J.not rfl rfl ?_)
        (first | refine J.pickT rfl rfl rfl ?_ | refine J.pickF rfl rfl rfl ?_)
        refine J.nil ?_
        refine JX.thenN (hK10 _ _ ?_)
        first | refine JC.condT rfl ?_ | refine JC.cond rfl (fun _ => ?_) (fun h => by first | (exfalso; simp at h; omega) | (simp at h))
        refine JC.seq (fun K11 hK11 => ?_)
        refine JC.region ?_
        refine J.callB (v := .bool true) (fun w1 w2 hw hb => hw.step hb) Ty.bd15 rfl rfl (fun w1 hw => fixed14_spec w1) ?_
        refine J.assign rfl rfl ?_
        refine J.nil ?_
        refine JX.thenN (hK11 _ _ ?_)
        refine JC.ret ?_
        refine JX.thenR ?_
        refine JX.ret1 rfl rfl (fun w hw => ?_)
        exact ⟨rfl, hw.below⟩
    · skip
      try simp only [decide_eq_true_eq, decide_eq_false_iff_not, beq_iff_eq, bne_iff_ne, bne_eq_false_iff_eq, ne_eq, beq_eq_false_iff_ne, Bool.not_eq_true, Bool.not_eq_false, Int.not_lt, Int.not_le] at hs45
      first
      | exact absurd hs45 (by decide)
      | skip
        first
          | (refine J.skip rfl rfl rfl rfl rfl ?_)
          | (refine J.skipU rfl rfl rfl rfl ?_)
          | (refine J.unguard rfl rfl rfl ?_; refine J.callB (v := .bool true) (fun w1 w2 hw hb => hw.step hb) Ty.bd15 rfl rfl (fun w1 hw => fixed14_spec w1) ?_)
        first
          | (refine J.skip rfl rfl rfl rfl rfl ?_)
          | (refine J.skipU rfl rfl rfl rfl ?_)
          | (refine J.unguard rfl rfl rfl ?_; refine J.not rfl rfl ?_)
        (first | refine J.pickT rfl rfl rfl ?_ | refine J.pickF rfl rfl rfl ?_)
        refine J.nil ?_
        refine JX.thenN (hK10 _ _ ?_)
        first | refine JC.condF rfl ?_ | refine JC.cond rfl (fun h => by first | (exfalso; simp at h; omega) | (simp at h)) (fun _ => ?_)
        refine JC.skip ?_
        refine JX.thenN (hK9 _ _ ?_)
        refine JC.seq (fun K12 hK12 => ?_)
        refine JC.region ?_
        have hlen2 : 2 ≤ W.length := by first | omega | (simp at hs45; omega)
        obtain ⟨q, cq, sp, hq1, rfl, hcq⟩ := Vec.pos hv5 (by omega)
        simp only [Value.slice.injEq] at hq1
        obtain ⟨rfl, _, rfl⟩ := hq1
        have h6 : W.length ≤ 6 := len_bound 6 W hnd hran
        obtain ⟨n0, hn0⟩ : ∃ n, W[0]? = some n := ⟨_, List.getElem?_eq_getElem (by omega)⟩
        obtain ⟨nl, hnl⟩ : ∃ n, W[W.length - 1]? = some n := ⟨_, List.getElem?_eq_getElem (by omega)⟩
        have hr0 := hran n0 (List.mem_of_getElem? hn0)
        have hrl := hran nl (List.mem_of_getElem? hnl)
        have hne0l : n0 ≠ nl := by
          have e0 : W[0] = n0 := by
            have h := hn0
            rw [List.getElem?_eq_getElem (by omega)] at h
            exact Option.some.inj h
          have el : W[W.length - 1] = nl := by
            have h := hnl
            rw [List.getElem?_eq_getElem (by omega)] at h
            exact Option.some.inj h
          rw [← e0, ← el]
          exact nodup_get hnd (i := W.length - 1) (j := 0) (by omega) (by omega) (by omega)
        have hnb0 : nbW W 0 = W[1] := nbW_in (by omega)
        refine J.buildSl (cs := OP6.map bV) Ty.el28 Ty.s4 Ty.z4 rfl rfl rfl rfl (by kernel_rfl) rfl rfl (fun b50 => ?_)
        refine J.assign rfl rfl ?_
        refine J.nil ?_
        refine JX.thenN (hK12 _ _ ?_)
        refine JC.seq (fun K13 hK13 => ?_)
        refine JC.region ?_
        refine J.perm ((b50, cb (OP6.map bV) 4) :: (b5, cb [.slice (some ⟨q, 0, none⟩) W.length c5] 26) :: (b3, cb (cP p) 25) :: (q, cb (W.map iV ++ sp) 3) :: []) (by (refine perm_cnt (fun _ => ?_)); simp only [cntB_append, cntB_cons, cntB_nil, Nat.add_zero, Nat.zero_add]; try ac_rfl) ?_
        refine J.makeFn rfl rfl ?_
        refine J.assign rfl rfl ?_
        refine J.nil ?_
        refine JX.thenN (hK13 _ _ ?_)
        refine JC.seq (fun K14 hK14 => ?_)
        apply JC.drawX (α := Nat × Nat) 10 (fun x => match x with | ⟨x7, x8⟩ => [.func (.func 22) #[] #[.pointer (some ⟨b5, 0, none⟩)], .agg (cI (idW n0)).toArray, .func (.func 22) #[] #[.pointer (some ⟨b5, 0, none⟩)], .slice (some ⟨q, 0, none⟩) W.length c5, .int .i64 ((W.length : Nat) : Int), .int .i64 (((W.length : Nat) : Int) - 1), .agg (cI (idW nl)).toArray, .pointer (some ⟨x7, 0, none⟩), .pointer (some ⟨x8, 0, none⟩), undef]) (fun m x => match x with | ⟨x7, x8⟩ => fun w1 => (m 9 = true → m 7 = true) ∧ St w [] ((b50, cb (OP6.map bV) 4) :: (b5, cb [.slice (some ⟨q, 0, none⟩) W.length c5] 26) :: (b3, cb (cP p) 25) :: (q, cb (W.map iV ++ sp) 3) :: ((bif m 7 then [(x7, cb (bif m 9 then cI (idW n0) else cI zI) 23)] else []) ++ (bif m 8 then [(x8, cb (cI zI) 23)] else []))) w1) Ty.mixed rfl rfl rfl (by kernel_rfl) rfl rfl ?hinit ?hstep ?htail
        case hinit => exact fun w1 hw => ⟨(0, 0), fun h => (by cases h), hw.drew⟩
        case hstep =>
          refine ⟨fun m x hm hp => ?_, fun m x hm hp => ?_, fun m x hm hp => ?_, fun m x hm hp => ?_, fun m x hm hp => ?_, fun m x hm hp => ?_, fun m x hm hp => ?_, fun m x hm hp => ?_, fun m x hm hp => ?_, fun m x hm hp => ?_, trivial⟩
          · skip
            obtain ⟨x7, x8⟩ := x
            show J _ _ _ _ _ (_) (fun w1 => (m 9 = true → m 7 = true) ∧ St w [] ((b50, cb (OP6.map bV) 4) :: (b5, cb [.slice (some ⟨q, 0, none⟩) W.length c5] 26) :: (b3, cb (cP p) 25) :: (q, cb (W.map iV ++ sp) 3) :: ((bif m 7 then [(x7, cb (bif m 9 then cI (idW n0) else cI zI) 23)] else []) ++ (bif m 8 then [(x8, cb (cI zI) 23)] else []))) w1)
            refine J.pr (fun hF => ?_)
            refine J.move rfl rfl ?_
            exact J.nil (JX.finB rfl (fun w1 hw => ⟨⟨⟨x7, x8⟩, rfl, fun _ _ _ => rfl, hF, hw⟩, trivial⟩))
          · skip
            obtain ⟨x7, x8⟩ := x
            show J _ _ _ _ _ ((52, .func (.func 22) #[] #[.pointer (some ⟨b5, 0, none⟩)]) :: _) (fun w1 => (m 9 = true → m 7 = true) ∧ St w [] ((b50, cb (OP6.map bV) 4) :: (b5, cb [.slice (some ⟨q, 0, none⟩) W.length c5] 26) :: (b3, cb (cP p) 25) :: (q, cb (W.map iV ++ sp) 3) :: ((bif m 7 then [(x7, cb (bif m 9 then cI (idW n0) else cI zI) 23)] else []) ++ (bif m 8 then [(x8, cb (cI zI) 23)] else []))) w1)
            refine J.pr (fun hF => ?_)
            refine J.callVB (v := .agg (cI (idW n0)).toArray) (fun w1 w2 hw hb => hw.step hb) Ty.bd22 rfl rfl rfl (fun w1 hw => by simpa using idc_spec b5 q c5 W sp w1 (St.owns (l1 := [(b5, cb [.slice (some ⟨q, 0, none⟩) W.length c5] 26), (q, cb (W.map iV ++ sp) 3)]) (l := (b50, cb (OP6.map bV) 4) :: (b3, cb (cP p) 25) :: ((bif m 7 then [(x7, cb (bif m 9 then cI (idW n0) else cI zI) 23)] else []) ++ (bif m 8 then [(x8, cb (cI zI) 23)] else []))) (hw.perm (by (refine perm_cnt (fun _ => ?_)); simp only [cntB_append, cntB_cons, cntB_nil, Nat.add_zero, Nat.zero_add]; try ac_rfl))) hcq 0 0 (by omega) n0 hn0 hr0) ?_
            exact J.nil (JX.finB rfl (fun w1 hw => ⟨⟨⟨x7, x8⟩, rfl, fun _ _ _ => rfl, hF, hw⟩, trivial⟩))
          · skip
            obtain ⟨x7, x8⟩ := x
            show J _ _ _ _ _ (_) (fun w1 => (m 9 = true → m 7 = true) ∧ St w [] ((b50, cb (OP6.map bV) 4) :: (b5, cb [.slice (some ⟨q, 0, none⟩) W.length c5] 26) :: (b3, cb (cP p) 25) :: (q, cb (W.map iV ++ sp) 3) :: ((bif m 7 then [(x7, cb (bif m 9 then cI (idW n0) else cI zI) 23)] else []) ++ (bif m 8 then [(x8, cb (cI zI) 23)] else []))) w1)
            refine J.pr (fun hF => ?_)
            refine J.move rfl rfl ?_
            exact J.nil (JX.finB rfl (fun w1 hw => ⟨⟨⟨x7, x8⟩, rfl, fun _ _ _ => rfl, hF, hw⟩, trivial⟩))
          · skip
            obtain ⟨x7, x8⟩ := x
            show J _ _ _ _ _ (_) (fun w1 => (m 9 = true → m 7 = true) ∧ St w [] ((b50, cb (OP6.map bV) 4) :: (b5, cb [.slice (some ⟨q, 0, none⟩) W.length c5] 26) :: (b3, cb (cP p) 25) :: (q, cb (W.map iV ++ sp) 3) :: ((bif m 7 then [(x7, cb (bif m 9 then cI (idW n0) else cI zI) 23)] else []) ++ (bif m 8 then [(x8, cb (cI zI) 23)] else []))) w1)
            refine J.pr (fun hF => ?_)
            (first | refine J.loadO Ty.a26 rfl (.head _) rfl rfl ?_ | refine J.loadO Ty.a26 rfl (.tail _ (.head _)) rfl rfl ?_ | refine J.loadO Ty.a26 rfl (.tail _ (.tail _ (.head _))) rfl rfl ?_ | refine J.loadO Ty.a26 rfl (.tail _ (.tail _ (.tail _ (.head _)))) rfl rfl ?_ | refine J.loadO Ty.a26 rfl (.tail _ (.tail _ (.tail _ (.tail _ (.head _))))) rfl rfl ?_ | refine J.loadO Ty.a26 rfl (.tail _ (.tail _ (.tail _ (.tail _ (.tail _ (.head _)))))) rfl rfl ?_ | refine J.loadO Ty.a26 rfl (.tail _ (.tail _ (.tail _ (.tail _ (.tail _ (.tail _ (.head _))))))) rfl rfl ?_ | refine J.loadO Ty.a26 rfl (.tail _ (.tail _ (.tail _ (.tail _ (.tail _ (.tail _ (.tail _ (.head _)))))))) rfl rfl ?_ | refine J.loadO Ty.a26 rfl (.tail _ (.tail _ (.tail _ (.tail _ (.tail _ (.tail _ (.tail _ (.tail _ (.head _))))))))) rfl rfl ?_ | refine J.loadO Ty.a26 rfl (.tail _ (.tail _ (.tail _ (.tail _ (.tail _ (.tail _ (.tail _ (.tail _ (.tail _ (.head _)))))))))) rfl rfl ?_ | refine J.loadO Ty.a26 rfl (.tail _ (.tail _ (.tail _ (.tail _ (.tail _ (.tail _ (.tail _ (.tail _ (.tail _ (.tail _ (.head _))))))))))) rfl rfl ?_ | refine J.loadO Ty.a26 rfl (.tail _ (.tail _ (.tail _ (.tail _ (.tail _ (.tail _ (.tail _ (.tail _ (.tail _ (.tail _ (.tail _ (.head _)))))))))))) rfl rfl ?_ | refine J.loadO Ty.a26 rfl (List.mem_append_right _ (.head _)) rfl rfl ?_ | refine J.loadO Ty.a26 rfl (List.mem_append_right _ (.tail _ (.head _))) rfl rfl ?_ | refine J.loadO Ty.a26 rfl (List.mem_append_right _ (.tail _ (.tail _ (.head _)))) rfl rfl ?_ | refine J.loadO Ty.a26 rfl (List.mem_append_right _ (.tail _ (.tail _ (.tail _ (.head _))))) rfl rfl ?_ | refine J.loadO Ty.a26 rfl (List.mem_append_right _ (.tail _ (.tail _ (.tail _ (.tail _ (.head _)))))) rfl rfl ?_ | refine J.loadO Ty.a26 rfl (List.mem_append_right _ (.tail _ (.tail _ (.tail _ (.tail _ (.tail _ (.head _))))))) rfl rfl ?_ | refine J.loadO Ty.a26 rfl (List.mem_append_right _ (.tail _ (.tail _ (.tail _ (.tail _ (.tail _ (.tail _ (.head _)))))))) rfl rfl ?_ | refine J.loadO Ty.a26 rfl (List.mem_append_right _ (.tail _ (.tail _ (.tail _ (.tail _ (.tail _ (.tail _ (.tail _ (.head _))))))))) rfl rfl ?_ | refine J.loadO Ty.a26 rfl (List.mem_append_right _ (.tail _ (.tail _ (.tail _ (.tail _ (.tail _ (.tail _ (.tail _ (.tail _ (.head _)))))))))) rfl rfl ?_ | refine J.loadO Ty.a26 rfl (List.mem_append_right _ (.tail _ (.tail _ (.tail _ (.tail _ (.tail _ (.tail _ (.tail _ (.tail _ (.tail _ (.head _))))))))))) rfl rfl ?_ | refine J.loadO Ty.a26 rfl (List.mem_append_right _ (.tail _ (.tail _ (.tail _ (.tail _ (.tail _ (.tail _ (.tail _ (.tail _ (.tail _ (.tail _ (.head _)))))))))))) rfl rfl ?_ | refine J.loadO Ty.a26 rfl (List.mem_append_right _ (.tail _ (.tail _ (.tail _ (.tail _ (.tail _ (.tail _ (.tail _ (.tail _ (.tail _ (.tail _ (.tail _ (.head _))))))))))))) rfl rfl ?_)
            exact J.nil (JX.finB rfl (fun w1 hw => ⟨⟨⟨x7, x8⟩, rfl, fun _ _ _ => rfl, hF, hw⟩, trivial⟩))
          · skip
            obtain ⟨x7, x8⟩ := x
            show J _ _ _ _ _ ((55, .slice (some ⟨q, 0, none⟩) W.length c5) :: _) (fun w1 => (m 9 = true → m 7 = true) ∧ St w [] ((b50, cb (OP6.map bV) 4) :: (b5, cb [.slice (some ⟨q, 0, none⟩) W.length c5] 26) :: (b3, cb (cP p) 25) :: (q, cb (W.map iV ++ sp) 3) :: ((bif m 7 then [(x7, cb (bif m 9 then cI (idW n0) else cI zI) 23)] else []) ++ (bif m 8 then [(x8, cb (cI zI) 23)] else []))) w1)
            refine J.pr (fun hF => ?_)
            refine J.lenS rfl Ty.u26 rfl rfl ?_
            exact J.nil (JX.finB rfl (fun w1 hw => ⟨⟨⟨x7, x8⟩, rfl, fun _ _ _ => rfl, hF, hw⟩, trivial⟩))
          · skip
            obtain ⟨x7, x8⟩ := x
            show J _ _ _ _ _ ((56, .int .i64 ((W.length : Nat) : Int)) :: _) (fun w1 => (m 9 = true → m 7 = true) ∧ St w [] ((b50, cb (OP6.map bV) 4) :: (b5, cb [.slice (some ⟨q, 0, none⟩) W.length c5] 26) :: (b3, cb (cP p) 25) :: (q, cb (W.map iV ++ sp) 3) :: ((bif m 7 then [(x7, cb (bif m 9 then cI (idW n0) else cI zI) 23)] else []) ++ (bif m 8 then [(x8, cb (cI zI) 23)] else []))) w1)
            refine J.pr (fun hF => ?_)
            (first | refine J.subN rfl rfl (by omega) (by omega) rfl ?_ | refine J.bin rfl rfl rfl rfl ?_)
            exact J.nil (JX.finB rfl (fun w1 hw => ⟨⟨⟨x7, x8⟩, rfl, fun _ _ _ => rfl, hF, hw⟩, trivial⟩))
          · skip
            obtain ⟨x7, x8⟩ := x
            show J _ _ _ _ _ ((53, .agg (cI (idW n0)).toArray) :: (57, .int .i64 (((W.length : Nat) : Int) - 1)) :: (54, .func (.func 22) #[] #[.pointer (some ⟨b5, 0, none⟩)]) :: _) (fun w1 => (m 9 = true → m 7 = true) ∧ St w [] ((b50, cb (OP6.map bV) 4) :: (b5, cb [.slice (some ⟨q, 0, none⟩) W.length c5] 26) :: (b3, cb (cP p) 25) :: (q, cb (W.map iV ++ sp) 3) :: ((bif m 7 then [(x7, cb (bif m 9 then cI (idW n0) else cI zI) 23)] else []) ++ (bif m 8 then [(x8, cb (cI zI) 23)] else []))) w1)
            refine J.pr (fun hF => ?_)
            refine J.callVB (v := .agg (cI (idW nl)).toArray) (fun w1 w2 hw hb => hw.step hb) Ty.bd22 rfl rfl rfl (fun w1 hw => by simpa using idc_spec b5 q c5 W sp w1 (St.owns (l1 := [(b5, cb [.slice (some ⟨q, 0, none⟩) W.length c5] 26), (q, cb (W.map iV ++ sp) 3)]) (l := (b50, cb (OP6.map bV) 4) :: (b3, cb (cP p) 25) :: ((bif m 7 then [(x7, cb (bif m 9 then cI (idW n0) else cI zI) 23)] else []) ++ (bif m 8 then [(x8, cb (cI zI) 23)] else []))) (hw.perm (by (refine perm_cnt (fun _ => ?_)); simp only [cntB_append, cntB_cons, cntB_nil, Nat.add_zero, Nat.zero_add]; try ac_rfl))) hcq (((W.length : Nat) : Int) - 1) (W.length - 1) (by omega) nl hnl hrl) ?_
            exact J.nil (JX.finB rfl (fun w1 hw => ⟨⟨⟨x7, x8⟩, rfl, fun _ _ _ => rfl, hF, hw⟩, trivial⟩))
          · skip
            obtain ⟨x7, x8⟩ := x
            show J _ _ _ _ _ (_) (fun w1 => (m 9 = true → m 7 = true) ∧ St w [] ((b50, cb (OP6.map bV) 4) :: (b5, cb [.slice (some ⟨q, 0, none⟩) W.length c5] 26) :: (b3, cb (cP p) 25) :: (q, cb (W.map iV ++ sp) 3) :: ((bif m 7 then [(x7, cb (bif m 9 then cI (idW n0) else cI zI) 23)] else []) ++ (bif m 8 then [(x8, cb (cI zI) 23)] else []))) w1)
            refine J.pr (fun hF => ?_)
            have h9 : m 9 = false := by cases h : m 9 with
              | false => rfl
              | true => rw [hF h] at hm; cases hm
            refine J.alloc zID rfl rfl (fun b10 => ?_)
            refine J.nil (JX.finB rfl (fun w1 hw => ⟨⟨⟨b10, x8⟩, rfl, fun j h1 h2 => ?_, ?_⟩, trivial⟩))
            · match j, h1 with
              | 0, _ => rfl
              | 1, _ => rfl
              | 2, _ => rfl
              | 3, _ => rfl
              | 4, _ => rfl
              | 5, _ => rfl
              | 6, _ => rfl
              | 7, _ => exact absurd (h2.symm.trans hm) (by decide)
              | 8, _ => rfl
              | 9, _ => rfl
              | j + 10, h1 => omega
            show (m 9 = true → true = true) ∧ St w [] ((b50, cb (OP6.map bV) 4) :: (b5, cb [.slice (some ⟨q, 0, none⟩) W.length c5] 26) :: (b3, cb (cP p) 25) :: (q, cb (W.map iV ++ sp) 3) :: ((bif true then [(b10, cb (bif m 9 then cI (idW n0) else cI zI) 23)] else []) ++ (bif m 8 then [(x8, cb (cI zI) 23)] else []))) w1
            refine ⟨fun _ => rfl, ?_⟩
            simp only [hm, h9, cond_true, cond_false] at hw ⊢
            exact hw.perm (by (refine perm_cnt (fun _ => ?_)); simp only [cntB_append, cntB_cons, cntB_nil, Nat.add_zero, Nat.zero_add]; try ac_rfl)
          · skip
            obtain ⟨x7, x8⟩ := x
            show J _ _ _ _ _ (_) (fun w1 => (m 9 = true → m 7 = true) ∧ St w [] ((b50, cb (OP6.map bV) 4) :: (b5, cb [.slice (some ⟨q, 0, none⟩) W.length c5] 26) :: (b3, cb (cP p) 25) :: (q, cb (W.map iV ++ sp) 3) :: ((bif m 7 then [(x7, cb (bif m 9 then cI (idW n0) else cI zI) 23)] else []) ++ (bif m 8 then [(x8, cb (cI zI) 23)] else []))) w1)
            refine J.pr (fun hF => ?_)
            refine J.alloc zID rfl rfl (fun b11 => ?_)
            refine J.nil (JX.finB rfl (fun w1 hw => ⟨⟨⟨x7, b11⟩, rfl, fun j h1 h2 => ?_, ?_⟩, trivial⟩))
            · match j, h1 with
              | 0, _ => rfl
              | 1, _ => rfl
              | 2, _ => rfl
              | 3, _ => rfl
              | 4, _ => rfl
              | 5, _ => rfl
              | 6, _ => rfl
              | 7, _ => rfl
              | 8, _ => exact absurd (h2.symm.trans hm) (by decide)
              | 9, _ => rfl
              | j + 10, h1 => omega
            show (m 9 = true → m 7 = true) ∧ St w [] ((b50, cb (OP6.map bV) 4) :: (b5, cb [.slice (some ⟨q, 0, none⟩) W.length c5] 26) :: (b3, cb (cP p) 25) :: (q, cb (W.map iV ++ sp) 3) :: ((bif m 7 then [(x7, cb (bif m 9 then cI (idW n0) else cI zI) 23)] else []) ++ (bif true then [(b11, cb (cI zI) 23)] else []))) w1
            refine ⟨hF, ?_⟩
            simp only [hm, cond_true, cond_false] at hw ⊢
            exact hw.perm (by (refine perm_cnt (fun _ => ?_)); simp only [cntB_append, cntB_cons, cntB_nil, Nat.add_zero, Nat.zero_add]; try ac_rfl)
          · skip
            obtain ⟨x7, x8⟩ := x
            show J _ _ _ _ _ ((11, .pointer (some ⟨x8, 0, none⟩)) :: (10, .pointer (some ⟨x7, 0, none⟩)) :: (53, .agg (cI (idW n0)).toArray) :: (52, .func (.func 22) #[] #[.pointer (some ⟨b5, 0, none⟩)]) :: (58, .agg (cI (idW nl)).toArray) :: (53, .agg (cI (idW n0)).toArray) :: (10, .pointer (some ⟨x7, 0, none⟩)) :: _) (fun w1 => (m 9 = true → m 7 = true) ∧ St w [] ((b50, cb (OP6.map bV) 4) :: (b5, cb [.slice (some ⟨q, 0, none⟩) W.length c5] 26) :: (b3, cb (cP p) 25) :: (q, cb (W.map iV ++ sp) 3) :: ((bif m 7 then [(x7, cb (bif m 9 then cI (idW n0) else cI zI) 23)] else []) ++ (bif m 8 then [(x8, cb (cI zI) 23)] else []))) w1)
            have hp7 : m 7 = true := predsT hp (by kernel_rfl)
            have hp7 : m 7 = true := predsT hp (by kernel_rfl)
            have hp8 : m 8 = true := predsT hp (by kernel_rfl)
            refine J.pr (fun hF => ?_)
            refine J.conseq (I' := St w [] ((x7, cb (cI zI) 23) :: ((b50, cb (OP6.map bV) 4) :: (b5, cb [.slice (some ⟨q, 0, none⟩) W.length c5] 26) :: (b3, cb (cP p) 25) :: (q, cb (W.map iV ++ sp) 3) :: (bif m 8 then [(x8, cb (cI zI) 23)] else [])))) ?_ (fun w1 hw => by simp only [hm, hp7, cond_true, cond_false] at hw; exact hw.perm (by (refine perm_cnt (fun _ => ?_)); simp only [cntB_append, cntB_cons, cntB_nil, Nat.add_zero, Nat.zero_add]; try ac_rfl))
            refine J.storeW (cs := cI zI) (vs := cI (idW n0)) Ty.s23 rfl rfl rfl rfl rfl (by simp [Value.oneCell']) .here ?_
            refine J.nil (JX.finN undef (fun w1 hw => ⟨⟨x7, x8⟩, rfl, fun j h1 h2 => ?_, ?_⟩))
            · match j, h1 with
              | 0, _ => rfl
              | 1, _ => rfl
              | 2, _ => rfl
              | 3, _ => rfl
              | 4, _ => rfl
              | 5, _ => rfl
              | 6, _ => rfl
              | 7, _ => rfl
              | 8, _ => rfl
              | 9, _ => rfl
              | j + 10, h1 => omega
            show (true = true → m 7 = true) ∧ St w [] ((b50, cb (OP6.map bV) 4) :: (b5, cb [.slice (some ⟨q, 0, none⟩) W.length c5] 26) :: (b3, cb (cP p) 25) :: (q, cb (W.map iV ++ sp) 3) :: ((bif m 7 then [(x7, cb (bif true then cI (idW n0) else cI zI) 23)] else []) ++ (bif m 8 then [(x8, cb (cI zI) 23)] else []))) w1
            refine ⟨fun _ => hp7, ?_⟩
            simp only [hp7, cond_true]
            exact hw.perm (by (refine perm_cnt (fun _ => ?_)); simp only [cntB_append, cntB_cons, cntB_nil, Nat.add_zero, Nat.zero_add]; try ac_rfl)
        case htail =>
          intro x
          obtain ⟨x7, x8⟩ := x
          show J _ _ _ _ _ ((11, .pointer (some ⟨x8, 0, none⟩)) :: (10, .pointer (some ⟨x7, 0, none⟩)) :: (58, .agg (cI (idW nl)).toArray) :: (57, .int .i64 (((W.length : Nat) : Int) - 1)) :: (56, .int .i64 ((W.length : Nat) : Int)) :: (55, .slice (some ⟨q, 0, none⟩) W.length c5) :: (54, .func (.func 22) #[] #[.pointer (some ⟨b5, 0, none⟩)]) :: (53, .agg (cI (idW n0)).toArray) :: (52, .func (.func 22) #[] #[.pointer (some ⟨b5, 0, none⟩)]) :: _) (fun w1 => (true = true → true = true) ∧ St w [] ((b50, cb (OP6.map bV) 4) :: (b5, cb [.slice (some ⟨q, 0, none⟩) W.length c5] 26) :: (b3, cb (cP p) 25) :: (q, cb (W.map iV ++ sp) 3) :: ((bif true then [(x7, cb (bif true then cI (idW n0) else cI zI) 23)] else []) ++ (bif true then [(x8, cb (cI zI) 23)] else []))) w1)
          refine J.pr (fun hF => ?_)
          refine J.conseq (I' := St w [] ((x8, cb (cI zI) 23) :: (x7, cb (cI (idW n0)) 23) :: (b50, cb (OP6.map bV) 4) :: (b5, cb [.slice (some ⟨q, 0, none⟩) W.length c5] 26) :: (b3, cb (cP p) 25) :: (q, cb (W.map iV ++ sp) 3) :: [])) ?_ (fun w1 hw => by simp only [cond_true] at hw; exact hw.perm (by (refine perm_cnt (fun _ => ?_)); simp only [cntB_append, cntB_cons, cntB_nil, Nat.add_zero, Nat.zero_add]; try ac_rfl))
          refine J.storeW (cs := cI zI) (vs := cI (idW nl)) Ty.s23 rfl rfl rfl rfl rfl (by simp [Value.oneCell']) .here ?_
          refine J.nil ?_
          refine JX.thenN (hK14 _ _ ?_)
          refine JC.seq (fun K15 hK15 => ?_)
          refine JC.region ?_
          refine J.perm ([] ++ ((x7, cb (cI (idW n0)) 23) :: (x8, cb (cI (idW nl)) 23) :: (b50, cb (OP6.map bV) 4) :: (b5, cb [.slice (some ⟨q, 0, none⟩) W.length c5] 26) :: (b3, cb (cP p) 25) :: (q, cb (W.map iV ++ sp) 3) :: [])) (by (refine perm_cnt (fun _ => ?_)); simp only [cntB_append, cntB_cons, cntB_nil, Nat.add_zero, Nat.zero_add]; try ac_rfl) ?_
          refine J.callS (α := Nat × Nat) (V := fun x => .pointer (some ⟨x.1, 0, none⟩)) (Pr := fun _ => True) (L := fun x => [(x.1, tabO 3 x.2), (x.2, .map #[] 0)]) (l1 := []) Ty.bd16 rfl rfl (fun w1 hw => (new_spec 3 w1).mono fun _ _ ⟨x, h1, h2⟩ => ⟨x, h1, trivial, h2⟩) (fun x _ => ?_)
          obtain ⟨t12, m12⟩ := x
          simp only
          refine J.perm ((x7, cb (cI (idW n0)) 23) :: (x8, cb (cI (idW nl)) 23) :: (b50, cb (OP6.map bV) 4) :: (b5, cb [.slice (some ⟨q, 0, none⟩) W.length c5] 26) :: (b3, cb (cP p) 25) :: (q, cb (W.map iV ++ sp) 3) :: (t12, tabO 3 m12) :: (m12, .map #[] 0) :: []) (by (refine perm_cnt (fun _ => ?_)); simp only [cntB_append, cntB_cons, cntB_nil, Nat.add_zero, Nat.zero_add]; try ac_rfl) ?_
          refine J.assign rfl rfl ?_
          refine J.nil ?_
          refine JX.thenN (hK15 _ _ ?_)
          refine JC.seq (fun K16 hK16 => ?_)
          apply JC.drawX (α := Value × Bool × List (Nat × Obj) × Array MapEntry × Nat × Nat) 16 (fun x => match x with | ⟨out, mine, hl, es, ck, x14⟩ => [.pointer (some ⟨t12, 0, none⟩), .slice (some ⟨q, 0, none⟩) W.length c5, .pointer (some ⟨q, 0 + (0 : Int).toNat * 1, none⟩), iV n0, .agg (cI (idW n0)).toArray, .agg (cW n0 (idW n0)).toArray, .agg (cP p).toArray, .agg (cI (idW nl)).toArray, .slice (some ⟨q, 0, none⟩) W.length c5, .slice (some ⟨b50, 0, none⟩) 6 6, .tuple #[.agg (cD out mine false).toArray, .int .i64 0], .tuple #[.agg (cD out mine false).toArray, .int .i64 0], .agg (cD out mine false).toArray, .int .i64 0, .pointer (some ⟨x14, 0, none⟩), undef]) (fun m x => match x with | ⟨out, mine, hl, es, ck, x14⟩ => fun w1 => ((m 11 = true → m 10 = true) ∧ (m 12 = true → m 10 = true) ∧ (m 15 = true → m 10 = true) ∧ (m 15 = true → m 14 = true) ∧ (m 10 = true → (HopAt W 1 p (idW n0) (idW nl) out mine hl ∧ mine = true ∧ Tab [(⟨p, idW n0, idW nl, -1, nbW W 0⟩ : EV)] es ck))) ∧ St w [] ((x7, cb (cI (idW n0)) 23) :: (x8, cb (cI (idW nl)) 23) :: (b50, cb (OP6.map bV) 4) :: (b5, cb [.slice (some ⟨q, 0, none⟩) W.length c5] 26) :: (b3, cb (cP p) 25) :: (q, cb (W.map iV ++ sp) 3) :: ((bif m 10 then hl ++ [(t12, tabO 3 m12), (m12, .map es ck)] else [(t12, tabO 3 m12), (m12, .map #[] 0)]) ++ (bif m 14 then [(x14, cb (bif m 15 then cD out mine false else cD nilV false false) 37)] else []))) w1) Ty.mixed rfl rfl rfl (by kernel_rfl) rfl rfl ?hinit ?hstep ?htail
          case hinit => exact fun w1 hw => ⟨(nilV, false, [], #[], 0, 0), ⟨fun h => (by cases h), fun h => (by cases h), fun h => (by cases h), fun h => (by cases h), fun h => (by cases h)⟩, hw.drew⟩
          case hstep =>
            refine ⟨fun m x hm hp => ?_, fun m x hm hp => ?_, fun m x hm hp => ?_, fun m x hm hp => ?_, fun m x hm hp => ?_, fun m x hm hp => ?_, fun m x hm hp => ?_, fun m x hm hp => ?_, fun m x hm hp => ?_, fun m x hm hp => ?_, fun m x hm hp => ?_, fun m x hm hp => ?_, fun m x hm hp => ?_, fun m x hm hp => ?_, fun m x hm hp => ?_, fun m x hm hp => ?_, trivial⟩
            · skip
              obtain ⟨out, mine, hl, es, ck, x14⟩ := x
              show J _ _ _ _ _ (_) (fun w1 => ((m 11 = true → m 10 = true) ∧ (m 12 = true → m 10 = true) ∧ (m 15 = true → m 10 = true) ∧ (m 15 = true → m 14 = true) ∧ (m 10 = true → (HopAt W 1 p (idW n0) (idW nl) out mine hl ∧ mine = true ∧ Tab [(⟨p, idW n0, idW nl, -1, nbW W 0⟩ : EV)] es ck))) ∧ St w [] ((x7, cb (cI (idW n0)) 23) :: (x8, cb (cI (idW nl)) 23) :: (b50, cb (OP6.map bV) 4) :: (b5, cb [.slice (some ⟨q, 0, none⟩) W.length c5] 26) :: (b3, cb (cP p) 25) :: (q, cb (W.map iV ++ sp) 3) :: ((bif m 10 then hl ++ [(t12, tabO 3 m12), (m12, .map es ck)] else [(t12, tabO 3 m12), (m12, .map #[] 0)]) ++ (bif m 14 then [(x14, cb (bif m 15 then cD out mine false else cD nilV false false) 37)] else []))) w1)
              refine J.pr (fun hF => ?_)
              refine J.move rfl rfl ?_
              exact J.nil (JX.finB rfl (fun w1 hw => ⟨⟨⟨out, mine, hl, es, ck, x14⟩, rfl, fun _ _ _ => rfl, hF, hw⟩, trivial⟩))
            · skip
              obtain ⟨out, mine, hl, es, ck, x14⟩ := x
              show J _ _ _ _ _ (_) (fun w1 => ((m 11 = true → m 10 = true) ∧ (m 12 = true → m 10 = true) ∧ (m 15 = true → m 10 = true) ∧ (m 15 = true → m 14 = true) ∧ (m 10 = true → (HopAt W 1 p (idW n0) (idW nl) out mine hl ∧ mine = true ∧ Tab [(⟨p, idW n0, idW nl, -1, nbW W 0⟩ : EV)] es ck))) ∧ St w [] ((x7, cb (cI (idW n0)) 23) :: (x8, cb (cI (idW nl)) 23) :: (b50, cb (OP6.map bV) 4) :: (b5, cb [.slice (some ⟨q, 0, none⟩) W.length c5] 26) :: (b3, cb (cP p) 25) :: (q, cb (W.map iV ++ sp) 3) :: ((bif m 10 then hl ++ [(t12, tabO 3 m12), (m12, .map es ck)] else [(t12, tabO 3 m12), (m12, .map #[] 0)]) ++ (bif m 14 then [(x14, cb (bif m 15 then cD out mine false else cD nilV false false) 37)] else []))) w1)
              refine J.pr (fun hF => ?_)
              (first | refine J.loadO Ty.a26 rfl (.head _) rfl rfl ?_ | refine J.loadO Ty.a26 rfl (.tail _ (.head _)) rfl rfl ?_ | refine J.loadO Ty.a26 rfl (.tail _ (.tail _ (.head _))) rfl rfl ?_ | refine J.loadO Ty.a26 rfl (.tail _ (.tail _ (.tail _ (.head _)))) rfl rfl ?_ | refine J.loadO Ty.a26 rfl (.tail _ (.tail _ (.tail _ (.tail _ (.head _))))) rfl rfl ?_ | refine J.loadO Ty.a26 rfl (.tail _ (.tail _ (.tail _ (.tail _ (.tail _ (.head _)))))) rfl rfl ?_ | refine J.loadO Ty.a26 rfl (.tail _ (.tail _ (.tail _ (.tail _ (.tail _ (.tail _ (.head _))))))) rfl rfl ?_ | refine J.loadO Ty.a26 rfl (.tail _ (.tail _ (.tail _ (.tail _ (.tail _ (.tail _ (.tail _ (.head _)))))))) rfl rfl ?_ | refine J.loadO Ty.a26 rfl (.tail _ (.tail _ (.tail _ (.tail _ (.tail _ (.tail _ (.tail _ (.tail _ (.head _))))))))) rfl rfl ?_ | refine J.loadO Ty.a26 rfl (.tail _ (.tail _ (.tail _ (.tail _ (.tail _ (.tail _ (.tail _ (.tail _ (.tail _ (.head _)))))))))) rfl rfl ?_ | refine J.loadO Ty.a26 rfl (.tail _ (.tail _ (.tail _ (.tail _ (.tail _ (.tail _ (.tail _ (.tail _ (.tail _ (.tail _ (.head _))))))))))) rfl rfl ?_ | refine J.loadO Ty.a26 rfl (.tail _ (.tail _ (.tail _ (.tail _ (.tail _ (.tail _ (.tail _ (.tail _ (.tail _ (.tail _ (.tail _ (.head _)))))))))))) rfl rfl ?_ | refine J.loadO Ty.a26 rfl (List.mem_append_right _ (.head _)) rfl rfl ?_ | refine J.loadO Ty.a26 rfl (List.mem_append_right _ (.tail _ (.head _))) rfl rfl ?_ | refine J.loadO Ty.a26 rfl (List.mem_append_right _ (.tail _ (.tail _ (.head _)))) rfl rfl ?_ | refine J.loadO Ty.a26 rfl (List.mem_append_right _ (.tail _ (.tail _ (.tail _ (.head _))))) rfl rfl ?_ | refine J.loadO Ty.a26 rfl (List.mem_append_right _ (.tail _ (.tail _ (.tail _ (.tail _ (.head _)))))) rfl rfl ?_ | refine J.loadO Ty.a26 rfl (List.mem_append_right _ (.tail _ (.tail _ (.tail _ (.tail _ (.tail _ (.head _))))))) rfl rfl ?_ | refine J.loadO Ty.a26 rfl (List.mem_append_right _ (.tail _ (.tail _ (.tail _ (.tail _ (.tail _ (.tail _ (.head _)))))))) rfl rfl ?_ | refine J.loadO Ty.a26 rfl (List.mem_append_right _ (.tail _ (.tail _ (.tail _ (.tail _ (.tail _ (.tail _ (.tail _ (.head _))))))))) rfl rfl ?_ | refine J.loadO Ty.a26 rfl (List.mem_append_right _ (.tail _ (.tail _ (.tail _ (.tail _ (.tail _ (.tail _ (.tail _ (.tail _ (.head _)))))))))) rfl rfl ?_ | refine J.loadO Ty.a26 rfl (List.mem_append_right _ (.tail _ (.tail _ (.tail _ (.tail _ (.tail _ (.tail _ (.tail _ (.tail _ (.tail _ (.head _))))))))))) rfl rfl ?_ | refine J.loadO Ty.a26 rfl (List.mem_append_right _ (.tail _ (.tail _ (.tail _ (.tail _ (.tail _ (.tail _ (.tail _ (.tail _ (.tail _ (.tail _ (.head _)))))))))))) rfl rfl ?_ | refine J.loadO Ty.a26 rfl (List.mem_append_right _ (.tail _ (.tail _ (.tail _ (.tail _ (.tail _ (.tail _ (.tail _ (.tail _ (.tail _ (.tail _ (.tail _ (.head _))))))))))))) rfl rfl ?_)
              exact J.nil (JX.finB rfl (fun w1 hw => ⟨⟨⟨out, mine, hl, es, ck, x14⟩, rfl, fun _ _ _ => rfl, hF, hw⟩, trivial⟩))
            · skip
              obtain ⟨out, mine, hl, es, ck, x14⟩ := x
              show J _ _ _ _ _ ((62, .slice (some ⟨q, 0, none⟩) W.length c5) :: _) (fun w1 => ((m 11 = true → m 10 = true) ∧ (m 12 = true → m 10 = true) ∧ (m 15 = true → m 10 = true) ∧ (m 15 = true → m 14 = true) ∧ (m 10 = true → (HopAt W 1 p (idW n0) (idW nl) out mine hl ∧ mine = true ∧ Tab [(⟨p, idW n0, idW nl, -1, nbW W 0⟩ : EV)] es ck))) ∧ St w [] ((x7, cb (cI (idW n0)) 23) :: (x8, cb (cI (idW nl)) 23) :: (b50, cb (OP6.map bV) 4) :: (b5, cb [.slice (some ⟨q, 0, none⟩) W.length c5] 26) :: (b3, cb (cP p) 25) :: (q, cb (W.map iV ++ sp) 3) :: ((bif m 10 then hl ++ [(t12, tabO 3 m12), (m12, .map es ck)] else [(t12, tabO 3 m12), (m12, .map #[] 0)]) ++ (bif m 14 then [(x14, cb (bif m 15 then cD out mine false else cD nilV false false) 37)] else []))) w1)
              refine J.pr (fun hF => ?_)
              refine J.indexAddrS Ty.el26 Ty.s3 rfl rfl (by omega) (by omega) rfl ?_
              exact J.nil (JX.finB rfl (fun w1 hw => ⟨⟨⟨out, mine, hl, es, ck, x14⟩, rfl, fun _ _ _ => rfl, hF, hw⟩, trivial⟩))
            · skip
              obtain ⟨out, mine, hl, es, ck, x14⟩ := x
              show J _ _ _ _ _ ((63, .pointer (some ⟨q, 0 + (0 : Int).toNat * 1, none⟩)) :: _) (fun w1 => ((m 11 = true → m 10 = true) ∧ (m 12 = true → m 10 = true) ∧ (m 15 = true → m 10 = true) ∧ (m 15 = true → m 14 = true) ∧ (m 10 = true → (HopAt W 1 p (idW n0) (idW nl) out mine hl ∧ mine = true ∧ Tab [(⟨p, idW n0, idW nl, -1, nbW W 0⟩ : EV)] es ck))) ∧ St w [] ((x7, cb (cI (idW n0)) 23) :: (x8, cb (cI (idW nl)) 23) :: (b50, cb (OP6.map bV) 4) :: (b5, cb [.slice (some ⟨q, 0, none⟩) W.length c5] 26) :: (b3, cb (cP p) 25) :: (q, cb (W.map iV ++ sp) 3) :: ((bif m 10 then hl ++ [(t12, tabO 3 m12), (m12, .map es ck)] else [(t12, tabO 3 m12), (m12, .map #[] 0)]) ++ (bif m 14 then [(x14, cb (bif m 15 then cD out mine false else cD nilV false false) 37)] else []))) w1)
              refine J.pr (fun hF => ?_)
              refine J.load1 (v := iV n0) Ty.a3 rfl (fun w1 hw => (cell_of (hw.own _ (.tail _ (.tail _ (.tail _ (.tail _ (.tail _ (.head _)))))))).trans (by rw [show 0 + (0 : Int).toNat * 1 = 0 from rfl, List.getElem?_append_left (by simp; omega), List.getElem?_map, hn0]; rfl)) rfl ?_
              exact J.nil (JX.finB rfl (fun w1 hw => ⟨⟨⟨out, mine, hl, es, ck, x14⟩, rfl, fun _ _ _ => rfl, hF, hw⟩, trivial⟩))
            · skip
              obtain ⟨out, mine, hl, es, ck, x14⟩ := x
              show J _ _ _ _ _ (_) (fun w1 => ((m 11 = true → m 10 = true) ∧ (m 12 = true → m 10 = true) ∧ (m 15 = true → m 10 = true) ∧ (m 15 = true → m 14 = true) ∧ (m 10 = true → (HopAt W 1 p (idW n0) (idW nl) out mine hl ∧ mine = true ∧ Tab [(⟨p, idW n0, idW nl, -1, nbW W 0⟩ : EV)] es ck))) ∧ St w [] ((x7, cb (cI (idW n0)) 23) :: (x8, cb (cI (idW nl)) 23) :: (b50, cb (OP6.map bV) 4) :: (b5, cb [.slice (some ⟨q, 0, none⟩) W.length c5] 26) :: (b3, cb (cP p) 25) :: (q, cb (W.map iV ++ sp) 3) :: ((bif m 10 then hl ++ [(t12, tabO 3 m12), (m12, .map es ck)] else [(t12, tabO 3 m12), (m12, .map #[] 0)]) ++ (bif m 14 then [(x14, cb (bif m 15 then cD out mine false else cD nilV false false) 37)] else []))) w1)
              refine J.pr (fun hF => ?_)
              (first | refine J.loadOA (vs := cI (idW n0)) Ty.a23 Ty.s23 rfl (.head _) rfl rfl rfl ?_ | refine J.loadOA (vs := cI (idW n0)) Ty.a23 Ty.s23 rfl (.tail _ (.head _)) rfl rfl rfl ?_ | refine J.loadOA (vs := cI (idW n0)) Ty.a23 Ty.s23 rfl (.tail _ (.tail _ (.head _))) rfl rfl rfl ?_ | refine J.loadOA (vs := cI (idW n0)) Ty.a23 Ty.s23 rfl (.tail _ (.tail _ (.tail _ (.head _)))) rfl rfl rfl ?_ | refine J.loadOA (vs := cI (idW n0)) Ty.a23 Ty.s23 rfl (.tail _ (.tail _ (.tail _ (.tail _ (.head _))))) rfl rfl rfl ?_ | refine J.loadOA (vs := cI (idW n0)) Ty.a23 Ty.s23 rfl (.tail _ (.tail _ (.tail _ (.tail _ (.tail _ (.head _)))))) rfl rfl rfl ?_ | refine J.loadOA (vs := cI (idW n0)) Ty.a23 Ty.s23 rfl (.tail _ (.tail _ (.tail _ (.tail _ (.tail _ (.tail _ (.head _))))))) rfl rfl rfl ?_ | refine J.loadOA (vs := cI (idW n0)) Ty.a23 Ty.s23 rfl (.tail _ (.tail _ (.tail _ (.tail _ (.tail _ (.tail _ (.tail _ (.head _)))))))) rfl rfl rfl ?_ | refine J.loadOA (vs := cI (idW n0)) Ty.a23 Ty.s23 rfl (.tail _ (.tail _ (.tail _ (.tail _ (.tail _ (.tail _ (.tail _ (.tail _ (.head _))))))))) rfl rfl rfl ?_ | refine J.loadOA (vs := cI (idW n0)) Ty.a23 Ty.s23 rfl (.tail _ (.tail _ (.tail _ (.tail _ (.tail _ (.tail _ (.tail _ (.tail _ (.tail _ (.head _)))))))))) rfl rfl rfl ?_ | refine J.loadOA (vs := cI (idW n0)) Ty.a23 Ty.s23 rfl (.tail _ (.tail _ (.tail _ (.tail _ (.tail _ (.tail _ (.tail _ (.tail _ (.tail _ (.tail _ (.head _))))))))))) rfl rfl rfl ?_ | refine J.loadOA (vs := cI (idW n0)) Ty.a23 Ty.s23 rfl (.tail _ (.tail _ (.tail _ (.tail _ (.tail _ (.tail _ (.tail _ (.tail _ (.tail _ (.tail _ (.tail _ (.head _)))))))))))) rfl rfl rfl ?_ | refine J.loadOA (vs := cI (idW n0)) Ty.a23 Ty.s23 rfl (List.mem_append_right _ (.head _)) rfl rfl rfl ?_ | refine J.loadOA (vs := cI (idW n0)) Ty.a23 Ty.s23 rfl (List.mem_append_right _ (.tail _ (.head _))) rfl rfl rfl ?_ | refine J.loadOA (vs := cI (idW n0)) Ty.a23 Ty.s23 rfl (List.mem_append_right _ (.tail _ (.tail _ (.head _)))) rfl rfl rfl ?_ | refine J.loadOA (vs := cI (idW n0)) Ty.a23 Ty.s23 rfl (List.mem_append_right _ (.tail _ (.tail _ (.tail _ (.head _))))) rfl rfl rfl ?_ | refine J.loadOA (vs := cI (idW n0)) Ty.a23 Ty.s23 rfl (List.mem_append_right _ (.tail _ (.tail _ (.tail _ (.tail _ (.head _)))))) rfl rfl rfl ?_ | refine J.loadOA (vs := cI (idW n0)) Ty.a23 Ty.s23 rfl (List.mem_append_right _ (.tail _ (.tail _ (.tail _ (.tail _ (.tail _ (.head _))))))) rfl rfl rfl ?_ | refine J.loadOA (vs := cI (idW n0)) Ty.a23 Ty.s23 rfl (List.mem_append_right _ (.tail _ (.tail _ (.tail _ (.tail _ (.tail _ (.tail _ (.head _)))))))) rfl rfl rfl ?_ | refine J.loadOA (vs := cI (idW n0)) Ty.a23 Ty.s23 rfl (List.mem_append_right _ (.tail _ (.tail _ (.tail _ (.tail _ (.tail _ (.tail _ (.tail _ (.head _))))))))) rfl rfl rfl ?_ | refine J.loadOA (vs := cI (idW n0)) Ty.a23 Ty.s23 rfl (List.mem_append_right _ (.tail _ (.tail _ (.tail _ (.tail _ (.tail _ (.tail _ (.tail _ (.tail _ (.head _)))))))))) rfl rfl rfl ?_ | refine J.loadOA (vs := cI (idW n0)) Ty.a23 Ty.s23 rfl (List.mem_append_right _ (.tail _ (.tail _ (.tail _ (.tail _ (.tail _ (.tail _ (.tail _ (.tail _ (.tail _ (.head _))))))))))) rfl rfl rfl ?_ | refine J.loadOA (vs := cI (idW n0)) Ty.a23 Ty.s23 rfl (List.mem_append_right _ (.tail _ (.tail _ (.tail _ (.tail _ (.tail _ (.tail _ (.tail _ (.tail _ (.tail _ (.tail _ (.head _)))))))))))) rfl rfl rfl ?_ | refine J.loadOA (vs := cI (idW n0)) Ty.a23 Ty.s23 rfl (List.mem_append_right _ (.tail _ (.tail _ (.tail _ (.tail _ (.tail _ (.tail _ (.tail _ (.tail _ (.tail _ (.tail _ (.tail _ (.head _))))))))))))) rfl rfl rfl ?_)
              exact J.nil (JX.finB rfl (fun w1 hw => ⟨⟨⟨out, mine, hl, es, ck, x14⟩, rfl, fun _ _ _ => rfl, hF, hw⟩, trivial⟩))
            · skip
              obtain ⟨out, mine, hl, es, ck, x14⟩ := x
              show J _ _ _ _ _ ((65, .agg (cI (idW n0)).toArray) :: (64, iV n0) :: _) (fun w1 => ((m 11 = true → m 10 = true) ∧ (m 12 = true → m 10 = true) ∧ (m 15 = true → m 10 = true) ∧ (m 15 = true → m 14 = true) ∧ (m 10 = true → (HopAt W 1 p (idW n0) (idW nl) out mine hl ∧ mine = true ∧ Tab [(⟨p, idW n0, idW nl, -1, nbW W 0⟩ : EV)] es ck))) ∧ St w [] ((x7, cb (cI (idW n0)) 23) :: (x8, cb (cI (idW nl)) 23) :: (b50, cb (OP6.map bV) 4) :: (b5, cb [.slice (some ⟨q, 0, none⟩) W.length c5] 26) :: (b3, cb (cP p) 25) :: (q, cb (W.map iV ++ sp) 3) :: ((bif m 10 then hl ++ [(t12, tabO 3 m12), (m12, .map es ck)] else [(t12, tabO 3 m12), (m12, .map #[] 0)]) ++ (bif m 14 then [(x14, cb (bif m 15 then cD out mine false else cD nilV false false) 37)] else []))) w1)
              refine J.pr (fun hF => ?_)
              refine J.buildS (cs := cW n0 (idW n0)) Ty.pl41 zW rfl (by kernel_rfl) rfl ?_
              exact J.nil (JX.finB rfl (fun w1 hw => ⟨⟨⟨out, mine, hl, es, ck, x14⟩, rfl, fun _ _ _ => rfl, hF, hw⟩, trivial⟩))
            · skip
              obtain ⟨out, mine, hl, es, ck, x14⟩ := x
              show J _ _ _ _ _ (_) (fun w1 => ((m 11 = true → m 10 = true) ∧ (m 12 = true → m 10 = true) ∧ (m 15 = true → m 10 = true) ∧ (m 15 = true → m 14 = true) ∧ (m 10 = true → (HopAt W 1 p (idW n0) (idW nl) out mine hl ∧ mine = true ∧ Tab [(⟨p, idW n0, idW nl, -1, nbW W 0⟩ : EV)] es ck))) ∧ St w [] ((x7, cb (cI (idW n0)) 23) :: (x8, cb (cI (idW nl)) 23) :: (b50, cb (OP6.map bV) 4) :: (b5, cb [.slice (some ⟨q, 0, none⟩) W.length c5] 26) :: (b3, cb (cP p) 25) :: (q, cb (W.map iV ++ sp) 3) :: ((bif m 10 then hl ++ [(t12, tabO 3 m12), (m12, .map es ck)] else [(t12, tabO 3 m12), (m12, .map #[] 0)]) ++ (bif m 14 then [(x14, cb (bif m 15 then cD out mine false else cD nilV false false) 37)] else []))) w1)
              refine J.pr (fun hF => ?_)
              (first | refine J.loadOA (vs := cP p) Ty.a25 Ty.s25 rfl (.head _) rfl rfl rfl ?_ | refine J.loadOA (vs := cP p) Ty.a25 Ty.s25 rfl (.tail _ (.head _)) rfl rfl rfl ?_ | refine J.loadOA (vs := cP p) Ty.a25 Ty.s25 rfl (.tail _ (.tail _ (.head _))) rfl rfl rfl ?_ | refine J.loadOA (vs := cP p) Ty.a25 Ty.s25 rfl (.tail _ (.tail _ (.tail _ (.head _)))) rfl rfl rfl ?_ | refine J.loadOA (vs := cP p) Ty.a25 Ty.s25 rfl (.tail _ (.tail _ (.tail _ (.tail _ (.head _))))) rfl rfl rfl ?_ | refine J.loadOA (vs := cP p) Ty.a25 Ty.s25 rfl (.tail _ (.tail _ (.tail _ (.tail _ (.tail _ (.head _)))))) rfl rfl rfl ?_ | refine J.loadOA (vs := cP p) Ty.a25 Ty.s25 rfl (.tail _ (.tail _ (.tail _ (.tail _ (.tail _ (.tail _ (.head _))))))) rfl rfl rfl ?_ | refine J.loadOA (vs := cP p) Ty.a25 Ty.s25 rfl (.tail _ (.tail _ (.tail _ (.tail _ (.tail _ (.tail _ (.tail _ (.head _)))))))) rfl rfl rfl ?_ | refine J.loadOA (vs := cP p) Ty.a25 Ty.s25 rfl (.tail _ (.tail _ (.tail _ (.tail _ (.tail _ (.tail _ (.tail _ (.tail _ (.head _))))))))) rfl rfl rfl ?_ | refine J.loadOA (vs := cP p) Ty.a25 Ty.s25 rfl (.tail _ (.tail _ (.tail _ (.tail _ (.tail _ (.tail _ (.tail _ (.tail _ (.tail _ (.head _)))))))))) rfl rfl rfl ?_ | refine J.loadOA (vs := cP p) Ty.a25 Ty.s25 rfl (.tail _ (.tail _ (.tail _ (.tail _ (.tail _ (.tail _ (.tail _ (.tail _ (.tail _ (.tail _ (.head _))))))))))) rfl rfl rfl ?_ | refine J.loadOA (vs := cP p) Ty.a25 Ty.s25 rfl (.tail _ (.tail _ (.tail _ (.tail _ (.tail _ (.tail _ (.tail _ (.tail _ (.tail _ (.tail _ (.tail _ (.head _)))))))))))) rfl rfl rfl ?_ | refine J.loadOA (vs := cP p) Ty.a25 Ty.s25 rfl (List.mem_append_right _ (.head _)) rfl rfl rfl ?_ | refine J.loadOA (vs := cP p) Ty.a25 Ty.s25 rfl (List.mem_append_right _ (.tail _ (.head _))) rfl rfl rfl ?_ | refine J.loadOA (vs := cP p) Ty.a25 Ty.s25 rfl (List.mem_append_right _ (.tail _ (.tail _ (.head _)))) rfl rfl rfl ?_ | refine J.loadOA (vs := cP p) Ty.a25 Ty.s25 rfl (List.mem_append_right _ (.tail _ (.tail _ (.tail _ (.head _))))) rfl rfl rfl ?_ | refine J.loadOA (vs := cP p) Ty.a25 Ty.s25 rfl (List.mem_append_right _ (.tail _ (.tail _ (.tail _ (.tail _ (.head _)))))) rfl rfl rfl ?_ | refine J.loadOA (vs := cP p) Ty.a25 Ty.s25 rfl (List.mem_append_right _ (.tail _ (.tail _ (.tail _ (.tail _ (.tail _ (.head _))))))) rfl rfl rfl ?_ | refine J.loadOA (vs := cP p) Ty.a25 Ty.s25 rfl (List.mem_append_right _ (.tail _ (.tail _ (.tail _ (.tail _ (.tail _ (.tail _ (.head _)))))))) rfl rfl rfl ?_ | refine J.loadOA (vs := cP p) Ty.a25 Ty.s25 rfl (List.mem_append_right _ (.tail _ (.tail _ (.tail _ (.tail _ (.tail _ (.tail _ (.tail _ (.head _))))))))) rfl rfl rfl ?_ | refine J.loadOA (vs := cP p) Ty.a25 Ty.s25 rfl (List.mem_append_right _ (.tail _ (.tail _ (.tail _ (.tail _ (.tail _ (.tail _ (.tail _ (.tail _ (.head _)))))))))) rfl rfl rfl ?_ | refine J.loadOA (vs := cP p) Ty.a25 Ty.s25 rfl (List.mem_append_right _ (.tail _ (.tail _ (.tail _ (.tail _ (.tail _ (.tail _ (.tail _ (.tail _ (.tail _ (.head _))))))))))) rfl rfl rfl ?_ | refine J.loadOA (vs := cP p) Ty.a25 Ty.s25 rfl (List.mem_append_right _ (.tail _ (.tail _ (.tail _ (.tail _ (.tail _ (.tail _ (.tail _ (.tail _ (.tail _ (.tail _ (.head _)))))))))))) rfl rfl rfl ?_ | refine J.loadOA (vs := cP p) Ty.a25 Ty.s25 rfl (List.mem_append_right _ (.tail _ (.tail _ (.tail _ (.tail _ (.tail _ (.tail _ (.tail _ (.tail _ (.tail _ (.tail _ (.tail _ (.head _))))))))))))) rfl rfl rfl ?_)
              exact J.nil (JX.finB rfl (fun w1 hw => ⟨⟨⟨out, mine, hl, es, ck, x14⟩, rfl, fun _ _ _ => rfl, hF, hw⟩, trivial⟩))
            · skip
              obtain ⟨out, mine, hl, es, ck, x14⟩ := x
              show J _ _ _ _ _ (_) (fun w1 => ((m 11 = true → m 10 = true) ∧ (m 12 = true → m 10 = true) ∧ (m 15 = true → m 10 = true) ∧ (m 15 = true → m 14 = true) ∧ (m 10 = true → (HopAt W 1 p (idW n0) (idW nl) out mine hl ∧ mine = true ∧ Tab [(⟨p, idW n0, idW nl, -1, nbW W 0⟩ : EV)] es ck))) ∧ St w [] ((x7, cb (cI (idW n0)) 23) :: (x8, cb (cI (idW nl)) 23) :: (b50, cb (OP6.map bV) 4) :: (b5, cb [.slice (some ⟨q, 0, none⟩) W.length c5] 26) :: (b3, cb (cP p) 25) :: (q, cb (W.map iV ++ sp) 3) :: ((bif m 10 then hl ++ [(t12, tabO 3 m12), (m12, .map es ck)] else [(t12, tabO 3 m12), (m12, .map #[] 0)]) ++ (bif m 14 then [(x14, cb (bif m 15 then cD out mine false else cD nilV false false) 37)] else []))) w1)
              refine J.pr (fun hF => ?_)
              (first | refine J.loadOA (vs := cI (idW nl)) Ty.a23 Ty.s23 rfl (.head _) rfl rfl rfl ?_ | refine J.loadOA (vs := cI (idW nl)) Ty.a23 Ty.s23 rfl (.tail _ (.head _)) rfl rfl rfl ?_ | refine J.loadOA (vs := cI (idW nl)) Ty.a23 Ty.s23 rfl (.tail _ (.tail _ (.head _))) rfl rfl rfl ?_ | refine J.loadOA (vs := cI (idW nl)) Ty.a23 Ty.s23 rfl (.tail _ (.tail _ (.tail _ (.head _)))) rfl rfl rfl ?_ | refine J.loadOA (vs := cI (idW nl)) Ty.a23 Ty.s23 rfl (.tail _ (.tail _ (.tail _ (.tail _ (.head _))))) rfl rfl rfl ?_ | refine J.loadOA (vs := cI (idW nl)) Ty.a23 Ty.s23 rfl (.tail _ (.tail _ (.tail _ (.tail _ (.tail _ (.head _)))))) rfl rfl rfl ?_ | refine J.loadOA (vs := cI (idW nl)) Ty.a23 Ty.s23 rfl (.tail _ (.tail _ (.tail _ (.tail _ (.tail _ (.tail _ (.head _))))))) rfl rfl rfl ?_ | refine J.loadOA (vs := cI (idW nl)) Ty.a23 Ty.s23 rfl (.tail _ (.tail _ (.tail _ (.tail _ (.tail _ (.tail _ (.tail _ (.head _)))))))) rfl rfl rfl ?_ | refine J.loadOA (vs := cI (idW nl)) Ty.a23 Ty.s23 rfl (.tail _ (.tail _ (.tail _ (.tail _ (.tail _ (.tail _ (.tail _ (.tail _ (.head _))))))))) rfl rfl rfl ?_ | refine J.loadOA (vs := cI (idW nl)) Ty.a23 Ty.s23 rfl (.tail _ (.tail _ (.tail _ (.tail _ (.tail _ (.tail _ (.tail _ (.tail _ (.tail _ (.head _)))))))))) rfl rfl rfl ?_ | refine J.loadOA (vs := cI (idW nl)) Ty.a23 Ty.s23 rfl (.tail _ (.tail _ (.tail _ (.tail _ (.tail _ (.tail _ (.tail _ (.tail _ (.tail _ (.tail _ (.head _))))))))))) rfl rfl rfl ?_ | refine J.loadOA (vs := cI (idW nl)) Ty.a23 Ty.s23 rfl (.tail _ (.tail _ (.tail _ (.tail _ (.tail _ (.tail _ (.tail _ (.tail _ (.tail _ (.tail _ (.tail _ (.head _)))))))))))) rfl rfl rfl ?_ | refine J.loadOA (vs := cI (idW nl)) Ty.a23 Ty.s23 rfl (List.mem_append_right _ (.head _)) rfl rfl rfl ?_ | refine J.loadOA (vs := cI (idW nl)) Ty.a23 Ty.s23 rfl (List.mem_append_right _ (.tail _ (.head _))) rfl rfl rfl ?_ | refine J.loadOA (vs := cI (idW nl)) Ty.a23 Ty.s23 rfl (List.mem_append_right _ (.tail _ (.tail _ (.head _)))) rfl rfl rfl ?_ | refine J.loadOA (vs := cI (idW nl)) Ty.a23 Ty.s23 rfl (List.mem_append_right _ (.tail _ (.tail _ (.tail _ (.head _))))) rfl rfl rfl ?_ | refine J.loadOA (vs := cI (idW nl)) Ty.a23 Ty.s23 rfl (List.mem_append_right _ (.tail _ (.tail _ (.tail _ (.tail _ (.head _)))))) rfl rfl rfl ?_ | refine J.loadOA (vs := cI (idW nl)) Ty.a23 Ty.s23 rfl (List.mem_append_right _ (.tail _ (.tail _ (.tail _ (.tail _ (.tail _ (.head _))))))) rfl rfl rfl ?_ | refine J.loadOA (vs := cI (idW nl)) Ty.a23 Ty.s23 rfl (List.mem_append_right _ (.tail _ (.tail _ (.tail _ (.tail _ (.tail _ (.tail _ (.head _)))))))) rfl rfl rfl ?_ | refine J.loadOA (vs := cI (idW nl)) Ty.a23 Ty.s23 rfl (List.mem_append_right _ (.tail _ (.tail _ (.tail _ (.tail _ (.tail _ (.tail _ (.tail _ (.head _))))))))) rfl rfl rfl ?_ | refine J.loadOA (vs := cI (idW nl)) Ty.a23 Ty.s23 rfl (List.mem_append_right _ (.tail _ (.tail _ (.tail _ (.tail _ (.tail _ (.tail _ (.tail _ (.tail _ (.head _)))))))))) rfl rfl rfl ?_ | refine J.loadOA (vs := cI (idW nl)) Ty.a23 Ty.s23 rfl (List.mem_append_right _ (.tail _ (.tail _ (.tail _ (.tail _ (.tail _ (.tail _ (.tail _ (.tail _ (.tail _ (.head _))))))))))) rfl rfl rfl ?_ | refine J.loadOA (vs := cI (idW nl)) Ty.a23 Ty.s23 rfl (List.mem_append_right _ (.tail _ (.tail _ (.tail _ (.tail _ (.tail _ (.tail _ (.tail _ (.tail _ (.tail _ (.tail _ (.head _)))))))))))) rfl rfl rfl ?_ | refine J.loadOA (vs := cI (idW nl)) Ty.a23 Ty.s23 rfl (List.mem_append_right _ (.tail _ (.tail _ (.tail _ (.tail _ (.tail _ (.tail _ (.tail _ (.tail _ (.tail _ (.tail _ (.tail _ (.head _))))))))))))) rfl rfl rfl ?_)
              exact J.nil (JX.finB rfl (fun w1 hw => ⟨⟨⟨out, mine, hl, es, ck, x14⟩, rfl, fun _ _ _ => rfl, hF, hw⟩, trivial⟩))
            · skip
              obtain ⟨out, mine, hl, es, ck, x14⟩ := x
              show J _ _ _ _ _ (_) (fun w1 => ((m 11 = true → m 10 = true) ∧ (m 12 = true → m 10 = true) ∧ (m 15 = true → m 10 = true) ∧ (m 15 = true → m 14 = true) ∧ (m 10 = true → (HopAt W 1 p (idW n0) (idW nl) out mine hl ∧ mine = true ∧ Tab [(⟨p, idW n0, idW nl, -1, nbW W 0⟩ : EV)] es ck))) ∧ St w [] ((x7, cb (cI (idW n0)) 23) :: (x8, cb (cI (idW nl)) 23) :: (b50, cb (OP6.map bV) 4) :: (b5, cb [.slice (some ⟨q, 0, none⟩) W.length c5] 26) :: (b3, cb (cP p) 25) :: (q, cb (W.map iV ++ sp) 3) :: ((bif m 10 then hl ++ [(t12, tabO 3 m12), (m12, .map es ck)] else [(t12, tabO 3 m12), (m12, .map #[] 0)]) ++ (bif m 14 then [(x14, cb (bif m 15 then cD out mine false else cD nilV false false) 37)] else []))) w1)
              refine J.pr (fun hF => ?_)
              (first | refine J.loadO Ty.a26 rfl (.head _) rfl rfl ?_ | refine J.loadO Ty.a26 rfl (.tail _ (.head _)) rfl rfl ?_ | refine J.loadO Ty.a26 rfl (.tail _ (.tail _ (.head _))) rfl rfl ?_ | refine J.loadO Ty.a26 rfl (.tail _ (.tail _ (.tail _ (.head _)))) rfl rfl ?_ | refine J.loadO Ty.a26 rfl (.tail _ (.tail _ (.tail _ (.tail _ (.head _))))) rfl rfl ?_ | refine J.loadO Ty.a26 rfl (.tail _ (.tail _ (.tail _ (.tail _ (.tail _ (.head _)))))) rfl rfl ?_ | refine J.loadO Ty.a26 rfl (.tail _ (.tail _ (.tail _ (.tail _ (.tail _ (.tail _ (.head _))))))) rfl rfl ?_ | refine J.loadO Ty.a26 rfl (.tail _ (.tail _ (.tail _ (.tail _ (.tail _ (.tail _ (.tail _ (.head _)))))))) rfl rfl ?_ | refine J.loadO Ty.a26 rfl (.tail _ (.tail _ (.tail _ (.tail _ (.tail _ (.tail _ (.tail _ (.tail _ (.head _))))))))) rfl rfl ?_ | refine J.loadO Ty.a26 rfl (.tail _ (.tail _ (.tail _ (.tail _ (.tail _ (.tail _ (.tail _ (.tail _ (.tail _ (.head _)))))))))) rfl rfl ?_ | refine J.loadO Ty.a26 rfl (.tail _ (.tail _ (.tail _ (.tail _ (.tail _ (.tail _ (.tail _ (.tail _ (.tail _ (.tail _ (.head _))))))))))) rfl rfl ?_ | refine J.loadO Ty.a26 rfl (.tail _ (.tail _ (.tail _ (.tail _ (.tail _ (.tail _ (.tail _ (.tail _ (.tail _ (.tail _ (.tail _ (.head _)))))))))))) rfl rfl ?_ | refine J.loadO Ty.a26 rfl (List.mem_append_right _ (.head _)) rfl rfl ?_ | refine J.loadO Ty.a26 rfl (List.mem_append_right _ (.tail _ (.head _))) rfl rfl ?_ | refine J.loadO Ty.a26 rfl (List.mem_append_right _ (.tail _ (.tail _ (.head _)))) rfl rfl ?_ | refine J.loadO Ty.a26 rfl (List.mem_append_right _ (.tail _ (.tail _ (.tail _ (.head _))))) rfl rfl ?_ | refine J.loadO Ty.a26 rfl (List.mem_append_right _ (.tail _ (.tail _ (.tail _ (.tail _ (.head _)))))) rfl rfl ?_ | refine J.loadO Ty.a26 rfl (List.mem_append_right _ (.tail _ (.tail _ (.tail _ (.tail _ (.tail _ (.head _))))))) rfl rfl ?_ | refine J.loadO Ty.a26 rfl (List.mem_append_right _ (.tail _ (.tail _ (.tail _ (.tail _ (.tail _ (.tail _ (.head _)))))))) rfl rfl ?_ | refine J.loadO Ty.a26 rfl (List.mem_append_right _ (.tail _ (.tail _ (.tail _ (.tail _ (.tail _ (.tail _ (.tail _ (.head _))))))))) rfl rfl ?_ | refine J.loadO Ty.a26 rfl (List.mem_append_right _ (.tail _ (.tail _ (.tail _ (.tail _ (.tail _ (.tail _ (.tail _ (.tail _ (.head _)))))))))) rfl rfl ?_ | refine J.loadO Ty.a26 rfl (List.mem_append_right _ (.tail _ (.tail _ (.tail _ (.tail _ (.tail _ (.tail _ (.tail _ (.tail _ (.tail _ (.head _))))))))))) rfl rfl ?_ | refine J.loadO Ty.a26 rfl (List.mem_append_right _ (.tail _ (.tail _ (.tail _ (.tail _ (.tail _ (.tail _ (.tail _ (.tail _ (.tail _ (.tail _ (.head _)))))))))))) rfl rfl ?_ | refine J.loadO Ty.a26 rfl (List.mem_append_right _ (.tail _ (.tail _ (.tail _ (.tail _ (.tail _ (.tail _ (.tail _ (.tail _ (.tail _ (.tail _ (.tail _ (.head _))))))))))))) rfl rfl ?_)
              exact J.nil (JX.finB rfl (fun w1 hw => ⟨⟨⟨out, mine, hl, es, ck, x14⟩, rfl, fun _ _ _ => rfl, hF, hw⟩, trivial⟩))
            · skip
              obtain ⟨out, mine, hl, es, ck, x14⟩ := x
              show J _ _ _ _ _ (_) (fun w1 => ((m 11 = true → m 10 = true) ∧ (m 12 = true → m 10 = true) ∧ (m 15 = true → m 10 = true) ∧ (m 15 = true → m 14 = true) ∧ (m 10 = true → (HopAt W 1 p (idW n0) (idW nl) out mine hl ∧ mine = true ∧ Tab [(⟨p, idW n0, idW nl, -1, nbW W 0⟩ : EV)] es ck))) ∧ St w [] ((x7, cb (cI (idW n0)) 23) :: (x8, cb (cI (idW nl)) 23) :: (b50, cb (OP6.map bV) 4) :: (b5, cb [.slice (some ⟨q, 0, none⟩) W.length c5] 26) :: (b3, cb (cP p) 25) :: (q, cb (W.map iV ++ sp) 3) :: ((bif m 10 then hl ++ [(t12, tabO 3 m12), (m12, .map es ck)] else [(t12, tabO 3 m12), (m12, .map #[] 0)]) ++ (bif m 14 then [(x14, cb (bif m 15 then cD out mine false else cD nilV false false) 37)] else []))) w1)
              refine J.pr (fun hF => ?_)
              refine J.move rfl rfl ?_
              exact J.nil (JX.finB rfl (fun w1 hw => ⟨⟨⟨out, mine, hl, es, ck, x14⟩, rfl, fun _ _ _ => rfl, hF, hw⟩, trivial⟩))
            · skip
              obtain ⟨out, mine, hl, es, ck, x14⟩ := x
              show J _ _ _ _ _ ((70, .slice (some ⟨b50, 0, none⟩) 6 6) :: (69, .slice (some ⟨q, 0, none⟩) W.length c5) :: (68, .agg (cI (idW nl)).toArray) :: (67, .agg (cP p).toArray) :: (66, .agg (cW n0 (idW n0)).toArray) :: (61, .pointer (some ⟨t12, 0, none⟩)) :: _) (fun w1 => ((m 11 = true → m 10 = true) ∧ (m 12 = true → m 10 = true) ∧ (m 15 = true → m 10 = true) ∧ (m 15 = true → m 14 = true) ∧ (m 10 = true → (HopAt W 1 p (idW n0) (idW nl) out mine hl ∧ mine = true ∧ Tab [(⟨p, idW n0, idW nl, -1, nbW W 0⟩ : EV)] es ck))) ∧ St w [] ((x7, cb (cI (idW n0)) 23) :: (x8, cb (cI (idW nl)) 23) :: (b50, cb (OP6.map bV) 4) :: (b5, cb [.slice (some ⟨q, 0, none⟩) W.length c5] 26) :: (b3, cb (cP p) 25) :: (q, cb (W.map iV ++ sp) 3) :: ((bif m 10 then hl ++ [(t12, tabO 3 m12), (m12, .map es ck)] else [(t12, tabO 3 m12), (m12, .map #[] 0)]) ++ (bif m 14 then [(x14, cb (bif m 15 then cD out mine false else cD nilV false false) 37)] else []))) w1)
              refine J.pr (fun hF => ?_)
              have h15 : m 15 = false := by cases h : m 15 with
                | false => rfl
                | true => rw [hF.2.2.1 h] at hm; cases hm
              refine J.conseq (I' := St w [] ([(t12, tabO 3 m12), (m12, .map #[] 0)] ++ ((x7, cb (cI (idW n0)) 23) :: (x8, cb (cI (idW nl)) 23) :: (b50, cb (OP6.map bV) 4) :: (b5, cb [.slice (some ⟨q, 0, none⟩) W.length c5] 26) :: (b3, cb (cP p) 25) :: (q, cb (W.map iV ++ sp) 3) :: (bif m 14 then [(x14, cb (bif m 15 then cD out mine false else cD nilV false false) 37)] else [])))) ?_ (fun w1 hw => by simp only [hm, cond_true, cond_false] at hw; exact hw.perm (by (refine perm_cnt (fun _ => ?_)); simp only [cntB_append, cntB_cons, cntB_nil, Nat.add_zero, Nat.zero_add]; try ac_rfl))
              refine J.callS (α := WX) (V := fun x => .tuple #[.agg (cD x.out x.mine false).toArray, .int .i64 0]) (Pr := fun x => HopAt W 1 p (idW n0) (idW nl) x.out x.mine x.hl ∧ x.mine = true ∧ Tab [(⟨p, idW n0, idW nl, -1, nbW W 0⟩ : EV)] x.es x.ck) (L := fun x => x.hl ++ [(t12, tabO 3 m12), (m12, .map x.es x.ck)]) (l1 := [(t12, tabO 3 m12), (m12, .map #[] 0)]) Ty.bd18 rfl rfl
                (fun w1 hw => start_whole t12 m12 w1 hw.owns W hnd hran h6 (by omega) p hkp n0 nl hn0 hnl q c5 (Row.own hw (.tail _ (.tail _ (.tail _ (.tail _ (.tail _ (.tail _ (.tail _ (.head _)))))))) (by rw [List.drop_zero, List.take_append_of_le_length (by simp), List.take_of_length_le (by simp)]) hcq) (Off.mk (hw.off (l1 := [(t12, tabO 3 m12), (m12, .map #[] 0)]) (.tail _ (.tail _ (.tail _ (.tail _ (.tail _ (.head _)))))))) (.slice (some ⟨b50, 0, none⟩) 6 6) (Row.own hw (.tail _ (.tail _ (.tail _ (.tail _ (.head _))))) rfl (Nat.le_refl _)) (Off.mk (hw.off (l1 := [(t12, tabO 3 m12), (m12, .map #[] 0)]) (.tail _ (.tail _ (.head _)))))) (fun x hx => ?_)
              obtain ⟨outn, minen, hln, esn, ckn⟩ := x
              simp only at hx ⊢
              refine J.nil (JX.finB rfl (fun w1 hw => ⟨⟨⟨outn, minen, hln, esn, ckn, x14⟩, rfl, fun j h1 h2 => ?_, ?_⟩, trivial⟩))
              · match j, h1 with
                | 0, _ => rfl
                | 1, _ => rfl
                | 2, _ => rfl
                | 3, _ => rfl
                | 4, _ => rfl
                | 5, _ => rfl
                | 6, _ => rfl
                | 7, _ => rfl
                | 8, _ => rfl
                | 9, _ => rfl
                | 10, _ => exact absurd (h2.symm.trans hm) (by decide)
                | 11, _ => exact absurd ((hF.1 h2).symm.trans hm) (by decide)
                | 12, _ => exact absurd ((hF.2.1 h2).symm.trans hm) (by decide)
                | 13, _ => rfl
                | 14, _ => rfl
                | 15, _ => rfl
                | j + 16, h1 => omega
              show ((m 11 = true → true = true) ∧ (m 12 = true → true = true) ∧ (m 15 = true → true = true) ∧ (m 15 = true → m 14 = true) ∧ (true = true → (HopAt W 1 p (idW n0) (idW nl) outn minen hln ∧ minen = true ∧ Tab [(⟨p, idW n0, idW nl, -1, nbW W 0⟩ : EV)] esn ckn))) ∧ St w [] ((x7, cb (cI (idW n0)) 23) :: (x8, cb (cI (idW nl)) 23) :: (b50, cb (OP6.map bV) 4) :: (b5, cb [.slice (some ⟨q, 0, none⟩) W.length c5] 26) :: (b3, cb (cP p) 25) :: (q, cb (W.map iV ++ sp) 3) :: ((bif true then hln ++ [(t12, tabO 3 m12), (m12, .map esn ckn)] else [(t12, tabO 3 m12), (m12, .map #[] 0)]) ++ (bif m 14 then [(x14, cb (bif m 15 then cD outn minen false else cD nilV false false) 37)] else []))) w1
              refine ⟨⟨fun _ => rfl, fun _ => rfl, fun _ => rfl, hF.2.2.2.1, fun _ => hx⟩, ?_⟩
              simp only [h15, cond_true, cond_false] at hw ⊢
              exact hw.perm (by (refine perm_cnt (fun _ => ?_)); simp only [cntB_append, cntB_cons, cntB_nil, Nat.add_zero, Nat.zero_add]; try ac_rfl)
            · skip
              obtain ⟨out, mine, hl, es, ck, x14⟩ := x
              show J _ _ _ _ _ ((71, .tuple #[.agg (cD out mine false).toArray, .int .i64 0]) :: _) (fun w1 => ((m 11 = true → m 10 = true) ∧ (m 12 = true → m 10 = true) ∧ (m 15 = true → m 10 = true) ∧ (m 15 = true → m 14 = true) ∧ (m 10 = true → (HopAt W 1 p (idW n0) (idW nl) out mine hl ∧ mine = true ∧ Tab [(⟨p, idW n0, idW nl, -1, nbW W 0⟩ : EV)] es ck))) ∧ St w [] ((x7, cb (cI (idW n0)) 23) :: (x8, cb (cI (idW nl)) 23) :: (b50, cb (OP6.map bV) 4) :: (b5, cb [.slice (some ⟨q, 0, none⟩) W.length c5] 26) :: (b3, cb (cP p) 25) :: (q, cb (W.map iV ++ sp) 3) :: ((bif m 10 then hl ++ [(t12, tabO 3 m12), (m12, .map es ck)] else [(t12, tabO 3 m12), (m12, .map #[] 0)]) ++ (bif m 14 then [(x14, cb (bif m 15 then cD out mine false else cD nilV false false) 37)] else []))) w1)
              have hp10 : m 10 = true := predsT hp (by kernel_rfl)
              refine J.pr (fun hF => ?_)
              refine J.move rfl rfl ?_
              refine J.nil (JX.finB rfl (fun w1 hw => ⟨⟨⟨out, mine, hl, es, ck, x14⟩, rfl, fun j h1 h2 => ?_, ?_⟩, trivial⟩))
              · match j, h1 with
                | 0, _ => rfl
                | 1, _ => rfl
                | 2, _ => rfl
                | 3, _ => rfl
                | 4, _ => rfl
                | 5, _ => rfl
                | 6, _ => rfl
                | 7, _ => rfl
                | 8, _ => rfl
                | 9, _ => rfl
                | 10, _ => rfl
                | 11, _ => rfl
                | 12, _ => rfl
                | 13, _ => rfl
                | 14, _ => rfl
                | 15, _ => rfl
                | j + 16, h1 => omega
              show ((true = true → m 10 = true) ∧ (m 12 = true → m 10 = true) ∧ (m 15 = true → m 10 = true) ∧ (m 15 = true → m 14 = true) ∧ (m 10 = true → (HopAt W 1 p (idW n0) (idW nl) out mine hl ∧ mine = true ∧ Tab [(⟨p, idW n0, idW nl, -1, nbW W 0⟩ : EV)] es ck))) ∧ St w [] ((x7, cb (cI (idW n0)) 23) :: (x8, cb (cI (idW nl)) 23) :: (b50, cb (OP6.map bV) 4) :: (b5, cb [.slice (some ⟨q, 0, none⟩) W.length c5] 26) :: (b3, cb (cP p) 25) :: (q, cb (W.map iV ++ sp) 3) :: ((bif m 10 then hl ++ [(t12, tabO 3 m12), (m12, .map es ck)] else [(t12, tabO 3 m12), (m12, .map #[] 0)]) ++ (bif m 14 then [(x14, cb (bif m 15 then cD out mine false else cD nilV false false) 37)] else []))) w1
              exact ⟨⟨fun _ => hp10, hF.2⟩, hw⟩
            · skip
              obtain ⟨out, mine, hl, es, ck, x14⟩ := x
              show J _ _ _ _ _ ((60, .tuple #[.agg (cD out mine false).toArray, .int .i64 0]) :: _) (fun w1 => ((m 11 = true → m 10 = true) ∧ (m 12 = true → m 10 = true) ∧ (m 15 = true → m 10 = true) ∧ (m 15 = true → m 14 = true) ∧ (m 10 = true → (HopAt W 1 p (idW n0) (idW nl) out mine hl ∧ mine = true ∧ Tab [(⟨p, idW n0, idW nl, -1, nbW W 0⟩ : EV)] es ck))) ∧ St w [] ((x7, cb (cI (idW n0)) 23) :: (x8, cb (cI (idW nl)) 23) :: (b50, cb (OP6.map bV) 4) :: (b5, cb [.slice (some ⟨q, 0, none⟩) W.length c5] 26) :: (b3, cb (cP p) 25) :: (q, cb (W.map iV ++ sp) 3) :: ((bif m 10 then hl ++ [(t12, tabO 3 m12), (m12, .map es ck)] else [(t12, tabO 3 m12), (m12, .map #[] 0)]) ++ (bif m 14 then [(x14, cb (bif m 15 then cD out mine false else cD nilV false false) 37)] else []))) w1)
              have hp11 : m 11 = true := predsT hp (by kernel_rfl)
              refine J.pr (fun hF => ?_)
              refine J.extract rfl rfl rfl ?_
              refine J.nil (JX.finB rfl (fun w1 hw => ⟨⟨⟨out, mine, hl, es, ck, x14⟩, rfl, fun j h1 h2 => ?_, ?_⟩, trivial⟩))
              · match j, h1 with
                | 0, _ => rfl
                | 1, _ => rfl
                | 2, _ => rfl
                | 3, _ => rfl
                | 4, _ => rfl
                | 5, _ => rfl
                | 6, _ => rfl
                | 7, _ => rfl
                | 8, _ => rfl
                | 9, _ => rfl
                | 10, _ => rfl
                | 11, _ => rfl
                | 12, _ => rfl
                | 13, _ => rfl
                | 14, _ => rfl
                | 15, _ => rfl
                | j + 16, h1 => omega
              show ((m 11 = true → m 10 = true) ∧ (true = true → m 10 = true) ∧ (m 15 = true → m 10 = true) ∧ (m 15 = true → m 14 = true) ∧ (m 10 = true → (HopAt W 1 p (idW n0) (idW nl) out mine hl ∧ mine = true ∧ Tab [(⟨p, idW n0, idW nl, -1, nbW W 0⟩ : EV)] es ck))) ∧ St w [] ((x7, cb (cI (idW n0)) 23) :: (x8, cb (cI (idW nl)) 23) :: (b50, cb (OP6.map bV) 4) :: (b5, cb [.slice (some ⟨q, 0, none⟩) W.length c5] 26) :: (b3, cb (cP p) 25) :: (q, cb (W.map iV ++ sp) 3) :: ((bif m 10 then hl ++ [(t12, tabO 3 m12), (m12, .map es ck)] else [(t12, tabO 3 m12), (m12, .map #[] 0)]) ++ (bif m 14 then [(x14, cb (bif m 15 then cD out mine false else cD nilV false false) 37)] else []))) w1
              exact ⟨⟨hF.1, fun _ => hF.1 hp11, hF.2.2⟩, hw⟩
            · skip
              obtain ⟨out, mine, hl, es, ck, x14⟩ := x
              show J _ _ _ _ _ ((60, .tuple #[.agg (cD out mine false).toArray, .int .i64 0]) :: _) (fun w1 => ((m 11 = true → m 10 = true) ∧ (m 12 = true → m 10 = true) ∧ (m 15 = true → m 10 = true) ∧ (m 15 = true → m 14 = true) ∧ (m 10 = true → (HopAt W 1 p (idW n0) (idW nl) out mine hl ∧ mine = true ∧ Tab [(⟨p, idW n0, idW nl, -1, nbW W 0⟩ : EV)] es ck))) ∧ St w [] ((x7, cb (cI (idW n0)) 23) :: (x8, cb (cI (idW nl)) 23) :: (b50, cb (OP6.map bV) 4) :: (b5, cb [.slice (some ⟨q, 0, none⟩) W.length c5] 26) :: (b3, cb (cP p) 25) :: (q, cb (W.map iV ++ sp) 3) :: ((bif m 10 then hl ++ [(t12, tabO 3 m12), (m12, .map es ck)] else [(t12, tabO 3 m12), (m12, .map #[] 0)]) ++ (bif m 14 then [(x14, cb (bif m 15 then cD out mine false else cD nilV false false) 37)] else []))) w1)
              have hp11 : m 11 = true := predsT hp (by kernel_rfl)
              refine J.pr (fun hF => ?_)
              refine J.extract rfl rfl rfl ?_
              exact J.nil (JX.finB rfl (fun w1 hw => ⟨⟨⟨out, mine, hl, es, ck, x14⟩, rfl, fun _ _ _ => rfl, hF, hw⟩, trivial⟩))
            · skip
              obtain ⟨out, mine, hl, es, ck, x14⟩ := x
              show J _ _ _ _ _ (_) (fun w1 => ((m 11 = true → m 10 = true) ∧ (m 12 = true → m 10 = true) ∧ (m 15 = true → m 10 = true) ∧ (m 15 = true → m 14 = true) ∧ (m 10 = true → (HopAt W 1 p (idW n0) (idW nl) out mine hl ∧ mine = true ∧ Tab [(⟨p, idW n0, idW nl, -1, nbW W 0⟩ : EV)] es ck))) ∧ St w [] ((x7, cb (cI (idW n0)) 23) :: (x8, cb (cI (idW nl)) 23) :: (b50, cb (OP6.map bV) 4) :: (b5, cb [.slice (some ⟨q, 0, none⟩) W.length c5] 26) :: (b3, cb (cP p) 25) :: (q, cb (W.map iV ++ sp) 3) :: ((bif m 10 then hl ++ [(t12, tabO 3 m12), (m12, .map es ck)] else [(t12, tabO 3 m12), (m12, .map #[] 0)]) ++ (bif m 14 then [(x14, cb (bif m 15 then cD out mine false else cD nilV false false) 37)] else []))) w1)
              refine J.pr (fun hF => ?_)
              have h15 : m 15 = false := by cases h : m 15 with
                | false => rfl
                | true => rw [hF.2.2.2.1 h] at hm; cases hm
              refine J.alloc zN rfl rfl (fun b13 => ?_)
              refine J.nil (JX.finB rfl (fun w1 hw => ⟨⟨⟨out, mine, hl, es, ck, b13⟩, rfl, fun j h1 h2 => ?_, ?_⟩, trivial⟩))
              · match j, h1 with
                | 0, _ => rfl
                | 1, _ => rfl
                | 2, _ => rfl
                | 3, _ => rfl
                | 4, _ => rfl
                | 5, _ => rfl
                | 6, _ => rfl
                | 7, _ => rfl
                | 8, _ => rfl
                | 9, _ => rfl
                | 10, _ => rfl
                | 11, _ => rfl
                | 12, _ => rfl
                | 13, _ => rfl
                | 14, _ => exact absurd (h2.symm.trans hm) (by decide)
                | 15, _ => rfl
                | j + 16, h1 => omega
              show ((m 11 = true → m 10 = true) ∧ (m 12 = true → m 10 = true) ∧ (m 15 = true → m 10 = true) ∧ (m 15 = true → true = true) ∧ (m 10 = true → (HopAt W 1 p (idW n0) (idW nl) out mine hl ∧ mine = true ∧ Tab [(⟨p, idW n0, idW nl, -1, nbW W 0⟩ : EV)] es ck))) ∧ St w [] ((x7, cb (cI (idW n0)) 23) :: (x8, cb (cI (idW nl)) 23) :: (b50, cb (OP6.map bV) 4) :: (b5, cb [.slice (some ⟨q, 0, none⟩) W.length c5] 26) :: (b3, cb (cP p) 25) :: (q, cb (W.map iV ++ sp) 3) :: ((bif m 10 then hl ++ [(t12, tabO 3 m12), (m12, .map es ck)] else [(t12, tabO 3 m12), (m12, .map #[] 0)]) ++ (bif true then [(b13, cb (bif m 15 then cD out mine false else cD nilV false false) 37)] else []))) w1
              refine ⟨⟨hF.1, hF.2.1, hF.2.2.1, fun _ => rfl, hF.2.2.2.2⟩, ?_⟩
              simp only [hm, h15, cond_true, cond_false] at hw ⊢
              exact hw.perm (by (refine perm_cnt (fun _ => ?_)); simp only [cntB_append, cntB_cons, cntB_nil, Nat.add_zero, Nat.zero_add]; try ac_rfl)
            · skip
              obtain ⟨out, mine, hl, es, ck, x14⟩ := x
              show J _ _ _ _ _ ((13, .pointer (some ⟨x14, 0, none⟩)) :: (72, .agg (cD out mine false).toArray) :: (60, .tuple #[.agg (cD out mine false).toArray, .int .i64 0]) :: (71, .tuple #[.agg (cD out mine false).toArray, .int .i64 0]) :: (70, .slice (some ⟨b50, 0, none⟩) 6 6) :: (69, .slice (some ⟨q, 0, none⟩) W.length c5) :: (68, .agg (cI (idW nl)).toArray) :: (67, .agg (cP p).toArray) :: (66, .agg (cW n0 (idW n0)).toArray) :: (65, .agg (cI (idW n0)).toArray) :: (64, iV n0) :: (63, .pointer (some ⟨q, 0 + (0 : Int).toNat * 1, none⟩)) :: (62, .slice (some ⟨q, 0, none⟩) W.length c5) :: (61, .pointer (some ⟨t12, 0, none⟩)) :: (71, .tuple #[.agg (cD out mine false).toArray, .int .i64 0]) :: (72, .agg (cD out mine false).toArray) :: (13, .pointer (some ⟨x14, 0, none⟩)) :: _) (fun w1 => ((m 11 = true → m 10 = true) ∧ (m 12 = true → m 10 = true) ∧ (m 15 = true → m 10 = true) ∧ (m 15 = true → m 14 = true) ∧ (m 10 = true → (HopAt W 1 p (idW n0) (idW nl) out mine hl ∧ mine = true ∧ Tab [(⟨p, idW n0, idW nl, -1, nbW W 0⟩ : EV)] es ck))) ∧ St w [] ((x7, cb (cI (idW n0)) 23) :: (x8, cb (cI (idW nl)) 23) :: (b50, cb (OP6.map bV) 4) :: (b5, cb [.slice (some ⟨q, 0, none⟩) W.length c5] 26) :: (b3, cb (cP p) 25) :: (q, cb (W.map iV ++ sp) 3) :: ((bif m 10 then hl ++ [(t12, tabO 3 m12), (m12, .map es ck)] else [(t12, tabO 3 m12), (m12, .map #[] 0)]) ++ (bif m 14 then [(x14, cb (bif m 15 then cD out mine false else cD nilV false false) 37)] else []))) w1)
              have hp14 : m 14 = true := predsT hp (by kernel_rfl)
              have hp12 : m 12 = true := predsT hp (by kernel_rfl)
              have hp10 : m 10 = true := predsT hp (by kernel_rfl)
              have hp10 : m 10 = true := predsT hp (by kernel_rfl)
              have hp11 : m 11 = true := predsT hp (by kernel_rfl)
              have hp12 : m 12 = true := predsT hp (by kernel_rfl)
              have hp14 : m 14 = true := predsT hp (by kernel_rfl)
              refine J.pr (fun hF => ?_)
              have hp10 : m 10 = true := hF.2.1 hp12
              have hone := (hF.2.2.2.2 hp10).1.one
              refine J.conseq (I' := St w [] ((x14, cb (cD nilV false false) 37) :: ((x7, cb (cI (idW n0)) 23) :: (x8, cb (cI (idW nl)) 23) :: (b50, cb (OP6.map bV) 4) :: (b5, cb [.slice (some ⟨q, 0, none⟩) W.length c5] 26) :: (b3, cb (cP p) 25) :: (q, cb (W.map iV ++ sp) 3) :: (bif m 10 then hl ++ [(t12, tabO 3 m12), (m12, .map es ck)] else [(t12, tabO 3 m12), (m12, .map #[] 0)])))) ?_ (fun w1 hw => by simp only [hm, hp14, cond_true, cond_false] at hw; exact hw.perm (by (refine perm_cnt (fun _ => ?_)); simp only [cntB_append, cntB_cons, cntB_nil, Nat.add_zero, Nat.zero_add]; try ac_rfl))
              refine J.storeW (cs := cD nilV false false) (vs := cD out mine false) Ty.s37 rfl rfl rfl rfl rfl (cD_one hone) .here ?_
              refine J.nil (JX.finN undef (fun w1 hw => ⟨⟨out, mine, hl, es, ck, x14⟩, rfl, fun j h1 h2 => ?_, ?_⟩))
              · match j, h1 with
                | 0, _ => rfl
                | 1, _ => rfl
                | 2, _ => rfl
                | 3, _ => rfl
                | 4, _ => rfl
                | 5, _ => rfl
                | 6, _ => rfl
                | 7, _ => rfl
                | 8, _ => rfl
                | 9, _ => rfl
                | 10, _ => rfl
                | 11, _ => rfl
                | 12, _ => rfl
                | 13, _ => rfl
                | 14, _ => rfl
                | 15, _ => rfl
                | j + 16, h1 => omega
              show ((m 11 = true → m 10 = true) ∧ (m 12 = true → m 10 = true) ∧ (true = true → m 10 = true) ∧ (true = true → m 14 = true) ∧ (m 10 = true → (HopAt W 1 p (idW n0) (idW nl) out mine hl ∧ mine = true ∧ Tab [(⟨p, idW n0, idW nl, -1, nbW W 0⟩ : EV)] es ck))) ∧ St w [] ((x7, cb (cI (idW n0)) 23) :: (x8, cb (cI (idW nl)) 23) :: (b50, cb (OP6.map bV) 4) :: (b5, cb [.slice (some ⟨q, 0, none⟩) W.length c5] 26) :: (b3, cb (cP p) 25) :: (q, cb (W.map iV ++ sp) 3) :: ((bif m 10 then hl ++ [(t12, tabO 3 m12), (m12, .map es ck)] else [(t12, tabO 3 m12), (m12, .map #[] 0)]) ++ (bif m 14 then [(x14, cb (bif true then cD out mine false else cD nilV false false) 37)] else []))) w1
              refine ⟨⟨hF.1, hF.2.1, fun _ => hp10, fun _ => hp14, hF.2.2.2.2⟩, ?_⟩
              simp only [hp14, cond_true]
              exact hw.perm (by (refine perm_cnt (fun _ => ?_)); simp only [cntB_append, cntB_cons, cntB_nil, Nat.add_zero, Nat.zero_add]; try ac_rfl)
          case htail =>
            intro x
            obtain ⟨out, mine, hl, es, ck, x14⟩ := x
            show J _ _ _ _ _ ((13, .pointer (some ⟨x14, 0, none⟩)) :: (73, .int .i64 0) :: (72, .agg (cD out mine false).toArray) :: (60, .tuple #[.agg (cD out mine false).toArray, .int .i64 0]) :: (71, .tuple #[.agg (cD out mine false).toArray, .int .i64 0]) :: (70, .slice (some ⟨b50, 0, none⟩) 6 6) :: (69, .slice (some ⟨q, 0, none⟩) W.length c5) :: (68, .agg (cI (idW nl)).toArray) :: (67, .agg (cP p).toArray) :: (66, .agg (cW n0 (idW n0)).toArray) :: (65, .agg (cI (idW n0)).toArray) :: (64, iV n0) :: (63, .pointer (some ⟨q, 0 + (0 : Int).toNat * 1, none⟩)) :: (62, .slice (some ⟨q, 0, none⟩) W.length c5) :: (61, .pointer (some ⟨t12, 0, none⟩)) :: _) (fun w1 => ((true = true → true = true) ∧ (true = true → true = true) ∧ (true = true → true = true) ∧ (true = true → true = true) ∧ (true = true → (HopAt W 1 p (idW n0) (idW nl) out mine hl ∧ mine = true ∧ Tab [(⟨p, idW n0, idW nl, -1, nbW W 0⟩ : EV)] es ck))) ∧ St w [] ((x7, cb (cI (idW n0)) 23) :: (x8, cb (cI (idW nl)) 23) :: (b50, cb (OP6.map bV) 4) :: (b5, cb [.slice (some ⟨q, 0, none⟩) W.length c5] 26) :: (b3, cb (cP p) 25) :: (q, cb (W.map iV ++ sp) 3) :: ((bif true then hl ++ [(t12, tabO 3 m12), (m12, .map es ck)] else [(t12, tabO 3 m12), (m12, .map #[] 0)]) ++ (bif true then [(x14, cb (bif true then cD out mine false else cD nilV false false) 37)] else []))) w1)
            refine J.pr (fun hF => ?_)
            obtain ⟨hH, rfl, hT⟩ := hF.2.2.2.2 rfl
            refine J.conseq (I' := St w [] ((x14, cb (cD out true false) 37) :: (t12, tabO 3 m12) :: (m12, .map es ck) :: (x7, cb (cI (idW n0)) 23) :: (x8, cb (cI (idW nl)) 23) :: (b50, cb (OP6.map bV) 4) :: (b5, cb [.slice (some ⟨q, 0, none⟩) W.length c5] 26) :: (b3, cb (cP p) 25) :: (q, cb (W.map iV ++ sp) 3) :: hl)) ?_ (fun w1 hw => by simp only [cond_true] at hw; exact hw.perm (by (refine perm_cnt (fun _ => ?_)); simp only [cntB_append, cntB_cons, cntB_nil, Nat.add_zero, Nat.zero_add]; try ac_rfl))
            refine J.assign rfl rfl ?_
            refine J.nil ?_
            refine JX.thenN (hK16 _ _ ?_)
            refine JC.seq (fun K17 hK17 => ?_)
            refine JC.seq (fun K18 hK18 => ?_)
            refine JC.region ?_
            refine J.move rfl rfl ?_
            refine J.bin rfl rfl rfl rfl ?_
            refine J.move rfl rfl ?_
            first
              | (refine J.skip rfl rfl rfl rfl rfl ?_)
              | (refine J.skipU rfl rfl rfl rfl ?_)
              | (refine J.unguard rfl rfl rfl ?_; refine J.fieldAddr Ty.fd37_1 rfl rfl ?_)
            first
              | (refine J.skip rfl rfl rfl rfl rfl ?_)
              | (refine J.skipU rfl rfl rfl rfl ?_)
              | (refine J.unguard rfl rfl rfl ?_; (first | refine J.loadO Ty.a4 rfl (.head _) rfl rfl ?_ | refine J.loadO Ty.a4 rfl (.tail _ (.head _)) rfl rfl ?_ | refine J.loadO Ty.a4 rfl (.tail _ (.tail _ (.head _))) rfl rfl ?_ | refine J.loadO Ty.a4 rfl (.tail _ (.tail _ (.tail _ (.head _)))) rfl rfl ?_ | refine J.loadO Ty.a4 rfl (.tail _ (.tail _ (.tail _ (.tail _ (.head _))))) rfl rfl ?_ | refine J.loadO Ty.a4 rfl (.tail _ (.tail _ (.tail _ (.tail _ (.tail _ (.head _)))))) rfl rfl ?_ | refine J.loadO Ty.a4 rfl (.tail _ (.tail _ (.tail _ (.tail _ (.tail _ (.tail _ (.head _))))))) rfl rfl ?_ | refine J.loadO Ty.a4 rfl (.tail _ (.tail _ (.tail _ (.tail _ (.tail _ (.tail _ (.tail _ (.head _)))))))) rfl rfl ?_ | refine J.loadO Ty.a4 rfl (.tail _ (.tail _ (.tail _ (.tail _ (.tail _ (.tail _ (.tail _ (.tail _ (.head _))))))))) rfl rfl ?_ | refine J.loadO Ty.a4 rfl (.tail _ (.tail _ (.tail _ (.tail _ (.tail _ (.tail _ (.tail _ (.tail _ (.tail _ (.head _)))))))))) rfl rfl ?_ | refine J.loadO Ty.a4 rfl (.tail _ (.tail _ (.tail _ (.tail _ (.tail _ (.tail _ (.tail _ (.tail _ (.tail _ (.tail _ (.head _))))))))))) rfl rfl ?_ | refine J.loadO Ty.a4 rfl (.tail _ (.tail _ (.tail _ (.tail _ (.tail _ (.tail _ (.tail _ (.tail _ (.tail _ (.tail _ (.tail _ (.head _)))))))))))) rfl rfl ?_ | refine J.loadO Ty.a4 rfl (List.mem_append_right _ (.head _)) rfl rfl ?_ | refine J.loadO Ty.a4 rfl (List.mem_append_right _ (.tail _ (.head _))) rfl rfl ?_ | refine J.loadO Ty.a4 rfl (List.mem_append_right _ (.tail _ (.tail _ (.head _)))) rfl rfl ?_ | refine J.loadO Ty.a4 rfl (List.mem_append_right _ (.tail _ (.tail _ (.tail _ (.head _))))) rfl rfl ?_ | refine J.loadO Ty.a4 rfl (List.mem_append_right _ (.tail _ (.tail _ (.tail _ (.tail _ (.head _)))))) rfl rfl ?_ | refine J.loadO Ty.a4 rfl (List.mem_append_right _ (.tail _ (.tail _ (.tail _ (.tail _ (.tail _ (.head _))))))) rfl rfl ?_ | refine J.loadO Ty.a4 rfl (List.mem_append_right _ (.tail _ (.tail _ (.tail _ (.tail _ (.tail _ (.tail _ (.head _)))))))) rfl rfl ?_ | refine J.loadO Ty.a4 rfl (List.mem_append_right _ (.tail _ (.tail _ (.tail _ (.tail _ (.tail _ (.tail _ (.tail _ (.head _))))))))) rfl rfl ?_ | refine J.loadO Ty.a4 rfl (List.mem_append_right _ (.tail _ (.tail _ (.tail _ (.tail _ (.tail _ (.tail _ (.tail _ (.tail _ (.head _)))))))))) rfl rfl ?_ | refine J.loadO Ty.a4 rfl (List.mem_append_right _ (.tail _ (.tail _ (.tail _ (.tail _ (.tail _ (.tail _ (.tail _ (.tail _ (.tail _ (.head _))))))))))) rfl rfl ?_ | refine J.loadO Ty.a4 rfl (List.mem_append_right _ (.tail _ (.tail _ (.tail _ (.tail _ (.tail _ (.tail _ (.tail _ (.tail _ (.tail _ (.tail _ (.head _)))))))))))) rfl rfl ?_ | refine J.loadO Ty.a4 rfl (List.mem_append_right _ (.tail _ (.tail _ (.tail _ (.tail _ (.tail _ (.tail _ (.tail _ (.tail _ (.tail _ (.tail _ (.tail _ (.head _))))))))))))) rfl rfl ?_))
            refine J.unguard rfl rfl rfl ?_
            refine J.not rfl rfl ?_
            (first | refine J.pickT rfl rfl rfl ?_ | refine J.pickF rfl rfl rfl ?_)
            refine J.nil ?_
            refine JX.thenN (hK18 _ _ ?_)
            first | refine JC.condF rfl ?_ | refine JC.cond rfl (fun h => by first | (exfalso; simp at h; omega) | (simp at h)) (fun _ => ?_)
            refine JC.skip ?_
            refine JX.thenN (hK17 _ _ ?_)
            refine JC.seq (fun K19 hK19 => ?_)
            refine JC.seq (fun K20 hK20 => ?_)
            refine JC.region ?_
            refine J.assign rfl rfl ?_
            refine J.nil ?_
            refine JX.thenN (hK20 _ _ ?_)
            refine JC.block ?_
            refine JC.conseq (JC.cov (f := (fun st => [(3, .pointer (some ⟨b3, 0, none⟩)), (5, .pointer (some ⟨b5, 0, none⟩)), (8, .slice (some ⟨b50, 0, none⟩) 6 6), (9, .func (.func 22) #[] #[.pointer (some ⟨b5, 0, none⟩)]), (10, .pointer (some ⟨x7, 0, none⟩)), (11, .pointer (some ⟨x8, 0, none⟩)), (12, .pointer (some ⟨st.t, 0, none⟩)), (13, .pointer (some ⟨x14, 0, none⟩)), (15, iV ((st.i : Nat) : Int))]) (⟨0, t12, m12, es, ck, out, true, hl⟩ : LG)) ⟨rfl, rfl, rfl, rfl, rfl, rfl, rfl, rfl, rfl, trivial⟩ (JC.loop (α := LG) (fun st => [(3, .pointer (some ⟨b3, 0, none⟩)), (5, .pointer (some ⟨b5, 0, none⟩)), (8, .slice (some ⟨b50, 0, none⟩) 6 6), (9, .func (.func 22) #[] #[.pointer (some ⟨b5, 0, none⟩)]), (10, .pointer (some ⟨x7, 0, none⟩)), (11, .pointer (some ⟨x8, 0, none⟩)), (12, .pointer (some ⟨st.t, 0, none⟩)), (13, .pointer (some ⟨x14, 0, none⟩)), (15, iV ((st.i : Nat) : Int))]) (fun st w' => (st.i ≤ W.length ∧ HopAt W (max st.i 1) p (idW n0) (idW nl) st.out st.mine st.hl ∧ (st.i = 0 → Tab [(⟨p, idW n0, idW nl, -1, nbW W 0⟩ : EV)] st.es st.ck)) ∧ St w [] ((x14, cb (cD st.out st.mine false) 37) :: (st.t, tabO 3 st.mb) :: (st.mb, .map st.es st.ck) :: (x7, cb (cI (idW n0)) 23) :: (x8, cb (cI (idW nl)) 23) :: (b50, cb (OP6.map bV) 4) :: (b5, cb [.slice (some ⟨q, 0, none⟩) W.length c5] 26) :: (b3, cb (cP p) 25) :: (q, cb (W.map iV ++ sp) 3) :: st.hl) w') (fun st => W.length - st.i) (⟨0, t12, m12, es, ck, out, true, hl⟩ : LG) (fun st => ?_))) (fun w hw => ⟨⟨Nat.zero_le _, hH, fun _ => hT⟩, hw⟩)
            obtain ⟨i, t, mb, es, ck, out, mine, hl⟩ := st
            refine JC.pr (fun hx => ?_)
            obtain ⟨hi, hH, hT⟩ := hx
            simp only at hi hH hT ⊢
            refine JC.seq (fun K21 hK21 => ?_)
            refine JC.seq (fun K22 hK22 => ?_)
            refine JC.region ?_
            refine J.move rfl rfl ?_
            (first | refine J.loadO Ty.a26 rfl (.head _) rfl rfl ?_ | refine J.loadO Ty.a26 rfl (.tail _ (.head _)) rfl rfl ?_ | refine J.loadO Ty.a26 rfl (.tail _ (.tail _ (.head _))) rfl rfl ?_ | refine J.loadO Ty.a26 rfl (.tail _ (.tail _ (.tail _ (.head _)))) rfl rfl ?_ | refine J.loadO Ty.a26 rfl (.tail _ (.tail _ (.tail _ (.tail _ (.head _))))) rfl rfl ?_ | refine J.loadO Ty.a26 rfl (.tail _ (.tail _ (.tail _ (.tail _ (.tail _ (.head _)))))) rfl rfl ?_ | refine J.loadO Ty.a26 rfl (.tail _ (.tail _ (.tail _ (.tail _ (.tail _ (.tail _ (.head _))))))) rfl rfl ?_ | refine J.loadO Ty.a26 rfl (.tail _ (.tail _ (.tail _ (.tail _ (.tail _ (.tail _ (.tail _ (.head _)))))))) rfl rfl ?_ | refine J.loadO Ty.a26 rfl (.tail _ (.tail _ (.tail _ (.tail _ (.tail _ (.tail _ (.tail _ (.tail _ (.head _))))))))) rfl rfl ?_ | refine J.loadO Ty.a26 rfl (.tail _ (.tail _ (.tail _ (.tail _ (.tail _ (.tail _ (.tail _ (.tail _ (.tail _ (.head _)))))))))) rfl rfl ?_ | refine J.loadO Ty.a26 rfl (.tail _ (.tail _ (.tail _ (.tail _ (.tail _ (.tail _ (.tail _ (.tail _ (.tail _ (.tail _ (.head _))))))))))) rfl rfl ?_ | refine J.loadO Ty.a26 rfl (.tail _ (.tail _ (.tail _ (.tail _ (.tail _ (.tail _ (.tail _ (.tail _ (.tail _ (.tail _ (.tail _ (.head _)))))))))))) rfl rfl ?_ | refine J.loadO Ty.a26 rfl (List.mem_append_right _ (.head _)) rfl rfl ?_ | refine J.loadO Ty.a26 rfl (List.mem_append_right _ (.tail _ (.head _))) rfl rfl ?_ | refine J.loadO Ty.a26 rfl (List.mem_append_right _ (.tail _ (.tail _ (.head _)))) rfl rfl ?_ | refine J.loadO Ty.a26 rfl (List.mem_append_right _ (.tail _ (.tail _ (.tail _ (.head _))))) rfl rfl ?_ | refine J.loadO Ty.a26 rfl (List.mem_append_right _ (.tail _ (.tail _ (.tail _ (.tail _ (.head _)))))) rfl rfl ?_ | refine J.loadO Ty.a26 rfl (List.mem_append_right _ (.tail _ (.tail _ (.tail _ (.tail _ (.tail _ (.head _))))))) rfl rfl ?_ | refine J.loadO Ty.a26 rfl (List.mem_append_right _ (.tail _ (.tail _ (.tail _ (.tail _ (.tail _ (.tail _ (.head _)))))))) rfl rfl ?_ | refine J.loadO Ty.a26 rfl (List.mem_append_right _ (.tail _ (.tail _ (.tail _ (.tail _ (.tail _ (.tail _ (.tail _ (.head _))))))))) rfl rfl ?_ | refine J.loadO Ty.a26 rfl (List.mem_append_right _ (.tail _ (.tail _ (.tail _ (.tail _ (.tail _ (.tail _ (.tail _ (.tail _ (.head _)))))))))) rfl rfl ?_ | refine J.loadO Ty.a26 rfl (List.mem_append_right _ (.tail _ (.tail _ (.tail _ (.tail _ (.tail _ (.tail _ (.tail _ (.tail _ (.tail _ (.head _))))))))))) rfl rfl ?_ | refine J.loadO Ty.a26 rfl (List.mem_append_right _ (.tail _ (.tail _ (.tail _ (.tail _ (.tail _ (.tail _ (.tail _ (.tail _ (.tail _ (.tail _ (.head _)))))))))))) rfl rfl ?_ | refine J.loadO Ty.a26 rfl (List.mem_append_right _ (.tail _ (.tail _ (.tail _ (.tail _ (.tail _ (.tail _ (.tail _ (.tail _ (.tail _ (.tail _ (.tail _ (.head _))))))))))))) rfl rfl ?_)
            refine J.lenS rfl Ty.u26 rfl rfl ?_
            refine J.bin rfl rfl rfl rfl ?_
            refine J.nil ?_
            refine JX.thenN (hK22 _ _ ?_)
            refine JC.cond rfl (fun h4 => ?_) (fun h4 => ?_)
            · skip
              have hlt : i < W.length := by simp at h4; omega
              refine JC.skip ?_
              refine JX.thenN (hK21 _ _ ?_)
              refine JC.seq (fun K23 hK23 => ?_)
              refine JC.block ?_
              refine JC.seq (fun K24 hK24 => ?_)
              refine JC.seq (fun K25 hK25 => ?_)
              refine JC.region ?_
              refine J.move rfl rfl ?_
              refine J.bin rfl rfl rfl rfl ?_
              refine J.nil ?_
              refine JX.thenN (hK25 _ _ ?_)
              refine JC.cond rfl (fun h5 => ?_) (fun h5 => ?_)
              · skip
                have hi1 : 1 ≤ i := by simp at h5; omega
                have hii : W[i]? = some W[i] := List.getElem?_eq_getElem hlt
                rw [show max i 1 = i by omega] at hH
                obtain ⟨h, ha, hc, lp, rfl, rfl, hvh⟩ := hH.on _ hii
                have hri := hran W[i] (List.getElem_mem _)
                refine JC.conseq (I' := St w [] ((x14, cb (cD (.slice (some ⟨h, 0, none⟩) 1 1) mine false) 37) :: (h, cb (cH W[i] (cF 4 p (idW n0) (idW nl) (.slice ha W.length hc))) 54) :: (b5, cb [.slice (some ⟨q, 0, none⟩) W.length c5] 26) :: (q, cb (W.map iV ++ sp) 3) :: ((t, tabO 3 mb) :: (mb, .map es ck) :: (x7, cb (cI (idW n0)) 23) :: (x8, cb (cI (idW nl)) 23) :: (b50, cb (OP6.map bV) 4) :: (b3, cb (cP p) 25) :: lp))) ?_ (fun w1 hw => hw.perm (by (refine perm_cnt (fun _ => ?_)); simp only [cntB_append, cntB_cons, cntB_nil, Nat.add_zero, Nat.zero_add]; try ac_rfl))
                refine JC.seq (fun K26 hK26 => ?_)
                refine JC.seq (fun K27 hK27 => ?_)
                apply JC.drawL 16 [Eqv (.pointer (some ⟨x14, 0 + 0, none⟩)), Eqv (.slice (some ⟨h, 0, none⟩) 1 1), Eqv (.int .i64 1), Eqv (.bool false), Eqv (.bool false), Eqv (.pointer (some ⟨x14, 0 + 0, none⟩)), Eqv (.slice (some ⟨h, 0, none⟩) 1 1), Eqv (.pointer (some ⟨h, 0 + (0 : Int).toNat * 96, none⟩)), Eqv (.pointer (some ⟨h, 0 + (0 : Int).toNat * 96 + 0, none⟩)), Eqv (iV W[i]), Eqv (.slice (some ⟨q, 0, none⟩) W.length c5), Eqv (iV (i : Int)), Eqv (.pointer (some ⟨q, 0 + (i : Int).toNat * 1, none⟩)), Eqv (iV W[i]), Eqv (.bool false), Eqv (.bool false)] Ty.mixed rfl rfl rfl (by kernel_rfl) rfl rfl (fun w w' hw hb => hw.step hb) ⟨fun _ _ _ h _ => h, fun _ _ _ h _ => h, fun _ _ _ h _ => h, fun _ _ _ h _ => h, fun _ _ _ h _ => h, fun _ _ _ h _ => h, fun _ _ _ h _ => h, fun _ _ _ h _ => h, fun _ _ _ h _ => h, fun _ _ _ h _ => h, fun _ _ _ h _ => h, fun _ _ _ h _ => h, fun _ _ _ h _ => h, fun _ _ _ h _ => h, fun _ _ _ h _ => h, fun _ _ _ h _ => h, trivial⟩ ?hstep ?htail
                case hstep =>
                  refine ⟨fun wi => ?_, fun wi => ?_, fun wi => ?_, fun wi => ?_, fun wi => ?_, fun wi => ?_, fun wi => ?_, fun wi => ?_, fun wi => ?_, fun wi => ?_, fun wi => ?_, fun wi => ?_, fun wi => ?_, fun wi => ?_, fun wi => ?_, fun wi => ?_, trivial⟩
                  · skip
                    refine Fin.nil ?_
                    refine J.fieldAddr Ty.fd37_0 rfl rfl ?_
                    refine J.nil (JX.fin rfl (fun w hw => ⟨rfl, (by rw [hw.1]; exact Below.refl _ _)⟩))
                  · skip
                    refine Fin.cons (fun v21_0 => ?_)
                    refine Fin.nil ?_
                    refine J.prE (fun h => ?_); subst h
                    (first | refine J.load1 Ty.a35 rfl (fun w hw => (cell_of (hw.2.own _ (.head _))).trans rfl) rfl ?_ | refine J.load1 Ty.a35 rfl (fun w hw => (cell_of (hw.2.own _ (.tail _ (.head _)))).trans rfl) rfl ?_ | refine J.load1 Ty.a35 rfl (fun w hw => (cell_of (hw.2.own _ (.tail _ (.tail _ (.head _))))).trans rfl) rfl ?_ | refine J.load1 Ty.a35 rfl (fun w hw => (cell_of (hw.2.own _ (.tail _ (.tail _ (.tail _ (.head _)))))).trans rfl) rfl ?_ | refine J.load1 Ty.a35 rfl (fun w hw => (cell_of (hw.2.own _ (.tail _ (.tail _ (.tail _ (.tail _ (.head _))))))).trans rfl) rfl ?_ | refine J.load1 Ty.a35 rfl (fun w hw => (cell_of (hw.2.own _ (.tail _ (.tail _ (.tail _ (.tail _ (.tail _ (.head _)))))))).trans rfl) rfl ?_ | refine J.load1 Ty.a35 rfl (fun w hw => (cell_of (hw.2.own _ (.tail _ (.tail _ (.tail _ (.tail _ (.tail _ (.tail _ (.head _))))))))).trans rfl) rfl ?_ | refine J.load1 Ty.a35 rfl (fun w hw => (cell_of (hw.2.own _ (.tail _ (.tail _ (.tail _ (.tail _ (.tail _ (.tail _ (.tail _ (.head _)))))))))).trans rfl) rfl ?_ | refine J.load1 Ty.a35 rfl (fun w hw => (cell_of (hw.2.own _ (.tail _ (.tail _ (.tail _ (.tail _ (.tail _ (.tail _ (.tail _ (.tail _ (.head _))))))))))).trans rfl) rfl ?_ | refine J.load1 Ty.a35 rfl (fun w hw => (cell_of (hw.2.own _ (.tail _ (.tail _ (.tail _ (.tail _ (.tail _ (.tail _ (.tail _ (.tail _ (.tail _ (.head _)))))))))))).trans rfl) rfl ?_ | refine J.load1 Ty.a35 rfl (fun w hw => (cell_of (hw.2.own _ (.tail _ (.tail _ (.tail _ (.tail _ (.tail _ (.tail _ (.tail _ (.tail _ (.tail _ (.tail _ (.head _))))))))))))).trans rfl) rfl ?_ | refine J.load1 Ty.a35 rfl (fun w hw => (cell_of (hw.2.own _ (.tail _ (.tail _ (.tail _ (.tail _ (.tail _ (.tail _ (.tail _ (.tail _ (.tail _ (.tail _ (.tail _ (.head _)))))))))))))).trans rfl) rfl ?_ | refine J.load1 Ty.a35 rfl (fun w hw => (cell_of (hw.2.own _ (List.mem_append_right _ (.head _)))).trans rfl) rfl ?_ | refine J.load1 Ty.a35 rfl (fun w hw => (cell_of (hw.2.own _ (List.mem_append_right _ (.tail _ (.head _))))).trans rfl) rfl ?_ | refine J.load1 Ty.a35 rfl (fun w hw => (cell_of (hw.2.own _ (List.mem_append_right _ (.tail _ (.tail _ (.head _)))))).trans rfl) rfl ?_ | refine J.load1 Ty.a35 rfl (fun w hw => (cell_of (hw.2.own _ (List.mem_append_right _ (.tail _ (.tail _ (.tail _ (.head _))))))).trans rfl) rfl ?_ | refine J.load1 Ty.a35 rfl (fun w hw => (cell_of (hw.2.own _ (List.mem_append_right _ (.tail _ (.tail _ (.tail _ (.tail _ (.head _)))))))).trans rfl) rfl ?_ | refine J.load1 Ty.a35 rfl (fun w hw => (cell_of (hw.2.own _ (List.mem_append_right _ (.tail _ (.tail _ (.tail _ (.tail _ (.tail _ (.head _))))))))).trans rfl) rfl ?_ | refine J.load1 Ty.a35 rfl (fun w hw => (cell_of (hw.2.own _ (List.mem_append_right _ (.tail _ (.tail _ (.tail _ (.tail _ (.tail _ (.tail _ (.head _)))))))))).trans rfl) rfl ?_ | refine J.load1 Ty.a35 rfl (fun w hw => (cell_of (hw.2.own _ (List.mem_append_right _ (.tail _ (.tail _ (.tail _ (.tail _ (.tail _ (.tail _ (.tail _ (.head _))))))))))).trans rfl) rfl ?_ | refine J.load1 Ty.a35 rfl (fun w hw => (cell_of (hw.2.own _ (List.mem_append_right _ (.tail _ (.tail _ (.tail _ (.tail _ (.tail _ (.tail _ (.tail _ (.tail _ (.head _)))))))))))).trans rfl) rfl ?_ | refine J.load1 Ty.a35 rfl (fun w hw => (cell_of (hw.2.own _ (List.mem_append_right _ (.tail _ (.tail _ (.tail _ (.tail _ (.tail _ (.tail _ (.tail _ (.tail _ (.tail _ (.head _))))))))))))).trans rfl) rfl ?_ | refine J.load1 Ty.a35 rfl (fun w hw => (cell_of (hw.2.own _ (List.mem_append_right _ (.tail _ (.tail _ (.tail _ (.tail _ (.tail _ (.tail _ (.tail _ (.tail _ (.tail _ (.tail _ (.head _)))))))))))))).trans rfl) rfl ?_ | refine J.load1 Ty.a35 rfl (fun w hw => (cell_of (hw.2.own _ (List.mem_append_right _ (.tail _ (.tail _ (.tail _ (.tail _ (.tail _ (.tail _ (.tail _ (.tail _ (.tail _ (.tail _ (.tail _ (.head _))))))))))))))).trans rfl) rfl ?_)
                    refine J.nil (JX.fin rfl (fun w hw => ⟨rfl, (by rw [hw.1]; exact Below.refl _ _)⟩))
                  · skip
                    refine Fin.cons (fun v21_1 => ?_)
                    refine Fin.nil ?_
                    refine J.prE (fun h => ?_); subst h
                    refine J.lenS rfl Ty.u35 rfl rfl ?_
                    refine J.nil (JX.fin rfl (fun w hw => ⟨rfl, (by rw [hw.1]; exact Below.refl _ _)⟩))
                  · skip
                    refine Fin.cons (fun v21_2 => ?_)
                    refine Fin.nil ?_
                    refine J.prE (fun h => ?_); subst h
                    refine J.bin rfl rfl rfl rfl ?_
                    refine J.nil (JX.fin rfl (fun w hw => ⟨rfl, (by rw [hw.1]; exact Below.refl _ _)⟩))
                  · skip
                    refine Fin.cons (fun v21_3 => ?_)
                    refine Fin.nil ?_
                    refine J.prE (fun h => ?_); subst h
                    refine J.move rfl rfl ?_
                    refine J.nil (JX.fin rfl (fun w hw => ⟨rfl, (by rw [hw.1]; exact Below.refl _ _)⟩))
                  · skip
                    refine Fin.cons (fun v21_4 => ?_)
                    refine Fin.nil ?_
                    refine J.prE (fun h => ?_); subst h
                    first
                      | (refine J.skip rfl rfl rfl rfl rfl ?_)
                      | (refine J.skipU rfl rfl rfl rfl ?_)
                      | (refine J.unguard rfl rfl rfl ?_; refine J.fieldAddr Ty.fd37_0 rfl rfl ?_)
                    refine J.nil (JX.fin rfl (fun w hw => ⟨rfl, (by rw [hw.1]; exact Below.refl _ _)⟩))
                  · skip
                    refine Fin.cons (fun v21_5 => ?_)
                    refine Fin.cons (fun v21_4 => ?_)
                    refine Fin.nil ?_
                    refine J.prE (fun h => ?_); subst h
                    refine J.prE (fun h => ?_); subst h
                    first
                      | (refine J.skip rfl rfl rfl rfl rfl ?_)
                      | (refine J.skipU rfl rfl rfl rfl ?_)
                      | (refine J.unguard rfl rfl rfl ?_; (first | refine J.load1 Ty.a35 rfl (fun w hw => (cell_of (hw.2.own _ (.head _))).trans rfl) rfl ?_ | refine J.load1 Ty.a35 rfl (fun w hw => (cell_of (hw.2.own _ (.tail _ (.head _)))).trans rfl) rfl ?_ | refine J.load1 Ty.a35 rfl (fun w hw => (cell_of (hw.2.own _ (.tail _ (.tail _ (.head _))))).trans rfl) rfl ?_ | refine J.load1 Ty.a35 rfl (fun w hw => (cell_of (hw.2.own _ (.tail _ (.tail _ (.tail _ (.head _)))))).trans rfl) rfl ?_ | refine J.load1 Ty.a35 rfl (fun w hw => (cell_of (hw.2.own _ (.tail _ (.tail _ (.tail _ (.tail _ (.head _))))))).trans rfl) rfl ?_ | refine J.load1 Ty.a35 rfl (fun w hw => (cell_of (hw.2.own _ (.tail _ (.tail _ (.tail _ (.tail _ (.tail _ (.head _)))))))).trans rfl) rfl ?_ | refine J.load1 Ty.a35 rfl (fun w hw => (cell_of (hw.2.own _ (.tail _ (.tail _ (.tail _ (.tail _ (.tail _ (.tail _ (.head _))))))))).trans rfl) rfl ?_ | refine J.load1 Ty.a35 rfl (fun w hw => (cell_of (hw.2.own _ (.tail _ (.tail _ (.tail _ (.tail _ (.tail _ (.tail _ (.tail _ (.head _)))))))))).trans rfl) rfl ?_ | refine J.load1 Ty.a35 rfl (fun w hw => (cell_of (hw.2.own _ (.tail _ (.tail _ (.tail _ (.tail _ (.tail _ (.tail _ (.tail _ (.tail _ (.head _))))))))))).trans rfl) rfl ?_ | refine J.load1 Ty.a35 rfl (fun w hw => (cell_of (hw.2.own _ (.tail _ (.tail _ (.tail _ (.tail _ (.tail _ (.tail _ (.tail _ (.tail _ (.tail _ (.head _)))))))))))).trans rfl) rfl ?_ | refine J.load1 Ty.a35 rfl (fun w hw => (cell_of (hw.2.own _ (.tail _ (.tail _ (.tail _ (.tail _ (.tail _ (.tail _ (.tail _ (.tail _ (.tail _ (.tail _ (.head _))))))))))))).trans rfl) rfl ?_ | refine J.load1 Ty.a35 rfl (fun w hw => (cell_of (hw.2.own _ (.tail _ (.tail _ (.tail _ (.tail _ (.tail _ (.tail _ (.tail _ (.tail _ (.tail _ (.tail _ (.tail _ (.head _)))))))))))))).trans rfl) rfl ?_ | refine J.load1 Ty.a35 rfl (fun w hw => (cell_of (hw.2.own _ (List.mem_append_right _ (.head _)))).trans rfl) rfl ?_ | refine J.load1 Ty.a35 rfl (fun w hw => (cell_of (hw.2.own _ (List.mem_append_right _ (.tail _ (.head _))))).trans rfl) rfl ?_ | refine J.load1 Ty.a35 rfl (fun w hw => (cell_of (hw.2.own _ (List.mem_append_right _ (.tail _ (.tail _ (.head _)))))).trans rfl) rfl ?_ | refine J.load1 Ty.a35 rfl (fun w hw => (cell_of (hw.2.own _ (List.mem_append_right _ (.tail _ (.tail _ (.tail _ (.head _))))))).trans rfl) rfl ?_ | refine J.load1 Ty.a35 rfl (fun w hw => (cell_of (hw.2.own _ (List.mem_append_right _ (.tail _ (.tail _ (.tail _ (.tail _ (.head _)))))))).trans rfl) rfl ?_ | refine J.load1 Ty.a35 rfl (fun w hw => (cell_of (hw.2.own _ (List.mem_append_right _ (.tail _ (.tail _ (.tail _ (.tail _ (.tail _ (.head _))))))))).trans rfl) rfl ?_ | refine J.load1 Ty.a35 rfl (fun w hw => (cell_of (hw.2.own _ (List.mem_append_right _ (.tail _ (.tail _ (.tail _ (.tail _ (.tail _ (.tail _ (.head _)))))))))).trans rfl) rfl ?_ | refine J.load1 Ty.a35 rfl (fun w hw => (cell_of (hw.2.own _ (List.mem_append_right _ (.tail _ (.tail _ (.tail _ (.tail _ (.tail _ (.tail _ (.tail _ (.head _))))))))))).trans rfl) rfl ?_ | refine J.load1 Ty.a35 rfl (fun w hw => (cell_of (hw.2.own _ (List.mem_append_right _ (.tail _ (.tail _ (.tail _ (.tail _ (.tail _ (.tail _ (.tail _ (.tail _ (.head _)))))))))))).trans rfl) rfl ?_ | refine J.load1 Ty.a35 rfl (fun w hw => (cell_of (hw.2.own _ (List.mem_append_right _ (.tail _ (.tail _ (.tail _ (.tail _ (.tail _ (.tail _ (.tail _ (.tail _ (.tail _ (.head _))))))))))))).trans rfl) rfl ?_ | refine J.load1 Ty.a35 rfl (fun w hw => (cell_of (hw.2.own _ (List.mem_append_right _ (.tail _ (.tail _ (.tail _ (.tail _ (.tail _ (.tail _ (.tail _ (.tail _ (.tail _ (.tail _ (.head _)))))))))))))).trans rfl) rfl ?_ | refine J.load1 Ty.a35 rfl (fun w hw => (cell_of (hw.2.own _ (List.mem_append_right _ (.tail _ (.tail _ (.tail _ (.tail _ (.tail _ (.tail _ (.tail _ (.tail _ (.tail _ (.tail _ (.tail _ (.head _))))))))))))))).trans rfl) rfl ?_))
                    refine J.nil (JX.fin rfl (fun w hw => ⟨rfl, (by rw [hw.1]; exact Below.refl _ _)⟩))
                  · skip
                    refine Fin.cons (fun v21_6 => ?_)
                    refine Fin.cons (fun v21_4 => ?_)
                    refine Fin.nil ?_
                    refine J.prE (fun h => ?_); subst h
                    refine J.prE (fun h => ?_); subst h
                    first
                      | (refine J.skip rfl rfl rfl rfl rfl ?_)
                      | (refine J.skipU rfl rfl rfl rfl ?_)
                      | (refine J.unguard rfl rfl rfl ?_; refine J.indexAddrS Ty.el35 Ty.s54 rfl rfl (by omega) (by omega) rfl ?_)
                    refine J.nil (JX.fin rfl (fun w hw => ⟨rfl, (by rw [hw.1]; exact Below.refl _ _)⟩))
                  · skip
                    refine Fin.cons (fun v21_7 => ?_)
                    refine Fin.cons (fun v21_4 => ?_)
                    refine Fin.nil ?_
                    refine J.prE (fun h => ?_); subst h
                    refine J.prE (fun h => ?_); subst h
                    first
                      | (refine J.skip rfl rfl rfl rfl rfl ?_)
                      | (refine J.skipU rfl rfl rfl rfl ?_)
                      | (refine J.unguard rfl rfl rfl ?_; refine J.fieldAddr Ty.fd54_0 rfl rfl ?_)
                    refine J.nil (JX.fin rfl (fun w hw => ⟨rfl, (by rw [hw.1]; exact Below.refl _ _)⟩))
                  · skip
                    refine Fin.cons (fun v21_8 => ?_)
                    refine Fin.cons (fun v21_4 => ?_)
                    refine Fin.nil ?_
                    refine J.prE (fun h => ?_); subst h
                    refine J.prE (fun h => ?_); subst h
                    first
                      | (refine J.skip rfl rfl rfl rfl rfl ?_)
                      | (refine J.skipU rfl rfl rfl rfl ?_)
                      | (refine J.unguard rfl rfl rfl ?_; (first | refine J.load1 Ty.a3 rfl (fun w hw => (cell_of (hw.2.own _ (.head _))).trans rfl) rfl ?_ | refine J.load1 Ty.a3 rfl (fun w hw => (cell_of (hw.2.own _ (.tail _ (.head _)))).trans rfl) rfl ?_ | refine J.load1 Ty.a3 rfl (fun w hw => (cell_of (hw.2.own _ (.tail _ (.tail _ (.head _))))).trans rfl) rfl ?_ | refine J.load1 Ty.a3 rfl (fun w hw => (cell_of (hw.2.own _ (.tail _ (.tail _ (.tail _ (.head _)))))).trans rfl) rfl ?_ | refine J.load1 Ty.a3 rfl (fun w hw => (cell_of (hw.2.own _ (.tail _ (.tail _ (.tail _ (.tail _ (.head _))))))).trans rfl) rfl ?_ | refine J.load1 Ty.a3 rfl (fun w hw => (cell_of (hw.2.own _ (.tail _ (.tail _ (.tail _ (.tail _ (.tail _ (.head _)))))))).trans rfl) rfl ?_ | refine J.load1 Ty.a3 rfl (fun w hw => (cell_of (hw.2.own _ (.tail _ (.tail _ (.tail _ (.tail _ (.tail _ (.tail _ (.head _))))))))).trans rfl) rfl ?_ | refine J.load1 Ty.a3 rfl (fun w hw => (cell_of (hw.2.own _ (.tail _ (.tail _ (.tail _ (.tail _ (.tail _ (.tail _ (.tail _ (.head _)))))))))).trans rfl) rfl ?_ | refine J.load1 Ty.a3 rfl (fun w hw => (cell_of (hw.2.own _ (.tail _ (.tail _ (.tail _ (.tail _ (.tail _ (.tail _ (.tail _ (.tail _ (.head _))))))))))).trans rfl) rfl ?_ | refine J.load1 Ty.a3 rfl (fun w hw => (cell_of (hw.2.own _ (.tail _ (.tail _ (.tail _ (.tail _ (.tail _ (.tail _ (.tail _ (.tail _ (.tail _ (.head _)))))))))))).trans rfl) rfl ?_ | refine J.load1 Ty.a3 rfl (fun w hw => (cell_of (hw.2.own _ (.tail _ (.tail _ (.tail _ (.tail _ (.tail _ (.tail _ (.tail _ (.tail _ (.tail _ (.tail _ (.head _))))))))))))).trans rfl) rfl ?_ | refine J.load1 Ty.a3 rfl (fun w hw => (cell_of (hw.2.own _ (.tail _ (.tail _ (.tail _ (.tail _ (.tail _ (.tail _ (.tail _ (.tail _ (.tail _ (.tail _ (.tail _ (.head _)))))))))))))).trans rfl) rfl ?_ | refine J.load1 Ty.a3 rfl (fun w hw => (cell_of (hw.2.own _ (List.mem_append_right _ (.head _)))).trans rfl) rfl ?_ | refine J.load1 Ty.a3 rfl (fun w hw => (cell_of (hw.2.own _ (List.mem_append_right _ (.tail _ (.head _))))).trans rfl) rfl ?_ | refine J.load1 Ty.a3 rfl (fun w hw => (cell_of (hw.2.own _ (List.mem_append_right _ (.tail _ (.tail _ (.head _)))))).trans rfl) rfl ?_ | refine J.load1 Ty.a3 rfl (fun w hw => (cell_of (hw.2.own _ (List.mem_append_right _ (.tail _ (.tail _ (.tail _ (.head _))))))).trans rfl) rfl ?_ | refine J.load1 Ty.a3 rfl (fun w hw => (cell_of (hw.2.own _ (List.mem_append_right _ (.tail _ (.tail _ (.tail _ (.tail _ (.head _)))))))).trans rfl) rfl ?_ | refine J.load1 Ty.a3 rfl (fun w hw => (cell_of (hw.2.own _ (List.mem_append_right _ (.tail _ (.tail _ (.tail _ (.tail _ (.tail _ (.head _))))))))).trans rfl) rfl ?_ | refine J.load1 Ty.a3 rfl (fun w hw => (cell_of (hw.2.own _ (List.mem_append_right _ (.tail _ (.tail _ (.tail _ (.tail _ (.tail _ (.tail _ (.head _)))))))))).trans rfl) rfl ?_ | refine J.load1 Ty.a3 rfl (fun w hw => (cell_of (hw.2.own _ (List.mem_append_right _ (.tail _ (.tail _ (.tail _ (.tail _ (.tail _ (.tail _ (.tail _ (.head _))))))))))).trans rfl) rfl ?_ | refine J.load1 Ty.a3 rfl (fun w hw => (cell_of (hw.2.own _ (List.mem_append_right _ (.tail _ (.tail _ (.tail _ (.tail _ (.tail _ (.tail _ (.tail _ (.tail _ (.head _)))))))))))).trans rfl) rfl ?_ | refine J.load1 Ty.a3 rfl (fun w hw => (cell_of (hw.2.own _ (List.mem_append_right _ (.tail _ (.tail _ (.tail _ (.tail _ (.tail _ (.tail _ (.tail _ (.tail _ (.tail _ (.head _))))))))))))).trans rfl) rfl ?_ | refine J.load1 Ty.a3 rfl (fun w hw => (cell_of (hw.2.own _ (List.mem_append_right _ (.tail _ (.tail _ (.tail _ (.tail _ (.tail _ (.tail _ (.tail _ (.tail _ (.tail _ (.tail _ (.head _)))))))))))))).trans rfl) rfl ?_ | refine J.load1 Ty.a3 rfl (fun w hw => (cell_of (hw.2.own _ (List.mem_append_right _ (.tail _ (.tail _ (.tail _ (.tail _ (.tail _ (.tail _ (.tail _ (.tail _ (.tail _ (.tail _ (.tail _ (.head _))))))))))))))).trans rfl) rfl ?_))
                    refine J.nil (JX.fin rfl (fun w hw => ⟨rfl, (by rw [hw.1]; exact Below.refl _ _)⟩))
                  · skip
                    refine Fin.cons (fun v21_4 => ?_)
                    refine Fin.nil ?_
                    refine J.prE (fun h => ?_); subst h
                    first
                      | (refine J.skip rfl rfl rfl rfl rfl ?_)
                      | (refine J.skipU rfl rfl rfl rfl ?_)
                      | (refine J.unguard rfl rfl rfl ?_; (first | refine J.load1 Ty.a26 rfl (fun w hw => (cell_of (hw.2.own _ (.head _))).trans rfl) rfl ?_ | refine J.load1 Ty.a26 rfl (fun w hw => (cell_of (hw.2.own _ (.tail _ (.head _)))).trans rfl) rfl ?_ | refine J.load1 Ty.a26 rfl (fun w hw => (cell_of (hw.2.own _ (.tail _ (.tail _ (.head _))))).trans rfl) rfl ?_ | refine J.load1 Ty.a26 rfl (fun w hw => (cell_of (hw.2.own _ (.tail _ (.tail _ (.tail _ (.head _)))))).trans rfl) rfl ?_ | refine J.load1 Ty.a26 rfl (fun w hw => (cell_of (hw.2.own _ (.tail _ (.tail _ (.tail _ (.tail _ (.head _))))))).trans rfl) rfl ?_ | refine J.load1 Ty.a26 rfl (fun w hw => (cell_of (hw.2.own _ (.tail _ (.tail _ (.tail _ (.tail _ (.tail _ (.head _)))))))).trans rfl) rfl ?_ | refine J.load1 Ty.a26 rfl (fun w hw => (cell_of (hw.2.own _ (.tail _ (.tail _ (.tail _ (.tail _ (.tail _ (.tail _ (.head _))))))))).trans rfl) rfl ?_ | refine J.load1 Ty.a26 rfl (fun w hw => (cell_of (hw.2.own _ (.tail _ (.tail _ (.tail _ (.tail _ (.tail _ (.tail _ (.tail _ (.head _)))))))))).trans rfl) rfl ?_ | refine J.load1 Ty.a26 rfl (fun w hw => (cell_of (hw.2.own _ (.tail _ (.tail _ (.tail _ (.tail _ (.tail _ (.tail _ (.tail _ (.tail _ (.head _))))))))))).trans rfl) rfl ?_ | refine J.load1 Ty.a26 rfl (fun w hw => (cell_of (hw.2.own _ (.tail _ (.tail _ (.tail _ (.tail _ (.tail _ (.tail _ (.tail _ (.tail _ (.tail _ (.head _)))))))))))).trans rfl) rfl ?_ | refine J.load1 Ty.a26 rfl (fun w hw => (cell_of (hw.2.own _ (.tail _ (.tail _ (.tail _ (.tail _ (.tail _ (.tail _ (.tail _ (.tail _ (.tail _ (.tail _ (.head _))))))))))))).trans rfl) rfl ?_ | refine J.load1 Ty.a26 rfl (fun w hw => (cell_of (hw.2.own _ (.tail _ (.tail _ (.tail _ (.tail _ (.tail _ (.tail _ (.tail _ (.tail _ (.tail _ (.tail _ (.tail _ (.head _)))))))))))))).trans rfl) rfl ?_ | refine J.load1 Ty.a26 rfl (fun w hw => (cell_of (hw.2.own _ (List.mem_append_right _ (.head _)))).trans rfl) rfl ?_ | refine J.load1 Ty.a26 rfl (fun w hw => (cell_of (hw.2.own _ (List.mem_append_right _ (.tail _ (.head _))))).trans rfl) rfl ?_ | refine J.load1 Ty.a26 rfl (fun w hw => (cell_of (hw.2.own _ (List.mem_append_right _ (.tail _ (.tail _ (.head _)))))).trans rfl) rfl ?_ | refine J.load1 Ty.a26 rfl (fun w hw => (cell_of (hw.2.own _ (List.mem_append_right _ (.tail _ (.tail _ (.tail _ (.head _))))))).trans rfl) rfl ?_ | refine J.load1 Ty.a26 rfl (fun w hw => (cell_of (hw.2.own _ (List.mem_append_right _ (.tail _ (.tail _ (.tail _ (.tail _ (.head _)))))))).trans rfl) rfl ?_ | refine J.load1 Ty.a26 rfl (fun w hw => (cell_of (hw.2.own _ (List.mem_append_right _ (.tail _ (.tail _ (.tail _ (.tail _ (.tail _ (.head _))))))))).trans rfl) rfl ?_ | refine J.load1 Ty.a26 rfl (fun w hw => (cell_of (hw.2.own _ (List.mem_append_right _ (.tail _ (.tail _ (.tail _ (.tail _ (.tail _ (.tail _ (.head _)))))))))).trans rfl) rfl ?_ | refine J.load1 Ty.a26 rfl (fun w hw => (cell_of (hw.2.own _ (List.mem_append_right _ (.tail _ (.tail _ (.tail _ (.tail _ (.tail _ (.tail _ (.tail _ (.head _))))))))))).trans rfl) rfl ?_ | refine J.load1 Ty.a26 rfl (fun w hw => (cell_of (hw.2.own _ (List.mem_append_right _ (.tail _ (.tail _ (.tail _ (.tail _ (.tail _ (.tail _ (.tail _ (.tail _ (.head _)))))))))))).trans rfl) rfl ?_ | refine J.load1 Ty.a26 rfl (fun w hw => (cell_of (hw.2.own _ (List.mem_append_right _ (.tail _ (.tail _ (.tail _ (.tail _ (.tail _ (.tail _ (.tail _ (.tail _ (.tail _ (.head _))))))))))))).trans rfl) rfl ?_ | refine J.load1 Ty.a26 rfl (fun w hw => (cell_of (hw.2.own _ (List.mem_append_right _ (.tail _ (.tail _ (.tail _ (.tail _ (.tail _ (.tail _ (.tail _ (.tail _ (.tail _ (.tail _ (.head _)))))))))))))).trans rfl) rfl ?_ | refine J.load1 Ty.a26 rfl (fun w hw => (cell_of (hw.2.own _ (List.mem_append_right _ (.tail _ (.tail _ (.tail _ (.tail _ (.tail _ (.tail _ (.tail _ (.tail _ (.tail _ (.tail _ (.tail _ (.head _))))))))))))))).trans rfl) rfl ?_))
                    refine J.nil (JX.fin rfl (fun w hw => ⟨rfl, (by rw [hw.1]; exact Below.refl _ _)⟩))
                  · skip
                    refine Fin.cons (fun v21_4 => ?_)
                    refine Fin.nil ?_
                    refine J.prE (fun h => ?_); subst h
                    first
                      | (refine J.skip rfl rfl rfl rfl rfl ?_)
                      | (refine J.skipU rfl rfl rfl rfl ?_)
                      | (refine J.unguard rfl rfl rfl ?_; refine J.move rfl rfl ?_)
                    refine J.nil (JX.fin rfl (fun w hw => ⟨rfl, (by rw [hw.1]; exact Below.refl _ _)⟩))
                  · skip
                    refine Fin.cons (fun v21_10 => ?_)
                    refine Fin.cons (fun v21_11 => ?_)
                    refine Fin.cons (fun v21_4 => ?_)
                    refine Fin.nil ?_
                    refine J.prE (fun h => ?_); subst h
                    refine J.prE (fun h => ?_); subst h
                    refine J.prE (fun h => ?_); subst h
                    first
                      | (refine J.skip rfl rfl rfl rfl rfl ?_)
                      | (refine J.skipU rfl rfl rfl rfl ?_)
                      | (refine J.unguard rfl rfl rfl ?_; refine J.indexAddrS Ty.el26 Ty.s3 rfl rfl (by omega) (by omega) rfl ?_)
                    refine J.nil (JX.fin rfl (fun w hw => ⟨rfl, (by rw [hw.1]; exact Below.refl _ _)⟩))
                  · skip
                    refine Fin.cons (fun v21_12 => ?_)
                    refine Fin.cons (fun v21_4 => ?_)
                    refine Fin.nil ?_
                    refine J.prE (fun h => ?_); subst h
                    refine J.prE (fun h => ?_); subst h
                    refine J.unguard rfl rfl rfl ?_
                    refine J.load1 (v := iV W[i]) Ty.a3 rfl (fun w1 hw => (cell_of (hw.2.own _ (.tail _ (.tail _ (.tail _ (.head _)))))).trans (by rw [show 0 + ((i : Int)).toNat * 1 = i by omega, List.getElem?_append_left (by simp; omega), List.getElem?_map, hii]; rfl)) rfl ?_
                    refine J.nil (JX.fin rfl (fun w hw => ⟨rfl, (by rw [hw.1]; exact Below.refl _ _)⟩))
                  · skip
                    refine Fin.cons (fun v21_9 => ?_)
                    refine Fin.cons (fun v21_13 => ?_)
                    refine Fin.cons (fun v21_4 => ?_)
                    refine Fin.nil ?_
                    refine J.prE (fun h => ?_); subst h
                    refine J.prE (fun h => ?_); subst h
                    refine J.prE (fun h => ?_); subst h
                    refine J.unguard rfl rfl rfl ?_
                    refine J.bin rfl rfl rfl rfl ?_
                    refine J.name 103 rfl (show Value.bool _ = .bool false by simp) ?_
                    refine J.nil (JX.fin rfl (fun w hw => ⟨rfl, (by rw [hw.1]; exact Below.refl _ _)⟩))
                  · skip
                    refine Fin.cons (fun v21_4 => ?_)
                    refine Fin.cons (fun v21_14 => ?_)
                    refine Fin.nil ?_
                    refine J.prE (fun h => ?_); subst h
                    refine J.prE (fun h => ?_); subst h
                    (first | refine J.pickT rfl rfl rfl ?_ | refine J.pickF rfl rfl rfl ?_)
                    refine J.nil (JX.fin rfl (fun w hw => ⟨rfl, (by rw [hw.1]; exact Below.refl _ _)⟩))
                case htail =>
                  refine Fin.cons (fun v21_0 => ?_)
                  refine Fin.cons (fun v21_1 => ?_)
                  refine Fin.cons (fun v21_2 => ?_)
                  refine Fin.cons (fun v21_3 => ?_)
                  refine Fin.cons (fun v21_4 => ?_)
                  refine Fin.cons (fun v21_5 => ?_)
                  refine Fin.cons (fun v21_6 => ?_)
                  refine Fin.cons (fun v21_7 => ?_)
                  refine Fin.cons (fun v21_8 => ?_)
                  refine Fin.cons (fun v21_9 => ?_)
                  refine Fin.cons (fun v21_10 => ?_)
                  refine Fin.cons (fun v21_11 => ?_)
                  refine Fin.cons (fun v21_12 => ?_)
                  refine Fin.cons (fun v21_13 => ?_)
                  refine Fin.cons (fun v21_14 => ?_)
                  refine Fin.cons (fun v21_15 => ?_)
                  refine Fin.nil ?_
                  refine J.prE (fun h => ?_); subst h
                  refine J.prE (fun h => ?_); subst h
                  refine J.prE (fun h => ?_); subst h
                  refine J.prE (fun h => ?_); subst h
                  refine J.prE (fun h => ?_); subst h
                  refine J.prE (fun h => ?_); subst h
                  refine J.prE (fun h => ?_); subst h
                  refine J.prE (fun h => ?_); subst h
                  refine J.prE (fun h => ?_); subst h
                  refine J.prE (fun h => ?_); subst h
                  refine J.prE (fun h => ?_); subst h
                  refine J.prE (fun h => ?_); subst h
                  refine J.prE (fun h => ?_); subst h
                  refine J.prE (fun h => ?_); subst h
                  refine J.prE (fun h => ?_); subst h
                  refine J.prE (fun h => ?_); subst h
                  refine J.nil ?_
                  refine JX.thenN (hK27 _ _ ?_)
                  first | refine JC.condF rfl ?_ | refine JC.cond rfl (fun h => by first | (exfalso; simp at h; omega) | (simp at h)) (fun _ => ?_)
                  refine JC.skip ?_
                  refine JX.thenN (hK26 _ _ ?_)
                  refine JC.seq (fun K28 hK28 => ?_)
                  refine JC.region ?_
                  refine J.perm ([] ++ ((x14, cb (cD (.slice (some ⟨h, 0, none⟩) 1 1) mine false) 37) :: (h, cb (cH W[i] (cF 4 p (idW n0) (idW nl) (.slice ha W.length hc))) 54) :: (b5, cb [.slice (some ⟨q, 0, none⟩) W.length c5] 26) :: (q, cb (W.map iV ++ sp) 3) :: ((t, tabO 3 mb) :: (mb, .map es ck) :: (x7, cb (cI (idW n0)) 23) :: (x8, cb (cI (idW nl)) 23) :: (b50, cb (OP6.map bV) 4) :: (b3, cb (cP p) 25) :: lp))) (by (refine perm_cnt (fun _ => ?_)); simp only [cntB_append, cntB_cons, cntB_nil, Nat.add_zero, Nat.zero_add]; try ac_rfl) ?_
                  refine J.callS (α := Nat × Nat) (V := fun x => .pointer (some ⟨x.1, 0, none⟩)) (Pr := fun _ => True) (L := fun x => [(x.1, tabO 3 x.2), (x.2, .map #[] 0)]) (l1 := []) Ty.bd16 rfl rfl (fun w1 hw => (new_spec 3 w1).mono fun _ _ ⟨x, h1, h2⟩ => ⟨x, h1, trivial, h2⟩) (fun x _ => ?_)
                  obtain ⟨t2, mb2⟩ := x
                  simp only
                  refine J.conseq (I' := St w [] ((t2, tabO 3 mb2) :: (mb2, .map #[] 0) :: (x14, cb (cD (.slice (some ⟨h, 0, none⟩) 1 1) mine false) 37) :: (h, cb (cH W[i] (cF 4 p (idW n0) (idW nl) (.slice ha W.length hc))) 54) :: (b5, cb [.slice (some ⟨q, 0, none⟩) W.length c5] 26) :: (q, cb (W.map iV ++ sp) 3) :: (x7, cb (cI (idW n0)) 23) :: (x8, cb (cI (idW nl)) 23) :: (b50, cb (OP6.map bV) 4) :: (b3, cb (cP p) 25) :: lp)) ?_ (fun w1 hw => (hw.perm (l' := [(t, tabO 3 mb), (mb, .map es ck)] ++ ((t2, tabO 3 mb2) :: (mb2, .map #[] 0) :: (x14, cb (cD (.slice (some ⟨h, 0, none⟩) 1 1) mine false) 37) :: (h, cb (cH W[i] (cF 4 p (idW n0) (idW nl) (.slice ha W.length hc))) 54) :: (b5, cb [.slice (some ⟨q, 0, none⟩) W.length c5] 26) :: (q, cb (W.map iV ++ sp) 3) :: (x7, cb (cI (idW n0)) 23) :: (x8, cb (cI (idW nl)) 23) :: (b50, cb (OP6.map bV) 4) :: (b3, cb (cP p) 25) :: lp)) (by (refine perm_cnt (fun _ => ?_)); simp only [cntB_append, cntB_cons, cntB_nil, Nat.add_zero, Nat.zero_add]; try ac_rfl)).drop (List.sublist_append_right _ _))
                  refine J.assign rfl rfl ?_
                  refine J.nil ?_
                  refine JX.thenN (hK28 _ _ ?_)
                  apply JC.drawL 20 [Eqv (.pointer (some ⟨t2, 0, none⟩)), Eqv (.slice (some ⟨q, 0, none⟩) W.length c5), Eqv (iV (i : Int)), Eqv (.pointer (some ⟨q, 0 + (i : Int).toNat * 1, none⟩)), Eqv (iV W[i]), Eqv (.func (.func 22) #[] #[.pointer (some ⟨b5, 0, none⟩)]), Eqv (iV (i : Int)), Eqv (.agg (cI (idW W[i])).toArray), Eqv (.agg (cW W[i] (idW W[i])).toArray), Eqv (.slice (some ⟨q, 0, none⟩) W.length c5), Eqv (iV (i : Int)), Eqv (.int .i64 ((i : Int) - 1)), Eqv (.pointer (some ⟨q, 0 + ((i : Int) - 1).toNat * 1, none⟩)), Eqv (iV (W[i - 1]'(by omega))), Eqv (.pointer (some ⟨x14, 0 + 0, none⟩)), Eqv (.slice (some ⟨h, 0, none⟩) 1 1), Eqv (.pointer (some ⟨h, 0 + (0 : Int).toNat * 96, none⟩)), Eqv (.pointer (some ⟨h, 0 + (0 : Int).toNat * 96 + 1, none⟩)), Eqv (.agg (cF 4 p (idW n0) (idW nl) (.slice ha W.length hc)).toArray), Eqv (.slice (some ⟨b50, 0, none⟩) 6 6)] Ty.mixed rfl rfl rfl (by kernel_rfl) rfl rfl (fun w w' hw hb => hw.step hb) ⟨fun _ _ _ h _ => h, fun _ _ _ h _ => h, fun _ _ _ h _ => h, fun _ _ _ h _ => h, fun _ _ _ h _ => h, fun _ _ _ h _ => h, fun _ _ _ h _ => h, fun _ _ _ h _ => h, fun _ _ _ h _ => h, fun _ _ _ h _ => h, fun _ _ _ h _ => h, fun _ _ _ h _ => h, fun _ _ _ h _ => h, fun _ _ _ h _ => h, fun _ _ _ h _ => h, fun _ _ _ h _ => h, fun _ _ _ h _ => h, fun _ _ _ h _ => h, fun _ _ _ h _ => h, fun _ _ _ h _ => h, trivial⟩ ?hstep ?htail
                  case hstep =>
                    refine ⟨fun wi => ?_, fun wi => ?_, fun wi => ?_, fun wi => ?_, fun wi => ?_, fun wi => ?_, fun wi => ?_, fun wi => ?_, fun wi => ?_, fun wi => ?_, fun wi => ?_, fun wi => ?_, fun wi => ?_, fun wi => ?_, fun wi => ?_, fun wi => ?_, fun wi => ?_, fun wi => ?_, fun wi => ?_, fun wi => ?_, trivial⟩
                    · skip
                      refine Fin.nil ?_
                      refine J.move rfl rfl ?_
                      refine J.nil (JX.fin rfl (fun w hw => ⟨rfl, (by rw [hw.1]; exact Below.refl _ _)⟩))
                    · skip
                      refine Fin.nil ?_
                      (first | refine J.load1 Ty.a26 rfl (fun w hw => (cell_of (hw.2.own _ (.head _))).trans rfl) rfl ?_ | refine J.load1 Ty.a26 rfl (fun w hw => (cell_of (hw.2.own _ (.tail _ (.head _)))).trans rfl) rfl ?_ | refine J.load1 Ty.a26 rfl (fun w hw => (cell_of (hw.2.own _ (.tail _ (.tail _ (.head _))))).trans rfl) rfl ?_ | refine J.load1 Ty.a26 rfl (fun w hw => (cell_of (hw.2.own _ (.tail _ (.tail _ (.tail _ (.head _)))))).trans rfl) rfl ?_ | refine J.load1 Ty.a26 rfl (fun w hw => (cell_of (hw.2.own _ (.tail _ (.tail _ (.tail _ (.tail _ (.head _))))))).trans rfl) rfl ?_ | refine J.load1 Ty.a26 rfl (fun w hw => (cell_of (hw.2.own _ (.tail _ (.tail _ (.tail _ (.tail _ (.tail _ (.head _)))))))).trans rfl) rfl ?_ | refine J.load1 Ty.a26 rfl (fun w hw => (cell_of (hw.2.own _ (.tail _ (.tail _ (.tail _ (.tail _ (.tail _ (.tail _ (.head _))))))))).trans rfl) rfl ?_ | refine J.load1 Ty.a26 rfl (fun w hw => (cell_of (hw.2.own _ (.tail _ (.tail _ (.tail _ (.tail _ (.tail _ (.tail _ (.tail _ (.head _)))))))))).trans rfl) rfl ?_ | refine J.load1 Ty.a26 rfl (fun w hw => (cell_of (hw.2.own _ (.tail _ (.tail _ (.tail _ (.tail _ (.tail _ (.tail _ (.tail _ (.tail _ (.head _))))))))))).trans rfl) rfl ?_ | refine J.load1 Ty.a26 rfl (fun w hw => (cell_of (hw.2.own _ (.tail _ (.tail _ (.tail _ (.tail _ (.tail _ (.tail _ (.tail _ (.tail _ (.tail _ (.head _)))))))))))).trans rfl) rfl ?_ | refine J.load1 Ty.a26 rfl (fun w hw => (cell_of (hw.2.own _ (.tail _ (.tail _ (.tail _ (.tail _ (.tail _ (.tail _ (.tail _ (.tail _ (.tail _ (.tail _ (.head _))))))))))))).trans rfl) rfl ?_ | refine J.load1 Ty.a26 rfl (fun w hw => (cell_of (hw.2.own _ (.tail _ (.tail _ (.tail _ (.tail _ (.tail _ (.tail _ (.tail _ (.tail _ (.tail _ (.tail _ (.tail _ (.head _)))))))))))))).trans rfl) rfl ?_ | refine J.load1 Ty.a26 rfl (fun w hw => (cell_of (hw.2.own _ (List.mem_append_right _ (.head _)))).trans rfl) rfl ?_ | refine J.load1 Ty.a26 rfl (fun w hw => (cell_of (hw.2.own _ (List.mem_append_right _ (.tail _ (.head _))))).trans rfl) rfl ?_ | refine J.load1 Ty.a26 rfl (fun w hw => (cell_of (hw.2.own _ (List.mem_append_right _ (.tail _ (.tail _ (.head _)))))).trans rfl) rfl ?_ | refine J.load1 Ty.a26 rfl (fun w hw => (cell_of (hw.2.own _ (List.mem_append_right _ (.tail _ (.tail _ (.tail _ (.head _))))))).trans rfl) rfl ?_ | refine J.load1 Ty.a26 rfl (fun w hw => (cell_of (hw.2.own _ (List.mem_append_right _ (.tail _ (.tail _ (.tail _ (.tail _ (.head _)))))))).trans rfl) rfl ?_ | refine J.load1 Ty.a26 rfl (fun w hw => (cell_of (hw.2.own _ (List.mem_append_right _ (.tail _ (.tail _ (.tail _ (.tail _ (.tail _ (.head _))))))))).trans rfl) rfl ?_ | refine J.load1 Ty.a26 rfl (fun w hw => (cell_of (hw.2.own _ (List.mem_append_right _ (.tail _ (.tail _ (.tail _ (.tail _ (.tail _ (.tail _ (.head _)))))))))).trans rfl) rfl ?_ | refine J.load1 Ty.a26 rfl (fun w hw => (cell_of (hw.2.own _ (List.mem_append_right _ (.tail _ (.tail _ (.tail _ (.tail _ (.tail _ (.tail _ (.tail _ (.head _))))))))))).trans rfl) rfl ?_ | refine J.load1 Ty.a26 rfl (fun w hw => (cell_of (hw.2.own _ (List.mem_append_right _ (.tail _ (.tail _ (.tail _ (.tail _ (.tail _ (.tail _ (.tail _ (.tail _ (.head _)))))))))))).trans rfl) rfl ?_ | refine J.load1 Ty.a26 rfl (fun w hw => (cell_of (hw.2.own _ (List.mem_append_right _ (.tail _ (.tail _ (.tail _ (.tail _ (.tail _ (.tail _ (.tail _ (.tail _ (.tail _ (.head _))))))))))))).trans rfl) rfl ?_ | refine J.load1 Ty.a26 rfl (fun w hw => (cell_of (hw.2.own _ (List.mem_append_right _ (.tail _ (.tail _ (.tail _ (.tail _ (.tail _ (.tail _ (.tail _ (.tail _ (.tail _ (.tail _ (.head _)))))))))))))).trans rfl) rfl ?_ | refine J.load1 Ty.a26 rfl (fun w hw => (cell_of (hw.2.own _ (List.mem_append_right _ (.tail _ (.tail _ (.tail _ (.tail _ (.tail _ (.tail _ (.tail _ (.tail _ (.tail _ (.tail _ (.tail _ (.head _))))))))))))))).trans rfl) rfl ?_)
                      refine J.nil (JX.fin rfl (fun w hw => ⟨rfl, (by rw [hw.1]; exact Below.refl _ _)⟩))
                    · skip
                      refine Fin.nil ?_
                      refine J.move rfl rfl ?_
                      refine J.nil (JX.fin rfl (fun w hw => ⟨rfl, (by rw [hw.1]; exact Below.refl _ _)⟩))
                    · skip
                      refine Fin.cons (fun v24_1 => ?_)
                      refine Fin.cons (fun v24_2 => ?_)
                      refine Fin.nil ?_
                      refine J.prE (fun h => ?_); subst h
                      refine J.prE (fun h => ?_); subst h
                      refine J.indexAddrS Ty.el26 Ty.s3 rfl rfl (by omega) (by omega) rfl ?_
                      refine J.nil (JX.fin rfl (fun w hw => ⟨rfl, (by rw [hw.1]; exact Below.refl _ _)⟩))
                    · skip
                      refine Fin.cons (fun v24_3 => ?_)
                      refine Fin.nil ?_
                      refine J.prE (fun h => ?_); subst h
                      refine J.load1 (v := iV W[i]) Ty.a3 rfl (fun w1 hw => (cell_of (hw.2.own _ (.tail _ (.tail _ (.tail _ (.tail _ (.tail _ (.head _)))))))).trans (by rw [show 0 + ((i : Int)).toNat * 1 = i by omega, List.getElem?_append_left (by simp; omega), List.getElem?_map, hii]; rfl)) rfl ?_
                      refine J.nil (JX.fin rfl (fun w hw => ⟨rfl, (by rw [hw.1]; exact Below.refl _ _)⟩))
                    · skip
                      refine Fin.nil ?_
                      refine J.move rfl rfl ?_
                      refine J.nil (JX.fin rfl (fun w hw => ⟨rfl, (by rw [hw.1]; exact Below.refl _ _)⟩))
                    · skip
                      refine Fin.nil ?_
                      refine J.move rfl rfl ?_
                      refine J.nil (JX.fin rfl (fun w hw => ⟨rfl, (by rw [hw.1]; exact Below.refl _ _)⟩))
                    · skip
                      refine Fin.cons (fun v24_5 => ?_)
                      refine Fin.cons (fun v24_6 => ?_)
                      refine Fin.nil ?_
                      refine J.prE (fun h => ?_); subst h
                      refine J.prE (fun h => ?_); subst h
                      refine J.callVD (v := .agg (cI (idW W[i])).toArray) Ty.bd22 rfl rfl rfl (fun w1 hw => by simpa using idc_spec b5 q c5 W sp w1 (St.owns (l1 := [(b5, cb [.slice (some ⟨q, 0, none⟩) W.length c5] 26), (q, cb (W.map iV ++ sp) 3)]) (l := (t2, tabO 3 mb2) :: (mb2, .map #[] 0) :: (x14, cb (cD (.slice (some ⟨h, 0, none⟩) 1 1) mine false) 37) :: (h, cb (cH W[i] (cF 4 p (idW n0) (idW nl) (.slice ha W.length hc))) 54) :: (x7, cb (cI (idW n0)) 23) :: (x8, cb (cI (idW nl)) 23) :: (b50, cb (OP6.map bV) 4) :: (b3, cb (cP p) 25) :: lp) (hw.perm (by (refine perm_cnt (fun _ => ?_)); simp only [cntB_append, cntB_cons, cntB_nil, Nat.add_zero, Nat.zero_add]; try ac_rfl))) hcq (i : Int) i rfl W[i] hii hri) ?_
                      refine J.nil (JX.fin rfl (fun w hw => ⟨rfl, hw⟩))
                    · skip
                      refine Fin.cons (fun v24_4 => ?_)
                      refine Fin.cons (fun v24_7 => ?_)
                      refine Fin.nil ?_
                      refine J.prE (fun h => ?_); subst h
                      refine J.prE (fun h => ?_); subst h
                      refine J.buildS (cs := cW W[i] (idW W[i])) Ty.pl41 zW rfl (by kernel_rfl) rfl ?_
                      refine J.nil (JX.fin rfl (fun w hw => ⟨rfl, (by rw [hw.1]; exact Below.refl _ _)⟩))
                    · skip
                      refine Fin.nil ?_
                      (first | refine J.load1 Ty.a26 rfl (fun w hw => (cell_of (hw.2.own _ (.head _))).trans rfl) rfl ?_ | refine J.load1 Ty.a26 rfl (fun w hw => (cell_of (hw.2.own _ (.tail _ (.head _)))).trans rfl) rfl ?_ | refine J.load1 Ty.a26 rfl (fun w hw => (cell_of (hw.2.own _ (.tail _ (.tail _ (.head _))))).trans rfl) rfl ?_ | refine J.load1 Ty.a26 rfl (fun w hw => (cell_of (hw.2.own _ (.tail _ (.tail _ (.tail _ (.head _)))))).trans rfl) rfl ?_ | refine J.load1 Ty.a26 rfl (fun w hw => (cell_of (hw.2.own _ (.tail _ (.tail _ (.tail _ (.tail _ (.head _))))))).trans rfl) rfl ?_ | refine J.load1 Ty.a26 rfl (fun w hw => (cell_of (hw.2.own _ (.tail _ (.tail _ (.tail _ (.tail _ (.tail _ (.head _)))))))).trans rfl) rfl ?_ | refine J.load1 Ty.a26 rfl (fun w hw => (cell_of (hw.2.own _ (.tail _ (.tail _ (.tail _ (.tail _ (.tail _ (.tail _ (.head _))))))))).trans rfl) rfl ?_ | refine J.load1 Ty.a26 rfl (fun w hw => (cell_of (hw.2.own _ (.tail _ (.tail _ (.tail _ (.tail _ (.tail _ (.tail _ (.tail _ (.head _)))))))))).trans rfl) rfl ?_ | refine J.load1 Ty.a26 rfl (fun w hw => (cell_of (hw.2.own _ (.tail _ (.tail _ (.tail _ (.tail _ (.tail _ (.tail _ (.tail _ (.tail _ (.head _))))))))))).trans rfl) rfl ?_ | refine J.load1 Ty.a26 rfl (fun w hw => (cell_of (hw.2.own _ (.tail _ (.tail _ (.tail _ (.tail _ (.tail _ (.tail _ (.tail _ (.tail _ (.tail _ (.head _)))))))))))).trans rfl) rfl ?_ | refine J.load1 Ty.a26 rfl (fun w hw => (cell_of (hw.2.own _ (.tail _ (.tail _ (.tail _ (.tail _ (.tail _ (.tail _ (.tail _ (.tail _ (.tail _ (.tail _ (.head _))))))))))))).trans rfl) rfl ?_ | refine J.load1 Ty.a26 rfl (fun w hw => (cell_of (hw.2.own _ (.tail _ (.tail _ (.tail _ (.tail _ (.tail _ (.tail _ (.tail _ (.tail _ (.tail _ (.tail _ (.tail _ (.head _)))))))))))))).trans rfl) rfl ?_ | refine J.load1 Ty.a26 rfl (fun w hw => (cell_of (hw.2.own _ (List.mem_append_right _ (.head _)))).trans rfl) rfl ?_ | refine J.load1 Ty.a26 rfl (fun w hw => (cell_of (hw.2.own _ (List.mem_append_right _ (.tail _ (.head _))))).trans rfl) rfl ?_ | refine J.load1 Ty.a26 rfl (fun w hw => (cell_of (hw.2.own _ (List.mem_append_right _ (.tail _ (.tail _ (.head _)))))).trans rfl) rfl ?_ | refine J.load1 Ty.a26 rfl (fun w hw => (cell_of (hw.2.own _ (List.mem_append_right _ (.tail _ (.tail _ (.tail _ (.head _))))))).trans rfl) rfl ?_ | refine J.load1 Ty.a26 rfl (fun w hw => (cell_of (hw.2.own _ (List.mem_append_right _ (.tail _ (.tail _ (.tail _ (.tail _ (.head _)))))))).trans rfl) rfl ?_ | refine J.load1 Ty.a26 rfl (fun w hw => (cell_of (hw.2.own _ (List.mem_append_right _ (.tail _ (.tail _ (.tail _ (.tail _ (.tail _ (.head _))))))))).trans rfl) rfl ?_ | refine J.load1 Ty.a26 rfl (fun w hw => (cell_of (hw.2.own _ (List.mem_append_right _ (.tail _ (.tail _ (.tail _ (.tail _ (.tail _ (.tail _ (.head _)))))))))).trans rfl) rfl ?_ | refine J.load1 Ty.a26 rfl (fun w hw => (cell_of (hw.2.own _ (List.mem_append_right _ (.tail _ (.tail _ (.tail _ (.tail _ (.tail _ (.tail _ (.tail _ (.head _))))))))))).trans rfl) rfl ?_ | refine J.load1 Ty.a26 rfl (fun w hw => (cell_of (hw.2.own _ (List.mem_append_right _ (.tail _ (.tail _ (.tail _ (.tail _ (.tail _ (.tail _ (.tail _ (.tail _ (.head _)))))))))))).trans rfl) rfl ?_ | refine J.load1 Ty.a26 rfl (fun w hw => (cell_of (hw.2.own _ (List.mem_append_right _ (.tail _ (.tail _ (.tail _ (.tail _ (.tail _ (.tail _ (.tail _ (.tail _ (.tail _ (.head _))))))))))))).trans rfl) rfl ?_ | refine J.load1 Ty.a26 rfl (fun w hw => (cell_of (hw.2.own _ (List.mem_append_right _ (.tail _ (.tail _ (.tail _ (.tail _ (.tail _ (.tail _ (.tail _ (.tail _ (.tail _ (.tail _ (.head _)))))))))))))).trans rfl) rfl ?_ | refine J.load1 Ty.a26 rfl (fun w hw => (cell_of (hw.2.own _ (List.mem_append_right _ (.tail _ (.tail _ (.tail _ (.tail _ (.tail _ (.tail _ (.tail _ (.tail _ (.tail _ (.tail _ (.tail _ (.head _))))))))))))))).trans rfl) rfl ?_)
                      refine J.nil (JX.fin rfl (fun w hw => ⟨rfl, (by rw [hw.1]; exact Below.refl _ _)⟩))
                    · skip
                      refine Fin.nil ?_
                      refine J.move rfl rfl ?_
                      refine J.nil (JX.fin rfl (fun w hw => ⟨rfl, (by rw [hw.1]; exact Below.refl _ _)⟩))
                    · skip
                      refine Fin.cons (fun v24_10 => ?_)
                      refine Fin.nil ?_
                      refine J.prE (fun h => ?_); subst h
                      (first | refine J.subN rfl rfl (by omega) (by omega) rfl ?_ | refine J.bin rfl rfl rfl rfl ?_)
                      refine J.nil (JX.fin rfl (fun w hw => ⟨rfl, (by rw [hw.1]; exact Below.refl _ _)⟩))
                    · skip
                      refine Fin.cons (fun v24_9 => ?_)
                      refine Fin.cons (fun v24_11 => ?_)
                      refine Fin.nil ?_
                      refine J.prE (fun h => ?_); subst h
                      refine J.prE (fun h => ?_); subst h
                      refine J.indexAddrS Ty.el26 Ty.s3 rfl rfl (by omega) (by omega) rfl ?_
                      refine J.nil (JX.fin rfl (fun w hw => ⟨rfl, (by rw [hw.1]; exact Below.refl _ _)⟩))
                    · skip
                      refine Fin.cons (fun v24_12 => ?_)
                      refine Fin.nil ?_
                      refine J.prE (fun h => ?_); subst h
                      refine J.load1 (v := iV (W[i - 1]'(by omega))) Ty.a3 rfl (fun w1 hw => (cell_of (hw.2.own _ (.tail _ (.tail _ (.tail _ (.tail _ (.tail _ (.head _)))))))).trans (by rw [show 0 + ((i : Int) - 1).toNat * 1 = i - 1 by omega, List.getElem?_append_left (by simp; omega), List.getElem?_map, List.getElem?_eq_getElem (show i - 1 < W.length by omega)]; rfl)) rfl ?_
                      refine J.nil (JX.fin rfl (fun w hw => ⟨rfl, (by rw [hw.1]; exact Below.refl _ _)⟩))
                    · skip
                      refine Fin.nil ?_
                      refine J.fieldAddr Ty.fd37_0 rfl rfl ?_
                      refine J.nil (JX.fin rfl (fun w hw => ⟨rfl, (by rw [hw.1]; exact Below.refl _ _)⟩))
                    · skip
                      refine Fin.cons (fun v24_14 => ?_)
                      refine Fin.nil ?_
                      refine J.prE (fun h => ?_); subst h
                      (first | refine J.load1 Ty.a35 rfl (fun w hw => (cell_of (hw.2.own _ (.head _))).trans rfl) rfl ?_ | refine J.load1 Ty.a35 rfl (fun w hw => (cell_of (hw.2.own _ (.tail _ (.head _)))).trans rfl) rfl ?_ | refine J.load1 Ty.a35 rfl (fun w hw => (cell_of (hw.2.own _ (.tail _ (.tail _ (.head _))))).trans rfl) rfl ?_ | refine J.load1 Ty.a35 rfl (fun w hw => (cell_of (hw.2.own _ (.tail _ (.tail _ (.tail _ (.head _)))))).trans rfl) rfl ?_ | refine J.load1 Ty.a35 rfl (fun w hw => (cell_of (hw.2.own _ (.tail _ (.tail _ (.tail _ (.tail _ (.head _))))))).trans rfl) rfl ?_ | refine J.load1 Ty.a35 rfl (fun w hw => (cell_of (hw.2.own _ (.tail _ (.tail _ (.tail _ (.tail _ (.tail _ (.head _)))))))).trans rfl) rfl ?_ | refine J.load1 Ty.a35 rfl (fun w hw => (cell_of (hw.2.own _ (.tail _ (.tail _ (.tail _ (.tail _ (.tail _ (.tail _ (.head _))))))))).trans rfl) rfl ?_ | refine J.load1 Ty.a35 rfl (fun w hw => (cell_of (hw.2.own _ (.tail _ (.tail _ (.tail _ (.tail _ (.tail _ (.tail _ (.tail _ (.head _)))))))))).trans rfl) rfl ?_ | refine J.load1 Ty.a35 rfl (fun w hw => (cell_of (hw.2.own _ (.tail _ (.tail _ (.tail _ (.tail _ (.tail _ (.tail _ (.tail _ (.tail _ (.head _))))))))))).trans rfl) rfl ?_ | refine J.load1 Ty.a35 rfl (fun w hw => (cell_of (hw.2.own _ (.tail _ (.tail _ (.tail _ (.tail _ (.tail _ (.tail _ (.tail _ (.tail _ (.tail _ (.head _)))))))))))).trans rfl) rfl ?_ | refine J.load1 Ty.a35 rfl (fun w hw => (cell_of (hw.2.own _ (.tail _ (.tail _ (.tail _ (.tail _ (.tail _ (.tail _ (.tail _ (.tail _ (.tail _ (.tail _ (.head _))))))))))))).trans rfl) rfl ?_ | refine J.load1 Ty.a35 rfl (fun w hw => (cell_of (hw.2.own _ (.tail _ (.tail _ (.tail _ (.tail _ (.tail _ (.tail _ (.tail _ (.tail _ (.tail _ (.tail _ (.tail _ (.head _)))))))))))))).trans rfl) rfl ?_ | refine J.load1 Ty.a35 rfl (fun w hw => (cell_of (hw.2.own _ (List.mem_append_right _ (.head _)))).trans rfl) rfl ?_ | refine J.load1 Ty.a35 rfl (fun w hw => (cell_of (hw.2.own _ (List.mem_append_right _ (.tail _ (.head _))))).trans rfl) rfl ?_ | refine J.load1 Ty.a35 rfl (fun w hw => (cell_of (hw.2.own _ (List.mem_append_right _ (.tail _ (.tail _ (.head _)))))).trans rfl) rfl ?_ | refine J.load1 Ty.a35 rfl (fun w hw => (cell_of (hw.2.own _ (List.mem_append_right _ (.tail _ (.tail _ (.tail _ (.head _))))))).trans rfl) rfl ?_ | refine J.load1 Ty.a35 rfl (fun w hw => (cell_of (hw.2.own _ (List.mem_append_right _ (.tail _ (.tail _ (.tail _ (.tail _ (.head _)))))))).trans rfl) rfl ?_ | refine J.load1 Ty.a35 rfl (fun w hw => (cell_of (hw.2.own _ (List.mem_append_right _ (.tail _ (.tail _ (.tail _ (.tail _ (.tail _ (.head _))))))))).trans rfl) rfl ?_ | refine J.load1 Ty.a35 rfl (fun w hw => (cell_of (hw.2.own _ (List.mem_append_right _ (.tail _ (.tail _ (.tail _ (.tail _ (.tail _ (.tail _ (.head _)))))))))).trans rfl) rfl ?_ | refine J.load1 Ty.a35 rfl (fun w hw => (cell_of (hw.2.own _ (List.mem_append_right _ (.tail _ (.tail _ (.tail _ (.tail _ (.tail _ (.tail _ (.tail _ (.head _))))))))))).trans rfl) rfl ?_ | refine J.load1 Ty.a35 rfl (fun w hw => (cell_of (hw.2.own _ (List.mem_append_right _ (.tail _ (.tail _ (.tail _ (.tail _ (.tail _ (.tail _ (.tail _ (.tail _ (.head _)))))))))))).trans rfl) rfl ?_ | refine J.load1 Ty.a35 rfl (fun w hw => (cell_of (hw.2.own _ (List.mem_append_right _ (.tail _ (.tail _ (.tail _ (.tail _ (.tail _ (.tail _ (.tail _ (.tail _ (.tail _ (.head _))))))))))))).trans rfl) rfl ?_ | refine J.load1 Ty.a35 rfl (fun w hw => (cell_of (hw.2.own _ (List.mem_append_right _ (.tail _ (.tail _ (.tail _ (.tail _ (.tail _ (.tail _ (.tail _ (.tail _ (.tail _ (.tail _ (.head _)))))))))))))).trans rfl) rfl ?_ | refine J.load1 Ty.a35 rfl (fun w hw => (cell_of (hw.2.own _ (List.mem_append_right _ (.tail _ (.tail _ (.tail _ (.tail _ (.tail _ (.tail _ (.tail _ (.tail _ (.tail _ (.tail _ (.tail _ (.head _))))))))))))))).trans rfl) rfl ?_)
                      refine J.nil (JX.fin rfl (fun w hw => ⟨rfl, (by rw [hw.1]; exact Below.refl _ _)⟩))
                    · skip
                      refine Fin.cons (fun v24_15 => ?_)
                      refine Fin.nil ?_
                      refine J.prE (fun h => ?_); subst h
                      refine J.indexAddrS Ty.el35 Ty.s54 rfl rfl (by omega) (by omega) rfl ?_
                      refine J.nil (JX.fin rfl (fun w hw => ⟨rfl, (by rw [hw.1]; exact Below.refl _ _)⟩))
                    · skip
                      refine Fin.cons (fun v24_16 => ?_)
                      refine Fin.nil ?_
                      refine J.prE (fun h => ?_); subst h
                      refine J.fieldAddr Ty.fd54_1 rfl rfl ?_
                      refine J.nil (JX.fin rfl (fun w hw => ⟨rfl, (by rw [hw.1]; exact Below.refl _ _)⟩))
                    · skip
                      refine Fin.cons (fun v24_17 => ?_)
                      refine Fin.nil ?_
                      refine J.prE (fun h => ?_); subst h
                      (first | refine J.loadA (vs := cF 4 p (idW n0) (idW nl) (.slice ha W.length hc)) Ty.a52 Ty.s52 rfl rfl (fun w hw => Cells.of_block (hw.2.own _ (.head _)) rfl) rfl ?_ | refine J.loadA (vs := cF 4 p (idW n0) (idW nl) (.slice ha W.length hc)) Ty.a52 Ty.s52 rfl rfl (fun w hw => Cells.of_block (hw.2.own _ (.tail _ (.head _))) rfl) rfl ?_ | refine J.loadA (vs := cF 4 p (idW n0) (idW nl) (.slice ha W.length hc)) Ty.a52 Ty.s52 rfl rfl (fun w hw => Cells.of_block (hw.2.own _ (.tail _ (.tail _ (.head _)))) rfl) rfl ?_ | refine J.loadA (vs := cF 4 p (idW n0) (idW nl) (.slice ha W.length hc)) Ty.a52 Ty.s52 rfl rfl (fun w hw => Cells.of_block (hw.2.own _ (.tail _ (.tail _ (.tail _ (.head _))))) rfl) rfl ?_ | refine J.loadA (vs := cF 4 p (idW n0) (idW nl) (.slice ha W.length hc)) Ty.a52 Ty.s52 rfl rfl (fun w hw => Cells.of_block (hw.2.own _ (.tail _ (.tail _ (.tail _ (.tail _ (.head _)))))) rfl) rfl ?_ | refine J.loadA (vs := cF 4 p (idW n0) (idW nl) (.slice ha W.length hc)) Ty.a52 Ty.s52 rfl rfl (fun w hw => Cells.of_block (hw.2.own _ (.tail _ (.tail _ (.tail _ (.tail _ (.tail _ (.head _))))))) rfl) rfl ?_ | refine J.loadA (vs := cF 4 p (idW n0) (idW nl) (.slice ha W.length hc)) Ty.a52 Ty.s52 rfl rfl (fun w hw => Cells.of_block (hw.2.own _ (.tail _ (.tail _ (.tail _ (.tail _ (.tail _ (.tail _ (.head _)))))))) rfl) rfl ?_ | refine J.loadA (vs := cF 4 p (idW n0) (idW nl) (.slice ha W.length hc)) Ty.a52 Ty.s52 rfl rfl (fun w hw => Cells.of_block (hw.2.own _ (.tail _ (.tail _ (.tail _ (.tail _ (.tail _ (.tail _ (.tail _ (.head _))))))))) rfl) rfl ?_ | refine J.loadA (vs := cF 4 p (idW n0) (idW nl) (.slice ha W.length hc)) Ty.a52 Ty.s52 rfl rfl (fun w hw => Cells.of_block (hw.2.own _ (.tail _ (.tail _ (.tail _ (.tail _ (.tail _ (.tail _ (.tail _ (.tail _ (.head _)))))))))) rfl) rfl ?_ | refine J.loadA (vs := cF 4 p (idW n0) (idW nl) (.slice ha W.length hc)) Ty.a52 Ty.s52 rfl rfl (fun w hw => Cells.of_block (hw.2.own _ (.tail _ (.tail _ (.tail _ (.tail _ (.tail _ (.tail _ (.tail _ (.tail _ (.tail _ (.head _))))))))))) rfl) rfl ?_ | refine J.loadA (vs := cF 4 p (idW n0) (idW nl) (.slice ha W.length hc)) Ty.a52 Ty.s52 rfl rfl (fun w hw => Cells.of_block (hw.2.own _ (.tail _ (.tail _ (.tail _ (.tail _ (.tail _ (.tail _ (.tail _ (.tail _ (.tail _ (.tail _ (.head _)))))))))))) rfl) rfl ?_ | refine J.loadA (vs := cF 4 p (idW n0) (idW nl) (.slice ha W.length hc)) Ty.a52 Ty.s52 rfl rfl (fun w hw => Cells.of_block (hw.2.own _ (.tail _ (.tail _ (.tail _ (.tail _ (.tail _ (.tail _ (.tail _ (.tail _ (.tail _ (.tail _ (.tail _ (.head _))))))))))))) rfl) rfl ?_ | refine J.loadA (vs := cF 4 p (idW n0) (idW nl) (.slice ha W.length hc)) Ty.a52 Ty.s52 rfl rfl (fun w hw => Cells.of_block (hw.2.own _ (List.mem_append_right _ (.head _))) rfl) rfl ?_ | refine J.loadA (vs := cF 4 p (idW n0) (idW nl) (.slice ha W.length hc)) Ty.a52 Ty.s52 rfl rfl (fun w hw => Cells.of_block (hw.2.own _ (List.mem_append_right _ (.tail _ (.head _)))) rfl) rfl ?_ | refine J.loadA (vs := cF 4 p (idW n0) (idW nl) (.slice ha W.length hc)) Ty.a52 Ty.s52 rfl rfl (fun w hw => Cells.of_block (hw.2.own _ (List.mem_append_right _ (.tail _ (.tail _ (.head _))))) rfl) rfl ?_ | refine J.loadA (vs := cF 4 p (idW n0) (idW nl) (.slice ha W.length hc)) Ty.a52 Ty.s52 rfl rfl (fun w hw => Cells.of_block (hw.2.own _ (List.mem_append_right _ (.tail _ (.tail _ (.tail _ (.head _)))))) rfl) rfl ?_ | refine J.loadA (vs := cF 4 p (idW n0) (idW nl) (.slice ha W.length hc)) Ty.a52 Ty.s52 rfl rfl (fun w hw => Cells.of_block (hw.2.own _ (List.mem_append_right _ (.tail _ (.tail _ (.tail _ (.tail _ (.head _))))))) rfl) rfl ?_ | refine J.loadA (vs := cF 4 p (idW n0) (idW nl) (.slice ha W.length hc)) Ty.a52 Ty.s52 rfl rfl (fun w hw => Cells.of_block (hw.2.own _ (List.mem_append_right _ (.tail _ (.tail _ (.tail _ (.tail _ (.tail _ (.head _)))))))) rfl) rfl ?_ | refine J.loadA (vs := cF 4 p (idW n0) (idW nl) (.slice ha W.length hc)) Ty.a52 Ty.s52 rfl rfl (fun w hw => Cells.of_block (hw.2.own _ (List.mem_append_right _ (.tail _ (.tail _ (.tail _ (.tail _ (.tail _ (.tail _ (.head _))))))))) rfl) rfl ?_ | refine J.loadA (vs := cF 4 p (idW n0) (idW nl) (.slice ha W.length hc)) Ty.a52 Ty.s52 rfl rfl (fun w hw => Cells.of_block (hw.2.own _ (List.mem_append_right _ (.tail _ (.tail _ (.tail _ (.tail _ (.tail _ (.tail _ (.tail _ (.head _)))))))))) rfl) rfl ?_ | refine J.loadA (vs := cF 4 p (idW n0) (idW nl) (.slice ha W.length hc)) Ty.a52 Ty.s52 rfl rfl (fun w hw => Cells.of_block (hw.2.own _ (List.mem_append_right _ (.tail _ (.tail _ (.tail _ (.tail _ (.tail _ (.tail _ (.tail _ (.tail _ (.head _))))))))))) rfl) rfl ?_ | refine J.loadA (vs := cF 4 p (idW n0) (idW nl) (.slice ha W.length hc)) Ty.a52 Ty.s52 rfl rfl (fun w hw => Cells.of_block (hw.2.own _ (List.mem_append_right _ (.tail _ (.tail _ (.tail _ (.tail _ (.tail _ (.tail _ (.tail _ (.tail _ (.tail _ (.head _)))))))))))) rfl) rfl ?_ | refine J.loadA (vs := cF 4 p (idW n0) (idW nl) (.slice ha W.length hc)) Ty.a52 Ty.s52 rfl rfl (fun w hw => Cells.of_block (hw.2.own _ (List.mem_append_right _ (.tail _ (.tail _ (.tail _ (.tail _ (.tail _ (.tail _ (.tail _ (.tail _ (.tail _ (.tail _ (.head _))))))))))))) rfl) rfl ?_ | refine J.loadA (vs := cF 4 p (idW n0) (idW nl) (.slice ha W.length hc)) Ty.a52 Ty.s52 rfl rfl (fun w hw => Cells.of_block (hw.2.own _ (List.mem_append_right _ (.tail _ (.tail _ (.tail _ (.tail _ (.tail _ (.tail _ (.tail _ (.tail _ (.tail _ (.tail _ (.tail _ (.head _)))))))))))))) rfl) rfl ?_)
                      refine J.nil (JX.fin rfl (fun w hw => ⟨rfl, (by rw [hw.1]; exact Below.refl _ _)⟩))
                    · skip
                      refine Fin.nil ?_
                      refine J.move rfl rfl ?_
                      refine J.nil (JX.fin rfl (fun w hw => ⟨rfl, (by rw [hw.1]; exact Below.refl _ _)⟩))
                  case htail =>
                    refine Fin.cons (fun v24_0 => ?_)
                    refine Fin.cons (fun v24_1 => ?_)
                    refine Fin.cons (fun v24_2 => ?_)
                    refine Fin.cons (fun v24_3 => ?_)
                    refine Fin.cons (fun v24_4 => ?_)
                    refine Fin.cons (fun v24_5 => ?_)
                    refine Fin.cons (fun v24_6 => ?_)
                    refine Fin.cons (fun v24_7 => ?_)
                    refine Fin.cons (fun v24_8 => ?_)
                    refine Fin.cons (fun v24_9 => ?_)
                    refine Fin.cons (fun v24_10 => ?_)
                    refine Fin.cons (fun v24_11 => ?_)
                    refine Fin.cons (fun v24_12 => ?_)
                    refine Fin.cons (fun v24_13 => ?_)
                    refine Fin.cons (fun v24_14 => ?_)
                    refine Fin.cons (fun v24_15 => ?_)
                    refine Fin.cons (fun v24_16 => ?_)
                    refine Fin.cons (fun v24_17 => ?_)
                    refine Fin.cons (fun v24_18 => ?_)
                    refine Fin.cons (fun v24_19 => ?_)
                    refine Fin.nil ?_
                    refine J.prE (fun h => ?_); subst h
                    refine J.prE (fun h => ?_); subst h
                    refine J.prE (fun h => ?_); subst h
                    refine J.prE (fun h => ?_); subst h
                    refine J.prE (fun h => ?_); subst h
                    refine J.prE (fun h => ?_); subst h
                    refine J.prE (fun h => ?_); subst h
                    refine J.prE (fun h => ?_); subst h
                    refine J.prE (fun h => ?_); subst h
                    refine J.prE (fun h => ?_); subst h
                    refine J.prE (fun h => ?_); subst h
                    refine J.prE (fun h => ?_); subst h
                    refine J.prE (fun h => ?_); subst h
                    refine J.prE (fun h => ?_); subst h
                    refine J.prE (fun h => ?_); subst h
                    refine J.prE (fun h => ?_); subst h
                    refine J.prE (fun h => ?_); subst h
                    refine J.prE (fun h => ?_); subst h
                    refine J.prE (fun h => ?_); subst h
                    refine J.prE (fun h => ?_); subst h
                    refine J.perm ([(t2, tabO 3 mb2), (mb2, .map #[] 0)] ++ ((x14, cb (cD (.slice (some ⟨h, 0, none⟩) 1 1) mine false) 37) :: (h, cb (cH W[i] (cF 4 p (idW n0) (idW nl) (.slice ha W.length hc))) 54) :: (b5, cb [.slice (some ⟨q, 0, none⟩) W.length c5] 26) :: (q, cb (W.map iV ++ sp) 3) :: (x7, cb (cI (idW n0)) 23) :: (x8, cb (cI (idW nl)) 23) :: (b50, cb (OP6.map bV) 4) :: (b3, cb (cP p) 25) :: lp)) (.refl _) ?_
                    refine J.callS (α := WX) (V := fun x => .agg (cD x.out x.mine false).toArray) (Pr := fun x => HopAt W (i + 1) p (idW n0) (idW nl) x.out x.mine x.hl ∧ Tab [(⟨p, idW n0, idW nl, naW W i, nbW W i⟩ : EV)] x.es x.ck) (L := fun x => x.hl ++ [(t2, tabO 3 mb2), (mb2, .map x.es x.ck)]) (l1 := [(t2, tabO 3 mb2), (mb2, .map #[] 0)]) Ty.bd19 rfl rfl
                      (fun w1 hw => take_whole t2 mb2 w1 hw.owns W hnd hran (by omega) i hi1 hlt p hkp (idW n0) (idW nl) (idW_ne hr0 hrl hne0l) (fun he => by
                          have e : W[W.length - 1]? = some W[i] := by rw [show W.length - 1 = i by omega]; exact hii
                          rw [hnl] at e
                          rw [Option.some.inj e]) (.slice ha W.length hc)
                        (hvh.row (l := (t2, tabO 3 mb2) :: (mb2, .map #[] 0) :: (x14, cb (cD (.slice (some ⟨h, 0, none⟩) 1 1) mine false) 37) :: (h, cb (cH W[i] (cF 4 p (idW n0) (idW nl) (.slice ha W.length hc))) 54) :: (b5, cb [.slice (some ⟨q, 0, none⟩) W.length c5] 26) :: (q, cb (W.map iV ++ sp) 3) :: (x7, cb (cI (idW n0)) 23) :: (x8, cb (cI (idW nl)) 23) :: (b50, cb (OP6.map bV) 4) :: (b3, cb (cP p) 25) :: []) (hw.perm (by (refine perm_cnt (fun _ => ?_)); simp only [cntB_append, cntB_cons, cntB_nil, Nat.add_zero, Nat.zero_add]; try ac_rfl))) (hvh.off (l1 := [(t2, tabO 3 mb2), (mb2, .map #[] 0)]) (l := (x14, cb (cD (.slice (some ⟨h, 0, none⟩) 1 1) mine false) 37) :: (h, cb (cH W[i] (cF 4 p (idW n0) (idW nl) (.slice ha W.length hc))) 54) :: (b5, cb [.slice (some ⟨q, 0, none⟩) W.length c5] 26) :: (q, cb (W.map iV ++ sp) 3) :: (x7, cb (cI (idW n0)) 23) :: (x8, cb (cI (idW nl)) 23) :: (b50, cb (OP6.map bV) 4) :: (b3, cb (cP p) 25) :: []) (hw.perm (by (refine perm_cnt (fun _ => ?_)); simp only [cntB_append, cntB_cons, cntB_nil, Nat.add_zero, Nat.zero_add]; try ac_rfl)))
                        (.slice (some ⟨b50, 0, none⟩) 6 6) (Row.own hw (.tail _ (.tail _ (.tail _ (.tail _ (.tail _ (.tail _ (.tail _ (.tail _ (.head _))))))))) rfl (Nat.le_refl _)) (Off.mk (hw.off (l1 := [(t2, tabO 3 mb2), (mb2, .map #[] 0)]) (.tail _ (.tail _ (.tail _ (.tail _ (.tail _ (.tail _ (.head _)))))))))) (fun x hx => ?_)
                    obtain ⟨out2, mine2, hl2, es2, ck2⟩ := x
                    simp only at hx ⊢
                    obtain ⟨hH2, hT2⟩ := hx
                    have hone := hH2.one
                    refine J.conseq (I' := St w [] ((x14, cb (cD (.slice (some ⟨h, 0, none⟩) 1 1) mine false) 37) :: (t2, tabO 3 mb2) :: (mb2, .map es2 ck2) :: (x7, cb (cI (idW n0)) 23) :: (x8, cb (cI (idW nl)) 23) :: (b50, cb (OP6.map bV) 4) :: (b5, cb [.slice (some ⟨q, 0, none⟩) W.length c5] 26) :: (b3, cb (cP p) 25) :: (q, cb (W.map iV ++ sp) 3) :: hl2)) ?_ (fun w1 hw => (hw.perm (l' := ((h, cb (cH W[i] (cF 4 p (idW n0) (idW nl) (.slice ha W.length hc))) 54) :: lp) ++ ((x14, cb (cD (.slice (some ⟨h, 0, none⟩) 1 1) mine false) 37) :: (t2, tabO 3 mb2) :: (mb2, .map es2 ck2) :: (x7, cb (cI (idW n0)) 23) :: (x8, cb (cI (idW nl)) 23) :: (b50, cb (OP6.map bV) 4) :: (b5, cb [.slice (some ⟨q, 0, none⟩) W.length c5] 26) :: (b3, cb (cP p) 25) :: (q, cb (W.map iV ++ sp) 3) :: hl2)) (by (refine perm_cnt (fun _ => ?_)); simp only [cntB_append, cntB_cons, cntB_nil, Nat.add_zero, Nat.zero_add]; try ac_rfl)).drop (List.sublist_append_right _ _))
                    refine J.storeW (cs := cD (.slice (some ⟨h, 0, none⟩) 1 1) mine false) (vs := cD out2 mine2 false) Ty.s37 rfl rfl rfl rfl rfl (cD_one hone) .here ?_
                    refine J.nil ?_
                    refine JX.thenN (hK24 _ _ ?_)
                    refine JC.seq (fun K29 hK29 => ?_)
                    refine JC.region ?_
                    (first | refine J.loadOA (vs := cP p) Ty.a25 Ty.s25 rfl (.head _) rfl rfl rfl ?_ | refine J.loadOA (vs := cP p) Ty.a25 Ty.s25 rfl (.tail _ (.head _)) rfl rfl rfl ?_ | refine J.loadOA (vs := cP p) Ty.a25 Ty.s25 rfl (.tail _ (.tail _ (.head _))) rfl rfl rfl ?_ | refine J.loadOA (vs := cP p) Ty.a25 Ty.s25 rfl (.tail _ (.tail _ (.tail _ (.head _)))) rfl rfl rfl ?_ | refine J.loadOA (vs := cP p) Ty.a25 Ty.s25 rfl (.tail _ (.tail _ (.tail _ (.tail _ (.head _))))) rfl rfl rfl ?_ | refine J.loadOA (vs := cP p) Ty.a25 Ty.s25 rfl (.tail _ (.tail _ (.tail _ (.tail _ (.tail _ (.head _)))))) rfl rfl rfl ?_ | refine J.loadOA (vs := cP p) Ty.a25 Ty.s25 rfl (.tail _ (.tail _ (.tail _ (.tail _ (.tail _ (.tail _ (.head _))))))) rfl rfl rfl ?_ | refine J.loadOA (vs := cP p) Ty.a25 Ty.s25 rfl (.tail _ (.tail _ (.tail _ (.tail _ (.tail _ (.tail _ (.tail _ (.head _)))))))) rfl rfl rfl ?_ | refine J.loadOA (vs := cP p) Ty.a25 Ty.s25 rfl (.tail _ (.tail _ (.tail _ (.tail _ (.tail _ (.tail _ (.tail _ (.tail _ (.head _))))))))) rfl rfl rfl ?_ | refine J.loadOA (vs := cP p) Ty.a25 Ty.s25 rfl (.tail _ (.tail _ (.tail _ (.tail _ (.tail _ (.tail _ (.tail _ (.tail _ (.tail _ (.head _)))))))))) rfl rfl rfl ?_ | refine J.loadOA (vs := cP p) Ty.a25 Ty.s25 rfl (.tail _ (.tail _ (.tail _ (.tail _ (.tail _ (.tail _ (.tail _ (.tail _ (.tail _ (.tail _ (.head _))))))))))) rfl rfl rfl ?_ | refine J.loadOA (vs := cP p) Ty.a25 Ty.s25 rfl (.tail _ (.tail _ (.tail _ (.tail _ (.tail _ (.tail _ (.tail _ (.tail _ (.tail _ (.tail _ (.tail _ (.head _)))))))))))) rfl rfl rfl ?_ | refine J.loadOA (vs := cP p) Ty.a25 Ty.s25 rfl (List.mem_append_right _ (.head _)) rfl rfl rfl ?_ | refine J.loadOA (vs := cP p) Ty.a25 Ty.s25 rfl (List.mem_append_right _ (.tail _ (.head _))) rfl rfl rfl ?_ | refine J.loadOA (vs := cP p) Ty.a25 Ty.s25 rfl (List.mem_append_right _ (.tail _ (.tail _ (.head _)))) rfl rfl rfl ?_ | refine J.loadOA (vs := cP p) Ty.a25 Ty.s25 rfl (List.mem_append_right _ (.tail _ (.tail _ (.tail _ (.head _))))) rfl rfl rfl ?_ | refine J.loadOA (vs := cP p) Ty.a25 Ty.s25 rfl (List.mem_append_right _ (.tail _ (.tail _ (.tail _ (.tail _ (.head _)))))) rfl rfl rfl ?_ | refine J.loadOA (vs := cP p) Ty.a25 Ty.s25 rfl (List.mem_append_right _ (.tail _ (.tail _ (.tail _ (.tail _ (.tail _ (.head _))))))) rfl rfl rfl ?_ | refine J.loadOA (vs := cP p) Ty.a25 Ty.s25 rfl (List.mem_append_right _ (.tail _ (.tail _ (.tail _ (.tail _ (.tail _ (.tail _ (.head _)))))))) rfl rfl rfl ?_ | refine J.loadOA (vs := cP p) Ty.a25 Ty.s25 rfl (List.mem_append_right _ (.tail _ (.tail _ (.tail _ (.tail _ (.tail _ (.tail _ (.tail _ (.head _))))))))) rfl rfl rfl ?_ | refine J.loadOA (vs := cP p) Ty.a25 Ty.s25 rfl (List.mem_append_right _ (.tail _ (.tail _ (.tail _ (.tail _ (.tail _ (.tail _ (.tail _ (.tail _ (.head _)))))))))) rfl rfl rfl ?_ | refine J.loadOA (vs := cP p) Ty.a25 Ty.s25 rfl (List.mem_append_right _ (.tail _ (.tail _ (.tail _ (.tail _ (.tail _ (.tail _ (.tail _ (.tail _ (.tail _ (.head _))))))))))) rfl rfl rfl ?_ | refine J.loadOA (vs := cP p) Ty.a25 Ty.s25 rfl (List.mem_append_right _ (.tail _ (.tail _ (.tail _ (.tail _ (.tail _ (.tail _ (.tail _ (.tail _ (.tail _ (.tail _ (.head _)))))))))))) rfl rfl rfl ?_ | refine J.loadOA (vs := cP p) Ty.a25 Ty.s25 rfl (List.mem_append_right _ (.tail _ (.tail _ (.tail _ (.tail _ (.tail _ (.tail _ (.tail _ (.tail _ (.tail _ (.tail _ (.tail _ (.head _))))))))))))) rfl rfl rfl ?_)
                    (first | refine J.loadOA (vs := cI (idW n0)) Ty.a23 Ty.s23 rfl (.head _) rfl rfl rfl ?_ | refine J.loadOA (vs := cI (idW n0)) Ty.a23 Ty.s23 rfl (.tail _ (.head _)) rfl rfl rfl ?_ | refine J.loadOA (vs := cI (idW n0)) Ty.a23 Ty.s23 rfl (.tail _ (.tail _ (.head _))) rfl rfl rfl ?_ | refine J.loadOA (vs := cI (idW n0)) Ty.a23 Ty.s23 rfl (.tail _ (.tail _ (.tail _ (.head _)))) rfl rfl rfl ?_ | refine J.loadOA (vs := cI (idW n0)) Ty.a23 Ty.s23 rfl (.tail _ (.tail _ (.tail _ (.tail _ (.head _))))) rfl rfl rfl ?_ | refine J.loadOA (vs := cI (idW n0)) Ty.a23 Ty.s23 rfl (.tail _ (.tail _ (.tail _ (.tail _ (.tail _ (.head _)))))) rfl rfl rfl ?_ | refine J.loadOA (vs := cI (idW n0)) Ty.a23 Ty.s23 rfl (.tail _ (.tail _ (.tail _ (.tail _ (.tail _ (.tail _ (.head _))))))) rfl rfl rfl ?_ | refine J.loadOA (vs := cI (idW n0)) Ty.a23 Ty.s23 rfl (.tail _ (.tail _ (.tail _ (.tail _ (.tail _ (.tail _ (.tail _ (.head _)))))))) rfl rfl rfl ?_ | refine J.loadOA (vs := cI (idW n0)) Ty.a23 Ty.s23 rfl (.tail _ (.tail _ (.tail _ (.tail _ (.tail _ (.tail _ (.tail _ (.tail _ (.head _))))))))) rfl rfl rfl ?_ | refine J.loadOA (vs := cI (idW n0)) Ty.a23 Ty.s23 rfl (.tail _ (.tail _ (.tail _ (.tail _ (.tail _ (.tail _ (.tail _ (.tail _ (.tail _ (.head _)))))))))) rfl rfl rfl ?_ | refine J.loadOA (vs := cI (idW n0)) Ty.a23 Ty.s23 rfl (.tail _ (.tail _ (.tail _ (.tail _ (.tail _ (.tail _ (.tail _ (.tail _ (.tail _ (.tail _ (.head _))))))))))) rfl rfl rfl ?_ | refine J.loadOA (vs := cI (idW n0)) Ty.a23 Ty.s23 rfl (.tail _ (.tail _ (.tail _ (.tail _ (.tail _ (.tail _ (.tail _ (.tail _ (.tail _ (.tail _ (.tail _ (.head _)))))))))))) rfl rfl rfl ?_ | refine J.loadOA (vs := cI (idW n0)) Ty.a23 Ty.s23 rfl (List.mem_append_right _ (.head _)) rfl rfl rfl ?_ | refine J.loadOA (vs := cI (idW n0)) Ty.a23 Ty.s23 rfl (List.mem_append_right _ (.tail _ (.head _))) rfl rfl rfl ?_ | refine J.loadOA (vs := cI (idW n0)) Ty.a23 Ty.s23 rfl (List.mem_append_right _ (.tail _ (.tail _ (.head _)))) rfl rfl rfl ?_ | refine J.loadOA (vs := cI (idW n0)) Ty.a23 Ty.s23 rfl (List.mem_append_right _ (.tail _ (.tail _ (.tail _ (.head _))))) rfl rfl rfl ?_ | refine J.loadOA (vs := cI (idW n0)) Ty.a23 Ty.s23 rfl (List.mem_append_right _ (.tail _ (.tail _ (.tail _ (.tail _ (.head _)))))) rfl rfl rfl ?_ | refine J.loadOA (vs := cI (idW n0)) Ty.a23 Ty.s23 rfl (List.mem_append_right _ (.tail _ (.tail _ (.tail _ (.tail _ (.tail _ (.head _))))))) rfl rfl rfl ?_ | refine J.loadOA (vs := cI (idW n0)) Ty.a23 Ty.s23 rfl (List.mem_append_right _ (.tail _ (.tail _ (.tail _ (.tail _ (.tail _ (.tail _ (.head _)))))))) rfl rfl rfl ?_ | refine J.loadOA (vs := cI (idW n0)) Ty.a23 Ty.s23 rfl (List.mem_append_right _ (.tail _ (.tail _ (.tail _ (.tail _ (.tail _ (.tail _ (.tail _ (.head _))))))))) rfl rfl rfl ?_ | refine J.loadOA (vs := cI (idW n0)) Ty.a23 Ty.s23 rfl (List.mem_append_right _ (.tail _ (.tail _ (.tail _ (.tail _ (.tail _ (.tail _ (.tail _ (.tail _ (.head _)))))))))) rfl rfl rfl ?_ | refine J.loadOA (vs := cI (idW n0)) Ty.a23 Ty.s23 rfl (List.mem_append_right _ (.tail _ (.tail _ (.tail _ (.tail _ (.tail _ (.tail _ (.tail _ (.tail _ (.tail _ (.head _))))))))))) rfl rfl rfl ?_ | refine J.loadOA (vs := cI (idW n0)) Ty.a23 Ty.s23 rfl (List.mem_append_right _ (.tail _ (.tail _ (.tail _ (.tail _ (.tail _ (.tail _ (.tail _ (.tail _ (.tail _ (.tail _ (.head _)))))))))))) rfl rfl rfl ?_ | refine J.loadOA (vs := cI (idW n0)) Ty.a23 Ty.s23 rfl (List.mem_append_right _ (.tail _ (.tail _ (.tail _ (.tail _ (.tail _ (.tail _ (.tail _ (.tail _ (.tail _ (.tail _ (.tail _ (.head _))))))))))))) rfl rfl rfl ?_)
                    (first | refine J.loadOA (vs := cI (idW nl)) Ty.a23 Ty.s23 rfl (.head _) rfl rfl rfl ?_ | refine J.loadOA (vs := cI (idW nl)) Ty.a23 Ty.s23 rfl (.tail _ (.head _)) rfl rfl rfl ?_ | refine J.loadOA (vs := cI (idW nl)) Ty.a23 Ty.s23 rfl (.tail _ (.tail _ (.head _))) rfl rfl rfl ?_ | refine J.loadOA (vs := cI (idW nl)) Ty.a23 Ty.s23 rfl (.tail _ (.tail _ (.tail _ (.head _)))) rfl rfl rfl ?_ | refine J.loadOA (vs := cI (idW nl)) Ty.a23 Ty.s23 rfl (.tail _ (.tail _ (.tail _ (.tail _ (.head _))))) rfl rfl rfl ?_ | refine J.loadOA (vs := cI (idW nl)) Ty.a23 Ty.s23 rfl (.tail _ (.tail _ (.tail _ (.tail _ (.tail _ (.head _)))))) rfl rfl rfl ?_ | refine J.loadOA (vs := cI (idW nl)) Ty.a23 Ty.s23 rfl (.tail _ (.tail _ (.tail _ (.tail _ (.tail _ (.tail _ (.head _))))))) rfl rfl rfl ?_ | refine J.loadOA (vs := cI (idW nl)) Ty.a23 Ty.s23 rfl (.tail _ (.tail _ (.tail _ (.tail _ (.tail _ (.tail _ (.tail _ (.head _)))))))) rfl rfl rfl ?_ | refine J.loadOA (vs := cI (idW nl)) Ty.a23 Ty.s23 rfl (.tail _ (.tail _ (.tail _ (.tail _ (.tail _ (.tail _ (.tail _ (.tail _ (.head _))))))))) rfl rfl rfl ?_ | refine J.loadOA (vs := cI (idW nl)) Ty.a23 Ty.s23 rfl (.tail _ (.tail _ (.tail _ (.tail _ (.tail _ (.tail _ (.tail _ (.tail _ (.tail _ (.head _)))))))))) rfl rfl rfl ?_ | refine J.loadOA (vs := cI (idW nl)) Ty.a23 Ty.s23 rfl (.tail _ (.tail _ (.tail _ (.tail _ (.tail _ (.tail _ (.tail _ (.tail _ (.tail _ (.tail _ (.head _))))))))))) rfl rfl rfl ?_ | refine J.loadOA (vs := cI (idW nl)) Ty.a23 Ty.s23 rfl (.tail _ (.tail _ (.tail _ (.tail _ (.tail _ (.tail _ (.tail _ (.tail _ (.tail _ (.tail _ (.tail _ (.head _)))))))))))) rfl rfl rfl ?_ | refine J.loadOA (vs := cI (idW nl)) Ty.a23 Ty.s23 rfl (List.mem_append_right _ (.head _)) rfl rfl rfl ?_ | refine J.loadOA (vs := cI (idW nl)) Ty.a23 Ty.s23 rfl (List.mem_append_right _ (.tail _ (.head _))) rfl rfl rfl ?_ | refine J.loadOA (vs := cI (idW nl)) Ty.a23 Ty.s23 rfl (List.mem_append_right _ (.tail _ (.tail _ (.head _)))) rfl rfl rfl ?_ | refine J.loadOA (vs := cI (idW nl)) Ty.a23 Ty.s23 rfl (List.mem_append_right _ (.tail _ (.tail _ (.tail _ (.head _))))) rfl rfl rfl ?_ | refine J.loadOA (vs := cI (idW nl)) Ty.a23 Ty.s23 rfl (List.mem_append_right _ (.tail _ (.tail _ (.tail _ (.tail _ (.head _)))))) rfl rfl rfl ?_ | refine J.loadOA (vs := cI (idW nl)) Ty.a23 Ty.s23 rfl (List.mem_append_right _ (.tail _ (.tail _ (.tail _ (.tail _ (.tail _ (.head _))))))) rfl rfl rfl ?_ | refine J.loadOA (vs := cI (idW nl)) Ty.a23 Ty.s23 rfl (List.mem_append_right _ (.tail _ (.tail _ (.tail _ (.tail _ (.tail _ (.tail _ (.head _)))))))) rfl rfl rfl ?_ | refine J.loadOA (vs := cI (idW nl)) Ty.a23 Ty.s23 rfl (List.mem_append_right _ (.tail _ (.tail _ (.tail _ (.tail _ (.tail _ (.tail _ (.tail _ (.head _))))))))) rfl rfl rfl ?_ | refine J.loadOA (vs := cI (idW nl)) Ty.a23 Ty.s23 rfl (List.mem_append_right _ (.tail _ (.tail _ (.tail _ (.tail _ (.tail _ (.tail _ (.tail _ (.tail _ (.head _)))))))))) rfl rfl rfl ?_ | refine J.loadOA (vs := cI (idW nl)) Ty.a23 Ty.s23 rfl (List.mem_append_right _ (.tail _ (.tail _ (.tail _ (.tail _ (.tail _ (.tail _ (.tail _ (.tail _ (.tail _ (.head _))))))))))) rfl rfl rfl ?_ | refine J.loadOA (vs := cI (idW nl)) Ty.a23 Ty.s23 rfl (List.mem_append_right _ (.tail _ (.tail _ (.tail _ (.tail _ (.tail _ (.tail _ (.tail _ (.tail _ (.tail _ (.tail _ (.head _)))))))))))) rfl rfl rfl ?_ | refine J.loadOA (vs := cI (idW nl)) Ty.a23 Ty.s23 rfl (List.mem_append_right _ (.tail _ (.tail _ (.tail _ (.tail _ (.tail _ (.tail _ (.tail _ (.tail _ (.tail _ (.tail _ (.tail _ (.head _))))))))))))) rfl rfl rfl ?_)
                    refine J.buildS (cs := cE (⟨p, idW n0, idW nl, -1, -1⟩ : EV)) Ty.pl34 Ty.zE_ rfl (by kernel_rfl) rfl ?_
                    refine J.alloc Ty.zE_ rfl rfl (fun b16 => ?_)
                    (first | refine J.storeW Ty.s34 rfl rfl rfl rfl rfl (by simp [Value.oneCell']) .here ?_ | refine J.storeW Ty.s34 rfl rfl rfl rfl rfl (by simp [Value.oneCell']) (.there .here) ?_ | refine J.storeW Ty.s34 rfl rfl rfl rfl rfl (by simp [Value.oneCell']) (.there (.there .here)) ?_ | refine J.storeW Ty.s34 rfl rfl rfl rfl rfl (by simp [Value.oneCell']) (.there (.there (.there .here))) ?_ | refine J.storeW Ty.s34 rfl rfl rfl rfl rfl (by simp [Value.oneCell']) (.there (.there (.there (.there .here)))) ?_ | refine J.storeW Ty.s34 rfl rfl rfl rfl rfl (by simp [Value.oneCell']) (.there (.there (.there (.there (.there .here))))) ?_ | refine J.storeW Ty.s34 rfl rfl rfl rfl rfl (by simp [Value.oneCell']) (.there (.there (.there (.there (.there (.there .here)))))) ?_ | refine J.storeW Ty.s34 rfl rfl rfl rfl rfl (by simp [Value.oneCell']) (.there (.there (.there (.there (.there (.there (.there .here))))))) ?_ | refine J.storeW Ty.s34 rfl rfl rfl rfl rfl (by simp [Value.oneCell']) (.there (.there (.there (.there (.there (.there (.there (.there .here)))))))) ?_ | refine J.storeW Ty.s34 rfl rfl rfl rfl rfl (by simp [Value.oneCell']) (.there (.there (.there (.there (.there (.there (.there (.there (.there .here))))))))) ?_)
                    refine J.nil ?_
                    refine JX.thenN (hK29 _ _ ?_)
                    refine JC.seq (fun K30 hK30 => ?_)
                    refine JC.seq (fun K31 hK31 => ?_)
                    refine JC.region ?_
                    refine J.move rfl rfl ?_
                    refine J.bin rfl rfl rfl rfl ?_
                    refine J.nil ?_
                    refine JX.thenN (hK31 _ _ ?_)
                    first | refine JC.condT rfl ?_ | refine JC.cond rfl (fun _ => ?_) (fun h => by first | (exfalso; simp at h; omega) | (simp at h))
                    refine JC.region ?_
                    (first | refine J.loadO Ty.a26 rfl (.head _) rfl rfl ?_ | refine J.loadO Ty.a26 rfl (.tail _ (.head _)) rfl rfl ?_ | refine J.loadO Ty.a26 rfl (.tail _ (.tail _ (.head _))) rfl rfl ?_ | refine J.loadO Ty.a26 rfl (.tail _ (.tail _ (.tail _ (.head _)))) rfl rfl ?_ | refine J.loadO Ty.a26 rfl (.tail _ (.tail _ (.tail _ (.tail _ (.head _))))) rfl rfl ?_ | refine J.loadO Ty.a26 rfl (.tail _ (.tail _ (.tail _ (.tail _ (.tail _ (.head _)))))) rfl rfl ?_ | refine J.loadO Ty.a26 rfl (.tail _ (.tail _ (.tail _ (.tail _ (.tail _ (.tail _ (.head _))))))) rfl rfl ?_ | refine J.loadO Ty.a26 rfl (.tail _ (.tail _ (.tail _ (.tail _ (.tail _ (.tail _ (.tail _ (.head _)))))))) rfl rfl ?_ | refine J.loadO Ty.a26 rfl (.tail _ (.tail _ (.tail _ (.tail _ (.tail _ (.tail _ (.tail _ (.tail _ (.head _))))))))) rfl rfl ?_ | refine J.loadO Ty.a26 rfl (.tail _ (.tail _ (.tail _ (.tail _ (.tail _ (.tail _ (.tail _ (.tail _ (.tail _ (.head _)))))))))) rfl rfl ?_ | refine J.loadO Ty.a26 rfl (.tail _ (.tail _ (.tail _ (.tail _ (.tail _ (.tail _ (.tail _ (.tail _ (.tail _ (.tail _ (.head _))))))))))) rfl rfl ?_ | refine J.loadO Ty.a26 rfl (.tail _ (.tail _ (.tail _ (.tail _ (.tail _ (.tail _ (.tail _ (.tail _ (.tail _ (.tail _ (.tail _ (.head _)))))))))))) rfl rfl ?_ | refine J.loadO Ty.a26 rfl (List.mem_append_right _ (.head _)) rfl rfl ?_ | refine J.loadO Ty.a26 rfl (List.mem_append_right _ (.tail _ (.head _))) rfl rfl ?_ | refine J.loadO Ty.a26 rfl (List.mem_append_right _ (.tail _ (.tail _ (.head _)))) rfl rfl ?_ | refine J.loadO Ty.a26 rfl (List.mem_append_right _ (.tail _ (.tail _ (.tail _ (.head _))))) rfl rfl ?_ | refine J.loadO Ty.a26 rfl (List.mem_append_right _ (.tail _ (.tail _ (.tail _ (.tail _ (.head _)))))) rfl rfl ?_ | refine J.loadO Ty.a26 rfl (List.mem_append_right _ (.tail _ (.tail _ (.tail _ (.tail _ (.tail _ (.head _))))))) rfl rfl ?_ | refine J.loadO Ty.a26 rfl (List.mem_append_right _ (.tail _ (.tail _ (.tail _ (.tail _ (.tail _ (.tail _ (.head _)))))))) rfl rfl ?_ | refine J.loadO Ty.a26 rfl (List.mem_append_right _ (.tail _ (.tail _ (.tail _ (.tail _ (.tail _ (.tail _ (.tail _ (.head _))))))))) rfl rfl ?_ | refine J.loadO Ty.a26 rfl (List.mem_append_right _ (.tail _ (.tail _ (.tail _ (.tail _ (.tail _ (.tail _ (.tail _ (.tail _ (.head _)))))))))) rfl rfl ?_ | refine J.loadO Ty.a26 rfl (List.mem_append_right _ (.tail _ (.tail _ (.tail _ (.tail _ (.tail _ (.tail _ (.tail _ (.tail _ (.tail _ (.head _))))))))))) rfl rfl ?_ | refine J.loadO Ty.a26 rfl (List.mem_append_right _ (.tail _ (.tail _ (.tail _ (.tail _ (.tail _ (.tail _ (.tail _ (.tail _ (.tail _ (.tail _ (.head _)))))))))))) rfl rfl ?_ | refine J.loadO Ty.a26 rfl (List.mem_append_right _ (.tail _ (.tail _ (.tail _ (.tail _ (.tail _ (.tail _ (.tail _ (.tail _ (.tail _ (.tail _ (.tail _ (.head _))))))))))))) rfl rfl ?_)
                    refine J.move rfl rfl ?_
                    (first | refine J.subN rfl rfl (by omega) (by omega) rfl ?_ | refine J.bin rfl rfl rfl rfl ?_)
                    refine J.indexAddrS Ty.el26 Ty.s3 rfl rfl (by omega) (by omega) rfl ?_
                    refine J.load1 (v := iV (W[i - 1]'(by omega))) Ty.a3 rfl (fun w1 hw => (cell_of (hw.own _ (.tail _ (.tail _ (.tail _ (.tail _ (.tail _ (.tail _ (.tail _ (.tail _ (.tail _ (.head _)))))))))))).trans (by rw [show 0 + ((i : Int) - 1).toNat * 1 = i - 1 by omega, List.getElem?_append_left (by simp; omega), List.getElem?_map, List.getElem?_eq_getElem (show i - 1 < W.length by omega)]; rfl)) rfl ?_
                    refine J.fieldAddr Ty.fd34_3 rfl rfl ?_
                    refine J.storeO (cs := cE (⟨p, idW n0, idW nl, -1, -1⟩ : EV)) (vs := [iV (W[i - 1]'(by omega))]) Ty.s3 rfl rfl rfl rfl (by simp [Value.oneCell']) .here (by simp) ?_
                    refine J.perm ((b16, cb (cE (⟨p, idW n0, idW nl, W[i - 1]'(by omega), -1⟩ : EV)) 34) :: (x14, cb (cD out2 mine2 false) 37) :: (t2, tabO 3 mb2) :: (mb2, .map es2 ck2) :: (x7, cb (cI (idW n0)) 23) :: (x8, cb (cI (idW nl)) 23) :: (b50, cb (OP6.map bV) 4) :: (b5, cb [.slice (some ⟨q, 0, none⟩) W.length c5] 26) :: (b3, cb (cP p) 25) :: (q, cb (W.map iV ++ sp) 3) :: hl2) (.refl _) ?_
                    refine J.nil ?_
                    refine JX.thenN (hK30 _ _ ?_)
                    refine JC.seq (fun K32 hK32 => ?_)
                    refine JC.seq (fun K33 hK33 => ?_)
                    refine JC.region ?_
                    refine J.move rfl rfl ?_
                    (first | refine J.addN rfl rfl (by omega) (by omega) rfl ?_ | refine J.bin rfl rfl rfl rfl ?_)
                    (first | refine J.loadO Ty.a26 rfl (.head _) rfl rfl ?_ | refine J.loadO Ty.a26 rfl (.tail _ (.head _)) rfl rfl ?_ | refine J.loadO Ty.a26 rfl (.tail _ (.tail _ (.head _))) rfl rfl ?_ | refine J.loadO Ty.a26 rfl (.tail _ (.tail _ (.tail _ (.head _)))) rfl rfl ?_ | refine J.loadO Ty.a26 rfl (.tail _ (.tail _ (.tail _ (.tail _ (.head _))))) rfl rfl ?_ | refine J.loadO Ty.a26 rfl (.tail _ (.tail _ (.tail _ (.tail _ (.tail _ (.head _)))))) rfl rfl ?_ | refine J.loadO Ty.a26 rfl (.tail _ (.tail _ (.tail _ (.tail _ (.tail _ (.tail _ (.head _))))))) rfl rfl ?_ | refine J.loadO Ty.a26 rfl (.tail _ (.tail _ (.tail _ (.tail _ (.tail _ (.tail _ (.tail _ (.head _)))))))) rfl rfl ?_ | refine J.loadO Ty.a26 rfl (.tail _ (.tail _ (.tail _ (.tail _ (.tail _ (.tail _ (.tail _ (.tail _ (.head _))))))))) rfl rfl ?_ | refine J.loadO Ty.a26 rfl (.tail _ (.tail _ (.tail _ (.tail _ (.tail _ (.tail _ (.tail _ (.tail _ (.tail _ (.head _)))))))))) rfl rfl ?_ | refine J.loadO Ty.a26 rfl (.tail _ (.tail _ (.tail _ (.tail _ (.tail _ (.tail _ (.tail _ (.tail _ (.tail _ (.tail _ (.head _))))))))))) rfl rfl ?_ | refine J.loadO Ty.a26 rfl (.tail _ (.tail _ (.tail _ (.tail _ (.tail _ (.tail _ (.tail _ (.tail _ (.tail _ (.tail _ (.tail _ (.head _)))))))))))) rfl rfl ?_ | refine J.loadO Ty.a26 rfl (List.mem_append_right _ (.head _)) rfl rfl ?_ | refine J.loadO Ty.a26 rfl (List.mem_append_right _ (.tail _ (.head _))) rfl rfl ?_ | refine J.loadO Ty.a26 rfl (List.mem_append_right _ (.tail _ (.tail _ (.head _)))) rfl rfl ?_ | refine J.loadO Ty.a26 rfl (List.mem_append_right _ (.tail _ (.tail _ (.tail _ (.head _))))) rfl rfl ?_ | refine J.loadO Ty.a26 rfl (List.mem_append_right _ (.tail _ (.tail _ (.tail _ (.tail _ (.head _)))))) rfl rfl ?_ | refine J.loadO Ty.a26 rfl (List.mem_append_right _ (.tail _ (.tail _ (.tail _ (.tail _ (.tail _ (.head _))))))) rfl rfl ?_ | refine J.loadO Ty.a26 rfl (List.mem_append_right _ (.tail _ (.tail _ (.tail _ (.tail _ (.tail _ (.tail _ (.head _)))))))) rfl rfl ?_ | refine J.loadO Ty.a26 rfl (List.mem_append_right _ (.tail _ (.tail _ (.tail _ (.tail _ (.tail _ (.tail _ (.tail _ (.head _))))))))) rfl rfl ?_ | refine J.loadO Ty.a26 rfl (List.mem_append_right _ (.tail _ (.tail _ (.tail _ (.tail _ (.tail _ (.tail _ (.tail _ (.tail _ (.head _)))))))))) rfl rfl ?_ | refine J.loadO Ty.a26 rfl (List.mem_append_right _ (.tail _ (.tail _ (.tail _ (.tail _ (.tail _ (.tail _ (.tail _ (.tail _ (.tail _ (.head _))))))))))) rfl rfl ?_ | refine J.loadO Ty.a26 rfl (List.mem_append_right _ (.tail _ (.tail _ (.tail _ (.tail _ (.tail _ (.tail _ (.tail _ (.tail _ (.tail _ (.tail _ (.head _)))))))))))) rfl rfl ?_ | refine J.loadO Ty.a26 rfl (List.mem_append_right _ (.tail _ (.tail _ (.tail _ (.tail _ (.tail _ (.tail _ (.tail _ (.tail _ (.tail _ (.tail _ (.tail _ (.head _))))))))))))) rfl rfl ?_)
                    refine J.lenS rfl Ty.u26 rfl rfl ?_
                    refine J.bin rfl rfl rfl rfl ?_
                    refine J.nil ?_
                    refine JX.thenN (hK33 _ _ ?_)
                    refine JC.cond rfl (fun h8 => ?_) (fun h8 => ?_)
                    · skip
                      have hlt1 : i + 1 < W.length := by simp at h8; omega
                      refine JC.region ?_
                      (first | refine J.loadO Ty.a26 rfl (.head _) rfl rfl ?_ | refine J.loadO Ty.a26 rfl (.tail _ (.head _)) rfl rfl ?_ | refine J.loadO Ty.a26 rfl (.tail _ (.tail _ (.head _))) rfl rfl ?_ | refine J.loadO Ty.a26 rfl (.tail _ (.tail _ (.tail _ (.head _)))) rfl rfl ?_ | refine J.loadO Ty.a26 rfl (.tail _ (.tail _ (.tail _ (.tail _ (.head _))))) rfl rfl ?_ | refine J.loadO Ty.a26 rfl (.tail _ (.tail _ (.tail _ (.tail _ (.tail _ (.head _)))))) rfl rfl ?_ | refine J.loadO Ty.a26 rfl (.tail _ (.tail _ (.tail _ (.tail _ (.tail _ (.tail _ (.head _))))))) rfl rfl ?_ | refine J.loadO Ty.a26 rfl (.tail _ (.tail _ (.tail _ (.tail _ (.tail _ (.tail _ (.tail _ (.head _)))))))) rfl rfl ?_ | refine J.loadO Ty.a26 rfl (.tail _ (.tail _ (.tail _ (.tail _ (.tail _ (.tail _ (.tail _ (.tail _ (.head _))))))))) rfl rfl ?_ | refine J.loadO Ty.a26 rfl (.tail _ (.tail _ (.tail _ (.tail _ (.tail _ (.tail _ (.tail _ (.tail _ (.tail _ (.head _)))))))))) rfl rfl ?_ | refine J.loadO Ty.a26 rfl (.tail _ (.tail _ (.tail _ (.tail _ (.tail _ (.tail _ (.tail _ (.tail _ (.tail _ (.tail _ (.head _))))))))))) rfl rfl ?_ | refine J.loadO Ty.a26 rfl (.tail _ (.tail _ (.tail _ (.tail _ (.tail _ (.tail _ (.tail _ (.tail _ (.tail _ (.tail _ (.tail _ (.head _)))))))))))) rfl rfl ?_ | refine J.loadO Ty.a26 rfl (List.mem_append_right _ (.head _)) rfl rfl ?_ | refine J.loadO Ty.a26 rfl (List.mem_append_right _ (.tail _ (.head _))) rfl rfl ?_ | refine J.loadO Ty.a26 rfl (List.mem_append_right _ (.tail _ (.tail _ (.head _)))) rfl rfl ?_ | refine J.loadO Ty.a26 rfl (List.mem_append_right _ (.tail _ (.tail _ (.tail _ (.head _))))) rfl rfl ?_ | refine J.loadO Ty.a26 rfl (List.mem_append_right _ (.tail _ (.tail _ (.tail _ (.tail _ (.head _)))))) rfl rfl ?_ | refine J.loadO Ty.a26 rfl (List.mem_append_right _ (.tail _ (.tail _ (.tail _ (.tail _ (.tail _ (.head _))))))) rfl rfl ?_ | refine J.loadO Ty.a26 rfl (List.mem_append_right _ (.tail _ (.tail _ (.tail _ (.tail _ (.tail _ (.tail _ (.head _)))))))) rfl rfl ?_ | refine J.loadO Ty.a26 rfl (List.mem_append_right _ (.tail _ (.tail _ (.tail _ (.tail _ (.tail _ (.tail _ (.tail _ (.head _))))))))) rfl rfl ?_ | refine J.loadO Ty.a26 rfl (List.mem_append_right _ (.tail _ (.tail _ (.tail _ (.tail _ (.tail _ (.tail _ (.tail _ (.tail _ (.head _)))))))))) rfl rfl ?_ | refine J.loadO Ty.a26 rfl (List.mem_append_right _ (.tail _ (.tail _ (.tail _ (.tail _ (.tail _ (.tail _ (.tail _ (.tail _ (.tail _ (.head _))))))))))) rfl rfl ?_ | refine J.loadO Ty.a26 rfl (List.mem_append_right _ (.tail _ (.tail _ (.tail _ (.tail _ (.tail _ (.tail _ (.tail _ (.tail _ (.tail _ (.tail _ (.head _)))))))))))) rfl rfl ?_ | refine J.loadO Ty.a26 rfl (List.mem_append_right _ (.tail _ (.tail _ (.tail _ (.tail _ (.tail _ (.tail _ (.tail _ (.tail _ (.tail _ (.tail _ (.tail _ (.head _))))))))))))) rfl rfl ?_)
                      refine J.move rfl rfl ?_
                      (first | refine J.addN rfl rfl (by omega) (by omega) rfl ?_ | refine J.bin rfl rfl rfl rfl ?_)
                      refine J.indexAddrS Ty.el26 Ty.s3 rfl rfl (by omega) (by omega) rfl ?_
                      refine J.load1 (v := iV W[i + 1]) Ty.a3 rfl (fun w1 hw => (cell_of (hw.own _ (.tail _ (.tail _ (.tail _ (.tail _ (.tail _ (.tail _ (.tail _ (.tail _ (.tail _ (.head _)))))))))))).trans (by rw [show 0 + ((i : Int) + 1).toNat * 1 = i + 1 by omega, List.getElem?_append_left (by simp; omega), List.getElem?_map, List.getElem?_eq_getElem hlt1]; rfl)) rfl ?_
                      refine J.fieldAddr Ty.fd34_4 rfl rfl ?_
                      refine J.storeO (cs := cE (⟨p, idW n0, idW nl, W[i - 1]'(by omega), -1⟩ : EV)) (vs := [iV (W[i + 1])]) Ty.s3 rfl rfl rfl rfl (by simp [Value.oneCell']) .here (by simp) ?_
                      refine J.perm ((b16, cb (cE (⟨p, idW n0, idW nl, W[i - 1]'(by omega), W[i + 1]⟩ : EV)) 34) :: (x14, cb (cD out2 mine2 false) 37) :: (t2, tabO 3 mb2) :: (mb2, .map es2 ck2) :: (x7, cb (cI (idW n0)) 23) :: (x8, cb (cI (idW nl)) 23) :: (b50, cb (OP6.map bV) 4) :: (b5, cb [.slice (some ⟨q, 0, none⟩) W.length c5] 26) :: (b3, cb (cP p) 25) :: (q, cb (W.map iV ++ sp) 3) :: hl2) (.refl _) ?_
                      refine J.nil ?_
                      refine JX.thenN (hK32 _ _ ?_)
                      refine JC.seq (fun K34 hK34 => ?_)
                      refine JC.region ?_
                      refine J.move rfl rfl ?_
                      (first | refine J.loadOA (vs := cP p) Ty.a25 Ty.s25 rfl (.head _) rfl rfl rfl ?_ | refine J.loadOA (vs := cP p) Ty.a25 Ty.s25 rfl (.tail _ (.head _)) rfl rfl rfl ?_ | refine J.loadOA (vs := cP p) Ty.a25 Ty.s25 rfl (.tail _ (.tail _ (.head _))) rfl rfl rfl ?_ | refine J.loadOA (vs := cP p) Ty.a25 Ty.s25 rfl (.tail _ (.tail _ (.tail _ (.head _)))) rfl rfl rfl ?_ | refine J.loadOA (vs := cP p) Ty.a25 Ty.s25 rfl (.tail _ (.tail _ (.tail _ (.tail _ (.head _))))) rfl rfl rfl ?_ | refine J.loadOA (vs := cP p) Ty.a25 Ty.s25 rfl (.tail _ (.tail _ (.tail _ (.tail _ (.tail _ (.head _)))))) rfl rfl rfl ?_ | refine J.loadOA (vs := cP p) Ty.a25 Ty.s25 rfl (.tail _ (.tail _ (.tail _ (.tail _ (.tail _ (.tail _ (.head _))))))) rfl rfl rfl ?_ | refine J.loadOA (vs := cP p) Ty.a25 Ty.s25 rfl (.tail _ (.tail _ (.tail _ (.tail _ (.tail _ (.tail _ (.tail _ (.head _)))))))) rfl rfl rfl ?_ | refine J.loadOA (vs := cP p) Ty.a25 Ty.s25 rfl (.tail _ (.tail _ (.tail _ (.tail _ (.tail _ (.tail _ (.tail _ (.tail _ (.head _))))))))) rfl rfl rfl ?_ | refine J.loadOA (vs := cP p) Ty.a25 Ty.s25 rfl (.tail _ (.tail _ (.tail _ (.tail _ (.tail _ (.tail _ (.tail _ (.tail _ (.tail _ (.head _)))))))))) rfl rfl rfl ?_ | refine J.loadOA (vs := cP p) Ty.a25 Ty.s25 rfl (.tail _ (.tail _ (.tail _ (.tail _ (.tail _ (.tail _ (.tail _ (.tail _ (.tail _ (.tail _ (.head _))))))))))) rfl rfl rfl ?_ | refine J.loadOA (vs := cP p) Ty.a25 Ty.s25 rfl (.tail _ (.tail _ (.tail _ (.tail _ (.tail _ (.tail _ (.tail _ (.tail _ (.tail _ (.tail _ (.tail _ (.head _)))))))))))) rfl rfl rfl ?_ | refine J.loadOA (vs := cP p) Ty.a25 Ty.s25 rfl (List.mem_append_right _ (.head _)) rfl rfl rfl ?_ | refine J.loadOA (vs := cP p) Ty.a25 Ty.s25 rfl (List.mem_append_right _ (.tail _ (.head _))) rfl rfl rfl ?_ | refine J.loadOA (vs := cP p) Ty.a25 Ty.s25 rfl (List.mem_append_right _ (.tail _ (.tail _ (.head _)))) rfl rfl rfl ?_ | refine J.loadOA (vs := cP p) Ty.a25 Ty.s25 rfl (List.mem_append_right _ (.tail _ (.tail _ (.tail _ (.head _))))) rfl rfl rfl ?_ | refine J.loadOA (vs := cP p) Ty.a25 Ty.s25 rfl (List.mem_append_right _ (.tail _ (.tail _ (.tail _ (.tail _ (.head _)))))) rfl rfl rfl ?_ | refine J.loadOA (vs := cP p) Ty.a25 Ty.s25 rfl (List.mem_append_right _ (.tail _ (.tail _ (.tail _ (.tail _ (.tail _ (.head _))))))) rfl rfl rfl ?_ | refine J.loadOA (vs := cP p) Ty.a25 Ty.s25 rfl (List.mem_append_right _ (.tail _ (.tail _ (.tail _ (.tail _ (.tail _ (.tail _ (.head _)))))))) rfl rfl rfl ?_ | refine J.loadOA (vs := cP p) Ty.a25 Ty.s25 rfl (List.mem_append_right _ (.tail _ (.tail _ (.tail _ (.tail _ (.tail _ (.tail _ (.tail _ (.head _))))))))) rfl rfl rfl ?_ | refine J.loadOA (vs := cP p) Ty.a25 Ty.s25 rfl (List.mem_append_right _ (.tail _ (.tail _ (.tail _ (.tail _ (.tail _ (.tail _ (.tail _ (.tail _ (.head _)))))))))) rfl rfl rfl ?_ | refine J.loadOA (vs := cP p) Ty.a25 Ty.s25 rfl (List.mem_append_right _ (.tail _ (.tail _ (.tail _ (.tail _ (.tail _ (.tail _ (.tail _ (.tail _ (.tail _ (.head _))))))))))) rfl rfl rfl ?_ | refine J.loadOA (vs := cP p) Ty.a25 Ty.s25 rfl (List.mem_append_right _ (.tail _ (.tail _ (.tail _ (.tail _ (.tail _ (.tail _ (.tail _ (.tail _ (.tail _ (.tail _ (.head _)))))))))))) rfl rfl rfl ?_ | refine J.loadOA (vs := cP p) Ty.a25 Ty.s25 rfl (List.mem_append_right _ (.tail _ (.tail _ (.tail _ (.tail _ (.tail _ (.tail _ (.tail _ (.tail _ (.tail _ (.tail _ (.tail _ (.head _))))))))))))) rfl rfl rfl ?_)
                      rw [naW_pos hi1 hlt, nbW_in hlt1] at hT2
                      have hg : tget [(⟨p, idW n0, idW nl, W[i - 1]'(by omega), W[i + 1]⟩ : EV)] p = some (⟨p, idW n0, idW nl, W[i - 1]'(by omega), W[i + 1]⟩ : EV) := by simp [tget]
                      have hokX : okE (⟨p, idW n0, idW nl, W[i - 1]'(by omega), W[i + 1]⟩ : EV) := hT2.ok _ (by simp)
                      refine J.callB (v := .tuple #[.agg (cE (⟨p, idW n0, idW nl, W[i - 1]'(by omega), W[i + 1]⟩ : EV)).toArray, .bool true]) (fun w1 w2 hw hb => hw.step hb) Ty.bd23 rfl rfl (fun w1 hw => by
                        have h := get_spec t2 mb2 3 [(⟨p, idW n0, idW nl, W[i - 1]'(by omega), W[i + 1]⟩ : EV)] es2 ck2 w1 (St.owns (l1 := [(t2, tabO 3 mb2), (mb2, .map es2 ck2)]) (l := (b16, cb (cE (⟨p, idW n0, idW nl, W[i - 1]'(by omega), W[i + 1]⟩ : EV)) 34) :: (x14, cb (cD out2 mine2 false) 37) :: (x7, cb (cI (idW n0)) 23) :: (x8, cb (cI (idW nl)) 23) :: (b50, cb (OP6.map bV) 4) :: (b5, cb [.slice (some ⟨q, 0, none⟩) W.length c5] 26) :: (b3, cb (cP p) 25) :: (q, cb (W.map iV ++ sp) 3) :: hl2) (hw.perm (by (refine perm_cnt (fun _ => ?_)); simp only [cntB_append, cntB_cons, cntB_nil, Nat.add_zero, Nat.zero_add]; try ac_rfl))) hT2 p hkp
                        rw [hg] at h
                        exact h) ?_
                      refine J.move rfl rfl ?_
                      refine J.extract rfl rfl rfl ?_
                      refine J.extract rfl rfl rfl ?_
                      refine J.alloc Ty.zE_ rfl rfl (fun b17 => ?_)
                      refine J.storeW (cs := cE zE) (vs := cE (⟨p, idW n0, idW nl, W[i - 1]'(by omega), W[i + 1]⟩ : EV)) Ty.s34 rfl rfl rfl rfl rfl (by simp [Value.oneCell']) .here ?_
                      refine J.assign rfl rfl ?_
                      refine J.nil ?_
                      refine JX.thenN (hK34 _ _ ?_)
                      refine JC.seq (fun K35 hK35 => ?_)
                      refine JC.region ?_
                      refine J.move rfl rfl ?_
                      refine J.not rfl rfl ?_
                      refine J.move rfl rfl ?_
                      first
                        | (refine J.skip rfl rfl rfl rfl rfl ?_)
                        | (refine J.skipU rfl rfl rfl rfl ?_)
                        | (refine J.unguard rfl rfl rfl ?_; (first | refine J.loadOA (vs := cE (⟨p, idW n0, idW nl, W[i - 1]'(by omega), W[i + 1]⟩ : EV)) Ty.a34 Ty.s34 rfl (.head _) rfl rfl rfl ?_ | refine J.loadOA (vs := cE (⟨p, idW n0, idW nl, W[i - 1]'(by omega), W[i + 1]⟩ : EV)) Ty.a34 Ty.s34 rfl (.tail _ (.head _)) rfl rfl rfl ?_ | refine J.loadOA (vs := cE (⟨p, idW n0, idW nl, W[i - 1]'(by omega), W[i + 1]⟩ : EV)) Ty.a34 Ty.s34 rfl (.tail _ (.tail _ (.head _))) rfl rfl rfl ?_ | refine J.loadOA (vs := cE (⟨p, idW n0, idW nl, W[i - 1]'(by omega), W[i + 1]⟩ : EV)) Ty.a34 Ty.s34 rfl (.tail _ (.tail _ (.tail _ (.head _)))) rfl rfl rfl ?_ | refine J.loadOA (vs := cE (⟨p, idW n0, idW nl, W[i - 1]'(by omega), W[i + 1]⟩ : EV)) Ty.a34 Ty.s34 rfl (.tail _ (.tail _ (.tail _ (.tail _ (.head _))))) rfl rfl rfl ?_ | refine J.loadOA (vs := cE (⟨p, idW n0, idW nl, W[i - 1]'(by omega), W[i + 1]⟩ : EV)) Ty.a34 Ty.s34 rfl (.tail _ (.tail _ (.tail _ (.tail _ (.tail _ (.head _)))))) rfl rfl rfl ?_ | refine J.loadOA (vs := cE (⟨p, idW n0, idW nl, W[i - 1]'(by omega), W[i + 1]⟩ : EV)) Ty.a34 Ty.s34 rfl (.tail _ (.tail _ (.tail _ (.tail _ (.tail _ (.tail _ (.head _))))))) rfl rfl rfl ?_ | refine J.loadOA (vs := cE (⟨p, idW n0, idW nl, W[i - 1]'(by omega), W[i + 1]⟩ : EV)) Ty.a34 Ty.s34 rfl (.tail _ (.tail _ (.tail _ (.tail _ (.tail _ (.tail _ (.tail _ (.head _)))))))) rfl rfl rfl ?_ | refine J.loadOA (vs := cE (⟨p, idW n0, idW nl, W[i - 1]'(by omega), W[i + 1]⟩ : EV)) Ty.a34 Ty.s34 rfl (.tail _ (.tail _ (.tail _ (.tail _ (.tail _ (.tail _ (.tail _ (.tail _ (.head _))))))))) rfl rfl rfl ?_ | refine J.loadOA (vs := cE (⟨p, idW n0, idW nl, W[i - 1]'(by omega), W[i + 1]⟩ : EV)) Ty.a34 Ty.s34 rfl (.tail _ (.tail _ (.tail _ (.tail _ (.tail _ (.tail _ (.tail _ (.tail _ (.tail _ (.head _)))))))))) rfl rfl rfl ?_ | refine J.loadOA (vs := cE (⟨p, idW n0, idW nl, W[i - 1]'(by omega), W[i + 1]⟩ : EV)) Ty.a34 Ty.s34 rfl (.tail _ (.tail _ (.tail _ (.tail _ (.tail _ (.tail _ (.tail _ (.tail _ (.tail _ (.tail _ (.head _))))))))))) rfl rfl rfl ?_ | refine J.loadOA (vs := cE (⟨p, idW n0, idW nl, W[i - 1]'(by omega), W[i + 1]⟩ : EV)) Ty.a34 Ty.s34 rfl (.tail _ (.tail _ (.tail _ (.tail _ (.tail _ (.tail _ (.tail _ (.tail _ (.tail _ (.tail _ (.tail _ (.head _)))))))))))) rfl rfl rfl ?_ | refine J.loadOA (vs := cE (⟨p, idW n0, idW nl, W[i - 1]'(by omega), W[i + 1]⟩ : EV)) Ty.a34 Ty.s34 rfl (List.mem_append_right _ (.head _)) rfl rfl rfl ?_ | refine J.loadOA (vs := cE (⟨p, idW n0, idW nl, W[i - 1]'(by omega), W[i + 1]⟩ : EV)) Ty.a34 Ty.s34 rfl (List.mem_append_right _ (.tail _ (.head _))) rfl rfl rfl ?_ | refine J.loadOA (vs := cE (⟨p, idW n0, idW nl, W[i - 1]'(by omega), W[i + 1]⟩ : EV)) Ty.a34 Ty.s34 rfl (List.mem_append_right _ (.tail _ (.tail _ (.head _)))) rfl rfl rfl ?_ | refine J.loadOA (vs := cE (⟨p, idW n0, idW nl, W[i - 1]'(by omega), W[i + 1]⟩ : EV)) Ty.a34 Ty.s34 rfl (List.mem_append_right _ (.tail _ (.tail _ (.tail _ (.head _))))) rfl rfl rfl ?_ | refine J.loadOA (vs := cE (⟨p, idW n0, idW nl, W[i - 1]'(by omega), W[i + 1]⟩ : EV)) Ty.a34 Ty.s34 rfl (List.mem_append_right _ (.tail _ (.tail _ (.tail _ (.tail _ (.head _)))))) rfl rfl rfl ?_ | refine J.loadOA (vs := cE (⟨p, idW n0, idW nl, W[i - 1]'(by omega), W[i + 1]⟩ : EV)) Ty.a34 Ty.s34 rfl (List.mem_append_right _ (.tail _ (.tail _ (.tail _ (.tail _ (.tail _ (.head _))))))) rfl rfl rfl ?_ | refine J.loadOA (vs := cE (⟨p, idW n0, idW nl, W[i - 1]'(by omega), W[i + 1]⟩ : EV)) Ty.a34 Ty.s34 rfl (List.mem_append_right _ (.tail _ (.tail _ (.tail _ (.tail _ (.tail _ (.tail _ (.head _)))))))) rfl rfl rfl ?_ | refine J.loadOA (vs := cE (⟨p, idW n0, idW nl, W[i - 1]'(by omega), W[i + 1]⟩ : EV)) Ty.a34 Ty.s34 rfl (List.mem_append_right _ (.tail _ (.tail _ (.tail _ (.tail _ (.tail _ (.tail _ (.tail _ (.head _))))))))) rfl rfl rfl ?_ | refine J.loadOA (vs := cE (⟨p, idW n0, idW nl, W[i - 1]'(by omega), W[i + 1]⟩ : EV)) Ty.a34 Ty.s34 rfl (List.mem_append_right _ (.tail _ (.tail _ (.tail _ (.tail _ (.tail _ (.tail _ (.tail _ (.tail _ (.head _)))))))))) rfl rfl rfl ?_ | refine J.loadOA (vs := cE (⟨p, idW n0, idW nl, W[i - 1]'(by omega), W[i + 1]⟩ : EV)) Ty.a34 Ty.s34 rfl (List.mem_append_right _ (.tail _ (.tail _ (.tail _ (.tail _ (.tail _ (.tail _ (.tail _ (.tail _ (.tail _ (.head _))))))))))) rfl rfl rfl ?_ | refine J.loadOA (vs := cE (⟨p, idW n0, idW nl, W[i - 1]'(by omega), W[i + 1]⟩ : EV)) Ty.a34 Ty.s34 rfl (List.mem_append_right _ (.tail _ (.tail _ (.tail _ (.tail _ (.tail _ (.tail _ (.tail _ (.tail _ (.tail _ (.tail _ (.head _)))))))))))) rfl rfl rfl ?_ | refine J.loadOA (vs := cE (⟨p, idW n0, idW nl, W[i - 1]'(by omega), W[i + 1]⟩ : EV)) Ty.a34 Ty.s34 rfl (List.mem_append_right _ (.tail _ (.tail _ (.tail _ (.tail _ (.tail _ (.tail _ (.tail _ (.tail _ (.tail _ (.tail _ (.tail _ (.head _))))))))))))) rfl rfl rfl ?_))
                      first
                        | (refine J.skip rfl rfl rfl rfl rfl ?_)
                        | (refine J.skipU rfl rfl rfl rfl ?_)
                        | (refine J.unguard rfl rfl rfl ?_; (first | refine J.loadOA (vs := cE (⟨p, idW n0, idW nl, W[i - 1]'(by omega), W[i + 1]⟩ : EV)) Ty.a34 Ty.s34 rfl (.head _) rfl rfl rfl ?_ | refine J.loadOA (vs := cE (⟨p, idW n0, idW nl, W[i - 1]'(by omega), W[i + 1]⟩ : EV)) Ty.a34 Ty.s34 rfl (.tail _ (.head _)) rfl rfl rfl ?_ | refine J.loadOA (vs := cE (⟨p, idW n0, idW nl, W[i - 1]'(by omega), W[i + 1]⟩ : EV)) Ty.a34 Ty.s34 rfl (.tail _ (.tail _ (.head _))) rfl rfl rfl ?_ | refine J.loadOA (vs := cE (⟨p, idW n0, idW nl, W[i - 1]'(by omega), W[i + 1]⟩ : EV)) Ty.a34 Ty.s34 rfl (.tail _ (.tail _ (.tail _ (.head _)))) rfl rfl rfl ?_ | refine J.loadOA (vs := cE (⟨p, idW n0, idW nl, W[i - 1]'(by omega), W[i + 1]⟩ : EV)) Ty.a34 Ty.s34 rfl (.tail _ (.tail _ (.tail _ (.tail _ (.head _))))) rfl rfl rfl ?_ | refine J.loadOA (vs := cE (⟨p, idW n0, idW nl, W[i - 1]'(by omega), W[i + 1]⟩ : EV)) Ty.a34 Ty.s34 rfl (.tail _ (.tail _ (.tail _ (.tail _ (.tail _ (.head _)))))) rfl rfl rfl ?_ | refine J.loadOA (vs := cE (⟨p, idW n0, idW nl, W[i - 1]'(by omega), W[i + 1]⟩ : EV)) Ty.a34 Ty.s34 rfl (.tail _ (.tail _ (.tail _ (.tail _ (.tail _ (.tail _ (.head _))))))) rfl rfl rfl ?_ | refine J.loadOA (vs := cE (⟨p, idW n0, idW nl, W[i - 1]'(by omega), W[i + 1]⟩ : EV)) Ty.a34 Ty.s34 rfl (.tail _ (.tail _ (.tail _ (.tail _ (.tail _ (.tail _ (.tail _ (.head _)))))))) rfl rfl rfl ?_ | refine J.loadOA (vs := cE (⟨p, idW n0, idW nl, W[i - 1]'(by omega), W[i + 1]⟩ : EV)) Ty.a34 Ty.s34 rfl (.tail _ (.tail _ (.tail _ (.tail _ (.tail _ (.tail _ (.tail _ (.tail _ (.head _))))))))) rfl rfl rfl ?_ | refine J.loadOA (vs := cE (⟨p, idW n0, idW nl, W[i - 1]'(by omega), W[i + 1]⟩ : EV)) Ty.a34 Ty.s34 rfl (.tail _ (.tail _ (.tail _ (.tail _ (.tail _ (.tail _ (.tail _ (.tail _ (.tail _ (.head _)))))))))) rfl rfl rfl ?_ | refine J.loadOA (vs := cE (⟨p, idW n0, idW nl, W[i - 1]'(by omega), W[i + 1]⟩ : EV)) Ty.a34 Ty.s34 rfl (.tail _ (.tail _ (.tail _ (.tail _ (.tail _ (.tail _ (.tail _ (.tail _ (.tail _ (.tail _ (.head _))))))))))) rfl rfl rfl ?_ | refine J.loadOA (vs := cE (⟨p, idW n0, idW nl, W[i - 1]'(by omega), W[i + 1]⟩ : EV)) Ty.a34 Ty.s34 rfl (.tail _ (.tail _ (.tail _ (.tail _ (.tail _ (.tail _ (.tail _ (.tail _ (.tail _ (.tail _ (.tail _ (.head _)))))))))))) rfl rfl rfl ?_ | refine J.loadOA (vs := cE (⟨p, idW n0, idW nl, W[i - 1]'(by omega), W[i + 1]⟩ : EV)) Ty.a34 Ty.s34 rfl (List.mem_append_right _ (.head _)) rfl rfl rfl ?_ | refine J.loadOA (vs := cE (⟨p, idW n0, idW nl, W[i - 1]'(by omega), W[i + 1]⟩ : EV)) Ty.a34 Ty.s34 rfl (List.mem_append_right _ (.tail _ (.head _))) rfl rfl rfl ?_ | refine J.loadOA (vs := cE (⟨p, idW n0, idW nl, W[i - 1]'(by omega), W[i + 1]⟩ : EV)) Ty.a34 Ty.s34 rfl (List.mem_append_right _ (.tail _ (.tail _ (.head _)))) rfl rfl rfl ?_ | refine J.loadOA (vs := cE (⟨p, idW n0, idW nl, W[i - 1]'(by omega), W[i + 1]⟩ : EV)) Ty.a34 Ty.s34 rfl (List.mem_append_right _ (.tail _ (.tail _ (.tail _ (.head _))))) rfl rfl rfl ?_ | refine J.loadOA (vs := cE (⟨p, idW n0, idW nl, W[i - 1]'(by omega), W[i + 1]⟩ : EV)) Ty.a34 Ty.s34 rfl (List.mem_append_right _ (.tail _ (.tail _ (.tail _ (.tail _ (.head _)))))) rfl rfl rfl ?_ | refine J.loadOA (vs := cE (⟨p, idW n0, idW nl, W[i - 1]'(by omega), W[i + 1]⟩ : EV)) Ty.a34 Ty.s34 rfl (List.mem_append_right _ (.tail _ (.tail _ (.tail _ (.tail _ (.tail _ (.head _))))))) rfl rfl rfl ?_ | refine J.loadOA (vs := cE (⟨p, idW n0, idW nl, W[i - 1]'(by omega), W[i + 1]⟩ : EV)) Ty.a34 Ty.s34 rfl (List.mem_append_right _ (.tail _ (.tail _ (.tail _ (.tail _ (.tail _ (.tail _ (.head _)))))))) rfl rfl rfl ?_ | refine J.loadOA (vs := cE (⟨p, idW n0, idW nl, W[i - 1]'(by omega), W[i + 1]⟩ : EV)) Ty.a34 Ty.s34 rfl (List.mem_append_right _ (.tail _ (.tail _ (.tail _ (.tail _ (.tail _ (.tail _ (.tail _ (.head _))))))))) rfl rfl rfl ?_ | refine J.loadOA (vs := cE (⟨p, idW n0, idW nl, W[i - 1]'(by omega), W[i + 1]⟩ : EV)) Ty.a34 Ty.s34 rfl (List.mem_append_right _ (.tail _ (.tail _ (.tail _ (.tail _ (.tail _ (.tail _ (.tail _ (.tail _ (.head _)))))))))) rfl rfl rfl ?_ | refine J.loadOA (vs := cE (⟨p, idW n0, idW nl, W[i - 1]'(by omega), W[i + 1]⟩ : EV)) Ty.a34 Ty.s34 rfl (List.mem_append_right _ (.tail _ (.tail _ (.tail _ (.tail _ (.tail _ (.tail _ (.tail _ (.tail _ (.tail _ (.head _))))))))))) rfl rfl rfl ?_ | refine J.loadOA (vs := cE (⟨p, idW n0, idW nl, W[i - 1]'(by omega), W[i + 1]⟩ : EV)) Ty.a34 Ty.s34 rfl (List.mem_append_right _ (.tail _ (.tail _ (.tail _ (.tail _ (.tail _ (.tail _ (.tail _ (.tail _ (.tail _ (.tail _ (.head _)))))))))))) rfl rfl rfl ?_ | refine J.loadOA (vs := cE (⟨p, idW n0, idW nl, W[i - 1]'(by omega), W[i + 1]⟩ : EV)) Ty.a34 Ty.s34 rfl (List.mem_append_right _ (.tail _ (.tail _ (.tail _ (.tail _ (.tail _ (.tail _ (.tail _ (.tail _ (.tail _ (.tail _ (.tail _ (.head _))))))))))))) rfl rfl rfl ?_))
                      refine J.unguard rfl rfl rfl ?_
                      refine J.neE Ty.QE Ty.keyE rfl rfl hokX hokX rfl ?_
                      refine J.name 161 rfl (show Value.bool _ = .bool false by simp) ?_
                      (first | refine J.pickT rfl rfl rfl ?_ | refine J.pickF rfl rfl rfl ?_)
                      refine J.nil ?_
                      refine JX.thenN (hK35 _ _ ?_)
                      first | refine JC.condF rfl ?_ | refine JC.cond rfl (fun h => by first | (exfalso; simp at h; omega) | (simp at h)) (fun _ => ?_)
                      refine JC.skip ?_
                      refine JX.blockN ?_
                      refine JX.thenN (hK23 _ _ ?_)
                      refine JC.region ?_
                      refine J.move rfl rfl ?_
                      (first | refine J.addN rfl rfl (by omega) (by omega) rfl ?_ | refine J.bin rfl rfl rfl rfl ?_)
                      refine J.assign rfl rfl ?_
                      refine J.nil ?_
                      refine JX.thenN ?_
                      refine JX.again (⟨i + 1, t2, mb2, es2, ck2, out2, mine2, hl2⟩ : LG) ?_ ?_ ?_
                      · simp only; omega
                      · exact ⟨rfl, rfl, rfl, rfl, rfl, rfl, rfl, rfl, rfl, trivial⟩
                      · exact fun w1 hw => ⟨⟨hlt, by rw [show max (i + 1) 1 = i + 1 by omega]; exact hH2, fun h => absurd h (by simp)⟩, (hw.perm (l' := [(b17, cb (cE (⟨p, idW n0, idW nl, W[i - 1]'(by omega), W[i + 1]⟩ : EV)) 34), (b16, cb (cE (⟨p, idW n0, idW nl, W[i - 1]'(by omega), W[i + 1]⟩ : EV)) 34)] ++ ((x14, cb (cD out2 mine2 false) 37) :: (t2, tabO 3 mb2) :: (mb2, .map es2 ck2) :: (x7, cb (cI (idW n0)) 23) :: (x8, cb (cI (idW nl)) 23) :: (b50, cb (OP6.map bV) 4) :: (b5, cb [.slice (some ⟨q, 0, none⟩) W.length c5] 26) :: (b3, cb (cP p) 25) :: (q, cb (W.map iV ++ sp) 3) :: hl2)) (by (refine perm_cnt (fun _ => ?_)); simp only [cntB_append, cntB_cons, cntB_nil, Nat.add_zero, Nat.zero_add]; try ac_rfl)).drop (List.sublist_append_right _ _)⟩
                    · skip
                      have hge1 : W.length ≤ i + 1 := by simp at h8; omega
                      refine JC.skip ?_
                      refine JX.thenN (hK32 _ _ ?_)
                      refine JC.seq (fun K36 hK36 => ?_)
                      refine JC.region ?_
                      refine J.move rfl rfl ?_
                      (first | refine J.loadOA (vs := cP p) Ty.a25 Ty.s25 rfl (.head _) rfl rfl rfl ?_ | refine J.loadOA (vs := cP p) Ty.a25 Ty.s25 rfl (.tail _ (.head _)) rfl rfl rfl ?_ | refine J.loadOA (vs := cP p) Ty.a25 Ty.s25 rfl (.tail _ (.tail _ (.head _))) rfl rfl rfl ?_ | refine J.loadOA (vs := cP p) Ty.a25 Ty.s25 rfl (.tail _ (.tail _ (.tail _ (.head _)))) rfl rfl rfl ?_ | refine J.loadOA (vs := cP p) Ty.a25 Ty.s25 rfl (.tail _ (.tail _ (.tail _ (.tail _ (.head _))))) rfl rfl rfl ?_ | refine J.loadOA (vs := cP p) Ty.a25 Ty.s25 rfl (.tail _ (.tail _ (.tail _ (.tail _ (.tail _ (.head _)))))) rfl rfl rfl ?_ | refine J.loadOA (vs := cP p) Ty.a25 Ty.s25 rfl (.tail _ (.tail _ (.tail _ (.tail _ (.tail _ (.tail _ (.head _))))))) rfl rfl rfl ?_ | refine J.loadOA (vs := cP p) Ty.a25 Ty.s25 rfl (.tail _ (.tail _ (.tail _ (.tail _ (.tail _ (.tail _ (.tail _ (.head _)))))))) rfl rfl rfl ?_ | refine J.loadOA (vs := cP p) Ty.a25 Ty.s25 rfl (.tail _ (.tail _ (.tail _ (.tail _ (.tail _ (.tail _ (.tail _ (.tail _ (.head _))))))))) rfl rfl rfl ?_ | refine J.loadOA (vs := cP p) Ty.a25 Ty.s25 rfl (.tail _ (.tail _ (.tail _ (.tail _ (.tail _ (.tail _ (.tail _ (.tail _ (.tail _ (.head _)))))))))) rfl rfl rfl ?_ | refine J.loadOA (vs := cP p) Ty.a25 Ty.s25 rfl (.tail _ (.tail _ (.tail _ (.tail _ (.tail _ (.tail _ (.tail _ (.tail _ (.tail _ (.tail _ (.head _))))))))))) rfl rfl rfl ?_ | refine J.loadOA (vs := cP p) Ty.a25 Ty.s25 rfl (.tail _ (.tail _ (.tail _ (.tail _ (.tail _ (.tail _ (.tail _ (.tail _ (.tail _ (.tail _ (.tail _ (.head _)))))))))))) rfl rfl rfl ?_ | refine J.loadOA (vs := cP p) Ty.a25 Ty.s25 rfl (List.mem_append_right _ (.head _)) rfl rfl rfl ?_ | refine J.loadOA (vs := cP p) Ty.a25 Ty.s25 rfl (List.mem_append_right _ (.tail _ (.head _))) rfl rfl rfl ?_ | refine J.loadOA (vs := cP p) Ty.a25 Ty.s25 rfl (List.mem_append_right _ (.tail _ (.tail _ (.head _)))) rfl rfl rfl ?_ | refine J.loadOA (vs := cP p) Ty.a25 Ty.s25 rfl (List.mem_append_right _ (.tail _ (.tail _ (.tail _ (.head _))))) rfl rfl rfl ?_ | refine J.loadOA (vs := cP p) Ty.a25 Ty.s25 rfl (List.mem_append_right _ (.tail _ (.tail _ (.tail _ (.tail _ (.head _)))))) rfl rfl rfl ?_ | refine J.loadOA (vs := cP p) Ty.a25 Ty.s25 rfl (List.mem_append_right _ (.tail _ (.tail _ (.tail _ (.tail _ (.tail _ (.head _))))))) rfl rfl rfl ?_ | refine J.loadOA (vs := cP p) Ty.a25 Ty.s25 rfl (List.mem_append_right _ (.tail _ (.tail _ (.tail _ (.tail _ (.tail _ (.tail _ (.head _)))))))) rfl rfl rfl ?_ | refine J.loadOA (vs := cP p) Ty.a25 Ty.s25 rfl (List.mem_append_right _ (.tail _ (.tail _ (.tail _ (.tail _ (.tail _ (.tail _ (.tail _ (.head _))))))))) rfl rfl rfl ?_ | refine J.loadOA (vs := cP p) Ty.a25 Ty.s25 rfl (List.mem_append_right _ (.tail _ (.tail _ (.tail _ (.tail _ (.tail _ (.tail _ (.tail _ (.tail _ (.head _)))))))))) rfl rfl rfl ?_ | refine J.loadOA (vs := cP p) Ty.a25 Ty.s25 rfl (List.mem_append_right _ (.tail _ (.tail _ (.tail _ (.tail _ (.tail _ (.tail _ (.tail _ (.tail _ (.tail _ (.head _))))))))))) rfl rfl rfl ?_ | refine J.loadOA (vs := cP p) Ty.a25 Ty.s25 rfl (List.mem_append_right _ (.tail _ (.tail _ (.tail _ (.tail _ (.tail _ (.tail _ (.tail _ (.tail _ (.tail _ (.tail _ (.head _)))))))))))) rfl rfl rfl ?_ | refine J.loadOA (vs := cP p) Ty.a25 Ty.s25 rfl (List.mem_append_right _ (.tail _ (.tail _ (.tail _ (.tail _ (.tail _ (.tail _ (.tail _ (.tail _ (.tail _ (.tail _ (.tail _ (.head _))))))))))))) rfl rfl rfl ?_)
                      rw [naW_pos hi1 hlt, nbW_out (by omega)] at hT2
                      have hg : tget [(⟨p, idW n0, idW nl, W[i - 1]'(by omega), -1⟩ : EV)] p = some (⟨p, idW n0, idW nl, W[i - 1]'(by omega), -1⟩ : EV) := by simp [tget]
                      have hokX : okE (⟨p, idW n0, idW nl, W[i - 1]'(by omega), -1⟩ : EV) := hT2.ok _ (by simp)
                      refine J.callB (v := .tuple #[.agg (cE (⟨p, idW n0, idW nl, W[i - 1]'(by omega), -1⟩ : EV)).toArray, .bool true]) (fun w1 w2 hw hb => hw.step hb) Ty.bd23 rfl rfl (fun w1 hw => by
                        have h := get_spec t2 mb2 3 [(⟨p, idW n0, idW nl, W[i - 1]'(by omega), -1⟩ : EV)] es2 ck2 w1 (St.owns (l1 := [(t2, tabO 3 mb2), (mb2, .map es2 ck2)]) (l := (b16, cb (cE (⟨p, idW n0, idW nl, W[i - 1]'(by omega), -1⟩ : EV)) 34) :: (x14, cb (cD out2 mine2 false) 37) :: (x7, cb (cI (idW n0)) 23) :: (x8, cb (cI (idW nl)) 23) :: (b50, cb (OP6.map bV) 4) :: (b5, cb [.slice (some ⟨q, 0, none⟩) W.length c5] 26) :: (b3, cb (cP p) 25) :: (q, cb (W.map iV ++ sp) 3) :: hl2) (hw.perm (by (refine perm_cnt (fun _ => ?_)); simp only [cntB_append, cntB_cons, cntB_nil, Nat.add_zero, Nat.zero_add]; try ac_rfl))) hT2 p hkp
                        rw [hg] at h
                        exact h) ?_
                      refine J.move rfl rfl ?_
                      refine J.extract rfl rfl rfl ?_
                      refine J.extract rfl rfl rfl ?_
                      refine J.alloc Ty.zE_ rfl rfl (fun b17 => ?_)
                      refine J.storeW (cs := cE zE) (vs := cE (⟨p, idW n0, idW nl, W[i - 1]'(by omega), -1⟩ : EV)) Ty.s34 rfl rfl rfl rfl rfl (by simp [Value.oneCell']) .here ?_
                      refine J.assign rfl rfl ?_
                      refine J.nil ?_
                      refine JX.thenN (hK36 _ _ ?_)
                      refine JC.seq (fun K37 hK37 => ?_)
                      refine JC.region ?_
                      refine J.move rfl rfl ?_
                      refine J.not rfl rfl ?_
                      refine J.move rfl rfl ?_
                      first
                        | (refine J.skip rfl rfl rfl rfl rfl ?_)
                        | (refine J.skipU rfl rfl rfl rfl ?_)
                        | (refine J.unguard rfl rfl rfl ?_; (first | refine J.loadOA (vs := cE (⟨p, idW n0, idW nl, W[i - 1]'(by omega), -1⟩ : EV)) Ty.a34 Ty.s34 rfl (.head _) rfl rfl rfl ?_ | refine J.loadOA (vs := cE (⟨p, idW n0, idW nl, W[i - 1]'(by omega), -1⟩ : EV)) Ty.a34 Ty.s34 rfl (.tail _ (.head _)) rfl rfl rfl ?_ | refine J.loadOA (vs := cE (⟨p, idW n0, idW nl, W[i - 1]'(by omega), -1⟩ : EV)) Ty.a34 Ty.s34 rfl (.tail _ (.tail _ (.head _))) rfl rfl rfl ?_ | refine J.loadOA (vs := cE (⟨p, idW n0, idW nl, W[i - 1]'(by omega), -1⟩ : EV)) Ty.a34 Ty.s34 rfl (.tail _ (.tail _ (.tail _ (.head _)))) rfl rfl rfl ?_ | refine J.loadOA (vs := cE (⟨p, idW n0, idW nl, W[i - 1]'(by omega), -1⟩ : EV)) Ty.a34 Ty.s34 rfl (.tail _ (.tail _ (.tail _ (.tail _ (.head _))))) rfl rfl rfl ?_ | refine J.loadOA (vs := cE (⟨p, idW n0, idW nl, W[i - 1]'(by omega), -1⟩ : EV)) Ty.a34 Ty.s34 rfl (.tail _ (.tail _ (.tail _ (.tail _ (.tail _ (.head _)))))) rfl rfl rfl ?_ | refine J.loadOA (vs := cE (⟨p, idW n0, idW nl, W[i - 1]'(by omega), -1⟩ : EV)) Ty.a34 Ty.s34 rfl (.tail _ (.tail _ (.tail _ (.tail _ (.tail _ (.tail _ (.head _))))))) rfl rfl rfl ?_ | refine J.loadOA (vs := cE (⟨p, idW n0, idW nl, W[i - 1]'(by omega), -1⟩ : EV)) Ty.a34 Ty.s34 rfl (.tail _ (.tail _ (.tail _ (.tail _ (.tail _ (.tail _ (.tail _ (.head _)))))))) rfl rfl rfl ?_ | refine J.loadOA (vs := cE (⟨p, idW n0, idW nl, W[i - 1]'(by omega), -1⟩ : EV)) Ty.a34 Ty.s34 rfl (.tail _ (.tail _ (.tail _ (.tail _ (.tail _ (.tail _ (.tail _ (.tail _ (.head _))))))))) rfl rfl rfl ?_ | refine J.loadOA (vs := cE (⟨p, idW n0, idW nl, W[i - 1]'(by omega), -1⟩ : EV)) Ty.a34 Ty.s34 rfl (.tail _ (.tail _ (.tail _ (.tail _ (.tail _ (.tail _ (.tail _ (.tail _ (.tail _ (.head _)))))))))) rfl rfl rfl ?_ | refine J.loadOA (vs := cE (⟨p, idW n0, idW nl, W[i - 1]'(by omega), -1⟩ : EV)) Ty.a34 Ty.s34 rfl (.tail _ (.tail _ (.tail _ (.tail _ (.tail _ (.tail _ (.tail _ (.tail _ (.tail _ (.tail _ (.head _))))))))))) rfl rfl rfl ?_ | refine J.loadOA (vs := cE (⟨p, idW n0, idW nl, W[i - 1]'(by omega), -1⟩ : EV)) Ty.a34 Ty.s34 rfl (.tail _ (.tail _ (.tail _ (.tail _ (.tail _ (.tail _ (.tail _ (.tail _ (.tail _ (.tail _ (.tail _ (.head _)))))))))))) rfl rfl rfl ?_ | refine J.loadOA (vs := cE (⟨p, idW n0, idW nl, W[i - 1]'(by omega), -1⟩ : EV)) Ty.a34 Ty.s34 rfl (List.mem_append_right _ (.head _)) rfl rfl rfl ?_ | refine J.loadOA (vs := cE (⟨p, idW n0, idW nl, W[i - 1]'(by omega), -1⟩ : EV)) Ty.a34 Ty.s34 rfl (List.mem_append_right _ (.tail _ (.head _))) rfl rfl rfl ?_ | refine J.loadOA (vs := cE (⟨p, idW n0, idW nl, W[i - 1]'(by omega), -1⟩ : EV)) Ty.a34 Ty.s34 rfl (List.mem_append_right _ (.tail _ (.tail _ (.head _)))) rfl rfl rfl ?_ | refine J.loadOA (vs := cE (⟨p, idW n0, idW nl, W[i - 1]'(by omega), -1⟩ : EV)) Ty.a34 Ty.s34 rfl (List.mem_append_right _ (.tail _ (.tail _ (.tail _ (.head _))))) rfl rfl rfl ?_ | refine J.loadOA (vs := cE (⟨p, idW n0, idW nl, W[i - 1]'(by omega), -1⟩ : EV)) Ty.a34 Ty.s34 rfl (List.mem_append_right _ (.tail _ (.tail _ (.tail _ (.tail _ (.head _)))))) rfl rfl rfl ?_ | refine J.loadOA (vs := cE (⟨p, idW n0, idW nl, W[i - 1]'(by omega), -1⟩ : EV)) Ty.a34 Ty.s34 rfl (List.mem_append_right _ (.tail _ (.tail _ (.tail _ (.tail _ (.tail _ (.head _))))))) rfl rfl rfl ?_ | refine J.loadOA (vs := cE (⟨p, idW n0, idW nl, W[i - 1]'(by omega), -1⟩ : EV)) Ty.a34 Ty.s34 rfl (List.mem_append_right _ (.tail _ (.tail _ (.tail _ (.tail _ (.tail _ (.tail _ (.head _)))))))) rfl rfl rfl ?_ | refine J.loadOA (vs := cE (⟨p, idW n0, idW nl, W[i - 1]'(by omega), -1⟩ : EV)) Ty.a34 Ty.s34 rfl (List.mem_append_right _ (.tail _ (.tail _ (.tail _ (.tail _ (.tail _ (.tail _ (.tail _ (.head _))))))))) rfl rfl rfl ?_ | refine J.loadOA (vs := cE (⟨p, idW n0, idW nl, W[i - 1]'(by omega), -1⟩ : EV)) Ty.a34 Ty.s34 rfl (List.mem_append_right _ (.tail _ (.tail _ (.tail _ (.tail _ (.tail _ (.tail _ (.tail _ (.tail _ (.head _)))))))))) rfl rfl rfl ?_ | refine J.loadOA (vs := cE (⟨p, idW n0, idW nl, W[i - 1]'(by omega), -1⟩ : EV)) Ty.a34 Ty.s34 rfl (List.mem_append_right _ (.tail _ (.tail _ (.tail _ (.tail _ (.tail _ (.tail _ (.tail _ (.tail _ (.tail _ (.head _))))))))))) rfl rfl rfl ?_ | refine J.loadOA (vs := cE (⟨p, idW n0, idW nl, W[i - 1]'(by omega), -1⟩ : EV)) Ty.a34 Ty.s34 rfl (List.mem_append_right _ (.tail _ (.tail _ (.tail _ (.tail _ (.tail _ (.tail _ (.tail _ (.tail _ (.tail _ (.tail _ (.head _)))))))))))) rfl rfl rfl ?_ | refine J.loadOA (vs := cE (⟨p, idW n0, idW nl, W[i - 1]'(by omega), -1⟩ : EV)) Ty.a34 Ty.s34 rfl (List.mem_append_right _ (.tail _ (.tail _ (.tail _ (.tail _ (.tail _ (.tail _ (.tail _ (.tail _ (.tail _ (.tail _ (.tail _ (.head _))))))))))))) rfl rfl rfl ?_))
                      first
                        | (refine J.skip rfl rfl rfl rfl rfl ?_)
                        | (refine J.skipU rfl rfl rfl rfl ?_)
                        | (refine J.unguard rfl rfl rfl ?_; (first | refine J.loadOA (vs := cE (⟨p, idW n0, idW nl, W[i - 1]'(by omega), -1⟩ : EV)) Ty.a34 Ty.s34 rfl (.head _) rfl rfl rfl ?_ | refine J.loadOA (vs := cE (⟨p, idW n0, idW nl, W[i - 1]'(by omega), -1⟩ : EV)) Ty.a34 Ty.s34 rfl (.tail _ (.head _)) rfl rfl rfl ?_ | refine J.loadOA (vs := cE (⟨p, idW n0, idW nl, W[i - 1]'(by omega), -1⟩ : EV)) Ty.a34 Ty.s34 rfl (.tail _ (.tail _ (.head _))) rfl rfl rfl ?_ | refine J.loadOA (vs := cE (⟨p, idW n0, idW nl, W[i - 1]'(by omega), -1⟩ : EV)) Ty.a34 Ty.s34 rfl (.tail _ (.tail _ (.tail _ (.head _)))) rfl rfl rfl ?_ | refine J.loadOA (vs := cE (⟨p, idW n0, idW nl, W[i - 1]'(by omega), -1⟩ : EV)) Ty.a34 Ty.s34 rfl (.tail _ (.tail _ (.tail _ (.tail _ (.head _))))) rfl rfl rfl ?_ | refine J.loadOA (vs := cE (⟨p, idW n0, idW nl, W[i - 1]'(by omega), -1⟩ : EV)) Ty.a34 Ty.s34 rfl (.tail _ (.tail _ (.tail _ (.tail _ (.tail _ (.head _)))))) rfl rfl rfl ?_ | refine J.loadOA (vs := cE (⟨p, idW n0, idW nl, W[i - 1]'(by omega), -1⟩ : EV)) Ty.a34 Ty.s34 rfl (.tail _ (.tail _ (.tail _ (.tail _ (.tail _ (.tail _ (.head _))))))) rfl rfl rfl ?_ | refine J.loadOA (vs := cE (⟨p, idW n0, idW nl, W[i - 1]'(by omega), -1⟩ : EV)) Ty.a34 Ty.s34 rfl (.tail _ (.tail _ (.tail _ (.tail _ (.tail _ (.tail _ (.tail _ (.head _)))))))) rfl rfl rfl ?_ | refine J.loadOA (vs := cE (⟨p, idW n0, idW nl, W[i - 1]'(by omega), -1⟩ : EV)) Ty.a34 Ty.s34 rfl (.tail _ (.tail _ (.tail _ (.tail _ (.tail _ (.tail _ (.tail _ (.tail _ (.head _))))))))) rfl rfl rfl ?_ | refine J.loadOA (vs := cE (⟨p, idW n0, idW nl, W[i - 1]'(by omega), -1⟩ : EV)) Ty.a34 Ty.s34 rfl (.tail _ (.tail _ (.tail _ (.tail _ (.tail _ (.tail _ (.tail _ (.tail _ (.tail _ (.head _)))))))))) rfl rfl rfl ?_ | refine J.loadOA (vs := cE (⟨p, idW n0, idW nl, W[i - 1]'(by omega), -1⟩ : EV)) Ty.a34 Ty.s34 rfl (.tail _ (.tail _ (.tail _ (.tail _ (.tail _ (.tail _ (.tail _ (.tail _ (.tail _ (.tail _ (.head _))))))))))) rfl rfl rfl ?_ | refine J.loadOA (vs := cE (⟨p, idW n0, idW nl, W[i - 1]'(by omega), -1⟩ : EV)) Ty.a34 Ty.s34 rfl (.tail _ (.tail _ (.tail _ (.tail _ (.tail _ (.tail _ (.tail _ (.tail _ (.tail _ (.tail _ (.tail _ (.head _)))))))))))) rfl rfl rfl ?_ | refine J.loadOA (vs := cE (⟨p, idW n0, idW nl, W[i - 1]'(by omega), -1⟩ : EV)) Ty.a34 Ty.s34 rfl (List.mem_append_right _ (.head _)) rfl rfl rfl ?_ | refine J.loadOA (vs := cE (⟨p, idW n0, idW nl, W[i - 1]'(by omega), -1⟩ : EV)) Ty.a34 Ty.s34 rfl (List.mem_append_right _ (.tail _ (.head _))) rfl rfl rfl ?_ | refine J.loadOA (vs := cE (⟨p, idW n0, idW nl, W[i - 1]'(by omega), -1⟩ : EV)) Ty.a34 Ty.s34 rfl (List.mem_append_right _ (.tail _ (.tail _ (.head _)))) rfl rfl rfl ?_ | refine J.loadOA (vs := cE (⟨p, idW n0, idW nl, W[i - 1]'(by omega), -1⟩ : EV)) Ty.a34 Ty.s34 rfl (List.mem_append_right _ (.tail _ (.tail _ (.tail _ (.head _))))) rfl rfl rfl ?_ | refine J.loadOA (vs := cE (⟨p, idW n0, idW nl, W[i - 1]'(by omega), -1⟩ : EV)) Ty.a34 Ty.s34 rfl (List.mem_append_right _ (.tail _ (.tail _ (.tail _ (.tail _ (.head _)))))) rfl rfl rfl ?_ | refine J.loadOA (vs := cE (⟨p, idW n0, idW nl, W[i - 1]'(by omega), -1⟩ : EV)) Ty.a34 Ty.s34 rfl (List.mem_append_right _ (.tail _ (.tail _ (.tail _ (.tail _ (.tail _ (.head _))))))) rfl rfl rfl ?_ | refine J.loadOA (vs := cE (⟨p, idW n0, idW nl, W[i - 1]'(by omega), -1⟩ : EV)) Ty.a34 Ty.s34 rfl (List.mem_append_right _ (.tail _ (.tail _ (.tail _ (.tail _ (.tail _ (.tail _ (.head _)))))))) rfl rfl rfl ?_ | refine J.loadOA (vs := cE (⟨p, idW n0, idW nl, W[i - 1]'(by omega), -1⟩ : EV)) Ty.a34 Ty.s34 rfl (List.mem_append_right _ (.tail _ (.tail _ (.tail _ (.tail _ (.tail _ (.tail _ (.tail _ (.head _))))))))) rfl rfl rfl ?_ | refine J.loadOA (vs := cE (⟨p, idW n0, idW nl, W[i - 1]'(by omega), -1⟩ : EV)) Ty.a34 Ty.s34 rfl (List.mem_append_right _ (.tail _ (.tail _ (.tail _ (.tail _ (.tail _ (.tail _ (.tail _ (.tail _ (.head _)))))))))) rfl rfl rfl ?_ | refine J.loadOA (vs := cE (⟨p, idW n0, idW nl, W[i - 1]'(by omega), -1⟩ : EV)) Ty.a34 Ty.s34 rfl (List.mem_append_right _ (.tail _ (.tail _ (.tail _ (.tail _ (.tail _ (.tail _ (.tail _ (.tail _ (.tail _ (.head _))))))))))) rfl rfl rfl ?_ | refine J.loadOA (vs := cE (⟨p, idW n0, idW nl, W[i - 1]'(by omega), -1⟩ : EV)) Ty.a34 Ty.s34 rfl (List.mem_append_right _ (.tail _ (.tail _ (.tail _ (.tail _ (.tail _ (.tail _ (.tail _ (.tail _ (.tail _ (.tail _ (.head _)))))))))))) rfl rfl rfl ?_ | refine J.loadOA (vs := cE (⟨p, idW n0, idW nl, W[i - 1]'(by omega), -1⟩ : EV)) Ty.a34 Ty.s34 rfl (List.mem_append_right _ (.tail _ (.tail _ (.tail _ (.tail _ (.tail _ (.tail _ (.tail _ (.tail _ (.tail _ (.tail _ (.tail _ (.head _))))))))))))) rfl rfl rfl ?_))
                      refine J.unguard rfl rfl rfl ?_
                      refine J.neE Ty.QE Ty.keyE rfl rfl hokX hokX rfl ?_
                      refine J.name 161 rfl (show Value.bool _ = .bool false by simp) ?_
                      (first | refine J.pickT rfl rfl rfl ?_ | refine J.pickF rfl rfl rfl ?_)
                      refine J.nil ?_
                      refine JX.thenN (hK37 _ _ ?_)
                      first | refine JC.condF rfl ?_ | refine JC.cond rfl (fun h => by first | (exfalso; simp at h; omega) | (simp at h)) (fun _ => ?_)
                      refine JC.skip ?_
                      refine JX.blockN ?_
                      refine JX.thenN (hK23 _ _ ?_)
                      refine JC.region ?_
                      refine J.move rfl rfl ?_
                      (first | refine J.addN rfl rfl (by omega) (by omega) rfl ?_ | refine J.bin rfl rfl rfl rfl ?_)
                      refine J.assign rfl rfl ?_
                      refine J.nil ?_
                      refine JX.thenN ?_
                      refine JX.again (⟨i + 1, t2, mb2, es2, ck2, out2, mine2, hl2⟩ : LG) ?_ ?_ ?_
                      · simp only; omega
                      · exact ⟨rfl, rfl, rfl, rfl, rfl, rfl, rfl, rfl, rfl, trivial⟩
                      · exact fun w1 hw => ⟨⟨hlt, by rw [show max (i + 1) 1 = i + 1 by omega]; exact hH2, fun h => absurd h (by simp)⟩, (hw.perm (l' := [(b17, cb (cE (⟨p, idW n0, idW nl, W[i - 1]'(by omega), -1⟩ : EV)) 34), (b16, cb (cE (⟨p, idW n0, idW nl, W[i - 1]'(by omega), -1⟩ : EV)) 34)] ++ ((x14, cb (cD out2 mine2 false) 37) :: (t2, tabO 3 mb2) :: (mb2, .map es2 ck2) :: (x7, cb (cI (idW n0)) 23) :: (x8, cb (cI (idW nl)) 23) :: (b50, cb (OP6.map bV) 4) :: (b5, cb [.slice (some ⟨q, 0, none⟩) W.length c5] 26) :: (b3, cb (cP p) 25) :: (q, cb (W.map iV ++ sp) 3) :: hl2)) (by (refine perm_cnt (fun _ => ?_)); simp only [cntB_append, cntB_cons, cntB_nil, Nat.add_zero, Nat.zero_add]; try ac_rfl)).drop (List.sublist_append_right _ _)⟩
              · skip
                have hi0 : i = 0 := by simp at h5; omega
                refine JC.skip ?_
                refine JX.thenN (hK24 _ _ ?_)
                refine JC.seq (fun K38 hK38 => ?_)
                refine JC.region ?_
                (first | refine J.loadOA (vs := cP p) Ty.a25 Ty.s25 rfl (.head _) rfl rfl rfl ?_ | refine J.loadOA (vs := cP p) Ty.a25 Ty.s25 rfl (.tail _ (.head _)) rfl rfl rfl ?_ | refine J.loadOA (vs := cP p) Ty.a25 Ty.s25 rfl (.tail _ (.tail _ (.head _))) rfl rfl rfl ?_ | refine J.loadOA (vs := cP p) Ty.a25 Ty.s25 rfl (.tail _ (.tail _ (.tail _ (.head _)))) rfl rfl rfl ?_ | refine J.loadOA (vs := cP p) Ty.a25 Ty.s25 rfl (.tail _ (.tail _ (.tail _ (.tail _ (.head _))))) rfl rfl rfl ?_ | refine J.loadOA (vs := cP p) Ty.a25 Ty.s25 rfl (.tail _ (.tail _ (.tail _ (.tail _ (.tail _ (.head _)))))) rfl rfl rfl ?_ | refine J.loadOA (vs := cP p) Ty.a25 Ty.s25 rfl (.tail _ (.tail _ (.tail _ (.tail _ (.tail _ (.tail _ (.head _))))))) rfl rfl rfl ?_ | refine J.loadOA (vs := cP p) Ty.a25 Ty.s25 rfl (.tail _ (.tail _ (.tail _ (.tail _ (.tail _ (.tail _ (.tail _ (.head _)))))))) rfl rfl rfl ?_ | refine J.loadOA (vs := cP p) Ty.a25 Ty.s25 rfl (.tail _ (.tail _ (.tail _ (.tail _ (.tail _ (.tail _ (.tail _ (.tail _ (.head _))))))))) rfl rfl rfl ?_ | refine J.loadOA (vs := cP p) Ty.a25 Ty.s25 rfl (.tail _ (.tail _ (.tail _ (.tail _ (.tail _ (.tail _ (.tail _ (.tail _ (.tail _ (.head _)))))))))) rfl rfl rfl ?_ | refine J.loadOA (vs := cP p) Ty.a25 Ty.s25 rfl (.tail _ (.tail _ (.tail _ (.tail _ (.tail _ (.tail _ (.tail _ (.tail _ (.tail _ (.tail _ (.head _))))))))))) rfl rfl rfl ?_ | refine J.loadOA (vs := cP p) Ty.a25 Ty.s25 rfl (.tail _ (.tail _ (.tail _ (.tail _ (.tail _ (.tail _ (.tail _ (.tail _ (.tail _ (.tail _ (.tail _ (.head _)))))))))))) rfl rfl rfl ?_ | refine J.loadOA (vs := cP p) Ty.a25 Ty.s25 rfl (List.mem_append_right _ (.head _)) rfl rfl rfl ?_ | refine J.loadOA (vs := cP p) Ty.a25 Ty.s25 rfl (List.mem_append_right _ (.tail _ (.head _))) rfl rfl rfl ?_ | refine J.loadOA (vs := cP p) Ty.a25 Ty.s25 rfl (List.mem_append_right _ (.tail _ (.tail _ (.head _)))) rfl rfl rfl ?_ | refine J.loadOA (vs := cP p) Ty.a25 Ty.s25 rfl (List.mem_append_right _ (.tail _ (.tail _ (.tail _ (.head _))))) rfl rfl rfl ?_ | refine J.loadOA (vs := cP p) Ty.a25 Ty.s25 rfl (List.mem_append_right _ (.tail _ (.tail _ (.tail _ (.tail _ (.head _)))))) rfl rfl rfl ?_ | refine J.loadOA (vs := cP p) Ty.a25 Ty.s25 rfl (List.mem_append_right _ (.tail _ (.tail _ (.tail _ (.tail _ (.tail _ (.head _))))))) rfl rfl rfl ?_ | refine J.loadOA (vs := cP p) Ty.a25 Ty.s25 rfl (List.mem_append_right _ (.tail _ (.tail _ (.tail _ (.tail _ (.tail _ (.tail _ (.head _)))))))) rfl rfl rfl ?_ | refine J.loadOA (vs := cP p) Ty.a25 Ty.s25 rfl (List.mem_append_right _ (.tail _ (.tail _ (.tail _ (.tail _ (.tail _ (.tail _ (.tail _ (.head _))))))))) rfl rfl rfl ?_ | refine J.loadOA (vs := cP p) Ty.a25 Ty.s25 rfl (List.mem_append_right _ (.tail _ (.tail _ (.tail _ (.tail _ (.tail _ (.tail _ (.tail _ (.tail _ (.head _)))))))))) rfl rfl rfl ?_ | refine J.loadOA (vs := cP p) Ty.a25 Ty.s25 rfl (List.mem_append_right _ (.tail _ (.tail _ (.tail _ (.tail _ (.tail _ (.tail _ (.tail _ (.tail _ (.tail _ (.head _))))))))))) rfl rfl rfl ?_ | refine J.loadOA (vs := cP p) Ty.a25 Ty.s25 rfl (List.mem_append_right _ (.tail _ (.tail _ (.tail _ (.tail _ (.tail _ (.tail _ (.tail _ (.tail _ (.tail _ (.tail _ (.head _)))))))))))) rfl rfl rfl ?_ | refine J.loadOA (vs := cP p) Ty.a25 Ty.s25 rfl (List.mem_append_right _ (.tail _ (.tail _ (.tail _ (.tail _ (.tail _ (.tail _ (.tail _ (.tail _ (.tail _ (.tail _ (.tail _ (.head _))))))))))))) rfl rfl rfl ?_)
                (first | refine J.loadOA (vs := cI (idW n0)) Ty.a23 Ty.s23 rfl (.head _) rfl rfl rfl ?_ | refine J.loadOA (vs := cI (idW n0)) Ty.a23 Ty.s23 rfl (.tail _ (.head _)) rfl rfl rfl ?_ | refine J.loadOA (vs := cI (idW n0)) Ty.a23 Ty.s23 rfl (.tail _ (.tail _ (.head _))) rfl rfl rfl ?_ | refine J.loadOA (vs := cI (idW n0)) Ty.a23 Ty.s23 rfl (.tail _ (.tail _ (.tail _ (.head _)))) rfl rfl rfl ?_ | refine J.loadOA (vs := cI (idW n0)) Ty.a23 Ty.s23 rfl (.tail _ (.tail _ (.tail _ (.tail _ (.head _))))) rfl rfl rfl ?_ | refine J.loadOA (vs := cI (idW n0)) Ty.a23 Ty.s23 rfl (.tail _ (.tail _ (.tail _ (.tail _ (.tail _ (.head _)))))) rfl rfl rfl ?_ | refine J.loadOA (vs := cI (idW n0)) Ty.a23 Ty.s23 rfl (.tail _ (.tail _ (.tail _ (.tail _ (.tail _ (.tail _ (.head _))))))) rfl rfl rfl ?_ | refine J.loadOA (vs := cI (idW n0)) Ty.a23 Ty.s23 rfl (.tail _ (.tail _ (.tail _ (.tail _ (.tail _ (.tail _ (.tail _ (.head _)))))))) rfl rfl rfl ?_ | refine J.loadOA (vs := cI (idW n0)) Ty.a23 Ty.s23 rfl (.tail _ (.tail _ (.tail _ (.tail _ (.tail _ (.tail _ (.tail _ (.tail _ (.head _))))))))) rfl rfl rfl ?_ | refine J.loadOA (vs := cI (idW n0)) Ty.a23 Ty.s23 rfl (.tail _ (.tail _ (.tail _ (.tail _ (.tail _ (.tail _ (.tail _ (.tail _ (.tail _ (.head _)))))))))) rfl rfl rfl ?_ | refine J.loadOA (vs := cI (idW n0)) Ty.a23 Ty.s23 rfl (.tail _ (.tail _ (.tail _ (.tail _ (.tail _ (.tail _ (.tail _ (.tail _ (.tail _ (.tail _ (.head _))))))))))) rfl rfl rfl ?_ | refine J.loadOA (vs := cI (idW n0)) Ty.a23 Ty.s23 rfl (.tail _ (.tail _ (.tail _ (.tail _ (.tail _ (.tail _ (.tail _ (.tail _ (.tail _ (.tail _ (.tail _ (.head _)))))))))))) rfl rfl rfl ?_ | refine J.loadOA (vs := cI (idW n0)) Ty.a23 Ty.s23 rfl (List.mem_append_right _ (.head _)) rfl rfl rfl ?_ | refine J.loadOA (vs := cI (idW n0)) Ty.a23 Ty.s23 rfl (List.mem_append_right _ (.tail _ (.head _))) rfl rfl rfl ?_ | refine J.loadOA (vs := cI (idW n0)) Ty.a23 Ty.s23 rfl (List.mem_append_right _ (.tail _ (.tail _ (.head _)))) rfl rfl rfl ?_ | refine J.loadOA (vs := cI (idW n0)) Ty.a23 Ty.s23 rfl (List.mem_append_right _ (.tail _ (.tail _ (.tail _ (.head _))))) rfl rfl rfl ?_ | refine J.loadOA (vs := cI (idW n0)) Ty.a23 Ty.s23 rfl (List.mem_append_right _ (.tail _ (.tail _ (.tail _ (.tail _ (.head _)))))) rfl rfl rfl ?_ | refine J.loadOA (vs := cI (idW n0)) Ty.a23 Ty.s23 rfl (List.mem_append_right _ (.tail _ (.tail _ (.tail _ (.tail _ (.tail _ (.head _))))))) rfl rfl rfl ?_ | refine J.loadOA (vs := cI (idW n0)) Ty.a23 Ty.s23 rfl (List.mem_append_right _ (.tail _ (.tail _ (.tail _ (.tail _ (.tail _ (.tail _ (.head _)))))))) rfl rfl rfl ?_ | refine J.loadOA (vs := cI (idW n0)) Ty.a23 Ty.s23 rfl (List.mem_append_right _ (.tail _ (.tail _ (.tail _ (.tail _ (.tail _ (.tail _ (.tail _ (.head _))))))))) rfl rfl rfl ?_ | refine J.loadOA (vs := cI (idW n0)) Ty.a23 Ty.s23 rfl (List.mem_append_right _ (.tail _ (.tail _ (.tail _ (.tail _ (.tail _ (.tail _ (.tail _ (.tail _ (.head _)))))))))) rfl rfl rfl ?_ | refine J.loadOA (vs := cI (idW n0)) Ty.a23 Ty.s23 rfl (List.mem_append_right _ (.tail _ (.tail _ (.tail _ (.tail _ (.tail _ (.tail _ (.tail _ (.tail _ (.tail _ (.head _))))))))))) rfl rfl rfl ?_ | refine J.loadOA (vs := cI (idW n0)) Ty.a23 Ty.s23 rfl (List.mem_append_right _ (.tail _ (.tail _ (.tail _ (.tail _ (.tail _ (.tail _ (.tail _ (.tail _ (.tail _ (.tail _ (.head _)))))))))))) rfl rfl rfl ?_ | refine J.loadOA (vs := cI (idW n0)) Ty.a23 Ty.s23 rfl (List.mem_append_right _ (.tail _ (.tail _ (.tail _ (.tail _ (.tail _ (.tail _ (.tail _ (.tail _ (.tail _ (.tail _ (.tail _ (.head _))))))))))))) rfl rfl rfl ?_)
                (first | refine J.loadOA (vs := cI (idW nl)) Ty.a23 Ty.s23 rfl (.head _) rfl rfl rfl ?_ | refine J.loadOA (vs := cI (idW nl)) Ty.a23 Ty.s23 rfl (.tail _ (.head _)) rfl rfl rfl ?_ | refine J.loadOA (vs := cI (idW nl)) Ty.a23 Ty.s23 rfl (.tail _ (.tail _ (.head _))) rfl rfl rfl ?_ | refine J.loadOA (vs := cI (idW nl)) Ty.a23 Ty.s23 rfl (.tail _ (.tail _ (.tail _ (.head _)))) rfl rfl rfl ?_ | refine J.loadOA (vs := cI (idW nl)) Ty.a23 Ty.s23 rfl (.tail _ (.tail _ (.tail _ (.tail _ (.head _))))) rfl rfl rfl ?_ | refine J.loadOA (vs := cI (idW nl)) Ty.a23 Ty.s23 rfl (.tail _ (.tail _ (.tail _ (.tail _ (.tail _ (.head _)))))) rfl rfl rfl ?_ | refine J.loadOA (vs := cI (idW nl)) Ty.a23 Ty.s23 rfl (.tail _ (.tail _ (.tail _ (.tail _ (.tail _ (.tail _ (.head _))))))) rfl rfl rfl ?_ | refine J.loadOA (vs := cI (idW nl)) Ty.a23 Ty.s23 rfl (.tail _ (.tail _ (.tail _ (.tail _ (.tail _ (.tail _ (.tail _ (.head _)))))))) rfl rfl rfl ?_ | refine J.loadOA (vs := cI (idW nl)) Ty.a23 Ty.s23 rfl (.tail _ (.tail _ (.tail _ (.tail _ (.tail _ (.tail _ (.tail _ (.tail _ (.head _))))))))) rfl rfl rfl ?_ | refine J.loadOA (vs := cI (idW nl)) Ty.a23 Ty.s23 rfl (.tail _ (.tail _ (.tail _ (.tail _ (.tail _ (.tail _ (.tail _ (.tail _ (.tail _ (.head _)))))))))) rfl rfl rfl ?_ | refine J.loadOA (vs := cI (idW nl)) Ty.a23 Ty.s23 rfl (.tail _ (.tail _ (.tail _ (.tail _ (.tail _ (.tail _ (.tail _ (.tail _ (.tail _ (.tail _ (.head _))))))))))) rfl rfl rfl ?_ | refine J.loadOA (vs := cI (idW nl)) Ty.a23 Ty.s23 rfl (.tail _ (.tail _ (.tail _ (.tail _ (.tail _ (.tail _ (.tail _ (.tail _ (.tail _ (.tail _ (.tail _ (.head _)))))))))))) rfl rfl rfl ?_ | refine J.loadOA (vs := cI (idW nl)) Ty.a23 Ty.s23 rfl (List.mem_append_right _ (.head _)) rfl rfl rfl ?_ | refine J.loadOA (vs := cI (idW nl)) Ty.a23 Ty.s23 rfl (List.mem_append_right _ (.tail _ (.head _))) rfl rfl rfl ?_ | refine J.loadOA (vs := cI (idW nl)) Ty.a23 Ty.s23 rfl (List.mem_append_right _ (.tail _ (.tail _ (.head _)))) rfl rfl rfl ?_ | refine J.loadOA (vs := cI (idW nl)) Ty.a23 Ty.s23 rfl (List.mem_append_right _ (.tail _ (.tail _ (.tail _ (.head _))))) rfl rfl rfl ?_ | refine J.loadOA (vs := cI (idW nl)) Ty.a23 Ty.s23 rfl (List.mem_append_right _ (.tail _ (.tail _ (.tail _ (.tail _ (.head _)))))) rfl rfl rfl ?_ | refine J.loadOA (vs := cI (idW nl)) Ty.a23 Ty.s23 rfl (List.mem_append_right _ (.tail _ (.tail _ (.tail _ (.tail _ (.tail _ (.head _))))))) rfl rfl rfl ?_ | refine J.loadOA (vs := cI (idW nl)) Ty.a23 Ty.s23 rfl (List.mem_append_right _ (.tail _ (.tail _ (.tail _ (.tail _ (.tail _ (.tail _ (.head _)))))))) rfl rfl rfl ?_ | refine J.loadOA (vs := cI (idW nl)) Ty.a23 Ty.s23 rfl (List.mem_append_right _ (.tail _ (.tail _ (.tail _ (.tail _ (.tail _ (.tail _ (.tail _ (.head _))))))))) rfl rfl rfl ?_ | refine J.loadOA (vs := cI (idW nl)) Ty.a23 Ty.s23 rfl (List.mem_append_right _ (.tail _ (.tail _ (.tail _ (.tail _ (.tail _ (.tail _ (.tail _ (.tail _ (.head _)))))))))) rfl rfl rfl ?_ | refine J.loadOA (vs := cI (idW nl)) Ty.a23 Ty.s23 rfl (List.mem_append_right _ (.tail _ (.tail _ (.tail _ (.tail _ (.tail _ (.tail _ (.tail _ (.tail _ (.tail _ (.head _))))))))))) rfl rfl rfl ?_ | refine J.loadOA (vs := cI (idW nl)) Ty.a23 Ty.s23 rfl (List.mem_append_right _ (.tail _ (.tail _ (.tail _ (.tail _ (.tail _ (.tail _ (.tail _ (.tail _ (.tail _ (.tail _ (.head _)))))))))))) rfl rfl rfl ?_ | refine J.loadOA (vs := cI (idW nl)) Ty.a23 Ty.s23 rfl (List.mem_append_right _ (.tail _ (.tail _ (.tail _ (.tail _ (.tail _ (.tail _ (.tail _ (.tail _ (.tail _ (.tail _ (.tail _ (.head _))))))))))))) rfl rfl rfl ?_)
                refine J.buildS (cs := cE (⟨p, idW n0, idW nl, -1, -1⟩ : EV)) Ty.pl34 Ty.zE_ rfl (by kernel_rfl) rfl ?_
                refine J.alloc Ty.zE_ rfl rfl (fun b16 => ?_)
                (first | refine J.storeW Ty.s34 rfl rfl rfl rfl rfl (by simp [Value.oneCell']) .here ?_ | refine J.storeW Ty.s34 rfl rfl rfl rfl rfl (by simp [Value.oneCell']) (.there .here) ?_ | refine J.storeW Ty.s34 rfl rfl rfl rfl rfl (by simp [Value.oneCell']) (.there (.there .here)) ?_ | refine J.storeW Ty.s34 rfl rfl rfl rfl rfl (by simp [Value.oneCell']) (.there (.there (.there .here))) ?_ | refine J.storeW Ty.s34 rfl rfl rfl rfl rfl (by simp [Value.oneCell']) (.there (.there (.there (.there .here)))) ?_ | refine J.storeW Ty.s34 rfl rfl rfl rfl rfl (by simp [Value.oneCell']) (.there (.there (.there (.there (.there .here))))) ?_ | refine J.storeW Ty.s34 rfl rfl rfl rfl rfl (by simp [Value.oneCell']) (.there (.there (.there (.there (.there (.there .here)))))) ?_ | refine J.storeW Ty.s34 rfl rfl rfl rfl rfl (by simp [Value.oneCell']) (.there (.there (.there (.there (.there (.there (.there .here))))))) ?_ | refine J.storeW Ty.s34 rfl rfl rfl rfl rfl (by simp [Value.oneCell']) (.there (.there (.there (.there (.there (.there (.there (.there .here)))))))) ?_ | refine J.storeW Ty.s34 rfl rfl rfl rfl rfl (by simp [Value.oneCell']) (.there (.there (.there (.there (.there (.there (.there (.there (.there .here))))))))) ?_)
                refine J.nil ?_
                refine JX.thenN (hK38 _ _ ?_)
                refine JC.seq (fun K39 hK39 => ?_)
                refine JC.seq (fun K40 hK40 => ?_)
                refine JC.region ?_
                refine J.move rfl rfl ?_
                refine J.bin rfl rfl rfl rfl ?_
                refine J.nil ?_
                refine JX.thenN (hK40 _ _ ?_)
                first | refine JC.condF rfl ?_ | refine JC.cond rfl (fun h => by first | (exfalso; simp at h; omega) | (simp at h)) (fun _ => ?_)
                refine JC.skip ?_
                refine JX.thenN (hK39 _ _ ?_)
                refine JC.seq (fun K41 hK41 => ?_)
                refine JC.seq (fun K42 hK42 => ?_)
                refine JC.region ?_
                refine J.move rfl rfl ?_
                (first | refine J.addN rfl rfl (by omega) (by omega) rfl ?_ | refine J.bin rfl rfl rfl rfl ?_)
                (first | refine J.loadO Ty.a26 rfl (.head _) rfl rfl ?_ | refine J.loadO Ty.a26 rfl (.tail _ (.head _)) rfl rfl ?_ | refine J.loadO Ty.a26 rfl (.tail _ (.tail _ (.head _))) rfl rfl ?_ | refine J.loadO Ty.a26 rfl (.tail _ (.tail _ (.tail _ (.head _)))) rfl rfl ?_ | refine J.loadO Ty.a26 rfl (.tail _ (.tail _ (.tail _ (.tail _ (.head _))))) rfl rfl ?_ | refine J.loadO Ty.a26 rfl (.tail _ (.tail _ (.tail _ (.tail _ (.tail _ (.head _)))))) rfl rfl ?_ | refine J.loadO Ty.a26 rfl (.tail _ (.tail _ (.tail _ (.tail _ (.tail _ (.tail _ (.head _))))))) rfl rfl ?_ | refine J.loadO Ty.a26 rfl (.tail _ (.tail _ (.tail _ (.tail _ (.tail _ (.tail _ (.tail _ (.head _)))))))) rfl rfl ?_ | refine J.loadO Ty.a26 rfl (.tail _ (.tail _ (.tail _ (.tail _ (.tail _ (.tail _ (.tail _ (.tail _ (.head _))))))))) rfl rfl ?_ | refine J.loadO Ty.a26 rfl (.tail _ (.tail _ (.tail _ (.tail _ (.tail _ (.tail _ (.tail _ (.tail _ (.tail _ (.head _)))))))))) rfl rfl ?_ | refine J.loadO Ty.a26 rfl (.tail _ (.tail _ (.tail _ (.tail _ (.tail _ (.tail _ (.tail _ (.tail _ (.tail _ (.tail _ (.head _))))))))))) rfl rfl ?_ | refine J.loadO Ty.a26 rfl (.tail _ (.tail _ (.tail _ (.tail _ (.tail _ (.tail _ (.tail _ (.tail _ (.tail _ (.tail _ (.tail _ (.head _)))))))))))) rfl rfl ?_ | refine J.loadO Ty.a26 rfl (List.mem_append_right _ (.head _)) rfl rfl ?_ | refine J.loadO Ty.a26 rfl (List.mem_append_right _ (.tail _ (.head _))) rfl rfl ?_ | refine J.loadO Ty.a26 rfl (List.mem_append_right _ (.tail _ (.tail _ (.head _)))) rfl rfl ?_ | refine J.loadO Ty.a26 rfl (List.mem_append_right _ (.tail _ (.tail _ (.tail _ (.head _))))) rfl rfl ?_ | refine J.loadO Ty.a26 rfl (List.mem_append_right _ (.tail _ (.tail _ (.tail _ (.tail _ (.head _)))))) rfl rfl ?_ | refine J.loadO Ty.a26 rfl (List.mem_append_right _ (.tail _ (.tail _ (.tail _ (.tail _ (.tail _ (.head _))))))) rfl rfl ?_ | refine J.loadO Ty.a26 rfl (List.mem_append_right _ (.tail _ (.tail _ (.tail _ (.tail _ (.tail _ (.tail _ (.head _)))))))) rfl rfl ?_ | refine J.loadO Ty.a26 rfl (List.mem_append_right _ (.tail _ (.tail _ (.tail _ (.tail _ (.tail _ (.tail _ (.tail _ (.head _))))))))) rfl rfl ?_ | refine J.loadO Ty.a26 rfl (List.mem_append_right _ (.tail _ (.tail _ (.tail _ (.tail _ (.tail _ (.tail _ (.tail _ (.tail _ (.head _)))))))))) rfl rfl ?_ | refine J.loadO Ty.a26 rfl (List.mem_append_right _ (.tail _ (.tail _ (.tail _ (.tail _ (.tail _ (.tail _ (.tail _ (.tail _ (.tail _ (.head _))))))))))) rfl rfl ?_ | refine J.loadO Ty.a26 rfl (List.mem_append_right _ (.tail _ (.tail _ (.tail _ (.tail _ (.tail _ (.tail _ (.tail _ (.tail _ (.tail _ (.tail _ (.head _)))))))))))) rfl rfl ?_ | refine J.loadO Ty.a26 rfl (List.mem_append_right _ (.tail _ (.tail _ (.tail _ (.tail _ (.tail _ (.tail _ (.tail _ (.tail _ (.tail _ (.tail _ (.tail _ (.head _))))))))))))) rfl rfl ?_)
                refine J.lenS rfl Ty.u26 rfl rfl ?_
                refine J.bin rfl rfl rfl rfl ?_
                refine J.nil ?_
                refine JX.thenN (hK42 _ _ ?_)
                first | refine JC.condT rfl ?_ | refine JC.cond rfl (fun _ => ?_) (fun h => by first | (exfalso; simp at h; omega) | (simp at h))
                refine JC.region ?_
                (first | refine J.loadO Ty.a26 rfl (.head _) rfl rfl ?_ | refine J.loadO Ty.a26 rfl (.tail _ (.head _)) rfl rfl ?_ | refine J.loadO Ty.a26 rfl (.tail _ (.tail _ (.head _))) rfl rfl ?_ | refine J.loadO Ty.a26 rfl (.tail _ (.tail _ (.tail _ (.head _)))) rfl rfl ?_ | refine J.loadO Ty.a26 rfl (.tail _ (.tail _ (.tail _ (.tail _ (.head _))))) rfl rfl ?_ | refine J.loadO Ty.a26 rfl (.tail _ (.tail _ (.tail _ (.tail _ (.tail _ (.head _)))))) rfl rfl ?_ | refine J.loadO Ty.a26 rfl (.tail _ (.tail _ (.tail _ (.tail _ (.tail _ (.tail _ (.head _))))))) rfl rfl ?_ | refine J.loadO Ty.a26 rfl (.tail _ (.tail _ (.tail _ (.tail _ (.tail _ (.tail _ (.tail _ (.head _)))))))) rfl rfl ?_ | refine J.loadO Ty.a26 rfl (.tail _ (.tail _ (.tail _ (.tail _ (.tail _ (.tail _ (.tail _ (.tail _ (.head _))))))))) rfl rfl ?_ | refine J.loadO Ty.a26 rfl (.tail _ (.tail _ (.tail _ (.tail _ (.tail _ (.tail _ (.tail _ (.tail _ (.tail _ (.head _)))))))))) rfl rfl ?_ | refine J.loadO Ty.a26 rfl (.tail _ (.tail _ (.tail _ (.tail _ (.tail _ (.tail _ (.tail _ (.tail _ (.tail _ (.tail _ (.head _))))))))))) rfl rfl ?_ | refine J.loadO Ty.a26 rfl (.tail _ (.tail _ (.tail _ (.tail _ (.tail _ (.tail _ (.tail _ (.tail _ (.tail _ (.tail _ (.tail _ (.head _)))))))))))) rfl rfl ?_ | refine J.loadO Ty.a26 rfl (List.mem_append_right _ (.head _)) rfl rfl ?_ | refine J.loadO Ty.a26 rfl (List.mem_append_right _ (.tail _ (.head _))) rfl rfl ?_ | refine J.loadO Ty.a26 rfl (List.mem_append_right _ (.tail _ (.tail _ (.head _)))) rfl rfl ?_ | refine J.loadO Ty.a26 rfl (List.mem_append_right _ (.tail _ (.tail _ (.tail _ (.head _))))) rfl rfl ?_ | refine J.loadO Ty.a26 rfl (List.mem_append_right _ (.tail _ (.tail _ (.tail _ (.tail _ (.head _)))))) rfl rfl ?_ | refine J.loadO Ty.a26 rfl (List.mem_append_right _ (.tail _ (.tail _ (.tail _ (.tail _ (.tail _ (.head _))))))) rfl rfl ?_ | refine J.loadO Ty.a26 rfl (List.mem_append_right _ (.tail _ (.tail _ (.tail _ (.tail _ (.tail _ (.tail _ (.head _)))))))) rfl rfl ?_ | refine J.loadO Ty.a26 rfl (List.mem_append_right _ (.tail _ (.tail _ (.tail _ (.tail _ (.tail _ (.tail _ (.tail _ (.head _))))))))) rfl rfl ?_ | refine J.loadO Ty.a26 rfl (List.mem_append_right _ (.tail _ (.tail _ (.tail _ (.tail _ (.tail _ (.tail _ (.tail _ (.tail _ (.head _)))))))))) rfl rfl ?_ | refine J.loadO Ty.a26 rfl (List.mem_append_right _ (.tail _ (.tail _ (.tail _ (.tail _ (.tail _ (.tail _ (.tail _ (.tail _ (.tail _ (.head _))))))))))) rfl rfl ?_ | refine J.loadO Ty.a26 rfl (List.mem_append_right _ (.tail _ (.tail _ (.tail _ (.tail _ (.tail _ (.tail _ (.tail _ (.tail _ (.tail _ (.tail _ (.head _)))))))))))) rfl rfl ?_ | refine J.loadO Ty.a26 rfl (List.mem_append_right _ (.tail _ (.tail _ (.tail _ (.tail _ (.tail _ (.tail _ (.tail _ (.tail _ (.tail _ (.tail _ (.tail _ (.head _))))))))))))) rfl rfl ?_)
                refine J.move rfl rfl ?_
                (first | refine J.addN rfl rfl (by omega) (by omega) rfl ?_ | refine J.bin rfl rfl rfl rfl ?_)
                refine J.indexAddrS Ty.el26 Ty.s3 rfl rfl (by omega) (by omega) rfl ?_
                refine J.load1 (v := iV W[1]) Ty.a3 rfl (fun w1 hw => (cell_of (hw.own _ (.tail _ (.tail _ (.tail _ (.tail _ (.tail _ (.tail _ (.tail _ (.tail _ (.tail _ (.head _)))))))))))).trans (by rw [show 0 + ((i : Int) + 1).toNat * 1 = 1 by omega, List.getElem?_append_left (by simp; omega), List.getElem?_map, List.getElem?_eq_getElem (show 1 < W.length by omega)]; rfl)) rfl ?_
                refine J.fieldAddr Ty.fd34_4 rfl rfl ?_
                refine J.storeO (cs := cE (⟨p, idW n0, idW nl, -1, -1⟩ : EV)) (vs := [iV (W[1])]) Ty.s3 rfl rfl rfl rfl (by simp [Value.oneCell']) .here (by simp) ?_
                refine J.perm ((b16, cb (cE (⟨p, idW n0, idW nl, -1, W[1]⟩ : EV)) 34) :: (x14, cb (cD out mine false) 37) :: (t, tabO 3 mb) :: (mb, .map es ck) :: (x7, cb (cI (idW n0)) 23) :: (x8, cb (cI (idW nl)) 23) :: (b50, cb (OP6.map bV) 4) :: (b5, cb [.slice (some ⟨q, 0, none⟩) W.length c5] 26) :: (b3, cb (cP p) 25) :: (q, cb (W.map iV ++ sp) 3) :: hl) (.refl _) ?_
                refine J.nil ?_
                refine JX.thenN (hK41 _ _ ?_)
                refine JC.seq (fun K43 hK43 => ?_)
                refine JC.region ?_
                refine J.move rfl rfl ?_
                (first | refine J.loadOA (vs := cP p) Ty.a25 Ty.s25 rfl (.head _) rfl rfl rfl ?_ | refine J.loadOA (vs := cP p) Ty.a25 Ty.s25 rfl (.tail _ (.head _)) rfl rfl rfl ?_ | refine J.loadOA (vs := cP p) Ty.a25 Ty.s25 rfl (.tail _ (.tail _ (.head _))) rfl rfl rfl ?_ | refine J.loadOA (vs := cP p) Ty.a25 Ty.s25 rfl (.tail _ (.tail _ (.tail _ (.head _)))) rfl rfl rfl ?_ | refine J.loadOA (vs := cP p) Ty.a25 Ty.s25 rfl (.tail _ (.tail _ (.tail _ (.tail _ (.head _))))) rfl rfl rfl ?_ | refine J.loadOA (vs := cP p) Ty.a25 Ty.s25 rfl (.tail _ (.tail _ (.tail _ (.tail _ (.tail _ (.head _)))))) rfl rfl rfl ?_ | refine J.loadOA (vs := cP p) Ty.a25 Ty.s25 rfl (.tail _ (.tail _ (.tail _ (.tail _ (.tail _ (.tail _ (.head _))))))) rfl rfl rfl ?_ | refine J.loadOA (vs := cP p) Ty.a25 Ty.s25 rfl (.tail _ (.tail _ (.tail _ (.tail _ (.tail _ (.tail _ (.tail _ (.head _)))))))) rfl rfl rfl ?_ | refine J.loadOA (vs := cP p) Ty.a25 Ty.s25 rfl (.tail _ (.tail _ (.tail _ (.tail _ (.tail _ (.tail _ (.tail _ (.tail _ (.head _))))))))) rfl rfl rfl ?_ | refine J.loadOA (vs := cP p) Ty.a25 Ty.s25 rfl (.tail _ (.tail _ (.tail _ (.tail _ (.tail _ (.tail _ (.tail _ (.tail _ (.tail _ (.head _)))))))))) rfl rfl rfl ?_ | refine J.loadOA (vs := cP p) Ty.a25 Ty.s25 rfl (.tail _ (.tail _ (.tail _ (.tail _ (.tail _ (.tail _ (.tail _ (.tail _ (.tail _ (.tail _ (.head _))))))))))) rfl rfl rfl ?_ | refine J.loadOA (vs := cP p) Ty.a25 Ty.s25 rfl (.tail _ (.tail _ (.tail _ (.tail _ (.tail _ (.tail _ (.tail _ (.tail _ (.tail _ (.tail _ (.tail _ (.head _)))))))))))) rfl rfl rfl ?_ | refine J.loadOA (vs := cP p) Ty.a25 Ty.s25 rfl (List.mem_append_right _ (.head _)) rfl rfl rfl ?_ | refine J.loadOA (vs := cP p) Ty.a25 Ty.s25 rfl (List.mem_append_right _ (.tail _ (.head _))) rfl rfl rfl ?_ | refine J.loadOA (vs := cP p) Ty.a25 Ty.s25 rfl (List.mem_append_right _ (.tail _ (.tail _ (.head _)))) rfl rfl rfl ?_ | refine J.loadOA (vs := cP p) Ty.a25 Ty.s25 rfl (List.mem_append_right _ (.tail _ (.tail _ (.tail _ (.head _))))) rfl rfl rfl ?_ | refine J.loadOA (vs := cP p) Ty.a25 Ty.s25 rfl (List.mem_append_right _ (.tail _ (.tail _ (.tail _ (.tail _ (.head _)))))) rfl rfl rfl ?_ | refine J.loadOA (vs := cP p) Ty.a25 Ty.s25 rfl (List.mem_append_right _ (.tail _ (.tail _ (.tail _ (.tail _ (.tail _ (.head _))))))) rfl rfl rfl ?_ | refine J.loadOA (vs := cP p) Ty.a25 Ty.s25 rfl (List.mem_append_right _ (.tail _ (.tail _ (.tail _ (.tail _ (.tail _ (.tail _ (.head _)))))))) rfl rfl rfl ?_ | refine J.loadOA (vs := cP p) Ty.a25 Ty.s25 rfl (List.mem_append_right _ (.tail _ (.tail _ (.tail _ (.tail _ (.tail _ (.tail _ (.tail _ (.head _))))))))) rfl rfl rfl ?_ | refine J.loadOA (vs := cP p) Ty.a25 Ty.s25 rfl (List.mem_append_right _ (.tail _ (.tail _ (.tail _ (.tail _ (.tail _ (.tail _ (.tail _ (.tail _ (.head _)))))))))) rfl rfl rfl ?_ | refine J.loadOA (vs := cP p) Ty.a25 Ty.s25 rfl (List.mem_append_right _ (.tail _ (.tail _ (.tail _ (.tail _ (.tail _ (.tail _ (.tail _ (.tail _ (.tail _ (.head _))))))))))) rfl rfl rfl ?_ | refine J.loadOA (vs := cP p) Ty.a25 Ty.s25 rfl (List.mem_append_right _ (.tail _ (.tail _ (.tail _ (.tail _ (.tail _ (.tail _ (.tail _ (.tail _ (.tail _ (.tail _ (.head _)))))))))))) rfl rfl rfl ?_ | refine J.loadOA (vs := cP p) Ty.a25 Ty.s25 rfl (List.mem_append_right _ (.tail _ (.tail _ (.tail _ (.tail _ (.tail _ (.tail _ (.tail _ (.tail _ (.tail _ (.tail _ (.tail _ (.head _))))))))))))) rfl rfl rfl ?_)
                have hT2 := hT hi0
                rw [hnb0] at hT2
                have hg : tget [(⟨p, idW n0, idW nl, -1, W[1]⟩ : EV)] p = some (⟨p, idW n0, idW nl, -1, W[1]⟩ : EV) := by simp [tget]
                have hokX : okE (⟨p, idW n0, idW nl, -1, W[1]⟩ : EV) := hT2.ok _ (by simp)
                refine J.callB (v := .tuple #[.agg (cE (⟨p, idW n0, idW nl, -1, W[1]⟩ : EV)).toArray, .bool true]) (fun w1 w2 hw hb => hw.step hb) Ty.bd23 rfl rfl (fun w1 hw => by
                  have h := get_spec t mb 3 [(⟨p, idW n0, idW nl, -1, W[1]⟩ : EV)] es ck w1 (St.owns (l1 := [(t, tabO 3 mb), (mb, .map es ck)]) (l := (b16, cb (cE (⟨p, idW n0, idW nl, -1, W[1]⟩ : EV)) 34) :: (x14, cb (cD out mine false) 37) :: (x7, cb (cI (idW n0)) 23) :: (x8, cb (cI (idW nl)) 23) :: (b50, cb (OP6.map bV) 4) :: (b5, cb [.slice (some ⟨q, 0, none⟩) W.length c5] 26) :: (b3, cb (cP p) 25) :: (q, cb (W.map iV ++ sp) 3) :: hl) (hw.perm (by (refine perm_cnt (fun _ => ?_)); simp only [cntB_append, cntB_cons, cntB_nil, Nat.add_zero, Nat.zero_add]; try ac_rfl))) hT2 p hkp
                  rw [hg] at h
                  exact h) ?_
                refine J.move rfl rfl ?_
                refine J.extract rfl rfl rfl ?_
                refine J.extract rfl rfl rfl ?_
                refine J.alloc Ty.zE_ rfl rfl (fun b17 => ?_)
                refine J.storeW (cs := cE zE) (vs := cE (⟨p, idW n0, idW nl, -1, W[1]⟩ : EV)) Ty.s34 rfl rfl rfl rfl rfl (by simp [Value.oneCell']) .here ?_
                refine J.assign rfl rfl ?_
                refine J.nil ?_
                refine JX.thenN (hK43 _ _ ?_)
                refine JC.seq (fun K44 hK44 => ?_)
                refine JC.region ?_
                refine J.move rfl rfl ?_
                refine J.not rfl rfl ?_
                refine J.move rfl rfl ?_
                first
                  | (refine J.skip rfl rfl rfl rfl rfl ?_)
                  | (refine J.skipU rfl rfl rfl rfl ?_)
                  | (refine J.unguard rfl rfl rfl ?_; (first | refine J.loadOA (vs := cE (⟨p, idW n0, idW nl, -1, W[1]⟩ : EV)) Ty.a34 Ty.s34 rfl (.head _) rfl rfl rfl ?_ | refine J.loadOA (vs := cE (⟨p, idW n0, idW nl, -1, W[1]⟩ : EV)) Ty.a34 Ty.s34 rfl (.tail _ (.head _)) rfl rfl rfl ?_ | refine J.loadOA (vs := cE (⟨p, idW n0, idW nl, -1, W[1]⟩ : EV)) Ty.a34 Ty.s34 rfl (.tail _ (.tail _ (.head _))) rfl rfl rfl ?_ | refine J.loadOA (vs := cE (⟨p, idW n0, idW nl, -1, W[1]⟩ : EV)) Ty.a34 Ty.s34 rfl (.tail _ (.tail _ (.tail _ (.head _)))) rfl rfl rfl ?_ | refine J.loadOA (vs := cE (⟨p, idW n0, idW nl, -1, W[1]⟩ : EV)) Ty.a34 Ty.s34 rfl (.tail _ (.tail _ (.tail _ (.tail _ (.head _))))) rfl rfl rfl ?_ | refine J.loadOA (vs := cE (⟨p, idW n0, idW nl, -1, W[1]⟩ : EV)) Ty.a34 Ty.s34 rfl (.tail _ (.tail _ (.tail _ (.tail _ (.tail _ (.head _)))))) rfl rfl rfl ?_ | refine J.loadOA (vs := cE (⟨p, idW n0, idW nl, -1, W[1]⟩ : EV)) Ty.a34 Ty.s34 rfl (.tail _ (.tail _ (.tail _ (.tail _ (.tail _ (.tail _ (.head _))))))) rfl rfl rfl ?_ | refine J.loadOA (vs := cE (⟨p, idW n0, idW nl, -1, W[1]⟩ : EV)) Ty.a34 Ty.s34 rfl (.tail _ (.tail _ (.tail _ (.tail _ (.tail _ (.tail _ (.tail _ (.head _)))))))) rfl rfl rfl ?_ | refine J.loadOA (vs := cE (⟨p, idW n0, idW nl, -1, W[1]⟩ : EV)) Ty.a34 Ty.s34 rfl (.tail _ (.tail _ (.tail _ (.tail _ (.tail _ (.tail _ (.tail _ (.tail _ (.head _))))))))) rfl rfl rfl ?_ | refine J.loadOA (vs := cE (⟨p, idW n0, idW nl, -1, W[1]⟩ : EV)) Ty.a34 Ty.s34 rfl (.tail _ (.tail _ (.tail _ (.tail _ (.tail _ (.tail _ (.tail _ (.tail _ (.tail _ (.head _)))))))))) rfl rfl rfl ?_ | refine J.loadOA (vs := cE (⟨p, idW n0, idW nl, -1, W[1]⟩ : EV)) Ty.a34 Ty.s34 rfl (.tail _ (.tail _ (.tail _ (.tail _ (.tail _ (.tail _ (.tail _ (.tail _ (.tail _ (.tail _ (.head _))))))))))) rfl rfl rfl ?_ | refine J.loadOA (vs := cE (⟨p, idW n0, idW nl, -1, W[1]⟩ : EV)) Ty.a34 Ty.s34 rfl (.tail _ (.tail _ (.tail _ (.tail _ (.tail _ (.tail _ (.tail _ (.tail _ (.tail _ (.tail _ (.tail _ (.head _)))))))))))) rfl rfl rfl ?_ | refine J.loadOA (vs := cE (⟨p, idW n0, idW nl, -1, W[1]⟩ : EV)) Ty.a34 Ty.s34 rfl (List.mem_append_right _ (.head _)) rfl rfl rfl ?_ | refine J.loadOA (vs := cE (⟨p, idW n0, idW nl, -1, W[1]⟩ : EV)) Ty.a34 Ty.s34 rfl (List.mem_append_right _ (.tail _ (.head _))) rfl rfl rfl ?_ | refine J.loadOA (vs := cE (⟨p, idW n0, idW nl, -1, W[1]⟩ : EV)) Ty.a34 Ty.s34 rfl (List.mem_append_right _ (.tail _ (.tail _ (.head _)))) rfl rfl rfl ?_ | refine J.loadOA (vs := cE (⟨p, idW n0, idW nl, -1, W[1]⟩ : EV)) Ty.a34 Ty.s34 rfl (List.mem_append_right _ (.tail _ (.tail _ (.tail _ (.head _))))) rfl rfl rfl ?_ | refine J.loadOA (vs := cE (⟨p, idW n0, idW nl, -1, W[1]⟩ : EV)) Ty.a34 Ty.s34 rfl (List.mem_append_right _ (.tail _ (.tail _ (.tail _ (.tail _ (.head _)))))) rfl rfl rfl ?_ | refine J.loadOA (vs := cE (⟨p, idW n0, idW nl, -1, W[1]⟩ : EV)) Ty.a34 Ty.s34 rfl (List.mem_append_right _ (.tail _ (.tail _ (.tail _ (.tail _ (.tail _ (.head _))))))) rfl rfl rfl ?_ | refine J.loadOA (vs := cE (⟨p, idW n0, idW nl, -1, W[1]⟩ : EV)) Ty.a34 Ty.s34 rfl (List.mem_append_right _ (.tail _ (.tail _ (.tail _ (.tail _ (.tail _ (.tail _ (.head _)))))))) rfl rfl rfl ?_ | refine J.loadOA (vs := cE (⟨p, idW n0, idW nl, -1, W[1]⟩ : EV)) Ty.a34 Ty.s34 rfl (List.mem_append_right _ (.tail _ (.tail _ (.tail _ (.tail _ (.tail _ (.tail _ (.tail _ (.head _))))))))) rfl rfl rfl ?_ | refine J.loadOA (vs := cE (⟨p, idW n0, idW nl, -1, W[1]⟩ : EV)) Ty.a34 Ty.s34 rfl (List.mem_append_right _ (.tail _ (.tail _ (.tail _ (.tail _ (.tail _ (.tail _ (.tail _ (.tail _ (.head _)))))))))) rfl rfl rfl ?_ | refine J.loadOA (vs := cE (⟨p, idW n0, idW nl, -1, W[1]⟩ : EV)) Ty.a34 Ty.s34 rfl (List.mem_append_right _ (.tail _ (.tail _ (.tail _ (.tail _ (.tail _ (.tail _ (.tail _ (.tail _ (.tail _ (.head _))))))))))) rfl rfl rfl ?_ | refine J.loadOA (vs := cE (⟨p, idW n0, idW nl, -1, W[1]⟩ : EV)) Ty.a34 Ty.s34 rfl (List.mem_append_right _ (.tail _ (.tail _ (.tail _ (.tail _ (.tail _ (.tail _ (.tail _ (.tail _ (.tail _ (.tail _ (.head _)))))))))))) rfl rfl rfl ?_ | refine J.loadOA (vs := cE (⟨p, idW n0, idW nl, -1, W[1]⟩ : EV)) Ty.a34 Ty.s34 rfl (List.mem_append_right _ (.tail _ (.tail _ (.tail _ (.tail _ (.tail _ (.tail _ (.tail _ (.tail _ (.tail _ (.tail _ (.tail _ (.head _))))))))))))) rfl rfl rfl ?_))
                first
                  | (refine J.skip rfl rfl rfl rfl rfl ?_)
                  | (refine J.skipU rfl rfl rfl rfl ?_)
                  | (refine J.unguard rfl rfl rfl ?_; (first | refine J.loadOA (vs := cE (⟨p, idW n0, idW nl, -1, W[1]⟩ : EV)) Ty.a34 Ty.s34 rfl (.head _) rfl rfl rfl ?_ | refine J.loadOA (vs := cE (⟨p, idW n0, idW nl, -1, W[1]⟩ : EV)) Ty.a34 Ty.s34 rfl (.tail _ (.head _)) rfl rfl rfl ?_ | refine J.loadOA (vs := cE (⟨p, idW n0, idW nl, -1, W[1]⟩ : EV)) Ty.a34 Ty.s34 rfl (.tail _ (.tail _ (.head _))) rfl rfl rfl ?_ | refine J.loadOA (vs := cE (⟨p, idW n0, idW nl, -1, W[1]⟩ : EV)) Ty.a34 Ty.s34 rfl (.tail _ (.tail _ (.tail _ (.head _)))) rfl rfl rfl ?_ | refine J.loadOA (vs := cE (⟨p, idW n0, idW nl, -1, W[1]⟩ : EV)) Ty.a34 Ty.s34 rfl (.tail _ (.tail _ (.tail _ (.tail _ (.head _))))) rfl rfl rfl ?_ | refine J.loadOA (vs := cE (⟨p, idW n0, idW nl, -1, W[1]⟩ : EV)) Ty.a34 Ty.s34 rfl (.tail _ (.tail _ (.tail _ (.tail _ (.tail _ (.head _)))))) rfl rfl rfl ?_ | refine J.loadOA (vs := cE (⟨p, idW n0, idW nl, -1, W[1]⟩ : EV)) Ty.a34 Ty.s34 rfl (.tail _ (.tail _ (.tail _ (.tail _ (.tail _ (.tail _ (.head _))))))) rfl rfl rfl ?_ | refine J.loadOA (vs := cE (⟨p, idW n0, idW nl, -1, W[1]⟩ : EV)) Ty.a34 Ty.s34 rfl (.tail _ (.tail _ (.tail _ (.tail _ (.tail _ (.tail _ (.tail _ (.head _)))))))) rfl rfl rfl ?_ | refine J.loadOA (vs := cE (⟨p, idW n0, idW nl, -1, W[1]⟩ : EV)) Ty.a34 Ty.s34 rfl (.tail _ (.tail _ (.tail _ (.tail _ (.tail _ (.tail _ (.tail _ (.tail _ (.head _))))))))) rfl rfl rfl ?_ | refine J.loadOA (vs := cE (⟨p, idW n0, idW nl, -1, W[1]⟩ : EV)) Ty.a34 Ty.s34 rfl (.tail _ (.tail _ (.tail _ (.tail _ (.tail _ (.tail _ (.tail _ (.tail _ (.tail _ (.head _)))))))))) rfl rfl rfl ?_ | refine J.loadOA (vs := cE (⟨p, idW n0, idW nl, -1, W[1]⟩ : EV)) Ty.a34 Ty.s34 rfl (.tail _ (.tail _ (.tail _ (.tail _ (.tail _ (.tail _ (.tail _ (.tail _ (.tail _ (.tail _ (.head _))))))))))) rfl rfl rfl ?_ | refine J.loadOA (vs := cE (⟨p, idW n0, idW nl, -1, W[1]⟩ : EV)) Ty.a34 Ty.s34 rfl (.tail _ (.tail _ (.tail _ (.tail _ (.tail _ (.tail _ (.tail _ (.tail _ (.tail _ (.tail _ (.tail _ (.head _)))))))))))) rfl rfl rfl ?_ | refine J.loadOA (vs := cE (⟨p, idW n0, idW nl, -1, W[1]⟩ : EV)) Ty.a34 Ty.s34 rfl (List.mem_append_right _ (.head _)) rfl rfl rfl ?_ | refine J.loadOA (vs := cE (⟨p, idW n0, idW nl, -1, W[1]⟩ : EV)) Ty.a34 Ty.s34 rfl (List.mem_append_right _ (.tail _ (.head _))) rfl rfl rfl ?_ | refine J.loadOA (vs := cE (⟨p, idW n0, idW nl, -1, W[1]⟩ : EV)) Ty.a34 Ty.s34 rfl (List.mem_append_right _ (.tail _ (.tail _ (.head _)))) rfl rfl rfl ?_ | refine J.loadOA (vs := cE (⟨p, idW n0, idW nl, -1, W[1]⟩ : EV)) Ty.a34 Ty.s34 rfl (List.mem_append_right _ (.tail _ (.tail _ (.tail _ (.head _))))) rfl rfl rfl ?_ | refine J.loadOA (vs := cE (⟨p, idW n0, idW nl, -1, W[1]⟩ : EV)) Ty.a34 Ty.s34 rfl (List.mem_append_right _ (.tail _ (.tail _ (.tail _ (.tail _ (.head _)))))) rfl rfl rfl ?_ | refine J.loadOA (vs := cE (⟨p, idW n0, idW nl, -1, W[1]⟩ : EV)) Ty.a34 Ty.s34 rfl (List.mem_append_right _ (.tail _ (.tail _ (.tail _ (.tail _ (.tail _ (.head _))))))) rfl rfl rfl ?_ | refine J.loadOA (vs := cE (⟨p, idW n0, idW nl, -1, W[1]⟩ : EV)) Ty.a34 Ty.s34 rfl (List.mem_append_right _ (.tail _ (.tail _ (.tail _ (.tail _ (.tail _ (.tail _ (.head _)))))))) rfl rfl rfl ?_ | refine J.loadOA (vs := cE (⟨p, idW n0, idW nl, -1, W[1]⟩ : EV)) Ty.a34 Ty.s34 rfl (List.mem_append_right _ (.tail _ (.tail _ (.tail _ (.tail _ (.tail _ (.tail _ (.tail _ (.head _))))))))) rfl rfl rfl ?_ | refine J.loadOA (vs := cE (⟨p, idW n0, idW nl, -1, W[1]⟩ : EV)) Ty.a34 Ty.s34 rfl (List.mem_append_right _ (.tail _ (.tail _ (.tail _ (.tail _ (.tail _ (.tail _ (.tail _ (.tail _ (.head _)))))))))) rfl rfl rfl ?_ | refine J.loadOA (vs := cE (⟨p, idW n0, idW nl, -1, W[1]⟩ : EV)) Ty.a34 Ty.s34 rfl (List.mem_append_right _ (.tail _ (.tail _ (.tail _ (.tail _ (.tail _ (.tail _ (.tail _ (.tail _ (.tail _ (.head _))))))))))) rfl rfl rfl ?_ | refine J.loadOA (vs := cE (⟨p, idW n0, idW nl, -1, W[1]⟩ : EV)) Ty.a34 Ty.s34 rfl (List.mem_append_right _ (.tail _ (.tail _ (.tail _ (.tail _ (.tail _ (.tail _ (.tail _ (.tail _ (.tail _ (.tail _ (.head _)))))))))))) rfl rfl rfl ?_ | refine J.loadOA (vs := cE (⟨p, idW n0, idW nl, -1, W[1]⟩ : EV)) Ty.a34 Ty.s34 rfl (List.mem_append_right _ (.tail _ (.tail _ (.tail _ (.tail _ (.tail _ (.tail _ (.tail _ (.tail _ (.tail _ (.tail _ (.tail _ (.head _))))))))))))) rfl rfl rfl ?_))
                refine J.unguard rfl rfl rfl ?_
                refine J.neE Ty.QE Ty.keyE rfl rfl hokX hokX rfl ?_
                refine J.name 161 rfl (show Value.bool _ = .bool false by simp) ?_
                (first | refine J.pickT rfl rfl rfl ?_ | refine J.pickF rfl rfl rfl ?_)
                refine J.nil ?_
                refine JX.thenN (hK44 _ _ ?_)
                first | refine JC.condF rfl ?_ | refine JC.cond rfl (fun h => by first | (exfalso; simp at h; omega) | (simp at h)) (fun _ => ?_)
                refine JC.skip ?_
                refine JX.blockN ?_
                refine JX.thenN (hK23 _ _ ?_)
                refine JC.region ?_
                refine J.move rfl rfl ?_
                (first | refine J.addN rfl rfl (by omega) (by omega) rfl ?_ | refine J.bin rfl rfl rfl rfl ?_)
                refine J.assign rfl rfl ?_
                refine J.nil ?_
                refine JX.thenN ?_
                refine JX.again (⟨i + 1, t, mb, es, ck, out, mine, hl⟩ : LG) ?_ ?_ ?_
                · simp only; omega
                · exact ⟨rfl, rfl, rfl, rfl, rfl, rfl, rfl, rfl, rfl, trivial⟩
                · exact fun w1 hw => ⟨⟨hlt, by subst hi0; exact hH, fun h => absurd h (by simp)⟩, (hw.perm (l' := [(b17, cb (cE (⟨p, idW n0, idW nl, -1, W[1]⟩ : EV)) 34), (b16, cb (cE (⟨p, idW n0, idW nl, -1, W[1]⟩ : EV)) 34)] ++ ((x14, cb (cD out mine false) 37) :: (t, tabO 3 mb) :: (mb, .map es ck) :: (x7, cb (cI (idW n0)) 23) :: (x8, cb (cI (idW nl)) 23) :: (b50, cb (OP6.map bV) 4) :: (b5, cb [.slice (some ⟨q, 0, none⟩) W.length c5] 26) :: (b3, cb (cP p) 25) :: (q, cb (W.map iV ++ sp) 3) :: hl)) (by (refine perm_cnt (fun _ => ?_)); simp only [cntB_append, cntB_cons, cntB_nil, Nat.add_zero, Nat.zero_add]; try ac_rfl)).drop (List.sublist_append_right _ _)⟩
            · skip
              have hge : i = W.length := by simp at h4; omega
              rw [show max i 1 = W.length by omega] at hH
              obtain ⟨rfl, rfl⟩ := hH.off (List.getElem?_eq_none (Nat.le_refl _))
              refine JC.exit ?_
              refine JX.thenE ?_
              refine JX.thenE ?_
              refine JX.blockE ?_
              refine JX.thenN (hK19 _ _ ?_)
              refine JC.seq (fun K45 hK45 => ?_)
              refine JC.region ?_
              refine J.fieldAddr Ty.fd37_1 rfl rfl ?_
              (first | refine J.loadO Ty.a4 rfl (.head _) rfl rfl ?_ | refine J.loadO Ty.a4 rfl (.tail _ (.head _)) rfl rfl ?_ | refine J.loadO Ty.a4 rfl (.tail _ (.tail _ (.head _))) rfl rfl ?_ | refine J.loadO Ty.a4 rfl (.tail _ (.tail _ (.tail _ (.head _)))) rfl rfl ?_ | refine J.loadO Ty.a4 rfl (.tail _ (.tail _ (.tail _ (.tail _ (.head _))))) rfl rfl ?_ | refine J.loadO Ty.a4 rfl (.tail _ (.tail _ (.tail _ (.tail _ (.tail _ (.head _)))))) rfl rfl ?_ | refine J.loadO Ty.a4 rfl (.tail _ (.tail _ (.tail _ (.tail _ (.tail _ (.tail _ (.head _))))))) rfl rfl ?_ | refine J.loadO Ty.a4 rfl (.tail _ (.tail _ (.tail _ (.tail _ (.tail _ (.tail _ (.tail _ (.head _)))))))) rfl rfl ?_ | refine J.loadO Ty.a4 rfl (.tail _ (.tail _ (.tail _ (.tail _ (.tail _ (.tail _ (.tail _ (.tail _ (.head _))))))))) rfl rfl ?_ | refine J.loadO Ty.a4 rfl (.tail _ (.tail _ (.tail _ (.tail _ (.tail _ (.tail _ (.tail _ (.tail _ (.tail _ (.head _)))))))))) rfl rfl ?_ | refine J.loadO Ty.a4 rfl (.tail _ (.tail _ (.tail _ (.tail _ (.tail _ (.tail _ (.tail _ (.tail _ (.tail _ (.tail _ (.head _))))))))))) rfl rfl ?_ | refine J.loadO Ty.a4 rfl (.tail _ (.tail _ (.tail _ (.tail _ (.tail _ (.tail _ (.tail _ (.tail _ (.tail _ (.tail _ (.tail _ (.head _)))))))))))) rfl rfl ?_ | refine J.loadO Ty.a4 rfl (List.mem_append_right _ (.head _)) rfl rfl ?_ | refine J.loadO Ty.a4 rfl (List.mem_append_right _ (.tail _ (.head _))) rfl rfl ?_ | refine J.loadO Ty.a4 rfl (List.mem_append_right _ (.tail _ (.tail _ (.head _)))) rfl rfl ?_ | refine J.loadO Ty.a4 rfl (List.mem_append_right _ (.tail _ (.tail _ (.tail _ (.head _))))) rfl rfl ?_ | refine J.loadO Ty.a4 rfl (List.mem_append_right _ (.tail _ (.tail _ (.tail _ (.tail _ (.head _)))))) rfl rfl ?_ | refine J.loadO Ty.a4 rfl (List.mem_append_right _ (.tail _ (.tail _ (.tail _ (.tail _ (.tail _ (.head _))))))) rfl rfl ?_ | refine J.loadO Ty.a4 rfl (List.mem_append_right _ (.tail _ (.tail _ (.tail _ (.tail _ (.tail _ (.tail _ (.head _)))))))) rfl rfl ?_ | refine J.loadO Ty.a4 rfl (List.mem_append_right _ (.tail _ (.tail _ (.tail _ (.tail _ (.tail _ (.tail _ (.tail _ (.head _))))))))) rfl rfl ?_ | refine J.loadO Ty.a4 rfl (List.mem_append_right _ (.tail _ (.tail _ (.tail _ (.tail _ (.tail _ (.tail _ (.tail _ (.tail _ (.head _)))))))))) rfl rfl ?_ | refine J.loadO Ty.a4 rfl (List.mem_append_right _ (.tail _ (.tail _ (.tail _ (.tail _ (.tail _ (.tail _ (.tail _ (.tail _ (.tail _ (.head _))))))))))) rfl rfl ?_ | refine J.loadO Ty.a4 rfl (List.mem_append_right _ (.tail _ (.tail _ (.tail _ (.tail _ (.tail _ (.tail _ (.tail _ (.tail _ (.tail _ (.tail _ (.head _)))))))))))) rfl rfl ?_ | refine J.loadO Ty.a4 rfl (List.mem_append_right _ (.tail _ (.tail _ (.tail _ (.tail _ (.tail _ (.tail _ (.tail _ (.tail _ (.tail _ (.tail _ (.tail _ (.head _))))))))))))) rfl rfl ?_)
              refine J.move rfl rfl ?_
              first
                | (refine J.skip rfl rfl rfl rfl rfl ?_)
                | (refine J.skipU rfl rfl rfl rfl ?_)
                | (refine J.unguard rfl rfl rfl ?_; refine J.fieldAddr Ty.fd37_0 rfl rfl ?_)
              first
                | (refine J.skip rfl rfl rfl rfl rfl ?_)
                | (refine J.skipU rfl rfl rfl rfl ?_)
                | (refine J.unguard rfl rfl rfl ?_; (first | refine J.loadO Ty.a35 rfl (.head _) rfl rfl ?_ | refine J.loadO Ty.a35 rfl (.tail _ (.head _)) rfl rfl ?_ | refine J.loadO Ty.a35 rfl (.tail _ (.tail _ (.head _))) rfl rfl ?_ | refine J.loadO Ty.a35 rfl (.tail _ (.tail _ (.tail _ (.head _)))) rfl rfl ?_ | refine J.loadO Ty.a35 rfl (.tail _ (.tail _ (.tail _ (.tail _ (.head _))))) rfl rfl ?_ | refine J.loadO Ty.a35 rfl (.tail _ (.tail _ (.tail _ (.tail _ (.tail _ (.head _)))))) rfl rfl ?_ | refine J.loadO Ty.a35 rfl (.tail _ (.tail _ (.tail _ (.tail _ (.tail _ (.tail _ (.head _))))))) rfl rfl ?_ | refine J.loadO Ty.a35 rfl (.tail _ (.tail _ (.tail _ (.tail _ (.tail _ (.tail _ (.tail _ (.head _)))))))) rfl rfl ?_ | refine J.loadO Ty.a35 rfl (.tail _ (.tail _ (.tail _ (.tail _ (.tail _ (.tail _ (.tail _ (.tail _ (.head _))))))))) rfl rfl ?_ | refine J.loadO Ty.a35 rfl (.tail _ (.tail _ (.tail _ (.tail _ (.tail _ (.tail _ (.tail _ (.tail _ (.tail _ (.head _)))))))))) rfl rfl ?_ | refine J.loadO Ty.a35 rfl (.tail _ (.tail _ (.tail _ (.tail _ (.tail _ (.tail _ (.tail _ (.tail _ (.tail _ (.tail _ (.head _))))))))))) rfl rfl ?_ | refine J.loadO Ty.a35 rfl (.tail _ (.tail _ (.tail _ (.tail _ (.tail _ (.tail _ (.tail _ (.tail _ (.tail _ (.tail _ (.tail _ (.head _)))))))))))) rfl rfl ?_ | refine J.loadO Ty.a35 rfl (List.mem_append_right _ (.head _)) rfl rfl ?_ | refine J.loadO Ty.a35 rfl (List.mem_append_right _ (.tail _ (.head _))) rfl rfl ?_ | refine J.loadO Ty.a35 rfl (List.mem_append_right _ (.tail _ (.tail _ (.head _)))) rfl rfl ?_ | refine J.loadO Ty.a35 rfl (List.mem_append_right _ (.tail _ (.tail _ (.tail _ (.head _))))) rfl rfl ?_ | refine J.loadO Ty.a35 rfl (List.mem_append_right _ (.tail _ (.tail _ (.tail _ (.tail _ (.head _)))))) rfl rfl ?_ | refine J.loadO Ty.a35 rfl (List.mem_append_right _ (.tail _ (.tail _ (.tail _ (.tail _ (.tail _ (.head _))))))) rfl rfl ?_ | refine J.loadO Ty.a35 rfl (List.mem_append_right _ (.tail _ (.tail _ (.tail _ (.tail _ (.tail _ (.tail _ (.head _)))))))) rfl rfl ?_ | refine J.loadO Ty.a35 rfl (List.mem_append_right _ (.tail _ (.tail _ (.tail _ (.tail _ (.tail _ (.tail _ (.tail _ (.head _))))))))) rfl rfl ?_ | refine J.loadO Ty.a35 rfl (List.mem_append_right _ (.tail _ (.tail _ (.tail _ (.tail _ (.tail _ (.tail _ (.tail _ (.tail _ (.head _)))))))))) rfl rfl ?_ | refine J.loadO Ty.a35 rfl (List.mem_append_right _ (.tail _ (.tail _ (.tail _ (.tail _ (.tail _ (.tail _ (.tail _ (.tail _ (.tail _ (.head _))))))))))) rfl rfl ?_ | refine J.loadO Ty.a35 rfl (List.mem_append_right _ (.tail _ (.tail _ (.tail _ (.tail _ (.tail _ (.tail _ (.tail _ (.tail _ (.tail _ (.tail _ (.head _)))))))))))) rfl rfl ?_ | refine J.loadO Ty.a35 rfl (List.mem_append_right _ (.tail _ (.tail _ (.tail _ (.tail _ (.tail _ (.tail _ (.tail _ (.tail _ (.tail _ (.tail _ (.tail _ (.head _))))))))))))) rfl rfl ?_))
              first
                | (refine J.skip rfl rfl rfl rfl rfl ?_)
                | (refine J.skipU rfl rfl rfl rfl ?_)
                | (refine J.unguard rfl rfl rfl ?_; refine J.lenS rfl Ty.u35 rfl rfl ?_)
              first
                | (refine J.skip rfl rfl rfl rfl rfl ?_)
                | (refine J.skipU rfl rfl rfl rfl ?_)
                | (refine J.unguard rfl rfl rfl ?_; refine J.bin rfl rfl rfl rfl ?_)
              (first | refine J.pickT rfl rfl rfl ?_ | refine J.pickF rfl rfl rfl ?_)
              refine J.assign rfl rfl ?_
              refine J.nil ?_
              refine JX.thenN (hK45 _ _ ?_)
              refine JC.ret ?_
              refine JX.ret1 rfl rfl (fun w hw => ?_)
              exact ⟨rfl, hw.below⟩

theorem setupWhole_walk (w : World) (o : Sl Int) (ho : RSl 1 8 (RInt .i64) w [o.v] o) (pc : List Value) (p : PV) (hpc : RPath w pc p) :
    Calls Try.prog 4 [o.v, .agg pc.toArray].toArray w fun r w' => r = .returned (.bool true) ∧ Below w.heap.size w w' := by
  obtain ⟨rfl, hp⟩ := hpc
  exact whole_all w o.a o.c o.xs p hp (RSl.rowI ho) (RSl.len8 ho)
end Go.Proofs.Ytpldpkdlloolkaa
