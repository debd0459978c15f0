/-
  Who wants whom is mutual; ring.Mutual and RingMutual: the walks.
-/
import Derived.Test.YtdpbgmbicdgdbaaLj
namespace Go.Proofs.Ytdpbgmbicdgdbaa
open Go.J Go.RowKit
set_option linter.unusedVariables false
set_option linter.unusedSimpArgs false
set_option maxRecDepth 4000
theorem count_asc {l m : List IDV} {p q : IDV → Bool} (hl : Asc l) (hm : Asc m) (h : ∀ x, (x ∈ l ∧ p x = true) ↔ (x ∈ m ∧ q x = true)) : l.countP p = m.countP q := by
  rw [List.countP_eq_length_filter, List.countP_eq_length_filter]
  congr 1
  refine asc_ext (hl.sublist List.filter_sublist) (hm.sublist List.filter_sublist) fun x => ?_
  rw [List.mem_filter, List.mem_filter]
  exact h x
theorem valI_ne {a b : IDV} (h : a ≠ b) : valI a ≠ valI b := fun e => h (valI_inj e)
theorem between_iff {a b y : IDV} (hab : a ≠ b) : (y ≠ a ∧ dI a y < dI a b) ↔ (y ≠ b ∧ eI b y < eI b a) := by
  rw [dI_eq, dI_eq, eI_eq, eI_eq]
  have h1 := valI_lt a
  have h2 := valI_lt b
  have h3 := valI_lt y
  have h4 := valI_ne hab
  constructor
  · rintro ⟨h5, h6⟩
    have h7 := valI_ne h5
    exact ⟨fun e => by subst e; omega, by omega⟩
  · rintro ⟨h5, h6⟩
    have h7 := valI_ne h5
    exact ⟨fun e => by subst e; omega, by omega⟩
theorem rI_lI {a b : IDV} (ys : List IDV) (hab : a ≠ b) : rI a (sortI ys a) b = lI b (sortI ys b) a := by
  refine count_asc (sortI_asc _ _) (sortI_asc _ _) fun x => ?_
  rw [sortI_mem, sortI_mem, decide_eq_true_eq, decide_eq_true_eq, and_assoc, and_assoc, between_iff hab]
theorem want_mutual {a b : IDV} {ys : List IDV} {half : Int} (hab : a ≠ b) (ha : a ∈ ys) (hb : b ∈ ys) : b ∈ wantI a ys half ↔ a ∈ wantI b ys half := by
  rw [mem_wantI, mem_wantI, sortI_mem, sortI_mem, rI_lI ys hab, ← rI_lI ys hab.symm]
  constructor
  · rintro ⟨_, h⟩
    exact ⟨⟨ha, hab⟩, h.symm⟩
  · rintro ⟨_, h⟩
    exact ⟨⟨hb, hab.symm⟩, h.symm⟩

set_option maxHeartbeats 4000000 in
theorem mutual_spec (v : Value) (ys : List IDV) (half : Int) (w : World) (hr2 : Row w v ys.length (fI ys)) (hyl : ys.length ≤ 60) :
    Calls Try.prog 28 [v, .int .i64 half].toArray w fun r w' => r = .returned (.bool true) ∧ Bel w w' := by
  obtain ⟨a2, c2, rfl, hc2, _⟩ := id hr2
  refine calls_of_J (args := [.slice a2 ys.length c2, .int .i64 half]) (e := [(0, .slice a2 ys.length c2), (1, .int .i64 half)]) Try.func28 rfl rfl ⟨rfl, rfl, trivial⟩ (St.start w) ?_
  refine JC.seq (fun K0 hK0 => ?_)
  refine JC.region ?_
  refine J.assign rfl rfl ?_
  refine J.nil ?_
  refine JX.thenN (hK0 _ _ ?_)
  refine JC.seq (fun K1 hK1 => ?_)
  refine JC.seq (fun K2 hK2 => ?_)
  refine JC.region ?_
  refine J.move rfl rfl ?_
  refine J.lenS rfl Ty.u24 rfl rfl ?_
  refine J.move rfl rfl ?_
  refine J.nil ?_
  refine JX.thenN (hK2 _ _ ?_)
  refine JC.block ?_
  refine JC.conseq (JC.cov (f := (fun i => [(0, .slice a2 ys.length c2), (1, .int .i64 half), (9, .slice a2 ys.length c2), (10, .int .i64 ((ys.length : Nat) : Int)), (11, .int .i64 ((i : Nat) : Int))]) 0) ⟨rfl, rfl, rfl, rfl, rfl, trivial⟩ (JC.loop (α := Nat) (fun i => [(0, .slice a2 ys.length c2), (1, .int .i64 half), (9, .slice a2 ys.length c2), (10, .int .i64 ((ys.length : Nat) : Int)), (11, .int .i64 ((i : Nat) : Int))]) (fun i w' => (i ≤ ys.length) ∧ St w [] [] w') (fun i => ys.length - i) 0 (fun i => ?_))) (fun w hw => ⟨Nat.zero_le _, hw⟩)
  refine JC.pr (fun hi => ?_)
  refine JC.seq (fun K3 hK3 => ?_)
  refine JC.region ?_
  refine J.bin rfl rfl rfl rfl ?_
  refine J.nil ?_
  refine JX.thenN (hK3 _ _ ?_)
  refine JC.seq (fun K4 hK4 => ?_)
  refine JC.cond rfl (fun h0 => ?_) (fun h0 => ?_)
  · skip
    have hlt : i < ys.length := by simp at h0; omega
    have hfys := fI_length ys
    have hcl := (Row.some hr2 (by omega))
    obtain ⟨q1, o1, c2', hqe, _, _⟩ := hcl
    simp only [Value.slice.injEq] at hqe
    obtain ⟨rfl, _, rfl⟩ := hqe
    obtain ⟨ia, hx⟩ : ∃ ia, ys[i]? = some ia := ⟨_, List.getElem?_eq_getElem hlt⟩
    refine JC.skip ?_
    refine JX.thenN (hK4 _ _ ?_)
    refine JC.seq (fun K5 hK5 => ?_)
    refine JC.block ?_
    refine JC.seq (fun K6 hK6 => ?_)
    refine JC.region ?_
    refine J.indexAddrS Ty.el24 Ty.s23 rfl rfl (by omega) (by omega) rfl ?_
    refine J.loadA (vs := cI ia) Ty.a23 Ty.s23 rfl rfl (fun w1 hw => rowF_at (hr2.below (hw.drop (List.nil_sublist _)).below) hx (by omega)) rfl ?_
    refine J.alloc Ty.zID rfl rfl (fun b6 => ?_)
    refine J.storeW (cs := cI zI) (vs := cI ia) Ty.s23 rfl rfl rfl rfl rfl (by simp [Value.oneCell']) .here ?_
    refine J.nil ?_
    refine JX.thenN (hK6 _ _ ?_)
    refine JC.seq (fun K7 hK7 => ?_)
    refine JC.region ?_
    refine J.move rfl rfl ?_
    refine J.lenS rfl Ty.u24 rfl rfl ?_
    refine J.move rfl rfl ?_
    refine J.nil ?_
    refine JX.thenN (hK7 _ _ ?_)
    refine JC.block ?_
    refine JC.conseq (JC.cov (f := (fun j => [(0, .slice (some ⟨q1, o1, none⟩) ys.length c2), (1, .int .i64 half), (9, .slice (some ⟨q1, o1, none⟩) ys.length c2), (10, .int .i64 ((ys.length : Nat) : Int)), (11, .int .i64 ((i : Nat) : Int)), (6, .pointer (some ⟨b6, 0, none⟩)), (15, .slice (some ⟨q1, o1, none⟩) ys.length c2), (16, .int .i64 ((ys.length : Nat) : Int)), (17, .int .i64 ((j : Nat) : Int))]) 0) ⟨rfl, rfl, rfl, rfl, rfl, rfl, rfl, rfl, rfl, trivial⟩ (JC.loop (α := Nat) (fun j => [(0, .slice (some ⟨q1, o1, none⟩) ys.length c2), (1, .int .i64 half), (9, .slice (some ⟨q1, o1, none⟩) ys.length c2), (10, .int .i64 ((ys.length : Nat) : Int)), (11, .int .i64 ((i : Nat) : Int)), (6, .pointer (some ⟨b6, 0, none⟩)), (15, .slice (some ⟨q1, o1, none⟩) ys.length c2), (16, .int .i64 ((ys.length : Nat) : Int)), (17, .int .i64 ((j : Nat) : Int))]) (fun j w' => (j ≤ ys.length) ∧ St w [] [(b6, cb (cI ia) 23)] w') (fun j => ys.length - j) 0 (fun j => ?_))) (fun w hw => ⟨Nat.zero_le _, hw⟩)
    refine JC.pr (fun hj => ?_)
    refine JC.seq (fun K8 hK8 => ?_)
    refine JC.region ?_
    refine J.bin rfl rfl rfl rfl ?_
    refine J.nil ?_
    refine JX.thenN (hK8 _ _ ?_)
    refine JC.seq (fun K9 hK9 => ?_)
    refine JC.cond rfl (fun h1 => ?_) (fun h1 => ?_)
    · skip
      have hlt2 : j < ys.length := by simp at h1; omega
      obtain ⟨ib, hy⟩ : ∃ ib, ys[j]? = some ib := ⟨_, List.getElem?_eq_getElem hlt2⟩
      refine JC.skip ?_
      refine JX.thenN (hK9 _ _ ?_)
      refine JC.seq (fun K10 hK10 => ?_)
      refine JC.block ?_
      refine JC.seq (fun K11 hK11 => ?_)
      refine JC.region ?_
      refine J.indexAddrS Ty.el24 Ty.s23 rfl rfl (by omega) (by omega) rfl ?_
      refine J.loadA (vs := cI ib) Ty.a23 Ty.s23 rfl rfl (fun w1 hw => rowF_at (hr2.below (hw.drop (List.nil_sublist _)).below) hy (by omega)) rfl ?_
      refine J.alloc Ty.zID rfl rfl (fun b8 => ?_)
      refine J.storeW (cs := cI zI) (vs := cI ib) Ty.s23 rfl rfl rfl rfl rfl (by simp [Value.oneCell']) .here ?_
      refine J.nil ?_
      refine JX.thenN (hK11 _ _ ?_)
      refine JC.seq (fun K12 hK12 => ?_)
      by_cases hxy : ia = ib
      · skip
        apply JC.drawL 18 [Eqv (.agg (cI ia).toArray), Eqv (.agg (cI ib).toArray), Eqv (.bool false), Eqv (.bool false), Eqv (undef), Eqv (undef), Eqv (undef), Eqv (undef), Eqv (undef), Eqv (undef), Eqv (undef), Eqv (undef), Eqv (undef), Eqv (undef), Eqv (undef), Eqv (undef), Eqv (undef), Eqv (.bool false)] Ty.mixed rfl rfl rfl (by kernel_rfl) rfl rfl (fun w w' hw hb => hw.step hb) ⟨fun _ _ _ h _ => h, fun _ _ _ h _ => h, fun _ _ _ h _ => h, fun _ _ _ h _ => h, fun _ _ _ h _ => h, fun _ _ _ h _ => h, fun _ _ _ h _ => h, fun _ _ _ h _ => h, fun _ _ _ h _ => h, fun _ _ _ h _ => h, fun _ _ _ h _ => h, fun _ _ _ h _ => h, fun _ _ _ h _ => h, fun _ _ _ h _ => h, fun _ _ _ h _ => h, fun _ _ _ h _ => h, fun _ _ _ h _ => h, fun _ _ _ h _ => h, trivial⟩ ?hstep ?htail
        case hstep =>
          refine ⟨fun wi => ?_, fun wi => ?_, fun wi => ?_, fun wi => ?_, fun wi => ?_, fun wi => ?_, fun wi => ?_, fun wi => ?_, fun wi => ?_, fun wi => ?_, fun wi => ?_, fun wi => ?_, fun wi => ?_, fun wi => ?_, fun wi => ?_, fun wi => ?_, fun wi => ?_, fun wi => ?_, trivial⟩
          · skip
            refine Fin.nil ?_
            refine J.loadA (vs := cI ia) Ty.a23 Ty.s23 rfl rfl (fun w1 hw => Cells.of_block (hw.2.own _ (.tail _ (.head _))) rfl) rfl ?_
            refine J.nil (JX.fin rfl (fun w hw => ⟨rfl, (by rw [hw.1]; exact Bel.refl _)⟩))
          · skip
            refine Fin.nil ?_
            refine J.loadA (vs := cI ib) Ty.a23 Ty.s23 rfl rfl (fun w1 hw => Cells.of_block (hw.2.own _ (.head _)) rfl) rfl ?_
            refine J.nil (JX.fin rfl (fun w hw => ⟨rfl, (by rw [hw.1]; exact Bel.refl _)⟩))
          · skip
            refine Fin.cons (fun v7_0 => ?_)
            refine Fin.cons (fun v7_1 => ?_)
            refine Fin.nil ?_
            refine J.prE (fun h => ?_); subst h
            refine J.prE (fun h => ?_); subst h
            refine J.neI Ty.QI Ty.keyI rfl rfl rfl ?_
            refine J.name 23 rfl (show _ = Value.bool false by simp [hxy]) ?_
            refine J.nil (JX.fin rfl (fun w hw => ⟨rfl, (by rw [hw.1]; exact Bel.refl _)⟩))
          · skip
            refine Fin.cons (fun v7_2 => ?_)
            refine Fin.nil ?_
            refine J.prE (fun h => ?_); subst h
            refine J.move rfl rfl ?_
            refine J.nil (JX.fin rfl (fun w hw => ⟨rfl, (by rw [hw.1]; exact Bel.refl _)⟩))
          · skip
            refine Fin.cons (fun v7_3 => ?_)
            refine Fin.nil ?_
            refine J.prE (fun h => ?_); subst h
            first
              | (refine J.skip rfl rfl rfl rfl rfl ?_)
              | (refine J.skipU rfl rfl rfl rfl ?_)
              | (refine J.unguard rfl rfl rfl ?_; (first | refine J.loadOA Ty.a23 Ty.s23 rfl (.head _) rfl rfl rfl ?_ | refine J.loadOA Ty.a23 Ty.s23 rfl (.tail _ (.head _)) rfl rfl rfl ?_ | refine J.loadOA Ty.a23 Ty.s23 rfl (.tail _ (.tail _ (.head _))) rfl rfl rfl ?_ | refine J.loadOA Ty.a23 Ty.s23 rfl (.tail _ (.tail _ (.tail _ (.head _)))) rfl rfl rfl ?_ | refine J.loadOA Ty.a23 Ty.s23 rfl (.tail _ (.tail _ (.tail _ (.tail _ (.head _))))) rfl rfl rfl ?_ | refine J.loadOA Ty.a23 Ty.s23 rfl (.tail _ (.tail _ (.tail _ (.tail _ (.tail _ (.head _)))))) rfl rfl rfl ?_ | refine J.loadOA Ty.a23 Ty.s23 rfl (.tail _ (.tail _ (.tail _ (.tail _ (.tail _ (.tail _ (.head _))))))) rfl rfl rfl ?_ | refine J.loadOA Ty.a23 Ty.s23 rfl (.tail _ (.tail _ (.tail _ (.tail _ (.tail _ (.tail _ (.tail _ (.head _)))))))) rfl rfl rfl ?_ | refine J.loadOA Ty.a23 Ty.s23 rfl (.tail _ (.tail _ (.tail _ (.tail _ (.tail _ (.tail _ (.tail _ (.tail _ (.head _))))))))) rfl rfl rfl ?_ | refine J.loadOA Ty.a23 Ty.s23 rfl (.tail _ (.tail _ (.tail _ (.tail _ (.tail _ (.tail _ (.tail _ (.tail _ (.tail _ (.head _)))))))))) rfl rfl rfl ?_ | refine J.loadOA Ty.a23 Ty.s23 rfl (.tail _ (.tail _ (.tail _ (.tail _ (.tail _ (.tail _ (.tail _ (.tail _ (.tail _ (.tail _ (.head _))))))))))) rfl rfl rfl ?_ | refine J.loadOA Ty.a23 Ty.s23 rfl (.tail _ (.tail _ (.tail _ (.tail _ (.tail _ (.tail _ (.tail _ (.tail _ (.tail _ (.tail _ (.tail _ (.head _)))))))))))) rfl rfl rfl ?_ | refine J.loadOA Ty.a23 Ty.s23 rfl (List.mem_append_right _ (.head _)) rfl rfl rfl ?_ | refine J.loadOA Ty.a23 Ty.s23 rfl (List.mem_append_right _ (.tail _ (.head _))) rfl rfl rfl ?_ | refine J.loadOA Ty.a23 Ty.s23 rfl (List.mem_append_right _ (.tail _ (.tail _ (.head _)))) rfl rfl rfl ?_ | refine J.loadOA Ty.a23 Ty.s23 rfl (List.mem_append_right _ (.tail _ (.tail _ (.tail _ (.head _))))) rfl rfl rfl ?_ | refine J.loadOA Ty.a23 Ty.s23 rfl (List.mem_append_right _ (.tail _ (.tail _ (.tail _ (.tail _ (.head _)))))) rfl rfl rfl ?_ | refine J.loadOA Ty.a23 Ty.s23 rfl (List.mem_append_right _ (.tail _ (.tail _ (.tail _ (.tail _ (.tail _ (.head _))))))) rfl rfl rfl ?_ | refine J.loadOA Ty.a23 Ty.s23 rfl (List.mem_append_right _ (.tail _ (.tail _ (.tail _ (.tail _ (.tail _ (.tail _ (.head _)))))))) rfl rfl rfl ?_ | refine J.loadOA Ty.a23 Ty.s23 rfl (List.mem_append_right _ (.tail _ (.tail _ (.tail _ (.tail _ (.tail _ (.tail _ (.tail _ (.head _))))))))) rfl rfl rfl ?_ | refine J.loadOA Ty.a23 Ty.s23 rfl (List.mem_append_right _ (.tail _ (.tail _ (.tail _ (.tail _ (.tail _ (.tail _ (.tail _ (.tail _ (.head _)))))))))) rfl rfl rfl ?_ | refine J.loadOA Ty.a23 Ty.s23 rfl (List.mem_append_right _ (.tail _ (.tail _ (.tail _ (.tail _ (.tail _ (.tail _ (.tail _ (.tail _ (.tail _ (.head _))))))))))) rfl rfl rfl ?_ | refine J.loadOA Ty.a23 Ty.s23 rfl (List.mem_append_right _ (.tail _ (.tail _ (.tail _ (.tail _ (.tail _ (.tail _ (.tail _ (.tail _ (.tail _ (.tail _ (.head _)))))))))))) rfl rfl rfl ?_ | refine J.loadOA Ty.a23 Ty.s23 rfl (List.mem_append_right _ (.tail _ (.tail _ (.tail _ (.tail _ (.tail _ (.tail _ (.tail _ (.tail _ (.tail _ (.tail _ (.tail _ (.head _))))))))))))) rfl rfl rfl ?_))
            refine J.nil (JX.fin rfl (fun w hw => ⟨rfl, (by rw [hw.1]; exact Bel.refl _)⟩))
          · skip
            refine Fin.cons (fun v7_3 => ?_)
            refine Fin.nil ?_
            refine J.prE (fun h => ?_); subst h
            first
              | (refine J.skip rfl rfl rfl rfl rfl ?_)
              | (refine J.skipU rfl rfl rfl rfl ?_)
              | (refine J.unguard rfl rfl rfl ?_; refine J.move rfl rfl ?_)
            refine J.nil (JX.fin rfl (fun w hw => ⟨rfl, (by rw [hw.1]; exact Bel.refl _)⟩))
          · skip
            refine Fin.cons (fun v7_3 => ?_)
            refine Fin.nil ?_
            refine J.prE (fun h => ?_); subst h
            first
              | (refine J.skip rfl rfl rfl rfl rfl ?_)
              | (refine J.skipU rfl rfl rfl rfl ?_)
              | (refine J.unguard rfl rfl rfl ?_; refine J.move rfl rfl ?_)
            refine J.nil (JX.fin rfl (fun w hw => ⟨rfl, (by rw [hw.1]; exact Bel.refl _)⟩))
          · skip
            refine Fin.cons (fun v7_4 => ?_)
            refine Fin.cons (fun v7_5 => ?_)
            refine Fin.cons (fun v7_6 => ?_)
            refine Fin.cons (fun v7_3 => ?_)
            refine Fin.cons (fun v7_3 => ?_)
            refine Fin.nil ?_
            refine J.prE (fun h => ?_); subst h
            refine J.prE (fun h => ?_); subst h
            refine J.prE (fun h => ?_); subst h
            refine J.prE (fun h => ?_); subst h
            refine J.prE (fun h => ?_); subst h
            first
              | (refine J.skip rfl rfl rfl rfl rfl ?_)
              | (refine J.skipU rfl rfl rfl rfl ?_)
              | (refine J.unguard rfl rfl rfl ?_; fail)
            refine J.nil (JX.fin rfl (fun w hw => ⟨rfl, (by rw [hw.1]; exact Bel.refl _)⟩))
          · skip
            refine Fin.cons (fun v7_3 => ?_)
            refine Fin.nil ?_
            refine J.prE (fun h => ?_); subst h
            first
              | (refine J.skip rfl rfl rfl rfl rfl ?_)
              | (refine J.skipU rfl rfl rfl rfl ?_)
              | (refine J.unguard rfl rfl rfl ?_; (first | refine J.loadOA Ty.a23 Ty.s23 rfl (.head _) rfl rfl rfl ?_ | refine J.loadOA Ty.a23 Ty.s23 rfl (.tail _ (.head _)) rfl rfl rfl ?_ | refine J.loadOA Ty.a23 Ty.s23 rfl (.tail _ (.tail _ (.head _))) rfl rfl rfl ?_ | refine J.loadOA Ty.a23 Ty.s23 rfl (.tail _ (.tail _ (.tail _ (.head _)))) rfl rfl rfl ?_ | refine J.loadOA Ty.a23 Ty.s23 rfl (.tail _ (.tail _ (.tail _ (.tail _ (.head _))))) rfl rfl rfl ?_ | refine J.loadOA Ty.a23 Ty.s23 rfl (.tail _ (.tail _ (.tail _ (.tail _ (.tail _ (.head _)))))) rfl rfl rfl ?_ | refine J.loadOA Ty.a23 Ty.s23 rfl (.tail _ (.tail _ (.tail _ (.tail _ (.tail _ (.tail _ (.head _))))))) rfl rfl rfl ?_ | refine J.loadOA Ty.a23 Ty.s23 rfl (.tail _ (.tail _ (.tail _ (.tail _ (.tail _ (.tail _ (.tail _ (.head _)))))))) rfl rfl rfl ?_ | refine J.loadOA Ty.a23 Ty.s23 rfl (.tail _ (.tail _ (.tail _ (.tail _ (.tail _ (.tail _ (.tail _ (.tail _ (.head _))))))))) rfl rfl rfl ?_ | refine J.loadOA Ty.a23 Ty.s23 rfl (.tail _ (.tail _ (.tail _ (.tail _ (.tail _ (.tail _ (.tail _ (.tail _ (.tail _ (.head _)))))))))) rfl rfl rfl ?_ | refine J.loadOA Ty.a23 Ty.s23 rfl (.tail _ (.tail _ (.tail _ (.tail _ (.tail _ (.tail _ (.tail _ (.tail _ (.tail _ (.tail _ (.head _))))))))))) rfl rfl rfl ?_ | refine J.loadOA Ty.a23 Ty.s23 rfl (.tail _ (.tail _ (.tail _ (.tail _ (.tail _ (.tail _ (.tail _ (.tail _ (.tail _ (.tail _ (.tail _ (.head _)))))))))))) rfl rfl rfl ?_ | refine J.loadOA Ty.a23 Ty.s23 rfl (List.mem_append_right _ (.head _)) rfl rfl rfl ?_ | refine J.loadOA Ty.a23 Ty.s23 rfl (List.mem_append_right _ (.tail _ (.head _))) rfl rfl rfl ?_ | refine J.loadOA Ty.a23 Ty.s23 rfl (List.mem_append_right _ (.tail _ (.tail _ (.head _)))) rfl rfl rfl ?_ | refine J.loadOA Ty.a23 Ty.s23 rfl (List.mem_append_right _ (.tail _ (.tail _ (.tail _ (.head _))))) rfl rfl rfl ?_ | refine J.loadOA Ty.a23 Ty.s23 rfl (List.mem_append_right _ (.tail _ (.tail _ (.tail _ (.tail _ (.head _)))))) rfl rfl rfl ?_ | refine J.loadOA Ty.a23 Ty.s23 rfl (List.mem_append_right _ (.tail _ (.tail _ (.tail _ (.tail _ (.tail _ (.head _))))))) rfl rfl rfl ?_ | refine J.loadOA Ty.a23 Ty.s23 rfl (List.mem_append_right _ (.tail _ (.tail _ (.tail _ (.tail _ (.tail _ (.tail _ (.head _)))))))) rfl rfl rfl ?_ | refine J.loadOA Ty.a23 Ty.s23 rfl (List.mem_append_right _ (.tail _ (.tail _ (.tail _ (.tail _ (.tail _ (.tail _ (.tail _ (.head _))))))))) rfl rfl rfl ?_ | refine J.loadOA Ty.a23 Ty.s23 rfl (List.mem_append_right _ (.tail _ (.tail _ (.tail _ (.tail _ (.tail _ (.tail _ (.tail _ (.tail _ (.head _)))))))))) rfl rfl rfl ?_ | refine J.loadOA Ty.a23 Ty.s23 rfl (List.mem_append_right _ (.tail _ (.tail _ (.tail _ (.tail _ (.tail _ (.tail _ (.tail _ (.tail _ (.tail _ (.head _))))))))))) rfl rfl rfl ?_ | refine J.loadOA Ty.a23 Ty.s23 rfl (List.mem_append_right _ (.tail _ (.tail _ (.tail _ (.tail _ (.tail _ (.tail _ (.tail _ (.tail _ (.tail _ (.tail _ (.head _)))))))))))) rfl rfl rfl ?_ | refine J.loadOA Ty.a23 Ty.s23 rfl (List.mem_append_right _ (.tail _ (.tail _ (.tail _ (.tail _ (.tail _ (.tail _ (.tail _ (.tail _ (.tail _ (.tail _ (.tail _ (.head _))))))))))))) rfl rfl rfl ?_))
            refine J.nil (JX.fin rfl (fun w hw => ⟨rfl, (by rw [hw.1]; exact Bel.refl _)⟩))
          · skip
            refine Fin.cons (fun v7_7 => ?_)
            refine Fin.cons (fun v7_8 => ?_)
            refine Fin.cons (fun v7_7 => ?_)
            refine Fin.cons (fun v7_3 => ?_)
            refine Fin.nil ?_
            refine J.prE (fun h => ?_); subst h
            refine J.prE (fun h => ?_); subst h
            refine J.prE (fun h => ?_); subst h
            refine J.prE (fun h => ?_); subst h
            first
              | (refine J.skip rfl rfl rfl rfl rfl ?_)
              | (refine J.skipU rfl rfl rfl rfl ?_)
              | (refine J.unguard rfl rfl rfl ?_; fail)
            refine J.nil (JX.fin rfl (fun w hw => ⟨rfl, (by rw [hw.1]; exact Bel.refl _)⟩))
          · skip
            refine Fin.cons (fun v7_3 => ?_)
            refine Fin.nil ?_
            refine J.prE (fun h => ?_); subst h
            first
              | (refine J.skip rfl rfl rfl rfl rfl ?_)
              | (refine J.skipU rfl rfl rfl rfl ?_)
              | (refine J.unguard rfl rfl rfl ?_; (first | refine J.loadOA Ty.a23 Ty.s23 rfl (.head _) rfl rfl rfl ?_ | refine J.loadOA Ty.a23 Ty.s23 rfl (.tail _ (.head _)) rfl rfl rfl ?_ | refine J.loadOA Ty.a23 Ty.s23 rfl (.tail _ (.tail _ (.head _))) rfl rfl rfl ?_ | refine J.loadOA Ty.a23 Ty.s23 rfl (.tail _ (.tail _ (.tail _ (.head _)))) rfl rfl rfl ?_ | refine J.loadOA Ty.a23 Ty.s23 rfl (.tail _ (.tail _ (.tail _ (.tail _ (.head _))))) rfl rfl rfl ?_ | refine J.loadOA Ty.a23 Ty.s23 rfl (.tail _ (.tail _ (.tail _ (.tail _ (.tail _ (.head _)))))) rfl rfl rfl ?_ | refine J.loadOA Ty.a23 Ty.s23 rfl (.tail _ (.tail _ (.tail _ (.tail _ (.tail _ (.tail _ (.head _))))))) rfl rfl rfl ?_ | refine J.loadOA Ty.a23 Ty.s23 rfl (.tail _ (.tail _ (.tail _ (.tail _ (.tail _ (.tail _ (.tail _ (.head _)))))))) rfl rfl rfl ?_ | refine J.loadOA Ty.a23 Ty.s23 rfl (.tail _ (.tail _ (.tail _ (.tail _ (.tail _ (.tail _ (.tail _ (.tail _ (.head _))))))))) rfl rfl rfl ?_ | refine J.loadOA Ty.a23 Ty.s23 rfl (.tail _ (.tail _ (.tail _ (.tail _ (.tail _ (.tail _ (.tail _ (.tail _ (.tail _ (.head _)))))))))) rfl rfl rfl ?_ | refine J.loadOA Ty.a23 Ty.s23 rfl (.tail _ (.tail _ (.tail _ (.tail _ (.tail _ (.tail _ (.tail _ (.tail _ (.tail _ (.tail _ (.head _))))))))))) rfl rfl rfl ?_ | refine J.loadOA Ty.a23 Ty.s23 rfl (.tail _ (.tail _ (.tail _ (.tail _ (.tail _ (.tail _ (.tail _ (.tail _ (.tail _ (.tail _ (.tail _ (.head _)))))))))))) rfl rfl rfl ?_ | refine J.loadOA Ty.a23 Ty.s23 rfl (List.mem_append_right _ (.head _)) rfl rfl rfl ?_ | refine J.loadOA Ty.a23 Ty.s23 rfl (List.mem_append_right _ (.tail _ (.head _))) rfl rfl rfl ?_ | refine J.loadOA Ty.a23 Ty.s23 rfl (List.mem_append_right _ (.tail _ (.tail _ (.head _)))) rfl rfl rfl ?_ | refine J.loadOA Ty.a23 Ty.s23 rfl (List.mem_append_right _ (.tail _ (.tail _ (.tail _ (.head _))))) rfl rfl rfl ?_ | refine J.loadOA Ty.a23 Ty.s23 rfl (List.mem_append_right _ (.tail _ (.tail _ (.tail _ (.tail _ (.head _)))))) rfl rfl rfl ?_ | refine J.loadOA Ty.a23 Ty.s23 rfl (List.mem_append_right _ (.tail _ (.tail _ (.tail _ (.tail _ (.tail _ (.head _))))))) rfl rfl rfl ?_ | refine J.loadOA Ty.a23 Ty.s23 rfl (List.mem_append_right _ (.tail _ (.tail _ (.tail _ (.tail _ (.tail _ (.tail _ (.head _)))))))) rfl rfl rfl ?_ | refine J.loadOA Ty.a23 Ty.s23 rfl (List.mem_append_right _ (.tail _ (.tail _ (.tail _ (.tail _ (.tail _ (.tail _ (.tail _ (.head _))))))))) rfl rfl rfl ?_ | refine J.loadOA Ty.a23 Ty.s23 rfl (List.mem_append_right _ (.tail _ (.tail _ (.tail _ (.tail _ (.tail _ (.tail _ (.tail _ (.tail _ (.head _)))))))))) rfl rfl rfl ?_ | refine J.loadOA Ty.a23 Ty.s23 rfl (List.mem_append_right _ (.tail _ (.tail _ (.tail _ (.tail _ (.tail _ (.tail _ (.tail _ (.tail _ (.tail _ (.head _))))))))))) rfl rfl rfl ?_ | refine J.loadOA Ty.a23 Ty.s23 rfl (List.mem_append_right _ (.tail _ (.tail _ (.tail _ (.tail _ (.tail _ (.tail _ (.tail _ (.tail _ (.tail _ (.tail _ (.head _)))))))))))) rfl rfl rfl ?_ | refine J.loadOA Ty.a23 Ty.s23 rfl (List.mem_append_right _ (.tail _ (.tail _ (.tail _ (.tail _ (.tail _ (.tail _ (.tail _ (.tail _ (.tail _ (.tail _ (.tail _ (.head _))))))))))))) rfl rfl rfl ?_))
            refine J.nil (JX.fin rfl (fun w hw => ⟨rfl, (by rw [hw.1]; exact Bel.refl _)⟩))
          · skip
            refine Fin.cons (fun v7_3 => ?_)
            refine Fin.nil ?_
            refine J.prE (fun h => ?_); subst h
            first
              | (refine J.skip rfl rfl rfl rfl rfl ?_)
              | (refine J.skipU rfl rfl rfl rfl ?_)
              | (refine J.unguard rfl rfl rfl ?_; refine J.move rfl rfl ?_)
            refine J.nil (JX.fin rfl (fun w hw => ⟨rfl, (by rw [hw.1]; exact Bel.refl _)⟩))
          · skip
            refine Fin.cons (fun v7_3 => ?_)
            refine Fin.nil ?_
            refine J.prE (fun h => ?_); subst h
            first
              | (refine J.skip rfl rfl rfl rfl rfl ?_)
              | (refine J.skipU rfl rfl rfl rfl ?_)
              | (refine J.unguard rfl rfl rfl ?_; refine J.move rfl rfl ?_)
            refine J.nil (JX.fin rfl (fun w hw => ⟨rfl, (by rw [hw.1]; exact Bel.refl _)⟩))
          · skip
            refine Fin.cons (fun v7_10 => ?_)
            refine Fin.cons (fun v7_11 => ?_)
            refine Fin.cons (fun v7_12 => ?_)
            refine Fin.cons (fun v7_9 => ?_)
            refine Fin.cons (fun v7_3 => ?_)
            refine Fin.nil ?_
            refine J.prE (fun h => ?_); subst h
            refine J.prE (fun h => ?_); subst h
            refine J.prE (fun h => ?_); subst h
            refine J.prE (fun h => ?_); subst h
            refine J.prE (fun h => ?_); subst h
            first
              | (refine J.skip rfl rfl rfl rfl rfl ?_)
              | (refine J.skipU rfl rfl rfl rfl ?_)
              | (refine J.unguard rfl rfl rfl ?_; fail)
            refine J.nil (JX.fin rfl (fun w hw => ⟨rfl, (by rw [hw.1]; exact Bel.refl _)⟩))
          · skip
            refine Fin.cons (fun v7_3 => ?_)
            refine Fin.nil ?_
            refine J.prE (fun h => ?_); subst h
            first
              | (refine J.skip rfl rfl rfl rfl rfl ?_)
              | (refine J.skipU rfl rfl rfl rfl ?_)
              | (refine J.unguard rfl rfl rfl ?_; (first | refine J.loadOA Ty.a23 Ty.s23 rfl (.head _) rfl rfl rfl ?_ | refine J.loadOA Ty.a23 Ty.s23 rfl (.tail _ (.head _)) rfl rfl rfl ?_ | refine J.loadOA Ty.a23 Ty.s23 rfl (.tail _ (.tail _ (.head _))) rfl rfl rfl ?_ | refine J.loadOA Ty.a23 Ty.s23 rfl (.tail _ (.tail _ (.tail _ (.head _)))) rfl rfl rfl ?_ | refine J.loadOA Ty.a23 Ty.s23 rfl (.tail _ (.tail _ (.tail _ (.tail _ (.head _))))) rfl rfl rfl ?_ | refine J.loadOA Ty.a23 Ty.s23 rfl (.tail _ (.tail _ (.tail _ (.tail _ (.tail _ (.head _)))))) rfl rfl rfl ?_ | refine J.loadOA Ty.a23 Ty.s23 rfl (.tail _ (.tail _ (.tail _ (.tail _ (.tail _ (.tail _ (.head _))))))) rfl rfl rfl ?_ | refine J.loadOA Ty.a23 Ty.s23 rfl (.tail _ (.tail _ (.tail _ (.tail _ (.tail _ (.tail _ (.tail _ (.head _)))))))) rfl rfl rfl ?_ | refine J.loadOA Ty.a23 Ty.s23 rfl (.tail _ (.tail _ (.tail _ (.tail _ (.tail _ (.tail _ (.tail _ (.tail _ (.head _))))))))) rfl rfl rfl ?_ | refine J.loadOA Ty.a23 Ty.s23 rfl (.tail _ (.tail _ (.tail _ (.tail _ (.tail _ (.tail _ (.tail _ (.tail _ (.tail _ (.head _)))))))))) rfl rfl rfl ?_ | refine J.loadOA Ty.a23 Ty.s23 rfl (.tail _ (.tail _ (.tail _ (.tail _ (.tail _ (.tail _ (.tail _ (.tail _ (.tail _ (.tail _ (.head _))))))))))) rfl rfl rfl ?_ | refine J.loadOA Ty.a23 Ty.s23 rfl (.tail _ (.tail _ (.tail _ (.tail _ (.tail _ (.tail _ (.tail _ (.tail _ (.tail _ (.tail _ (.tail _ (.head _)))))))))))) rfl rfl rfl ?_ | refine J.loadOA Ty.a23 Ty.s23 rfl (List.mem_append_right _ (.head _)) rfl rfl rfl ?_ | refine J.loadOA Ty.a23 Ty.s23 rfl (List.mem_append_right _ (.tail _ (.head _))) rfl rfl rfl ?_ | refine J.loadOA Ty.a23 Ty.s23 rfl (List.mem_append_right _ (.tail _ (.tail _ (.head _)))) rfl rfl rfl ?_ | refine J.loadOA Ty.a23 Ty.s23 rfl (List.mem_append_right _ (.tail _ (.tail _ (.tail _ (.head _))))) rfl rfl rfl ?_ | refine J.loadOA Ty.a23 Ty.s23 rfl (List.mem_append_right _ (.tail _ (.tail _ (.tail _ (.tail _ (.head _)))))) rfl rfl rfl ?_ | refine J.loadOA Ty.a23 Ty.s23 rfl (List.mem_append_right _ (.tail _ (.tail _ (.tail _ (.tail _ (.tail _ (.head _))))))) rfl rfl rfl ?_ | refine J.loadOA Ty.a23 Ty.s23 rfl (List.mem_append_right _ (.tail _ (.tail _ (.tail _ (.tail _ (.tail _ (.tail _ (.head _)))))))) rfl rfl rfl ?_ | refine J.loadOA Ty.a23 Ty.s23 rfl (List.mem_append_right _ (.tail _ (.tail _ (.tail _ (.tail _ (.tail _ (.tail _ (.tail _ (.head _))))))))) rfl rfl rfl ?_ | refine J.loadOA Ty.a23 Ty.s23 rfl (List.mem_append_right _ (.tail _ (.tail _ (.tail _ (.tail _ (.tail _ (.tail _ (.tail _ (.tail _ (.head _)))))))))) rfl rfl rfl ?_ | refine J.loadOA Ty.a23 Ty.s23 rfl (List.mem_append_right _ (.tail _ (.tail _ (.tail _ (.tail _ (.tail _ (.tail _ (.tail _ (.tail _ (.tail _ (.head _))))))))))) rfl rfl rfl ?_ | refine J.loadOA Ty.a23 Ty.s23 rfl (List.mem_append_right _ (.tail _ (.tail _ (.tail _ (.tail _ (.tail _ (.tail _ (.tail _ (.tail _ (.tail _ (.tail _ (.head _)))))))))))) rfl rfl rfl ?_ | refine J.loadOA Ty.a23 Ty.s23 rfl (List.mem_append_right _ (.tail _ (.tail _ (.tail _ (.tail _ (.tail _ (.tail _ (.tail _ (.tail _ (.tail _ (.tail _ (.tail _ (.head _))))))))))))) rfl rfl rfl ?_))
            refine J.nil (JX.fin rfl (fun w hw => ⟨rfl, (by rw [hw.1]; exact Bel.refl _)⟩))
          · skip
            refine Fin.cons (fun v7_13 => ?_)
            refine Fin.cons (fun v7_14 => ?_)
            refine Fin.cons (fun v7_13 => ?_)
            refine Fin.cons (fun v7_3 => ?_)
            refine Fin.nil ?_
            refine J.prE (fun h => ?_); subst h
            refine J.prE (fun h => ?_); subst h
            refine J.prE (fun h => ?_); subst h
            refine J.prE (fun h => ?_); subst h
            first
              | (refine J.skip rfl rfl rfl rfl rfl ?_)
              | (refine J.skipU rfl rfl rfl rfl ?_)
              | (refine J.unguard rfl rfl rfl ?_; fail)
            refine J.nil (JX.fin rfl (fun w hw => ⟨rfl, (by rw [hw.1]; exact Bel.refl _)⟩))
          · skip
            refine Fin.cons (fun v7_9 => ?_)
            refine Fin.cons (fun v7_15 => ?_)
            refine Fin.cons (fun v7_3 => ?_)
            refine Fin.nil ?_
            refine J.prE (fun h => ?_); subst h
            refine J.prE (fun h => ?_); subst h
            refine J.prE (fun h => ?_); subst h
            first
              | (refine J.skip rfl rfl rfl rfl rfl ?_)
              | (refine J.skipU rfl rfl rfl rfl ?_)
              | (refine J.unguard rfl rfl rfl ?_; refine J.eqBool (.inr rfl) Ty.u4 rfl rfl rfl ?_)
            refine J.nil (JX.fin rfl (fun w hw => ⟨rfl, (by rw [hw.1]; exact Bel.refl _)⟩))
          · skip
            refine Fin.cons (fun v7_3 => ?_)
            refine Fin.cons (fun v7_16 => ?_)
            refine Fin.nil ?_
            refine J.prE (fun h => ?_); subst h
            refine J.prE (fun h => ?_); subst h
            (first | refine J.pickT rfl rfl rfl ?_ | refine J.pickF rfl rfl rfl ?_)
            refine J.nil (JX.fin rfl (fun w hw => ⟨rfl, (by rw [hw.1]; exact Bel.refl _)⟩))
        case htail =>
          refine Fin.cons (fun v7_0 => ?_)
          refine Fin.cons (fun v7_1 => ?_)
          refine Fin.cons (fun v7_2 => ?_)
          refine Fin.cons (fun v7_3 => ?_)
          refine Fin.cons (fun v7_4 => ?_)
          refine Fin.cons (fun v7_5 => ?_)
          refine Fin.cons (fun v7_6 => ?_)
          refine Fin.cons (fun v7_7 => ?_)
          refine Fin.cons (fun v7_8 => ?_)
          refine Fin.cons (fun v7_9 => ?_)
          refine Fin.cons (fun v7_10 => ?_)
          refine Fin.cons (fun v7_11 => ?_)
          refine Fin.cons (fun v7_12 => ?_)
          refine Fin.cons (fun v7_13 => ?_)
          refine Fin.cons (fun v7_14 => ?_)
          refine Fin.cons (fun v7_15 => ?_)
          refine Fin.cons (fun v7_16 => ?_)
          refine Fin.cons (fun v7_17 => ?_)
          refine Fin.nil ?_
          refine J.prE (fun h => ?_); subst h
          refine J.prE (fun h => ?_); subst h
          refine J.prE (fun h => ?_); subst h
          refine J.prE (fun h => ?_); subst h
          refine J.prE (fun h => ?_); subst h
          refine J.prE (fun h => ?_); subst h
          refine J.prE (fun h => ?_); subst h
          refine J.prE (fun h => ?_); subst h
          refine J.prE (fun h => ?_); subst h
          refine J.prE (fun h => ?_); subst h
          refine J.prE (fun h => ?_); subst h
          refine J.prE (fun h => ?_); subst h
          refine J.prE (fun h => ?_); subst h
          refine J.prE (fun h => ?_); subst h
          refine J.prE (fun h => ?_); subst h
          refine J.prE (fun h => ?_); subst h
          refine J.prE (fun h => ?_); subst h
          refine J.prE (fun h => ?_); subst h
          refine J.nil ?_
          refine JX.thenN (hK12 _ _ ?_)
          first | refine JC.condF rfl ?_ | refine JC.cond rfl (fun h => by first | (exfalso; simp at h; omega) | (simp at h)) (fun _ => ?_)
          refine JC.skip ?_
          refine JX.blockN ?_
          refine JX.thenN (hK10 _ _ ?_)
          refine JC.region ?_
          (first | refine J.addN rfl rfl (by omega) (by omega) rfl ?_ | refine J.bin rfl rfl rfl rfl ?_)
          refine J.move rfl rfl ?_
          refine J.nil ?_
          refine JX.thenN ?_
          refine JX.again (j + 1) ?_ ?_ ?_
          · omega
          · exact ⟨rfl, rfl, rfl, rfl, rfl, rfl, rfl, rfl, rfl, trivial⟩
          · exact fun w1 hw => ⟨hlt2, hw.drop (List.sublist_cons_self _ _)⟩
      · skip
        apply JC.drawX (α := Value × List (Nat × Obj) × Value × List (Nat × Obj)) 18 (fun x => match x with | ⟨v30, l30, v36, l36⟩ => [.agg (cI ia).toArray, .agg (cI ib).toArray, .bool true, .bool true, .agg (cI ia).toArray, .slice (some ⟨q1, o1, none⟩) ys.length c2, .int .i64 half, v30, .agg (cI ib).toArray, .bool (decide (ib ∈ wantI ia ys half)), .agg (cI ib).toArray, .slice (some ⟨q1, o1, none⟩) ys.length c2, .int .i64 half, v36, .agg (cI ia).toArray, .bool (decide (ia ∈ wantI ib ys half)), .bool false, .bool false]) (fun m x => match x with | ⟨v30, l30, v36, l36⟩ => fun w1 => ((m 7 = true → Vec 23 16 v30 (wantI ia ys half).length (fI (wantI ia ys half)) l30) ∧ (m 13 = true → Vec 23 16 v36 (wantI ib ys half).length (fI (wantI ib ys half)) l36)) ∧ St w [] ((b8, cb (cI ib) 23) :: (b6, cb (cI ia) 23) :: ((bif m 7 then l30 else []) ++ (bif m 13 then l36 else []))) w1) Ty.mixed rfl rfl rfl (by kernel_rfl) rfl rfl ?hinit ?hstep ?htail
        case hinit => exact fun w1 hw => ⟨(.slice none 0 0, [], .slice none 0 0, []), ⟨fun h => (by cases h), fun h => (by cases h)⟩, hw.drew⟩
        case hstep =>
          refine ⟨fun m x hm hp => ?_, fun m x hm hp => ?_, fun m x hm hp => ?_, fun m x hm hp => ?_, fun m x hm hp => ?_, fun m x hm hp => ?_, fun m x hm hp => ?_, fun m x hm hp => ?_, fun m x hm hp => ?_, fun m x hm hp => ?_, fun m x hm hp => ?_, fun m x hm hp => ?_, fun m x hm hp => ?_, fun m x hm hp => ?_, fun m x hm hp => ?_, fun m x hm hp => ?_, fun m x hm hp => ?_, fun m x hm hp => ?_, trivial⟩
          · skip
            obtain ⟨v30, l30, v36, l36⟩ := x
            show J _ _ _ _ _ (_) (fun w1 => ((m 7 = true → Vec 23 16 v30 (wantI ia ys half).length (fI (wantI ia ys half)) l30) ∧ (m 13 = true → Vec 23 16 v36 (wantI ib ys half).length (fI (wantI ib ys half)) l36)) ∧ St w [] ((b8, cb (cI ib) 23) :: (b6, cb (cI ia) 23) :: ((bif m 7 then l30 else []) ++ (bif m 13 then l36 else []))) w1)
            refine J.pr (fun hF => ?_)
            refine J.loadA (vs := cI ia) Ty.a23 Ty.s23 rfl rfl (fun w1 hw => Cells.of_block (hw.own _ (.tail _ (.head _))) rfl) rfl ?_
            exact J.nil (JX.finB rfl (fun w1 hw => ⟨⟨⟨v30, l30, v36, l36⟩, rfl, fun _ _ _ => rfl, hF, hw⟩, trivial⟩))
          · skip
            obtain ⟨v30, l30, v36, l36⟩ := x
            show J _ _ _ _ _ (_) (fun w1 => ((m 7 = true → Vec 23 16 v30 (wantI ia ys half).length (fI (wantI ia ys half)) l30) ∧ (m 13 = true → Vec 23 16 v36 (wantI ib ys half).length (fI (wantI ib ys half)) l36)) ∧ St w [] ((b8, cb (cI ib) 23) :: (b6, cb (cI ia) 23) :: ((bif m 7 then l30 else []) ++ (bif m 13 then l36 else []))) w1)
            refine J.pr (fun hF => ?_)
            refine J.loadA (vs := cI ib) Ty.a23 Ty.s23 rfl rfl (fun w1 hw => Cells.of_block (hw.own _ (.head _)) rfl) rfl ?_
            exact J.nil (JX.finB rfl (fun w1 hw => ⟨⟨⟨v30, l30, v36, l36⟩, rfl, fun _ _ _ => rfl, hF, hw⟩, trivial⟩))
          · skip
            obtain ⟨v30, l30, v36, l36⟩ := x
            show J _ _ _ _ _ ((22, .agg (cI ib).toArray) :: (21, .agg (cI ia).toArray) :: _) (fun w1 => ((m 7 = true → Vec 23 16 v30 (wantI ia ys half).length (fI (wantI ia ys half)) l30) ∧ (m 13 = true → Vec 23 16 v36 (wantI ib ys half).length (fI (wantI ib ys half)) l36)) ∧ St w [] ((b8, cb (cI ib) 23) :: (b6, cb (cI ia) 23) :: ((bif m 7 then l30 else []) ++ (bif m 13 then l36 else []))) w1)
            refine J.pr (fun hF => ?_)
            refine J.neI Ty.QI Ty.keyI rfl rfl rfl ?_
            refine J.name 23 rfl (show _ = Value.bool true by simp [hxy]) ?_
            exact J.nil (JX.finB rfl (fun w1 hw => ⟨⟨⟨v30, l30, v36, l36⟩, rfl, fun _ _ _ => rfl, hF, hw⟩, trivial⟩))
          · skip
            obtain ⟨v30, l30, v36, l36⟩ := x
            show J _ _ _ _ _ ((23, .bool true) :: _) (fun w1 => ((m 7 = true → Vec 23 16 v30 (wantI ia ys half).length (fI (wantI ia ys half)) l30) ∧ (m 13 = true → Vec 23 16 v36 (wantI ib ys half).length (fI (wantI ib ys half)) l36)) ∧ St w [] ((b8, cb (cI ib) 23) :: (b6, cb (cI ia) 23) :: ((bif m 7 then l30 else []) ++ (bif m 13 then l36 else []))) w1)
            refine J.pr (fun hF => ?_)
            refine J.move rfl rfl ?_
            exact J.nil (JX.finB rfl (fun w1 hw => ⟨⟨⟨v30, l30, v36, l36⟩, rfl, fun _ _ _ => rfl, hF, hw⟩, trivial⟩))
          · skip
            obtain ⟨v30, l30, v36, l36⟩ := x
            show J _ _ _ _ _ ((24, .bool true) :: _) (fun w1 => ((m 7 = true → Vec 23 16 v30 (wantI ia ys half).length (fI (wantI ia ys half)) l30) ∧ (m 13 = true → Vec 23 16 v36 (wantI ib ys half).length (fI (wantI ib ys half)) l36)) ∧ St w [] ((b8, cb (cI ib) 23) :: (b6, cb (cI ia) 23) :: ((bif m 7 then l30 else []) ++ (bif m 13 then l36 else []))) w1)
            refine J.pr (fun hF => ?_)
            refine J.unguard rfl rfl rfl ?_
            refine J.loadA (vs := cI ia) Ty.a23 Ty.s23 rfl rfl (fun w1 hw => Cells.of_block (hw.own _ (.tail _ (.head _))) rfl) rfl ?_
            exact J.nil (JX.finB rfl (fun w1 hw => ⟨⟨⟨v30, l30, v36, l36⟩, rfl, fun _ _ _ => rfl, hF, hw⟩, trivial⟩))
          · skip
            obtain ⟨v30, l30, v36, l36⟩ := x
            show J _ _ _ _ _ ((24, .bool true) :: _) (fun w1 => ((m 7 = true → Vec 23 16 v30 (wantI ia ys half).length (fI (wantI ia ys half)) l30) ∧ (m 13 = true → Vec 23 16 v36 (wantI ib ys half).length (fI (wantI ib ys half)) l36)) ∧ St w [] ((b8, cb (cI ib) 23) :: (b6, cb (cI ia) 23) :: ((bif m 7 then l30 else []) ++ (bif m 13 then l36 else []))) w1)
            refine J.pr (fun hF => ?_)
            first
              | (refine J.skip rfl rfl rfl rfl rfl ?_)
              | (refine J.skipU rfl rfl rfl rfl ?_)
              | (refine J.unguard rfl rfl rfl ?_; refine J.move rfl rfl ?_)
            exact J.nil (JX.finB rfl (fun w1 hw => ⟨⟨⟨v30, l30, v36, l36⟩, rfl, fun _ _ _ => rfl, hF, hw⟩, trivial⟩))
          · skip
            obtain ⟨v30, l30, v36, l36⟩ := x
            show J _ _ _ _ _ ((24, .bool true) :: _) (fun w1 => ((m 7 = true → Vec 23 16 v30 (wantI ia ys half).length (fI (wantI ia ys half)) l30) ∧ (m 13 = true → Vec 23 16 v36 (wantI ib ys half).length (fI (wantI ib ys half)) l36)) ∧ St w [] ((b8, cb (cI ib) 23) :: (b6, cb (cI ia) 23) :: ((bif m 7 then l30 else []) ++ (bif m 13 then l36 else []))) w1)
            refine J.pr (fun hF => ?_)
            first
              | (refine J.skip rfl rfl rfl rfl rfl ?_)
              | (refine J.skipU rfl rfl rfl rfl ?_)
              | (refine J.unguard rfl rfl rfl ?_; refine J.move rfl rfl ?_)
            exact J.nil (JX.finB rfl (fun w1 hw => ⟨⟨⟨v30, l30, v36, l36⟩, rfl, fun _ _ _ => rfl, hF, hw⟩, trivial⟩))
          · skip
            obtain ⟨v30, l30, v36, l36⟩ := x
            show J _ _ _ _ _ ((24, .bool true) :: (24, .bool true) :: (27, .int .i64 half) :: (26, .slice (some ⟨q1, o1, none⟩) ys.length c2) :: (25, .agg (cI ia).toArray) :: _) (fun w1 => ((m 7 = true → Vec 23 16 v30 (wantI ia ys half).length (fI (wantI ia ys half)) l30) ∧ (m 13 = true → Vec 23 16 v36 (wantI ib ys half).length (fI (wantI ib ys half)) l36)) ∧ St w [] ((b8, cb (cI ib) 23) :: (b6, cb (cI ia) 23) :: ((bif m 7 then l30 else []) ++ (bif m 13 then l36 else []))) w1)
            refine J.pr (fun hF => ?_)
            refine J.unguard rfl rfl rfl ?_
            refine J.perm ([] ++ ((b8, cb (cI ib) 23) :: (b6, cb (cI ia) 23) :: ((bif m 7 then l30 else []) ++ (bif m 13 then l36 else [])))) (.refl _) ?_
            refine J.callS (α := Value × List (Nat × Obj)) (V := (·.1)) (Pr := fun x => Vec 23 16 x.1 (wantI ia ys half).length (fI (wantI ia ys half)) x.2) (L := (·.2)) (l1 := []) Ty.bd16 rfl rfl (fun w1 hw => want_spec ia _ ys half w1 (hr2.below (hw.drop (List.nil_sublist _)).below) (by omega)) (fun x hvn => ?_)
            obtain ⟨vn, ln⟩ := x
            simp only at hvn ⊢
            refine J.nil (JX.finB rfl (fun w1 hw => ⟨⟨⟨vn, ln, v36, l36⟩, rfl, fun j h1 h2 => ?_, ?_⟩, trivial⟩))
            · match j, h1 with
              | 0, _ => rfl
              | 1, _ => rfl
              | 2, _ => rfl
              | 3, _ => rfl
              | 4, _ => rfl
              | 5, _ => rfl
              | 6, _ => rfl
              | 7, _ => exact absurd (h2.symm.trans hm) (by decide)
              | 8, _ => rfl
              | 9, _ => rfl
              | 10, _ => rfl
              | 11, _ => rfl
              | 12, _ => rfl
              | 13, _ => rfl
              | 14, _ => rfl
              | 15, _ => rfl
              | 16, _ => rfl
              | 17, _ => rfl
              | j + 18, h1 => omega
            show ((true = true → Vec 23 16 vn (wantI ia ys half).length (fI (wantI ia ys half)) ln) ∧ (m 13 = true → Vec 23 16 v36 (wantI ib ys half).length (fI (wantI ib ys half)) l36)) ∧ St w [] ((b8, cb (cI ib) 23) :: (b6, cb (cI ia) 23) :: ((bif true then ln else []) ++ (bif m 13 then l36 else []))) w1
            simp only [hm, cond_true, cond_false] at hw ⊢
            exact ⟨⟨fun _ => hvn, hF.2⟩, hw.perm (by (refine perm_cnt (fun _ => ?_)); simp only [cntB_append, cntB_cons, cntB_nil, Nat.add_zero, Nat.zero_add]; try ac_rfl)⟩
          · skip
            obtain ⟨v30, l30, v36, l36⟩ := x
            show J _ _ _ _ _ ((24, .bool true) :: _) (fun w1 => ((m 7 = true → Vec 23 16 v30 (wantI ia ys half).length (fI (wantI ia ys half)) l30) ∧ (m 13 = true → Vec 23 16 v36 (wantI ib ys half).length (fI (wantI ib ys half)) l36)) ∧ St w [] ((b8, cb (cI ib) 23) :: (b6, cb (cI ia) 23) :: ((bif m 7 then l30 else []) ++ (bif m 13 then l36 else []))) w1)
            refine J.pr (fun hF => ?_)
            refine J.unguard rfl rfl rfl ?_
            refine J.loadA (vs := cI ib) Ty.a23 Ty.s23 rfl rfl (fun w1 hw => Cells.of_block (hw.own _ (.head _)) rfl) rfl ?_
            exact J.nil (JX.finB rfl (fun w1 hw => ⟨⟨⟨v30, l30, v36, l36⟩, rfl, fun _ _ _ => rfl, hF, hw⟩, trivial⟩))
          · skip
            obtain ⟨v30, l30, v36, l36⟩ := x
            show J _ _ _ _ _ ((24, .bool true) :: (28, v30) :: (29, .agg (cI ib).toArray) :: (28, v30) :: _) (fun w1 => ((m 7 = true → Vec 23 16 v30 (wantI ia ys half).length (fI (wantI ia ys half)) l30) ∧ (m 13 = true → Vec 23 16 v36 (wantI ib ys half).length (fI (wantI ib ys half)) l36)) ∧ St w [] ((b8, cb (cI ib) 23) :: (b6, cb (cI ia) 23) :: ((bif m 7 then l30 else []) ++ (bif m 13 then l36 else []))) w1)
            have hp7 : m 7 = true := predsT hp (by kernel_rfl)
            have hp7 : m 7 = true := predsT hp (by kernel_rfl)
            refine J.pr (fun hF => ?_)
            refine J.unguard rfl rfl rfl ?_
            refine J.callB (v := .bool (decide (ib ∈ wantI ia ys half))) (fun w1 w2 hw hb => hw.step hb) Ty.bd24 rfl rfl (fun w1 hw => has_spec v30 (wantI ia ys half) ib w1 ((hF.1 hp7).rowM hw (fun q hq => by simp [hp7, hq])) (by have := wantI_le ia ys half; omega)) ?_
            exact J.nil (JX.finB rfl (fun w1 hw => ⟨⟨⟨v30, l30, v36, l36⟩, rfl, fun _ _ _ => rfl, hF, hw⟩, trivial⟩))
          · skip
            obtain ⟨v30, l30, v36, l36⟩ := x
            show J _ _ _ _ _ ((24, .bool true) :: _) (fun w1 => ((m 7 = true → Vec 23 16 v30 (wantI ia ys half).length (fI (wantI ia ys half)) l30) ∧ (m 13 = true → Vec 23 16 v36 (wantI ib ys half).length (fI (wantI ib ys half)) l36)) ∧ St w [] ((b8, cb (cI ib) 23) :: (b6, cb (cI ia) 23) :: ((bif m 7 then l30 else []) ++ (bif m 13 then l36 else []))) w1)
            refine J.pr (fun hF => ?_)
            refine J.unguard rfl rfl rfl ?_
            refine J.loadA (vs := cI ib) Ty.a23 Ty.s23 rfl rfl (fun w1 hw => Cells.of_block (hw.own _ (.head _)) rfl) rfl ?_
            exact J.nil (JX.finB rfl (fun w1 hw => ⟨⟨⟨v30, l30, v36, l36⟩, rfl, fun _ _ _ => rfl, hF, hw⟩, trivial⟩))
          · skip
            obtain ⟨v30, l30, v36, l36⟩ := x
            show J _ _ _ _ _ ((24, .bool true) :: _) (fun w1 => ((m 7 = true → Vec 23 16 v30 (wantI ia ys half).length (fI (wantI ia ys half)) l30) ∧ (m 13 = true → Vec 23 16 v36 (wantI ib ys half).length (fI (wantI ib ys half)) l36)) ∧ St w [] ((b8, cb (cI ib) 23) :: (b6, cb (cI ia) 23) :: ((bif m 7 then l30 else []) ++ (bif m 13 then l36 else []))) w1)
            refine J.pr (fun hF => ?_)
            first
              | (refine J.skip rfl rfl rfl rfl rfl ?_)
              | (refine J.skipU rfl rfl rfl rfl ?_)
              | (refine J.unguard rfl rfl rfl ?_; refine J.move rfl rfl ?_)
            exact J.nil (JX.finB rfl (fun w1 hw => ⟨⟨⟨v30, l30, v36, l36⟩, rfl, fun _ _ _ => rfl, hF, hw⟩, trivial⟩))
          · skip
            obtain ⟨v30, l30, v36, l36⟩ := x
            show J _ _ _ _ _ ((24, .bool true) :: _) (fun w1 => ((m 7 = true → Vec 23 16 v30 (wantI ia ys half).length (fI (wantI ia ys half)) l30) ∧ (m 13 = true → Vec 23 16 v36 (wantI ib ys half).length (fI (wantI ib ys half)) l36)) ∧ St w [] ((b8, cb (cI ib) 23) :: (b6, cb (cI ia) 23) :: ((bif m 7 then l30 else []) ++ (bif m 13 then l36 else []))) w1)
            refine J.pr (fun hF => ?_)
            first
              | (refine J.skip rfl rfl rfl rfl rfl ?_)
              | (refine J.skipU rfl rfl rfl rfl ?_)
              | (refine J.unguard rfl rfl rfl ?_; refine J.move rfl rfl ?_)
            exact J.nil (JX.finB rfl (fun w1 hw => ⟨⟨⟨v30, l30, v36, l36⟩, rfl, fun _ _ _ => rfl, hF, hw⟩, trivial⟩))
          · skip
            obtain ⟨v30, l30, v36, l36⟩ := x
            show J _ _ _ _ _ ((24, .bool true) :: (30, .bool (decide (ib ∈ wantI ia ys half))) :: (33, .int .i64 half) :: (32, .slice (some ⟨q1, o1, none⟩) ys.length c2) :: (31, .agg (cI ib).toArray) :: _) (fun w1 => ((m 7 = true → Vec 23 16 v30 (wantI ia ys half).length (fI (wantI ia ys half)) l30) ∧ (m 13 = true → Vec 23 16 v36 (wantI ib ys half).length (fI (wantI ib ys half)) l36)) ∧ St w [] ((b8, cb (cI ib) 23) :: (b6, cb (cI ia) 23) :: ((bif m 7 then l30 else []) ++ (bif m 13 then l36 else []))) w1)
            refine J.pr (fun hF => ?_)
            refine J.unguard rfl rfl rfl ?_
            refine J.perm ([] ++ ((b8, cb (cI ib) 23) :: (b6, cb (cI ia) 23) :: ((bif m 7 then l30 else []) ++ (bif m 13 then l36 else [])))) (.refl _) ?_
            refine J.callS (α := Value × List (Nat × Obj)) (V := (·.1)) (Pr := fun x => Vec 23 16 x.1 (wantI ib ys half).length (fI (wantI ib ys half)) x.2) (L := (·.2)) (l1 := []) Ty.bd16 rfl rfl (fun w1 hw => want_spec ib _ ys half w1 (hr2.below (hw.drop (List.nil_sublist _)).below) (by omega)) (fun x hvn => ?_)
            obtain ⟨vn, ln⟩ := x
            simp only at hvn ⊢
            refine J.nil (JX.finB rfl (fun w1 hw => ⟨⟨⟨v30, l30, vn, ln⟩, rfl, fun j h1 h2 => ?_, ?_⟩, trivial⟩))
            · match j, h1 with
              | 0, _ => rfl
              | 1, _ => rfl
              | 2, _ => rfl
              | 3, _ => rfl
              | 4, _ => rfl
              | 5, _ => rfl
              | 6, _ => rfl
              | 7, _ => rfl
              | 8, _ => rfl
              | 9, _ => rfl
              | 10, _ => rfl
              | 11, _ => rfl
              | 12, _ => rfl
              | 13, _ => exact absurd (h2.symm.trans hm) (by decide)
              | 14, _ => rfl
              | 15, _ => rfl
              | 16, _ => rfl
              | 17, _ => rfl
              | j + 18, h1 => omega
            show ((m 7 = true → Vec 23 16 v30 (wantI ia ys half).length (fI (wantI ia ys half)) l30) ∧ (true = true → Vec 23 16 vn (wantI ib ys half).length (fI (wantI ib ys half)) ln)) ∧ St w [] ((b8, cb (cI ib) 23) :: (b6, cb (cI ia) 23) :: ((bif m 7 then l30 else []) ++ (bif true then ln else []))) w1
            simp only [hm, cond_true, cond_false] at hw ⊢
            exact ⟨⟨hF.1, fun _ => hvn⟩, hw.perm (by (refine perm_cnt (fun _ => ?_)); simp only [cntB_append, cntB_cons, cntB_nil, Nat.add_zero, Nat.zero_add]; try ac_rfl)⟩
          · skip
            obtain ⟨v30, l30, v36, l36⟩ := x
            show J _ _ _ _ _ ((24, .bool true) :: _) (fun w1 => ((m 7 = true → Vec 23 16 v30 (wantI ia ys half).length (fI (wantI ia ys half)) l30) ∧ (m 13 = true → Vec 23 16 v36 (wantI ib ys half).length (fI (wantI ib ys half)) l36)) ∧ St w [] ((b8, cb (cI ib) 23) :: (b6, cb (cI ia) 23) :: ((bif m 7 then l30 else []) ++ (bif m 13 then l36 else []))) w1)
            refine J.pr (fun hF => ?_)
            refine J.unguard rfl rfl rfl ?_
            refine J.loadA (vs := cI ia) Ty.a23 Ty.s23 rfl rfl (fun w1 hw => Cells.of_block (hw.own _ (.tail _ (.head _))) rfl) rfl ?_
            exact J.nil (JX.finB rfl (fun w1 hw => ⟨⟨⟨v30, l30, v36, l36⟩, rfl, fun _ _ _ => rfl, hF, hw⟩, trivial⟩))
          · skip
            obtain ⟨v30, l30, v36, l36⟩ := x
            show J _ _ _ _ _ ((24, .bool true) :: (34, v36) :: (35, .agg (cI ia).toArray) :: (34, v36) :: _) (fun w1 => ((m 7 = true → Vec 23 16 v30 (wantI ia ys half).length (fI (wantI ia ys half)) l30) ∧ (m 13 = true → Vec 23 16 v36 (wantI ib ys half).length (fI (wantI ib ys half)) l36)) ∧ St w [] ((b8, cb (cI ib) 23) :: (b6, cb (cI ia) 23) :: ((bif m 7 then l30 else []) ++ (bif m 13 then l36 else []))) w1)
            have hp13 : m 13 = true := predsT hp (by kernel_rfl)
            have hp13 : m 13 = true := predsT hp (by kernel_rfl)
            refine J.pr (fun hF => ?_)
            refine J.unguard rfl rfl rfl ?_
            refine J.callB (v := .bool (decide (ia ∈ wantI ib ys half))) (fun w1 w2 hw hb => hw.step hb) Ty.bd24 rfl rfl (fun w1 hw => has_spec v36 (wantI ib ys half) ia w1 ((hF.2 hp13).rowM hw (fun q hq => by simp [hp13, hq])) (by have := wantI_le ib ys half; omega)) ?_
            exact J.nil (JX.finB rfl (fun w1 hw => ⟨⟨⟨v30, l30, v36, l36⟩, rfl, fun _ _ _ => rfl, hF, hw⟩, trivial⟩))
          · skip
            obtain ⟨v30, l30, v36, l36⟩ := x
            show J _ _ _ _ _ ((24, .bool true) :: (36, .bool (decide (ia ∈ wantI ib ys half))) :: (30, .bool (decide (ib ∈ wantI ia ys half))) :: _) (fun w1 => ((m 7 = true → Vec 23 16 v30 (wantI ia ys half).length (fI (wantI ia ys half)) l30) ∧ (m 13 = true → Vec 23 16 v36 (wantI ib ys half).length (fI (wantI ib ys half)) l36)) ∧ St w [] ((b8, cb (cI ib) 23) :: (b6, cb (cI ia) 23) :: ((bif m 7 then l30 else []) ++ (bif m 13 then l36 else []))) w1)
            refine J.pr (fun hF => ?_)
            refine J.unguard rfl rfl rfl ?_
            refine J.eqBool (.inr rfl) Ty.u4 rfl rfl rfl ?_
            refine J.name 37 rfl (show _ = Value.bool false by
              have hmu := want_mutual (half := half) hxy (List.mem_of_getElem? hx) (List.mem_of_getElem? hy)
              simp [hmu]) ?_
            exact J.nil (JX.finB rfl (fun w1 hw => ⟨⟨⟨v30, l30, v36, l36⟩, rfl, fun _ _ _ => rfl, hF, hw⟩, trivial⟩))
          · skip
            obtain ⟨v30, l30, v36, l36⟩ := x
            show J _ _ _ _ _ ((37, .bool false) :: (24, .bool true) :: _) (fun w1 => ((m 7 = true → Vec 23 16 v30 (wantI ia ys half).length (fI (wantI ia ys half)) l30) ∧ (m 13 = true → Vec 23 16 v36 (wantI ib ys half).length (fI (wantI ib ys half)) l36)) ∧ St w [] ((b8, cb (cI ib) 23) :: (b6, cb (cI ia) 23) :: ((bif m 7 then l30 else []) ++ (bif m 13 then l36 else []))) w1)
            refine J.pr (fun hF => ?_)
            (first | refine J.pickT rfl rfl rfl ?_ | refine J.pickF rfl rfl rfl ?_)
            exact J.nil (JX.finB rfl (fun w1 hw => ⟨⟨⟨v30, l30, v36, l36⟩, rfl, fun _ _ _ => rfl, hF, hw⟩, trivial⟩))
        case htail =>
          intro x
          obtain ⟨v30, l30, v36, l36⟩ := x
          show J _ _ _ _ _ ((38, .bool false) :: (37, .bool false) :: (36, .bool (decide (ia ∈ wantI ib ys half))) :: (35, .agg (cI ia).toArray) :: (34, v36) :: (33, .int .i64 half) :: (32, .slice (some ⟨q1, o1, none⟩) ys.length c2) :: (31, .agg (cI ib).toArray) :: (30, .bool (decide (ib ∈ wantI ia ys half))) :: (29, .agg (cI ib).toArray) :: (28, v30) :: (27, .int .i64 half) :: (26, .slice (some ⟨q1, o1, none⟩) ys.length c2) :: (25, .agg (cI ia).toArray) :: (24, .bool true) :: (23, .bool true) :: (22, .agg (cI ib).toArray) :: (21, .agg (cI ia).toArray) :: _) (fun w1 => ((true = true → Vec 23 16 v30 (wantI ia ys half).length (fI (wantI ia ys half)) l30) ∧ (true = true → Vec 23 16 v36 (wantI ib ys half).length (fI (wantI ib ys half)) l36)) ∧ St w [] ((b8, cb (cI ib) 23) :: (b6, cb (cI ia) 23) :: ((bif true then l30 else []) ++ (bif true then l36 else []))) w1)
          refine J.pr (fun hF => ?_)
          refine J.conseq (I' := St w [] [(b8, cb (cI ib) 23), (b6, cb (cI ia) 23)]) ?_ (fun w1 hw => hw.drop (List.Sublist.cons_cons _ (List.Sublist.cons_cons _ (List.nil_sublist _))))
          refine J.nil ?_
          refine JX.thenN (hK12 _ _ ?_)
          first | refine JC.condF rfl ?_ | refine JC.cond rfl (fun h => by first | (exfalso; simp at h; omega) | (simp at h)) (fun _ => ?_)
          refine JC.skip ?_
          refine JX.blockN ?_
          refine JX.thenN (hK10 _ _ ?_)
          refine JC.region ?_
          (first | refine J.addN rfl rfl (by omega) (by omega) rfl ?_ | refine J.bin rfl rfl rfl rfl ?_)
          refine J.move rfl rfl ?_
          refine J.nil ?_
          refine JX.thenN ?_
          refine JX.again (j + 1) ?_ ?_ ?_
          · omega
          · exact ⟨rfl, rfl, rfl, rfl, rfl, rfl, rfl, rfl, rfl, trivial⟩
          · exact fun w1 hw => ⟨hlt2, hw.drop (List.sublist_cons_self _ _)⟩
    · skip
      have hge2 : j = ys.length := by simp at h1; omega
      refine JC.exit ?_
      refine JX.thenE ?_
      refine JX.thenE ?_
      refine JX.blockE ?_
      refine JX.blockN ?_
      refine JX.thenN (hK5 _ _ ?_)
      refine JC.region ?_
      (first | refine J.addN rfl rfl (by omega) (by omega) rfl ?_ | refine J.bin rfl rfl rfl rfl ?_)
      refine J.move rfl rfl ?_
      refine J.nil ?_
      refine JX.thenN ?_
      refine JX.again (i + 1) ?_ ?_ ?_
      · omega
      · exact ⟨rfl, rfl, rfl, rfl, rfl, trivial⟩
      · exact fun w1 hw => ⟨hlt, hw.drop (List.nil_sublist _)⟩
  · skip
    have hge : i = ys.length := by simp at h0; omega
    refine JC.exit ?_
    refine JX.thenE ?_
    refine JX.thenE ?_
    refine JX.blockE ?_
    refine JX.thenN (hK1 _ _ ?_)
    refine JC.seq (fun K13 hK13 => ?_)
    refine JC.region ?_
    refine J.assign rfl rfl ?_
    refine J.nil ?_
    refine JX.thenN (hK13 _ _ ?_)
    refine JC.ret ?_
    refine JX.ret1 rfl rfl (fun w hw => ?_)
    exact ⟨rfl, (hw.drop (List.nil_sublist _)).below⟩

set_option maxHeartbeats 4000000 in
theorem mutuals_spec (v : Value) (xs : List IDV) (half : Int) (w : World) (hr : Row w v xs.length (fI xs)) :
    Calls Try.prog 9 [v, .int .i64 half].toArray w fun r w' => r = .returned (.bool true) ∧ Bel w w' := by
  refine calls_of_J (args := [v, .int .i64 half]) (e := [(0, v), (1, .int .i64 half)]) Try.func9 rfl rfl ⟨rfl, rfl, trivial⟩ (St.start w) ?_
  refine JC.seq (fun K0 hK0 => ?_)
  refine JC.region ?_
  refine J.assign rfl rfl ?_
  refine J.nil ?_
  refine JX.thenN (hK0 _ _ ?_)
  refine JC.seq (fun K1 hK1 => ?_)
  refine JC.region ?_
  refine J.move rfl rfl ?_
  refine J.callB (v := cutV v (min xs.length 24)) (fun w1 w2 hw hb => hw.step hb) Ty.bd14 rfl rfl (fun w1 hw => cut_spec v xs 24 w1 (hr.below (hw.drop (List.nil_sublist _)).below)) ?_
  have hr2 := row_cut hr 24
  have hyl : (xs.take 24).length ≤ 24 := by rw [List.length_take]; omega
  generalize cutV v (min xs.length 24) = v2 at hr2 ⊢
  generalize xs.take 24 = ys at hr2 hyl ⊢
  obtain ⟨a2, c2, rfl, hc2, _⟩ := id hr2
  refine J.assign rfl rfl ?_
  refine J.nil ?_
  refine JX.thenN (hK1 _ _ ?_)
  refine JC.seq (fun K2 hK2 => ?_)
  refine JC.seq (fun K3 hK3 => ?_)
  refine JC.region ?_
  refine J.move rfl rfl ?_
  refine J.lenS rfl Ty.u24 rfl rfl ?_
  refine J.move rfl rfl ?_
  refine J.nil ?_
  refine JX.thenN (hK3 _ _ ?_)
  refine JC.block ?_
  refine JC.conseq (JC.cov (f := (fun i => [(0, .slice a2 ys.length c2), (1, .int .i64 half), (11, .slice a2 ys.length c2), (12, .int .i64 ((ys.length : Nat) : Int)), (13, .int .i64 ((i : Nat) : Int))]) 0) ⟨rfl, rfl, rfl, rfl, rfl, trivial⟩ (JC.loop (α := Nat) (fun i => [(0, .slice a2 ys.length c2), (1, .int .i64 half), (11, .slice a2 ys.length c2), (12, .int .i64 ((ys.length : Nat) : Int)), (13, .int .i64 ((i : Nat) : Int))]) (fun i w' => (i ≤ ys.length) ∧ St w [] [] w') (fun i => ys.length - i) 0 (fun i => ?_))) (fun w hw => ⟨Nat.zero_le _, hw⟩)
  refine JC.pr (fun hi => ?_)
  refine JC.seq (fun K4 hK4 => ?_)
  refine JC.region ?_
  refine J.bin rfl rfl rfl rfl ?_
  refine J.nil ?_
  refine JX.thenN (hK4 _ _ ?_)
  refine JC.seq (fun K5 hK5 => ?_)
  refine JC.cond rfl (fun h0 => ?_) (fun h0 => ?_)
  · skip
    have hlt : i < ys.length := by simp at h0; omega
    have hfys := fI_length ys
    have hcl := (Row.some hr2 (by omega))
    obtain ⟨q1, o1, c2', hqe, _, _⟩ := hcl
    simp only [Value.slice.injEq] at hqe
    obtain ⟨rfl, _, rfl⟩ := hqe
    obtain ⟨ia, hx⟩ : ∃ ia, ys[i]? = some ia := ⟨_, List.getElem?_eq_getElem hlt⟩
    refine JC.skip ?_
    refine JX.thenN (hK5 _ _ ?_)
    refine JC.seq (fun K6 hK6 => ?_)
    refine JC.block ?_
    refine JC.seq (fun K7 hK7 => ?_)
    refine JC.region ?_
    refine J.indexAddrS Ty.el24 Ty.s23 rfl rfl (by omega) (by omega) rfl ?_
    refine J.loadA (vs := cI ia) Ty.a23 Ty.s23 rfl rfl (fun w1 hw => rowF_at (hr2.below (hw.drop (List.nil_sublist _)).below) hx (by omega)) rfl ?_
    refine J.alloc Ty.zID rfl rfl (fun b6 => ?_)
    refine J.storeW (cs := cI zI) (vs := cI ia) Ty.s23 rfl rfl rfl rfl rfl (by simp [Value.oneCell']) .here ?_
    refine J.nil ?_
    refine JX.thenN (hK7 _ _ ?_)
    refine JC.seq (fun K8 hK8 => ?_)
    refine JC.region ?_
    refine J.move rfl rfl ?_
    refine J.lenS rfl Ty.u24 rfl rfl ?_
    refine J.move rfl rfl ?_
    refine J.nil ?_
    refine JX.thenN (hK8 _ _ ?_)
    refine JC.block ?_
    refine JC.conseq (JC.cov (f := (fun j => [(0, .slice (some ⟨q1, o1, none⟩) ys.length c2), (1, .int .i64 half), (11, .slice (some ⟨q1, o1, none⟩) ys.length c2), (12, .int .i64 ((ys.length : Nat) : Int)), (13, .int .i64 ((i : Nat) : Int)), (6, .pointer (some ⟨b6, 0, none⟩)), (17, .slice (some ⟨q1, o1, none⟩) ys.length c2), (18, .int .i64 ((ys.length : Nat) : Int)), (19, .int .i64 ((j : Nat) : Int))]) 0) ⟨rfl, rfl, rfl, rfl, rfl, rfl, rfl, rfl, rfl, trivial⟩ (JC.loop (α := Nat) (fun j => [(0, .slice (some ⟨q1, o1, none⟩) ys.length c2), (1, .int .i64 half), (11, .slice (some ⟨q1, o1, none⟩) ys.length c2), (12, .int .i64 ((ys.length : Nat) : Int)), (13, .int .i64 ((i : Nat) : Int)), (6, .pointer (some ⟨b6, 0, none⟩)), (17, .slice (some ⟨q1, o1, none⟩) ys.length c2), (18, .int .i64 ((ys.length : Nat) : Int)), (19, .int .i64 ((j : Nat) : Int))]) (fun j w' => (j ≤ ys.length) ∧ St w [] [(b6, cb (cI ia) 23)] w') (fun j => ys.length - j) 0 (fun j => ?_))) (fun w hw => ⟨Nat.zero_le _, hw⟩)
    refine JC.pr (fun hj => ?_)
    refine JC.seq (fun K9 hK9 => ?_)
    refine JC.region ?_
    refine J.bin rfl rfl rfl rfl ?_
    refine J.nil ?_
    refine JX.thenN (hK9 _ _ ?_)
    refine JC.seq (fun K10 hK10 => ?_)
    refine JC.cond rfl (fun h1 => ?_) (fun h1 => ?_)
    · skip
      have hlt2 : j < ys.length := by simp at h1; omega
      obtain ⟨ib, hy⟩ : ∃ ib, ys[j]? = some ib := ⟨_, List.getElem?_eq_getElem hlt2⟩
      refine JC.skip ?_
      refine JX.thenN (hK10 _ _ ?_)
      refine JC.seq (fun K11 hK11 => ?_)
      refine JC.block ?_
      refine JC.seq (fun K12 hK12 => ?_)
      refine JC.region ?_
      refine J.indexAddrS Ty.el24 Ty.s23 rfl rfl (by omega) (by omega) rfl ?_
      refine J.loadA (vs := cI ib) Ty.a23 Ty.s23 rfl rfl (fun w1 hw => rowF_at (hr2.below (hw.drop (List.nil_sublist _)).below) hy (by omega)) rfl ?_
      refine J.alloc Ty.zID rfl rfl (fun b8 => ?_)
      refine J.storeW (cs := cI zI) (vs := cI ib) Ty.s23 rfl rfl rfl rfl rfl (by simp [Value.oneCell']) .here ?_
      refine J.nil ?_
      refine JX.thenN (hK12 _ _ ?_)
      refine JC.seq (fun K13 hK13 => ?_)
      by_cases hxy : ia = ib
      · skip
        apply JC.drawL 18 [Eqv (.agg (cI ia).toArray), Eqv (.agg (cI ib).toArray), Eqv (.bool false), Eqv (.bool false), Eqv (undef), Eqv (undef), Eqv (undef), Eqv (undef), Eqv (undef), Eqv (undef), Eqv (undef), Eqv (undef), Eqv (undef), Eqv (undef), Eqv (undef), Eqv (undef), Eqv (undef), Eqv (.bool false)] Ty.mixed rfl rfl rfl (by kernel_rfl) rfl rfl (fun w w' hw hb => hw.step hb) ⟨fun _ _ _ h _ => h, fun _ _ _ h _ => h, fun _ _ _ h _ => h, fun _ _ _ h _ => h, fun _ _ _ h _ => h, fun _ _ _ h _ => h, fun _ _ _ h _ => h, fun _ _ _ h _ => h, fun _ _ _ h _ => h, fun _ _ _ h _ => h, fun _ _ _ h _ => h, fun _ _ _ h _ => h, fun _ _ _ h _ => h, fun _ _ _ h _ => h, fun _ _ _ h _ => h, fun _ _ _ h _ => h, fun _ _ _ h _ => h, fun _ _ _ h _ => h, trivial⟩ ?hstep ?htail
        case hstep =>
          refine ⟨fun wi => ?_, fun wi => ?_, fun wi => ?_, fun wi => ?_, fun wi => ?_, fun wi => ?_, fun wi => ?_, fun wi => ?_, fun wi => ?_, fun wi => ?_, fun wi => ?_, fun wi => ?_, fun wi => ?_, fun wi => ?_, fun wi => ?_, fun wi => ?_, fun wi => ?_, fun wi => ?_, trivial⟩
          · skip
            refine Fin.nil ?_
            refine J.loadA (vs := cI ia) Ty.a23 Ty.s23 rfl rfl (fun w1 hw => Cells.of_block (hw.2.own _ (.tail _ (.head _))) rfl) rfl ?_
            refine J.nil (JX.fin rfl (fun w hw => ⟨rfl, (by rw [hw.1]; exact Bel.refl _)⟩))
          · skip
            refine Fin.nil ?_
            refine J.loadA (vs := cI ib) Ty.a23 Ty.s23 rfl rfl (fun w1 hw => Cells.of_block (hw.2.own _ (.head _)) rfl) rfl ?_
            refine J.nil (JX.fin rfl (fun w hw => ⟨rfl, (by rw [hw.1]; exact Bel.refl _)⟩))
          · skip
            refine Fin.cons (fun v8_0 => ?_)
            refine Fin.cons (fun v8_1 => ?_)
            refine Fin.nil ?_
            refine J.prE (fun h => ?_); subst h
            refine J.prE (fun h => ?_); subst h
            refine J.neI Ty.QI Ty.keyI rfl rfl rfl ?_
            refine J.name 25 rfl (show _ = Value.bool false by simp [hxy]) ?_
            refine J.nil (JX.fin rfl (fun w hw => ⟨rfl, (by rw [hw.1]; exact Bel.refl _)⟩))
          · skip
            refine Fin.cons (fun v8_2 => ?_)
            refine Fin.nil ?_
            refine J.prE (fun h => ?_); subst h
            refine J.move rfl rfl ?_
            refine J.nil (JX.fin rfl (fun w hw => ⟨rfl, (by rw [hw.1]; exact Bel.refl _)⟩))
          · skip
            refine Fin.cons (fun v8_3 => ?_)
            refine Fin.nil ?_
            refine J.prE (fun h => ?_); subst h
            first
              | (refine J.skip rfl rfl rfl rfl rfl ?_)
              | (refine J.skipU rfl rfl rfl rfl ?_)
              | (refine J.unguard rfl rfl rfl ?_; (first | refine J.loadOA Ty.a23 Ty.s23 rfl (.head _) rfl rfl rfl ?_ | refine J.loadOA Ty.a23 Ty.s23 rfl (.tail _ (.head _)) rfl rfl rfl ?_ | refine J.loadOA Ty.a23 Ty.s23 rfl (.tail _ (.tail _ (.head _))) rfl rfl rfl ?_ | refine J.loadOA Ty.a23 Ty.s23 rfl (.tail _ (.tail _ (.tail _ (.head _)))) rfl rfl rfl ?_ | refine J.loadOA Ty.a23 Ty.s23 rfl (.tail _ (.tail _ (.tail _ (.tail _ (.head _))))) rfl rfl rfl ?_ | refine J.loadOA Ty.a23 Ty.s23 rfl (.tail _ (.tail _ (.tail _ (.tail _ (.tail _ (.head _)))))) rfl rfl rfl ?_ | refine J.loadOA Ty.a23 Ty.s23 rfl (.tail _ (.tail _ (.tail _ (.tail _ (.tail _ (.tail _ (.head _))))))) rfl rfl rfl ?_ | refine J.loadOA Ty.a23 Ty.s23 rfl (.tail _ (.tail _ (.tail _ (.tail _ (.tail _ (.tail _ (.tail _ (.head _)))))))) rfl rfl rfl ?_ | refine J.loadOA Ty.a23 Ty.s23 rfl (.tail _ (.tail _ (.tail _ (.tail _ (.tail _ (.tail _ (.tail _ (.tail _ (.head _))))))))) rfl rfl rfl ?_ | refine J.loadOA Ty.a23 Ty.s23 rfl (.tail _ (.tail _ (.tail _ (.tail _ (.tail _ (.tail _ (.tail _ (.tail _ (.tail _ (.head _)))))))))) rfl rfl rfl ?_ | refine J.loadOA Ty.a23 Ty.s23 rfl (.tail _ (.tail _ (.tail _ (.tail _ (.tail _ (.tail _ (.tail _ (.tail _ (.tail _ (.tail _ (.head _))))))))))) rfl rfl rfl ?_ | refine J.loadOA Ty.a23 Ty.s23 rfl (.tail _ (.tail _ (.tail _ (.tail _ (.tail _ (.tail _ (.tail _ (.tail _ (.tail _ (.tail _ (.tail _ (.head _)))))))))))) rfl rfl rfl ?_ | refine J.loadOA Ty.a23 Ty.s23 rfl (List.mem_append_right _ (.head _)) rfl rfl rfl ?_ | refine J.loadOA Ty.a23 Ty.s23 rfl (List.mem_append_right _ (.tail _ (.head _))) rfl rfl rfl ?_ | refine J.loadOA Ty.a23 Ty.s23 rfl (List.mem_append_right _ (.tail _ (.tail _ (.head _)))) rfl rfl rfl ?_ | refine J.loadOA Ty.a23 Ty.s23 rfl (List.mem_append_right _ (.tail _ (.tail _ (.tail _ (.head _))))) rfl rfl rfl ?_ | refine J.loadOA Ty.a23 Ty.s23 rfl (List.mem_append_right _ (.tail _ (.tail _ (.tail _ (.tail _ (.head _)))))) rfl rfl rfl ?_ | refine J.loadOA Ty.a23 Ty.s23 rfl (List.mem_append_right _ (.tail _ (.tail _ (.tail _ (.tail _ (.tail _ (.head _))))))) rfl rfl rfl ?_ | refine J.loadOA Ty.a23 Ty.s23 rfl (List.mem_append_right _ (.tail _ (.tail _ (.tail _ (.tail _ (.tail _ (.tail _ (.head _)))))))) rfl rfl rfl ?_ | refine J.loadOA Ty.a23 Ty.s23 rfl (List.mem_append_right _ (.tail _ (.tail _ (.tail _ (.tail _ (.tail _ (.tail _ (.tail _ (.head _))))))))) rfl rfl rfl ?_ | refine J.loadOA Ty.a23 Ty.s23 rfl (List.mem_append_right _ (.tail _ (.tail _ (.tail _ (.tail _ (.tail _ (.tail _ (.tail _ (.tail _ (.head _)))))))))) rfl rfl rfl ?_ | refine J.loadOA Ty.a23 Ty.s23 rfl (List.mem_append_right _ (.tail _ (.tail _ (.tail _ (.tail _ (.tail _ (.tail _ (.tail _ (.tail _ (.tail _ (.head _))))))))))) rfl rfl rfl ?_ | refine J.loadOA Ty.a23 Ty.s23 rfl (List.mem_append_right _ (.tail _ (.tail _ (.tail _ (.tail _ (.tail _ (.tail _ (.tail _ (.tail _ (.tail _ (.tail _ (.head _)))))))))))) rfl rfl rfl ?_ | refine J.loadOA Ty.a23 Ty.s23 rfl (List.mem_append_right _ (.tail _ (.tail _ (.tail _ (.tail _ (.tail _ (.tail _ (.tail _ (.tail _ (.tail _ (.tail _ (.tail _ (.head _))))))))))))) rfl rfl rfl ?_))
            refine J.nil (JX.fin rfl (fun w hw => ⟨rfl, (by rw [hw.1]; exact Bel.refl _)⟩))
          · skip
            refine Fin.cons (fun v8_3 => ?_)
            refine Fin.nil ?_
            refine J.prE (fun h => ?_); subst h
            first
              | (refine J.skip rfl rfl rfl rfl rfl ?_)
              | (refine J.skipU rfl rfl rfl rfl ?_)
              | (refine J.unguard rfl rfl rfl ?_; refine J.move rfl rfl ?_)
            refine J.nil (JX.fin rfl (fun w hw => ⟨rfl, (by rw [hw.1]; exact Bel.refl _)⟩))
          · skip
            refine Fin.cons (fun v8_3 => ?_)
            refine Fin.nil ?_
            refine J.prE (fun h => ?_); subst h
            first
              | (refine J.skip rfl rfl rfl rfl rfl ?_)
              | (refine J.skipU rfl rfl rfl rfl ?_)
              | (refine J.unguard rfl rfl rfl ?_; refine J.move rfl rfl ?_)
            refine J.nil (JX.fin rfl (fun w hw => ⟨rfl, (by rw [hw.1]; exact Bel.refl _)⟩))
          · skip
            refine Fin.cons (fun v8_4 => ?_)
            refine Fin.cons (fun v8_5 => ?_)
            refine Fin.cons (fun v8_6 => ?_)
            refine Fin.cons (fun v8_3 => ?_)
            refine Fin.cons (fun v8_3 => ?_)
            refine Fin.nil ?_
            refine J.prE (fun h => ?_); subst h
            refine J.prE (fun h => ?_); subst h
            refine J.prE (fun h => ?_); subst h
            refine J.prE (fun h => ?_); subst h
            refine J.prE (fun h => ?_); subst h
            first
              | (refine J.skip rfl rfl rfl rfl rfl ?_)
              | (refine J.skipU rfl rfl rfl rfl ?_)
              | (refine J.unguard rfl rfl rfl ?_; fail)
            refine J.nil (JX.fin rfl (fun w hw => ⟨rfl, (by rw [hw.1]; exact Bel.refl _)⟩))
          · skip
            refine Fin.cons (fun v8_3 => ?_)
            refine Fin.nil ?_
            refine J.prE (fun h => ?_); subst h
            first
              | (refine J.skip rfl rfl rfl rfl rfl ?_)
              | (refine J.skipU rfl rfl rfl rfl ?_)
              | (refine J.unguard rfl rfl rfl ?_; (first | refine J.loadOA Ty.a23 Ty.s23 rfl (.head _) rfl rfl rfl ?_ | refine J.loadOA Ty.a23 Ty.s23 rfl (.tail _ (.head _)) rfl rfl rfl ?_ | refine J.loadOA Ty.a23 Ty.s23 rfl (.tail _ (.tail _ (.head _))) rfl rfl rfl ?_ | refine J.loadOA Ty.a23 Ty.s23 rfl (.tail _ (.tail _ (.tail _ (.head _)))) rfl rfl rfl ?_ | refine J.loadOA Ty.a23 Ty.s23 rfl (.tail _ (.tail _ (.tail _ (.tail _ (.head _))))) rfl rfl rfl ?_ | refine J.loadOA Ty.a23 Ty.s23 rfl (.tail _ (.tail _ (.tail _ (.tail _ (.tail _ (.head _)))))) rfl rfl rfl ?_ | refine J.loadOA Ty.a23 Ty.s23 rfl (.tail _ (.tail _ (.tail _ (.tail _ (.tail _ (.tail _ (.head _))))))) rfl rfl rfl ?_ | refine J.loadOA Ty.a23 Ty.s23 rfl (.tail _ (.tail _ (.tail _ (.tail _ (.tail _ (.tail _ (.tail _ (.head _)))))))) rfl rfl rfl ?_ | refine J.loadOA Ty.a23 Ty.s23 rfl (.tail _ (.tail _ (.tail _ (.tail _ (.tail _ (.tail _ (.tail _ (.tail _ (.head _))))))))) rfl rfl rfl ?_ | refine J.loadOA Ty.a23 Ty.s23 rfl (.tail _ (.tail _ (.tail _ (.tail _ (.tail _ (.tail _ (.tail _ (.tail _ (.tail _ (.head _)))))))))) rfl rfl rfl ?_ | refine J.loadOA Ty.a23 Ty.s23 rfl (.tail _ (.tail _ (.tail _ (.tail _ (.tail _ (.tail _ (.tail _ (.tail _ (.tail _ (.tail _ (.head _))))))))))) rfl rfl rfl ?_ | refine J.loadOA Ty.a23 Ty.s23 rfl (.tail _ (.tail _ (.tail _ (.tail _ (.tail _ (.tail _ (.tail _ (.tail _ (.tail _ (.tail _ (.tail _ (.head _)))))))))))) rfl rfl rfl ?_ | refine J.loadOA Ty.a23 Ty.s23 rfl (List.mem_append_right _ (.head _)) rfl rfl rfl ?_ | refine J.loadOA Ty.a23 Ty.s23 rfl (List.mem_append_right _ (.tail _ (.head _))) rfl rfl rfl ?_ | refine J.loadOA Ty.a23 Ty.s23 rfl (List.mem_append_right _ (.tail _ (.tail _ (.head _)))) rfl rfl rfl ?_ | refine J.loadOA Ty.a23 Ty.s23 rfl (List.mem_append_right _ (.tail _ (.tail _ (.tail _ (.head _))))) rfl rfl rfl ?_ | refine J.loadOA Ty.a23 Ty.s23 rfl (List.mem_append_right _ (.tail _ (.tail _ (.tail _ (.tail _ (.head _)))))) rfl rfl rfl ?_ | refine J.loadOA Ty.a23 Ty.s23 rfl (List.mem_append_right _ (.tail _ (.tail _ (.tail _ (.tail _ (.tail _ (.head _))))))) rfl rfl rfl ?_ | refine J.loadOA Ty.a23 Ty.s23 rfl (List.mem_append_right _ (.tail _ (.tail _ (.tail _ (.tail _ (.tail _ (.tail _ (.head _)))))))) rfl rfl rfl ?_ | refine J.loadOA Ty.a23 Ty.s23 rfl (List.mem_append_right _ (.tail _ (.tail _ (.tail _ (.tail _ (.tail _ (.tail _ (.tail _ (.head _))))))))) rfl rfl rfl ?_ | refine J.loadOA Ty.a23 Ty.s23 rfl (List.mem_append_right _ (.tail _ (.tail _ (.tail _ (.tail _ (.tail _ (.tail _ (.tail _ (.tail _ (.head _)))))))))) rfl rfl rfl ?_ | refine J.loadOA Ty.a23 Ty.s23 rfl (List.mem_append_right _ (.tail _ (.tail _ (.tail _ (.tail _ (.tail _ (.tail _ (.tail _ (.tail _ (.tail _ (.head _))))))))))) rfl rfl rfl ?_ | refine J.loadOA Ty.a23 Ty.s23 rfl (List.mem_append_right _ (.tail _ (.tail _ (.tail _ (.tail _ (.tail _ (.tail _ (.tail _ (.tail _ (.tail _ (.tail _ (.head _)))))))))))) rfl rfl rfl ?_ | refine J.loadOA Ty.a23 Ty.s23 rfl (List.mem_append_right _ (.tail _ (.tail _ (.tail _ (.tail _ (.tail _ (.tail _ (.tail _ (.tail _ (.tail _ (.tail _ (.tail _ (.head _))))))))))))) rfl rfl rfl ?_))
            refine J.nil (JX.fin rfl (fun w hw => ⟨rfl, (by rw [hw.1]; exact Bel.refl _)⟩))
          · skip
            refine Fin.cons (fun v8_7 => ?_)
            refine Fin.cons (fun v8_8 => ?_)
            refine Fin.cons (fun v8_7 => ?_)
            refine Fin.cons (fun v8_3 => ?_)
            refine Fin.nil ?_
            refine J.prE (fun h => ?_); subst h
            refine J.prE (fun h => ?_); subst h
            refine J.prE (fun h => ?_); subst h
            refine J.prE (fun h => ?_); subst h
            first
              | (refine J.skip rfl rfl rfl rfl rfl ?_)
              | (refine J.skipU rfl rfl rfl rfl ?_)
              | (refine J.unguard rfl rfl rfl ?_; fail)
            refine J.nil (JX.fin rfl (fun w hw => ⟨rfl, (by rw [hw.1]; exact Bel.refl _)⟩))
          · skip
            refine Fin.cons (fun v8_3 => ?_)
            refine Fin.nil ?_
            refine J.prE (fun h => ?_); subst h
            first
              | (refine J.skip rfl rfl rfl rfl rfl ?_)
              | (refine J.skipU rfl rfl rfl rfl ?_)
              | (refine J.unguard rfl rfl rfl ?_; (first | refine J.loadOA Ty.a23 Ty.s23 rfl (.head _) rfl rfl rfl ?_ | refine J.loadOA Ty.a23 Ty.s23 rfl (.tail _ (.head _)) rfl rfl rfl ?_ | refine J.loadOA Ty.a23 Ty.s23 rfl (.tail _ (.tail _ (.head _))) rfl rfl rfl ?_ | refine J.loadOA Ty.a23 Ty.s23 rfl (.tail _ (.tail _ (.tail _ (.head _)))) rfl rfl rfl ?_ | refine J.loadOA Ty.a23 Ty.s23 rfl (.tail _ (.tail _ (.tail _ (.tail _ (.head _))))) rfl rfl rfl ?_ | refine J.loadOA Ty.a23 Ty.s23 rfl (.tail _ (.tail _ (.tail _ (.tail _ (.tail _ (.head _)))))) rfl rfl rfl ?_ | refine J.loadOA Ty.a23 Ty.s23 rfl (.tail _ (.tail _ (.tail _ (.tail _ (.tail _ (.tail _ (.head _))))))) rfl rfl rfl ?_ | refine J.loadOA Ty.a23 Ty.s23 rfl (.tail _ (.tail _ (.tail _ (.tail _ (.tail _ (.tail _ (.tail _ (.head _)))))))) rfl rfl rfl ?_ | refine J.loadOA Ty.a23 Ty.s23 rfl (.tail _ (.tail _ (.tail _ (.tail _ (.tail _ (.tail _ (.tail _ (.tail _ (.head _))))))))) rfl rfl rfl ?_ | refine J.loadOA Ty.a23 Ty.s23 rfl (.tail _ (.tail _ (.tail _ (.tail _ (.tail _ (.tail _ (.tail _ (.tail _ (.tail _ (.head _)))))))))) rfl rfl rfl ?_ | refine J.loadOA Ty.a23 Ty.s23 rfl (.tail _ (.tail _ (.tail _ (.tail _ (.tail _ (.tail _ (.tail _ (.tail _ (.tail _ (.tail _ (.head _))))))))))) rfl rfl rfl ?_ | refine J.loadOA Ty.a23 Ty.s23 rfl (.tail _ (.tail _ (.tail _ (.tail _ (.tail _ (.tail _ (.tail _ (.tail _ (.tail _ (.tail _ (.tail _ (.head _)))))))))))) rfl rfl rfl ?_ | refine J.loadOA Ty.a23 Ty.s23 rfl (List.mem_append_right _ (.head _)) rfl rfl rfl ?_ | refine J.loadOA Ty.a23 Ty.s23 rfl (List.mem_append_right _ (.tail _ (.head _))) rfl rfl rfl ?_ | refine J.loadOA Ty.a23 Ty.s23 rfl (List.mem_append_right _ (.tail _ (.tail _ (.head _)))) rfl rfl rfl ?_ | refine J.loadOA Ty.a23 Ty.s23 rfl (List.mem_append_right _ (.tail _ (.tail _ (.tail _ (.head _))))) rfl rfl rfl ?_ | refine J.loadOA Ty.a23 Ty.s23 rfl (List.mem_append_right _ (.tail _ (.tail _ (.tail _ (.tail _ (.head _)))))) rfl rfl rfl ?_ | refine J.loadOA Ty.a23 Ty.s23 rfl (List.mem_append_right _ (.tail _ (.tail _ (.tail _ (.tail _ (.tail _ (.head _))))))) rfl rfl rfl ?_ | refine J.loadOA Ty.a23 Ty.s23 rfl (List.mem_append_right _ (.tail _ (.tail _ (.tail _ (.tail _ (.tail _ (.tail _ (.head _)))))))) rfl rfl rfl ?_ | refine J.loadOA Ty.a23 Ty.s23 rfl (List.mem_append_right _ (.tail _ (.tail _ (.tail _ (.tail _ (.tail _ (.tail _ (.tail _ (.head _))))))))) rfl rfl rfl ?_ | refine J.loadOA Ty.a23 Ty.s23 rfl (List.mem_append_right _ (.tail _ (.tail _ (.tail _ (.tail _ (.tail _ (.tail _ (.tail _ (.tail _ (.head _)))))))))) rfl rfl rfl ?_ | refine J.loadOA Ty.a23 Ty.s23 rfl (List.mem_append_right _ (.tail _ (.tail _ (.tail _ (.tail _ (.tail _ (.tail _ (.tail _ (.tail _ (.tail _ (.head _))))))))))) rfl rfl rfl ?_ | refine J.loadOA Ty.a23 Ty.s23 rfl (List.mem_append_right _ (.tail _ (.tail _ (.tail _ (.tail _ (.tail _ (.tail _ (.tail _ (.tail _ (.tail _ (.tail _ (.head _)))))))))))) rfl rfl rfl ?_ | refine J.loadOA Ty.a23 Ty.s23 rfl (List.mem_append_right _ (.tail _ (.tail _ (.tail _ (.tail _ (.tail _ (.tail _ (.tail _ (.tail _ (.tail _ (.tail _ (.tail _ (.head _))))))))))))) rfl rfl rfl ?_))
            refine J.nil (JX.fin rfl (fun w hw => ⟨rfl, (by rw [hw.1]; exact Bel.refl _)⟩))
          · skip
            refine Fin.cons (fun v8_3 => ?_)
            refine Fin.nil ?_
            refine J.prE (fun h => ?_); subst h
            first
              | (refine J.skip rfl rfl rfl rfl rfl ?_)
              | (refine J.skipU rfl rfl rfl rfl ?_)
              | (refine J.unguard rfl rfl rfl ?_; refine J.move rfl rfl ?_)
            refine J.nil (JX.fin rfl (fun w hw => ⟨rfl, (by rw [hw.1]; exact Bel.refl _)⟩))
          · skip
            refine Fin.cons (fun v8_3 => ?_)
            refine Fin.nil ?_
            refine J.prE (fun h => ?_); subst h
            first
              | (refine J.skip rfl rfl rfl rfl rfl ?_)
              | (refine J.skipU rfl rfl rfl rfl ?_)
              | (refine J.unguard rfl rfl rfl ?_; refine J.move rfl rfl ?_)
            refine J.nil (JX.fin rfl (fun w hw => ⟨rfl, (by rw [hw.1]; exact Bel.refl _)⟩))
          · skip
            refine Fin.cons (fun v8_10 => ?_)
            refine Fin.cons (fun v8_11 => ?_)
            refine Fin.cons (fun v8_12 => ?_)
            refine Fin.cons (fun v8_9 => ?_)
            refine Fin.cons (fun v8_3 => ?_)
            refine Fin.nil ?_
            refine J.prE (fun h => ?_); subst h
            refine J.prE (fun h => ?_); subst h
            refine J.prE (fun h => ?_); subst h
            refine J.prE (fun h => ?_); subst h
            refine J.prE (fun h => ?_); subst h
            first
              | (refine J.skip rfl rfl rfl rfl rfl ?_)
              | (refine J.skipU rfl rfl rfl rfl ?_)
              | (refine J.unguard rfl rfl rfl ?_; fail)
            refine J.nil (JX.fin rfl (fun w hw => ⟨rfl, (by rw [hw.1]; exact Bel.refl _)⟩))
          · skip
            refine Fin.cons (fun v8_3 => ?_)
            refine Fin.nil ?_
            refine J.prE (fun h => ?_); subst h
            first
              | (refine J.skip rfl rfl rfl rfl rfl ?_)
              | (refine J.skipU rfl rfl rfl rfl ?_)
              | (refine J.unguard rfl rfl rfl ?_; (first | refine J.loadOA Ty.a23 Ty.s23 rfl (.head _) rfl rfl rfl ?_ | refine J.loadOA Ty.a23 Ty.s23 rfl (.tail _ (.head _)) rfl rfl rfl ?_ | refine J.loadOA Ty.a23 Ty.s23 rfl (.tail _ (.tail _ (.head _))) rfl rfl rfl ?_ | refine J.loadOA Ty.a23 Ty.s23 rfl (.tail _ (.tail _ (.tail _ (.head _)))) rfl rfl rfl ?_ | refine J.loadOA Ty.a23 Ty.s23 rfl (.tail _ (.tail _ (.tail _ (.tail _ (.head _))))) rfl rfl rfl ?_ | refine J.loadOA Ty.a23 Ty.s23 rfl (.tail _ (.tail _ (.tail _ (.tail _ (.tail _ (.head _)))))) rfl rfl rfl ?_ | refine J.loadOA Ty.a23 Ty.s23 rfl (.tail _ (.tail _ (.tail _ (.tail _ (.tail _ (.tail _ (.head _))))))) rfl rfl rfl ?_ | refine J.loadOA Ty.a23 Ty.s23 rfl (.tail _ (.tail _ (.tail _ (.tail _ (.tail _ (.tail _ (.tail _ (.head _)))))))) rfl rfl rfl ?_ | refine J.loadOA Ty.a23 Ty.s23 rfl (.tail _ (.tail _ (.tail _ (.tail _ (.tail _ (.tail _ (.tail _ (.tail _ (.head _))))))))) rfl rfl rfl ?_ | refine J.loadOA Ty.a23 Ty.s23 rfl (.tail _ (.tail _ (.tail _ (.tail _ (.tail _ (.tail _ (.tail _ (.tail _ (.tail _ (.head _)))))))))) rfl rfl rfl ?_ | refine J.loadOA Ty.a23 Ty.s23 rfl (.tail _ (.tail _ (.tail _ (.tail _ (.tail _ (.tail _ (.tail _ (.tail _ (.tail _ (.tail _ (.head _))))))))))) rfl rfl rfl ?_ | refine J.loadOA Ty.a23 Ty.s23 rfl (.tail _ (.tail _ (.tail _ (.tail _ (.tail _ (.tail _ (.tail _ (.tail _ (.tail _ (.tail _ (.tail _ (.head _)))))))))))) rfl rfl rfl ?_ | refine J.loadOA Ty.a23 Ty.s23 rfl (List.mem_append_right _ (.head _)) rfl rfl rfl ?_ | refine J.loadOA Ty.a23 Ty.s23 rfl (List.mem_append_right _ (.tail _ (.head _))) rfl rfl rfl ?_ | refine J.loadOA Ty.a23 Ty.s23 rfl (List.mem_append_right _ (.tail _ (.tail _ (.head _)))) rfl rfl rfl ?_ | refine J.loadOA Ty.a23 Ty.s23 rfl (List.mem_append_right _ (.tail _ (.tail _ (.tail _ (.head _))))) rfl rfl rfl ?_ | refine J.loadOA Ty.a23 Ty.s23 rfl (List.mem_append_right _ (.tail _ (.tail _ (.tail _ (.tail _ (.head _)))))) rfl rfl rfl ?_ | refine J.loadOA Ty.a23 Ty.s23 rfl (List.mem_append_right _ (.tail _ (.tail _ (.tail _ (.tail _ (.tail _ (.head _))))))) rfl rfl rfl ?_ | refine J.loadOA Ty.a23 Ty.s23 rfl (List.mem_append_right _ (.tail _ (.tail _ (.tail _ (.tail _ (.tail _ (.tail _ (.head _)))))))) rfl rfl rfl ?_ | refine J.loadOA Ty.a23 Ty.s23 rfl (List.mem_append_right _ (.tail _ (.tail _ (.tail _ (.tail _ (.tail _ (.tail _ (.tail _ (.head _))))))))) rfl rfl rfl ?_ | refine J.loadOA Ty.a23 Ty.s23 rfl (List.mem_append_right _ (.tail _ (.tail _ (.tail _ (.tail _ (.tail _ (.tail _ (.tail _ (.tail _ (.head _)))))))))) rfl rfl rfl ?_ | refine J.loadOA Ty.a23 Ty.s23 rfl (List.mem_append_right _ (.tail _ (.tail _ (.tail _ (.tail _ (.tail _ (.tail _ (.tail _ (.tail _ (.tail _ (.head _))))))))))) rfl rfl rfl ?_ | refine J.loadOA Ty.a23 Ty.s23 rfl (List.mem_append_right _ (.tail _ (.tail _ (.tail _ (.tail _ (.tail _ (.tail _ (.tail _ (.tail _ (.tail _ (.tail _ (.head _)))))))))))) rfl rfl rfl ?_ | refine J.loadOA Ty.a23 Ty.s23 rfl (List.mem_append_right _ (.tail _ (.tail _ (.tail _ (.tail _ (.tail _ (.tail _ (.tail _ (.tail _ (.tail _ (.tail _ (.tail _ (.head _))))))))))))) rfl rfl rfl ?_))
            refine J.nil (JX.fin rfl (fun w hw => ⟨rfl, (by rw [hw.1]; exact Bel.refl _)⟩))
          · skip
            refine Fin.cons (fun v8_13 => ?_)
            refine Fin.cons (fun v8_14 => ?_)
            refine Fin.cons (fun v8_13 => ?_)
            refine Fin.cons (fun v8_3 => ?_)
            refine Fin.nil ?_
            refine J.prE (fun h => ?_); subst h
            refine J.prE (fun h => ?_); subst h
            refine J.prE (fun h => ?_); subst h
            refine J.prE (fun h => ?_); subst h
            first
              | (refine J.skip rfl rfl rfl rfl rfl ?_)
              | (refine J.skipU rfl rfl rfl rfl ?_)
              | (refine J.unguard rfl rfl rfl ?_; fail)
            refine J.nil (JX.fin rfl (fun w hw => ⟨rfl, (by rw [hw.1]; exact Bel.refl _)⟩))
          · skip
            refine Fin.cons (fun v8_9 => ?_)
            refine Fin.cons (fun v8_15 => ?_)
            refine Fin.cons (fun v8_3 => ?_)
            refine Fin.nil ?_
            refine J.prE (fun h => ?_); subst h
            refine J.prE (fun h => ?_); subst h
            refine J.prE (fun h => ?_); subst h
            first
              | (refine J.skip rfl rfl rfl rfl rfl ?_)
              | (refine J.skipU rfl rfl rfl rfl ?_)
              | (refine J.unguard rfl rfl rfl ?_; refine J.eqBool (.inr rfl) Ty.u4 rfl rfl rfl ?_)
            refine J.nil (JX.fin rfl (fun w hw => ⟨rfl, (by rw [hw.1]; exact Bel.refl _)⟩))
          · skip
            refine Fin.cons (fun v8_3 => ?_)
            refine Fin.cons (fun v8_16 => ?_)
            refine Fin.nil ?_
            refine J.prE (fun h => ?_); subst h
            refine J.prE (fun h => ?_); subst h
            (first | refine J.pickT rfl rfl rfl ?_ | refine J.pickF rfl rfl rfl ?_)
            refine J.nil (JX.fin rfl (fun w hw => ⟨rfl, (by rw [hw.1]; exact Bel.refl _)⟩))
        case htail =>
          refine Fin.cons (fun v8_0 => ?_)
          refine Fin.cons (fun v8_1 => ?_)
          refine Fin.cons (fun v8_2 => ?_)
          refine Fin.cons (fun v8_3 => ?_)
          refine Fin.cons (fun v8_4 => ?_)
          refine Fin.cons (fun v8_5 => ?_)
          refine Fin.cons (fun v8_6 => ?_)
          refine Fin.cons (fun v8_7 => ?_)
          refine Fin.cons (fun v8_8 => ?_)
          refine Fin.cons (fun v8_9 => ?_)
          refine Fin.cons (fun v8_10 => ?_)
          refine Fin.cons (fun v8_11 => ?_)
          refine Fin.cons (fun v8_12 => ?_)
          refine Fin.cons (fun v8_13 => ?_)
          refine Fin.cons (fun v8_14 => ?_)
          refine Fin.cons (fun v8_15 => ?_)
          refine Fin.cons (fun v8_16 => ?_)
          refine Fin.cons (fun v8_17 => ?_)
          refine Fin.nil ?_
          refine J.prE (fun h => ?_); subst h
          refine J.prE (fun h => ?_); subst h
          refine J.prE (fun h => ?_); subst h
          refine J.prE (fun h => ?_); subst h
          refine J.prE (fun h => ?_); subst h
          refine J.prE (fun h => ?_); subst h
          refine J.prE (fun h => ?_); subst h
          refine J.prE (fun h => ?_); subst h
          refine J.prE (fun h => ?_); subst h
          refine J.prE (fun h => ?_); subst h
          refine J.prE (fun h => ?_); subst h
          refine J.prE (fun h => ?_); subst h
          refine J.prE (fun h => ?_); subst h
          refine J.prE (fun h => ?_); subst h
          refine J.prE (fun h => ?_); subst h
          refine J.prE (fun h => ?_); subst h
          refine J.prE (fun h => ?_); subst h
          refine J.prE (fun h => ?_); subst h
          refine J.nil ?_
          refine JX.thenN (hK13 _ _ ?_)
          first | refine JC.condF rfl ?_ | refine JC.cond rfl (fun h => by first | (exfalso; simp at h; omega) | (simp at h)) (fun _ => ?_)
          refine JC.skip ?_
          refine JX.blockN ?_
          refine JX.thenN (hK11 _ _ ?_)
          refine JC.region ?_
          (first | refine J.addN rfl rfl (by omega) (by omega) rfl ?_ | refine J.bin rfl rfl rfl rfl ?_)
          refine J.move rfl rfl ?_
          refine J.nil ?_
          refine JX.thenN ?_
          refine JX.again (j + 1) ?_ ?_ ?_
          · omega
          · exact ⟨rfl, rfl, rfl, rfl, rfl, rfl, rfl, rfl, rfl, trivial⟩
          · exact fun w1 hw => ⟨hlt2, hw.drop (List.sublist_cons_self _ _)⟩
      · skip
        apply JC.drawX (α := Value × List (Nat × Obj) × Value × List (Nat × Obj)) 18 (fun x => match x with | ⟨v30, l30, v36, l36⟩ => [.agg (cI ia).toArray, .agg (cI ib).toArray, .bool true, .bool true, .agg (cI ia).toArray, .slice (some ⟨q1, o1, none⟩) ys.length c2, .int .i64 half, v30, .agg (cI ib).toArray, .bool (decide (ib ∈ wantI ia ys half)), .agg (cI ib).toArray, .slice (some ⟨q1, o1, none⟩) ys.length c2, .int .i64 half, v36, .agg (cI ia).toArray, .bool (decide (ia ∈ wantI ib ys half)), .bool false, .bool false]) (fun m x => match x with | ⟨v30, l30, v36, l36⟩ => fun w1 => ((m 7 = true → Vec 23 16 v30 (wantI ia ys half).length (fI (wantI ia ys half)) l30) ∧ (m 13 = true → Vec 23 16 v36 (wantI ib ys half).length (fI (wantI ib ys half)) l36)) ∧ St w [] ((b8, cb (cI ib) 23) :: (b6, cb (cI ia) 23) :: ((bif m 7 then l30 else []) ++ (bif m 13 then l36 else []))) w1) Ty.mixed rfl rfl rfl (by kernel_rfl) rfl rfl ?hinit ?hstep ?htail
        case hinit => exact fun w1 hw => ⟨(.slice none 0 0, [], .slice none 0 0, []), ⟨fun h => (by cases h), fun h => (by cases h)⟩, hw.drew⟩
        case hstep =>
          refine ⟨fun m x hm hp => ?_, fun m x hm hp => ?_, fun m x hm hp => ?_, fun m x hm hp => ?_, fun m x hm hp => ?_, fun m x hm hp => ?_, fun m x hm hp => ?_, fun m x hm hp => ?_, fun m x hm hp => ?_, fun m x hm hp => ?_, fun m x hm hp => ?_, fun m x hm hp => ?_, fun m x hm hp => ?_, fun m x hm hp => ?_, fun m x hm hp => ?_, fun m x hm hp => ?_, fun m x hm hp => ?_, fun m x hm hp => ?_, trivial⟩
          · skip
            obtain ⟨v30, l30, v36, l36⟩ := x
            show J _ _ _ _ _ (_) (fun w1 => ((m 7 = true → Vec 23 16 v30 (wantI ia ys half).length (fI (wantI ia ys half)) l30) ∧ (m 13 = true → Vec 23 16 v36 (wantI ib ys half).length (fI (wantI ib ys half)) l36)) ∧ St w [] ((b8, cb (cI ib) 23) :: (b6, cb (cI ia) 23) :: ((bif m 7 then l30 else []) ++ (bif m 13 then l36 else []))) w1)
            refine J.pr (fun hF => ?_)
            refine J.loadA (vs := cI ia) Ty.a23 Ty.s23 rfl rfl (fun w1 hw => Cells.of_block (hw.own _ (.tail _ (.head _))) rfl) rfl ?_
            exact J.nil (JX.finB rfl (fun w1 hw => ⟨⟨⟨v30, l30, v36, l36⟩, rfl, fun _ _ _ => rfl, hF, hw⟩, trivial⟩))
          · skip
            obtain ⟨v30, l30, v36, l36⟩ := x
            show J _ _ _ _ _ (_) (fun w1 => ((m 7 = true → Vec 23 16 v30 (wantI ia ys half).length (fI (wantI ia ys half)) l30) ∧ (m 13 = true → Vec 23 16 v36 (wantI ib ys half).length (fI (wantI ib ys half)) l36)) ∧ St w [] ((b8, cb (cI ib) 23) :: (b6, cb (cI ia) 23) :: ((bif m 7 then l30 else []) ++ (bif m 13 then l36 else []))) w1)
            refine J.pr (fun hF => ?_)
            refine J.loadA (vs := cI ib) Ty.a23 Ty.s23 rfl rfl (fun w1 hw => Cells.of_block (hw.own _ (.head _)) rfl) rfl ?_
            exact J.nil (JX.finB rfl (fun w1 hw => ⟨⟨⟨v30, l30, v36, l36⟩, rfl, fun _ _ _ => rfl, hF, hw⟩, trivial⟩))
          · skip
            obtain ⟨v30, l30, v36, l36⟩ := x
            show J _ _ _ _ _ ((24, .agg (cI ib).toArray) :: (23, .agg (cI ia).toArray) :: _) (fun w1 => ((m 7 = true → Vec 23 16 v30 (wantI ia ys half).length (fI (wantI ia ys half)) l30) ∧ (m 13 = true → Vec 23 16 v36 (wantI ib ys half).length (fI (wantI ib ys half)) l36)) ∧ St w [] ((b8, cb (cI ib) 23) :: (b6, cb (cI ia) 23) :: ((bif m 7 then l30 else []) ++ (bif m 13 then l36 else []))) w1)
            refine J.pr (fun hF => ?_)
            refine J.neI Ty.QI Ty.keyI rfl rfl rfl ?_
            refine J.name 25 rfl (show _ = Value.bool true by simp [hxy]) ?_
            exact J.nil (JX.finB rfl (fun w1 hw => ⟨⟨⟨v30, l30, v36, l36⟩, rfl, fun _ _ _ => rfl, hF, hw⟩, trivial⟩))
          · skip
            obtain ⟨v30, l30, v36, l36⟩ := x
            show J _ _ _ _ _ ((25, .bool true) :: _) (fun w1 => ((m 7 = true → Vec 23 16 v30 (wantI ia ys half).length (fI (wantI ia ys half)) l30) ∧ (m 13 = true → Vec 23 16 v36 (wantI ib ys half).length (fI (wantI ib ys half)) l36)) ∧ St w [] ((b8, cb (cI ib) 23) :: (b6, cb (cI ia) 23) :: ((bif m 7 then l30 else []) ++ (bif m 13 then l36 else []))) w1)
            refine J.pr (fun hF => ?_)
            refine J.move rfl rfl ?_
            exact J.nil (JX.finB rfl (fun w1 hw => ⟨⟨⟨v30, l30, v36, l36⟩, rfl, fun _ _ _ => rfl, hF, hw⟩, trivial⟩))
          · skip
            obtain ⟨v30, l30, v36, l36⟩ := x
            show J _ _ _ _ _ ((26, .bool true) :: _) (fun w1 => ((m 7 = true → Vec 23 16 v30 (wantI ia ys half).length (fI (wantI ia ys half)) l30) ∧ (m 13 = true → Vec 23 16 v36 (wantI ib ys half).length (fI (wantI ib ys half)) l36)) ∧ St w [] ((b8, cb (cI ib) 23) :: (b6, cb (cI ia) 23) :: ((bif m 7 then l30 else []) ++ (bif m 13 then l36 else []))) w1)
            refine J.pr (fun hF => ?_)
            refine J.unguard rfl rfl rfl ?_
            refine J.loadA (vs := cI ia) Ty.a23 Ty.s23 rfl rfl (fun w1 hw => Cells.of_block (hw.own _ (.tail _ (.head _))) rfl) rfl ?_
            exact J.nil (JX.finB rfl (fun w1 hw => ⟨⟨⟨v30, l30, v36, l36⟩, rfl, fun _ _ _ => rfl, hF, hw⟩, trivial⟩))
          · skip
            obtain ⟨v30, l30, v36, l36⟩ := x
            show J _ _ _ _ _ ((26, .bool true) :: _) (fun w1 => ((m 7 = true → Vec 23 16 v30 (wantI ia ys half).length (fI (wantI ia ys half)) l30) ∧ (m 13 = true → Vec 23 16 v36 (wantI ib ys half).length (fI (wantI ib ys half)) l36)) ∧ St w [] ((b8, cb (cI ib) 23) :: (b6, cb (cI ia) 23) :: ((bif m 7 then l30 else []) ++ (bif m 13 then l36 else []))) w1)
            refine J.pr (fun hF => ?_)
            first
              | (refine J.skip rfl rfl rfl rfl rfl ?_)
              | (refine J.skipU rfl rfl rfl rfl ?_)
              | (refine J.unguard rfl rfl rfl ?_; refine J.move rfl rfl ?_)
            exact J.nil (JX.finB rfl (fun w1 hw => ⟨⟨⟨v30, l30, v36, l36⟩, rfl, fun _ _ _ => rfl, hF, hw⟩, trivial⟩))
          · skip
            obtain ⟨v30, l30, v36, l36⟩ := x
            show J _ _ _ _ _ ((26, .bool true) :: _) (fun w1 => ((m 7 = true → Vec 23 16 v30 (wantI ia ys half).length (fI (wantI ia ys half)) l30) ∧ (m 13 = true → Vec 23 16 v36 (wantI ib ys half).length (fI (wantI ib ys half)) l36)) ∧ St w [] ((b8, cb (cI ib) 23) :: (b6, cb (cI ia) 23) :: ((bif m 7 then l30 else []) ++ (bif m 13 then l36 else []))) w1)
            refine J.pr (fun hF => ?_)
            first
              | (refine J.skip rfl rfl rfl rfl rfl ?_)
              | (refine J.skipU rfl rfl rfl rfl ?_)
              | (refine J.unguard rfl rfl rfl ?_; refine J.move rfl rfl ?_)
            exact J.nil (JX.finB rfl (fun w1 hw => ⟨⟨⟨v30, l30, v36, l36⟩, rfl, fun _ _ _ => rfl, hF, hw⟩, trivial⟩))
          · skip
            obtain ⟨v30, l30, v36, l36⟩ := x
            show J _ _ _ _ _ ((26, .bool true) :: (26, .bool true) :: (29, .int .i64 half) :: (28, .slice (some ⟨q1, o1, none⟩) ys.length c2) :: (27, .agg (cI ia).toArray) :: _) (fun w1 => ((m 7 = true → Vec 23 16 v30 (wantI ia ys half).length (fI (wantI ia ys half)) l30) ∧ (m 13 = true → Vec 23 16 v36 (wantI ib ys half).length (fI (wantI ib ys half)) l36)) ∧ St w [] ((b8, cb (cI ib) 23) :: (b6, cb (cI ia) 23) :: ((bif m 7 then l30 else []) ++ (bif m 13 then l36 else []))) w1)
            refine J.pr (fun hF => ?_)
            refine J.unguard rfl rfl rfl ?_
            refine J.perm ([] ++ ((b8, cb (cI ib) 23) :: (b6, cb (cI ia) 23) :: ((bif m 7 then l30 else []) ++ (bif m 13 then l36 else [])))) (.refl _) ?_
            refine J.callS (α := Value × List (Nat × Obj)) (V := (·.1)) (Pr := fun x => Vec 23 16 x.1 (wantI ia ys half).length (fI (wantI ia ys half)) x.2) (L := (·.2)) (l1 := []) Ty.bd16 rfl rfl (fun w1 hw => want_spec ia _ ys half w1 (hr2.below (hw.drop (List.nil_sublist _)).below) (by omega)) (fun x hvn => ?_)
            obtain ⟨vn, ln⟩ := x
            simp only at hvn ⊢
            refine J.nil (JX.finB rfl (fun w1 hw => ⟨⟨⟨vn, ln, v36, l36⟩, rfl, fun j h1 h2 => ?_, ?_⟩, trivial⟩))
            · match j, h1 with
              | 0, _ => rfl
              | 1, _ => rfl
              | 2, _ => rfl
              | 3, _ => rfl
              | 4, _ => rfl
              | 5, _ => rfl
              | 6, _ => rfl
              | 7, _ => exact absurd (h2.symm.trans hm) (by decide)
              | 8, _ => rfl
              | 9, _ => rfl
              | 10, _ => rfl
              | 11, _ => rfl
              | 12, _ => rfl
              | 13, _ => rfl
              | 14, _ => rfl
              | 15, _ => rfl
              | 16, _ => rfl
              | 17, _ => rfl
              | j + 18, h1 => omega
            show ((true = true → Vec 23 16 vn (wantI ia ys half).length (fI (wantI ia ys half)) ln) ∧ (m 13 = true → Vec 23 16 v36 (wantI ib ys half).length (fI (wantI ib ys half)) l36)) ∧ St w [] ((b8, cb (cI ib) 23) :: (b6, cb (cI ia) 23) :: ((bif true then ln else []) ++ (bif m 13 then l36 else []))) w1
            simp only [hm, cond_true, cond_false] at hw ⊢
            exact ⟨⟨fun _ => hvn, hF.2⟩, hw.perm (by (refine perm_cnt (fun _ => ?_)); simp only [cntB_append, cntB_cons, cntB_nil, Nat.add_zero, Nat.zero_add]; try ac_rfl)⟩
          · skip
            obtain ⟨v30, l30, v36, l36⟩ := x
            show J _ _ _ _ _ ((26, .bool true) :: _) (fun w1 => ((m 7 = true → Vec 23 16 v30 (wantI ia ys half).length (fI (wantI ia ys half)) l30) ∧ (m 13 = true → Vec 23 16 v36 (wantI ib ys half).length (fI (wantI ib ys half)) l36)) ∧ St w [] ((b8, cb (cI ib) 23) :: (b6, cb (cI ia) 23) :: ((bif m 7 then l30 else []) ++ (bif m 13 then l36 else []))) w1)
            refine J.pr (fun hF => ?_)
            refine J.unguard rfl rfl rfl ?_
            refine J.loadA (vs := cI ib) Ty.a23 Ty.s23 rfl rfl (fun w1 hw => Cells.of_block (hw.own _ (.head _)) rfl) rfl ?_
            exact J.nil (JX.finB rfl (fun w1 hw => ⟨⟨⟨v30, l30, v36, l36⟩, rfl, fun _ _ _ => rfl, hF, hw⟩, trivial⟩))
          · skip
            obtain ⟨v30, l30, v36, l36⟩ := x
            show J _ _ _ _ _ ((26, .bool true) :: (30, v30) :: (31, .agg (cI ib).toArray) :: (30, v30) :: _) (fun w1 => ((m 7 = true → Vec 23 16 v30 (wantI ia ys half).length (fI (wantI ia ys half)) l30) ∧ (m 13 = true → Vec 23 16 v36 (wantI ib ys half).length (fI (wantI ib ys half)) l36)) ∧ St w [] ((b8, cb (cI ib) 23) :: (b6, cb (cI ia) 23) :: ((bif m 7 then l30 else []) ++ (bif m 13 then l36 else []))) w1)
            have hp7 : m 7 = true := predsT hp (by kernel_rfl)
            have hp7 : m 7 = true := predsT hp (by kernel_rfl)
            refine J.pr (fun hF => ?_)
            refine J.unguard rfl rfl rfl ?_
            refine J.callB (v := .bool (decide (ib ∈ wantI ia ys half))) (fun w1 w2 hw hb => hw.step hb) Ty.bd24 rfl rfl (fun w1 hw => has_spec v30 (wantI ia ys half) ib w1 ((hF.1 hp7).rowM hw (fun q hq => by simp [hp7, hq])) (by have := wantI_le ia ys half; omega)) ?_
            exact J.nil (JX.finB rfl (fun w1 hw => ⟨⟨⟨v30, l30, v36, l36⟩, rfl, fun _ _ _ => rfl, hF, hw⟩, trivial⟩))
          · skip
            obtain ⟨v30, l30, v36, l36⟩ := x
            show J _ _ _ _ _ ((26, .bool true) :: _) (fun w1 => ((m 7 = true → Vec 23 16 v30 (wantI ia ys half).length (fI (wantI ia ys half)) l30) ∧ (m 13 = true → Vec 23 16 v36 (wantI ib ys half).length (fI (wantI ib ys half)) l36)) ∧ St w [] ((b8, cb (cI ib) 23) :: (b6, cb (cI ia) 23) :: ((bif m 7 then l30 else []) ++ (bif m 13 then l36 else []))) w1)
            refine J.pr (fun hF => ?_)
            refine J.unguard rfl rfl rfl ?_
            refine J.loadA (vs := cI ib) Ty.a23 Ty.s23 rfl rfl (fun w1 hw => Cells.of_block (hw.own _ (.head _)) rfl) rfl ?_
            exact J.nil (JX.finB rfl (fun w1 hw => ⟨⟨⟨v30, l30, v36, l36⟩, rfl, fun _ _ _ => rfl, hF, hw⟩, trivial⟩))
          · skip
            obtain ⟨v30, l30, v36, l36⟩ := x
            show J _ _ _ _ _ ((26, .bool true) :: _) (fun w1 => ((m 7 = true → Vec 23 16 v30 (wantI ia ys half).length (fI (wantI ia ys half)) l30) ∧ (m 13 = true → Vec 23 16 v36 (wantI ib ys half).length (fI (wantI ib ys half)) l36)) ∧ St w [] ((b8, cb (cI ib) 23) :: (b6, cb (cI ia) 23) :: ((bif m 7 then l30 else []) ++ (bif m 13 then l36 else []))) w1)
            refine J.pr (fun hF => ?_)
            first
              | (refine J.skip rfl rfl rfl rfl rfl ?_)
              | (refine J.skipU rfl rfl rfl rfl ?_)
              | (refine J.unguard rfl rfl rfl ?_; refine J.move rfl rfl ?_)
            exact J.nil (JX.finB rfl (fun w1 hw => ⟨⟨⟨v30, l30, v36, l36⟩, rfl, fun _ _ _ => rfl, hF, hw⟩, trivial⟩))
          · skip
            obtain ⟨v30, l30, v36, l36⟩ := x
            show J _ _ _ _ _ ((26, .bool true) :: _) (fun w1 => ((m 7 = true → Vec 23 16 v30 (wantI ia ys half).length (fI (wantI ia ys half)) l30) ∧ (m 13 = true → Vec 23 16 v36 (wantI ib ys half).length (fI (wantI ib ys half)) l36)) ∧ St w [] ((b8, cb (cI ib) 23) :: (b6, cb (cI ia) 23) :: ((bif m 7 then l30 else []) ++ (bif m 13 then l36 else []))) w1)
            refine J.pr (fun hF => ?_)
            first
              | (refine J.skip rfl rfl rfl rfl rfl ?_)
              | (refine J.skipU rfl rfl rfl rfl ?_)
              | (refine J.unguard rfl rfl rfl ?_; refine J.move rfl rfl ?_)
            exact J.nil (JX.finB rfl (fun w1 hw => ⟨⟨⟨v30, l30, v36, l36⟩, rfl, fun _ _ _ => rfl, hF, hw⟩, trivial⟩))
          · skip
            obtain ⟨v30, l30, v36, l36⟩ := x
            show J _ _ _ _ _ ((26, .bool true) :: (32, .bool (decide (ib ∈ wantI ia ys half))) :: (35, .int .i64 half) :: (34, .slice (some ⟨q1, o1, none⟩) ys.length c2) :: (33, .agg (cI ib).toArray) :: _) (fun w1 => ((m 7 = true → Vec 23 16 v30 (wantI ia ys half).length (fI (wantI ia ys half)) l30) ∧ (m 13 = true → Vec 23 16 v36 (wantI ib ys half).length (fI (wantI ib ys half)) l36)) ∧ St w [] ((b8, cb (cI ib) 23) :: (b6, cb (cI ia) 23) :: ((bif m 7 then l30 else []) ++ (bif m 13 then l36 else []))) w1)
            refine J.pr (fun hF => ?_)
            refine J.unguard rfl rfl rfl ?_
            refine J.perm ([] ++ ((b8, cb (cI ib) 23) :: (b6, cb (cI ia) 23) :: ((bif m 7 then l30 else []) ++ (bif m 13 then l36 else [])))) (.refl _) ?_
            refine J.callS (α := Value × List (Nat × Obj)) (V := (·.1)) (Pr := fun x => Vec 23 16 x.1 (wantI ib ys half).length (fI (wantI ib ys half)) x.2) (L := (·.2)) (l1 := []) Ty.bd16 rfl rfl (fun w1 hw => want_spec ib _ ys half w1 (hr2.below (hw.drop (List.nil_sublist _)).below) (by omega)) (fun x hvn => ?_)
            obtain ⟨vn, ln⟩ := x
            simp only at hvn ⊢
            refine J.nil (JX.finB rfl (fun w1 hw => ⟨⟨⟨v30, l30, vn, ln⟩, rfl, fun j h1 h2 => ?_, ?_⟩, trivial⟩))
            · match j, h1 with
              | 0, _ => rfl
              | 1, _ => rfl
              | 2, _ => rfl
              | 3, _ => rfl
              | 4, _ => rfl
              | 5, _ => rfl
              | 6, _ => rfl
              | 7, _ => rfl
              | 8, _ => rfl
              | 9, _ => rfl
              | 10, _ => rfl
              | 11, _ => rfl
              | 12, _ => rfl
              | 13, _ => exact absurd (h2.symm.trans hm) (by decide)
              | 14, _ => rfl
              | 15, _ => rfl
              | 16, _ => rfl
              | 17, _ => rfl
              | j + 18, h1 => omega
            show ((m 7 = true → Vec 23 16 v30 (wantI ia ys half).length (fI (wantI ia ys half)) l30) ∧ (true = true → Vec 23 16 vn (wantI ib ys half).length (fI (wantI ib ys half)) ln)) ∧ St w [] ((b8, cb (cI ib) 23) :: (b6, cb (cI ia) 23) :: ((bif m 7 then l30 else []) ++ (bif true then ln else []))) w1
            simp only [hm, cond_true, cond_false] at hw ⊢
            exact ⟨⟨hF.1, fun _ => hvn⟩, hw.perm (by (refine perm_cnt (fun _ => ?_)); simp only [cntB_append, cntB_cons, cntB_nil, Nat.add_zero, Nat.zero_add]; try ac_rfl)⟩
          · skip
            obtain ⟨v30, l30, v36, l36⟩ := x
            show J _ _ _ _ _ ((26, .bool true) :: _) (fun w1 => ((m 7 = true → Vec 23 16 v30 (wantI ia ys half).length (fI (wantI ia ys half)) l30) ∧ (m 13 = true → Vec 23 16 v36 (wantI ib ys half).length (fI (wantI ib ys half)) l36)) ∧ St w [] ((b8, cb (cI ib) 23) :: (b6, cb (cI ia) 23) :: ((bif m 7 then l30 else []) ++ (bif m 13 then l36 else []))) w1)
            refine J.pr (fun hF => ?_)
            refine J.unguard rfl rfl rfl ?_
            refine J.loadA (vs := cI ia) Ty.a23 Ty.s23 rfl rfl (fun w1 hw => Cells.of_block (hw.own _ (.tail _ (.head _))) rfl) rfl ?_
            exact J.nil (JX.finB rfl (fun w1 hw => ⟨⟨⟨v30, l30, v36, l36⟩, rfl, fun _ _ _ => rfl, hF, hw⟩, trivial⟩))
          · skip
            obtain ⟨v30, l30, v36, l36⟩ := x
            show J _ _ _ _ _ ((26, .bool true) :: (36, v36) :: (37, .agg (cI ia).toArray) :: (36, v36) :: _) (fun w1 => ((m 7 = true → Vec 23 16 v30 (wantI ia ys half).length (fI (wantI ia ys half)) l30) ∧ (m 13 = true → Vec 23 16 v36 (wantI ib ys half).length (fI (wantI ib ys half)) l36)) ∧ St w [] ((b8, cb (cI ib) 23) :: (b6, cb (cI ia) 23) :: ((bif m 7 then l30 else []) ++ (bif m 13 then l36 else []))) w1)
            have hp13 : m 13 = true := predsT hp (by kernel_rfl)
            have hp13 : m 13 = true := predsT hp (by kernel_rfl)
            refine J.pr (fun hF => ?_)
            refine J.unguard rfl rfl rfl ?_
            refine J.callB (v := .bool (decide (ia ∈ wantI ib ys half))) (fun w1 w2 hw hb => hw.step hb) Ty.bd24 rfl rfl (fun w1 hw => has_spec v36 (wantI ib ys half) ia w1 ((hF.2 hp13).rowM hw (fun q hq => by simp [hp13, hq])) (by have := wantI_le ib ys half; omega)) ?_
            exact J.nil (JX.finB rfl (fun w1 hw => ⟨⟨⟨v30, l30, v36, l36⟩, rfl, fun _ _ _ => rfl, hF, hw⟩, trivial⟩))
          · skip
            obtain ⟨v30, l30, v36, l36⟩ := x
            show J _ _ _ _ _ ((26, .bool true) :: (38, .bool (decide (ia ∈ wantI ib ys half))) :: (32, .bool (decide (ib ∈ wantI ia ys half))) :: _) (fun w1 => ((m 7 = true → Vec 23 16 v30 (wantI ia ys half).length (fI (wantI ia ys half)) l30) ∧ (m 13 = true → Vec 23 16 v36 (wantI ib ys half).length (fI (wantI ib ys half)) l36)) ∧ St w [] ((b8, cb (cI ib) 23) :: (b6, cb (cI ia) 23) :: ((bif m 7 then l30 else []) ++ (bif m 13 then l36 else []))) w1)
            refine J.pr (fun hF => ?_)
            refine J.unguard rfl rfl rfl ?_
            refine J.eqBool (.inr rfl) Ty.u4 rfl rfl rfl ?_
            refine J.name 39 rfl (show _ = Value.bool false by
              have hmu := want_mutual (half := half) hxy (List.mem_of_getElem? hx) (List.mem_of_getElem? hy)
              simp [hmu]) ?_
            exact J.nil (JX.finB rfl (fun w1 hw => ⟨⟨⟨v30, l30, v36, l36⟩, rfl, fun _ _ _ => rfl, hF, hw⟩, trivial⟩))
          · skip
            obtain ⟨v30, l30, v36, l36⟩ := x
            show J _ _ _ _ _ ((39, .bool false) :: (26, .bool true) :: _) (fun w1 => ((m 7 = true → Vec 23 16 v30 (wantI ia ys half).length (fI (wantI ia ys half)) l30) ∧ (m 13 = true → Vec 23 16 v36 (wantI ib ys half).length (fI (wantI ib ys half)) l36)) ∧ St w [] ((b8, cb (cI ib) 23) :: (b6, cb (cI ia) 23) :: ((bif m 7 then l30 else []) ++ (bif m 13 then l36 else []))) w1)
            refine J.pr (fun hF => ?_)
            (first | refine J.pickT rfl rfl rfl ?_ | refine J.pickF rfl rfl rfl ?_)
            exact J.nil (JX.finB rfl (fun w1 hw => ⟨⟨⟨v30, l30, v36, l36⟩, rfl, fun _ _ _ => rfl, hF, hw⟩, trivial⟩))
        case htail =>
          intro x
          obtain ⟨v30, l30, v36, l36⟩ := x
          show J _ _ _ _ _ ((40, .bool false) :: (39, .bool false) :: (38, .bool (decide (ia ∈ wantI ib ys half))) :: (37, .agg (cI ia).toArray) :: (36, v36) :: (35, .int .i64 half) :: (34, .slice (some ⟨q1, o1, none⟩) ys.length c2) :: (33, .agg (cI ib).toArray) :: (32, .bool (decide (ib ∈ wantI ia ys half))) :: (31, .agg (cI ib).toArray) :: (30, v30) :: (29, .int .i64 half) :: (28, .slice (some ⟨q1, o1, none⟩) ys.length c2) :: (27, .agg (cI ia).toArray) :: (26, .bool true) :: (25, .bool true) :: (24, .agg (cI ib).toArray) :: (23, .agg (cI ia).toArray) :: _) (fun w1 => ((true = true → Vec 23 16 v30 (wantI ia ys half).length (fI (wantI ia ys half)) l30) ∧ (true = true → Vec 23 16 v36 (wantI ib ys half).length (fI (wantI ib ys half)) l36)) ∧ St w [] ((b8, cb (cI ib) 23) :: (b6, cb (cI ia) 23) :: ((bif true then l30 else []) ++ (bif true then l36 else []))) w1)
          refine J.pr (fun hF => ?_)
          refine J.conseq (I' := St w [] [(b8, cb (cI ib) 23), (b6, cb (cI ia) 23)]) ?_ (fun w1 hw => hw.drop (List.Sublist.cons_cons _ (List.Sublist.cons_cons _ (List.nil_sublist _))))
          refine J.nil ?_
          refine JX.thenN (hK13 _ _ ?_)
          first | refine JC.condF rfl ?_ | refine JC.cond rfl (fun h => by first | (exfalso; simp at h; omega) | (simp at h)) (fun _ => ?_)
          refine JC.skip ?_
          refine JX.blockN ?_
          refine JX.thenN (hK11 _ _ ?_)
          refine JC.region ?_
          (first | refine J.addN rfl rfl (by omega) (by omega) rfl ?_ | refine J.bin rfl rfl rfl rfl ?_)
          refine J.move rfl rfl ?_
          refine J.nil ?_
          refine JX.thenN ?_
          refine JX.again (j + 1) ?_ ?_ ?_
          · omega
          · exact ⟨rfl, rfl, rfl, rfl, rfl, rfl, rfl, rfl, rfl, trivial⟩
          · exact fun w1 hw => ⟨hlt2, hw.drop (List.sublist_cons_self _ _)⟩
    · skip
      have hge2 : j = ys.length := by simp at h1; omega
      refine JC.exit ?_
      refine JX.thenE ?_
      refine JX.thenE ?_
      refine JX.blockE ?_
      refine JX.blockN ?_
      refine JX.thenN (hK6 _ _ ?_)
      refine JC.region ?_
      (first | refine J.addN rfl rfl (by omega) (by omega) rfl ?_ | refine J.bin rfl rfl rfl rfl ?_)
      refine J.move rfl rfl ?_
      refine J.nil ?_
      refine JX.thenN ?_
      refine JX.again (i + 1) ?_ ?_ ?_
      · omega
      · exact ⟨rfl, rfl, rfl, rfl, rfl, trivial⟩
      · exact fun w1 hw => ⟨hlt, hw.drop (List.nil_sublist _)⟩
  · skip
    have hge : i = ys.length := by simp at h0; omega
    refine JC.exit ?_
    refine JX.thenE ?_
    refine JX.thenE ?_
    refine JX.blockE ?_
    refine JX.thenN (hK2 _ _ ?_)
    refine JC.seq (fun K14 hK14 => ?_)
    refine JC.region ?_
    refine J.callB (v := .bool true) (fun w1 w2 hw hb => hw.step hb) Ty.bd18 rfl rfl (fun w1 hw => fixed10_spec w1) ?_
    refine J.move rfl rfl ?_
    first
      | (refine J.skip rfl rfl rfl rfl rfl ?_)
      | (refine J.skipU rfl rfl rfl rfl ?_)
      | (refine J.unguard rfl rfl rfl ?_; refine J.move rfl rfl ?_)
    first
      | (refine J.skip rfl rfl rfl rfl rfl ?_)
      | (refine J.skipU rfl rfl rfl rfl ?_)
      | (refine J.unguard rfl rfl rfl ?_; refine J.move rfl rfl ?_)
    refine J.unguard rfl rfl rfl ?_
    refine J.callB (v := .bool true) (fun w1 w2 hw hb => hw.step hb) Ty.bd28 rfl rfl (fun w1 hw => mutual_spec _ ys half w1 (hr2.below (hw.drop (List.nil_sublist _)).below) (by omega)) ?_
    (first | refine J.pickT rfl rfl rfl ?_ | refine J.pickF rfl rfl rfl ?_)
    refine J.assign rfl rfl ?_
    refine J.nil ?_
    refine JX.thenN (hK14 _ _ ?_)
    refine JC.ret ?_
    refine JX.ret1 rfl rfl (fun w hw => ?_)
    exact ⟨rfl, (hw.drop (List.nil_sublist _)).below⟩

theorem ringMutual_walk (w : World) (o : Sl IDV) (ho : RSl 16 16 RId w [o.v] o) (half : Int) (hh : (Lit.int .i64 half).wf = true) :
    Calls Try.prog 9 [o.v, .int .i64 half].toArray w fun r w' => r = .returned (.bool true) ∧ Bel w w' := mutuals_spec o.v o.xs half w (RSl.rowId ho)
end Go.Proofs.Ytdpbgmbicdgdbaa
