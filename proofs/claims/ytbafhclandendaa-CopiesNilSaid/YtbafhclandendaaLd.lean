/-
  The document's Sorted: contract.
-/
import Derived.Test.YtbafhclandendaaLc
namespace Go.Proofs.Ytbafhclandendaa
open Go.J Go.RowKit
set_option linter.unusedVariables false
set_option linter.unusedSimpArgs false
set_option maxRecDepth 4000
theorem sortI_step {xs : List IDV} {me x : IDV} {i : Nat} (h : xs[i]? = some x) : sortI (xs.take (i + 1)) me = stepS me (sortI (xs.take i) me) x := by
  have hl := (List.getElem?_eq_some_iff.1 h).1
  have hx : xs[i] = x := (List.getElem?_eq_some_iff.1 h).2
  unfold sortI
  rw [take_add_one hl, List.foldl_append, hx]
  rfl
theorem posI_of : ∀ {l : List IDV} {x : IDV} {k : Nat}, k ≤ l.length → (∀ j y, j < k → l[j]? = some y → valI y < valI x) → (∀ y, l[k]? = some y → ¬ valI y < valI x) → posI l x = k
  | [], x, k, h, _, _ => by simp at h; subst h; rfl
  | z :: l, x, 0, _, _, h => by
    have := h z rfl
    unfold posI
    rw [List.takeWhile_cons_of_neg (by simpa using this)]
    rfl
  | z :: l, x, k + 1, h, h1, h2 => by
    have hz := h1 0 z (by omega) rfl
    have ih := posI_of (l := l) (x := x) (k := k) (by simpa using h) (fun j y hj hy => h1 (j + 1) y (by omega) (by simpa using hy)) (fun y hy => h2 y (by simpa using hy))
    unfold posI at ih ⊢
    rw [List.takeWhile_cons_of_pos (by simpa using hz), List.length_cons, ih]
theorem vecI_pos {a : Option Addr} {c : Nat} {xs : List IDV} {lp : List (Nat × Obj)} (h : Vec 23 16 (.slice a xs.length c) xs.length (fI xs) lp) (h0 : 0 < xs.length) :
    ∃ q sp, a = some ⟨q, 0, none⟩ ∧ lp = [(q, cb (fI xs ++ sp) 23)] ∧ (fI xs ++ sp).length = c * 16 ∧ xs.length ≤ c := by
  rcases vecI h with ⟨_, h2, _⟩ | ⟨b, c', sp, h1, h2, h3, h4⟩
  · subst h2; simp at h0
  · simp only [Value.slice.injEq] at h1
    obtain ⟨rfl, _, rfl⟩ := h1
    exact ⟨b, sp, rfl, h2, h3, h4⟩
structure RS where
  i : Nat
  out : List IDV
  a : Option Addr
  c : Nat
  lp : List (Nat × Obj)

theorem rsorted_spec (self : IDV) (v : Value) (xs : List IDV) (w : World) (hr : Row w v xs.length (fI xs)) (hl : xs.length ≤ 1099511627776) :
    Calls Try.prog 44 [.agg (cI self).toArray, v].toArray w fun r w' => ∃ x : Value × List (Nat × Obj), r = .returned x.1 ∧ Vec 23 16 x.1 (sortI xs self).length (fI (sortI xs self)) x.2 ∧ St w [] x.2 w' := by
  obtain ⟨ax, cx, rfl, hcx, _⟩ := id hr
  refine calls_of_J (args := [.agg (cI self).toArray, .slice ax xs.length cx]) (e := [(0, .agg (cI self).toArray), (1, .slice ax xs.length cx)]) Try.func44 rfl rfl ⟨rfl, rfl, trivial⟩ (St.start w) ?_
  refine JC.seq (fun K0 hK0 => ?_)
  refine JC.region ?_
  refine J.box rfl rfl rfl (fun b2 => ?_)
  refine J.assign rfl rfl ?_
  refine J.nil ?_
  refine JX.thenN (hK0 _ _ ?_)
  refine JC.seq (fun K1 hK1 => ?_)
  refine JC.region ?_
  refine J.assign rfl rfl ?_
  refine J.nil ?_
  refine JX.thenN (hK1 _ _ ?_)
  refine JC.seq (fun K2 hK2 => ?_)
  refine JC.seq (fun K3 hK3 => ?_)
  refine JC.region ?_
  refine J.assign rfl rfl ?_
  refine J.nil ?_
  refine JX.thenN (hK3 _ _ ?_)
  refine JC.block ?_
  refine JC.conseq (JC.cov (f := (fun st => [(1, .slice ax xs.length cx), (2, .pointer (some ⟨b2, 0, none⟩)), (5, .slice st.a st.out.length st.c), (6, .int .i64 ((st.i : Nat) : Int))]) (⟨0, [], none, 0, []⟩ : RS)) ⟨rfl, rfl, rfl, rfl, trivial⟩ (JC.loop (α := RS) (fun st => [(1, .slice ax xs.length cx), (2, .pointer (some ⟨b2, 0, none⟩)), (5, .slice st.a st.out.length st.c), (6, .int .i64 ((st.i : Nat) : Int))]) (fun st w' => (st.i ≤ xs.length ∧ st.out = sortI (xs.take st.i) self ∧ Vec 23 16 (.slice st.a st.out.length st.c) st.out.length (fI st.out) st.lp) ∧ St w [] ((b2, cb (cI self) 23) :: st.lp) w') (fun st => xs.length - st.i) (⟨0, [], none, 0, []⟩ : RS) (fun st => ?_))) (fun w hw => ⟨⟨Nat.zero_le _, rfl, Vec.nil _ _⟩, hw⟩)
  obtain ⟨i, out, a, c, lp⟩ := st
  refine JC.pr (fun hI => ?_)
  obtain ⟨hi, ho, hvo⟩ := hI
  simp only at hi ho hvo ⊢
  have hol : out.length ≤ xs.length := by rw [ho]; exact Nat.le_trans (sortI_le _ _) (by rw [List.length_take]; omega)
  refine JC.seq (fun K4 hK4 => ?_)
  refine JC.seq (fun K5 hK5 => ?_)
  refine JC.region ?_
  refine J.move rfl rfl ?_
  refine J.move rfl rfl ?_
  refine J.lenS rfl Ty.u24 rfl rfl ?_
  refine J.bin rfl rfl rfl rfl ?_
  refine J.nil ?_
  refine JX.thenN (hK5 _ _ ?_)
  refine JC.cond rfl (fun h0 => ?_) (fun h0 => ?_)
  · skip
    have hlt : i < xs.length := by simp at h0; omega
    have hfxs := fI_length xs
    have hcl := (Row.some hr (by omega))
    obtain ⟨q1, o1, cx', hqe, _, _⟩ := hcl
    simp only [Value.slice.injEq] at hqe
    obtain ⟨rfl, _, rfl⟩ := hqe
    obtain ⟨x, hx⟩ : ∃ x, xs[i]? = some x := ⟨_, List.getElem?_eq_getElem hlt⟩
    refine JC.skip ?_
    refine JX.thenN (hK4 _ _ ?_)
    refine JC.seq (fun K6 hK6 => ?_)
    refine JC.block ?_
    refine JC.seq (fun K7 hK7 => ?_)
    refine JC.seq (fun K8 hK8 => ?_)
    by_cases hself : x = self
    · skip
      apply JC.drawL 14 [Eqv (.slice (some ⟨q1, o1, none⟩) xs.length cx), Eqv (.int .i64 ((i : Nat) : Int)), Eqv (.pointer (some ⟨q1, o1 + (i : Int).toNat * 16, none⟩)), Eqv (.agg (cI x).toArray), Eqv (.agg (cI self).toArray), Eqv (.bool true), Eqv (.bool true), Eqv (undef), Eqv (undef), Eqv (undef), Eqv (undef), Eqv (undef), Eqv (undef), Eqv (.bool true)] Ty.mixed rfl rfl rfl (by kernel_rfl) rfl rfl (fun w w' hw hb => hw.step hb) ⟨fun _ _ _ h _ => h, fun _ _ _ h _ => h, fun _ _ _ h _ => h, fun _ _ _ h _ => h, fun _ _ _ h _ => h, fun _ _ _ h _ => h, fun _ _ _ h _ => h, fun _ _ _ h _ => h, fun _ _ _ h _ => h, fun _ _ _ h _ => h, fun _ _ _ h _ => h, fun _ _ _ h _ => h, fun _ _ _ h _ => h, fun _ _ _ h _ => h, trivial⟩ ?hstep ?htail
      case hstep =>
        refine ⟨fun wi => ?_, fun wi => ?_, fun wi => ?_, fun wi => ?_, fun wi => ?_, fun wi => ?_, fun wi => ?_, fun wi => ?_, fun wi => ?_, fun wi => ?_, fun wi => ?_, fun wi => ?_, fun wi => ?_, fun wi => ?_, trivial⟩
        · skip
          refine Fin.nil ?_
          refine J.move rfl rfl ?_
          exact J.finP rfl
        · skip
          refine Fin.nil ?_
          refine J.move rfl rfl ?_
          exact J.finP rfl
        · skip
          refine Fin.consE rfl (Fin.consE rfl (Fin.nil ?_))
          refine J.indexAddrS Ty.el24 Ty.s23 rfl rfl (by omega) (by omega) rfl ?_
          exact J.finP rfl
        · skip
          refine Fin.consE rfl (Fin.nil ?_)
          refine J.loadA (vs := cI x) Ty.a23 Ty.s23 rfl rfl (fun w1 hw => rowF_at (hr.below (hw.2.drop (List.nil_sublist _)).below) hx (by omega)) rfl ?_
          exact J.finP rfl
        · skip
          refine Fin.nil ?_
          refine J.loadA (vs := cI self) Ty.a23 Ty.s23 rfl rfl (fun w hw => Cells.of_block (hw.2.own (_, _) (by repeat first | exact .head _ | apply List.Mem.tail | apply List.mem_append_right)) (by exact rfl)) rfl ?_
          exact J.finP rfl
        · skip
          refine Fin.consE rfl (Fin.consE rfl (Fin.nil ?_))
          refine J.eqI Ty.QI Ty.keyI rfl rfl rfl ?_
          refine J.name 20 rfl (show _ = Value.bool true by simp [hself]) ?_
          exact J.finP rfl
        · skip
          refine Fin.consE rfl (Fin.nil ?_)
          refine J.move rfl rfl ?_
          exact J.finP rfl
        · skip
          refine Fin.consE rfl (Fin.nil ?_)
          first | refine J.skip rfl rfl rfl rfl rfl ?_ | refine J.skipU rfl rfl rfl rfl ?_ | (refine J.unguard rfl rfl rfl ?_; refine J.move rfl rfl ?_)
          exact J.finP rfl
        · skip
          refine Fin.consE rfl (Fin.nil ?_)
          first | refine J.skip rfl rfl rfl rfl rfl ?_ | refine J.skipU rfl rfl rfl rfl ?_ | (refine J.unguard rfl rfl rfl ?_; refine J.move rfl rfl ?_)
          exact J.finP rfl
        · skip
          refine Fin.consE rfl (Fin.nil ?_)
          first | refine J.skip rfl rfl rfl rfl rfl ?_ | refine J.skipU rfl rfl rfl rfl ?_ | (refine J.unguard rfl rfl rfl ?_; refine J.move rfl rfl ?_)
          exact J.finP rfl
        · skip
          refine Fin.consE rfl (Fin.consE rfl (Fin.consE rfl (Fin.nil ?_)))
          first | refine J.skip rfl rfl rfl rfl rfl ?_ | refine J.skipU rfl rfl rfl rfl ?_ | (refine J.unguard rfl rfl rfl ?_; refine J.indexAddrS Ty.el24 Ty.s23 rfl rfl (by omega) (by omega) rfl ?_)
          exact J.finP rfl
        · skip
          refine Fin.consE rfl (Fin.consE rfl (Fin.nil ?_))
          first | refine J.skip rfl rfl rfl rfl rfl ?_ | refine J.skipU rfl rfl rfl rfl ?_ | (refine J.unguard rfl rfl rfl ?_; refine J.loadOA Ty.a23 Ty.s23 rfl (by repeat first | exact .head _ | apply List.Mem.tail | apply List.mem_append_right) (by exact rfl) rfl rfl ?_)
          exact J.finP rfl
        · skip
          refine Fin.consE rfl (Fin.consE rfl (Fin.consE rfl (Fin.consE rfl (Fin.nil ?_))))
          first | refine J.skip rfl rfl rfl rfl rfl ?_ | refine J.skipU rfl rfl rfl rfl ?_ | (refine J.unguard rfl rfl rfl ?_; fail)
          exact J.finP rfl
        · skip
          refine Fin.consE rfl (Fin.consE rfl (Fin.nil ?_))
          (first | refine J.pickT rfl rfl rfl ?_ | refine J.pickF rfl rfl rfl ?_)
          exact J.finP rfl
      case htail =>
        refine Fin.consE rfl (Fin.consE rfl (Fin.consE rfl (Fin.consE rfl (Fin.consE rfl (Fin.consE rfl (Fin.consE rfl (Fin.consE rfl (Fin.consE rfl (Fin.consE rfl (Fin.consE rfl (Fin.consE rfl (Fin.consE rfl (Fin.consE rfl (Fin.nil ?_))))))))))))))
        refine J.nil ?_
        refine JX.thenN (hK8 _ _ ?_)
        first | refine JC.condT rfl ?_ | refine JC.cond rfl (fun _ => ?_) (fun h => by first | (exfalso; simp at h; omega) | (simp at h))
        refine JC.exit ?_
        refine JX.thenE ?_
        refine JX.blockE ?_
        refine JX.thenN (hK6 _ _ ?_)
        refine JC.region ?_
        refine J.move rfl rfl ?_
        (first | refine J.addN rfl rfl (by omega) (by omega) rfl ?_ | refine J.bin rfl rfl rfl rfl ?_)
        refine J.assign rfl rfl ?_
        refine J.nil ?_
        refine JX.thenN ?_
        refine JX.again (⟨i + 1, out, a, c, lp⟩ : RS) ?_ ?_ ?_
        · simp only; omega
        · exact ⟨rfl, rfl, rfl, rfl, trivial⟩
        · exact fun w1 hw => ⟨⟨hlt, by rw [sortI_step hx, ← ho, stepS, if_pos (.inl hself)], hvo⟩, hw⟩
    · skip
      apply JC.drawL 14 [Eqv (.slice (some ⟨q1, o1, none⟩) xs.length cx), Eqv (.int .i64 ((i : Nat) : Int)), Eqv (.pointer (some ⟨q1, o1 + (i : Int).toNat * 16, none⟩)), Eqv (.agg (cI x).toArray), Eqv (.agg (cI self).toArray), Eqv (.bool false), Eqv (.bool false), Eqv (.slice a out.length c), Eqv (.slice (some ⟨q1, o1, none⟩) xs.length cx), Eqv (.int .i64 ((i : Nat) : Int)), Eqv (.pointer (some ⟨q1, o1 + (i : Int).toNat * 16, none⟩)), Eqv (.agg (cI x).toArray), Eqv (.bool (decide (x ∈ out))), Eqv (.bool (decide (x ∈ out)))] Ty.mixed rfl rfl rfl (by kernel_rfl) rfl rfl (fun w w' hw hb => hw.step hb) ⟨fun _ _ _ h _ => h, fun _ _ _ h _ => h, fun _ _ _ h _ => h, fun _ _ _ h _ => h, fun _ _ _ h _ => h, fun _ _ _ h _ => h, fun _ _ _ h _ => h, fun _ _ _ h _ => h, fun _ _ _ h _ => h, fun _ _ _ h _ => h, fun _ _ _ h _ => h, fun _ _ _ h _ => h, fun _ _ _ h _ => h, fun _ _ _ h _ => h, trivial⟩ ?hstep ?htail
      case hstep =>
        refine ⟨fun wi => ?_, fun wi => ?_, fun wi => ?_, fun wi => ?_, fun wi => ?_, fun wi => ?_, fun wi => ?_, fun wi => ?_, fun wi => ?_, fun wi => ?_, fun wi => ?_, fun wi => ?_, fun wi => ?_, fun wi => ?_, trivial⟩
        · skip
          refine Fin.nil ?_
          refine J.move rfl rfl ?_
          exact J.finP rfl
        · skip
          refine Fin.nil ?_
          refine J.move rfl rfl ?_
          exact J.finP rfl
        · skip
          refine Fin.consE rfl (Fin.consE rfl (Fin.nil ?_))
          refine J.indexAddrS Ty.el24 Ty.s23 rfl rfl (by omega) (by omega) rfl ?_
          exact J.finP rfl
        · skip
          refine Fin.consE rfl (Fin.nil ?_)
          refine J.loadA (vs := cI x) Ty.a23 Ty.s23 rfl rfl (fun w1 hw => rowF_at (hr.below (hw.2.drop (List.nil_sublist _)).below) hx (by omega)) rfl ?_
          exact J.finP rfl
        · skip
          refine Fin.nil ?_
          refine J.loadA (vs := cI self) Ty.a23 Ty.s23 rfl rfl (fun w hw => Cells.of_block (hw.2.own (_, _) (by repeat first | exact .head _ | apply List.Mem.tail | apply List.mem_append_right)) (by exact rfl)) rfl ?_
          exact J.finP rfl
        · skip
          refine Fin.consE rfl (Fin.consE rfl (Fin.nil ?_))
          refine J.eqI Ty.QI Ty.keyI rfl rfl rfl ?_
          refine J.name 20 rfl (show _ = Value.bool false by simp [hself]) ?_
          exact J.finP rfl
        · skip
          refine Fin.consE rfl (Fin.nil ?_)
          refine J.move rfl rfl ?_
          exact J.finP rfl
        · skip
          refine Fin.consE rfl (Fin.nil ?_)
          first | refine J.skip rfl rfl rfl rfl rfl ?_ | refine J.skipU rfl rfl rfl rfl ?_ | (refine J.unguard rfl rfl rfl ?_; refine J.move rfl rfl ?_)
          exact J.finP rfl
        · skip
          refine Fin.consE rfl (Fin.nil ?_)
          first | refine J.skip rfl rfl rfl rfl rfl ?_ | refine J.skipU rfl rfl rfl rfl ?_ | (refine J.unguard rfl rfl rfl ?_; refine J.move rfl rfl ?_)
          exact J.finP rfl
        · skip
          refine Fin.consE rfl (Fin.nil ?_)
          first | refine J.skip rfl rfl rfl rfl rfl ?_ | refine J.skipU rfl rfl rfl rfl ?_ | (refine J.unguard rfl rfl rfl ?_; refine J.move rfl rfl ?_)
          exact J.finP rfl
        · skip
          refine Fin.consE rfl (Fin.consE rfl (Fin.consE rfl (Fin.nil ?_)))
          refine J.unguard rfl rfl rfl ?_
          refine J.indexAddrS Ty.el24 Ty.s23 rfl rfl (by omega) (by omega) rfl ?_
          exact J.finP rfl
        · skip
          refine Fin.consE rfl (Fin.consE rfl (Fin.nil ?_))
          refine J.unguard rfl rfl rfl ?_
          refine J.loadA (vs := cI x) Ty.a23 Ty.s23 rfl rfl (fun w1 hw => rowF_at (hr.below (hw.2.drop (List.nil_sublist _)).below) hx (by omega)) rfl ?_
          exact J.finP rfl
        · skip
          refine Fin.consE rfl (Fin.consE rfl (Fin.consE rfl (Fin.consE rfl (Fin.nil ?_))))
          refine J.unguard rfl rfl rfl ?_
          refine J.callD (v := .bool (decide (x ∈ out))) Ty.bd40 rfl rfl (fun w1 hw => rhas_spec _ out x w1 (hvo.row (S := []) (l := [(b2, cb (cI self) 23)]) (hw.perm (by (refine perm_cnt (fun _ => ?_)); simp only [cntB_append, cntB_cons, cntB_nil, Nat.add_zero, Nat.zero_add]; try ac_rfl))) (by omega)) ?_
          exact J.finQ rfl
        · skip
          refine Fin.consE rfl (Fin.consE rfl (Fin.nil ?_))
          (first | refine J.pickT rfl rfl rfl ?_ | refine J.pickF rfl rfl rfl ?_)
          exact J.finP rfl
      case htail =>
        refine Fin.consE rfl (Fin.consE rfl (Fin.consE rfl (Fin.consE rfl (Fin.consE rfl (Fin.consE rfl (Fin.consE rfl (Fin.consE rfl (Fin.consE rfl (Fin.consE rfl (Fin.consE rfl (Fin.consE rfl (Fin.consE rfl (Fin.consE rfl (Fin.nil ?_))))))))))))))
        refine J.nil ?_
        refine JX.thenN (hK8 _ _ ?_)
        refine JC.cond rfl (fun h1 => ?_) (fun h1 => ?_)
        · skip
          have hin : x ∈ out := by simpa using h1
          refine JC.exit ?_
          refine JX.thenE ?_
          refine JX.blockE ?_
          refine JX.thenN (hK6 _ _ ?_)
          refine JC.region ?_
          refine J.move rfl rfl ?_
          (first | refine J.addN rfl rfl (by omega) (by omega) rfl ?_ | refine J.bin rfl rfl rfl rfl ?_)
          refine J.assign rfl rfl ?_
          refine J.nil ?_
          refine JX.thenN ?_
          refine JX.again (⟨i + 1, out, a, c, lp⟩ : RS) ?_ ?_ ?_
          · simp only; omega
          · exact ⟨rfl, rfl, rfl, rfl, trivial⟩
          · exact fun w1 hw => ⟨⟨hlt, by rw [sortI_step hx, ← ho, stepS, if_pos (.inr hin)], hvo⟩, hw⟩
        · skip
          have hin : ¬ x ∈ out := by simpa using h1
          refine JC.skip ?_
          refine JX.thenN (hK7 _ _ ?_)
          refine JC.seq (fun K9 hK9 => ?_)
          refine JC.region ?_
          refine J.assign rfl rfl ?_
          refine J.nil ?_
          refine JX.thenN (hK9 _ _ ?_)
          refine JC.seq (fun K10 hK10 => ?_)
          refine JC.block ?_
          refine JC.conseq (JC.cov (f := (fun k => [(1, .slice (some ⟨q1, o1, none⟩) xs.length cx), (2, .pointer (some ⟨b2, 0, none⟩)), (5, .slice a out.length c), (6, .int .i64 ((i : Nat) : Int)), (7, .int .i64 ((k : Nat) : Int))]) 0) ⟨rfl, rfl, rfl, rfl, rfl, trivial⟩ (JC.loop (α := Nat) (fun k => [(1, .slice (some ⟨q1, o1, none⟩) xs.length cx), (2, .pointer (some ⟨b2, 0, none⟩)), (5, .slice a out.length c), (6, .int .i64 ((i : Nat) : Int)), (7, .int .i64 ((k : Nat) : Int))]) (fun k w' => (k ≤ out.length ∧ ∀ j y, j < k → out[j]? = some y → valI y < valI x) ∧ St w [] ((b2, cb (cI self) 23) :: lp) w') (fun k => out.length - k) 0 (fun k => ?_))) (fun w hw => ⟨⟨Nat.zero_le _, fun j y hj => by omega⟩, hw⟩)
          refine JC.pr (fun hK => ?_)
          obtain ⟨hk, hbef⟩ := hK
          refine JC.seq (fun K11 hK11 => ?_)
          refine JC.seq (fun K12 hK12 => ?_)
          by_cases hat : k < out.length
          · skip
            obtain ⟨qo, spo, haq, hlq, hsq, hcq⟩ := vecI_pos hvo (by omega)
            obtain ⟨y, hy⟩ : ∃ y, out[k]? = some y := ⟨_, List.getElem?_eq_getElem hat⟩
            apply JC.drawL 15 [Eqv (.int .i64 ((k : Nat) : Int)), Eqv (.slice a out.length c), Eqv (.int .i64 ((out.length : Nat) : Int)), Eqv (.bool true), Eqv (.bool true), Eqv (.slice a out.length c), Eqv (.int .i64 ((k : Nat) : Int)), Eqv (.pointer (some ⟨qo, 0 + (k : Int).toNat * 16, none⟩)), Eqv (.agg (cI y).toArray), Eqv (.slice (some ⟨q1, o1, none⟩) xs.length cx), Eqv (.int .i64 ((i : Nat) : Int)), Eqv (.pointer (some ⟨q1, o1 + (i : Int).toNat * 16, none⟩)), Eqv (.agg (cI x).toArray), Eqv (.bool (decide (valI y < valI x))), Eqv (.bool (decide (valI y < valI x)))] Ty.mixed rfl rfl rfl (by kernel_rfl) rfl rfl (fun w w' hw hb => hw.step hb) ⟨fun _ _ _ h _ => h, fun _ _ _ h _ => h, fun _ _ _ h _ => h, fun _ _ _ h _ => h, fun _ _ _ h _ => h, fun _ _ _ h _ => h, fun _ _ _ h _ => h, fun _ _ _ h _ => h, fun _ _ _ h _ => h, fun _ _ _ h _ => h, fun _ _ _ h _ => h, fun _ _ _ h _ => h, fun _ _ _ h _ => h, fun _ _ _ h _ => h, fun _ _ _ h _ => h, trivial⟩ ?hstep ?htail
            case hstep =>
              refine ⟨fun wi => ?_, fun wi => ?_, fun wi => ?_, fun wi => ?_, fun wi => ?_, fun wi => ?_, fun wi => ?_, fun wi => ?_, fun wi => ?_, fun wi => ?_, fun wi => ?_, fun wi => ?_, fun wi => ?_, fun wi => ?_, fun wi => ?_, trivial⟩
              · skip
                refine Fin.nil ?_
                refine J.move rfl rfl ?_
                exact J.finP rfl
              · skip
                refine Fin.nil ?_
                refine J.move rfl rfl ?_
                exact J.finP rfl
              · skip
                refine Fin.consE rfl (Fin.nil ?_)
                refine J.lenS rfl Ty.u24 rfl rfl ?_
                exact J.finP rfl
              · skip
                refine Fin.consE rfl (Fin.consE rfl (Fin.nil ?_))
                refine J.bin rfl rfl rfl rfl ?_
                refine J.name 32 rfl (show _ = Value.bool true by simp; omega) ?_
                exact J.finP rfl
              · skip
                refine Fin.consE rfl (Fin.nil ?_)
                refine J.move rfl rfl ?_
                exact J.finP rfl
              · skip
                refine Fin.consE rfl (Fin.nil ?_)
                first | refine J.skip rfl rfl rfl rfl rfl ?_ | refine J.skipU rfl rfl rfl rfl ?_ | (refine J.unguard rfl rfl rfl ?_; refine J.move rfl rfl ?_)
                exact J.finP rfl
              · skip
                refine Fin.consE rfl (Fin.nil ?_)
                first | refine J.skip rfl rfl rfl rfl rfl ?_ | refine J.skipU rfl rfl rfl rfl ?_ | (refine J.unguard rfl rfl rfl ?_; refine J.move rfl rfl ?_)
                exact J.finP rfl
              · skip
                refine Fin.consE rfl (Fin.consE rfl (Fin.consE rfl (Fin.nil ?_)))
                subst haq
                refine J.unguard rfl rfl rfl ?_
                refine J.indexAddrS Ty.el24 Ty.s23 rfl rfl (by omega) (by omega) rfl ?_
                exact J.finP rfl
              · skip
                refine Fin.consE rfl (Fin.consE rfl (Fin.nil ?_))
                refine J.unguard rfl rfl rfl ?_
                refine J.loadA (vs := cI y) Ty.a23 Ty.s23 rfl rfl (fun w1 hw => rowF_at (o := 0) (by have h0 := (hvo.row (S := []) (l := [(b2, cb (cI self) 23)]) (hw.2.perm (by (refine perm_cnt (fun _ => ?_)); simp only [cntB_append, cntB_cons, cntB_nil, Nat.add_zero, Nat.zero_add]; try ac_rfl))); rw [haq] at h0; exact h0) hy (by omega)) rfl ?_
                exact J.finP rfl
              · skip
                refine Fin.consE rfl (Fin.nil ?_)
                first | refine J.skip rfl rfl rfl rfl rfl ?_ | refine J.skipU rfl rfl rfl rfl ?_ | (refine J.unguard rfl rfl rfl ?_; refine J.move rfl rfl ?_)
                exact J.finP rfl
              · skip
                refine Fin.consE rfl (Fin.nil ?_)
                first | refine J.skip rfl rfl rfl rfl rfl ?_ | refine J.skipU rfl rfl rfl rfl ?_ | (refine J.unguard rfl rfl rfl ?_; refine J.move rfl rfl ?_)
                exact J.finP rfl
              · skip
                refine Fin.consE rfl (Fin.consE rfl (Fin.consE rfl (Fin.nil ?_)))
                refine J.unguard rfl rfl rfl ?_
                refine J.indexAddrS Ty.el24 Ty.s23 rfl rfl (by omega) (by omega) rfl ?_
                exact J.finP rfl
              · skip
                refine Fin.consE rfl (Fin.consE rfl (Fin.nil ?_))
                refine J.unguard rfl rfl rfl ?_
                refine J.loadA (vs := cI x) Ty.a23 Ty.s23 rfl rfl (fun w1 hw => rowF_at (hr.below (hw.2.drop (List.nil_sublist _)).below) hx (by omega)) rfl ?_
                exact J.finP rfl
              · skip
                refine Fin.consE rfl (Fin.consE rfl (Fin.consE rfl (Fin.consE rfl (Fin.nil ?_))))
                refine J.unguard rfl rfl rfl ?_
                refine J.callD (v := .bool (decide (valI y < valI x))) Ty.bd41 rfl rfl (fun w1 hw => less_spec y x w1) ?_
                exact J.finQ rfl
              · skip
                refine Fin.consE rfl (Fin.consE rfl (Fin.nil ?_))
                (first | refine J.pickT rfl rfl rfl ?_ | refine J.pickF rfl rfl rfl ?_)
                exact J.finP rfl
            case htail =>
              refine Fin.consE rfl (Fin.consE rfl (Fin.consE rfl (Fin.consE rfl (Fin.consE rfl (Fin.consE rfl (Fin.consE rfl (Fin.consE rfl (Fin.consE rfl (Fin.consE rfl (Fin.consE rfl (Fin.consE rfl (Fin.consE rfl (Fin.consE rfl (Fin.consE rfl (Fin.nil ?_)))))))))))))))
              refine J.nil ?_
              refine JX.thenN (hK12 _ _ ?_)
              refine JC.cond rfl (fun h2 => ?_) (fun h2 => ?_)
              · skip
                have hlow : valI y < valI x := by simpa using h2
                refine JC.skip ?_
                refine JX.thenN (hK11 _ _ ?_)
                refine JC.block ?_
                refine JC.region ?_
                refine J.move rfl rfl ?_
                (first | refine J.addN rfl rfl (by omega) (by omega) rfl ?_ | refine J.bin rfl rfl rfl rfl ?_)
                refine J.assign rfl rfl ?_
                refine J.nil ?_
                refine JX.blockN ?_
                refine JX.thenN ?_
                refine JX.again (k + 1) ?_ ?_ ?_
                · omega
                · exact ⟨rfl, rfl, rfl, rfl, rfl, trivial⟩
                · exact fun w1 hw => ⟨⟨hat, fun j z hj hz => by
                  rcases Nat.lt_or_ge j k with h | h
                  · exact hbef j z h hz
                  · have : j = k := by omega
                    subst this
                    rw [hy] at hz; cases hz; exact hlow⟩, hw⟩
              · skip
                have hhigh : ¬ valI y < valI x := by simpa using h2
                refine JC.exit ?_
                refine JX.thenE ?_
                refine JX.thenE ?_
                refine JX.blockE ?_
                refine JX.thenN (hK10 _ _ ?_)
                refine JC.seq (fun K13 hK13 => ?_)
                refine JC.region ?_
                refine J.assign rfl rfl ?_
                refine J.nil ?_
                refine JX.thenN (hK13 _ _ ?_)
                refine JC.seq (fun K14 hK14 => ?_)
                refine JC.region ?_
                obtain ⟨_, hcap⟩ : ∃ u : Unit, out.length ≤ c := ⟨(), by rcases vecI hvo with ⟨h1, h2, _⟩ | ⟨_, _, _, h1, _, _, h4⟩ <;> simp only [Value.slice.injEq] at h1 <;> omega⟩
                have hpos : posI out x = k := posI_of hk hbef (fun z hz => by first | (rw [List.getElem?_eq_none (by omega)] at hz; cases hz) | (rw [hy] at hz; cases hz; exact hhigh))
                refine J.move rfl rfl ?_
                refine J.move rfl rfl ?_
                refine J.move rfl rfl ?_
                refine J.sliceS (i := 0) (j := k) Ty.el24 Ty.s23 rfl rfl rfl rfl rfl (by omega) (by omega) (by omega) rfl ?_
                refine J.append (lp := []) (xs := []) (ys := fI (out.take k)) (k := 0) (m := (out.take k).length) Ty.el24 Ty.s23 Ty.b23 Ty.zID rfl (.inl ⟨23, Ty.u24⟩) rfl rfl (Vec.nil _ _) (fun w1 hw => .inl (by
                  have h1 := rowI_slice (i := 0) (j := k) (hvo.row (S := []) (l := [(b2, cb (cI self) 23)]) (hw.perm (by (refine perm_cnt (fun _ => ?_)); simp only [cntB_append, cntB_cons, cntB_nil, Nat.add_zero, Nat.zero_add]; try ac_rfl))) (Nat.zero_le _) (by omega)
                  rw [List.drop_zero, Nat.sub_zero] at h1
                  exact h1)) (fI_length _) (fun y hy => fI_one hy) (by simp only [List.length_take, List.length_drop, List.length_append, List.length_cons, List.length_nil]; omega) (by simp only [List.length_take, List.length_drop, List.length_append, List.length_cons, List.length_nil]; omega) rfl (fun v50 lp50 hv50 => ?_)
                rw [Nat.zero_add, List.nil_append] at hv50
                refine J.assign rfl rfl ?_
                refine J.nil ?_
                refine JX.thenN (hK14 _ _ ?_)
                refine JC.seq (fun K15 hK15 => ?_)
                refine JC.region ?_
                refine J.move rfl rfl ?_
                refine J.move rfl rfl ?_
                refine J.move rfl rfl ?_
                refine J.indexAddrS Ty.el24 Ty.s23 rfl rfl (by omega) (by omega) rfl ?_
                refine J.loadA (vs := cI x) Ty.a23 Ty.s23 rfl rfl (fun w1 hw => rowF_at (hr.below (hw.drop (List.nil_sublist _)).below) hx (by omega)) rfl ?_
                refine J.buildSl (cs := cI x) Ty.el24 Ty.s23 Ty.zID rfl rfl rfl rfl (by kernel_rfl) rfl rfl (fun b56 => ?_)
                refine J.perm (lp50 ++ ((b56, cb (cI x) 23) :: (b2, cb (cI self) 23) :: lp)) (by (refine perm_cnt (fun _ => ?_)); simp only [cntB_append, cntB_cons, cntB_nil, Nat.add_zero, Nat.zero_add]; try ac_rfl) ?_
                refine J.append (lp := lp50) (xs := fI (out.take k)) (ys := fI [x]) (k := (out.take k).length) (m := 1) Ty.el24 Ty.s23 Ty.b23 Ty.zID rfl (.inl ⟨23, Ty.u24⟩) rfl rfl hv50 (fun w1 hw => .inl (Row.own (cs := cI x) (tb := 23) (fr := (0, 0)) hw (List.mem_append_right _ (.head _)) rfl (Nat.le_refl _))) (fI_length _) (fun y hy => fI_one hy) (by simp only [List.length_take, List.length_drop, List.length_append, List.length_cons, List.length_nil]; omega) (by simp only [List.length_take, List.length_drop, List.length_append, List.length_cons, List.length_nil]; omega) rfl (fun v57 lp57 hv57 => ?_)
                rw [← fI_append] at hv57
                refine J.assign rfl rfl ?_
                refine J.nil ?_
                refine JX.thenN (hK15 _ _ ?_)
                refine JC.region ?_
                refine J.move rfl rfl ?_
                refine J.move rfl rfl ?_
                refine J.move rfl rfl ?_
                refine J.sliceS (i := k) (j := out.length) Ty.el24 Ty.s23 rfl rfl rfl rfl rfl (by omega) (by omega) (by omega) rfl ?_
                refine J.append (lp := lp57) (xs := fI ((out.take k) ++ [x])) (ys := fI (out.drop k)) (k := ((out.take k).length + 1)) (m := (out.drop k).length) Ty.el24 Ty.s23 Ty.b23 Ty.zID rfl (.inl ⟨23, Ty.u24⟩) rfl rfl hv57 (fun w1 hw => .inl (by
                  have h1 := rowI_slice (i := k) (j := out.length) (hvo.row (S := []) (l := lp57 ++ ((b56, cb (cI x) 23) :: [(b2, cb (cI self) 23)])) (hw.perm (by (refine perm_cnt (fun _ => ?_)); simp only [cntB_append, cntB_cons, cntB_nil, Nat.add_zero, Nat.zero_add]; try ac_rfl))) (by omega) (by omega)
                  rw [List.take_of_length_le (by rw [List.length_drop]; omega), List.length_drop] at h1
                  rw [List.length_drop]
                  exact h1)) (fI_length _) (fun y hy => fI_one hy) (by simp only [List.length_take, List.length_drop, List.length_append, List.length_cons, List.length_nil]; omega) (by simp only [List.length_take, List.length_drop, List.length_append, List.length_cons, List.length_nil]; omega) rfl (fun v62 lp62 hv62 => ?_)
                have hins : ((out.take k) ++ [x]) ++ (out.drop k) = insI out x := by unfold insI; rw [hpos]; simp
                have hv62n : Vec 23 16 v62 (insI out x).length (fI (insI out x)) lp62 := by
                  rw [← hins, List.length_append, List.length_append, fI_append]; exact hv62
                obtain ⟨a62, c62, rfl, hc62⟩ := hv62n.form
                refine J.assign rfl rfl ?_
                refine J.nil ?_
                refine JX.blockN ?_
                refine JX.thenN (hK6 _ _ ?_)
                refine JC.region ?_
                refine J.move rfl rfl ?_
                (first | refine J.addN rfl rfl (by omega) (by omega) rfl ?_ | refine J.bin rfl rfl rfl rfl ?_)
                refine J.assign rfl rfl ?_
                refine J.nil ?_
                refine JX.thenN ?_
                refine JX.again (⟨i + 1, insI out x, a62, c62, lp62⟩ : RS) ?_ ?_ ?_
                · simp only; omega
                · exact ⟨rfl, rfl, rfl, rfl, trivial⟩
                · exact fun w1 hw => ⟨⟨hlt, by rw [sortI_step hx, ← ho, stepS, if_neg (by rintro (h | h); exact hself h; exact hin h)], hv62n⟩, (hw.perm (l' := ((b2, cb (cI self) 23) :: lp62) ++ ((b56, cb (cI x) 23) :: lp)) (by (refine perm_cnt (fun _ => ?_)); simp only [cntB_append, cntB_cons, cntB_nil, Nat.add_zero, Nat.zero_add]; try ac_rfl)).drop (List.sublist_append_left _ _)⟩
          · skip
            apply JC.drawL 15 [Eqv (.int .i64 ((k : Nat) : Int)), Eqv (.slice a out.length c), Eqv (.int .i64 ((out.length : Nat) : Int)), Eqv (.bool false), Eqv (.bool false), Eqv (undef), Eqv (undef), Eqv (undef), Eqv (undef), Eqv (undef), Eqv (undef), Eqv (undef), Eqv (undef), Eqv (undef), Eqv (.bool false)] Ty.mixed rfl rfl rfl (by kernel_rfl) rfl rfl (fun w w' hw hb => hw.step hb) ⟨fun _ _ _ h _ => h, fun _ _ _ h _ => h, fun _ _ _ h _ => h, fun _ _ _ h _ => h, fun _ _ _ h _ => h, fun _ _ _ h _ => h, fun _ _ _ h _ => h, fun _ _ _ h _ => h, fun _ _ _ h _ => h, fun _ _ _ h _ => h, fun _ _ _ h _ => h, fun _ _ _ h _ => h, fun _ _ _ h _ => h, fun _ _ _ h _ => h, fun _ _ _ h _ => h, trivial⟩ ?hstep ?htail
            case hstep =>
              refine ⟨fun wi => ?_, fun wi => ?_, fun wi => ?_, fun wi => ?_, fun wi => ?_, fun wi => ?_, fun wi => ?_, fun wi => ?_, fun wi => ?_, fun wi => ?_, fun wi => ?_, fun wi => ?_, fun wi => ?_, fun wi => ?_, fun wi => ?_, trivial⟩
              · skip
                refine Fin.nil ?_
                refine J.move rfl rfl ?_
                exact J.finP rfl
              · skip
                refine Fin.nil ?_
                refine J.move rfl rfl ?_
                exact J.finP rfl
              · skip
                refine Fin.consE rfl (Fin.nil ?_)
                refine J.lenS rfl Ty.u24 rfl rfl ?_
                exact J.finP rfl
              · skip
                refine Fin.consE rfl (Fin.consE rfl (Fin.nil ?_))
                refine J.bin rfl rfl rfl rfl ?_
                refine J.name 32 rfl (show _ = Value.bool false by simp; omega) ?_
                exact J.finP rfl
              · skip
                refine Fin.consE rfl (Fin.nil ?_)
                refine J.move rfl rfl ?_
                exact J.finP rfl
              · skip
                refine Fin.consE rfl (Fin.nil ?_)
                first | refine J.skip rfl rfl rfl rfl rfl ?_ | refine J.skipU rfl rfl rfl rfl ?_ | (refine J.unguard rfl rfl rfl ?_; refine J.move rfl rfl ?_)
                exact J.finP rfl
              · skip
                refine Fin.consE rfl (Fin.nil ?_)
                first | refine J.skip rfl rfl rfl rfl rfl ?_ | refine J.skipU rfl rfl rfl rfl ?_ | (refine J.unguard rfl rfl rfl ?_; refine J.move rfl rfl ?_)
                exact J.finP rfl
              · skip
                refine Fin.consE rfl (Fin.consE rfl (Fin.consE rfl (Fin.nil ?_)))
                first | refine J.skip rfl rfl rfl rfl rfl ?_ | refine J.skipU rfl rfl rfl rfl ?_ | (refine J.unguard rfl rfl rfl ?_; refine J.indexAddrS Ty.el24 Ty.s23 rfl rfl (by omega) (by omega) rfl ?_)
                exact J.finP rfl
              · skip
                refine Fin.consE rfl (Fin.consE rfl (Fin.nil ?_))
                first | refine J.skip rfl rfl rfl rfl rfl ?_ | refine J.skipU rfl rfl rfl rfl ?_ | (refine J.unguard rfl rfl rfl ?_; refine J.loadOA Ty.a23 Ty.s23 rfl (by repeat first | exact .head _ | apply List.Mem.tail | apply List.mem_append_right) (by exact rfl) rfl rfl ?_)
                exact J.finP rfl
              · skip
                refine Fin.consE rfl (Fin.nil ?_)
                first | refine J.skip rfl rfl rfl rfl rfl ?_ | refine J.skipU rfl rfl rfl rfl ?_ | (refine J.unguard rfl rfl rfl ?_; refine J.move rfl rfl ?_)
                exact J.finP rfl
              · skip
                refine Fin.consE rfl (Fin.nil ?_)
                first | refine J.skip rfl rfl rfl rfl rfl ?_ | refine J.skipU rfl rfl rfl rfl ?_ | (refine J.unguard rfl rfl rfl ?_; refine J.move rfl rfl ?_)
                exact J.finP rfl
              · skip
                refine Fin.consE rfl (Fin.consE rfl (Fin.consE rfl (Fin.nil ?_)))
                first | refine J.skip rfl rfl rfl rfl rfl ?_ | refine J.skipU rfl rfl rfl rfl ?_ | (refine J.unguard rfl rfl rfl ?_; refine J.indexAddrS Ty.el24 Ty.s23 rfl rfl (by omega) (by omega) rfl ?_)
                exact J.finP rfl
              · skip
                refine Fin.consE rfl (Fin.consE rfl (Fin.nil ?_))
                first | refine J.skip rfl rfl rfl rfl rfl ?_ | refine J.skipU rfl rfl rfl rfl ?_ | (refine J.unguard rfl rfl rfl ?_; refine J.loadOA Ty.a23 Ty.s23 rfl (by repeat first | exact .head _ | apply List.Mem.tail | apply List.mem_append_right) (by exact rfl) rfl rfl ?_)
                exact J.finP rfl
              · skip
                refine Fin.consE rfl (Fin.consE rfl (Fin.consE rfl (Fin.consE rfl (Fin.nil ?_))))
                first | refine J.skip rfl rfl rfl rfl rfl ?_ | refine J.skipU rfl rfl rfl rfl ?_ | (refine J.unguard rfl rfl rfl ?_; fail)
                exact J.finP rfl
              · skip
                refine Fin.consE rfl (Fin.consE rfl (Fin.nil ?_))
                (first | refine J.pickT rfl rfl rfl ?_ | refine J.pickF rfl rfl rfl ?_)
                exact J.finP rfl
            case htail =>
              refine Fin.consE rfl (Fin.consE rfl (Fin.consE rfl (Fin.consE rfl (Fin.consE rfl (Fin.consE rfl (Fin.consE rfl (Fin.consE rfl (Fin.consE rfl (Fin.consE rfl (Fin.consE rfl (Fin.consE rfl (Fin.consE rfl (Fin.consE rfl (Fin.consE rfl (Fin.nil ?_)))))))))))))))
              refine J.nil ?_
              refine JX.thenN (hK12 _ _ ?_)
              first | refine JC.condF rfl ?_ | refine JC.cond rfl (fun h => by first | (exfalso; simp at h; omega) | (simp at h)) (fun _ => ?_)
              refine JC.exit ?_
              refine JX.thenE ?_
              refine JX.thenE ?_
              refine JX.blockE ?_
              refine JX.thenN (hK10 _ _ ?_)
              refine JC.seq (fun K16 hK16 => ?_)
              refine JC.region ?_
              refine J.assign rfl rfl ?_
              refine J.nil ?_
              refine JX.thenN (hK16 _ _ ?_)
              refine JC.seq (fun K17 hK17 => ?_)
              refine JC.region ?_
              obtain ⟨_, hcap⟩ : ∃ u : Unit, out.length ≤ c := ⟨(), by rcases vecI hvo with ⟨h1, h2, _⟩ | ⟨_, _, _, h1, _, _, h4⟩ <;> simp only [Value.slice.injEq] at h1 <;> omega⟩
              have hpos : posI out x = k := posI_of hk hbef (fun z hz => by first | (rw [List.getElem?_eq_none (by omega)] at hz; cases hz) | (rw [hy] at hz; cases hz; exact hhigh))
              refine J.move rfl rfl ?_
              refine J.move rfl rfl ?_
              refine J.move rfl rfl ?_
              refine J.sliceS (i := 0) (j := k) Ty.el24 Ty.s23 rfl rfl rfl rfl rfl (by omega) (by omega) (by omega) rfl ?_
              refine J.append (lp := []) (xs := []) (ys := fI (out.take k)) (k := 0) (m := (out.take k).length) Ty.el24 Ty.s23 Ty.b23 Ty.zID rfl (.inl ⟨23, Ty.u24⟩) rfl rfl (Vec.nil _ _) (fun w1 hw => .inl (by
                have h1 := rowI_slice (i := 0) (j := k) (hvo.row (S := []) (l := [(b2, cb (cI self) 23)]) (hw.perm (by (refine perm_cnt (fun _ => ?_)); simp only [cntB_append, cntB_cons, cntB_nil, Nat.add_zero, Nat.zero_add]; try ac_rfl))) (Nat.zero_le _) (by omega)
                rw [List.drop_zero, Nat.sub_zero] at h1
                exact h1)) (fI_length _) (fun y hy => fI_one hy) (by simp only [List.length_take, List.length_drop, List.length_append, List.length_cons, List.length_nil]; omega) (by simp only [List.length_take, List.length_drop, List.length_append, List.length_cons, List.length_nil]; omega) rfl (fun v50 lp50 hv50 => ?_)
              rw [Nat.zero_add, List.nil_append] at hv50
              refine J.assign rfl rfl ?_
              refine J.nil ?_
              refine JX.thenN (hK17 _ _ ?_)
              refine JC.seq (fun K18 hK18 => ?_)
              refine JC.region ?_
              refine J.move rfl rfl ?_
              refine J.move rfl rfl ?_
              refine J.move rfl rfl ?_
              refine J.indexAddrS Ty.el24 Ty.s23 rfl rfl (by omega) (by omega) rfl ?_
              refine J.loadA (vs := cI x) Ty.a23 Ty.s23 rfl rfl (fun w1 hw => rowF_at (hr.below (hw.drop (List.nil_sublist _)).below) hx (by omega)) rfl ?_
              refine J.buildSl (cs := cI x) Ty.el24 Ty.s23 Ty.zID rfl rfl rfl rfl (by kernel_rfl) rfl rfl (fun b56 => ?_)
              refine J.perm (lp50 ++ ((b56, cb (cI x) 23) :: (b2, cb (cI self) 23) :: lp)) (by (refine perm_cnt (fun _ => ?_)); simp only [cntB_append, cntB_cons, cntB_nil, Nat.add_zero, Nat.zero_add]; try ac_rfl) ?_
              refine J.append (lp := lp50) (xs := fI (out.take k)) (ys := fI [x]) (k := (out.take k).length) (m := 1) Ty.el24 Ty.s23 Ty.b23 Ty.zID rfl (.inl ⟨23, Ty.u24⟩) rfl rfl hv50 (fun w1 hw => .inl (Row.own (cs := cI x) (tb := 23) (fr := (0, 0)) hw (List.mem_append_right _ (.head _)) rfl (Nat.le_refl _))) (fI_length _) (fun y hy => fI_one hy) (by simp only [List.length_take, List.length_drop, List.length_append, List.length_cons, List.length_nil]; omega) (by simp only [List.length_take, List.length_drop, List.length_append, List.length_cons, List.length_nil]; omega) rfl (fun v57 lp57 hv57 => ?_)
              rw [← fI_append] at hv57
              refine J.assign rfl rfl ?_
              refine J.nil ?_
              refine JX.thenN (hK18 _ _ ?_)
              refine JC.region ?_
              refine J.move rfl rfl ?_
              refine J.move rfl rfl ?_
              refine J.move rfl rfl ?_
              refine J.sliceS (i := k) (j := out.length) Ty.el24 Ty.s23 rfl rfl rfl rfl rfl (by omega) (by omega) (by omega) rfl ?_
              refine J.append (lp := lp57) (xs := fI ((out.take k) ++ [x])) (ys := fI (out.drop k)) (k := ((out.take k).length + 1)) (m := (out.drop k).length) Ty.el24 Ty.s23 Ty.b23 Ty.zID rfl (.inl ⟨23, Ty.u24⟩) rfl rfl hv57 (fun w1 hw => .inl (by
                have h1 := rowI_slice (i := k) (j := out.length) (hvo.row (S := []) (l := lp57 ++ ((b56, cb (cI x) 23) :: [(b2, cb (cI self) 23)])) (hw.perm (by (refine perm_cnt (fun _ => ?_)); simp only [cntB_append, cntB_cons, cntB_nil, Nat.add_zero, Nat.zero_add]; try ac_rfl))) (by omega) (by omega)
                rw [List.take_of_length_le (by rw [List.length_drop]; omega), List.length_drop] at h1
                rw [List.length_drop]
                exact h1)) (fI_length _) (fun y hy => fI_one hy) (by simp only [List.length_take, List.length_drop, List.length_append, List.length_cons, List.length_nil]; omega) (by simp only [List.length_take, List.length_drop, List.length_append, List.length_cons, List.length_nil]; omega) rfl (fun v62 lp62 hv62 => ?_)
              have hins : ((out.take k) ++ [x]) ++ (out.drop k) = insI out x := by unfold insI; rw [hpos]; simp
              have hv62n : Vec 23 16 v62 (insI out x).length (fI (insI out x)) lp62 := by
                rw [← hins, List.length_append, List.length_append, fI_append]; exact hv62
              obtain ⟨a62, c62, rfl, hc62⟩ := hv62n.form
              refine J.assign rfl rfl ?_
              refine J.nil ?_
              refine JX.blockN ?_
              refine JX.thenN (hK6 _ _ ?_)
              refine JC.region ?_
              refine J.move rfl rfl ?_
              (first | refine J.addN rfl rfl (by omega) (by omega) rfl ?_ | refine J.bin rfl rfl rfl rfl ?_)
              refine J.assign rfl rfl ?_
              refine J.nil ?_
              refine JX.thenN ?_
              refine JX.again (⟨i + 1, insI out x, a62, c62, lp62⟩ : RS) ?_ ?_ ?_
              · simp only; omega
              · exact ⟨rfl, rfl, rfl, rfl, trivial⟩
              · exact fun w1 hw => ⟨⟨hlt, by rw [sortI_step hx, ← ho, stepS, if_neg (by rintro (h | h); exact hself h; exact hin h)], hv62n⟩, (hw.perm (l' := ((b2, cb (cI self) 23) :: lp62) ++ ((b56, cb (cI x) 23) :: lp)) (by (refine perm_cnt (fun _ => ?_)); simp only [cntB_append, cntB_cons, cntB_nil, Nat.add_zero, Nat.zero_add]; try ac_rfl)).drop (List.sublist_append_left _ _)⟩
  · skip
    have hge : i = xs.length := by simp at h0; omega
    subst hge
    rw [List.take_of_length_le (Nat.le_refl _)] at ho
    refine JC.exit ?_
    refine JX.thenE ?_
    refine JX.thenE ?_
    refine JX.blockE ?_
    refine JX.thenN (hK2 _ _ ?_)
    refine JC.seq (fun K19 hK19 => ?_)
    refine JC.region ?_
    refine J.move rfl rfl ?_
    refine J.assign rfl rfl ?_
    refine J.nil ?_
    refine JX.thenN (hK19 _ _ ?_)
    refine JC.ret ?_
    refine JX.ret1 rfl rfl (fun w hw => ?_)
    rw [ho] at hvo ⊢
    exact ⟨(_, lp), rfl, hvo, hw.drop (List.sublist_cons_self _ _)⟩

end Go.Proofs.Ytbafhclandendaa
