/-
  A path begins: what setup.Start does where nothing but the table can refuse: contracts.
-/
import Derived.Test.YtpldpkdlloolkaaTg
import Derived.Test.YtpldpkdlloolkaaTb
namespace Go.Proofs.Ytpldpkdlloolkaa
open Go.J Go.RowKit
set_option linter.unusedVariables false
set_option linter.unusedSimpArgs false
set_option maxRecDepth 8000
abbrev cW (n : Int) (id : IDV) : List Value := iV n :: cI id
abbrev cH (n : Int) (f : List Value) : List Value := iV n :: f
/-- what a step that hands a Setup on leaves: the hop's block, the trail's slice, the map -/
structure OutS where
  h : Nat
  a : Option Addr
  c : Nat
  lp : List (Nat × Obj)
  es : Array MapEntry
  ck : Nat
abbrev cD (out : Value) (mine full : Bool) : List Value := [out, .bool mine, .bool full]
theorem zW : zeroT Try.prog 41 = some (.agg (cW 0 zI).toArray) := by kernel_rfl
theorem zH : zeroT Try.prog 54 = some (.agg (cH 0 (cF 0 zP zI zI nilV)).toArray) := by kernel_rfl
theorem zN : zeroT Try.prog 37 = some (.agg (cD nilV false false).toArray) := by kernel_rfl
theorem rowI_at {w : World} {b o k c q i : Nat} {xs : List Int} {n : Int} (h : Row w (.slice (some ⟨b, o, none⟩) k c) k (xs.map iV)) (hi : xs[i]? = some n) (hq : q = o + i) : w.cell? ⟨b, q, none⟩ = some (iV n) := by
  have hl : i < xs.length := (List.getElem?_eq_some_iff.1 hi).1
  obtain ⟨b', o', c', hv, _, hc⟩ := Row.some h (by simp; omega)
  simp only [Value.slice.injEq, Option.some.injEq, Addr.mk.injEq] at hv
  obtain ⟨⟨rfl, rfl, _⟩, _, rfl⟩ := hv
  exact hc.get (i := i) (by rw [List.getElem?_map, hi]; rfl) hq
theorem add_all {t mb : Nat} {most : Int} {L : List EV} {es : Array MapEntry} {clock : Nat} {w : World} (hw0 : Own w [(t, tabO most mb), (mb, .map es clock)]) (hT : Tab L es clock) (x : EV) (hx : okE x) {e : Int} {L' : List EV} (hadd : tadd L most x = (e, L')) :
    Calls Try.prog 17 [.pointer (some ⟨t, 0, none⟩), .agg (cE x).toArray].toArray w fun r w' => ∃ y : Array MapEntry × Nat, r = .returned (.int .i64 e) ∧ Tab L' y.1 y.2 ∧ St w [t, mb] [(t, tabO most mb), (mb, .map y.1 y.2)] w' := by
  have h := add_spec t mb most L es clock w hw0 hT x hx
  rw [hadd] at h
  exact h
theorem okN_small {n : Int} (h1 : -9223372036854775808 ≤ n) (h2 : n < 9223372036854775808) : okN n := by
  simp [okN, Lit.wf, IntKind.min, IntKind.max, IntKind.signed, IntKind.bits]
  omega
theorem open_bounds {os : List Bool} {n : Int} (h : openQ os n = true) : 0 ≤ n ∧ n.toNat < os.length := by
  simp only [openQ, Bool.and_eq_true, decide_eq_true_eq] at h
  refine ⟨h.1, ?_⟩
  rcases Nat.lt_or_ge n.toNat os.length with h1 | h1
  · exact h1
  · rw [List.getElem?_eq_none h1] at h; simp at h

theorem start_full (t mb : Nat) (most : Int) (L : List EV) (es : Array MapEntry) (clock : Nat) (w : World) (hw0 : Own w [(t, tabO most mb), (mb, .map es clock)]) (hT : Tab L es clock) (n n1 : Int) (id b : IDV) (p : PV) (hp : okN p.n) (wb wo wc : Nat) (rest : List Int) (hr : Row w (.slice (some ⟨wb, wo, none⟩) (rest.length + 2) wc) (rest.length + 2) ((n :: n1 :: rest).map iV)) (hoff : Off [t, mb] (.slice (some ⟨wb, wo, none⟩) (rest.length + 2) wc) ((n :: n1 :: rest).map iV)) (hlen : rest.length ≤ 62) (hnd : (n :: n1 :: rest).Nodup) (hne : b ≠ id) (ov : Value) (os : List Bool) (hro : Row w ov os.length (os.map bV)) (hoffo : Off [t, mb] ov (os.map bV)) (hlo : os.length < 4611686018427387904) (hop : openQ os n1 = true) {e : Int} {L' : List EV} (hadd : tadd L most (⟨p, id, b, -1, n1⟩ : EV) = (e, L')) (he : e ≠ 0) :
    Calls Try.prog 18 [.pointer (some ⟨t, 0, none⟩), .agg (cW n id).toArray, .agg (cP p).toArray, .agg (cI b).toArray, .slice (some ⟨wb, wo, none⟩) (rest.length + 2) wc, ov].toArray w fun r w' => ∃ y : Array MapEntry × Nat, r = .returned (.tuple #[.agg (cD nilV false (e == 5)).toArray, .int .i64 e]) ∧ Tab L' y.1 y.2 ∧ St w [t, mb] [(t, tabO most mb), (mb, .map y.1 y.2)] w' := by
  obtain ⟨hn0, hn1⟩ := open_bounds hop
  have hokE : okE (⟨p, id, b, -1, n1⟩ : EV) := ⟨hp, okN_small (n := -1) (by omega) (by omega), okN_small (n := n1) (by omega) (by omega)⟩
  refine calls_of_J (args := [.pointer (some ⟨t, 0, none⟩), .agg (cW n id).toArray, .agg (cP p).toArray, .agg (cI b).toArray, .slice (some ⟨wb, wo, none⟩) (rest.length + 2) wc, ov]) (e := [(0, .pointer (some ⟨t, 0, none⟩)), (1, .agg (cW n id).toArray), (2, .agg (cP p).toArray), (3, .agg (cI b).toArray), (4, .slice (some ⟨wb, wo, none⟩) (rest.length + 2) wc), (5, ov)]) Try.func18 rfl rfl ⟨rfl, rfl, rfl, rfl, rfl, rfl, trivial⟩ (hw0.st) ?_
  refine JC.seq (fun K0 hK0 => ?_)
  refine JC.region ?_
  refine J.box rfl rfl rfl (fun b7 => ?_)
  refine J.box rfl rfl rfl (fun b8 => ?_)
  refine J.box rfl rfl rfl (fun b9 => ?_)
  refine J.alloc zN rfl rfl (fun b12 => ?_)
  refine J.assign rfl rfl ?_
  refine J.nil ?_
  refine JX.thenN (hK0 _ _ ?_)
  refine JC.seq (fun K1 hK1 => ?_)
  refine JC.seq (fun K2 hK2 => ?_)
  apply JC.drawL 31 [Eqv (.pointer (some ⟨t, 0, none⟩)), Eqv (.bool false), Eqv (.bool false), Eqv (.slice (some ⟨wb, wo, none⟩) (rest.length + 2) wc), Eqv (.int .i64 ((rest.length + 2 : Nat) : Int)), Eqv (.bool false), Eqv (.bool false), Eqv (.bool false), Eqv (.slice (some ⟨wb, wo, none⟩) (rest.length + 2) wc), Eqv (.int .i64 ((rest.length + 2 : Nat) : Int)), Eqv (.bool false), Eqv (.bool false), Eqv (.bool false), Eqv (.slice (some ⟨wb, wo, none⟩) (rest.length + 2) wc), Eqv (.bool true), Eqv (.bool false), Eqv (.bool false), Eqv (.bool false), Eqv (.slice (some ⟨wb, wo, none⟩) (rest.length + 2) wc), Eqv (.pointer (some ⟨wb, wo + (0 : Int).toNat * 1, none⟩)), Eqv (iV n), Eqv (.pointer (some ⟨b7, 0 + 0, none⟩)), Eqv (iV n), Eqv (.bool false), Eqv (.bool false), Eqv (.bool false), Eqv (.agg (cI b).toArray), Eqv (.pointer (some ⟨b7, 0 + 1, none⟩)), Eqv (.agg (cI id).toArray), Eqv (.bool false), Eqv (.bool false)] Ty.mixed rfl rfl rfl (by kernel_rfl) rfl rfl (fun w w' hw hb => hw.step hb) ⟨fun _ _ _ h _ => h, fun _ _ _ h _ => h, fun _ _ _ h _ => h, fun _ _ _ h _ => h, fun _ _ _ h _ => h, fun _ _ _ h _ => h, fun _ _ _ h _ => h, fun _ _ _ h _ => h, fun _ _ _ h _ => h, fun _ _ _ h _ => h, fun _ _ _ h _ => h, fun _ _ _ h _ => h, fun _ _ _ h _ => h, fun _ _ _ h _ => h, fun _ _ _ h _ => h, fun _ _ _ h _ => h, fun _ _ _ h _ => h, fun _ _ _ h _ => h, fun _ _ _ h _ => h, fun _ _ _ h _ => h, fun _ _ _ h _ => h, fun _ _ _ h _ => h, fun _ _ _ h _ => h, fun _ _ _ h _ => h, fun _ _ _ h _ => h, fun _ _ _ h _ => h, fun _ _ _ h _ => h, fun _ _ _ h _ => h, fun _ _ _ h _ => h, fun _ _ _ h _ => h, fun _ _ _ h _ => h, trivial⟩ ?hstep ?htail
  case hstep =>
    refine ⟨fun wi => ?_, fun wi => ?_, fun wi => ?_, fun wi => ?_, fun wi => ?_, fun wi => ?_, fun wi => ?_, fun wi => ?_, fun wi => ?_, fun wi => ?_, fun wi => ?_, fun wi => ?_, fun wi => ?_, fun wi => ?_, fun wi => ?_, fun wi => ?_, fun wi => ?_, fun wi => ?_, fun wi => ?_, fun wi => ?_, fun wi => ?_, fun wi => ?_, fun wi => ?_, fun wi => ?_, fun wi => ?_, fun wi => ?_, fun wi => ?_, fun wi => ?_, fun wi => ?_, fun wi => ?_, fun wi => ?_, trivial⟩
    · skip
      refine Fin.nil ?_
      refine J.move rfl rfl ?_
      exact J.finP rfl
    · skip
      refine Fin.consE rfl (Fin.nil ?_)
      refine J.eqNil Ty.u29 rfl rfl rfl ?_
      exact J.finP rfl
    · skip
      refine Fin.consE rfl (Fin.nil ?_)
      refine J.move rfl rfl ?_
      exact J.finP rfl
    · skip
      refine Fin.consE rfl (Fin.nil ?_)
      first | refine J.skip rfl rfl rfl rfl rfl ?_ | refine J.skipU rfl rfl rfl rfl ?_ | (refine J.unguard rfl rfl rfl ?_; refine J.move rfl rfl ?_)
      exact J.finP rfl
    · skip
      refine Fin.consE rfl (Fin.consE rfl (Fin.nil ?_))
      first | refine J.skip rfl rfl rfl rfl rfl ?_ | refine J.skipU rfl rfl rfl rfl ?_ | (refine J.unguard rfl rfl rfl ?_; refine J.lenS rfl Ty.u26 rfl rfl ?_)
      exact J.finP rfl
    · skip
      refine Fin.consE rfl (Fin.consE rfl (Fin.nil ?_))
      refine J.unguard rfl rfl rfl ?_
      refine J.bin rfl rfl rfl rfl ?_
      refine J.name 21 rfl (show Value.bool _ = .bool false by simp; omega) ?_
      exact J.finP rfl
    · skip
      refine Fin.consE rfl (Fin.consE rfl (Fin.nil ?_))
      (first | refine J.pickT rfl rfl rfl ?_ | refine J.pickF rfl rfl rfl ?_)
      exact J.finP rfl
    · skip
      refine Fin.consE rfl (Fin.consE rfl (Fin.nil ?_))
      refine J.move rfl rfl ?_
      exact J.finP rfl
    · skip
      refine Fin.consE rfl (Fin.nil ?_)
      first | refine J.skip rfl rfl rfl rfl rfl ?_ | refine J.skipU rfl rfl rfl rfl ?_ | (refine J.unguard rfl rfl rfl ?_; refine J.move rfl rfl ?_)
      exact J.finP rfl
    · skip
      refine Fin.consE rfl (Fin.consE rfl (Fin.nil ?_))
      first | refine J.skip rfl rfl rfl rfl rfl ?_ | refine J.skipU rfl rfl rfl rfl ?_ | (refine J.unguard rfl rfl rfl ?_; refine J.lenS rfl Ty.u26 rfl rfl ?_)
      exact J.finP rfl
    · skip
      refine Fin.consE rfl (Fin.consE rfl (Fin.nil ?_))
      refine J.unguard rfl rfl rfl ?_
      refine J.bin rfl rfl rfl rfl ?_
      refine J.name 26 rfl (show Value.bool _ = .bool false by simp; omega) ?_
      exact J.finP rfl
    · skip
      refine Fin.consE rfl (Fin.consE rfl (Fin.nil ?_))
      (first | refine J.pickT rfl rfl rfl ?_ | refine J.pickF rfl rfl rfl ?_)
      exact J.finP rfl
    · skip
      refine Fin.consE rfl (Fin.consE rfl (Fin.nil ?_))
      refine J.move rfl rfl ?_
      exact J.finP rfl
    · skip
      refine Fin.consE rfl (Fin.nil ?_)
      first | refine J.skip rfl rfl rfl rfl rfl ?_ | refine J.skipU rfl rfl rfl rfl ?_ | (refine J.unguard rfl rfl rfl ?_; refine J.move rfl rfl ?_)
      exact J.finP rfl
    · skip
      refine Fin.consE rfl (Fin.consE rfl (Fin.consE rfl (Fin.nil ?_)))
      refine J.unguard rfl rfl rfl ?_
      refine J.callD (v := .bool true) Ty.bd52 rfl rfl (fun w1 hw => by
        have h := simple_spec _ (n :: n1 :: rest) w1 (hr.st hoff hw) (by simp; omega)
        rw [decide_eq_true hnd] at h
        exact h) ?_
      exact J.finQ rfl
    · skip
      refine Fin.consE rfl (Fin.consE rfl (Fin.nil ?_))
      first | refine J.skip rfl rfl rfl rfl rfl ?_ | refine J.skipU rfl rfl rfl rfl ?_ | (refine J.unguard rfl rfl rfl ?_; refine J.not rfl rfl ?_)
      exact J.finP rfl
    · skip
      refine Fin.consE rfl (Fin.consE rfl (Fin.nil ?_))
      (first | refine J.pickT rfl rfl rfl ?_ | refine J.pickF rfl rfl rfl ?_)
      exact J.finP rfl
    · skip
      refine Fin.consE rfl (Fin.consE rfl (Fin.nil ?_))
      refine J.move rfl rfl ?_
      exact J.finP rfl
    · skip
      refine Fin.consE rfl (Fin.nil ?_)
      first | refine J.skip rfl rfl rfl rfl rfl ?_ | refine J.skipU rfl rfl rfl rfl ?_ | (refine J.unguard rfl rfl rfl ?_; refine J.move rfl rfl ?_)
      exact J.finP rfl
    · skip
      refine Fin.consE rfl (Fin.consE rfl (Fin.nil ?_))
      first | refine J.skip rfl rfl rfl rfl rfl ?_ | refine J.skipU rfl rfl rfl rfl ?_ | (refine J.unguard rfl rfl rfl ?_; refine J.indexAddrS Ty.el26 Ty.s3 rfl rfl (by omega) (by omega) rfl ?_)
      exact J.finP rfl
    · skip
      refine Fin.consE rfl (Fin.consE rfl (Fin.nil ?_))
      refine J.unguard rfl rfl rfl ?_
      refine J.load1 (v := iV n) Ty.a3 rfl (fun w1 hw => rowI_at (i := 0) (hr.st hoff hw.2) rfl (by omega)) rfl ?_
      exact J.finP rfl
    · skip
      refine Fin.consE rfl (Fin.nil ?_)
      first | refine J.skip rfl rfl rfl rfl rfl ?_ | refine J.skipU rfl rfl rfl rfl ?_ | (refine J.unguard rfl rfl rfl ?_; refine J.fieldAddr Ty.fd41_0 rfl rfl ?_)
      exact J.finP rfl
    · skip
      refine Fin.consE rfl (Fin.consE rfl (Fin.nil ?_))
      first | refine J.skip rfl rfl rfl rfl rfl ?_ | refine J.skipU rfl rfl rfl rfl ?_ | (refine J.unguard rfl rfl rfl ?_; refine J.load1 Ty.a3 rfl (fun w hw => (cell_of (hw.2.own (_, _) (by repeat first | exact .head _ | apply List.Mem.tail | apply List.mem_append_right))).trans (by exact rfl)) rfl ?_)
      exact J.finP rfl
    · skip
      refine Fin.consE rfl (Fin.consE rfl (Fin.consE rfl (Fin.nil ?_)))
      refine J.unguard rfl rfl rfl ?_
      refine J.bin rfl rfl rfl rfl ?_
      refine J.name 39 rfl (show Value.bool _ = .bool false by simp) ?_
      exact J.finP rfl
    · skip
      refine Fin.consE rfl (Fin.consE rfl (Fin.nil ?_))
      (first | refine J.pickT rfl rfl rfl ?_ | refine J.pickF rfl rfl rfl ?_)
      exact J.finP rfl
    · skip
      refine Fin.consE rfl (Fin.consE rfl (Fin.nil ?_))
      refine J.move rfl rfl ?_
      exact J.finP rfl
    · skip
      refine Fin.consE rfl (Fin.nil ?_)
      first | refine J.skip rfl rfl rfl rfl rfl ?_ | refine J.skipU rfl rfl rfl rfl ?_ | (refine J.unguard rfl rfl rfl ?_; refine J.loadA (vs := cI b) Ty.a23 Ty.s23 rfl rfl (fun w hw => Cells.of_block (hw.2.own (_, _) (by repeat first | exact .head _ | apply List.Mem.tail | apply List.mem_append_right)) (by exact rfl)) rfl ?_)
      exact J.finP rfl
    · skip
      refine Fin.consE rfl (Fin.nil ?_)
      first | refine J.skip rfl rfl rfl rfl rfl ?_ | refine J.skipU rfl rfl rfl rfl ?_ | (refine J.unguard rfl rfl rfl ?_; refine J.fieldAddr Ty.fd41_1 rfl rfl ?_)
      exact J.finP rfl
    · skip
      refine Fin.consE rfl (Fin.consE rfl (Fin.nil ?_))
      first | refine J.skip rfl rfl rfl rfl rfl ?_ | refine J.skipU rfl rfl rfl rfl ?_ | (refine J.unguard rfl rfl rfl ?_; refine J.loadA (vs := cI id) Ty.a23 Ty.s23 rfl rfl (fun w hw => Cells.of_block (hw.2.own (_, _) (by repeat first | exact .head _ | apply List.Mem.tail | apply List.mem_append_right)) (by exact rfl)) rfl ?_)
      exact J.finP rfl
    · skip
      refine Fin.consE rfl (Fin.consE rfl (Fin.consE rfl (Fin.nil ?_)))
      refine J.unguard rfl rfl rfl ?_
      refine J.eqI Ty.QI Ty.keyI rfl rfl rfl ?_
      refine J.name 45 rfl (show Value.bool _ = .bool false by simp [hne]) ?_
      exact J.finP rfl
    · skip
      refine Fin.consE rfl (Fin.consE rfl (Fin.nil ?_))
      (first | refine J.pickT rfl rfl rfl ?_ | refine J.pickF rfl rfl rfl ?_)
      exact J.finP rfl
  case htail =>
    refine Fin.consE rfl (Fin.consE rfl (Fin.consE rfl (Fin.consE rfl (Fin.consE rfl (Fin.consE rfl (Fin.consE rfl (Fin.consE rfl (Fin.consE rfl (Fin.consE rfl (Fin.consE rfl (Fin.consE rfl (Fin.consE rfl (Fin.consE rfl (Fin.consE rfl (Fin.consE rfl (Fin.consE rfl (Fin.consE rfl (Fin.consE rfl (Fin.consE rfl (Fin.consE rfl (Fin.consE rfl (Fin.consE rfl (Fin.consE rfl (Fin.consE rfl (Fin.consE rfl (Fin.consE rfl (Fin.consE rfl (Fin.consE rfl (Fin.consE rfl (Fin.consE rfl (Fin.nil ?_)))))))))))))))))))))))))))))))
    refine J.nil ?_
    refine JX.thenN (hK2 _ _ ?_)
    first | refine JC.condF rfl ?_ | refine JC.cond rfl (fun h => by first | (exfalso; simp at h; omega) | (simp at h)) (fun _ => ?_)
    refine JC.skip ?_
    refine JX.thenN (hK1 _ _ ?_)
    refine JC.seq (fun K3 hK3 => ?_)
    refine JC.seq (fun K4 hK4 => ?_)
    refine JC.region ?_
    refine J.move rfl rfl ?_
    refine J.move rfl rfl ?_
    refine J.indexAddrS Ty.el26 Ty.s3 rfl rfl (by omega) (by omega) rfl ?_
    refine J.load1 (v := iV n1) Ty.a3 rfl (fun w1 hw => rowI_at (i := 1) (hr.st hoff hw) rfl (by omega)) rfl ?_
    refine J.callB (v := .bool true) (fun w1 w2 hw hb => hw.step hb) Ty.bd53 rfl rfl (fun w1 hw => by
      have h := isOpen_spec ov os n1 w1 (hro.st hoffo hw) hlo
      rw [hop] at h
      exact h) ?_
    refine J.not rfl rfl ?_
    refine J.nil ?_
    refine JX.thenN (hK4 _ _ ?_)
    first | refine JC.condF rfl ?_ | refine JC.cond rfl (fun h => by first | (exfalso; simp at h; omega) | (simp at h)) (fun _ => ?_)
    refine JC.skip ?_
    refine JX.thenN (hK3 _ _ ?_)
    refine JC.seq (fun K5 hK5 => ?_)
    refine JC.seq (fun K6 hK6 => ?_)
    apply JC.drawL 9 [Eqv (.pointer (some ⟨t, 0, none⟩)), Eqv (.agg (cP p).toArray), Eqv (.pointer (some ⟨b7, 0 + 1, none⟩)), Eqv (.agg (cI id).toArray), Eqv (.agg (cI b).toArray), Eqv (.slice (some ⟨wb, wo, none⟩) (rest.length + 2) wc), Eqv (.pointer (some ⟨wb, wo + (1 : Int).toNat * 1, none⟩)), Eqv (iV n1), Eqv (.agg (cE (⟨p, id, b, -1, n1⟩ : EV)).toArray)] Ty.mixed rfl rfl rfl (by kernel_rfl) rfl rfl (fun w w' hw hb => hw.step hb) ⟨fun _ _ _ h _ => h, fun _ _ _ h _ => h, fun _ _ _ h _ => h, fun _ _ _ h _ => h, fun _ _ _ h _ => h, fun _ _ _ h _ => h, fun _ _ _ h _ => h, fun _ _ _ h _ => h, fun _ _ _ h _ => h, trivial⟩ ?hstep ?htail
    case hstep =>
      refine ⟨fun wi => ?_, fun wi => ?_, fun wi => ?_, fun wi => ?_, fun wi => ?_, fun wi => ?_, fun wi => ?_, fun wi => ?_, fun wi => ?_, trivial⟩
      · skip
        refine Fin.nil ?_
        refine J.move rfl rfl ?_
        exact J.finP rfl
      · skip
        refine Fin.nil ?_
        refine J.loadA (vs := cP p) Ty.a25 Ty.s25 rfl rfl (fun w hw => Cells.of_block (hw.2.own (_, _) (by repeat first | exact .head _ | apply List.Mem.tail | apply List.mem_append_right)) (by exact rfl)) rfl ?_
        exact J.finP rfl
      · skip
        refine Fin.nil ?_
        refine J.fieldAddr Ty.fd41_1 rfl rfl ?_
        exact J.finP rfl
      · skip
        refine Fin.consE rfl (Fin.nil ?_)
        refine J.loadA (vs := cI id) Ty.a23 Ty.s23 rfl rfl (fun w hw => Cells.of_block (hw.2.own (_, _) (by repeat first | exact .head _ | apply List.Mem.tail | apply List.mem_append_right)) (by exact rfl)) rfl ?_
        exact J.finP rfl
      · skip
        refine Fin.nil ?_
        refine J.loadA (vs := cI b) Ty.a23 Ty.s23 rfl rfl (fun w hw => Cells.of_block (hw.2.own (_, _) (by repeat first | exact .head _ | apply List.Mem.tail | apply List.mem_append_right)) (by exact rfl)) rfl ?_
        exact J.finP rfl
      · skip
        refine Fin.nil ?_
        refine J.move rfl rfl ?_
        exact J.finP rfl
      · skip
        refine Fin.consE rfl (Fin.nil ?_)
        refine J.indexAddrS Ty.el26 Ty.s3 rfl rfl (by omega) (by omega) rfl ?_
        exact J.finP rfl
      · skip
        refine Fin.consE rfl (Fin.nil ?_)
        refine J.load1 (v := iV n1) Ty.a3 rfl (fun w1 hw => rowI_at (i := 1) (hr.st hoff hw.2) rfl (by omega)) rfl ?_
        exact J.finP rfl
      · skip
        refine Fin.consE rfl (Fin.consE rfl (Fin.consE rfl (Fin.consE rfl (Fin.nil ?_))))
        refine J.buildS (cs := cE (⟨p, id, b, -1, n1⟩ : EV)) Ty.pl34 Ty.zE_ rfl (by kernel_rfl) rfl ?_
        exact J.finP rfl
    case htail =>
      refine Fin.consE rfl (Fin.consE rfl (Fin.consE rfl (Fin.consE rfl (Fin.consE rfl (Fin.consE rfl (Fin.consE rfl (Fin.consE rfl (Fin.consE rfl (Fin.nil ?_)))))))))
      refine J.perm ([(t, tabO most mb), (mb, .map es clock)] ++ ((b12, cb (cD nilV false false) 37) :: (b9, cb (cI b) 23) :: (b8, cb (cP p) 25) :: (b7, cb (cW n id) 41) :: [])) (by (refine perm_cnt (fun _ => ?_)); simp only [cntB_append, cntB_cons, cntB_nil, Nat.add_zero, Nat.zero_add]; try ac_rfl) ?_
      refine J.callS (α := Array MapEntry × Nat) (V := fun _ => .int .i64 e) (Pr := fun y => Tab L' y.1 y.2) (L := fun y => [(t, tabO most mb), (mb, .map y.1 y.2)]) (l1 := [(t, tabO most mb), (mb, .map es clock)]) Ty.bd17 rfl rfl (fun w1 hw => add_all hw.owns hT (⟨p, id, b, -1, n1⟩ : EV) hokE hadd) (fun y hT' => ?_)
      obtain ⟨es', clock'⟩ := y
      simp only at hT' ⊢
      refine J.perm ((b12, cb (cD nilV false false) 37) :: (b9, cb (cI b) 23) :: (b8, cb (cP p) 25) :: (b7, cb (cW n id) 41) :: [(t, tabO most mb), (mb, .map es' clock')]) (by (refine perm_cnt (fun _ => ?_)); simp only [cntB_append, cntB_cons, cntB_nil, Nat.add_zero, Nat.zero_add]; try ac_rfl) ?_
      refine J.assign rfl rfl ?_
      refine J.nil ?_
      refine JX.thenN (hK6 _ _ ?_)
      refine JC.seq (fun K7 hK7 => ?_)
      refine JC.region ?_
      refine J.move rfl rfl ?_
      refine J.bin rfl rfl rfl rfl ?_
      refine J.name 66 rfl (show Value.bool _ = .bool true by simp [he]) ?_
      refine J.nil ?_
      refine JX.thenN (hK7 _ _ ?_)
      first | refine JC.condT rfl ?_ | refine JC.cond rfl (fun _ => ?_) (fun h => by first | (exfalso; simp at h; omega) | (simp at h))
      refine JC.seq (fun K8 hK8 => ?_)
      refine JC.region ?_
      refine J.move rfl rfl ?_
      refine J.bin rfl rfl rfl rfl ?_
      refine J.buildS (cs := cD nilV false (e == 5)) Ty.pl37 zN rfl (by kernel_rfl) rfl ?_
      refine J.move rfl rfl ?_
      refine J.storeW Ty.s37 rfl rfl rfl rfl rfl (by simp [Value.oneCell']) (by repeat first | exact .here | apply Up.there) ?_
      refine J.assign rfl rfl ?_
      refine J.nil ?_
      refine JX.thenN (hK8 _ _ ?_)
      refine JC.ret ?_
      refine JX.thenR ?_
      refine JX.retCT rfl rfl rfl Ty.a37 Ty.s37 (vs := cD nilV false (e == 5)) rfl (fun w1 hw => Cells.of_block (hw.own _ (.head _)) rfl) (fun w1 hw => ?_)
      exact ⟨(es', clock'), rfl, hT', hw.drop (List.sublist_append_right [_, _, _, _] _)⟩

theorem start_ok (t mb : Nat) (most : Int) (L : List EV) (es : Array MapEntry) (clock : Nat) (w : World) (hw0 : Own w [(t, tabO most mb), (mb, .map es clock)]) (hT : Tab L es clock) (n n1 : Int) (id b : IDV) (p : PV) (hp : okN p.n) (wb wo wc : Nat) (rest : List Int) (hr : Row w (.slice (some ⟨wb, wo, none⟩) (rest.length + 2) wc) (rest.length + 2) ((n :: n1 :: rest).map iV)) (hoff : Off [t, mb] (.slice (some ⟨wb, wo, none⟩) (rest.length + 2) wc) ((n :: n1 :: rest).map iV)) (hlen : rest.length ≤ 62) (hnd : (n :: n1 :: rest).Nodup) (hne : b ≠ id) (ov : Value) (os : List Bool) (hro : Row w ov os.length (os.map bV)) (hoffo : Off [t, mb] ov (os.map bV)) (hlo : os.length < 4611686018427387904) (hop : openQ os n1 = true) {L' : List EV} (hadd : tadd L most (⟨p, id, b, -1, n1⟩ : EV) = (0, L')) :
    Calls Try.prog 18 [.pointer (some ⟨t, 0, none⟩), .agg (cW n id).toArray, .agg (cP p).toArray, .agg (cI b).toArray, .slice (some ⟨wb, wo, none⟩) (rest.length + 2) wc, ov].toArray w fun r w' => ∃ x : OutS, r = .returned (.tuple #[.agg (cD (.slice (some ⟨x.h, 0, none⟩) 1 1) true false).toArray, .int .i64 0]) ∧ (Vec 3 1 (.slice x.a (rest.length + 2) x.c) (rest.length + 2) ((n :: n1 :: rest).map iV) x.lp ∧ Tab L' x.es x.ck) ∧ St w [t, mb] ((x.h, cb (cH n1 (cF 4 p id b (.slice x.a (rest.length + 2) x.c))) 54) :: (x.lp ++ [(t, tabO most mb), (mb, .map x.es x.ck)])) w' := by
  obtain ⟨hn0, hn1⟩ := open_bounds hop
  have hokE : okE (⟨p, id, b, -1, n1⟩ : EV) := ⟨hp, okN_small (n := -1) (by omega) (by omega), okN_small (n := n1) (by omega) (by omega)⟩
  refine calls_of_J (args := [.pointer (some ⟨t, 0, none⟩), .agg (cW n id).toArray, .agg (cP p).toArray, .agg (cI b).toArray, .slice (some ⟨wb, wo, none⟩) (rest.length + 2) wc, ov]) (e := [(0, .pointer (some ⟨t, 0, none⟩)), (1, .agg (cW n id).toArray), (2, .agg (cP p).toArray), (3, .agg (cI b).toArray), (4, .slice (some ⟨wb, wo, none⟩) (rest.length + 2) wc), (5, ov)]) Try.func18 rfl rfl ⟨rfl, rfl, rfl, rfl, rfl, rfl, trivial⟩ (hw0.st) ?_
  refine JC.seq (fun K0 hK0 => ?_)
  refine JC.region ?_
  refine J.box rfl rfl rfl (fun b7 => ?_)
  refine J.box rfl rfl rfl (fun b8 => ?_)
  refine J.box rfl rfl rfl (fun b9 => ?_)
  refine J.alloc zN rfl rfl (fun b12 => ?_)
  refine J.assign rfl rfl ?_
  refine J.nil ?_
  refine JX.thenN (hK0 _ _ ?_)
  refine JC.seq (fun K1 hK1 => ?_)
  refine JC.seq (fun K2 hK2 => ?_)
  apply JC.drawL 31 [Eqv (.pointer (some ⟨t, 0, none⟩)), Eqv (.bool false), Eqv (.bool false), Eqv (.slice (some ⟨wb, wo, none⟩) (rest.length + 2) wc), Eqv (.int .i64 ((rest.length + 2 : Nat) : Int)), Eqv (.bool false), Eqv (.bool false), Eqv (.bool false), Eqv (.slice (some ⟨wb, wo, none⟩) (rest.length + 2) wc), Eqv (.int .i64 ((rest.length + 2 : Nat) : Int)), Eqv (.bool false), Eqv (.bool false), Eqv (.bool false), Eqv (.slice (some ⟨wb, wo, none⟩) (rest.length + 2) wc), Eqv (.bool true), Eqv (.bool false), Eqv (.bool false), Eqv (.bool false), Eqv (.slice (some ⟨wb, wo, none⟩) (rest.length + 2) wc), Eqv (.pointer (some ⟨wb, wo + (0 : Int).toNat * 1, none⟩)), Eqv (iV n), Eqv (.pointer (some ⟨b7, 0 + 0, none⟩)), Eqv (iV n), Eqv (.bool false), Eqv (.bool false), Eqv (.bool false), Eqv (.agg (cI b).toArray), Eqv (.pointer (some ⟨b7, 0 + 1, none⟩)), Eqv (.agg (cI id).toArray), Eqv (.bool false), Eqv (.bool false)] Ty.mixed rfl rfl rfl (by kernel_rfl) rfl rfl (fun w w' hw hb => hw.step hb) ⟨fun _ _ _ h _ => h, fun _ _ _ h _ => h, fun _ _ _ h _ => h, fun _ _ _ h _ => h, fun _ _ _ h _ => h, fun _ _ _ h _ => h, fun _ _ _ h _ => h, fun _ _ _ h _ => h, fun _ _ _ h _ => h, fun _ _ _ h _ => h, fun _ _ _ h _ => h, fun _ _ _ h _ => h, fun _ _ _ h _ => h, fun _ _ _ h _ => h, fun _ _ _ h _ => h, fun _ _ _ h _ => h, fun _ _ _ h _ => h, fun _ _ _ h _ => h, fun _ _ _ h _ => h, fun _ _ _ h _ => h, fun _ _ _ h _ => h, fun _ _ _ h _ => h, fun _ _ _ h _ => h, fun _ _ _ h _ => h, fun _ _ _ h _ => h, fun _ _ _ h _ => h, fun _ _ _ h _ => h, fun _ _ _ h _ => h, fun _ _ _ h _ => h, fun _ _ _ h _ => h, fun _ _ _ h _ => h, trivial⟩ ?hstep ?htail
  case hstep =>
    refine ⟨fun wi => ?_, fun wi => ?_, fun wi => ?_, fun wi => ?_, fun wi => ?_, fun wi => ?_, fun wi => ?_, fun wi => ?_, fun wi => ?_, fun wi => ?_, fun wi => ?_, fun wi => ?_, fun wi => ?_, fun wi => ?_, fun wi => ?_, fun wi => ?_, fun wi => ?_, fun wi => ?_, fun wi => ?_, fun wi => ?_, fun wi => ?_, fun wi => ?_, fun wi => ?_, fun wi => ?_, fun wi => ?_, fun wi => ?_, fun wi => ?_, fun wi => ?_, fun wi => ?_, fun wi => ?_, fun wi => ?_, trivial⟩
    · skip
      refine Fin.nil ?_
      refine J.move rfl rfl ?_
      exact J.finP rfl
    · skip
      refine Fin.consE rfl (Fin.nil ?_)
      refine J.eqNil Ty.u29 rfl rfl rfl ?_
      exact J.finP rfl
    · skip
      refine Fin.consE rfl (Fin.nil ?_)
      refine J.move rfl rfl ?_
      exact J.finP rfl
    · skip
      refine Fin.consE rfl (Fin.nil ?_)
      first | refine J.skip rfl rfl rfl rfl rfl ?_ | refine J.skipU rfl rfl rfl rfl ?_ | (refine J.unguard rfl rfl rfl ?_; refine J.move rfl rfl ?_)
      exact J.finP rfl
    · skip
      refine Fin.consE rfl (Fin.consE rfl (Fin.nil ?_))
      first | refine J.skip rfl rfl rfl rfl rfl ?_ | refine J.skipU rfl rfl rfl rfl ?_ | (refine J.unguard rfl rfl rfl ?_; refine J.lenS rfl Ty.u26 rfl rfl ?_)
      exact J.finP rfl
    · skip
      refine Fin.consE rfl (Fin.consE rfl (Fin.nil ?_))
      refine J.unguard rfl rfl rfl ?_
      refine J.bin rfl rfl rfl rfl ?_
      refine J.name 21 rfl (show Value.bool _ = .bool false by simp; omega) ?_
      exact J.finP rfl
    · skip
      refine Fin.consE rfl (Fin.consE rfl (Fin.nil ?_))
      (first | refine J.pickT rfl rfl rfl ?_ | refine J.pickF rfl rfl rfl ?_)
      exact J.finP rfl
    · skip
      refine Fin.consE rfl (Fin.consE rfl (Fin.nil ?_))
      refine J.move rfl rfl ?_
      exact J.finP rfl
    · skip
      refine Fin.consE rfl (Fin.nil ?_)
      first | refine J.skip rfl rfl rfl rfl rfl ?_ | refine J.skipU rfl rfl rfl rfl ?_ | (refine J.unguard rfl rfl rfl ?_; refine J.move rfl rfl ?_)
      exact J.finP rfl
    · skip
      refine Fin.consE rfl (Fin.consE rfl (Fin.nil ?_))
      first | refine J.skip rfl rfl rfl rfl rfl ?_ | refine J.skipU rfl rfl rfl rfl ?_ | (refine J.unguard rfl rfl rfl ?_; refine J.lenS rfl Ty.u26 rfl rfl ?_)
      exact J.finP rfl
    · skip
      refine Fin.consE rfl (Fin.consE rfl (Fin.nil ?_))
      refine J.unguard rfl rfl rfl ?_
      refine J.bin rfl rfl rfl rfl ?_
      refine J.name 26 rfl (show Value.bool _ = .bool false by simp; omega) ?_
      exact J.finP rfl
    · skip
      refine Fin.consE rfl (Fin.consE rfl (Fin.nil ?_))
      (first | refine J.pickT rfl rfl rfl ?_ | refine J.pickF rfl rfl rfl ?_)
      exact J.finP rfl
    · skip
      refine Fin.consE rfl (Fin.consE rfl (Fin.nil ?_))
      refine J.move rfl rfl ?_
      exact J.finP rfl
    · skip
      refine Fin.consE rfl (Fin.nil ?_)
      first | refine J.skip rfl rfl rfl rfl rfl ?_ | refine J.skipU rfl rfl rfl rfl ?_ | (refine J.unguard rfl rfl rfl ?_; refine J.move rfl rfl ?_)
      exact J.finP rfl
    · skip
      refine Fin.consE rfl (Fin.consE rfl (Fin.consE rfl (Fin.nil ?_)))
      refine J.unguard rfl rfl rfl ?_
      refine J.callD (v := .bool true) Ty.bd52 rfl rfl (fun w1 hw => by
        have h := simple_spec _ (n :: n1 :: rest) w1 (hr.st hoff hw) (by simp; omega)
        rw [decide_eq_true hnd] at h
        exact h) ?_
      exact J.finQ rfl
    · skip
      refine Fin.consE rfl (Fin.consE rfl (Fin.nil ?_))
      first | refine J.skip rfl rfl rfl rfl rfl ?_ | refine J.skipU rfl rfl rfl rfl ?_ | (refine J.unguard rfl rfl rfl ?_; refine J.not rfl rfl ?_)
      exact J.finP rfl
    · skip
      refine Fin.consE rfl (Fin.consE rfl (Fin.nil ?_))
      (first | refine J.pickT rfl rfl rfl ?_ | refine J.pickF rfl rfl rfl ?_)
      exact J.finP rfl
    · skip
      refine Fin.consE rfl (Fin.consE rfl (Fin.nil ?_))
      refine J.move rfl rfl ?_
      exact J.finP rfl
    · skip
      refine Fin.consE rfl (Fin.nil ?_)
      first | refine J.skip rfl rfl rfl rfl rfl ?_ | refine J.skipU rfl rfl rfl rfl ?_ | (refine J.unguard rfl rfl rfl ?_; refine J.move rfl rfl ?_)
      exact J.finP rfl
    · skip
      refine Fin.consE rfl (Fin.consE rfl (Fin.nil ?_))
      first | refine J.skip rfl rfl rfl rfl rfl ?_ | refine J.skipU rfl rfl rfl rfl ?_ | (refine J.unguard rfl rfl rfl ?_; refine J.indexAddrS Ty.el26 Ty.s3 rfl rfl (by omega) (by omega) rfl ?_)
      exact J.finP rfl
    · skip
      refine Fin.consE rfl (Fin.consE rfl (Fin.nil ?_))
      refine J.unguard rfl rfl rfl ?_
      refine J.load1 (v := iV n) Ty.a3 rfl (fun w1 hw => rowI_at (i := 0) (hr.st hoff hw.2) rfl (by omega)) rfl ?_
      exact J.finP rfl
    · skip
      refine Fin.consE rfl (Fin.nil ?_)
      first | refine J.skip rfl rfl rfl rfl rfl ?_ | refine J.skipU rfl rfl rfl rfl ?_ | (refine J.unguard rfl rfl rfl ?_; refine J.fieldAddr Ty.fd41_0 rfl rfl ?_)
      exact J.finP rfl
    · skip
      refine Fin.consE rfl (Fin.consE rfl (Fin.nil ?_))
      first | refine J.skip rfl rfl rfl rfl rfl ?_ | refine J.skipU rfl rfl rfl rfl ?_ | (refine J.unguard rfl rfl rfl ?_; refine J.load1 Ty.a3 rfl (fun w hw => (cell_of (hw.2.own (_, _) (by repeat first | exact .head _ | apply List.Mem.tail | apply List.mem_append_right))).trans (by exact rfl)) rfl ?_)
      exact J.finP rfl
    · skip
      refine Fin.consE rfl (Fin.consE rfl (Fin.consE rfl (Fin.nil ?_)))
      refine J.unguard rfl rfl rfl ?_
      refine J.bin rfl rfl rfl rfl ?_
      refine J.name 39 rfl (show Value.bool _ = .bool false by simp) ?_
      exact J.finP rfl
    · skip
      refine Fin.consE rfl (Fin.consE rfl (Fin.nil ?_))
      (first | refine J.pickT rfl rfl rfl ?_ | refine J.pickF rfl rfl rfl ?_)
      exact J.finP rfl
    · skip
      refine Fin.consE rfl (Fin.consE rfl (Fin.nil ?_))
      refine J.move rfl rfl ?_
      exact J.finP rfl
    · skip
      refine Fin.consE rfl (Fin.nil ?_)
      first | refine J.skip rfl rfl rfl rfl rfl ?_ | refine J.skipU rfl rfl rfl rfl ?_ | (refine J.unguard rfl rfl rfl ?_; refine J.loadA (vs := cI b) Ty.a23 Ty.s23 rfl rfl (fun w hw => Cells.of_block (hw.2.own (_, _) (by repeat first | exact .head _ | apply List.Mem.tail | apply List.mem_append_right)) (by exact rfl)) rfl ?_)
      exact J.finP rfl
    · skip
      refine Fin.consE rfl (Fin.nil ?_)
      first | refine J.skip rfl rfl rfl rfl rfl ?_ | refine J.skipU rfl rfl rfl rfl ?_ | (refine J.unguard rfl rfl rfl ?_; refine J.fieldAddr Ty.fd41_1 rfl rfl ?_)
      exact J.finP rfl
    · skip
      refine Fin.consE rfl (Fin.consE rfl (Fin.nil ?_))
      first | refine J.skip rfl rfl rfl rfl rfl ?_ | refine J.skipU rfl rfl rfl rfl ?_ | (refine J.unguard rfl rfl rfl ?_; refine J.loadA (vs := cI id) Ty.a23 Ty.s23 rfl rfl (fun w hw => Cells.of_block (hw.2.own (_, _) (by repeat first | exact .head _ | apply List.Mem.tail | apply List.mem_append_right)) (by exact rfl)) rfl ?_)
      exact J.finP rfl
    · skip
      refine Fin.consE rfl (Fin.consE rfl (Fin.consE rfl (Fin.nil ?_)))
      refine J.unguard rfl rfl rfl ?_
      refine J.eqI Ty.QI Ty.keyI rfl rfl rfl ?_
      refine J.name 45 rfl (show Value.bool _ = .bool false by simp [hne]) ?_
      exact J.finP rfl
    · skip
      refine Fin.consE rfl (Fin.consE rfl (Fin.nil ?_))
      (first | refine J.pickT rfl rfl rfl ?_ | refine J.pickF rfl rfl rfl ?_)
      exact J.finP rfl
  case htail =>
    refine Fin.consE rfl (Fin.consE rfl (Fin.consE rfl (Fin.consE rfl (Fin.consE rfl (Fin.consE rfl (Fin.consE rfl (Fin.consE rfl (Fin.consE rfl (Fin.consE rfl (Fin.consE rfl (Fin.consE rfl (Fin.consE rfl (Fin.consE rfl (Fin.consE rfl (Fin.consE rfl (Fin.consE rfl (Fin.consE rfl (Fin.consE rfl (Fin.consE rfl (Fin.consE rfl (Fin.consE rfl (Fin.consE rfl (Fin.consE rfl (Fin.consE rfl (Fin.consE rfl (Fin.consE rfl (Fin.consE rfl (Fin.consE rfl (Fin.consE rfl (Fin.consE rfl (Fin.nil ?_)))))))))))))))))))))))))))))))
    refine J.nil ?_
    refine JX.thenN (hK2 _ _ ?_)
    first | refine JC.condF rfl ?_ | refine JC.cond rfl (fun h => by first | (exfalso; simp at h; omega) | (simp at h)) (fun _ => ?_)
    refine JC.skip ?_
    refine JX.thenN (hK1 _ _ ?_)
    refine JC.seq (fun K3 hK3 => ?_)
    refine JC.seq (fun K4 hK4 => ?_)
    refine JC.region ?_
    refine J.move rfl rfl ?_
    refine J.move rfl rfl ?_
    refine J.indexAddrS Ty.el26 Ty.s3 rfl rfl (by omega) (by omega) rfl ?_
    refine J.load1 (v := iV n1) Ty.a3 rfl (fun w1 hw => rowI_at (i := 1) (hr.st hoff hw) rfl (by omega)) rfl ?_
    refine J.callB (v := .bool true) (fun w1 w2 hw hb => hw.step hb) Ty.bd53 rfl rfl (fun w1 hw => by
      have h := isOpen_spec ov os n1 w1 (hro.st hoffo hw) hlo
      rw [hop] at h
      exact h) ?_
    refine J.not rfl rfl ?_
    refine J.nil ?_
    refine JX.thenN (hK4 _ _ ?_)
    first | refine JC.condF rfl ?_ | refine JC.cond rfl (fun h => by first | (exfalso; simp at h; omega) | (simp at h)) (fun _ => ?_)
    refine JC.skip ?_
    refine JX.thenN (hK3 _ _ ?_)
    refine JC.seq (fun K5 hK5 => ?_)
    refine JC.seq (fun K6 hK6 => ?_)
    apply JC.drawL 9 [Eqv (.pointer (some ⟨t, 0, none⟩)), Eqv (.agg (cP p).toArray), Eqv (.pointer (some ⟨b7, 0 + 1, none⟩)), Eqv (.agg (cI id).toArray), Eqv (.agg (cI b).toArray), Eqv (.slice (some ⟨wb, wo, none⟩) (rest.length + 2) wc), Eqv (.pointer (some ⟨wb, wo + (1 : Int).toNat * 1, none⟩)), Eqv (iV n1), Eqv (.agg (cE (⟨p, id, b, -1, n1⟩ : EV)).toArray)] Ty.mixed rfl rfl rfl (by kernel_rfl) rfl rfl (fun w w' hw hb => hw.step hb) ⟨fun _ _ _ h _ => h, fun _ _ _ h _ => h, fun _ _ _ h _ => h, fun _ _ _ h _ => h, fun _ _ _ h _ => h, fun _ _ _ h _ => h, fun _ _ _ h _ => h, fun _ _ _ h _ => h, fun _ _ _ h _ => h, trivial⟩ ?hstep ?htail
    case hstep =>
      refine ⟨fun wi => ?_, fun wi => ?_, fun wi => ?_, fun wi => ?_, fun wi => ?_, fun wi => ?_, fun wi => ?_, fun wi => ?_, fun wi => ?_, trivial⟩
      · skip
        refine Fin.nil ?_
        refine J.move rfl rfl ?_
        exact J.finP rfl
      · skip
        refine Fin.nil ?_
        refine J.loadA (vs := cP p) Ty.a25 Ty.s25 rfl rfl (fun w hw => Cells.of_block (hw.2.own (_, _) (by repeat first | exact .head _ | apply List.Mem.tail | apply List.mem_append_right)) (by exact rfl)) rfl ?_
        exact J.finP rfl
      · skip
        refine Fin.nil ?_
        refine J.fieldAddr Ty.fd41_1 rfl rfl ?_
        exact J.finP rfl
      · skip
        refine Fin.consE rfl (Fin.nil ?_)
        refine J.loadA (vs := cI id) Ty.a23 Ty.s23 rfl rfl (fun w hw => Cells.of_block (hw.2.own (_, _) (by repeat first | exact .head _ | apply List.Mem.tail | apply List.mem_append_right)) (by exact rfl)) rfl ?_
        exact J.finP rfl
      · skip
        refine Fin.nil ?_
        refine J.loadA (vs := cI b) Ty.a23 Ty.s23 rfl rfl (fun w hw => Cells.of_block (hw.2.own (_, _) (by repeat first | exact .head _ | apply List.Mem.tail | apply List.mem_append_right)) (by exact rfl)) rfl ?_
        exact J.finP rfl
      · skip
        refine Fin.nil ?_
        refine J.move rfl rfl ?_
        exact J.finP rfl
      · skip
        refine Fin.consE rfl (Fin.nil ?_)
        refine J.indexAddrS Ty.el26 Ty.s3 rfl rfl (by omega) (by omega) rfl ?_
        exact J.finP rfl
      · skip
        refine Fin.consE rfl (Fin.nil ?_)
        refine J.load1 (v := iV n1) Ty.a3 rfl (fun w1 hw => rowI_at (i := 1) (hr.st hoff hw.2) rfl (by omega)) rfl ?_
        exact J.finP rfl
      · skip
        refine Fin.consE rfl (Fin.consE rfl (Fin.consE rfl (Fin.consE rfl (Fin.nil ?_))))
        refine J.buildS (cs := cE (⟨p, id, b, -1, n1⟩ : EV)) Ty.pl34 Ty.zE_ rfl (by kernel_rfl) rfl ?_
        exact J.finP rfl
    case htail =>
      refine Fin.consE rfl (Fin.consE rfl (Fin.consE rfl (Fin.consE rfl (Fin.consE rfl (Fin.consE rfl (Fin.consE rfl (Fin.consE rfl (Fin.consE rfl (Fin.nil ?_)))))))))
      refine J.perm ([(t, tabO most mb), (mb, .map es clock)] ++ ((b12, cb (cD nilV false false) 37) :: (b9, cb (cI b) 23) :: (b8, cb (cP p) 25) :: (b7, cb (cW n id) 41) :: [])) (by (refine perm_cnt (fun _ => ?_)); simp only [cntB_append, cntB_cons, cntB_nil, Nat.add_zero, Nat.zero_add]; try ac_rfl) ?_
      refine J.callS (α := Array MapEntry × Nat) (V := fun _ => .int .i64 0) (Pr := fun y => Tab L' y.1 y.2) (L := fun y => [(t, tabO most mb), (mb, .map y.1 y.2)]) (l1 := [(t, tabO most mb), (mb, .map es clock)]) Ty.bd17 rfl rfl (fun w1 hw => add_all hw.owns hT (⟨p, id, b, -1, n1⟩ : EV) hokE hadd) (fun y hT' => ?_)
      obtain ⟨es', clock'⟩ := y
      simp only at hT' ⊢
      refine J.perm ((b12, cb (cD nilV false false) 37) :: (b9, cb (cI b) 23) :: (b8, cb (cP p) 25) :: (b7, cb (cW n id) 41) :: [(t, tabO most mb), (mb, .map es' clock')]) (by (refine perm_cnt (fun _ => ?_)); simp only [cntB_append, cntB_cons, cntB_nil, Nat.add_zero, Nat.zero_add]; try ac_rfl) ?_
      refine J.assign rfl rfl ?_
      refine J.nil ?_
      refine JX.thenN (hK6 _ _ ?_)
      refine JC.seq (fun K7 hK7 => ?_)
      refine JC.region ?_
      refine J.move rfl rfl ?_
      refine J.bin rfl rfl rfl rfl ?_
      refine J.nil ?_
      refine JX.thenN (hK7 _ _ ?_)
      first | refine JC.condF rfl ?_ | refine JC.cond rfl (fun h => by first | (exfalso; simp at h; omega) | (simp at h)) (fun _ => ?_)
      refine JC.skip ?_
      refine JX.thenN (hK5 _ _ ?_)
      refine JC.seq (fun K8 hK8 => ?_)
      refine JC.region ?_
      refine J.loadOA (vs := cP p) Ty.a25 Ty.s25 rfl (by repeat first | exact .head _ | apply List.Mem.tail | apply List.mem_append_right) (by exact rfl) rfl rfl ?_
      refine J.fieldAddr Ty.fd41_1 rfl rfl ?_
      refine J.loadOA (vs := cI id) Ty.a23 Ty.s23 rfl (by repeat first | exact .head _ | apply List.Mem.tail | apply List.mem_append_right) (by exact rfl) rfl rfl ?_
      refine J.loadOA (vs := cI b) Ty.a23 Ty.s23 rfl (by repeat first | exact .head _ | apply List.Mem.tail | apply List.mem_append_right) (by exact rfl) rfl rfl ?_
      refine J.move rfl rfl ?_
      refine J.buildS (cs := cS p id b (.slice (some ⟨wb, wo, none⟩) (rest.length + 2) wc)) Ty.pl107 zS rfl (by kernel_rfl) rfl ?_
      refine J.iface (by kernel_rfl) rfl rfl ?_
      refine J.perm ([] ++ ((b12, cb (cD nilV false false) 37) :: (b9, cb (cI b) 23) :: (b8, cb (cP p) 25) :: (b7, cb (cW n id) 41) :: [(t, tabO most mb), (mb, .map es' clock')])) (.refl _) ?_
      refine J.callS (α := Value × List (Nat × Obj)) (V := fun x => .agg (cF 4 p id b x.1).toArray) (Pr := fun x => Vec 3 1 x.1 (rest.length + 2) ((n :: n1 :: rest).map iV) x.2) (L := fun x => x.2) (l1 := []) Ty.bd54 rfl rfl (fun w1 hw => plainS_spec p id b w1 (.slice (some ⟨wb, wo, none⟩) (rest.length + 2) wc) (n :: n1 :: rest) (hr.st hoff hw) (by simp; omega)) (fun x hv8 => ?_)
      obtain ⟨v8, lp8⟩ := x
      simp only at hv8 ⊢
      obtain ⟨a8, c8, rfl, hc8⟩ := hv8.form
      refine J.perm ((b12, cb (cD nilV false false) 37) :: (b9, cb (cI b) 23) :: (b8, cb (cP p) 25) :: (b7, cb (cW n id) 41) :: ([(t, tabO most mb), (mb, .map es' clock')] ++ lp8)) (by (refine perm_cnt (fun _ => ?_)); simp only [cntB_append, cntB_cons, cntB_nil, Nat.add_zero, Nat.zero_add]; try ac_rfl) ?_
      refine J.alloc zF rfl rfl (fun b15 => ?_)
      refine J.storeW Ty.s52 rfl rfl rfl rfl rfl (by simp [Value.oneCell']) (by repeat first | exact .here | apply Up.there) ?_
      refine J.nil ?_
      refine JX.thenN (hK8 _ _ ?_)
      refine JC.seq (fun K9 hK9 => ?_)
      apply JC.drawL 5 [Eqv (.slice (some ⟨wb, wo, none⟩) (rest.length + 2) wc), Eqv (.pointer (some ⟨wb, wo + (1 : Int).toNat * 1, none⟩)), Eqv (iV n1), Eqv (.agg (cF 4 p id b (.slice a8 (rest.length + 2) c8)).toArray), Eqv (.agg (cH n1 (cF 4 p id b (.slice a8 (rest.length + 2) c8))).toArray)] Ty.mixed rfl rfl rfl (by kernel_rfl) rfl rfl (fun w w' hw hb => hw.step hb) ⟨fun _ _ _ h _ => h, fun _ _ _ h _ => h, fun _ _ _ h _ => h, fun _ _ _ h _ => h, fun _ _ _ h _ => h, trivial⟩ ?hstep ?htail
      case hstep =>
        refine ⟨fun wi => ?_, fun wi => ?_, fun wi => ?_, fun wi => ?_, fun wi => ?_, trivial⟩
        · skip
          refine Fin.nil ?_
          refine J.move rfl rfl ?_
          exact J.finP rfl
        · skip
          refine Fin.consE rfl (Fin.nil ?_)
          refine J.indexAddrS Ty.el26 Ty.s3 rfl rfl (by omega) (by omega) rfl ?_
          exact J.finP rfl
        · skip
          refine Fin.consE rfl (Fin.nil ?_)
          refine J.load1 (v := iV n1) Ty.a3 rfl (fun w1 hw => rowI_at (i := 1) (hr.st hoff hw.2) rfl (by omega)) rfl ?_
          exact J.finP rfl
        · skip
          refine Fin.nil ?_
          refine J.loadA (vs := cF 4 p id b (.slice a8 (rest.length + 2) c8)) Ty.a52 Ty.s52 rfl rfl (fun w hw => Cells.of_block (hw.2.own (_, _) (by repeat first | exact .head _ | apply List.Mem.tail | apply List.mem_append_right)) (by exact rfl)) rfl ?_
          exact J.finP rfl
        · skip
          refine Fin.consE rfl (Fin.consE rfl (Fin.nil ?_))
          refine J.buildS (cs := cH n1 (cF 4 p id b (.slice a8 (rest.length + 2) c8))) Ty.pl54 zH rfl (by kernel_rfl) rfl ?_
          exact J.finP rfl
      case htail =>
        refine Fin.consE rfl (Fin.consE rfl (Fin.consE rfl (Fin.consE rfl (Fin.consE rfl (Fin.nil ?_)))))
        refine J.buildSl (cs := cH n1 (cF 4 p id b (.slice a8 (rest.length + 2) c8))) Ty.el35 Ty.s54 zH rfl rfl rfl rfl (by kernel_rfl) rfl rfl (fun b84 => ?_)
        refine J.buildS (cs := cD (.slice (some ⟨b84, 0, none⟩) 1 1) true false) Ty.pl37 zN rfl (by kernel_rfl) rfl ?_
        refine J.storeW Ty.s37 rfl rfl rfl rfl rfl (by simp [Value.oneCell']) (by repeat first | exact .here | apply Up.there) ?_
        refine J.assign rfl rfl ?_
        refine J.nil ?_
        refine JX.thenN (hK9 _ _ ?_)
        refine JC.ret ?_
        refine JX.retCT rfl rfl rfl Ty.a37 Ty.s37 (vs := cD (.slice (some ⟨b84, 0, none⟩) 1 1) true false) rfl (fun w1 hw => Cells.of_block (hw.own _ (.tail _ (.tail _ (.head _)))) rfl) (fun w1 hw => ?_)
        exact ⟨⟨b84, a8, c8, lp8, es', clock'⟩, rfl, ⟨hv8, hT'⟩, (hw.perm (l' := [(b15, cb (cF 4 p id b (.slice a8 (rest.length + 2) c8)) 52), (b12, cb (cD (.slice (some ⟨b84, 0, none⟩) 1 1) true false) 37), (b9, cb (cI b) 23), (b8, cb (cP p) 25), (b7, cb (cW n id) 41)] ++ ((b84, cb (cH n1 (cF 4 p id b (.slice a8 (rest.length + 2) c8))) 54) :: (lp8 ++ [(t, tabO most mb), (mb, .map es' clock')]))) (by (refine perm_cnt (fun _ => ?_)); simp only [cntB_append, cntB_cons, cntB_nil, Nat.add_zero, Nat.zero_add]; try ac_rfl)).drop (List.sublist_append_right _ _)⟩

end Go.Proofs.Ytpldpkdlloolkaa
