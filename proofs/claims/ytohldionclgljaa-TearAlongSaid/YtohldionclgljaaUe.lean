/-
  All, Via, To, Own and Remove of a table; a nil table; Other: contracts.
-/
import Derived.Test.YtohldionclgljaaUd
namespace Go.Proofs.Ytohldionclgljaa
open Go.J Go.RowKit
set_option linter.unusedVariables false
set_option linter.unusedSimpArgs false
set_option maxRecDepth 4000
def viaB (n : Int) (x : EV) : Bool := decide (0 ≤ n) && (decide (x.na = n) || decide (x.nb = n))
def toB (id : IDV) (x : EV) : Bool := decide (x.a = id) || decide (x.b = id)
def ownB (x : EV) : Bool := decide (x.na = -1) || decide (x.nb = -1)
theorem filter_all {L : List EV} : L.filter (fun _ => true) = L := List.filter_eq_self.2 fun _ _ => rfl
theorem own_nil (w : World) : Own w [] := ⟨(fun p hp => by cases hp), .nil⟩
theorem ret_bool {a b : Bool} (h : a = true ↔ b = true) : Ending.returned (.bool a) = Ending.returned (.bool b) := by rw [Bool.eq_iff_iff.2 h]
theorem filter_no {L : List EV} {p : PV} (h : tget L p = none) : L.filter (fun y => decide (y.p ≠ p)) = L := List.filter_eq_self.2 fun y hy => by
  have := tget_none.1 h y hy
  simpa using this

theorem all1_spec (x : EV) (w : World) :
    Calls Try.prog 61 [.agg (cE x).toArray].toArray w fun r w' => r = .returned (.bool true) ∧ Bel w w' := by
  refine calls_of_J (args := [.agg (cE x).toArray]) (e := [(0, .agg (cE x).toArray)]) Try.func61 rfl rfl ⟨rfl, trivial⟩ (St.start w) ?_
  refine JC.seq (fun K0 hK0 => ?_)
  refine JC.region ?_
  refine J.box rfl rfl rfl (fun b1 => ?_)
  refine J.assign rfl rfl ?_
  refine J.nil ?_
  refine JX.thenN (hK0 _ _ ?_)
  refine JC.seq (fun K1 hK1 => ?_)
  refine JC.region ?_
  refine J.assign rfl rfl ?_
  refine J.nil ?_
  refine JX.thenN (hK1 _ _ ?_)
  refine JC.ret ?_
  refine JX.ret1 rfl rfl (fun w hw => ?_)
  exact ⟨rfl, hw.below⟩

theorem via1_spec (b : Nat) (n : Int) (x : EV) (w : World) (hw0 : Own w [(b, cb [.int .i64 n] 3)]) :
    Calls Try.prog 63 [.agg (cE x).toArray, .pointer (some ⟨b, 0, none⟩)].toArray w fun r w' => r = .returned (.bool (viaB n x)) ∧ Bel w w' := by
  refine calls_of_J (args := [.agg (cE x).toArray, .pointer (some ⟨b, 0, none⟩)]) (e := [(0, .agg (cE x).toArray), (1, .pointer (some ⟨b, 0, none⟩))]) Try.func63 rfl rfl ⟨rfl, rfl, trivial⟩ (hw0.st) ?_
  refine JC.seq (fun K0 hK0 => ?_)
  refine JC.region ?_
  refine J.box rfl rfl rfl (fun b2 => ?_)
  refine J.assign rfl rfl ?_
  refine J.nil ?_
  refine JX.thenN (hK0 _ _ ?_)
  refine JC.seq (fun K1 hK1 => ?_)
  refine JC.region ?_
  refine J.loadO Ty.a3 rfl (by repeat first | exact .head _ | apply List.Mem.tail | apply List.mem_append_right) (by exact rfl) rfl ?_
  refine J.bin rfl rfl rfl rfl ?_
  refine J.move rfl rfl ?_
  refine J.split 6 rfl (fun hs6 => ?_) (fun hs6 => ?_)
  · skip
    try simp only [decide_eq_true_eq, decide_eq_false_iff_not, beq_iff_eq, bne_iff_ne, bne_eq_false_iff_eq, ne_eq, beq_eq_false_iff_ne, Bool.not_eq_true, Bool.not_eq_false, Int.not_lt, Int.not_le] at hs6
    first
    | exact absurd hs6 (by decide)
    | skip
      first | refine J.skip rfl rfl rfl rfl rfl ?_ | refine J.skipU rfl rfl rfl rfl ?_ | (refine J.unguard rfl rfl rfl ?_; refine J.fieldAddr Ty.fd55_3 rfl rfl ?_)
      first | refine J.skip rfl rfl rfl rfl rfl ?_ | refine J.skipU rfl rfl rfl rfl ?_ | (refine J.unguard rfl rfl rfl ?_; refine J.loadO Ty.a3 rfl (by repeat first | exact .head _ | apply List.Mem.tail | apply List.mem_append_right) (by exact rfl) rfl ?_)
      first | refine J.skip rfl rfl rfl rfl rfl ?_ | refine J.skipU rfl rfl rfl rfl ?_ | (refine J.unguard rfl rfl rfl ?_; refine J.loadO Ty.a3 rfl (by repeat first | exact .head _ | apply List.Mem.tail | apply List.mem_append_right) (by exact rfl) rfl ?_)
      first | refine J.skip rfl rfl rfl rfl rfl ?_ | refine J.skipU rfl rfl rfl rfl ?_ | (refine J.unguard rfl rfl rfl ?_; refine J.bin rfl rfl rfl rfl ?_)
      first | refine J.skip rfl rfl rfl rfl rfl ?_ | refine J.skipU rfl rfl rfl rfl ?_ | (refine J.unguard rfl rfl rfl ?_; refine J.move rfl rfl ?_)
      refine J.split 11 rfl (fun hs11 => ?_) (fun hs11 => ?_)
      · skip
        try simp only [decide_eq_true_eq, decide_eq_false_iff_not, beq_iff_eq, bne_iff_ne, bne_eq_false_iff_eq, ne_eq, beq_eq_false_iff_ne, Bool.not_eq_true, Bool.not_eq_false, Int.not_lt, Int.not_le] at hs11
        first
        | exact absurd hs11 (by decide)
        | skip
          first | refine J.skip rfl rfl rfl rfl rfl ?_ | refine J.skipU rfl rfl rfl rfl ?_ | (refine J.unguard rfl rfl rfl ?_; refine J.fieldAddr Ty.fd55_4 rfl rfl ?_)
          first | refine J.skip rfl rfl rfl rfl rfl ?_ | refine J.skipU rfl rfl rfl rfl ?_ | (refine J.unguard rfl rfl rfl ?_; refine J.loadO Ty.a3 rfl (by repeat first | exact .head _ | apply List.Mem.tail | apply List.mem_append_right) (by exact rfl) rfl ?_)
          first | refine J.skip rfl rfl rfl rfl rfl ?_ | refine J.skipU rfl rfl rfl rfl ?_ | (refine J.unguard rfl rfl rfl ?_; refine J.loadO Ty.a3 rfl (by repeat first | exact .head _ | apply List.Mem.tail | apply List.mem_append_right) (by exact rfl) rfl ?_)
          first | refine J.skip rfl rfl rfl rfl rfl ?_ | refine J.skipU rfl rfl rfl rfl ?_ | (refine J.unguard rfl rfl rfl ?_; refine J.bin rfl rfl rfl rfl ?_)
          first | refine J.skip rfl rfl rfl rfl rfl ?_ | refine J.skipU rfl rfl rfl rfl ?_ | (refine J.unguard rfl rfl rfl ?_; (first | refine J.pickT rfl rfl rfl ?_ | refine J.pickF rfl rfl rfl ?_))
          (first | refine J.pickT rfl rfl rfl ?_ | refine J.pickF rfl rfl rfl ?_)
          refine J.assign rfl rfl ?_
          refine J.nil ?_
          refine JX.thenN (hK1 _ _ ?_)
          refine JC.ret ?_
          refine JX.ret1 rfl rfl (fun w hw => ?_)
          refine ⟨ret_bool ?_, hw.same hw0 (fun p hp => by simp at hp ⊢; subst hp; simp)⟩
          first | (simp_all [viaB]; done) | (simp [viaB] at *; omega) | (simp [viaB] at *; intros; omega)
      · skip
        try simp only [decide_eq_true_eq, decide_eq_false_iff_not, beq_iff_eq, bne_iff_ne, bne_eq_false_iff_eq, ne_eq, beq_eq_false_iff_ne, Bool.not_eq_true, Bool.not_eq_false, Int.not_lt, Int.not_le] at hs11
        first
        | exact absurd hs11 (by decide)
        | skip
          first | refine J.skip rfl rfl rfl rfl rfl ?_ | refine J.skipU rfl rfl rfl rfl ?_ | (refine J.unguard rfl rfl rfl ?_; refine J.fieldAddr Ty.fd55_4 rfl rfl ?_)
          first | refine J.skip rfl rfl rfl rfl rfl ?_ | refine J.skipU rfl rfl rfl rfl ?_ | (refine J.unguard rfl rfl rfl ?_; refine J.loadO Ty.a3 rfl (by repeat first | exact .head _ | apply List.Mem.tail | apply List.mem_append_right) (by exact rfl) rfl ?_)
          first | refine J.skip rfl rfl rfl rfl rfl ?_ | refine J.skipU rfl rfl rfl rfl ?_ | (refine J.unguard rfl rfl rfl ?_; refine J.loadO Ty.a3 rfl (by repeat first | exact .head _ | apply List.Mem.tail | apply List.mem_append_right) (by exact rfl) rfl ?_)
          first | refine J.skip rfl rfl rfl rfl rfl ?_ | refine J.skipU rfl rfl rfl rfl ?_ | (refine J.unguard rfl rfl rfl ?_; refine J.bin rfl rfl rfl rfl ?_)
          first | refine J.skip rfl rfl rfl rfl rfl ?_ | refine J.skipU rfl rfl rfl rfl ?_ | (refine J.unguard rfl rfl rfl ?_; (first | refine J.pickT rfl rfl rfl ?_ | refine J.pickF rfl rfl rfl ?_))
          (first | refine J.pickT rfl rfl rfl ?_ | refine J.pickF rfl rfl rfl ?_)
          refine J.assign rfl rfl ?_
          refine J.nil ?_
          refine JX.thenN (hK1 _ _ ?_)
          refine JC.ret ?_
          refine JX.ret1 rfl rfl (fun w hw => ?_)
          refine ⟨ret_bool ?_, hw.same hw0 (fun p hp => by simp at hp ⊢; subst hp; simp)⟩
          first | (simp_all [viaB]; done) | (simp [viaB] at *; omega) | (simp [viaB] at *; intros; omega)
  · skip
    try simp only [decide_eq_true_eq, decide_eq_false_iff_not, beq_iff_eq, bne_iff_ne, bne_eq_false_iff_eq, ne_eq, beq_eq_false_iff_ne, Bool.not_eq_true, Bool.not_eq_false, Int.not_lt, Int.not_le] at hs6
    first
    | exact absurd hs6 (by decide)
    | skip
      first | refine J.skip rfl rfl rfl rfl rfl ?_ | refine J.skipU rfl rfl rfl rfl ?_ | (refine J.unguard rfl rfl rfl ?_; refine J.fieldAddr Ty.fd55_3 rfl rfl ?_)
      first | refine J.skip rfl rfl rfl rfl rfl ?_ | refine J.skipU rfl rfl rfl rfl ?_ | (refine J.unguard rfl rfl rfl ?_; refine J.loadO Ty.a3 rfl (by repeat first | exact .head _ | apply List.Mem.tail | apply List.mem_append_right) (by exact rfl) rfl ?_)
      first | refine J.skip rfl rfl rfl rfl rfl ?_ | refine J.skipU rfl rfl rfl rfl ?_ | (refine J.unguard rfl rfl rfl ?_; refine J.loadO Ty.a3 rfl (by repeat first | exact .head _ | apply List.Mem.tail | apply List.mem_append_right) (by exact rfl) rfl ?_)
      first | refine J.skip rfl rfl rfl rfl rfl ?_ | refine J.skipU rfl rfl rfl rfl ?_ | (refine J.unguard rfl rfl rfl ?_; refine J.bin rfl rfl rfl rfl ?_)
      first | refine J.skip rfl rfl rfl rfl rfl ?_ | refine J.skipU rfl rfl rfl rfl ?_ | (refine J.unguard rfl rfl rfl ?_; refine J.move rfl rfl ?_)
      first | refine J.skip rfl rfl rfl rfl rfl ?_ | refine J.skipU rfl rfl rfl rfl ?_ | (refine J.unguard rfl rfl rfl ?_; refine J.fieldAddr Ty.fd55_4 rfl rfl ?_)
      first | refine J.skip rfl rfl rfl rfl rfl ?_ | refine J.skipU rfl rfl rfl rfl ?_ | (refine J.unguard rfl rfl rfl ?_; refine J.loadO Ty.a3 rfl (by repeat first | exact .head _ | apply List.Mem.tail | apply List.mem_append_right) (by exact rfl) rfl ?_)
      first | refine J.skip rfl rfl rfl rfl rfl ?_ | refine J.skipU rfl rfl rfl rfl ?_ | (refine J.unguard rfl rfl rfl ?_; refine J.loadO Ty.a3 rfl (by repeat first | exact .head _ | apply List.Mem.tail | apply List.mem_append_right) (by exact rfl) rfl ?_)
      first | refine J.skip rfl rfl rfl rfl rfl ?_ | refine J.skipU rfl rfl rfl rfl ?_ | (refine J.unguard rfl rfl rfl ?_; refine J.bin rfl rfl rfl rfl ?_)
      first | refine J.skip rfl rfl rfl rfl rfl ?_ | refine J.skipU rfl rfl rfl rfl ?_ | (refine J.unguard rfl rfl rfl ?_; (first | refine J.pickT rfl rfl rfl ?_ | refine J.pickF rfl rfl rfl ?_))
      (first | refine J.pickT rfl rfl rfl ?_ | refine J.pickF rfl rfl rfl ?_)
      refine J.assign rfl rfl ?_
      refine J.nil ?_
      refine JX.thenN (hK1 _ _ ?_)
      refine JC.ret ?_
      refine JX.ret1 rfl rfl (fun w hw => ?_)
      refine ⟨ret_bool ?_, hw.same hw0 (fun p hp => by simp at hp ⊢; subst hp; simp)⟩
      first | (simp_all [viaB]; done) | (simp [viaB] at *; omega) | (simp [viaB] at *; intros; omega)

theorem all_spec (t mb : Nat) (most : Int) (L : List EV) (es : Array MapEntry) (clock : Nat) (w : World) (ht : w.heap[t]? = some (tabO most mb)) (hmm : w.heap[mb]? = some (.map es clock)) (hT : Tab L es clock) (hn : L.length ≤ 1099511627776) :
    Calls Try.prog 37 [.pointer (some ⟨t, 0, none⟩)].toArray w fun r w' => ∃ x : Value × List (Nat × Obj), r = .returned x.1 ∧ Vec 55 51 x.1 (ordE L).length (fE (ordE L)) x.2 ∧ St w [] x.2 w' := by
  refine calls_of_J (args := [.pointer (some ⟨t, 0, none⟩)]) (e := [(0, .pointer (some ⟨t, 0, none⟩))]) Try.func37 rfl rfl ⟨rfl, trivial⟩ (St.start w) ?_
  refine JC.seq (fun K0 hK0 => ?_)
  refine JC.region ?_
  refine J.assign rfl rfl ?_
  refine J.nil ?_
  refine JX.thenN (hK0 _ _ ?_)
  refine JC.seq (fun K1 hK1 => ?_)
  refine JC.region ?_
  refine J.move rfl rfl ?_
  refine J.perm ([] ++ ([])) (.refl _) ?_
  refine J.callS (α := Value × List (Nat × Obj)) (V := (·.1)) (Pr := fun x => Vec 55 51 x.1 ((ordE L).filter (fun _ => true)).length (fE ((ordE L).filter (fun _ => true))) x.2) (L := (·.2)) (l1 := []) Ty.bd60 rfl rfl (fun w1 hw => of_spec t mb most L es clock w1 (by rw [hw.keep t (lt_of_some ht) (by simp)]; exact ht) (by rw [hw.keep mb (lt_of_some hmm) (by simp)]; exact hmm) hT hn 61 #[] (fun _ => true) [] (own_nil _) Ty.bd61 (fun x W hx hW => by simpa using all1_spec x W)) (fun x hvl => ?_)
  obtain ⟨vl, ll⟩ := x
  simp only at hvl ⊢
  rw [filter_all] at hvl
  refine J.assign rfl rfl ?_
  refine J.nil ?_
  refine JX.thenN (hK1 _ _ ?_)
  refine JC.ret ?_
  refine JX.ret1 rfl rfl (fun w hw => ?_)
  exact ⟨(vl, ll), rfl, hvl, hw.drop (List.sublist_append_left _ _)⟩

theorem via_spec (t mb : Nat) (most : Int) (L : List EV) (es : Array MapEntry) (clock : Nat) (w : World) (ht : w.heap[t]? = some (tabO most mb)) (hmm : w.heap[mb]? = some (.map es clock)) (hT : Tab L es clock) (hn : L.length ≤ 1099511627776) (n : Int) :
    Calls Try.prog 39 [.pointer (some ⟨t, 0, none⟩), .int .i64 n].toArray w fun r w' => ∃ x : Value × List (Nat × Obj), r = .returned x.1 ∧ Vec 55 51 x.1 ((ordE L).filter (viaB n)).length (fE ((ordE L).filter (viaB n))) x.2 ∧ St w [] x.2 w' := by
  refine calls_of_J (args := [.pointer (some ⟨t, 0, none⟩), .int .i64 n]) (e := [(0, .pointer (some ⟨t, 0, none⟩)), (1, .int .i64 n)]) Try.func39 rfl rfl ⟨rfl, rfl, trivial⟩ (St.start w) ?_
  refine JC.seq (fun K0 hK0 => ?_)
  refine JC.region ?_
  refine J.box rfl rfl rfl (fun b3 => ?_)
  refine J.assign rfl rfl ?_
  refine J.nil ?_
  refine JX.thenN (hK0 _ _ ?_)
  refine JC.seq (fun K1 hK1 => ?_)
  refine JC.region ?_
  refine J.move rfl rfl ?_
  refine J.makeFn rfl rfl ?_
  refine J.perm ([] ++ ([(b3, cb [.int .i64 n] 3)])) (.refl _) ?_
  refine J.callS (α := Value × List (Nat × Obj)) (V := (·.1)) (Pr := fun x => Vec 55 51 x.1 ((ordE L).filter (viaB n)).length (fE ((ordE L).filter (viaB n))) x.2) (L := (·.2)) (l1 := []) Ty.bd60 rfl rfl (fun w1 hw => of_spec t mb most L es clock w1 (by rw [hw.keep t (lt_of_some ht) (by simp)]; exact ht) (by rw [hw.keep mb (lt_of_some hmm) (by simp)]; exact hmm) hT hn 63 #[.pointer (some ⟨b3, 0, none⟩)] (viaB n) [(b3, cb [.int .i64 n] 3)] (hw.owns' (l := [(b3, cb [.int .i64 n] 3)])) Ty.bd63 (fun x W hx hW => by simpa using via1_spec b3 n x W hW)) (fun x hvl => ?_)
  obtain ⟨vl, ll⟩ := x
  simp only at hvl ⊢
  refine J.assign rfl rfl ?_
  refine J.nil ?_
  refine JX.thenN (hK1 _ _ ?_)
  refine JC.ret ?_
  refine JX.ret1 rfl rfl (fun w hw => ?_)
  exact ⟨(vl, ll), rfl, hvl, hw.drop (List.sublist_append_left _ _)⟩

theorem remove_spec (t mb : Nat) (most : Int) (L : List EV) (es : Array MapEntry) (clock : Nat) (w : World) (hw0 : Own w [(t, tabO most mb), (mb, .map es clock)]) (hT : Tab L es clock) (p : PV) (hp : okN p.n) :
    Calls Try.prog 53 [.pointer (some ⟨t, 0, none⟩), .agg (cP p).toArray].toArray w fun r w' => ∃ es', r = .returned (.tuple #[.agg (cE ((tget L p).getD zE)).toArray, .bool (tget L p).isSome]) ∧ Tab (L.filter (fun y => decide (y.p ≠ p))) es' clock ∧ St w [t, mb] [(t, tabO most mb), (mb, .map es' clock)] w' := by
  refine calls_of_J (args := [.pointer (some ⟨t, 0, none⟩), .agg (cP p).toArray]) (e := [(0, .pointer (some ⟨t, 0, none⟩)), (1, .agg (cP p).toArray)]) Try.func53 rfl rfl ⟨rfl, rfl, trivial⟩ (hw0.st) ?_
  refine JC.seq (fun K0 hK0 => ?_)
  refine JC.region ?_
  refine J.box rfl rfl rfl (fun b3 => ?_)
  refine J.alloc Ty.zE_ rfl rfl (fun b4 => ?_)
  refine J.assign rfl rfl ?_
  refine J.nil ?_
  refine JX.thenN (hK0 _ _ ?_)
  refine JC.seq (fun K1 hK1 => ?_)
  refine JC.region ?_
  refine J.move rfl rfl ?_
  refine J.loadOA (vs := cP p) Ty.a38 Ty.s38 rfl (by repeat first | exact .head _ | apply List.Mem.tail | apply List.mem_append_right) (by exact rfl) rfl rfl ?_
  refine J.callB (v := .tuple #[.agg (cE ((tget L p).getD zE)).toArray, .bool (tget L p).isSome]) (fun w1 w2 hw hb => hw.step hb) Ty.bd31 rfl rfl (fun w1 hw => get_spec t mb most L es clock w1 (St.owns (l1 := [(t, tabO most mb), (mb, .map es clock)]) (l := [(b4, cb (cE zE) 55), (b3, cb (cP p) 38)]) (hw.perm (by (refine perm_cnt (fun _ => ?_)); simp only [cntB_append, cntB_cons, cntB_nil, Nat.add_zero, Nat.zero_add]; try ac_rfl))) hT p hp) ?_
  refine J.move rfl rfl ?_
  refine J.extract rfl rfl rfl ?_
  refine J.extract rfl rfl rfl ?_
  refine J.alloc Ty.zE_ rfl rfl (fun b6 => ?_)
  refine J.storeW (cs := cE zE) (vs := cE ((tget L p).getD zE)) Ty.s55 rfl rfl rfl rfl rfl (one_cE _) .here ?_
  refine J.assign rfl rfl ?_
  refine J.nil ?_
  refine JX.thenN (hK1 _ _ ?_)
  refine JC.seq (fun K2 hK2 => ?_)
  refine JC.seq (fun K3 hK3 => ?_)
  refine JC.region ?_
  refine J.move rfl rfl ?_
  refine J.nil ?_
  refine JX.thenN (hK3 _ _ ?_)
  refine JC.cond rfl (fun h0 => ?_) (fun h0 => ?_)
  · skip
    skip
    apply JC.drawL 5 [Eqv (.pointer (some ⟨t, 0, none⟩)), Eqv (.pointer (some ⟨t, 0, none⟩)), Eqv (.pointer (some ⟨t, 0 + 1, none⟩)), Eqv (.map (some mb)), Eqv (.agg (cP p).toArray)] Ty.mixed rfl rfl rfl (by kernel_rfl) rfl rfl (fun w w' hw hb => hw.step hb) ⟨fun _ _ _ h _ => h, fun _ _ _ h _ => h, fun _ _ _ h _ => h, fun _ _ _ h _ => h, fun _ _ _ h _ => h, trivial⟩ ?hstep ?htail
    case hstep =>
      refine ⟨fun wi => ?_, fun wi => ?_, fun wi => ?_, fun wi => ?_, fun wi => ?_, trivial⟩
      · skip
        refine Fin.nil ?_
        refine J.move rfl rfl ?_
        exact J.finP rfl
      · skip
        refine Fin.consE rfl (Fin.nil ?_)
        refine J.nilCheck rfl rfl ?_
        exact J.finP rfl
      · skip
        refine Fin.consE rfl (Fin.nil ?_)
        refine J.fieldAddr Ty.fd111_1 rfl rfl ?_
        exact J.finP rfl
      · skip
        refine Fin.consE rfl (Fin.nil ?_)
        refine J.load1 (v := .map (some mb)) Ty.a109 rfl (fun w1 hw => by rw [cell_of (hw.2.own _ (.tail _ (.tail _ (.tail _ (.head _)))))]; rfl) rfl ?_
        exact J.finP rfl
      · skip
        refine Fin.nil ?_
        refine J.loadA (vs := cP p) Ty.a38 Ty.s38 rfl rfl (fun w1 hw => Cells.of_block (hw.2.own _ (.tail _ (.tail _ (.head _)))) rfl) rfl ?_
        exact J.finP rfl
    case htail =>
      refine Fin.consE rfl (Fin.consE rfl (Fin.consE rfl (Fin.consE rfl (Fin.consE rfl (Fin.nil ?_)))))
      refine J.deleteT (l' := fun es' => (b6, cb (cE ((tget L p).getD zE)) 55) :: (b4, cb (cE zE) 55) :: (b3, cb (cP p) 38) :: (t, tabO most mb) :: [(mb, .map es' clock)]) Ty.u109 Ty.KP Ty.keyP rfl rfl hT hp (fun _ => .there (.there (.there (.there .here)))) (fun es' hT' => ?_)
      refine J.nil ?_
      refine JX.thenN (hK2 _ _ ?_)
      refine JC.seq (fun K4 hK4 => ?_)
      refine JC.region ?_
      refine J.loadOA (vs := cE ((tget L p).getD zE)) Ty.a55 Ty.s55 rfl (.head _) rfl rfl rfl ?_
      refine J.move rfl rfl ?_
      refine J.storeW (cs := cE zE) (vs := cE ((tget L p).getD zE)) Ty.s55 rfl rfl rfl rfl rfl (one_cE _) (.there .here) ?_
      refine J.assign rfl rfl ?_
      refine J.nil ?_
      refine JX.thenN (hK4 _ _ ?_)
      refine JC.ret ?_
      refine JX.retCT rfl rfl rfl Ty.a55 Ty.s55 (vs := cE ((tget L p).getD zE)) rfl (fun w1 hw => Cells.of_block (hw.own _ (.tail _ (.head _))) rfl) (fun w1 hw => ?_)
      exact ⟨es', rfl, hT', hw.drop (.cons _ (.cons _ (.cons _ (List.Sublist.refl _))))⟩
  · skip
    have hno := filter_no (L := L) (p := p) (by cases h : tget L p with
      | none => rfl
      | some y => rw [h] at h0; cases h0)
    refine JC.skip ?_
    refine JX.thenN (hK2 _ _ ?_)
    refine JC.seq (fun K5 hK5 => ?_)
    refine JC.region ?_
    refine J.loadOA (vs := cE ((tget L p).getD zE)) Ty.a55 Ty.s55 rfl (.head _) rfl rfl rfl ?_
    refine J.move rfl rfl ?_
    refine J.storeW (cs := cE zE) (vs := cE ((tget L p).getD zE)) Ty.s55 rfl rfl rfl rfl rfl (one_cE _) (.there .here) ?_
    refine J.assign rfl rfl ?_
    refine J.nil ?_
    refine JX.thenN (hK5 _ _ ?_)
    refine JC.ret ?_
    refine JX.retCT rfl rfl rfl Ty.a55 Ty.s55 (vs := cE ((tget L p).getD zE)) rfl (fun w1 hw => Cells.of_block (hw.own _ (.tail _ (.head _))) rfl) (fun w1 hw => ?_)
    exact ⟨es, rfl, by rw [hno]; exact hT, hw.drop (.cons _ (.cons _ (.cons _ (List.Sublist.refl _))))⟩

theorem get_nil (p : PV) (w : World) :
    Calls Try.prog 31 [.pointer none, .agg (cP p).toArray].toArray w fun r w' => r = .returned (.tuple #[.agg (cE zE).toArray, .bool false]) ∧ Bel w w' := by
  refine calls_of_J (args := [.pointer none, .agg (cP p).toArray]) (e := [(0, .pointer none), (1, .agg (cP p).toArray)]) Try.func31 rfl rfl ⟨rfl, rfl, trivial⟩ (St.start w) ?_
  refine JC.seq (fun K0 hK0 => ?_)
  refine JC.region ?_
  refine J.box rfl rfl rfl (fun b3 => ?_)
  refine J.alloc Ty.zE_ rfl rfl (fun b4 => ?_)
  refine J.assign rfl rfl ?_
  refine J.nil ?_
  refine JX.thenN (hK0 _ _ ?_)
  refine JC.seq (fun K1 hK1 => ?_)
  refine JC.seq (fun K2 hK2 => ?_)
  refine JC.region ?_
  refine J.move rfl rfl ?_
  refine J.eqNil Ty.u28 rfl rfl rfl ?_
  refine J.nil ?_
  refine JX.thenN (hK2 _ _ ?_)
  first | refine JC.condT rfl ?_ | refine JC.cond rfl (fun _ => ?_) (fun h => by first | (exfalso; simp at h; omega) | (simp at h))
  refine JC.seq (fun K3 hK3 => ?_)
  refine JC.region ?_
  refine J.buildS Ty.pl55 Ty.zE_ rfl rfl rfl ?_
  refine J.storeW (cs := cE zE) (vs := cE zE) Ty.s55 rfl rfl rfl rfl rfl (one_cE _) .here ?_
  refine J.assign rfl rfl ?_
  refine J.nil ?_
  refine JX.thenN (hK3 _ _ ?_)
  refine JC.ret ?_
  refine JX.thenR ?_
  refine JX.retCT rfl rfl rfl Ty.a55 Ty.s55 (vs := cE zE) rfl (fun w1 hw => Cells.of_block (hw.own _ (.head _)) rfl) (fun w1 hw => ?_)
  exact ⟨rfl, (hw.drop (List.nil_sublist _)).below⟩

theorem remove_nil (p : PV) (w : World) :
    Calls Try.prog 53 [.pointer none, .agg (cP p).toArray].toArray w fun r w' => r = .returned (.tuple #[.agg (cE zE).toArray, .bool false]) ∧ Bel w w' := by
  refine calls_of_J (args := [.pointer none, .agg (cP p).toArray]) (e := [(0, .pointer none), (1, .agg (cP p).toArray)]) Try.func53 rfl rfl ⟨rfl, rfl, trivial⟩ (St.start w) ?_
  refine JC.seq (fun K0 hK0 => ?_)
  refine JC.region ?_
  refine J.box rfl rfl rfl (fun b3 => ?_)
  refine J.alloc Ty.zE_ rfl rfl (fun b4 => ?_)
  refine J.assign rfl rfl ?_
  refine J.nil ?_
  refine JX.thenN (hK0 _ _ ?_)
  refine JC.seq (fun K1 hK1 => ?_)
  refine JC.region ?_
  refine J.move rfl rfl ?_
  refine J.loadOA (vs := cP p) Ty.a38 Ty.s38 rfl (by repeat first | exact .head _ | apply List.Mem.tail | apply List.mem_append_right) (by exact rfl) rfl rfl ?_
  refine J.callB (v := .tuple #[.agg (cE zE).toArray, .bool false]) (fun w1 w2 hw hb => hw.step hb) Ty.bd31 rfl rfl (fun w1 hw => get_nil p w1) ?_
  refine J.move rfl rfl ?_
  refine J.extract rfl rfl rfl ?_
  refine J.extract rfl rfl rfl ?_
  refine J.alloc Ty.zE_ rfl rfl (fun b6 => ?_)
  refine J.storeW (cs := cE zE) (vs := cE zE) Ty.s55 rfl rfl rfl rfl rfl (one_cE _) .here ?_
  refine J.assign rfl rfl ?_
  refine J.nil ?_
  refine JX.thenN (hK1 _ _ ?_)
  refine JC.seq (fun K2 hK2 => ?_)
  refine JC.seq (fun K3 hK3 => ?_)
  refine JC.region ?_
  refine J.move rfl rfl ?_
  refine J.nil ?_
  refine JX.thenN (hK3 _ _ ?_)
  first | refine JC.condF rfl ?_ | refine JC.cond rfl (fun h => by first | (exfalso; simp at h; omega) | (simp at h)) (fun _ => ?_)
  refine JC.skip ?_
  refine JX.thenN (hK2 _ _ ?_)
  refine JC.seq (fun K4 hK4 => ?_)
  refine JC.region ?_
  refine J.loadOA (vs := cE zE) Ty.a55 Ty.s55 rfl (.head _) rfl rfl rfl ?_
  refine J.move rfl rfl ?_
  refine J.storeW (cs := cE zE) (vs := cE zE) Ty.s55 rfl rfl rfl rfl rfl (one_cE _) (.there .here) ?_
  refine J.assign rfl rfl ?_
  refine J.nil ?_
  refine JX.thenN (hK4 _ _ ?_)
  refine JC.ret ?_
  refine JX.retCT rfl rfl rfl Ty.a55 Ty.s55 (vs := cE zE) rfl (fun w1 hw => Cells.of_block (hw.own _ (.tail _ (.head _))) rfl) (fun w1 hw => ?_)
  exact ⟨rfl, (hw.drop (List.nil_sublist _)).below⟩

theorem add_nil (x : EV) (w : World) :
    Calls Try.prog 44 [.pointer none, .agg (cE x).toArray].toArray w fun r w' => r = .returned (.int .i64 1) ∧ Bel w w' := by
  refine calls_of_J (args := [.pointer none, .agg (cE x).toArray]) (e := [(0, .pointer none), (1, .agg (cE x).toArray)]) Try.func44 rfl rfl ⟨rfl, rfl, trivial⟩ (St.start w) ?_
  refine JC.seq (fun K0 hK0 => ?_)
  refine JC.region ?_
  refine J.box rfl rfl rfl (fun b3 => ?_)
  refine J.assign rfl rfl ?_
  refine J.nil ?_
  refine JX.thenN (hK0 _ _ ?_)
  refine JC.seq (fun K1 hK1 => ?_)
  refine JC.block ?_
  refine JC.seq (fun K2 hK2 => ?_)
  refine JC.region ?_
  refine J.move rfl rfl ?_
  refine J.eqNil Ty.u28 rfl rfl rfl ?_
  refine J.move rfl rfl ?_
  first | refine J.skip rfl rfl rfl rfl rfl ?_ | refine J.skipU rfl rfl rfl rfl ?_ | (refine J.unguard rfl rfl rfl ?_; refine J.loadOA Ty.a55 Ty.s55 rfl (by repeat first | exact .head _ | apply List.Mem.tail | apply List.mem_append_right) (by exact rfl) rfl rfl ?_)
  first | refine J.skip rfl rfl rfl rfl rfl ?_ | refine J.skipU rfl rfl rfl rfl ?_ | (refine J.unguard rfl rfl rfl ?_; fail)
  first | refine J.skip rfl rfl rfl rfl rfl ?_ | refine J.skipU rfl rfl rfl rfl ?_ | (refine J.unguard rfl rfl rfl ?_; refine J.not rfl rfl ?_)
  (first | refine J.pickT rfl rfl rfl ?_ | refine J.pickF rfl rfl rfl ?_)
  refine J.assign rfl rfl ?_
  refine J.nil ?_
  refine JX.thenN (hK2 _ _ ?_)
  first | refine JC.condT rfl ?_ | refine JC.cond rfl (fun _ => ?_) (fun h => by first | (exfalso; simp at h; omega) | (simp at h))
  refine JC.seq (fun K3 hK3 => ?_)
  refine JC.region ?_
  refine J.assign rfl rfl ?_
  refine J.nil ?_
  refine JX.thenN (hK3 _ _ ?_)
  refine JC.ret ?_
  refine JX.blockR ?_
  refine JX.thenR ?_
  refine JX.ret1 rfl rfl (fun w hw => ?_)
  exact ⟨rfl, (hw.drop (List.nil_sublist _)).below⟩

theorem len_nil (w : World) :
    Calls Try.prog 27 [.pointer none].toArray w fun r w' => r = .returned (.int .i64 0) ∧ Bel w w' := by
  refine calls_of_J (args := [.pointer none]) (e := [(0, .pointer none)]) Try.func27 rfl rfl ⟨rfl, trivial⟩ (St.start w) ?_
  refine JC.seq (fun K0 hK0 => ?_)
  refine JC.region ?_
  refine J.assign rfl rfl ?_
  refine J.nil ?_
  refine JX.thenN (hK0 _ _ ?_)
  refine JC.seq (fun K1 hK1 => ?_)
  refine JC.seq (fun K2 hK2 => ?_)
  refine JC.region ?_
  refine J.move rfl rfl ?_
  refine J.eqNil Ty.u28 rfl rfl rfl ?_
  refine J.nil ?_
  refine JX.thenN (hK2 _ _ ?_)
  first | refine JC.condT rfl ?_ | refine JC.cond rfl (fun _ => ?_) (fun h => by first | (exfalso; simp at h; omega) | (simp at h))
  refine JC.seq (fun K3 hK3 => ?_)
  refine JC.region ?_
  refine J.assign rfl rfl ?_
  refine J.nil ?_
  refine JX.thenN (hK3 _ _ ?_)
  refine JC.ret ?_
  refine JX.thenR ?_
  refine JX.ret1 rfl rfl (fun w hw => ?_)
  exact ⟨rfl, hw.below⟩

theorem of_nil (F : Value) (w : World) :
    Calls Try.prog 60 [.pointer none, F].toArray w fun r w' => r = .returned (.slice none 0 0) ∧ Bel w w' := by
  refine calls_of_J (args := [.pointer none, F]) (e := [(0, .pointer none), (1, F)]) Try.func60 rfl rfl ⟨rfl, rfl, trivial⟩ (St.start w) ?_
  refine JC.seq (fun K0 hK0 => ?_)
  refine JC.region ?_
  refine J.assign rfl rfl ?_
  refine J.nil ?_
  refine JX.thenN (hK0 _ _ ?_)
  refine JC.seq (fun K1 hK1 => ?_)
  refine JC.seq (fun K2 hK2 => ?_)
  refine JC.region ?_
  refine J.move rfl rfl ?_
  refine J.eqNil Ty.u28 rfl rfl rfl ?_
  refine J.nil ?_
  refine JX.thenN (hK2 _ _ ?_)
  first | refine JC.condT rfl ?_ | refine JC.cond rfl (fun _ => ?_) (fun h => by first | (exfalso; simp at h; omega) | (simp at h))
  refine JC.seq (fun K3 hK3 => ?_)
  refine JC.region ?_
  refine J.assign rfl rfl ?_
  refine J.nil ?_
  refine JX.thenN (hK3 _ _ ?_)
  refine JC.ret ?_
  refine JX.thenR ?_
  refine JX.ret1 rfl rfl (fun w hw => ?_)
  exact ⟨rfl, hw.below⟩

theorem all_nil (w : World) :
    Calls Try.prog 37 [.pointer none].toArray w fun r w' => r = .returned (.slice none 0 0) ∧ Bel w w' := by
  refine calls_of_J (args := [.pointer none]) (e := [(0, .pointer none)]) Try.func37 rfl rfl ⟨rfl, trivial⟩ (St.start w) ?_
  refine JC.seq (fun K0 hK0 => ?_)
  refine JC.region ?_
  refine J.assign rfl rfl ?_
  refine J.nil ?_
  refine JX.thenN (hK0 _ _ ?_)
  refine JC.seq (fun K1 hK1 => ?_)
  refine JC.region ?_
  refine J.move rfl rfl ?_
  refine J.callB (v := .slice none 0 0) (fun w1 w2 hw hb => hw.step hb) Ty.bd60 rfl rfl (fun w1 hw => of_nil _ w1) ?_
  refine J.assign rfl rfl ?_
  refine J.nil ?_
  refine JX.thenN (hK1 _ _ ?_)
  refine JC.ret ?_
  refine JX.ret1 rfl rfl (fun w hw => ?_)
  exact ⟨rfl, (hw.drop (List.nil_sublist _)).below⟩

theorem via_nil (n : Int) (w : World) :
    Calls Try.prog 39 [.pointer none, .int .i64 n].toArray w fun r w' => r = .returned (.slice none 0 0) ∧ Bel w w' := by
  refine calls_of_J (args := [.pointer none, .int .i64 n]) (e := [(0, .pointer none), (1, .int .i64 n)]) Try.func39 rfl rfl ⟨rfl, rfl, trivial⟩ (St.start w) ?_
  refine JC.seq (fun K0 hK0 => ?_)
  refine JC.region ?_
  refine J.box rfl rfl rfl (fun b3 => ?_)
  refine J.assign rfl rfl ?_
  refine J.nil ?_
  refine JX.thenN (hK0 _ _ ?_)
  refine JC.seq (fun K1 hK1 => ?_)
  refine JC.region ?_
  refine J.move rfl rfl ?_
  refine J.makeFn rfl rfl ?_
  refine J.callB (v := .slice none 0 0) (fun w1 w2 hw hb => hw.step hb) Ty.bd60 rfl rfl (fun w1 hw => of_nil _ w1) ?_
  refine J.assign rfl rfl ?_
  refine J.nil ?_
  refine JX.thenN (hK1 _ _ ?_)
  refine JC.ret ?_
  refine JX.ret1 rfl rfl (fun w hw => ?_)
  exact ⟨rfl, (hw.drop (List.nil_sublist _)).below⟩

end Go.Proofs.Ytohldionclgljaa
