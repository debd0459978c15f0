/-
  All, Via, To, Own and Remove of a table; a nil table; Other: contracts.
-/
import Derived.Test.YtohldionclgljaaGreatUd
namespace Go.Proofs.YtohldionclgljaaGreat
open Go.J Go.RowKit
set_option linter.unusedVariables false
set_option linter.unusedSimpArgs false
set_option maxRecDepth 4000
def viaB (n : Int) (x : EV) : Bool := decide (0 ≤ n) && (decide (x.na = n) || decide (x.nb = n))
def toB (id : IDV) (x : EV) : Bool := decide (x.a = id) || decide (x.b = id)
def ownB (x : EV) : Bool := decide (x.na = -1) || decide (x.nb = -1)
theorem filter_all {L : List EV} : L.filter (fun _ => true) = L := List.filter_eq_self.2 fun _ _ => rfl
theorem own_nil (w : World) : Own w [] := ⟨(fun p hp => by cases hp), .nil⟩
theorem ret_bool {a b : Bool} (h : a = true ↔ b = true) : Ending.returned (.bool a) = Ending.returned (.bool b) := by rw [Bool.eq_iff_iff.2 h]
theorem filter_no {L : List EV} {p : PV} (h : tget L p = none) : L.filter (fun y => decide (y.p ≠ p)) = L := List.filter_eq_self.2 fun y hy => by
  have := tget_none.1 h y hy
  simpa using this

theorem all1_spec (x : EV) (w : World) :
    Calls Tryz.prog 39 [.agg (cE x).toArray].toArray w fun r w' => r = .returned (.bool true) ∧ Bel w w' := by
  refine calls_of_J (args := [.agg (cE x).toArray]) (e := [(0, .agg (cE x).toArray)]) Tryz.func39 rfl rfl ⟨rfl, trivial⟩ (St.start w) ?_
  refine JC.seq (fun K0 hK0 => ?_)
  refine JC.region ?_
  refine J.box rfl rfl rfl (fun b1 => ?_)
  refine J.assign rfl rfl ?_
  refine J.nil ?_
  refine JX.thenN (hK0 _ _ ?_)
  refine JC.seq (fun K1 hK1 => ?_)
  refine JC.region ?_
  refine J.assign rfl rfl ?_
  refine J.nil ?_
  refine JX.thenN (hK1 _ _ ?_)
  refine JC.ret ?_
  refine JX.ret1 rfl rfl (fun w hw => ?_)
  exact ⟨rfl, hw.below⟩

theorem via1_spec (b : Nat) (n : Int) (x : EV) (w : World) (hw0 : Own w [(b, cb [.int .i64 n] 3)]) :
    Calls Tryz.prog 69 [.agg (cE x).toArray, .pointer (some ⟨b, 0, none⟩)].toArray w fun r w' => r = .returned (.bool (viaB n x)) ∧ Bel w w' := by
  refine calls_of_J (args := [.agg (cE x).toArray, .pointer (some ⟨b, 0, none⟩)]) (e := [(0, .agg (cE x).toArray), (1, .pointer (some ⟨b, 0, none⟩))]) Tryz.func69 rfl rfl ⟨rfl, rfl, trivial⟩ (hw0.st) ?_
  refine JC.seq (fun K0 hK0 => ?_)
  refine JC.region ?_
  refine J.box rfl rfl rfl (fun b2 => ?_)
  refine J.assign rfl rfl ?_
  refine J.nil ?_
  refine JX.thenN (hK0 _ _ ?_)
  refine JC.seq (fun K1 hK1 => ?_)
  refine JC.region ?_
  refine J.loadO Ty.a3 rfl (by repeat first | exact .head _ | apply List.Mem.tail | apply List.mem_append_right) (by exact rfl) rfl ?_
  refine J.bin rfl rfl rfl rfl ?_
  refine J.move rfl rfl ?_
  refine J.split 6 rfl (fun hs6 => ?_) (fun hs6 => ?_)
  · skip
    try simp only [decide_eq_true_eq, decide_eq_false_iff_not, beq_iff_eq, bne_iff_ne, bne_eq_false_iff_eq, ne_eq, beq_eq_false_iff_ne, Bool.not_eq_true, Bool.not_eq_false, Int.not_lt, Int.not_le] at hs6
    first
    | exact absurd hs6 (by decide)
    | skip
      first | refine J.skip rfl rfl rfl rfl rfl ?_ | refine J.skipU rfl rfl rfl rfl ?_ | (refine J.unguard rfl rfl rfl ?_; refine J.fieldAddr Ty.fd33_3 rfl rfl ?_)
      first | refine J.skip rfl rfl rfl rfl rfl ?_ | refine J.skipU rfl rfl rfl rfl ?_ | (refine J.unguard rfl rfl rfl ?_; refine J.loadO Ty.a3 rfl (by repeat first | exact .head _ | apply List.Mem.tail | apply List.mem_append_right) (by exact rfl) rfl ?_)
      first | refine J.skip rfl rfl rfl rfl rfl ?_ | refine J.skipU rfl rfl rfl rfl ?_ | (refine J.unguard rfl rfl rfl ?_; refine J.loadO Ty.a3 rfl (by repeat first | exact .head _ | apply List.Mem.tail | apply List.mem_append_right) (by exact rfl) rfl ?_)
      first | refine J.skip rfl rfl rfl rfl rfl ?_ | refine J.skipU rfl rfl rfl rfl ?_ | (refine J.unguard rfl rfl rfl ?_; refine J.bin rfl rfl rfl rfl ?_)
      first | refine J.skip rfl rfl rfl rfl rfl ?_ | refine J.skipU rfl rfl rfl rfl ?_ | (refine J.unguard rfl rfl rfl ?_; refine J.move rfl rfl ?_)
      refine J.split 11 rfl (fun hs11 => ?_) (fun hs11 => ?_)
      · skip
        try simp only [decide_eq_true_eq, decide_eq_false_iff_not, beq_iff_eq, bne_iff_ne, bne_eq_false_iff_eq, ne_eq, beq_eq_false_iff_ne, Bool.not_eq_true, Bool.not_eq_false, Int.not_lt, Int.not_le] at hs11
        first
        | exact absurd hs11 (by decide)
        | skip
          first | refine J.skip rfl rfl rfl rfl rfl ?_ | refine J.skipU rfl rfl rfl rfl ?_ | (refine J.unguard rfl rfl rfl ?_; refine J.fieldAddr Ty.fd33_4 rfl rfl ?_)
          first | refine J.skip rfl rfl rfl rfl rfl ?_ | refine J.skipU rfl rfl rfl rfl ?_ | (refine J.unguard rfl rfl rfl ?_; refine J.loadO Ty.a3 rfl (by repeat first | exact .head _ | apply List.Mem.tail | apply List.mem_append_right) (by exact rfl) rfl ?_)
          first | refine J.skip rfl rfl rfl rfl rfl ?_ | refine J.skipU rfl rfl rfl rfl ?_ | (refine J.unguard rfl rfl rfl ?_; refine J.loadO Ty.a3 rfl (by repeat first | exact .head _ | apply List.Mem.tail | apply List.mem_append_right) (by exact rfl) rfl ?_)
          first | refine J.skip rfl rfl rfl rfl rfl ?_ | refine J.skipU rfl rfl rfl rfl ?_ | (refine J.unguard rfl rfl rfl ?_; refine J.bin rfl rfl rfl rfl ?_)
          first | refine J.skip rfl rfl rfl rfl rfl ?_ | refine J.skipU rfl rfl rfl rfl ?_ | (refine J.unguard rfl rfl rfl ?_; (first | refine J.pickT rfl rfl rfl ?_ | refine J.pickF rfl rfl rfl ?_))
          (first | refine J.pickT rfl rfl rfl ?_ | refine J.pickF rfl rfl rfl ?_)
          refine J.assign rfl rfl ?_
          refine J.nil ?_
          refine JX.thenN (hK1 _ _ ?_)
          refine JC.ret ?_
          refine JX.ret1 rfl rfl (fun w hw => ?_)
          refine ⟨ret_bool ?_, hw.same hw0 (fun p hp => by simp at hp ⊢; subst hp; simp)⟩
          first | (simp_all [viaB]; done) | (simp [viaB] at *; omega) | (simp [viaB] at *; intros; omega)
      · skip
        try simp only [decide_eq_true_eq, decide_eq_false_iff_not, beq_iff_eq, bne_iff_ne, bne_eq_false_iff_eq, ne_eq, beq_eq_false_iff_ne, Bool.not_eq_true, Bool.not_eq_false, Int.not_lt, Int.not_le] at hs11
        first
        | exact absurd hs11 (by decide)
        | skip
          first | refine J.skip rfl rfl rfl rfl rfl ?_ | refine J.skipU rfl rfl rfl rfl ?_ | (refine J.unguard rfl rfl rfl ?_; refine J.fieldAddr Ty.fd33_4 rfl rfl ?_)
          first | refine J.skip rfl rfl rfl rfl rfl ?_ | refine J.skipU rfl rfl rfl rfl ?_ | (refine J.unguard rfl rfl rfl ?_; refine J.loadO Ty.a3 rfl (by repeat first | exact .head _ | apply List.Mem.tail | apply List.mem_append_right) (by exact rfl) rfl ?_)
          first | refine J.skip rfl rfl rfl rfl rfl ?_ | refine J.skipU rfl rfl rfl rfl ?_ | (refine J.unguard rfl rfl rfl ?_; refine J.loadO Ty.a3 rfl (by repeat first | exact .head _ | apply List.Mem.tail | apply List.mem_append_right) (by exact rfl) rfl ?_)
          first | refine J.skip rfl rfl rfl rfl rfl ?_ | refine J.skipU rfl rfl rfl rfl ?_ | (refine J.unguard rfl rfl rfl ?_; refine J.bin rfl rfl rfl rfl ?_)
          first | refine J.skip rfl rfl rfl rfl rfl ?_ | refine J.skipU rfl rfl rfl rfl ?_ | (refine J.unguard rfl rfl rfl ?_; (first | refine J.pickT rfl rfl rfl ?_ | refine J.pickF rfl rfl rfl ?_))
          (first | refine J.pickT rfl rfl rfl ?_ | refine J.pickF rfl rfl rfl ?_)
          refine J.assign rfl rfl ?_
          refine J.nil ?_
          refine JX.thenN (hK1 _ _ ?_)
          refine JC.ret ?_
          refine JX.ret1 rfl rfl (fun w hw => ?_)
          refine ⟨ret_bool ?_, hw.same hw0 (fun p hp => by simp at hp ⊢; subst hp; simp)⟩
          first | (simp_all [viaB]; done) | (simp [viaB] at *; omega) | (simp [viaB] at *; intros; omega)
  · skip
    try simp only [decide_eq_true_eq, decide_eq_false_iff_not, beq_iff_eq, bne_iff_ne, bne_eq_false_iff_eq, ne_eq, beq_eq_false_iff_ne, Bool.not_eq_true, Bool.not_eq_false, Int.not_lt, Int.not_le] at hs6
    first
    | exact absurd hs6 (by decide)
    | skip
      first | refine J.skip rfl rfl rfl rfl rfl ?_ | refine J.skipU rfl rfl rfl rfl ?_ | (refine J.unguard rfl rfl rfl ?_; refine J.fieldAddr Ty.fd33_3 rfl rfl ?_)
      first | refine J.skip rfl rfl rfl rfl rfl ?_ | refine J.skipU rfl rfl rfl rfl ?_ | (refine J.unguard rfl rfl rfl ?_; refine J.loadO Ty.a3 rfl (by repeat first | exact .head _ | apply List.Mem.tail | apply List.mem_append_right) (by exact rfl) rfl ?_)
      first | refine J.skip rfl rfl rfl rfl rfl ?_ | refine J.skipU rfl rfl rfl rfl ?_ | (refine J.unguard rfl rfl rfl ?_; refine J.loadO Ty.a3 rfl (by repeat first | exact .head _ | apply List.Mem.tail | apply List.mem_append_right) (by exact rfl) rfl ?_)
      first | refine J.skip rfl rfl rfl rfl rfl ?_ | refine J.skipU rfl rfl rfl rfl ?_ | (refine J.unguard rfl rfl rfl ?_; refine J.bin rfl rfl rfl rfl ?_)
      first | refine J.skip rfl rfl rfl rfl rfl ?_ | refine J.skipU rfl rfl rfl rfl ?_ | (refine J.unguard rfl rfl rfl ?_; refine J.move rfl rfl ?_)
      first | refine J.skip rfl rfl rfl rfl rfl ?_ | refine J.skipU rfl rfl rfl rfl ?_ | (refine J.unguard rfl rfl rfl ?_; refine J.fieldAddr Ty.fd33_4 rfl rfl ?_)
      first | refine J.skip rfl rfl rfl rfl rfl ?_ | refine J.skipU rfl rfl rfl rfl ?_ | (refine J.unguard rfl rfl rfl ?_; refine J.loadO Ty.a3 rfl (by repeat first | exact .head _ | apply List.Mem.tail | apply List.mem_append_right) (by exact rfl) rfl ?_)
      first | refine J.skip rfl rfl rfl rfl rfl ?_ | refine J.skipU rfl rfl rfl rfl ?_ | (refine J.unguard rfl rfl rfl ?_; refine J.loadO Ty.a3 rfl (by repeat first | exact .head _ | apply List.Mem.tail | apply List.mem_append_right) (by exact rfl) rfl ?_)
      first | refine J.skip rfl rfl rfl rfl rfl ?_ | refine J.skipU rfl rfl rfl rfl ?_ | (refine J.unguard rfl rfl rfl ?_; refine J.bin rfl rfl rfl rfl ?_)
      first | refine J.skip rfl rfl rfl rfl rfl ?_ | refine J.skipU rfl rfl rfl rfl ?_ | (refine J.unguard rfl rfl rfl ?_; (first | refine J.pickT rfl rfl rfl ?_ | refine J.pickF rfl rfl rfl ?_))
      (first | refine J.pickT rfl rfl rfl ?_ | refine J.pickF rfl rfl rfl ?_)
      refine J.assign rfl rfl ?_
      refine J.nil ?_
      refine JX.thenN (hK1 _ _ ?_)
      refine JC.ret ?_
      refine JX.ret1 rfl rfl (fun w hw => ?_)
      refine ⟨ret_bool ?_, hw.same hw0 (fun p hp => by simp at hp ⊢; subst hp; simp)⟩
      first | (simp_all [viaB]; done) | (simp [viaB] at *; omega) | (simp [viaB] at *; intros; omega)

theorem own1_spec (x : EV) (w : World) :
    Calls Tryz.prog 43 [.agg (cE x).toArray].toArray w fun r w' => r = .returned (.bool (ownB x)) ∧ Bel w w' := by
  refine calls_of_J (args := [.agg (cE x).toArray]) (e := [(0, .agg (cE x).toArray)]) Tryz.func43 rfl rfl ⟨rfl, trivial⟩ (St.start w) ?_
  refine JC.seq (fun K0 hK0 => ?_)
  refine JC.region ?_
  refine J.box rfl rfl rfl (fun b1 => ?_)
  refine J.assign rfl rfl ?_
  refine J.nil ?_
  refine JX.thenN (hK0 _ _ ?_)
  refine JC.seq (fun K1 hK1 => ?_)
  refine JC.region ?_
  refine J.fieldAddr Ty.fd33_3 rfl rfl ?_
  refine J.loadO Ty.a3 rfl (by repeat first | exact .head _ | apply List.Mem.tail | apply List.mem_append_right) (by exact rfl) rfl ?_
  refine J.bin rfl rfl rfl rfl ?_
  refine J.move rfl rfl ?_
  refine J.split 6 rfl (fun hs6 => ?_) (fun hs6 => ?_)
  · skip
    try simp only [decide_eq_true_eq, decide_eq_false_iff_not, beq_iff_eq, bne_iff_ne, bne_eq_false_iff_eq, ne_eq, beq_eq_false_iff_ne, Bool.not_eq_true, Bool.not_eq_false, Int.not_lt, Int.not_le] at hs6
    first
    | exact absurd hs6 (by decide)
    | skip
      first | refine J.skip rfl rfl rfl rfl rfl ?_ | refine J.skipU rfl rfl rfl rfl ?_ | (refine J.unguard rfl rfl rfl ?_; refine J.fieldAddr Ty.fd33_4 rfl rfl ?_)
      first | refine J.skip rfl rfl rfl rfl rfl ?_ | refine J.skipU rfl rfl rfl rfl ?_ | (refine J.unguard rfl rfl rfl ?_; refine J.loadO Ty.a3 rfl (by repeat first | exact .head _ | apply List.Mem.tail | apply List.mem_append_right) (by exact rfl) rfl ?_)
      first | refine J.skip rfl rfl rfl rfl rfl ?_ | refine J.skipU rfl rfl rfl rfl ?_ | (refine J.unguard rfl rfl rfl ?_; refine J.bin rfl rfl rfl rfl ?_)
      (first | refine J.pickT rfl rfl rfl ?_ | refine J.pickF rfl rfl rfl ?_)
      refine J.assign rfl rfl ?_
      refine J.nil ?_
      refine JX.thenN (hK1 _ _ ?_)
      refine JC.ret ?_
      refine JX.ret1 rfl rfl (fun w hw => ?_)
      refine ⟨ret_bool ?_, (hw.drop (List.nil_sublist _)).below⟩
      first | (simp_all [ownB]; done) | (simp [ownB] at *; omega) | (simp [ownB] at *; intros; omega)
  · skip
    try simp only [decide_eq_true_eq, decide_eq_false_iff_not, beq_iff_eq, bne_iff_ne, bne_eq_false_iff_eq, ne_eq, beq_eq_false_iff_ne, Bool.not_eq_true, Bool.not_eq_false, Int.not_lt, Int.not_le] at hs6
    first
    | exact absurd hs6 (by decide)
    | skip
      first | refine J.skip rfl rfl rfl rfl rfl ?_ | refine J.skipU rfl rfl rfl rfl ?_ | (refine J.unguard rfl rfl rfl ?_; refine J.fieldAddr Ty.fd33_4 rfl rfl ?_)
      first | refine J.skip rfl rfl rfl rfl rfl ?_ | refine J.skipU rfl rfl rfl rfl ?_ | (refine J.unguard rfl rfl rfl ?_; refine J.loadO Ty.a3 rfl (by repeat first | exact .head _ | apply List.Mem.tail | apply List.mem_append_right) (by exact rfl) rfl ?_)
      first | refine J.skip rfl rfl rfl rfl rfl ?_ | refine J.skipU rfl rfl rfl rfl ?_ | (refine J.unguard rfl rfl rfl ?_; refine J.bin rfl rfl rfl rfl ?_)
      (first | refine J.pickT rfl rfl rfl ?_ | refine J.pickF rfl rfl rfl ?_)
      refine J.assign rfl rfl ?_
      refine J.nil ?_
      refine JX.thenN (hK1 _ _ ?_)
      refine JC.ret ?_
      refine JX.ret1 rfl rfl (fun w hw => ?_)
      refine ⟨ret_bool ?_, (hw.drop (List.nil_sublist _)).below⟩
      first | (simp_all [ownB]; done) | (simp [ownB] at *; omega) | (simp [ownB] at *; intros; omega)

theorem all_spec (t mb : Nat) (most : Int) (L : List EV) (es : Array MapEntry) (clock : Nat) (w : World) (ht : w.heap[t]? = some (tabO most mb)) (hmm : w.heap[mb]? = some (.map es clock)) (hT : Tab L es clock) (hn : L.length ≤ 1099511627776) :
    Calls Tryz.prog 18 [.pointer (some ⟨t, 0, none⟩)].toArray w fun r w' => ∃ x : Value × List (Nat × Obj), r = .returned x.1 ∧ Vec 33 51 x.1 (ordE L).length (fE (ordE L)) x.2 ∧ St w [] x.2 w' := by
  refine calls_of_J (args := [.pointer (some ⟨t, 0, none⟩)]) (e := [(0, .pointer (some ⟨t, 0, none⟩))]) Tryz.func18 rfl rfl ⟨rfl, trivial⟩ (St.start w) ?_
  refine JC.seq (fun K0 hK0 => ?_)
  refine JC.region ?_
  refine J.assign rfl rfl ?_
  refine J.nil ?_
  refine JX.thenN (hK0 _ _ ?_)
  refine JC.seq (fun K1 hK1 => ?_)
  refine JC.region ?_
  refine J.move rfl rfl ?_
  refine J.perm ([] ++ ([])) (.refl _) ?_
  refine J.callS (α := Value × List (Nat × Obj)) (V := (·.1)) (Pr := fun x => Vec 33 51 x.1 ((ordE L).filter (fun _ => true)).length (fE ((ordE L).filter (fun _ => true))) x.2) (L := (·.2)) (l1 := []) Ty.bd38 rfl rfl (fun w1 hw => of_spec t mb most L es clock w1 (by rw [hw.keep t (lt_of_some ht) (by simp)]; exact ht) (by rw [hw.keep mb (lt_of_some hmm) (by simp)]; exact hmm) hT hn 39 #[] (fun _ => true) [] (own_nil _) Ty.bd39 (fun x W hx hW => by simpa using all1_spec x W)) (fun x hvl => ?_)
  obtain ⟨vl, ll⟩ := x
  simp only at hvl ⊢
  rw [filter_all] at hvl
  refine J.assign rfl rfl ?_
  refine J.nil ?_
  refine JX.thenN (hK1 _ _ ?_)
  refine JC.ret ?_
  refine JX.ret1 rfl rfl (fun w hw => ?_)
  exact ⟨(vl, ll), rfl, hvl, hw.drop (List.sublist_append_left _ _)⟩

theorem own_spec (t mb : Nat) (most : Int) (L : List EV) (es : Array MapEntry) (clock : Nat) (w : World) (ht : w.heap[t]? = some (tabO most mb)) (hmm : w.heap[mb]? = some (.map es clock)) (hT : Tab L es clock) (hn : L.length ≤ 1099511627776) :
    Calls Tryz.prog 20 [.pointer (some ⟨t, 0, none⟩)].toArray w fun r w' => ∃ x : Value × List (Nat × Obj), r = .returned x.1 ∧ Vec 33 51 x.1 ((ordE L).filter ownB).length (fE ((ordE L).filter ownB)) x.2 ∧ St w [] x.2 w' := by
  refine calls_of_J (args := [.pointer (some ⟨t, 0, none⟩)]) (e := [(0, .pointer (some ⟨t, 0, none⟩))]) Tryz.func20 rfl rfl ⟨rfl, trivial⟩ (St.start w) ?_
  refine JC.seq (fun K0 hK0 => ?_)
  refine JC.region ?_
  refine J.assign rfl rfl ?_
  refine J.nil ?_
  refine JX.thenN (hK0 _ _ ?_)
  refine JC.seq (fun K1 hK1 => ?_)
  refine JC.region ?_
  refine J.move rfl rfl ?_
  refine J.perm ([] ++ ([])) (.refl _) ?_
  refine J.callS (α := Value × List (Nat × Obj)) (V := (·.1)) (Pr := fun x => Vec 33 51 x.1 ((ordE L).filter ownB).length (fE ((ordE L).filter ownB)) x.2) (L := (·.2)) (l1 := []) Ty.bd38 rfl rfl (fun w1 hw => of_spec t mb most L es clock w1 (by rw [hw.keep t (lt_of_some ht) (by simp)]; exact ht) (by rw [hw.keep mb (lt_of_some hmm) (by simp)]; exact hmm) hT hn 43 #[] ownB [] (own_nil _) Ty.bd43 (fun x W hx hW => by simpa using own1_spec x W)) (fun x hvl => ?_)
  obtain ⟨vl, ll⟩ := x
  simp only at hvl ⊢
  refine J.assign rfl rfl ?_
  refine J.nil ?_
  refine JX.thenN (hK1 _ _ ?_)
  refine JC.ret ?_
  refine JX.ret1 rfl rfl (fun w hw => ?_)
  exact ⟨(vl, ll), rfl, hvl, hw.drop (List.sublist_append_left _ _)⟩

theorem via_spec (t mb : Nat) (most : Int) (L : List EV) (es : Array MapEntry) (clock : Nat) (w : World) (ht : w.heap[t]? = some (tabO most mb)) (hmm : w.heap[mb]? = some (.map es clock)) (hT : Tab L es clock) (hn : L.length ≤ 1099511627776) (n : Int) :
    Calls Tryz.prog 52 [.pointer (some ⟨t, 0, none⟩), .int .i64 n].toArray w fun r w' => ∃ x : Value × List (Nat × Obj), r = .returned x.1 ∧ Vec 33 51 x.1 ((ordE L).filter (viaB n)).length (fE ((ordE L).filter (viaB n))) x.2 ∧ St w [] x.2 w' := by
  refine calls_of_J (args := [.pointer (some ⟨t, 0, none⟩), .int .i64 n]) (e := [(0, .pointer (some ⟨t, 0, none⟩)), (1, .int .i64 n)]) Tryz.func52 rfl rfl ⟨rfl, rfl, trivial⟩ (St.start w) ?_
  refine JC.seq (fun K0 hK0 => ?_)
  refine JC.region ?_
  refine J.box rfl rfl rfl (fun b3 => ?_)
  refine J.assign rfl rfl ?_
  refine J.nil ?_
  refine JX.thenN (hK0 _ _ ?_)
  refine JC.seq (fun K1 hK1 => ?_)
  refine JC.region ?_
  refine J.move rfl rfl ?_
  refine J.makeFn rfl rfl ?_
  refine J.perm ([] ++ ([(b3, cb [.int .i64 n] 3)])) (.refl _) ?_
  refine J.callS (α := Value × List (Nat × Obj)) (V := (·.1)) (Pr := fun x => Vec 33 51 x.1 ((ordE L).filter (viaB n)).length (fE ((ordE L).filter (viaB n))) x.2) (L := (·.2)) (l1 := []) Ty.bd38 rfl rfl (fun w1 hw => of_spec t mb most L es clock w1 (by rw [hw.keep t (lt_of_some ht) (by simp)]; exact ht) (by rw [hw.keep mb (lt_of_some hmm) (by simp)]; exact hmm) hT hn 69 #[.pointer (some ⟨b3, 0, none⟩)] (viaB n) [(b3, cb [.int .i64 n] 3)] (hw.owns' (l := [(b3, cb [.int .i64 n] 3)])) Ty.bd69 (fun x W hx hW => by simpa using via1_spec b3 n x W hW)) (fun x hvl => ?_)
  obtain ⟨vl, ll⟩ := x
  simp only at hvl ⊢
  refine J.assign rfl rfl ?_
  refine J.nil ?_
  refine JX.thenN (hK1 _ _ ?_)
  refine JC.ret ?_
  refine JX.ret1 rfl rfl (fun w hw => ?_)
  exact ⟨(vl, ll), rfl, hvl, hw.drop (List.sublist_append_left _ _)⟩

theorem remove_spec (t mb : Nat) (most : Int) (L : List EV) (es : Array MapEntry) (clock : Nat) (w : World) (hw0 : Own w [(t, tabO most mb), (mb, .map es clock)]) (hT : Tab L es clock) (p : PV) (hp : okN p.n) :
    Calls Tryz.prog 41 [.pointer (some ⟨t, 0, none⟩), .agg (cP p).toArray].toArray w fun r w' => ∃ es', r = .returned (.tuple #[.agg (cE ((tget L p).getD zE)).toArray, .bool (tget L p).isSome]) ∧ Tab (L.filter (fun y => decide (y.p ≠ p))) es' clock ∧ St w [t, mb] [(t, tabO most mb), (mb, .map es' clock)] w' := by
  refine calls_of_J (args := [.pointer (some ⟨t, 0, none⟩), .agg (cP p).toArray]) (e := [(0, .pointer (some ⟨t, 0, none⟩)), (1, .agg (cP p).toArray)]) Tryz.func41 rfl rfl ⟨rfl, rfl, trivial⟩ (hw0.st) ?_
  refine JC.seq (fun K0 hK0 => ?_)
  refine JC.region ?_
  refine J.box rfl rfl rfl (fun b3 => ?_)
  refine J.alloc Ty.zE_ rfl rfl (fun b4 => ?_)
  refine J.assign rfl rfl ?_
  refine J.nil ?_
  refine JX.thenN (hK0 _ _ ?_)
  refine JC.seq (fun K1 hK1 => ?_)
  refine JC.region ?_
  refine J.move rfl rfl ?_
  refine J.loadOA (vs := cP p) Ty.a31 Ty.s31 rfl (by repeat first | exact .head _ | apply List.Mem.tail | apply List.mem_append_right) (by exact rfl) rfl rfl ?_
  refine J.callB (v := .tuple #[.agg (cE ((tget L p).getD zE)).toArray, .bool (tget L p).isSome]) (fun w1 w2 hw hb => hw.step hb) Ty.bd40 rfl rfl (fun w1 hw => get_spec t mb most L es clock w1 (St.owns (l1 := [(t, tabO most mb), (mb, .map es clock)]) (l := [(b4, cb (cE zE) 33), (b3, cb (cP p) 31)]) (hw.perm (by (refine perm_cnt (fun _ => ?_)); simp only [cntB_append, cntB_cons, cntB_nil, Nat.add_zero, Nat.zero_add]; try ac_rfl))) hT p hp) ?_
  refine J.move rfl rfl ?_
  refine J.extract rfl rfl rfl ?_
  refine J.extract rfl rfl rfl ?_
  refine J.alloc Ty.zE_ rfl rfl (fun b6 => ?_)
  refine J.storeW (cs := cE zE) (vs := cE ((tget L p).getD zE)) Ty.s33 rfl rfl rfl rfl rfl (one_cE _) .here ?_
  refine J.assign rfl rfl ?_
  refine J.nil ?_
  refine JX.thenN (hK1 _ _ ?_)
  refine JC.seq (fun K2 hK2 => ?_)
  refine JC.seq (fun K3 hK3 => ?_)
  refine JC.region ?_
  refine J.move rfl rfl ?_
  refine J.nil ?_
  refine JX.thenN (hK3 _ _ ?_)
  refine JC.cond rfl (fun h0 => ?_) (fun h0 => ?_)
  · skip
    skip
    apply JC.drawL 5 [Eqv (.pointer (some ⟨t, 0, none⟩)), Eqv (.pointer (some ⟨t, 0, none⟩)), Eqv (.pointer (some ⟨t, 0 + 1, none⟩)), Eqv (.map (some mb)), Eqv (.agg (cP p).toArray)] Ty.mixed rfl rfl rfl (by kernel_rfl) rfl rfl (fun w w' hw hb => hw.step hb) ⟨fun _ _ _ h _ => h, fun _ _ _ h _ => h, fun _ _ _ h _ => h, fun _ _ _ h _ => h, fun _ _ _ h _ => h, trivial⟩ ?hstep ?htail
    case hstep =>
      refine ⟨fun wi => ?_, fun wi => ?_, fun wi => ?_, fun wi => ?_, fun wi => ?_, trivial⟩
      · skip
        refine Fin.nil ?_
        refine J.move rfl rfl ?_
        exact J.finP rfl
      · skip
        refine Fin.consE rfl (Fin.nil ?_)
        refine J.nilCheck rfl rfl ?_
        exact J.finP rfl
      · skip
        refine Fin.consE rfl (Fin.nil ?_)
        refine J.fieldAddr Ty.fd92_1 rfl rfl ?_
        exact J.finP rfl
      · skip
        refine Fin.consE rfl (Fin.nil ?_)
        refine J.load1 (v := .map (some mb)) Ty.a90 rfl (fun w1 hw => by rw [cell_of (hw.2.own _ (.tail _ (.tail _ (.tail _ (.head _)))))]; rfl) rfl ?_
        exact J.finP rfl
      · skip
        refine Fin.nil ?_
        refine J.loadA (vs := cP p) Ty.a31 Ty.s31 rfl rfl (fun w1 hw => Cells.of_block (hw.2.own _ (.tail _ (.tail _ (.head _)))) rfl) rfl ?_
        exact J.finP rfl
    case htail =>
      refine Fin.consE rfl (Fin.consE rfl (Fin.consE rfl (Fin.consE rfl (Fin.consE rfl (Fin.nil ?_)))))
      refine J.deleteT (l' := fun es' => (b6, cb (cE ((tget L p).getD zE)) 33) :: (b4, cb (cE zE) 33) :: (b3, cb (cP p) 31) :: (t, tabO most mb) :: [(mb, .map es' clock)]) Ty.u90 Ty.KP Ty.keyP rfl rfl hT hp (fun _ => .there (.there (.there (.there .here)))) (fun es' hT' => ?_)
      refine J.nil ?_
      refine JX.thenN (hK2 _ _ ?_)
      refine JC.seq (fun K4 hK4 => ?_)
      refine JC.region ?_
      refine J.loadOA (vs := cE ((tget L p).getD zE)) Ty.a33 Ty.s33 rfl (.head _) rfl rfl rfl ?_
      refine J.move rfl rfl ?_
      refine J.storeW (cs := cE zE) (vs := cE ((tget L p).getD zE)) Ty.s33 rfl rfl rfl rfl rfl (one_cE _) (.there .here) ?_
      refine J.assign rfl rfl ?_
      refine J.nil ?_
      refine JX.thenN (hK4 _ _ ?_)
      refine JC.ret ?_
      refine JX.retCT rfl rfl rfl Ty.a33 Ty.s33 (vs := cE ((tget L p).getD zE)) rfl (fun w1 hw => Cells.of_block (hw.own _ (.tail _ (.head _))) rfl) (fun w1 hw => ?_)
      exact ⟨es', rfl, hT', hw.drop (.cons _ (.cons _ (.cons _ (List.Sublist.refl _))))⟩
  · skip
    have hno := filter_no (L := L) (p := p) (by cases h : tget L p with
      | none => rfl
      | some y => rw [h] at h0; cases h0)
    refine JC.skip ?_
    refine JX.thenN (hK2 _ _ ?_)
    refine JC.seq (fun K5 hK5 => ?_)
    refine JC.region ?_
    refine J.loadOA (vs := cE ((tget L p).getD zE)) Ty.a33 Ty.s33 rfl (.head _) rfl rfl rfl ?_
    refine J.move rfl rfl ?_
    refine J.storeW (cs := cE zE) (vs := cE ((tget L p).getD zE)) Ty.s33 rfl rfl rfl rfl rfl (one_cE _) (.there .here) ?_
    refine J.assign rfl rfl ?_
    refine J.nil ?_
    refine JX.thenN (hK5 _ _ ?_)
    refine JC.ret ?_
    refine JX.retCT rfl rfl rfl Ty.a33 Ty.s33 (vs := cE ((tget L p).getD zE)) rfl (fun w1 hw => Cells.of_block (hw.own _ (.tail _ (.head _))) rfl) (fun w1 hw => ?_)
    exact ⟨es, rfl, by rw [hno]; exact hT, hw.drop (.cons _ (.cons _ (.cons _ (List.Sublist.refl _))))⟩

theorem get_nil (p : PV) (w : World) :
    Calls Tryz.prog 40 [.pointer none, .agg (cP p).toArray].toArray w fun r w' => r = .returned (.tuple #[.agg (cE zE).toArray, .bool false]) ∧ Bel w w' := by
  refine calls_of_J (args := [.pointer none, .agg (cP p).toArray]) (e := [(0, .pointer none), (1, .agg (cP p).toArray)]) Tryz.func40 rfl rfl ⟨rfl, rfl, trivial⟩ (St.start w) ?_
  refine JC.seq (fun K0 hK0 => ?_)
  refine JC.region ?_
  refine J.box rfl rfl rfl (fun b3 => ?_)
  refine J.alloc Ty.zE_ rfl rfl (fun b4 => ?_)
  refine J.assign rfl rfl ?_
  refine J.nil ?_
  refine JX.thenN (hK0 _ _ ?_)
  refine JC.seq (fun K1 hK1 => ?_)
  refine JC.seq (fun K2 hK2 => ?_)
  refine JC.region ?_
  refine J.move rfl rfl ?_
  refine J.eqNil Ty.u26 rfl rfl rfl ?_
  refine J.nil ?_
  refine JX.thenN (hK2 _ _ ?_)
  first | refine JC.condT rfl ?_ | refine JC.cond rfl (fun _ => ?_) (fun h => by first | (exfalso; simp at h; omega) | (simp at h))
  refine JC.seq (fun K3 hK3 => ?_)
  refine JC.region ?_
  refine J.buildS Ty.pl33 Ty.zE_ rfl rfl rfl ?_
  refine J.storeW (cs := cE zE) (vs := cE zE) Ty.s33 rfl rfl rfl rfl rfl (one_cE _) .here ?_
  refine J.assign rfl rfl ?_
  refine J.nil ?_
  refine JX.thenN (hK3 _ _ ?_)
  refine JC.ret ?_
  refine JX.thenR ?_
  refine JX.retCT rfl rfl rfl Ty.a33 Ty.s33 (vs := cE zE) rfl (fun w1 hw => Cells.of_block (hw.own _ (.head _)) rfl) (fun w1 hw => ?_)
  exact ⟨rfl, (hw.drop (List.nil_sublist _)).below⟩

theorem remove_nil (p : PV) (w : World) :
    Calls Tryz.prog 41 [.pointer none, .agg (cP p).toArray].toArray w fun r w' => r = .returned (.tuple #[.agg (cE zE).toArray, .bool false]) ∧ Bel w w' := by
  refine calls_of_J (args := [.pointer none, .agg (cP p).toArray]) (e := [(0, .pointer none), (1, .agg (cP p).toArray)]) Tryz.func41 rfl rfl ⟨rfl, rfl, trivial⟩ (St.start w) ?_
  refine JC.seq (fun K0 hK0 => ?_)
  refine JC.region ?_
  refine J.box rfl rfl rfl (fun b3 => ?_)
  refine J.alloc Ty.zE_ rfl rfl (fun b4 => ?_)
  refine J.assign rfl rfl ?_
  refine J.nil ?_
  refine JX.thenN (hK0 _ _ ?_)
  refine JC.seq (fun K1 hK1 => ?_)
  refine JC.region ?_
  refine J.move rfl rfl ?_
  refine J.loadOA (vs := cP p) Ty.a31 Ty.s31 rfl (by repeat first | exact .head _ | apply List.Mem.tail | apply List.mem_append_right) (by exact rfl) rfl rfl ?_
  refine J.callB (v := .tuple #[.agg (cE zE).toArray, .bool false]) (fun w1 w2 hw hb => hw.step hb) Ty.bd40 rfl rfl (fun w1 hw => get_nil p w1) ?_
  refine J.move rfl rfl ?_
  refine J.extract rfl rfl rfl ?_
  refine J.extract rfl rfl rfl ?_
  refine J.alloc Ty.zE_ rfl rfl (fun b6 => ?_)
  refine J.storeW (cs := cE zE) (vs := cE zE) Ty.s33 rfl rfl rfl rfl rfl (one_cE _) .here ?_
  refine J.assign rfl rfl ?_
  refine J.nil ?_
  refine JX.thenN (hK1 _ _ ?_)
  refine JC.seq (fun K2 hK2 => ?_)
  refine JC.seq (fun K3 hK3 => ?_)
  refine JC.region ?_
  refine J.move rfl rfl ?_
  refine J.nil ?_
  refine JX.thenN (hK3 _ _ ?_)
  first | refine JC.condF rfl ?_ | refine JC.cond rfl (fun h => by first | (exfalso; simp at h; omega) | (simp at h)) (fun _ => ?_)
  refine JC.skip ?_
  refine JX.thenN (hK2 _ _ ?_)
  refine JC.seq (fun K4 hK4 => ?_)
  refine JC.region ?_
  refine J.loadOA (vs := cE zE) Ty.a33 Ty.s33 rfl (.head _) rfl rfl rfl ?_
  refine J.move rfl rfl ?_
  refine J.storeW (cs := cE zE) (vs := cE zE) Ty.s33 rfl rfl rfl rfl rfl (one_cE _) (.there .here) ?_
  refine J.assign rfl rfl ?_
  refine J.nil ?_
  refine JX.thenN (hK4 _ _ ?_)
  refine JC.ret ?_
  refine JX.retCT rfl rfl rfl Ty.a33 Ty.s33 (vs := cE zE) rfl (fun w1 hw => Cells.of_block (hw.own _ (.tail _ (.head _))) rfl) (fun w1 hw => ?_)
  exact ⟨rfl, (hw.drop (List.nil_sublist _)).below⟩

theorem add_nil (x : EV) (w : World) :
    Calls Tryz.prog 25 [.pointer none, .agg (cE x).toArray].toArray w fun r w' => r = .returned (.int .i64 1) ∧ Bel w w' := by
  refine calls_of_J (args := [.pointer none, .agg (cE x).toArray]) (e := [(0, .pointer none), (1, .agg (cE x).toArray)]) Tryz.func25 rfl rfl ⟨rfl, rfl, trivial⟩ (St.start w) ?_
  refine JC.seq (fun K0 hK0 => ?_)
  refine JC.region ?_
  refine J.box rfl rfl rfl (fun b3 => ?_)
  refine J.assign rfl rfl ?_
  refine J.nil ?_
  refine JX.thenN (hK0 _ _ ?_)
  refine JC.seq (fun K1 hK1 => ?_)
  refine JC.block ?_
  refine JC.seq (fun K2 hK2 => ?_)
  refine JC.region ?_
  refine J.move rfl rfl ?_
  refine J.eqNil Ty.u26 rfl rfl rfl ?_
  refine J.move rfl rfl ?_
  first | refine J.skip rfl rfl rfl rfl rfl ?_ | refine J.skipU rfl rfl rfl rfl ?_ | (refine J.unguard rfl rfl rfl ?_; refine J.loadOA Ty.a33 Ty.s33 rfl (by repeat first | exact .head _ | apply List.Mem.tail | apply List.mem_append_right) (by exact rfl) rfl rfl ?_)
  first | refine J.skip rfl rfl rfl rfl rfl ?_ | refine J.skipU rfl rfl rfl rfl ?_ | (refine J.unguard rfl rfl rfl ?_; fail)
  first | refine J.skip rfl rfl rfl rfl rfl ?_ | refine J.skipU rfl rfl rfl rfl ?_ | (refine J.unguard rfl rfl rfl ?_; refine J.not rfl rfl ?_)
  (first | refine J.pickT rfl rfl rfl ?_ | refine J.pickF rfl rfl rfl ?_)
  refine J.assign rfl rfl ?_
  refine J.nil ?_
  refine JX.thenN (hK2 _ _ ?_)
  first | refine JC.condT rfl ?_ | refine JC.cond rfl (fun _ => ?_) (fun h => by first | (exfalso; simp at h; omega) | (simp at h))
  refine JC.seq (fun K3 hK3 => ?_)
  refine JC.region ?_
  refine J.assign rfl rfl ?_
  refine J.nil ?_
  refine JX.thenN (hK3 _ _ ?_)
  refine JC.ret ?_
  refine JX.blockR ?_
  refine JX.thenR ?_
  refine JX.ret1 rfl rfl (fun w hw => ?_)
  exact ⟨rfl, (hw.drop (List.nil_sublist _)).below⟩

theorem len_nil (w : World) :
    Calls Tryz.prog 32 [.pointer none].toArray w fun r w' => r = .returned (.int .i64 0) ∧ Bel w w' := by
  refine calls_of_J (args := [.pointer none]) (e := [(0, .pointer none)]) Tryz.func32 rfl rfl ⟨rfl, trivial⟩ (St.start w) ?_
  refine JC.seq (fun K0 hK0 => ?_)
  refine JC.region ?_
  refine J.assign rfl rfl ?_
  refine J.nil ?_
  refine JX.thenN (hK0 _ _ ?_)
  refine JC.seq (fun K1 hK1 => ?_)
  refine JC.seq (fun K2 hK2 => ?_)
  refine JC.region ?_
  refine J.move rfl rfl ?_
  refine J.eqNil Ty.u26 rfl rfl rfl ?_
  refine J.nil ?_
  refine JX.thenN (hK2 _ _ ?_)
  first | refine JC.condT rfl ?_ | refine JC.cond rfl (fun _ => ?_) (fun h => by first | (exfalso; simp at h; omega) | (simp at h))
  refine JC.seq (fun K3 hK3 => ?_)
  refine JC.region ?_
  refine J.assign rfl rfl ?_
  refine J.nil ?_
  refine JX.thenN (hK3 _ _ ?_)
  refine JC.ret ?_
  refine JX.thenR ?_
  refine JX.ret1 rfl rfl (fun w hw => ?_)
  exact ⟨rfl, hw.below⟩

theorem of_nil (F : Value) (w : World) :
    Calls Tryz.prog 38 [.pointer none, F].toArray w fun r w' => r = .returned (.slice none 0 0) ∧ Bel w w' := by
  refine calls_of_J (args := [.pointer none, F]) (e := [(0, .pointer none), (1, F)]) Tryz.func38 rfl rfl ⟨rfl, rfl, trivial⟩ (St.start w) ?_
  refine JC.seq (fun K0 hK0 => ?_)
  refine JC.region ?_
  refine J.assign rfl rfl ?_
  refine J.nil ?_
  refine JX.thenN (hK0 _ _ ?_)
  refine JC.seq (fun K1 hK1 => ?_)
  refine JC.seq (fun K2 hK2 => ?_)
  refine JC.region ?_
  refine J.move rfl rfl ?_
  refine J.eqNil Ty.u26 rfl rfl rfl ?_
  refine J.nil ?_
  refine JX.thenN (hK2 _ _ ?_)
  first | refine JC.condT rfl ?_ | refine JC.cond rfl (fun _ => ?_) (fun h => by first | (exfalso; simp at h; omega) | (simp at h))
  refine JC.seq (fun K3 hK3 => ?_)
  refine JC.region ?_
  refine J.assign rfl rfl ?_
  refine J.nil ?_
  refine JX.thenN (hK3 _ _ ?_)
  refine JC.ret ?_
  refine JX.thenR ?_
  refine JX.ret1 rfl rfl (fun w hw => ?_)
  exact ⟨rfl, hw.below⟩

theorem all_nil (w : World) :
    Calls Tryz.prog 18 [.pointer none].toArray w fun r w' => r = .returned (.slice none 0 0) ∧ Bel w w' := by
  refine calls_of_J (args := [.pointer none]) (e := [(0, .pointer none)]) Tryz.func18 rfl rfl ⟨rfl, trivial⟩ (St.start w) ?_
  refine JC.seq (fun K0 hK0 => ?_)
  refine JC.region ?_
  refine J.assign rfl rfl ?_
  refine J.nil ?_
  refine JX.thenN (hK0 _ _ ?_)
  refine JC.seq (fun K1 hK1 => ?_)
  refine JC.region ?_
  refine J.move rfl rfl ?_
  refine J.callB (v := .slice none 0 0) (fun w1 w2 hw hb => hw.step hb) Ty.bd38 rfl rfl (fun w1 hw => of_nil _ w1) ?_
  refine J.assign rfl rfl ?_
  refine J.nil ?_
  refine JX.thenN (hK1 _ _ ?_)
  refine JC.ret ?_
  refine JX.ret1 rfl rfl (fun w hw => ?_)
  exact ⟨rfl, (hw.drop (List.nil_sublist _)).below⟩

theorem own_nil_ (w : World) :
    Calls Tryz.prog 20 [.pointer none].toArray w fun r w' => r = .returned (.slice none 0 0) ∧ Bel w w' := by
  refine calls_of_J (args := [.pointer none]) (e := [(0, .pointer none)]) Tryz.func20 rfl rfl ⟨rfl, trivial⟩ (St.start w) ?_
  refine JC.seq (fun K0 hK0 => ?_)
  refine JC.region ?_
  refine J.assign rfl rfl ?_
  refine J.nil ?_
  refine JX.thenN (hK0 _ _ ?_)
  refine JC.seq (fun K1 hK1 => ?_)
  refine JC.region ?_
  refine J.move rfl rfl ?_
  refine J.callB (v := .slice none 0 0) (fun w1 w2 hw hb => hw.step hb) Ty.bd38 rfl rfl (fun w1 hw => of_nil _ w1) ?_
  refine J.assign rfl rfl ?_
  refine J.nil ?_
  refine JX.thenN (hK1 _ _ ?_)
  refine JC.ret ?_
  refine JX.ret1 rfl rfl (fun w hw => ?_)
  exact ⟨rfl, (hw.drop (List.nil_sublist _)).below⟩

theorem via_nil (n : Int) (w : World) :
    Calls Tryz.prog 52 [.pointer none, .int .i64 n].toArray w fun r w' => r = .returned (.slice none 0 0) ∧ Bel w w' := by
  refine calls_of_J (args := [.pointer none, .int .i64 n]) (e := [(0, .pointer none), (1, .int .i64 n)]) Tryz.func52 rfl rfl ⟨rfl, rfl, trivial⟩ (St.start w) ?_
  refine JC.seq (fun K0 hK0 => ?_)
  refine JC.region ?_
  refine J.box rfl rfl rfl (fun b3 => ?_)
  refine J.assign rfl rfl ?_
  refine J.nil ?_
  refine JX.thenN (hK0 _ _ ?_)
  refine JC.seq (fun K1 hK1 => ?_)
  refine JC.region ?_
  refine J.move rfl rfl ?_
  refine J.makeFn rfl rfl ?_
  refine J.callB (v := .slice none 0 0) (fun w1 w2 hw hb => hw.step hb) Ty.bd38 rfl rfl (fun w1 hw => of_nil _ w1) ?_
  refine J.assign rfl rfl ?_
  refine J.nil ?_
  refine JX.thenN (hK1 _ _ ?_)
  refine JC.ret ?_
  refine JX.ret1 rfl rfl (fun w hw => ?_)
  exact ⟨rfl, (hw.drop (List.nil_sublist _)).below⟩

end Go.Proofs.YtohldionclgljaaGreat
/-
  The document's table, and Other: contracts.
-/
namespace Go.Proofs.YtohldionclgljaaGreat
open Go.J Go.RowKit
set_option linter.unusedVariables false
set_option linter.unusedSimpArgs false
set_option maxRecDepth 4000
abbrev rtabO (v : Value) (most : Int) : Obj := cb [v, .int .i64 most] 51
theorem cells_sub {w : World} {b o k : Nat} {xs ys : List Value} (h : Cells w b o xs) (hy : (xs.drop k).take ys.length = ys) : Cells w b (o + k) ys := by
  intro j hj
  have hlt : k + j < xs.length := by
    have := congrArg List.length hy
    rw [List.length_take, List.length_drop] at this
    omega
  rw [Nat.add_assoc, h (k + j) hlt]
  have : ys[j]? = ((xs.drop k).take ys.length)[j]? := by rw [hy]
  rw [this, List.getElem?_take_of_lt hj, List.getElem?_drop]
def otherV (x : EV) : IDV × Int × Bool := if x.na = -1 then (x.b, x.nb, false) else (x.a, x.na, true)
theorem tget_at {R : List EV} {i : Nat} {x : EV} {p : PV} (h : R[i]? = some x) (hp : x.p = p) (hb : ∀ j y, j < i → R[j]? = some y → y.p ≠ p) : tget R p = some x := by
  unfold tget
  rw [List.find?_eq_some_iff_append]
  have hi := (List.getElem?_eq_some_iff.1 h).1
  refine ⟨by simpa using hp, R.take i, R.drop (i + 1), ?_, fun y hy => ?_⟩
  · rw [List.getElem?_eq_getElem hi] at h
    cases h
    rw [List.getElem_cons_drop, List.take_append_drop]
  · obtain ⟨j, hj, rfl⟩ := List.getElem_of_mem hy
    rw [List.length_take] at hj
    have := hb j R[j] (by omega) (List.getElem?_eq_getElem (by omega))
    rw [List.getElem_take]
    simpa using this
theorem tget_not {R : List EV} {p : PV} (hb : ∀ j y, j < R.length → R[j]? = some y → y.p ≠ p) : tget R p = none := tget_none.2 fun x hx => by
  obtain ⟨j, hj, rfl⟩ := List.getElem_of_mem hx
  exact hb j _ hj (List.getElem?_eq_getElem hj)
theorem same_uptoE {xs ys : List EV} {i : Nat} (hl : xs.length = ys.length) (h : ∀ j, j < i → xs[j]? = ys[j]?) (hi : i = xs.length) : xs = ys := by
  refine List.ext_getElem? fun j => ?_
  rcases Nat.lt_or_ge j i with h1 | h1
  · exact h j h1
  · rw [List.getElem?_eq_none (by omega), List.getElem?_eq_none (by omega)]

theorem rnew_spec (n : Int) (w : World) :
    Calls Tryz.prog 24 [.int .i64 n].toArray w fun r w' => ∃ rt : Nat, r = .returned (.pointer (some ⟨rt, 0, none⟩)) ∧ St w [] [(rt, rtabO (.slice none 0 0) (min (max n 0) 128))] w' := by
  refine calls_of_J (args := [.int .i64 n]) (e := [(0, .int .i64 n)]) Tryz.func24 rfl rfl ⟨rfl, trivial⟩ (St.start w) ?_
  refine JC.seq (fun K0 hK0 => ?_)
  refine JC.region ?_
  refine J.assign rfl rfl ?_
  refine J.nil ?_
  refine JX.thenN (hK0 _ _ ?_)
  refine JC.seq (fun K1 hK1 => ?_)
  refine JC.seq (fun K2 hK2 => ?_)
  refine JC.region ?_
  refine J.move rfl rfl ?_
  refine J.bin rfl rfl rfl rfl ?_
  refine J.nil ?_
  refine JX.thenN (hK2 _ _ ?_)
  refine JC.cond rfl (fun h0 => ?_) (fun h0 => ?_)
  · skip
    have hn0 : n < 0 := by simpa using h0
    refine JC.region ?_
    refine J.assign rfl rfl ?_
    refine J.nil ?_
    refine JX.thenN (hK1 _ _ ?_)
    refine JC.seq (fun K3 hK3 => ?_)
    refine JC.seq (fun K4 hK4 => ?_)
    refine JC.region ?_
    refine J.move rfl rfl ?_
    refine J.bin rfl rfl rfl rfl ?_
    refine J.nil ?_
    refine JX.thenN (hK4 _ _ ?_)
    first | refine JC.condF rfl ?_ | refine JC.cond rfl (fun h => by first | (exfalso; simp at h; omega) | (simp at h)) (fun _ => ?_)
    refine JC.skip ?_
    refine JX.thenN (hK3 _ _ ?_)
    refine JC.seq (fun K5 hK5 => ?_)
    refine JC.region ?_
    refine J.move rfl rfl ?_
    refine J.buildS Ty.pl51 Ty.z51 rfl rfl rfl ?_
    refine J.box rfl rfl rfl (fun b9 => ?_)
    refine J.assign rfl rfl ?_
    refine J.nil ?_
    refine JX.thenN (hK5 _ _ ?_)
    refine JC.ret ?_
    refine JX.ret1 rfl rfl (fun w hw => ?_)
    refine ⟨b9, rfl, ?_⟩
    rw [show min (max n 0) 128 = (0 : Int) from by omega]
    exact hw
  · skip
    have hn0 : ¬ n < 0 := by simpa using h0
    refine JC.skip ?_
    refine JX.thenN (hK1 _ _ ?_)
    refine JC.seq (fun K6 hK6 => ?_)
    refine JC.seq (fun K7 hK7 => ?_)
    refine JC.region ?_
    refine J.move rfl rfl ?_
    refine J.bin rfl rfl rfl rfl ?_
    refine J.nil ?_
    refine JX.thenN (hK7 _ _ ?_)
    refine JC.cond rfl (fun h1 => ?_) (fun h1 => ?_)
    · skip
      have hn1 : n > 128 := by simpa using h1
      refine JC.region ?_
      refine J.assign rfl rfl ?_
      refine J.nil ?_
      refine JX.thenN (hK6 _ _ ?_)
      refine JC.seq (fun K8 hK8 => ?_)
      refine JC.region ?_
      refine J.move rfl rfl ?_
      refine J.buildS Ty.pl51 Ty.z51 rfl rfl rfl ?_
      refine J.box rfl rfl rfl (fun b9 => ?_)
      refine J.assign rfl rfl ?_
      refine J.nil ?_
      refine JX.thenN (hK8 _ _ ?_)
      refine JC.ret ?_
      refine JX.ret1 rfl rfl (fun w hw => ?_)
      refine ⟨b9, rfl, ?_⟩
      rw [show min (max n 0) 128 = (128 : Int) from by omega]
      exact hw
    · skip
      have hn1 : ¬ n > 128 := by simpa using h1
      refine JC.skip ?_
      refine JX.thenN (hK6 _ _ ?_)
      refine JC.seq (fun K9 hK9 => ?_)
      refine JC.region ?_
      refine J.move rfl rfl ?_
      refine J.buildS Ty.pl51 Ty.z51 rfl rfl rfl ?_
      refine J.box rfl rfl rfl (fun b9 => ?_)
      refine J.assign rfl rfl ?_
      refine J.nil ?_
      refine JX.thenN (hK9 _ _ ?_)
      refine JC.ret ?_
      refine JX.ret1 rfl rfl (fun w hw => ?_)
      refine ⟨b9, rfl, ?_⟩
      rw [show min (max n 0) 128 = n from by omega]
      exact hw

theorem rget_spec (rt : Nat) (v : Value) (most : Int) (R : List EV) (w : World) (hrt : w.heap[rt]? = some (rtabO v most)) (hrv : Row w v R.length (fE R)) (hR : ∀ x, x ∈ R → okE x) (hrl : R.length ≤ 1099511627776) (p : PV) (hp : okN p.n) :
    Calls Tryz.prog 49 [.pointer (some ⟨rt, 0, none⟩), .agg (cP p).toArray].toArray w fun r w' => r = .returned (.tuple #[.agg (cE ((tget R p).getD zE)).toArray, .bool (tget R p).isSome]) ∧ Bel w w' := by
  obtain ⟨ar, cr, rfl, hcr, _⟩ := id hrv
  refine calls_of_J (args := [.pointer (some ⟨rt, 0, none⟩), .agg (cP p).toArray]) (e := [(0, .pointer (some ⟨rt, 0, none⟩)), (1, .agg (cP p).toArray)]) Tryz.func49 rfl rfl ⟨rfl, rfl, trivial⟩ (St.start w) ?_
  refine JC.seq (fun K0 hK0 => ?_)
  refine JC.region ?_
  refine J.box rfl rfl rfl (fun b3 => ?_)
  refine J.alloc Ty.zE_ rfl rfl (fun b4 => ?_)
  refine J.assign rfl rfl ?_
  refine J.nil ?_
  refine JX.thenN (hK0 _ _ ?_)
  refine JC.seq (fun K1 hK1 => ?_)
  refine JC.seq (fun K2 hK2 => ?_)
  refine JC.region ?_
  refine J.assign rfl rfl ?_
  refine J.nil ?_
  refine JX.thenN (hK2 _ _ ?_)
  refine JC.block ?_
  refine JC.conseq (JC.cov (f := (fun i => [(0, .pointer (some ⟨rt, 0, none⟩)), (3, .pointer (some ⟨b3, 0, none⟩)), (4, .pointer (some ⟨b4, 0, none⟩)), (6, .int .i64 ((i : Nat) : Int))]) 0) ⟨rfl, rfl, rfl, rfl, trivial⟩ (JC.loop (α := Nat) (fun i => [(0, .pointer (some ⟨rt, 0, none⟩)), (3, .pointer (some ⟨b3, 0, none⟩)), (4, .pointer (some ⟨b4, 0, none⟩)), (6, .int .i64 ((i : Nat) : Int))]) (fun i w' => (i ≤ R.length ∧ ∀ j y, j < i → R[j]? = some y → y.p ≠ p) ∧ St w [] [(b4, cb (cE zE) 33), (b3, cb (cP p) 31)] w') (fun i => R.length - i) 0 (fun i => ?_))) (fun w hw => ⟨⟨Nat.zero_le _, fun j y hj => by omega⟩, hw⟩)
  refine JC.pr (fun hx => ?_)
  obtain ⟨hi, hbef⟩ := hx
  refine JC.seq (fun K3 hK3 => ?_)
  refine JC.seq (fun K4 hK4 => ?_)
  refine JC.region ?_
  refine J.move rfl rfl ?_
  refine J.move rfl rfl ?_
  refine J.nilCheck rfl rfl ?_
  refine J.fieldAddr Ty.fd51_0 rfl rfl ?_
  refine J.load1 (v := .slice ar R.length cr) Ty.a22 rfl (fun w1 hw => by rw [cell_of (by rw [hw.keep rt (lt_of_some hrt) (by simp)]; exact hrt)]; rfl) rfl ?_
  refine J.lenS rfl Ty.u22 rfl rfl ?_
  refine J.bin rfl rfl rfl rfl ?_
  refine J.nil ?_
  refine JX.thenN (hK4 _ _ ?_)
  refine JC.cond rfl (fun h0 => ?_) (fun h0 => ?_)
  · skip
    have hlt : i < R.length := by simp at h0; omega
    have hflR := fE_length R
    have hclR := (Row.some hrv (by omega))
    obtain ⟨q1, o1, c1', hqe, _, _⟩ := hclR
    simp only [Value.slice.injEq] at hqe
    obtain ⟨rfl, _, rfl⟩ := hqe
    obtain ⟨xe, hxe⟩ : ∃ x, R[i]? = some x := ⟨_, List.getElem?_eq_getElem hlt⟩
    have hxo := hR xe (List.mem_of_getElem? hxe)
    refine JC.skip ?_
    refine JX.thenN (hK3 _ _ ?_)
    refine JC.seq (fun K5 hK5 => ?_)
    refine JC.block ?_
    refine JC.seq (fun K6 hK6 => ?_)
    apply JC.drawL 10 [Eqv (.pointer (some ⟨rt, 0, none⟩)), Eqv (.pointer (some ⟨rt, 0, none⟩)), Eqv (.pointer (some ⟨rt, 0 + 0, none⟩)), Eqv (.slice (some ⟨q1, o1, none⟩) R.length cr), Eqv (.int .i64 ((i : Nat) : Int)), Eqv (.pointer (some ⟨q1, o1 + (i : Int).toNat * 51, none⟩)), Eqv (.pointer (some ⟨q1, o1 + (i : Int).toNat * 51 + 0, none⟩)), Eqv (.agg (cP xe.p).toArray), Eqv (.agg (cP p).toArray), Eqv (.bool (decide (xe.p = p)))] Ty.mixed rfl rfl rfl (by kernel_rfl) rfl rfl (fun w w' hw hb => hw.step hb) ⟨fun _ _ _ h _ => h, fun _ _ _ h _ => h, fun _ _ _ h _ => h, fun _ _ _ h _ => h, fun _ _ _ h _ => h, fun _ _ _ h _ => h, fun _ _ _ h _ => h, fun _ _ _ h _ => h, fun _ _ _ h _ => h, fun _ _ _ h _ => h, trivial⟩ ?hstep ?htail
    case hstep =>
      refine ⟨fun wi => ?_, fun wi => ?_, fun wi => ?_, fun wi => ?_, fun wi => ?_, fun wi => ?_, fun wi => ?_, fun wi => ?_, fun wi => ?_, fun wi => ?_, trivial⟩
      · skip
        refine Fin.nil ?_
        refine J.move rfl rfl ?_
        exact J.finP rfl
      · skip
        refine Fin.consE rfl (Fin.nil ?_)
        refine J.nilCheck rfl rfl ?_
        exact J.finP rfl
      · skip
        refine Fin.consE rfl (Fin.nil ?_)
        refine J.fieldAddr Ty.fd51_0 rfl rfl ?_
        exact J.finP rfl
      · skip
        refine Fin.consE rfl (Fin.nil ?_)
        refine J.load1 (v := .slice (some ⟨q1, o1, none⟩) R.length cr) Ty.a22 rfl (fun w1 hw => by rw [cell_of (by rw [hw.2.keep rt (lt_of_some hrt) (by simp)]; exact hrt)]; rfl) rfl ?_
        exact J.finP rfl
      · skip
        refine Fin.nil ?_
        refine J.move rfl rfl ?_
        exact J.finP rfl
      · skip
        refine Fin.consE rfl (Fin.consE rfl (Fin.nil ?_))
        refine J.indexAddrS Ty.el22 Ty.s33 rfl rfl (by omega) (by omega) rfl ?_
        exact J.finP rfl
      · skip
        refine Fin.consE rfl (Fin.nil ?_)
        refine J.fieldAddr Ty.fd33_0 rfl rfl ?_
        exact J.finP rfl
      · skip
        refine Fin.consE rfl (Fin.nil ?_)
        refine J.loadA (vs := cP xe.p) Ty.a31 Ty.s31 rfl rfl (fun w1 hw => cells_sub (rowE_at (hrv.below (hw.2.drop (List.nil_sublist _)).below) hxe (by omega)) rfl) rfl ?_
        exact J.finP rfl
      · skip
        refine Fin.nil ?_
        refine J.loadA (vs := cP p) Ty.a31 Ty.s31 rfl rfl (fun w1 hw => Cells.of_block (hw.2.own _ (.tail _ (.head _))) rfl) rfl ?_
        exact J.finP rfl
      · skip
        refine Fin.consE rfl (Fin.consE rfl (Fin.nil ?_))
        refine J.eqP Ty.QP Ty.keyP rfl rfl hxo.1 hp rfl ?_
        exact J.finP rfl
    case htail =>
      refine Fin.consE rfl (Fin.consE rfl (Fin.consE rfl (Fin.consE rfl (Fin.consE rfl (Fin.consE rfl (Fin.consE rfl (Fin.consE rfl (Fin.consE rfl (Fin.consE rfl (Fin.nil ?_))))))))))
      refine J.nil ?_
      refine JX.thenN (hK6 _ _ ?_)
      refine JC.cond rfl (fun h1 => ?_) (fun h1 => ?_)
      · skip
        have heq : xe.p = p := by simpa using h1
        have hres := tget_at hxe heq hbef
        refine JC.seq (fun K7 hK7 => ?_)
        refine JC.region ?_
        refine J.move rfl rfl ?_
        refine J.nilCheck rfl rfl ?_
        refine J.fieldAddr Ty.fd51_0 rfl rfl ?_
        refine J.load1 (v := .slice (some ⟨q1, o1, none⟩) R.length cr) Ty.a22 rfl (fun w1 hw => by rw [cell_of (by rw [hw.keep rt (lt_of_some hrt) (by simp)]; exact hrt)]; rfl) rfl ?_
        refine J.move rfl rfl ?_
        refine J.indexAddrS Ty.el22 Ty.s33 rfl rfl (by omega) (by omega) rfl ?_
        refine J.loadA (vs := cE xe) Ty.a33 Ty.s33 rfl rfl (fun w1 hw => rowE_at (hrv.below (hw.drop (List.nil_sublist _)).below) hxe (by omega)) rfl ?_
        refine J.storeW (cs := cE zE) (vs := cE xe) Ty.s33 rfl rfl rfl rfl rfl (one_cE _) .here ?_
        refine J.assign rfl rfl ?_
        refine J.nil ?_
        refine JX.thenN (hK7 _ _ ?_)
        refine JC.ret ?_
        refine JX.blockR ?_
        refine JX.thenR ?_
        refine JX.thenR ?_
        refine JX.blockR ?_
        refine JX.thenR ?_
        refine JX.retCT rfl rfl rfl Ty.a33 Ty.s33 (vs := cE xe) rfl (fun w1 hw => Cells.of_block (hw.own _ (.head _)) rfl) (fun w1 hw => ?_)
        exact ⟨by rw [hres]; rfl, (hw.drop (List.nil_sublist _)).below⟩
      · skip
        have hne : xe.p ≠ p := by simpa using h1
        refine JC.skip ?_
        refine JX.blockN ?_
        refine JX.thenN (hK5 _ _ ?_)
        refine JC.region ?_
        refine J.move rfl rfl ?_
        (first | refine J.addN rfl rfl (by omega) (by omega) rfl ?_ | refine J.bin rfl rfl rfl rfl ?_)
        refine J.assign rfl rfl ?_
        refine J.nil ?_
        refine JX.thenN ?_
        refine JX.again (i + 1) ?_ ?_ ?_
        · omega
        · exact ⟨rfl, rfl, rfl, rfl, trivial⟩
        · exact fun w1 hw => ⟨⟨hlt, fun j y hj hy => by
          rcases Nat.lt_or_ge j i with h | h
          · exact hbef j y h hy
          · have : j = i := by omega
            subst this
            rw [hxe] at hy; cases hy; exact hne⟩, hw⟩
  · skip
    have hge : i = R.length := by simp at h0; omega
    have hres := tget_not (p := p) (fun j y hj => hbef j y (by omega))
    refine JC.exit ?_
    refine JX.thenE ?_
    refine JX.thenE ?_
    refine JX.blockE ?_
    refine JX.thenN (hK1 _ _ ?_)
    refine JC.seq (fun K8 hK8 => ?_)
    refine JC.region ?_
    refine J.buildS (cs := cE zE) Ty.pl33 Ty.zE_ rfl (by kernel_rfl) rfl ?_
    refine J.storeW (cs := cE zE) (vs := cE zE) Ty.s33 rfl rfl rfl rfl rfl (one_cE _) .here ?_
    refine J.assign rfl rfl ?_
    refine J.nil ?_
    refine JX.thenN (hK8 _ _ ?_)
    refine JC.ret ?_
    refine JX.retCT rfl rfl rfl Ty.a33 Ty.s33 (vs := cE zE) rfl (fun w1 hw => Cells.of_block (hw.own _ (.head _)) rfl) (fun w1 hw => ?_)
    exact ⟨by rw [hres]; rfl, (hw.drop (List.nil_sublist _)).below⟩

theorem via_fin {R : List EV} {n : Int} {i : Nat} (hi : i ≤ R.length) (h : ¬ i < R.length ∨ n < 0) : (R.take i).filter (viaB n) = R.filter (viaB n) := by
  rcases h with h | h
  · rw [List.take_of_length_le (by omega)]
  · have : ∀ l : List EV, l.filter (viaB n) = [] := fun l => List.filter_eq_nil_iff.2 fun x _ => by simp [viaB]; omega
    rw [this, this]

set_option maxHeartbeats 1000000 in
theorem rown_spec (rt : Nat) (v : Value) (most : Int) (R : List EV) (w : World) (hrt : w.heap[rt]? = some (rtabO v most)) (hrv : Row w v R.length (fE R)) (hR : ∀ x, x ∈ R → okE x) (hrl : R.length ≤ 1099511627776) :
    Calls Tryz.prog 28 [.pointer (some ⟨rt, 0, none⟩)].toArray w fun r w' => ∃ x : Value × List (Nat × Obj), r = .returned x.1 ∧ Vec 33 51 x.1 (R.filter ownB).length (fE (R.filter ownB)) x.2 ∧ St w [] x.2 w' := by
  obtain ⟨ar, cr, rfl, hcr, _⟩ := id hrv
  refine calls_of_J (args := [.pointer (some ⟨rt, 0, none⟩)]) (e := [(0, .pointer (some ⟨rt, 0, none⟩))]) Tryz.func28 rfl rfl ⟨rfl, trivial⟩ (St.start w) ?_
  refine JC.seq (fun K0 hK0 => ?_)
  refine JC.region ?_
  refine J.assign rfl rfl ?_
  refine J.nil ?_
  refine JX.thenN (hK0 _ _ ?_)
  refine JC.seq (fun K1 hK1 => ?_)
  refine JC.region ?_
  refine J.assign rfl rfl ?_
  refine J.nil ?_
  refine JX.thenN (hK1 _ _ ?_)
  refine JC.seq (fun K2 hK2 => ?_)
  refine JC.seq (fun K3 hK3 => ?_)
  refine JC.region ?_
  refine J.assign rfl rfl ?_
  refine J.nil ?_
  refine JX.thenN (hK3 _ _ ?_)
  refine JC.block ?_
  refine JC.conseq (JC.cov (f := (fun st => [(0, .pointer (some ⟨rt, 0, none⟩)), (3, st.2.1), (4, .int .i64 ((st.1 : Nat) : Int))]) ((0, .slice none 0 0, []) : Nat × Value × List (Nat × Obj))) ⟨rfl, rfl, rfl, trivial⟩ (JC.loop (α := Nat × Value × List (Nat × Obj)) (fun st => [(0, .pointer (some ⟨rt, 0, none⟩)), (3, st.2.1), (4, .int .i64 ((st.1 : Nat) : Int))]) (fun st w' => (st.1 ≤ R.length ∧ Vec 33 51 st.2.1 ((R.take st.1).filter ownB).length (fE ((R.take st.1).filter ownB)) st.2.2) ∧ St w [] (st.2.2 ++ []) w') (fun st => R.length - st.1) ((0, .slice none 0 0, []) : Nat × Value × List (Nat × Obj)) (fun st => ?_))) (fun w hw => ⟨⟨Nat.zero_le _, Vec.nil _ _⟩, hw⟩)
  obtain ⟨i, vo, lo⟩ := st
  refine JC.pr (fun hx => ?_)
  obtain ⟨hi, hvo⟩ := hx
  simp only at hi hvo ⊢
  refine JC.seq (fun K4 hK4 => ?_)
  refine JC.seq (fun K5 hK5 => ?_)
  refine JC.region ?_
  refine J.move rfl rfl ?_
  refine J.move rfl rfl ?_
  refine J.nilCheck rfl rfl ?_
  refine J.fieldAddr Ty.fd51_0 rfl rfl ?_
  refine J.load1 (v := .slice ar R.length cr) Ty.a22 rfl (fun w1 hw => by rw [cell_of (by rw [hw.keep rt (lt_of_some hrt) (by simp)]; exact hrt)]; rfl) rfl ?_
  refine J.lenS rfl Ty.u22 rfl rfl ?_
  refine J.bin rfl rfl rfl rfl ?_
  refine J.nil ?_
  refine JX.thenN (hK5 _ _ ?_)
  refine JC.cond rfl (fun h0 => ?_) (fun h0 => ?_)
  · skip
    have hlt : i < R.length := by simp at h0; omega
    have hflR := fE_length R
    have hclR := (Row.some hrv (by omega))
    obtain ⟨q1, o1, c1', hqe, _, _⟩ := hclR
    simp only [Value.slice.injEq] at hqe
    obtain ⟨rfl, _, rfl⟩ := hqe
    obtain ⟨xe, hxe⟩ : ∃ x, R[i]? = some x := ⟨_, List.getElem?_eq_getElem hlt⟩
    have hxo := hR xe (List.mem_of_getElem? hxe)
    refine JC.skip ?_
    refine JX.thenN (hK4 _ _ ?_)
    refine JC.seq (fun K6 hK6 => ?_)
    refine JC.block ?_
    refine JC.seq (fun K7 hK7 => ?_)
    by_cases hna : xe.na = -1
    · skip
      have hcase : ownB xe = true := by simp [ownB, hna]
      refine JC.region ?_
      refine J.move rfl rfl ?_
      refine J.nilCheck rfl rfl ?_
      refine J.fieldAddr Ty.fd51_0 rfl rfl ?_
      refine J.load1 (v := .slice (some ⟨q1, o1, none⟩) R.length cr) Ty.a22 rfl (fun w1 hw => by rw [cell_of (by rw [hw.keep rt (lt_of_some hrt) (by simp)]; exact hrt)]; rfl) rfl ?_
      refine J.move rfl rfl ?_
      refine J.indexAddrS Ty.el22 Ty.s33 rfl rfl (by omega) (by omega) rfl ?_
      refine J.fieldAddr Ty.fd33_3 rfl rfl ?_
      refine J.load1 (v := .int .i64 xe.na) Ty.a3 rfl (fun w1 hw => Cells.get (rowE_at (hrv.below (hw.drop (List.nil_sublist _)).below) hxe rfl) (i := 49) rfl (by omega)) rfl ?_
      refine J.bin rfl rfl rfl rfl ?_
      refine J.name 22 rfl (show _ = Value.bool true by simp [hna]) ?_
      refine J.move rfl rfl ?_
      first | refine J.skip rfl rfl rfl rfl rfl ?_ | refine J.skipU rfl rfl rfl rfl ?_ | (refine J.unguard rfl rfl rfl ?_; refine J.move rfl rfl ?_)
      first | refine J.skip rfl rfl rfl rfl rfl ?_ | refine J.skipU rfl rfl rfl rfl ?_ | (refine J.unguard rfl rfl rfl ?_; refine J.nilCheck rfl rfl ?_)
      first | refine J.skip rfl rfl rfl rfl rfl ?_ | refine J.skipU rfl rfl rfl rfl ?_ | (refine J.unguard rfl rfl rfl ?_; refine J.fieldAddr Ty.fd51_0 rfl rfl ?_)
      first | refine J.skip rfl rfl rfl rfl rfl ?_ | refine J.skipU rfl rfl rfl rfl ?_ | (refine J.unguard rfl rfl rfl ?_; refine J.load1 (v := .slice (some ⟨q1, o1, none⟩) R.length cr) Ty.a22 rfl (fun w1 hw => by rw [cell_of (by rw [hw.keep rt (lt_of_some hrt) (by simp)]; exact hrt)]; rfl) rfl ?_)
      first | refine J.skip rfl rfl rfl rfl rfl ?_ | refine J.skipU rfl rfl rfl rfl ?_ | (refine J.unguard rfl rfl rfl ?_; refine J.move rfl rfl ?_)
      first | refine J.skip rfl rfl rfl rfl rfl ?_ | refine J.skipU rfl rfl rfl rfl ?_ | (refine J.unguard rfl rfl rfl ?_; refine J.indexAddrS Ty.el22 Ty.s33 rfl rfl (by omega) (by omega) rfl ?_)
      first | refine J.skip rfl rfl rfl rfl rfl ?_ | refine J.skipU rfl rfl rfl rfl ?_ | (refine J.unguard rfl rfl rfl ?_; refine J.fieldAddr Ty.fd33_4 rfl rfl ?_)
      first | refine J.skip rfl rfl rfl rfl rfl ?_ | refine J.skipU rfl rfl rfl rfl ?_ | (refine J.unguard rfl rfl rfl ?_; refine J.load1 (v := .int .i64 xe.nb) Ty.a3 rfl (fun w1 hw => Cells.get (rowE_at (hrv.below (hw.drop (List.nil_sublist _)).below) hxe rfl) (i := 50) rfl (by omega)) rfl ?_)
      first | refine J.skip rfl rfl rfl rfl rfl ?_ | refine J.skipU rfl rfl rfl rfl ?_ | (refine J.unguard rfl rfl rfl ?_; refine J.bin rfl rfl rfl rfl ?_)
      (first | refine J.pickT rfl rfl rfl ?_ | refine J.pickF rfl rfl rfl ?_)
      refine J.nil ?_
      refine JX.thenN (hK7 _ _ ?_)
      first | refine JC.condT rfl ?_ | refine JC.cond rfl (fun _ => ?_) (fun h => by first | (exfalso; simp at h; omega) | (simp at h))
      refine JC.region ?_
      refine J.move rfl rfl ?_
      refine J.move rfl rfl ?_
      refine J.nilCheck rfl rfl ?_
      refine J.fieldAddr Ty.fd51_0 rfl rfl ?_
      refine J.load1 (v := .slice (some ⟨q1, o1, none⟩) R.length cr) Ty.a22 rfl (fun w1 hw => by rw [cell_of (by rw [hw.keep rt (lt_of_some hrt) (by simp)]; exact hrt)]; rfl) rfl ?_
      refine J.move rfl rfl ?_
      refine J.indexAddrS Ty.el22 Ty.s33 rfl rfl (by omega) (by omega) rfl ?_
      refine J.loadA (vs := cE xe) Ty.a33 Ty.s33 rfl rfl (fun w1 hw => rowE_at (hrv.below (hw.drop (List.nil_sublist _)).below) hxe (by omega)) rfl ?_
      refine J.buildSl (cs := cE xe) Ty.el22 Ty.s33 Ty.zE_ rfl rfl rfl rfl (by kernel_rfl) rfl rfl (fun b50 => ?_)
      have hol : ((R.take i).filter ownB).length ≤ i := Nat.le_trans (List.length_filter_le _ _) (by rw [List.length_take]; omega)
      refine J.perm (lo ++ ((b50, cb (cE xe) 33) :: [])) (by (refine perm_cnt (fun _ => ?_)); simp only [cntB_append, cntB_cons, cntB_nil, Nat.add_zero, Nat.zero_add]; try ac_rfl) ?_
      refine J.append (lp := lo) (xs := fE ((R.take i).filter ownB)) (ys := cE xe) (k := ((R.take i).filter ownB).length) (m := 1) Ty.el22 Ty.s33 Ty.b33 Ty.zE_ rfl (.inl ⟨33, Ty.u22⟩) rfl rfl hvo (fun w3 hw3 => .inl (Row.own hw3 (List.mem_append_right _ (.head _)) rfl (Nat.le_refl _))) rfl (one_cE xe) (by omega) (by omega) rfl (fun vn ln hvn => ?_)
      refine J.assign rfl rfl ?_
      refine J.nil ?_
      refine JX.blockN ?_
      refine JX.thenN (hK6 _ _ ?_)
      refine JC.region ?_
      refine J.move rfl rfl ?_
      (first | refine J.addN rfl rfl (by omega) (by omega) rfl ?_ | refine J.bin rfl rfl rfl rfl ?_)
      refine J.assign rfl rfl ?_
      refine J.nil ?_
      refine JX.thenN ?_
      refine JX.again ((i + 1, vn, ln) : Nat × Value × List (Nat × Obj)) ?_ ?_ ?_
      · simp only; omega
      · exact ⟨rfl, rfl, rfl, trivial⟩
      · exact fun w1 hw => ⟨⟨hlt, by rw [filter_stepE hxe, if_pos hcase, List.length_append, fE_append]; simpa [fE] using hvn⟩, hw.drop (List.Sublist.append_left (List.sublist_cons_self _ _) _)⟩
    · skip
      refine JC.region ?_
      refine J.move rfl rfl ?_
      refine J.nilCheck rfl rfl ?_
      refine J.fieldAddr Ty.fd51_0 rfl rfl ?_
      refine J.load1 (v := .slice (some ⟨q1, o1, none⟩) R.length cr) Ty.a22 rfl (fun w1 hw => by rw [cell_of (by rw [hw.keep rt (lt_of_some hrt) (by simp)]; exact hrt)]; rfl) rfl ?_
      refine J.move rfl rfl ?_
      refine J.indexAddrS Ty.el22 Ty.s33 rfl rfl (by omega) (by omega) rfl ?_
      refine J.fieldAddr Ty.fd33_3 rfl rfl ?_
      refine J.load1 (v := .int .i64 xe.na) Ty.a3 rfl (fun w1 hw => Cells.get (rowE_at (hrv.below (hw.drop (List.nil_sublist _)).below) hxe rfl) (i := 49) rfl (by omega)) rfl ?_
      refine J.bin rfl rfl rfl rfl ?_
      refine J.name 22 rfl (show _ = Value.bool false by simp [hna]) ?_
      refine J.move rfl rfl ?_
      first | refine J.skip rfl rfl rfl rfl rfl ?_ | refine J.skipU rfl rfl rfl rfl ?_ | (refine J.unguard rfl rfl rfl ?_; refine J.move rfl rfl ?_)
      first | refine J.skip rfl rfl rfl rfl rfl ?_ | refine J.skipU rfl rfl rfl rfl ?_ | (refine J.unguard rfl rfl rfl ?_; refine J.nilCheck rfl rfl ?_)
      first | refine J.skip rfl rfl rfl rfl rfl ?_ | refine J.skipU rfl rfl rfl rfl ?_ | (refine J.unguard rfl rfl rfl ?_; refine J.fieldAddr Ty.fd51_0 rfl rfl ?_)
      first | refine J.skip rfl rfl rfl rfl rfl ?_ | refine J.skipU rfl rfl rfl rfl ?_ | (refine J.unguard rfl rfl rfl ?_; refine J.load1 (v := .slice (some ⟨q1, o1, none⟩) R.length cr) Ty.a22 rfl (fun w1 hw => by rw [cell_of (by rw [hw.keep rt (lt_of_some hrt) (by simp)]; exact hrt)]; rfl) rfl ?_)
      first | refine J.skip rfl rfl rfl rfl rfl ?_ | refine J.skipU rfl rfl rfl rfl ?_ | (refine J.unguard rfl rfl rfl ?_; refine J.move rfl rfl ?_)
      first | refine J.skip rfl rfl rfl rfl rfl ?_ | refine J.skipU rfl rfl rfl rfl ?_ | (refine J.unguard rfl rfl rfl ?_; refine J.indexAddrS Ty.el22 Ty.s33 rfl rfl (by omega) (by omega) rfl ?_)
      first | refine J.skip rfl rfl rfl rfl rfl ?_ | refine J.skipU rfl rfl rfl rfl ?_ | (refine J.unguard rfl rfl rfl ?_; refine J.fieldAddr Ty.fd33_4 rfl rfl ?_)
      first | refine J.skip rfl rfl rfl rfl rfl ?_ | refine J.skipU rfl rfl rfl rfl ?_ | (refine J.unguard rfl rfl rfl ?_; refine J.load1 (v := .int .i64 xe.nb) Ty.a3 rfl (fun w1 hw => Cells.get (rowE_at (hrv.below (hw.drop (List.nil_sublist _)).below) hxe rfl) (i := 50) rfl (by omega)) rfl ?_)
      first | refine J.skip rfl rfl rfl rfl rfl ?_ | refine J.skipU rfl rfl rfl rfl ?_ | (refine J.unguard rfl rfl rfl ?_; refine J.bin rfl rfl rfl rfl ?_)
      (first | refine J.pickT rfl rfl rfl ?_ | refine J.pickF rfl rfl rfl ?_)
      refine J.nil ?_
      refine JX.thenN (hK7 _ _ ?_)
      refine JC.cond rfl (fun h1 => ?_) (fun h1 => ?_)
      · skip
        have hcase : ownB xe = true := by simp at h1; simp [ownB, h1]
        refine JC.region ?_
        refine J.move rfl rfl ?_
        refine J.move rfl rfl ?_
        refine J.nilCheck rfl rfl ?_
        refine J.fieldAddr Ty.fd51_0 rfl rfl ?_
        refine J.load1 (v := .slice (some ⟨q1, o1, none⟩) R.length cr) Ty.a22 rfl (fun w1 hw => by rw [cell_of (by rw [hw.keep rt (lt_of_some hrt) (by simp)]; exact hrt)]; rfl) rfl ?_
        refine J.move rfl rfl ?_
        refine J.indexAddrS Ty.el22 Ty.s33 rfl rfl (by omega) (by omega) rfl ?_
        refine J.loadA (vs := cE xe) Ty.a33 Ty.s33 rfl rfl (fun w1 hw => rowE_at (hrv.below (hw.drop (List.nil_sublist _)).below) hxe (by omega)) rfl ?_
        refine J.buildSl (cs := cE xe) Ty.el22 Ty.s33 Ty.zE_ rfl rfl rfl rfl (by kernel_rfl) rfl rfl (fun b50 => ?_)
        have hol : ((R.take i).filter ownB).length ≤ i := Nat.le_trans (List.length_filter_le _ _) (by rw [List.length_take]; omega)
        refine J.perm (lo ++ ((b50, cb (cE xe) 33) :: [])) (by (refine perm_cnt (fun _ => ?_)); simp only [cntB_append, cntB_cons, cntB_nil, Nat.add_zero, Nat.zero_add]; try ac_rfl) ?_
        refine J.append (lp := lo) (xs := fE ((R.take i).filter ownB)) (ys := cE xe) (k := ((R.take i).filter ownB).length) (m := 1) Ty.el22 Ty.s33 Ty.b33 Ty.zE_ rfl (.inl ⟨33, Ty.u22⟩) rfl rfl hvo (fun w3 hw3 => .inl (Row.own hw3 (List.mem_append_right _ (.head _)) rfl (Nat.le_refl _))) rfl (one_cE xe) (by omega) (by omega) rfl (fun vn ln hvn => ?_)
        refine J.assign rfl rfl ?_
        refine J.nil ?_
        refine JX.blockN ?_
        refine JX.thenN (hK6 _ _ ?_)
        refine JC.region ?_
        refine J.move rfl rfl ?_
        (first | refine J.addN rfl rfl (by omega) (by omega) rfl ?_ | refine J.bin rfl rfl rfl rfl ?_)
        refine J.assign rfl rfl ?_
        refine J.nil ?_
        refine JX.thenN ?_
        refine JX.again ((i + 1, vn, ln) : Nat × Value × List (Nat × Obj)) ?_ ?_ ?_
        · simp only; omega
        · exact ⟨rfl, rfl, rfl, trivial⟩
        · exact fun w1 hw => ⟨⟨hlt, by rw [filter_stepE hxe, if_pos hcase, List.length_append, fE_append]; simpa [fE] using hvn⟩, hw.drop (List.Sublist.append_left (List.sublist_cons_self _ _) _)⟩
      · skip
        have hcase : ownB xe = false := by simp at h1; simp [ownB, h1, hna]
        refine JC.skip ?_
        refine JX.blockN ?_
        refine JX.thenN (hK6 _ _ ?_)
        refine JC.region ?_
        refine J.move rfl rfl ?_
        (first | refine J.addN rfl rfl (by omega) (by omega) rfl ?_ | refine J.bin rfl rfl rfl rfl ?_)
        refine J.assign rfl rfl ?_
        refine J.nil ?_
        refine JX.thenN ?_
        refine JX.again ((i + 1, vo, lo) : Nat × Value × List (Nat × Obj)) ?_ ?_ ?_
        · simp only; omega
        · exact ⟨rfl, rfl, rfl, trivial⟩
        · exact fun w1 hw => ⟨⟨hlt, by rw [filter_stepE hxe, if_neg (by rw [hcase]; decide), List.append_nil]; exact hvo⟩, hw⟩
  · skip
    have hfin : (R.take i).filter ownB = R.filter ownB := by rw [List.take_of_length_le (by simp at h0; omega)]
    refine JC.exit ?_
    refine JX.thenE ?_
    refine JX.thenE ?_
    refine JX.blockE ?_
    refine JX.thenN (hK2 _ _ ?_)
    refine JC.seq (fun K8 hK8 => ?_)
    refine JC.region ?_
    refine J.move rfl rfl ?_
    refine J.assign rfl rfl ?_
    refine J.nil ?_
    refine JX.thenN (hK8 _ _ ?_)
    refine JC.ret ?_
    refine JX.ret1 rfl rfl (fun w hw => ?_)
    exact ⟨(vo, lo), rfl, by rw [hfin] at hvo; exact hvo, hw.drop (List.sublist_append_left _ _)⟩

theorem rsame_spec (v1 v2 : Value) (xs ys : List EV) (w : World) (hr1 : Row w v1 xs.length (fE xs)) (hr2 : Row w v2 ys.length (fE ys)) (hx : ∀ x, x ∈ xs → okE x) (hy : ∀ x, x ∈ ys → okE x) (hl1 : xs.length < 4611686018427387904) (hl2 : ys.length < 4611686018427387904) :
    Calls Tryz.prog 17 [v1, v2].toArray w fun r w' => r = .returned (.bool (decide (xs = ys))) ∧ Bel w w' := by
  obtain ⟨a1, c1, rfl, hc1, _⟩ := id hr1
  obtain ⟨a2, c2, rfl, hc2, _⟩ := id hr2
  refine calls_of_J (args := [.slice a1 xs.length c1, .slice a2 ys.length c2]) (e := [(0, .slice a1 xs.length c1), (1, .slice a2 ys.length c2)]) Tryz.func17 rfl rfl ⟨rfl, rfl, trivial⟩ (St.start w) ?_
  refine JC.seq (fun K0 hK0 => ?_)
  refine JC.region ?_
  refine J.assign rfl rfl ?_
  refine J.nil ?_
  refine JX.thenN (hK0 _ _ ?_)
  refine JC.seq (fun K1 hK1 => ?_)
  refine JC.seq (fun K2 hK2 => ?_)
  refine JC.region ?_
  refine J.move rfl rfl ?_
  refine J.lenS rfl Ty.u22 rfl rfl ?_
  refine J.move rfl rfl ?_
  refine J.lenS rfl Ty.u22 rfl rfl ?_
  refine J.bin rfl rfl rfl rfl ?_
  refine J.nil ?_
  refine JX.thenN (hK2 _ _ ?_)
  refine JC.cond rfl (fun h0 => ?_) (fun h0 => ?_)
  · skip
    have hne : xs.length ≠ ys.length := by simp at h0; omega
    have hres : decide (xs = ys) = false := by simp; intro e; exact hne (by rw [e])
    refine JC.seq (fun K3 hK3 => ?_)
    refine JC.region ?_
    refine J.assign rfl rfl ?_
    refine J.nil ?_
    refine JX.thenN (hK3 _ _ ?_)
    refine JC.ret ?_
    refine JX.thenR ?_
    refine JX.ret1 rfl rfl (fun w hw => ?_)
    exact ⟨by rw [hres], hw.below⟩
  · skip
    have hle : xs.length = ys.length := by simp at h0; omega
    refine JC.skip ?_
    refine JX.thenN (hK1 _ _ ?_)
    refine JC.seq (fun K4 hK4 => ?_)
    refine JC.seq (fun K5 hK5 => ?_)
    refine JC.region ?_
    refine J.assign rfl rfl ?_
    refine J.nil ?_
    refine JX.thenN (hK5 _ _ ?_)
    refine JC.block ?_
    refine JC.conseq (JC.cov (f := (fun i => [(0, .slice a1 xs.length c1), (1, .slice a2 ys.length c2), (5, .int .i64 ((i : Nat) : Int))]) 0) ⟨rfl, rfl, rfl, trivial⟩ (JC.loop (α := Nat) (fun i => [(0, .slice a1 xs.length c1), (1, .slice a2 ys.length c2), (5, .int .i64 ((i : Nat) : Int))]) (fun i w' => (i ≤ xs.length ∧ ∀ j, j < i → xs[j]? = ys[j]?) ∧ St w [] [] w') (fun i => xs.length - i) 0 (fun i => ?_))) (fun w hw => ⟨⟨Nat.zero_le _, fun j hj => by omega⟩, hw⟩)
    refine JC.pr (fun hx => ?_)
    obtain ⟨hi, hpre⟩ := hx
    refine JC.seq (fun K6 hK6 => ?_)
    refine JC.seq (fun K7 hK7 => ?_)
    refine JC.region ?_
    refine J.move rfl rfl ?_
    refine J.move rfl rfl ?_
    refine J.lenS rfl Ty.u22 rfl rfl ?_
    refine J.bin rfl rfl rfl rfl ?_
    refine J.nil ?_
    refine JX.thenN (hK7 _ _ ?_)
    refine JC.cond rfl (fun h1 => ?_) (fun h1 => ?_)
    · skip
      have hlt : i < xs.length := by simp at h1; omega
      have hlt2 : i < ys.length := by omega
      have hfxs := fE_length xs
      have hcl := (Row.some hr1 (by omega))
      obtain ⟨q1, o1, c1', hqe, _, _⟩ := hcl
      simp only [Value.slice.injEq] at hqe
      obtain ⟨rfl, _, rfl⟩ := hqe
      have hfys := fE_length ys
      have hcl := (Row.some hr2 (by omega))
      obtain ⟨q2, o2, c2', hqe, _, _⟩ := hcl
      simp only [Value.slice.injEq] at hqe
      obtain ⟨rfl, _, rfl⟩ := hqe
      obtain ⟨xa, hxa⟩ : ∃ x, xs[i]? = some x := ⟨_, List.getElem?_eq_getElem hlt⟩
      obtain ⟨yb, hyb⟩ : ∃ x, ys[i]? = some x := ⟨_, List.getElem?_eq_getElem hlt2⟩
      have hxo := hx xa (List.mem_of_getElem? hxa)
      have hyo := hy yb (List.mem_of_getElem? hyb)
      refine JC.skip ?_
      refine JX.thenN (hK6 _ _ ?_)
      refine JC.seq (fun K8 hK8 => ?_)
      refine JC.block ?_
      refine JC.seq (fun K9 hK9 => ?_)
      apply JC.drawL 9 [Eqv (.slice (some ⟨q1, o1, none⟩) xs.length c1), Eqv (.int .i64 ((i : Nat) : Int)), Eqv (.pointer (some ⟨q1, o1 + (i : Int).toNat * 51, none⟩)), Eqv (.agg (cE xa).toArray), Eqv (.slice (some ⟨q2, o2, none⟩) ys.length c2), Eqv (.int .i64 ((i : Nat) : Int)), Eqv (.pointer (some ⟨q2, o2 + (i : Int).toNat * 51, none⟩)), Eqv (.agg (cE yb).toArray), Eqv (.bool (!decide (xa = yb)))] Ty.mixed rfl rfl rfl (by kernel_rfl) rfl rfl (fun w w' hw hb => hw.step hb) ⟨fun _ _ _ h _ => h, fun _ _ _ h _ => h, fun _ _ _ h _ => h, fun _ _ _ h _ => h, fun _ _ _ h _ => h, fun _ _ _ h _ => h, fun _ _ _ h _ => h, fun _ _ _ h _ => h, fun _ _ _ h _ => h, trivial⟩ ?hstep ?htail
      case hstep =>
        refine ⟨fun wi => ?_, fun wi => ?_, fun wi => ?_, fun wi => ?_, fun wi => ?_, fun wi => ?_, fun wi => ?_, fun wi => ?_, fun wi => ?_, trivial⟩
        · skip
          refine Fin.nil ?_
          refine J.move rfl rfl ?_
          exact J.finP rfl
        · skip
          refine Fin.nil ?_
          refine J.move rfl rfl ?_
          exact J.finP rfl
        · skip
          refine Fin.consE rfl (Fin.consE rfl (Fin.nil ?_))
          refine J.indexAddrS Ty.el22 Ty.s33 rfl rfl (by omega) (by omega) rfl ?_
          exact J.finP rfl
        · skip
          refine Fin.consE rfl (Fin.nil ?_)
          refine J.loadA (vs := cE xa) Ty.a33 Ty.s33 rfl rfl (fun w1 hw => rowE_at (hr1.below hw.2.below) hxa (by omega)) rfl ?_
          exact J.finP rfl
        · skip
          refine Fin.nil ?_
          refine J.move rfl rfl ?_
          exact J.finP rfl
        · skip
          refine Fin.nil ?_
          refine J.move rfl rfl ?_
          exact J.finP rfl
        · skip
          refine Fin.consE rfl (Fin.consE rfl (Fin.nil ?_))
          refine J.indexAddrS Ty.el22 Ty.s33 rfl rfl (by omega) (by omega) rfl ?_
          exact J.finP rfl
        · skip
          refine Fin.consE rfl (Fin.nil ?_)
          refine J.loadA (vs := cE yb) Ty.a33 Ty.s33 rfl rfl (fun w1 hw => rowE_at (hr2.below hw.2.below) hyb (by omega)) rfl ?_
          exact J.finP rfl
        · skip
          refine Fin.consE rfl (Fin.consE rfl (Fin.nil ?_))
          refine J.neE Ty.QE Ty.keyE rfl rfl hxo hyo rfl ?_
          exact J.finP rfl
      case htail =>
        refine Fin.consE rfl (Fin.consE rfl (Fin.consE rfl (Fin.consE rfl (Fin.consE rfl (Fin.consE rfl (Fin.consE rfl (Fin.consE rfl (Fin.consE rfl (Fin.nil ?_)))))))))
        refine J.nil ?_
        refine JX.thenN (hK9 _ _ ?_)
        refine JC.cond rfl (fun h2 => ?_) (fun h2 => ?_)
        · skip
          have hne : xa ≠ yb := by simpa using h2
          have hres : decide (xs = ys) = false := by rw [decide_eq_false_iff_not]; intro e; rw [e, hyb] at hxa; cases hxa; exact hne rfl
          refine JC.seq (fun K10 hK10 => ?_)
          refine JC.region ?_
          refine J.assign rfl rfl ?_
          refine J.nil ?_
          refine JX.thenN (hK10 _ _ ?_)
          refine JC.ret ?_
          refine JX.blockR ?_
          refine JX.thenR ?_
          refine JX.thenR ?_
          refine JX.blockR ?_
          refine JX.thenR ?_
          refine JX.ret1 rfl rfl (fun w hw => ?_)
          exact ⟨by rw [hres], hw.below⟩
        · skip
          have heq : xa = yb := by simpa using h2
          refine JC.skip ?_
          refine JX.blockN ?_
          refine JX.thenN (hK8 _ _ ?_)
          refine JC.region ?_
          refine J.move rfl rfl ?_
          (first | refine J.addN rfl rfl (by omega) (by omega) rfl ?_ | refine J.bin rfl rfl rfl rfl ?_)
          refine J.assign rfl rfl ?_
          refine J.nil ?_
          refine JX.thenN ?_
          refine JX.again (i + 1) ?_ ?_ ?_
          · omega
          · exact ⟨rfl, rfl, rfl, trivial⟩
          · exact fun w1 hw => ⟨⟨hlt, fun j hj => by
            rcases Nat.lt_or_ge j i with h | h
            · exact hpre j h
            · have : j = i := by omega
              subst this
              rw [hxa, hyb, heq]⟩, hw⟩
    · skip
      have hge : i = xs.length := by simp at h1; omega
      have hres : decide (xs = ys) = true := by simpa using same_uptoE hle hpre hge
      refine JC.exit ?_
      refine JX.thenE ?_
      refine JX.thenE ?_
      refine JX.blockE ?_
      refine JX.thenN (hK4 _ _ ?_)
      refine JC.seq (fun K11 hK11 => ?_)
      refine JC.region ?_
      refine J.assign rfl rfl ?_
      refine J.nil ?_
      refine JX.thenN (hK11 _ _ ?_)
      refine JC.ret ?_
      refine JX.ret1 rfl rfl (fun w hw => ?_)
      exact ⟨by rw [hres], hw.below⟩

end Go.Proofs.YtohldionclgljaaGreat
/-
  Other; the document's Right, Add and Remove: contracts.
-/
namespace Go.Proofs.YtohldionclgljaaGreat
open Go.J Go.RowKit
set_option linter.unusedVariables false
set_option linter.unusedSimpArgs false
set_option maxRecDepth 4000
/-- an entry put in at its place -/
def insE : List EV → EV → List EV
  | [], x => [x]
  | y :: l, x => if ltP y.p x.p then y :: insE l x else x :: y :: l
def posE (R : List EV) (x : EV) : Nat := (R.takeWhile (fun y => ltP y.p x.p)).length
theorem insE_pos : ∀ (R : List EV) (x : EV), insE R x = R.take (posE R x) ++ x :: R.drop (posE R x)
  | [], x => rfl
  | y :: R, x => by
    unfold insE posE
    rw [List.takeWhile_cons]
    cases h : ltP y.p x.p
    · rfl
    · simp only [if_true, List.length_cons, List.take_succ_cons, List.drop_succ_cons, List.cons_append]
      rw [insE_pos R x]
      rfl
theorem posE_le (R : List EV) (x : EV) : posE R x ≤ R.length := by
  unfold posE
  exact List.Sublist.length_le (List.takeWhile_sublist _)
theorem posE_of : ∀ {R : List EV} {x : EV} {k : Nat}, k ≤ R.length → (∀ j y, j < k → R[j]? = some y → ltP y.p x.p = true) → (∀ y, R[k]? = some y → ltP y.p x.p = false) → posE R x = k
  | [], x, k, hk, _, _ => by simp at hk; subst hk; rfl
  | y :: R, x, 0, _, _, h2 => by
    have := h2 y rfl
    unfold posE
    rw [List.takeWhile_cons, this]
    rfl
  | y :: R, x, k + 1, hk, h1, h2 => by
    have h3 := h1 0 y (by omega) rfl
    have ih := posE_of (R := R) (x := x) (k := k) (by simpa using hk) (fun j z hj hz => h1 (j + 1) z (by omega) (by simpa using hz)) (fun z hz => h2 z (by simpa using hz))
    unfold posE at ih ⊢
    rw [List.takeWhile_cons, h3]
    simp only [if_true, List.length_cons, ih]
/-- what the document's Add answers, and leaves -/
def radd (R : List EV) (most : Int) (x : EV) : Int × List EV :=
  if ¬ rightP x then (1, R) else if (tget R x.p).isSome then (7, R) else if most ≤ (R.length : Int) then (5, R) else (0, insE R x)

theorem other_spec (xe : EV) (w : World) :
    Calls Tryz.prog 21 [.agg (cE xe).toArray].toArray w fun r w' => r = .returned (.tuple #[.agg (cI (otherV xe).1).toArray, .int .i64 (otherV xe).2.1, .bool (otherV xe).2.2]) ∧ Bel w w' := by
  refine calls_of_J (args := [.agg (cE xe).toArray]) (e := [(0, .agg (cE xe).toArray)]) Tryz.func21 rfl rfl ⟨rfl, trivial⟩ (St.start w) ?_
  refine JC.seq (fun K0 hK0 => ?_)
  refine JC.region ?_
  refine J.box rfl rfl rfl (fun b1 => ?_)
  refine J.alloc Ty.zID rfl rfl (fun b2 => ?_)
  refine J.assign rfl rfl ?_
  refine J.assign rfl rfl ?_
  refine J.nil ?_
  refine JX.thenN (hK0 _ _ ?_)
  refine JC.seq (fun K1 hK1 => ?_)
  refine JC.seq (fun K2 hK2 => ?_)
  refine JC.region ?_
  refine J.fieldAddr Ty.fd33_3 rfl rfl ?_
  refine J.loadO Ty.a3 rfl (by repeat first | exact .head _ | apply List.Mem.tail | apply List.mem_append_right) (by exact rfl) rfl ?_
  refine J.bin rfl rfl rfl rfl ?_
  refine J.nil ?_
  refine JX.thenN (hK2 _ _ ?_)
  refine JC.cond rfl (fun h0 => ?_) (fun h0 => ?_)
  · skip
    have ho : otherV xe = (xe.b, xe.nb, false) := if_pos (by simpa using h0)
    refine JC.seq (fun K3 hK3 => ?_)
    refine JC.cov (f := [(1, .pointer (some ⟨b1, 0, none⟩)), (2, .pointer (some ⟨b2, 0, none⟩))]) ⟨rfl, rfl, trivial⟩ ?_
    apply JC.drawX (α := Nat × Unit) 7 (fun x => match x with | ⟨x9, uu⟩ => [.pointer (some ⟨b1, 0 + 33, none⟩), .agg (cI xe.b).toArray, .pointer (some ⟨b1, 0 + 50, none⟩), .int .i64 xe.nb, undef, .int .i64 xe.nb, .bool false]) (fun m x => match x with | ⟨x9, uu⟩ => fun w1 => (True) ∧ St w [] ((b2, cb (bif m 4 then cI xe.b else cI zI) 24) :: [(b1, cb (cE xe) 33)]) w1) Ty.mixed rfl rfl rfl (by kernel_rfl) rfl rfl ?hinit ?hstep ?htail
    case hinit => exact fun w1 hw => ⟨(0, ()), trivial, hw.drew⟩
    case hstep =>
      refine ⟨fun m x hm hp => ?_, fun m x hm hp => ?_, fun m x hm hp => ?_, fun m x hm hp => ?_, fun m x hm hp => ?_, fun m x hm hp => ?_, fun m x hm hp => ?_, trivial⟩
      · skip
        obtain ⟨x9, uu⟩ := x
        show J _ _ _ _ _ (_) _
        refine J.pr (fun hF => ?_)
        refine J.fieldAddr Ty.fd33_2 rfl rfl ?_
        exact J.finX rfl (fun _ hw => ⟨⟨x9, uu⟩, rfl, fun _ _ _ => rfl, hF, hw⟩)
      · skip
        obtain ⟨x9, uu⟩ := x
        show J _ _ _ _ _ ((8, .pointer (some ⟨b1, 0 + 33, none⟩)) :: _) _
        refine J.pr (fun hF => ?_)
        refine J.loadA (vs := cI xe.b) Ty.a24 Ty.s24 rfl rfl (fun w1 hw => Cells.of_block (hw.own _ (.tail _ (.head _))) rfl) rfl ?_
        exact J.finX rfl (fun _ hw => ⟨⟨x9, uu⟩, rfl, fun _ _ _ => rfl, hF, hw⟩)
      · skip
        obtain ⟨x9, uu⟩ := x
        show J _ _ _ _ _ (_) _
        refine J.pr (fun hF => ?_)
        refine J.fieldAddr Ty.fd33_4 rfl rfl ?_
        exact J.finX rfl (fun _ hw => ⟨⟨x9, uu⟩, rfl, fun _ _ _ => rfl, hF, hw⟩)
      · skip
        obtain ⟨x9, uu⟩ := x
        show J _ _ _ _ _ ((10, .pointer (some ⟨b1, 0 + 50, none⟩)) :: _) _
        refine J.pr (fun hF => ?_)
        refine J.load1 (v := .int .i64 xe.nb) Ty.a3 rfl (fun w1 hw => by rw [cell_of (hw.own _ (.tail _ (.head _)))]; rfl) rfl ?_
        exact J.finX rfl (fun _ hw => ⟨⟨x9, uu⟩, rfl, fun _ _ _ => rfl, hF, hw⟩)
      · skip
        obtain ⟨x9, uu⟩ := x
        show J _ _ _ _ _ ((9, .agg (cI xe.b).toArray) :: (8, .pointer (some ⟨b1, 0 + 33, none⟩)) :: (9, .agg (cI xe.b).toArray) :: _) _
        refine J.pr (fun hF => ?_)
        refine J.conseq (I' := St w [] [(b2, cb (cI zI) 24), (b1, cb (cE xe) 33)]) ?_ (fun w1 hw => by simp only [hm, cond_false] at hw; exact hw)
        refine J.storeW (cs := cI zI) (vs := cI xe.b) Ty.s24 rfl rfl rfl rfl rfl (one_cI _) .here ?_
        refine J.nil (JX.finN undef (fun w1 hw => ⟨⟨x9, uu⟩, rfl, fun j h1 h2 => ?_, ?_⟩))
        · match j, h1 with
          | 0, _ => (first | rfl | trivial)
          | 1, _ => (first | rfl | trivial)
          | 2, _ => (first | rfl | trivial)
          | 3, _ => (first | rfl | trivial)
          | 4, _ => (first | rfl | trivial)
          | 5, _ => (first | rfl | trivial)
          | 6, _ => (first | rfl | trivial)
          | j + 7, h1 => omega
        show (True) ∧ St w [] ((b2, cb (bif true then cI xe.b else cI zI) 24) :: [(b1, cb (cE xe) 33)]) w1
        simp only [hm, cond_true] at hw ⊢
        exact ⟨trivial, hw⟩
      · skip
        obtain ⟨x9, uu⟩ := x
        show J _ _ _ _ _ ((11, .int .i64 xe.nb) :: (10, .pointer (some ⟨b1, 0 + 50, none⟩)) :: (9, .agg (cI xe.b).toArray) :: (8, .pointer (some ⟨b1, 0 + 33, none⟩)) :: (11, .int .i64 xe.nb) :: _) _
        refine J.pr (fun hF => ?_)
        refine J.assign rfl rfl ?_
        exact J.finX rfl (fun _ hw => ⟨⟨x9, uu⟩, rfl, fun _ _ _ => rfl, hF, hw⟩)
      · skip
        obtain ⟨x9, uu⟩ := x
        show J _ _ _ _ _ ((3, .int .i64 xe.nb) :: (11, .int .i64 xe.nb) :: (10, .pointer (some ⟨b1, 0 + 50, none⟩)) :: (9, .agg (cI xe.b).toArray) :: (8, .pointer (some ⟨b1, 0 + 33, none⟩)) :: (3, .int .i64 xe.nb) :: _) _
        refine J.pr (fun hF => ?_)
        refine J.assign rfl rfl ?_
        exact J.finX rfl (fun _ hw => ⟨⟨x9, uu⟩, rfl, fun _ _ _ => rfl, hF, hw⟩)
    case htail =>
      intro x
      obtain ⟨x9, uu⟩ := x
      show J _ _ _ _ _ ((4, .bool false) :: (3, .int .i64 xe.nb) :: (11, .int .i64 xe.nb) :: (10, .pointer (some ⟨b1, 0 + 50, none⟩)) :: (9, .agg (cI xe.b).toArray) :: (8, .pointer (some ⟨b1, 0 + 33, none⟩)) :: _) (fun w1 => (True) ∧ St w [] ((b2, cb (bif true then cI xe.b else cI zI) 24) :: [(b1, cb (cE xe) 33)]) w1)
      refine J.pr (fun hF => ?_)
      refine J.conseq (I' := St w [] [(b2, cb (cI xe.b) 24), (b1, cb (cE xe) 33)]) ?_ (fun w1 hw => by simp only [cond_true] at hw; exact hw)
      refine J.nil ?_
      refine JX.thenN (hK3 _ _ ?_)
      refine JC.ret ?_
      refine JX.thenR ?_
      refine JX.retC3 rfl rfl rfl rfl Ty.a24 Ty.s24 (vs := cI xe.b) rfl (fun w1 hw => Cells.of_block (hw.own _ (.head _)) rfl) (fun w1 hw => ?_)
      exact ⟨by rw [ho], (hw.drop (List.nil_sublist _)).below⟩
  · skip
    have ho : otherV xe = (xe.a, xe.na, true) := if_neg (by simpa using h0)
    refine JC.skip ?_
    refine JX.thenN (hK1 _ _ ?_)
    refine JC.seq (fun K4 hK4 => ?_)
    refine JC.cov (f := [(1, .pointer (some ⟨b1, 0, none⟩)), (2, .pointer (some ⟨b2, 0, none⟩))]) ⟨rfl, rfl, trivial⟩ ?_
    apply JC.drawX (α := Nat × Unit) 7 (fun x => match x with | ⟨x9, uu⟩ => [.pointer (some ⟨b1, 0 + 17, none⟩), .agg (cI xe.a).toArray, .pointer (some ⟨b1, 0 + 49, none⟩), .int .i64 xe.na, undef, .int .i64 xe.na, .bool true]) (fun m x => match x with | ⟨x9, uu⟩ => fun w1 => (True) ∧ St w [] ((b2, cb (bif m 4 then cI xe.a else cI zI) 24) :: [(b1, cb (cE xe) 33)]) w1) Ty.mixed rfl rfl rfl (by kernel_rfl) rfl rfl ?hinit ?hstep ?htail
    case hinit => exact fun w1 hw => ⟨(0, ()), trivial, hw.drew⟩
    case hstep =>
      refine ⟨fun m x hm hp => ?_, fun m x hm hp => ?_, fun m x hm hp => ?_, fun m x hm hp => ?_, fun m x hm hp => ?_, fun m x hm hp => ?_, fun m x hm hp => ?_, trivial⟩
      · skip
        obtain ⟨x9, uu⟩ := x
        show J _ _ _ _ _ (_) _
        refine J.pr (fun hF => ?_)
        refine J.fieldAddr Ty.fd33_1 rfl rfl ?_
        exact J.finX rfl (fun _ hw => ⟨⟨x9, uu⟩, rfl, fun _ _ _ => rfl, hF, hw⟩)
      · skip
        obtain ⟨x9, uu⟩ := x
        show J _ _ _ _ _ ((12, .pointer (some ⟨b1, 0 + 17, none⟩)) :: _) _
        refine J.pr (fun hF => ?_)
        refine J.loadA (vs := cI xe.a) Ty.a24 Ty.s24 rfl rfl (fun w1 hw => Cells.of_block (hw.own _ (.tail _ (.head _))) rfl) rfl ?_
        exact J.finX rfl (fun _ hw => ⟨⟨x9, uu⟩, rfl, fun _ _ _ => rfl, hF, hw⟩)
      · skip
        obtain ⟨x9, uu⟩ := x
        show J _ _ _ _ _ (_) _
        refine J.pr (fun hF => ?_)
        refine J.fieldAddr Ty.fd33_3 rfl rfl ?_
        exact J.finX rfl (fun _ hw => ⟨⟨x9, uu⟩, rfl, fun _ _ _ => rfl, hF, hw⟩)
      · skip
        obtain ⟨x9, uu⟩ := x
        show J _ _ _ _ _ ((14, .pointer (some ⟨b1, 0 + 49, none⟩)) :: _) _
        refine J.pr (fun hF => ?_)
        refine J.load1 (v := .int .i64 xe.na) Ty.a3 rfl (fun w1 hw => by rw [cell_of (hw.own _ (.tail _ (.head _)))]; rfl) rfl ?_
        exact J.finX rfl (fun _ hw => ⟨⟨x9, uu⟩, rfl, fun _ _ _ => rfl, hF, hw⟩)
      · skip
        obtain ⟨x9, uu⟩ := x
        show J _ _ _ _ _ ((13, .agg (cI xe.a).toArray) :: (12, .pointer (some ⟨b1, 0 + 17, none⟩)) :: (13, .agg (cI xe.a).toArray) :: _) _
        refine J.pr (fun hF => ?_)
        refine J.conseq (I' := St w [] [(b2, cb (cI zI) 24), (b1, cb (cE xe) 33)]) ?_ (fun w1 hw => by simp only [hm, cond_false] at hw; exact hw)
        refine J.storeW (cs := cI zI) (vs := cI xe.a) Ty.s24 rfl rfl rfl rfl rfl (one_cI _) .here ?_
        refine J.nil (JX.finN undef (fun w1 hw => ⟨⟨x9, uu⟩, rfl, fun j h1 h2 => ?_, ?_⟩))
        · match j, h1 with
          | 0, _ => (first | rfl | trivial)
          | 1, _ => (first | rfl | trivial)
          | 2, _ => (first | rfl | trivial)
          | 3, _ => (first | rfl | trivial)
          | 4, _ => (first | rfl | trivial)
          | 5, _ => (first | rfl | trivial)
          | 6, _ => (first | rfl | trivial)
          | j + 7, h1 => omega
        show (True) ∧ St w [] ((b2, cb (bif true then cI xe.a else cI zI) 24) :: [(b1, cb (cE xe) 33)]) w1
        simp only [hm, cond_true] at hw ⊢
        exact ⟨trivial, hw⟩
      · skip
        obtain ⟨x9, uu⟩ := x
        show J _ _ _ _ _ ((15, .int .i64 xe.na) :: (14, .pointer (some ⟨b1, 0 + 49, none⟩)) :: (13, .agg (cI xe.a).toArray) :: (12, .pointer (some ⟨b1, 0 + 17, none⟩)) :: (15, .int .i64 xe.na) :: _) _
        refine J.pr (fun hF => ?_)
        refine J.assign rfl rfl ?_
        exact J.finX rfl (fun _ hw => ⟨⟨x9, uu⟩, rfl, fun _ _ _ => rfl, hF, hw⟩)
      · skip
        obtain ⟨x9, uu⟩ := x
        show J _ _ _ _ _ ((3, .int .i64 xe.na) :: (15, .int .i64 xe.na) :: (14, .pointer (some ⟨b1, 0 + 49, none⟩)) :: (13, .agg (cI xe.a).toArray) :: (12, .pointer (some ⟨b1, 0 + 17, none⟩)) :: (3, .int .i64 xe.na) :: _) _
        refine J.pr (fun hF => ?_)
        refine J.assign rfl rfl ?_
        exact J.finX rfl (fun _ hw => ⟨⟨x9, uu⟩, rfl, fun _ _ _ => rfl, hF, hw⟩)
    case htail =>
      intro x
      obtain ⟨x9, uu⟩ := x
      show J _ _ _ _ _ ((4, .bool true) :: (3, .int .i64 xe.na) :: (15, .int .i64 xe.na) :: (14, .pointer (some ⟨b1, 0 + 49, none⟩)) :: (13, .agg (cI xe.a).toArray) :: (12, .pointer (some ⟨b1, 0 + 17, none⟩)) :: _) (fun w1 => (True) ∧ St w [] ((b2, cb (bif true then cI xe.a else cI zI) 24) :: [(b1, cb (cE xe) 33)]) w1)
      refine J.pr (fun hF => ?_)
      refine J.conseq (I' := St w [] [(b2, cb (cI xe.a) 24), (b1, cb (cE xe) 33)]) ?_ (fun w1 hw => by simp only [cond_true] at hw; exact hw)
      refine J.nil ?_
      refine JX.thenN (hK4 _ _ ?_)
      refine JC.ret ?_
      refine JX.retC3 rfl rfl rfl rfl Ty.a24 Ty.s24 (vs := cI xe.a) rfl (fun w1 hw => Cells.of_block (hw.own _ (.head _)) rfl) (fun w1 hw => ?_)
      exact ⟨by rw [ho], (hw.drop (List.nil_sublist _)).below⟩

theorem rother_spec (xe : EV) (w : World) :
    Calls Tryz.prog 29 [.agg (cE xe).toArray].toArray w fun r w' => r = .returned (.tuple #[.agg (cI (otherV xe).1).toArray, .int .i64 (otherV xe).2.1, .bool (otherV xe).2.2]) ∧ Bel w w' := by
  refine calls_of_J (args := [.agg (cE xe).toArray]) (e := [(0, .agg (cE xe).toArray)]) Tryz.func29 rfl rfl ⟨rfl, trivial⟩ (St.start w) ?_
  refine JC.seq (fun K0 hK0 => ?_)
  refine JC.region ?_
  refine J.box rfl rfl rfl (fun b1 => ?_)
  refine J.alloc Ty.zID rfl rfl (fun b2 => ?_)
  refine J.assign rfl rfl ?_
  refine J.assign rfl rfl ?_
  refine J.nil ?_
  refine JX.thenN (hK0 _ _ ?_)
  refine JC.seq (fun K1 hK1 => ?_)
  refine JC.seq (fun K2 hK2 => ?_)
  refine JC.region ?_
  refine J.fieldAddr Ty.fd33_3 rfl rfl ?_
  refine J.loadO Ty.a3 rfl (by repeat first | exact .head _ | apply List.Mem.tail | apply List.mem_append_right) (by exact rfl) rfl ?_
  refine J.bin rfl rfl rfl rfl ?_
  refine J.nil ?_
  refine JX.thenN (hK2 _ _ ?_)
  refine JC.cond rfl (fun h0 => ?_) (fun h0 => ?_)
  · skip
    have ho : otherV xe = (xe.b, xe.nb, false) := if_pos (by simpa using h0)
    refine JC.seq (fun K3 hK3 => ?_)
    refine JC.cov (f := [(1, .pointer (some ⟨b1, 0, none⟩)), (2, .pointer (some ⟨b2, 0, none⟩))]) ⟨rfl, rfl, trivial⟩ ?_
    apply JC.drawX (α := Nat × Unit) 7 (fun x => match x with | ⟨x9, uu⟩ => [.pointer (some ⟨b1, 0 + 33, none⟩), .agg (cI xe.b).toArray, .pointer (some ⟨b1, 0 + 50, none⟩), .int .i64 xe.nb, undef, .int .i64 xe.nb, .bool false]) (fun m x => match x with | ⟨x9, uu⟩ => fun w1 => (True) ∧ St w [] ((b2, cb (bif m 4 then cI xe.b else cI zI) 24) :: [(b1, cb (cE xe) 33)]) w1) Ty.mixed rfl rfl rfl (by kernel_rfl) rfl rfl ?hinit ?hstep ?htail
    case hinit => exact fun w1 hw => ⟨(0, ()), trivial, hw.drew⟩
    case hstep =>
      refine ⟨fun m x hm hp => ?_, fun m x hm hp => ?_, fun m x hm hp => ?_, fun m x hm hp => ?_, fun m x hm hp => ?_, fun m x hm hp => ?_, fun m x hm hp => ?_, trivial⟩
      · skip
        obtain ⟨x9, uu⟩ := x
        show J _ _ _ _ _ (_) _
        refine J.pr (fun hF => ?_)
        refine J.fieldAddr Ty.fd33_2 rfl rfl ?_
        exact J.finX rfl (fun _ hw => ⟨⟨x9, uu⟩, rfl, fun _ _ _ => rfl, hF, hw⟩)
      · skip
        obtain ⟨x9, uu⟩ := x
        show J _ _ _ _ _ ((8, .pointer (some ⟨b1, 0 + 33, none⟩)) :: _) _
        refine J.pr (fun hF => ?_)
        refine J.loadA (vs := cI xe.b) Ty.a24 Ty.s24 rfl rfl (fun w1 hw => Cells.of_block (hw.own _ (.tail _ (.head _))) rfl) rfl ?_
        exact J.finX rfl (fun _ hw => ⟨⟨x9, uu⟩, rfl, fun _ _ _ => rfl, hF, hw⟩)
      · skip
        obtain ⟨x9, uu⟩ := x
        show J _ _ _ _ _ (_) _
        refine J.pr (fun hF => ?_)
        refine J.fieldAddr Ty.fd33_4 rfl rfl ?_
        exact J.finX rfl (fun _ hw => ⟨⟨x9, uu⟩, rfl, fun _ _ _ => rfl, hF, hw⟩)
      · skip
        obtain ⟨x9, uu⟩ := x
        show J _ _ _ _ _ ((10, .pointer (some ⟨b1, 0 + 50, none⟩)) :: _) _
        refine J.pr (fun hF => ?_)
        refine J.load1 (v := .int .i64 xe.nb) Ty.a3 rfl (fun w1 hw => by rw [cell_of (hw.own _ (.tail _ (.head _)))]; rfl) rfl ?_
        exact J.finX rfl (fun _ hw => ⟨⟨x9, uu⟩, rfl, fun _ _ _ => rfl, hF, hw⟩)
      · skip
        obtain ⟨x9, uu⟩ := x
        show J _ _ _ _ _ ((9, .agg (cI xe.b).toArray) :: (8, .pointer (some ⟨b1, 0 + 33, none⟩)) :: (9, .agg (cI xe.b).toArray) :: _) _
        refine J.pr (fun hF => ?_)
        refine J.conseq (I' := St w [] [(b2, cb (cI zI) 24), (b1, cb (cE xe) 33)]) ?_ (fun w1 hw => by simp only [hm, cond_false] at hw; exact hw)
        refine J.storeW (cs := cI zI) (vs := cI xe.b) Ty.s24 rfl rfl rfl rfl rfl (one_cI _) .here ?_
        refine J.nil (JX.finN undef (fun w1 hw => ⟨⟨x9, uu⟩, rfl, fun j h1 h2 => ?_, ?_⟩))
        · match j, h1 with
          | 0, _ => (first | rfl | trivial)
          | 1, _ => (first | rfl | trivial)
          | 2, _ => (first | rfl | trivial)
          | 3, _ => (first | rfl | trivial)
          | 4, _ => (first | rfl | trivial)
          | 5, _ => (first | rfl | trivial)
          | 6, _ => (first | rfl | trivial)
          | j + 7, h1 => omega
        show (True) ∧ St w [] ((b2, cb (bif true then cI xe.b else cI zI) 24) :: [(b1, cb (cE xe) 33)]) w1
        simp only [hm, cond_true] at hw ⊢
        exact ⟨trivial, hw⟩
      · skip
        obtain ⟨x9, uu⟩ := x
        show J _ _ _ _ _ ((11, .int .i64 xe.nb) :: (10, .pointer (some ⟨b1, 0 + 50, none⟩)) :: (9, .agg (cI xe.b).toArray) :: (8, .pointer (some ⟨b1, 0 + 33, none⟩)) :: (11, .int .i64 xe.nb) :: _) _
        refine J.pr (fun hF => ?_)
        refine J.assign rfl rfl ?_
        exact J.finX rfl (fun _ hw => ⟨⟨x9, uu⟩, rfl, fun _ _ _ => rfl, hF, hw⟩)
      · skip
        obtain ⟨x9, uu⟩ := x
        show J _ _ _ _ _ ((3, .int .i64 xe.nb) :: (11, .int .i64 xe.nb) :: (10, .pointer (some ⟨b1, 0 + 50, none⟩)) :: (9, .agg (cI xe.b).toArray) :: (8, .pointer (some ⟨b1, 0 + 33, none⟩)) :: (3, .int .i64 xe.nb) :: _) _
        refine J.pr (fun hF => ?_)
        refine J.assign rfl rfl ?_
        exact J.finX rfl (fun _ hw => ⟨⟨x9, uu⟩, rfl, fun _ _ _ => rfl, hF, hw⟩)
    case htail =>
      intro x
      obtain ⟨x9, uu⟩ := x
      show J _ _ _ _ _ ((4, .bool false) :: (3, .int .i64 xe.nb) :: (11, .int .i64 xe.nb) :: (10, .pointer (some ⟨b1, 0 + 50, none⟩)) :: (9, .agg (cI xe.b).toArray) :: (8, .pointer (some ⟨b1, 0 + 33, none⟩)) :: _) (fun w1 => (True) ∧ St w [] ((b2, cb (bif true then cI xe.b else cI zI) 24) :: [(b1, cb (cE xe) 33)]) w1)
      refine J.pr (fun hF => ?_)
      refine J.conseq (I' := St w [] [(b2, cb (cI xe.b) 24), (b1, cb (cE xe) 33)]) ?_ (fun w1 hw => by simp only [cond_true] at hw; exact hw)
      refine J.nil ?_
      refine JX.thenN (hK3 _ _ ?_)
      refine JC.ret ?_
      refine JX.thenR ?_
      refine JX.retC3 rfl rfl rfl rfl Ty.a24 Ty.s24 (vs := cI xe.b) rfl (fun w1 hw => Cells.of_block (hw.own _ (.head _)) rfl) (fun w1 hw => ?_)
      exact ⟨by rw [ho], (hw.drop (List.nil_sublist _)).below⟩
  · skip
    have ho : otherV xe = (xe.a, xe.na, true) := if_neg (by simpa using h0)
    refine JC.skip ?_
    refine JX.thenN (hK1 _ _ ?_)
    refine JC.seq (fun K4 hK4 => ?_)
    refine JC.cov (f := [(1, .pointer (some ⟨b1, 0, none⟩)), (2, .pointer (some ⟨b2, 0, none⟩))]) ⟨rfl, rfl, trivial⟩ ?_
    apply JC.drawX (α := Nat × Unit) 7 (fun x => match x with | ⟨x9, uu⟩ => [.pointer (some ⟨b1, 0 + 17, none⟩), .agg (cI xe.a).toArray, .pointer (some ⟨b1, 0 + 49, none⟩), .int .i64 xe.na, undef, .int .i64 xe.na, .bool true]) (fun m x => match x with | ⟨x9, uu⟩ => fun w1 => (True) ∧ St w [] ((b2, cb (bif m 4 then cI xe.a else cI zI) 24) :: [(b1, cb (cE xe) 33)]) w1) Ty.mixed rfl rfl rfl (by kernel_rfl) rfl rfl ?hinit ?hstep ?htail
    case hinit => exact fun w1 hw => ⟨(0, ()), trivial, hw.drew⟩
    case hstep =>
      refine ⟨fun m x hm hp => ?_, fun m x hm hp => ?_, fun m x hm hp => ?_, fun m x hm hp => ?_, fun m x hm hp => ?_, fun m x hm hp => ?_, fun m x hm hp => ?_, trivial⟩
      · skip
        obtain ⟨x9, uu⟩ := x
        show J _ _ _ _ _ (_) _
        refine J.pr (fun hF => ?_)
        refine J.fieldAddr Ty.fd33_1 rfl rfl ?_
        exact J.finX rfl (fun _ hw => ⟨⟨x9, uu⟩, rfl, fun _ _ _ => rfl, hF, hw⟩)
      · skip
        obtain ⟨x9, uu⟩ := x
        show J _ _ _ _ _ ((12, .pointer (some ⟨b1, 0 + 17, none⟩)) :: _) _
        refine J.pr (fun hF => ?_)
        refine J.loadA (vs := cI xe.a) Ty.a24 Ty.s24 rfl rfl (fun w1 hw => Cells.of_block (hw.own _ (.tail _ (.head _))) rfl) rfl ?_
        exact J.finX rfl (fun _ hw => ⟨⟨x9, uu⟩, rfl, fun _ _ _ => rfl, hF, hw⟩)
      · skip
        obtain ⟨x9, uu⟩ := x
        show J _ _ _ _ _ (_) _
        refine J.pr (fun hF => ?_)
        refine J.fieldAddr Ty.fd33_3 rfl rfl ?_
        exact J.finX rfl (fun _ hw => ⟨⟨x9, uu⟩, rfl, fun _ _ _ => rfl, hF, hw⟩)
      · skip
        obtain ⟨x9, uu⟩ := x
        show J _ _ _ _ _ ((14, .pointer (some ⟨b1, 0 + 49, none⟩)) :: _) _
        refine J.pr (fun hF => ?_)
        refine J.load1 (v := .int .i64 xe.na) Ty.a3 rfl (fun w1 hw => by rw [cell_of (hw.own _ (.tail _ (.head _)))]; rfl) rfl ?_
        exact J.finX rfl (fun _ hw => ⟨⟨x9, uu⟩, rfl, fun _ _ _ => rfl, hF, hw⟩)
      · skip
        obtain ⟨x9, uu⟩ := x
        show J _ _ _ _ _ ((13, .agg (cI xe.a).toArray) :: (12, .pointer (some ⟨b1, 0 + 17, none⟩)) :: (13, .agg (cI xe.a).toArray) :: _) _
        refine J.pr (fun hF => ?_)
        refine J.conseq (I' := St w [] [(b2, cb (cI zI) 24), (b1, cb (cE xe) 33)]) ?_ (fun w1 hw => by simp only [hm, cond_false] at hw; exact hw)
        refine J.storeW (cs := cI zI) (vs := cI xe.a) Ty.s24 rfl rfl rfl rfl rfl (one_cI _) .here ?_
        refine J.nil (JX.finN undef (fun w1 hw => ⟨⟨x9, uu⟩, rfl, fun j h1 h2 => ?_, ?_⟩))
        · match j, h1 with
          | 0, _ => (first | rfl | trivial)
          | 1, _ => (first | rfl | trivial)
          | 2, _ => (first | rfl | trivial)
          | 3, _ => (first | rfl | trivial)
          | 4, _ => (first | rfl | trivial)
          | 5, _ => (first | rfl | trivial)
          | 6, _ => (first | rfl | trivial)
          | j + 7, h1 => omega
        show (True) ∧ St w [] ((b2, cb (bif true then cI xe.a else cI zI) 24) :: [(b1, cb (cE xe) 33)]) w1
        simp only [hm, cond_true] at hw ⊢
        exact ⟨trivial, hw⟩
      · skip
        obtain ⟨x9, uu⟩ := x
        show J _ _ _ _ _ ((15, .int .i64 xe.na) :: (14, .pointer (some ⟨b1, 0 + 49, none⟩)) :: (13, .agg (cI xe.a).toArray) :: (12, .pointer (some ⟨b1, 0 + 17, none⟩)) :: (15, .int .i64 xe.na) :: _) _
        refine J.pr (fun hF => ?_)
        refine J.assign rfl rfl ?_
        exact J.finX rfl (fun _ hw => ⟨⟨x9, uu⟩, rfl, fun _ _ _ => rfl, hF, hw⟩)
      · skip
        obtain ⟨x9, uu⟩ := x
        show J _ _ _ _ _ ((3, .int .i64 xe.na) :: (15, .int .i64 xe.na) :: (14, .pointer (some ⟨b1, 0 + 49, none⟩)) :: (13, .agg (cI xe.a).toArray) :: (12, .pointer (some ⟨b1, 0 + 17, none⟩)) :: (3, .int .i64 xe.na) :: _) _
        refine J.pr (fun hF => ?_)
        refine J.assign rfl rfl ?_
        exact J.finX rfl (fun _ hw => ⟨⟨x9, uu⟩, rfl, fun _ _ _ => rfl, hF, hw⟩)
    case htail =>
      intro x
      obtain ⟨x9, uu⟩ := x
      show J _ _ _ _ _ ((4, .bool true) :: (3, .int .i64 xe.na) :: (15, .int .i64 xe.na) :: (14, .pointer (some ⟨b1, 0 + 49, none⟩)) :: (13, .agg (cI xe.a).toArray) :: (12, .pointer (some ⟨b1, 0 + 17, none⟩)) :: _) (fun w1 => (True) ∧ St w [] ((b2, cb (bif true then cI xe.a else cI zI) 24) :: [(b1, cb (cE xe) 33)]) w1)
      refine J.pr (fun hF => ?_)
      refine J.conseq (I' := St w [] [(b2, cb (cI xe.a) 24), (b1, cb (cE xe) 33)]) ?_ (fun w1 hw => by simp only [cond_true] at hw; exact hw)
      refine J.nil ?_
      refine JX.thenN (hK4 _ _ ?_)
      refine JC.ret ?_
      refine JX.retC3 rfl rfl rfl rfl Ty.a24 Ty.s24 (vs := cI xe.a) rfl (fun w1 hw => Cells.of_block (hw.own _ (.head _)) rfl) (fun w1 hw => ?_)
      exact ⟨by rw [ho], (hw.drop (List.nil_sublist _)).below⟩

theorem rright_spec (x : EV) (w : World) :
    Calls Tryz.prog 48 [.agg (cE x).toArray].toArray w fun r w' => r = .returned (.bool (decide (rightP x))) ∧ Bel w w' := by
  refine calls_of_J (args := [.agg (cE x).toArray]) (e := [(0, .agg (cE x).toArray)]) Tryz.func48 rfl rfl ⟨rfl, trivial⟩ (St.start w) ?_
  refine JC.seq (fun K0 hK0 => ?_)
  refine JC.region ?_
  refine J.box rfl rfl rfl (fun b1 => ?_)
  refine J.assign rfl rfl ?_
  refine J.nil ?_
  refine JX.thenN (hK0 _ _ ?_)
  refine JC.seq (fun K1 hK1 => ?_)
  refine JC.region ?_
  refine J.fieldAddr Ty.fd33_1 rfl rfl ?_
  refine J.loadOA (vs := cI x.a) Ty.a24 Ty.s24 rfl (.head _) rfl rfl rfl ?_
  refine J.fieldAddr Ty.fd33_2 rfl rfl ?_
  refine J.loadOA (vs := cI x.b) Ty.a24 Ty.s24 rfl (.head _) rfl rfl rfl ?_
  refine J.neI Ty.QI Ty.keyI rfl rfl rfl ?_
  refine J.move rfl rfl ?_
  refine J.split 8 rfl (fun hs8 => ?_) (fun hs8 => ?_)
  · skip
    try simp only [decide_eq_true_eq, decide_eq_false_iff_not, beq_iff_eq, bne_iff_ne, bne_eq_false_iff_eq, ne_eq, beq_eq_false_iff_ne, Bool.not_eq_true, Bool.not_eq_false, Int.not_lt, Int.not_le] at hs8
    first
    | exact absurd hs8 (by decide)
    | skip
      first | refine J.skip rfl rfl rfl rfl rfl ?_ | refine J.skipU rfl rfl rfl rfl ?_ | (refine J.unguard rfl rfl rfl ?_; refine J.fieldAddr Ty.fd33_3 rfl rfl ?_)
      first | refine J.skip rfl rfl rfl rfl rfl ?_ | refine J.skipU rfl rfl rfl rfl ?_ | (refine J.unguard rfl rfl rfl ?_; refine J.loadO Ty.a3 rfl (by repeat first | exact .head _ | apply List.Mem.tail | apply List.mem_append_right) (by exact rfl) rfl ?_)
      first | refine J.skip rfl rfl rfl rfl rfl ?_ | refine J.skipU rfl rfl rfl rfl ?_ | (refine J.unguard rfl rfl rfl ?_; refine J.fieldAddr Ty.fd33_4 rfl rfl ?_)
      first | refine J.skip rfl rfl rfl rfl rfl ?_ | refine J.skipU rfl rfl rfl rfl ?_ | (refine J.unguard rfl rfl rfl ?_; refine J.loadO Ty.a3 rfl (by repeat first | exact .head _ | apply List.Mem.tail | apply List.mem_append_right) (by exact rfl) rfl ?_)
      first | refine J.skip rfl rfl rfl rfl rfl ?_ | refine J.skipU rfl rfl rfl rfl ?_ | (refine J.unguard rfl rfl rfl ?_; refine J.bin rfl rfl rfl rfl ?_)
      (first | refine J.pickT rfl rfl rfl ?_ | refine J.pickF rfl rfl rfl ?_)
      refine J.move rfl rfl ?_
      refine J.split 15 rfl (fun hs15 => ?_) (fun hs15 => ?_)
      · skip
        try simp only [decide_eq_true_eq, decide_eq_false_iff_not, beq_iff_eq, bne_iff_ne, bne_eq_false_iff_eq, ne_eq, beq_eq_false_iff_ne, Bool.not_eq_true, Bool.not_eq_false, Int.not_lt, Int.not_le] at hs15
        first
        | exact absurd hs15 (by decide)
        | skip
          first | refine J.skip rfl rfl rfl rfl rfl ?_ | refine J.skipU rfl rfl rfl rfl ?_ | (refine J.unguard rfl rfl rfl ?_; refine J.fieldAddr Ty.fd33_3 rfl rfl ?_)
          first | refine J.skip rfl rfl rfl rfl rfl ?_ | refine J.skipU rfl rfl rfl rfl ?_ | (refine J.unguard rfl rfl rfl ?_; refine J.loadO Ty.a3 rfl (by repeat first | exact .head _ | apply List.Mem.tail | apply List.mem_append_right) (by exact rfl) rfl ?_)
          first | refine J.skip rfl rfl rfl rfl rfl ?_ | refine J.skipU rfl rfl rfl rfl ?_ | (refine J.unguard rfl rfl rfl ?_; refine J.bin rfl rfl rfl rfl ?_)
          (first | refine J.pickT rfl rfl rfl ?_ | refine J.pickF rfl rfl rfl ?_)
          refine J.move rfl rfl ?_
          refine J.split 20 rfl (fun hs20 => ?_) (fun hs20 => ?_)
          · skip
            try simp only [decide_eq_true_eq, decide_eq_false_iff_not, beq_iff_eq, bne_iff_ne, bne_eq_false_iff_eq, ne_eq, beq_eq_false_iff_ne, Bool.not_eq_true, Bool.not_eq_false, Int.not_lt, Int.not_le] at hs20
            first
            | exact absurd hs20 (by decide)
            | skip
              first | refine J.skip rfl rfl rfl rfl rfl ?_ | refine J.skipU rfl rfl rfl rfl ?_ | (refine J.unguard rfl rfl rfl ?_; refine J.fieldAddr Ty.fd33_3 rfl rfl ?_)
              first | refine J.skip rfl rfl rfl rfl rfl ?_ | refine J.skipU rfl rfl rfl rfl ?_ | (refine J.unguard rfl rfl rfl ?_; refine J.loadO Ty.a3 rfl (by repeat first | exact .head _ | apply List.Mem.tail | apply List.mem_append_right) (by exact rfl) rfl ?_)
              first | refine J.skip rfl rfl rfl rfl rfl ?_ | refine J.skipU rfl rfl rfl rfl ?_ | (refine J.unguard rfl rfl rfl ?_; refine J.bin rfl rfl rfl rfl ?_)
              (first | refine J.pickT rfl rfl rfl ?_ | refine J.pickF rfl rfl rfl ?_)
              refine J.move rfl rfl ?_
              refine J.split 25 rfl (fun hs25 => ?_) (fun hs25 => ?_)
              · skip
                try simp only [decide_eq_true_eq, decide_eq_false_iff_not, beq_iff_eq, bne_iff_ne, bne_eq_false_iff_eq, ne_eq, beq_eq_false_iff_ne, Bool.not_eq_true, Bool.not_eq_false, Int.not_lt, Int.not_le] at hs25
                first
                | exact absurd hs25 (by decide)
                | skip
                  first | refine J.skip rfl rfl rfl rfl rfl ?_ | refine J.skipU rfl rfl rfl rfl ?_ | (refine J.unguard rfl rfl rfl ?_; refine J.fieldAddr Ty.fd33_4 rfl rfl ?_)
                  first | refine J.skip rfl rfl rfl rfl rfl ?_ | refine J.skipU rfl rfl rfl rfl ?_ | (refine J.unguard rfl rfl rfl ?_; refine J.loadO Ty.a3 rfl (by repeat first | exact .head _ | apply List.Mem.tail | apply List.mem_append_right) (by exact rfl) rfl ?_)
                  first | refine J.skip rfl rfl rfl rfl rfl ?_ | refine J.skipU rfl rfl rfl rfl ?_ | (refine J.unguard rfl rfl rfl ?_; refine J.bin rfl rfl rfl rfl ?_)
                  (first | refine J.pickT rfl rfl rfl ?_ | refine J.pickF rfl rfl rfl ?_)
                  refine J.move rfl rfl ?_
                  refine J.split 30 rfl (fun hs30 => ?_) (fun hs30 => ?_)
                  · skip
                    try simp only [decide_eq_true_eq, decide_eq_false_iff_not, beq_iff_eq, bne_iff_ne, bne_eq_false_iff_eq, ne_eq, beq_eq_false_iff_ne, Bool.not_eq_true, Bool.not_eq_false, Int.not_lt, Int.not_le] at hs30
                    first
                    | exact absurd hs30 (by decide)
                    | skip
                      first | refine J.skip rfl rfl rfl rfl rfl ?_ | refine J.skipU rfl rfl rfl rfl ?_ | (refine J.unguard rfl rfl rfl ?_; refine J.fieldAddr Ty.fd33_4 rfl rfl ?_)
                      first | refine J.skip rfl rfl rfl rfl rfl ?_ | refine J.skipU rfl rfl rfl rfl ?_ | (refine J.unguard rfl rfl rfl ?_; refine J.loadO Ty.a3 rfl (by repeat first | exact .head _ | apply List.Mem.tail | apply List.mem_append_right) (by exact rfl) rfl ?_)
                      first | refine J.skip rfl rfl rfl rfl rfl ?_ | refine J.skipU rfl rfl rfl rfl ?_ | (refine J.unguard rfl rfl rfl ?_; refine J.bin rfl rfl rfl rfl ?_)
                      (first | refine J.pickT rfl rfl rfl ?_ | refine J.pickF rfl rfl rfl ?_)
                      refine J.assign rfl rfl ?_
                      refine J.nil ?_
                      refine JX.thenN (hK1 _ _ ?_)
                      refine JC.ret ?_
                      refine JX.ret1 rfl rfl (fun w hw => ?_)
                      refine ⟨ret_bool ?_, (hw.drop (List.nil_sublist _)).below⟩
                      first | (simp_all [rightP, okTN]; done) | (simp [rightP, okTN] at *; omega) | (simp_all [rightP, okTN]; omega)
                  · skip
                    try simp only [decide_eq_true_eq, decide_eq_false_iff_not, beq_iff_eq, bne_iff_ne, bne_eq_false_iff_eq, ne_eq, beq_eq_false_iff_ne, Bool.not_eq_true, Bool.not_eq_false, Int.not_lt, Int.not_le] at hs30
                    first
                    | exact absurd hs30 (by decide)
                    | skip
                      first | refine J.skip rfl rfl rfl rfl rfl ?_ | refine J.skipU rfl rfl rfl rfl ?_ | (refine J.unguard rfl rfl rfl ?_; refine J.fieldAddr Ty.fd33_4 rfl rfl ?_)
                      first | refine J.skip rfl rfl rfl rfl rfl ?_ | refine J.skipU rfl rfl rfl rfl ?_ | (refine J.unguard rfl rfl rfl ?_; refine J.loadO Ty.a3 rfl (by repeat first | exact .head _ | apply List.Mem.tail | apply List.mem_append_right) (by exact rfl) rfl ?_)
                      first | refine J.skip rfl rfl rfl rfl rfl ?_ | refine J.skipU rfl rfl rfl rfl ?_ | (refine J.unguard rfl rfl rfl ?_; refine J.bin rfl rfl rfl rfl ?_)
                      (first | refine J.pickT rfl rfl rfl ?_ | refine J.pickF rfl rfl rfl ?_)
                      refine J.assign rfl rfl ?_
                      refine J.nil ?_
                      refine JX.thenN (hK1 _ _ ?_)
                      refine JC.ret ?_
                      refine JX.ret1 rfl rfl (fun w hw => ?_)
                      refine ⟨ret_bool ?_, (hw.drop (List.nil_sublist _)).below⟩
                      first | (simp_all [rightP, okTN]; done) | (simp [rightP, okTN] at *; omega) | (simp_all [rightP, okTN]; omega)
              · skip
                try simp only [decide_eq_true_eq, decide_eq_false_iff_not, beq_iff_eq, bne_iff_ne, bne_eq_false_iff_eq, ne_eq, beq_eq_false_iff_ne, Bool.not_eq_true, Bool.not_eq_false, Int.not_lt, Int.not_le] at hs25
                first
                | exact absurd hs25 (by decide)
                | skip
                  first | refine J.skip rfl rfl rfl rfl rfl ?_ | refine J.skipU rfl rfl rfl rfl ?_ | (refine J.unguard rfl rfl rfl ?_; refine J.fieldAddr Ty.fd33_4 rfl rfl ?_)
                  first | refine J.skip rfl rfl rfl rfl rfl ?_ | refine J.skipU rfl rfl rfl rfl ?_ | (refine J.unguard rfl rfl rfl ?_; refine J.loadO Ty.a3 rfl (by repeat first | exact .head _ | apply List.Mem.tail | apply List.mem_append_right) (by exact rfl) rfl ?_)
                  first | refine J.skip rfl rfl rfl rfl rfl ?_ | refine J.skipU rfl rfl rfl rfl ?_ | (refine J.unguard rfl rfl rfl ?_; refine J.bin rfl rfl rfl rfl ?_)
                  (first | refine J.pickT rfl rfl rfl ?_ | refine J.pickF rfl rfl rfl ?_)
                  refine J.move rfl rfl ?_
                  first | refine J.skip rfl rfl rfl rfl rfl ?_ | refine J.skipU rfl rfl rfl rfl ?_ | (refine J.unguard rfl rfl rfl ?_; refine J.fieldAddr Ty.fd33_4 rfl rfl ?_)
                  first | refine J.skip rfl rfl rfl rfl rfl ?_ | refine J.skipU rfl rfl rfl rfl ?_ | (refine J.unguard rfl rfl rfl ?_; refine J.loadO Ty.a3 rfl (by repeat first | exact .head _ | apply List.Mem.tail | apply List.mem_append_right) (by exact rfl) rfl ?_)
                  first | refine J.skip rfl rfl rfl rfl rfl ?_ | refine J.skipU rfl rfl rfl rfl ?_ | (refine J.unguard rfl rfl rfl ?_; refine J.bin rfl rfl rfl rfl ?_)
                  (first | refine J.pickT rfl rfl rfl ?_ | refine J.pickF rfl rfl rfl ?_)
                  refine J.assign rfl rfl ?_
                  refine J.nil ?_
                  refine JX.thenN (hK1 _ _ ?_)
                  refine JC.ret ?_
                  refine JX.ret1 rfl rfl (fun w hw => ?_)
                  refine ⟨ret_bool ?_, (hw.drop (List.nil_sublist _)).below⟩
                  first | (simp_all [rightP, okTN]; done) | (simp [rightP, okTN] at *; omega) | (simp_all [rightP, okTN]; omega)
          · skip
            try simp only [decide_eq_true_eq, decide_eq_false_iff_not, beq_iff_eq, bne_iff_ne, bne_eq_false_iff_eq, ne_eq, beq_eq_false_iff_ne, Bool.not_eq_true, Bool.not_eq_false, Int.not_lt, Int.not_le] at hs20
            first
            | exact absurd hs20 (by decide)
            | skip
              first | refine J.skip rfl rfl rfl rfl rfl ?_ | refine J.skipU rfl rfl rfl rfl ?_ | (refine J.unguard rfl rfl rfl ?_; refine J.fieldAddr Ty.fd33_3 rfl rfl ?_)
              first | refine J.skip rfl rfl rfl rfl rfl ?_ | refine J.skipU rfl rfl rfl rfl ?_ | (refine J.unguard rfl rfl rfl ?_; refine J.loadO Ty.a3 rfl (by repeat first | exact .head _ | apply List.Mem.tail | apply List.mem_append_right) (by exact rfl) rfl ?_)
              first | refine J.skip rfl rfl rfl rfl rfl ?_ | refine J.skipU rfl rfl rfl rfl ?_ | (refine J.unguard rfl rfl rfl ?_; refine J.bin rfl rfl rfl rfl ?_)
              (first | refine J.pickT rfl rfl rfl ?_ | refine J.pickF rfl rfl rfl ?_)
              refine J.move rfl rfl ?_
              first | refine J.skip rfl rfl rfl rfl rfl ?_ | refine J.skipU rfl rfl rfl rfl ?_ | (refine J.unguard rfl rfl rfl ?_; refine J.fieldAddr Ty.fd33_4 rfl rfl ?_)
              first | refine J.skip rfl rfl rfl rfl rfl ?_ | refine J.skipU rfl rfl rfl rfl ?_ | (refine J.unguard rfl rfl rfl ?_; refine J.loadO Ty.a3 rfl (by repeat first | exact .head _ | apply List.Mem.tail | apply List.mem_append_right) (by exact rfl) rfl ?_)
              first | refine J.skip rfl rfl rfl rfl rfl ?_ | refine J.skipU rfl rfl rfl rfl ?_ | (refine J.unguard rfl rfl rfl ?_; refine J.bin rfl rfl rfl rfl ?_)
              (first | refine J.pickT rfl rfl rfl ?_ | refine J.pickF rfl rfl rfl ?_)
              refine J.move rfl rfl ?_
              first | refine J.skip rfl rfl rfl rfl rfl ?_ | refine J.skipU rfl rfl rfl rfl ?_ | (refine J.unguard rfl rfl rfl ?_; refine J.fieldAddr Ty.fd33_4 rfl rfl ?_)
              first | refine J.skip rfl rfl rfl rfl rfl ?_ | refine J.skipU rfl rfl rfl rfl ?_ | (refine J.unguard rfl rfl rfl ?_; refine J.loadO Ty.a3 rfl (by repeat first | exact .head _ | apply List.Mem.tail | apply List.mem_append_right) (by exact rfl) rfl ?_)
              first | refine J.skip rfl rfl rfl rfl rfl ?_ | refine J.skipU rfl rfl rfl rfl ?_ | (refine J.unguard rfl rfl rfl ?_; refine J.bin rfl rfl rfl rfl ?_)
              (first | refine J.pickT rfl rfl rfl ?_ | refine J.pickF rfl rfl rfl ?_)
              refine J.assign rfl rfl ?_
              refine J.nil ?_
              refine JX.thenN (hK1 _ _ ?_)
              refine JC.ret ?_
              refine JX.ret1 rfl rfl (fun w hw => ?_)
              refine ⟨ret_bool ?_, (hw.drop (List.nil_sublist _)).below⟩
              first | (simp_all [rightP, okTN]; done) | (simp [rightP, okTN] at *; omega) | (simp_all [rightP, okTN]; omega)
      · skip
        try simp only [decide_eq_true_eq, decide_eq_false_iff_not, beq_iff_eq, bne_iff_ne, bne_eq_false_iff_eq, ne_eq, beq_eq_false_iff_ne, Bool.not_eq_true, Bool.not_eq_false, Int.not_lt, Int.not_le] at hs15
        first
        | exact absurd hs15 (by decide)
        | skip
          first | refine J.skip rfl rfl rfl rfl rfl ?_ | refine J.skipU rfl rfl rfl rfl ?_ | (refine J.unguard rfl rfl rfl ?_; refine J.fieldAddr Ty.fd33_3 rfl rfl ?_)
          first | refine J.skip rfl rfl rfl rfl rfl ?_ | refine J.skipU rfl rfl rfl rfl ?_ | (refine J.unguard rfl rfl rfl ?_; refine J.loadO Ty.a3 rfl (by repeat first | exact .head _ | apply List.Mem.tail | apply List.mem_append_right) (by exact rfl) rfl ?_)
          first | refine J.skip rfl rfl rfl rfl rfl ?_ | refine J.skipU rfl rfl rfl rfl ?_ | (refine J.unguard rfl rfl rfl ?_; refine J.bin rfl rfl rfl rfl ?_)
          (first | refine J.pickT rfl rfl rfl ?_ | refine J.pickF rfl rfl rfl ?_)
          refine J.move rfl rfl ?_
          first | refine J.skip rfl rfl rfl rfl rfl ?_ | refine J.skipU rfl rfl rfl rfl ?_ | (refine J.unguard rfl rfl rfl ?_; refine J.fieldAddr Ty.fd33_3 rfl rfl ?_)
          first | refine J.skip rfl rfl rfl rfl rfl ?_ | refine J.skipU rfl rfl rfl rfl ?_ | (refine J.unguard rfl rfl rfl ?_; refine J.loadO Ty.a3 rfl (by repeat first | exact .head _ | apply List.Mem.tail | apply List.mem_append_right) (by exact rfl) rfl ?_)
          first | refine J.skip rfl rfl rfl rfl rfl ?_ | refine J.skipU rfl rfl rfl rfl ?_ | (refine J.unguard rfl rfl rfl ?_; refine J.bin rfl rfl rfl rfl ?_)
          (first | refine J.pickT rfl rfl rfl ?_ | refine J.pickF rfl rfl rfl ?_)
          refine J.move rfl rfl ?_
          first | refine J.skip rfl rfl rfl rfl rfl ?_ | refine J.skipU rfl rfl rfl rfl ?_ | (refine J.unguard rfl rfl rfl ?_; refine J.fieldAddr Ty.fd33_4 rfl rfl ?_)
          first | refine J.skip rfl rfl rfl rfl rfl ?_ | refine J.skipU rfl rfl rfl rfl ?_ | (refine J.unguard rfl rfl rfl ?_; refine J.loadO Ty.a3 rfl (by repeat first | exact .head _ | apply List.Mem.tail | apply List.mem_append_right) (by exact rfl) rfl ?_)
          first | refine J.skip rfl rfl rfl rfl rfl ?_ | refine J.skipU rfl rfl rfl rfl ?_ | (refine J.unguard rfl rfl rfl ?_; refine J.bin rfl rfl rfl rfl ?_)
          (first | refine J.pickT rfl rfl rfl ?_ | refine J.pickF rfl rfl rfl ?_)
          refine J.move rfl rfl ?_
          first | refine J.skip rfl rfl rfl rfl rfl ?_ | refine J.skipU rfl rfl rfl rfl ?_ | (refine J.unguard rfl rfl rfl ?_; refine J.fieldAddr Ty.fd33_4 rfl rfl ?_)
          first | refine J.skip rfl rfl rfl rfl rfl ?_ | refine J.skipU rfl rfl rfl rfl ?_ | (refine J.unguard rfl rfl rfl ?_; refine J.loadO Ty.a3 rfl (by repeat first | exact .head _ | apply List.Mem.tail | apply List.mem_append_right) (by exact rfl) rfl ?_)
          first | refine J.skip rfl rfl rfl rfl rfl ?_ | refine J.skipU rfl rfl rfl rfl ?_ | (refine J.unguard rfl rfl rfl ?_; refine J.bin rfl rfl rfl rfl ?_)
          (first | refine J.pickT rfl rfl rfl ?_ | refine J.pickF rfl rfl rfl ?_)
          refine J.assign rfl rfl ?_
          refine J.nil ?_
          refine JX.thenN (hK1 _ _ ?_)
          refine JC.ret ?_
          refine JX.ret1 rfl rfl (fun w hw => ?_)
          refine ⟨ret_bool ?_, (hw.drop (List.nil_sublist _)).below⟩
          first | (simp_all [rightP, okTN]; done) | (simp [rightP, okTN] at *; omega) | (simp_all [rightP, okTN]; omega)
  · skip
    try simp only [decide_eq_true_eq, decide_eq_false_iff_not, beq_iff_eq, bne_iff_ne, bne_eq_false_iff_eq, ne_eq, beq_eq_false_iff_ne, Bool.not_eq_true, Bool.not_eq_false, Int.not_lt, Int.not_le] at hs8
    first
    | exact absurd hs8 (by decide)
    | skip
      first | refine J.skip rfl rfl rfl rfl rfl ?_ | refine J.skipU rfl rfl rfl rfl ?_ | (refine J.unguard rfl rfl rfl ?_; refine J.fieldAddr Ty.fd33_3 rfl rfl ?_)
      first | refine J.skip rfl rfl rfl rfl rfl ?_ | refine J.skipU rfl rfl rfl rfl ?_ | (refine J.unguard rfl rfl rfl ?_; refine J.loadO Ty.a3 rfl (by repeat first | exact .head _ | apply List.Mem.tail | apply List.mem_append_right) (by exact rfl) rfl ?_)
      first | refine J.skip rfl rfl rfl rfl rfl ?_ | refine J.skipU rfl rfl rfl rfl ?_ | (refine J.unguard rfl rfl rfl ?_; refine J.fieldAddr Ty.fd33_4 rfl rfl ?_)
      first | refine J.skip rfl rfl rfl rfl rfl ?_ | refine J.skipU rfl rfl rfl rfl ?_ | (refine J.unguard rfl rfl rfl ?_; refine J.loadO Ty.a3 rfl (by repeat first | exact .head _ | apply List.Mem.tail | apply List.mem_append_right) (by exact rfl) rfl ?_)
      first | refine J.skip rfl rfl rfl rfl rfl ?_ | refine J.skipU rfl rfl rfl rfl ?_ | (refine J.unguard rfl rfl rfl ?_; refine J.bin rfl rfl rfl rfl ?_)
      (first | refine J.pickT rfl rfl rfl ?_ | refine J.pickF rfl rfl rfl ?_)
      refine J.move rfl rfl ?_
      first | refine J.skip rfl rfl rfl rfl rfl ?_ | refine J.skipU rfl rfl rfl rfl ?_ | (refine J.unguard rfl rfl rfl ?_; refine J.fieldAddr Ty.fd33_3 rfl rfl ?_)
      first | refine J.skip rfl rfl rfl rfl rfl ?_ | refine J.skipU rfl rfl rfl rfl ?_ | (refine J.unguard rfl rfl rfl ?_; refine J.loadO Ty.a3 rfl (by repeat first | exact .head _ | apply List.Mem.tail | apply List.mem_append_right) (by exact rfl) rfl ?_)
      first | refine J.skip rfl rfl rfl rfl rfl ?_ | refine J.skipU rfl rfl rfl rfl ?_ | (refine J.unguard rfl rfl rfl ?_; refine J.bin rfl rfl rfl rfl ?_)
      (first | refine J.pickT rfl rfl rfl ?_ | refine J.pickF rfl rfl rfl ?_)
      refine J.move rfl rfl ?_
      first | refine J.skip rfl rfl rfl rfl rfl ?_ | refine J.skipU rfl rfl rfl rfl ?_ | (refine J.unguard rfl rfl rfl ?_; refine J.fieldAddr Ty.fd33_3 rfl rfl ?_)
      first | refine J.skip rfl rfl rfl rfl rfl ?_ | refine J.skipU rfl rfl rfl rfl ?_ | (refine J.unguard rfl rfl rfl ?_; refine J.loadO Ty.a3 rfl (by repeat first | exact .head _ | apply List.Mem.tail | apply List.mem_append_right) (by exact rfl) rfl ?_)
      first | refine J.skip rfl rfl rfl rfl rfl ?_ | refine J.skipU rfl rfl rfl rfl ?_ | (refine J.unguard rfl rfl rfl ?_; refine J.bin rfl rfl rfl rfl ?_)
      (first | refine J.pickT rfl rfl rfl ?_ | refine J.pickF rfl rfl rfl ?_)
      refine J.move rfl rfl ?_
      first | refine J.skip rfl rfl rfl rfl rfl ?_ | refine J.skipU rfl rfl rfl rfl ?_ | (refine J.unguard rfl rfl rfl ?_; refine J.fieldAddr Ty.fd33_4 rfl rfl ?_)
      first | refine J.skip rfl rfl rfl rfl rfl ?_ | refine J.skipU rfl rfl rfl rfl ?_ | (refine J.unguard rfl rfl rfl ?_; refine J.loadO Ty.a3 rfl (by repeat first | exact .head _ | apply List.Mem.tail | apply List.mem_append_right) (by exact rfl) rfl ?_)
      first | refine J.skip rfl rfl rfl rfl rfl ?_ | refine J.skipU rfl rfl rfl rfl ?_ | (refine J.unguard rfl rfl rfl ?_; refine J.bin rfl rfl rfl rfl ?_)
      (first | refine J.pickT rfl rfl rfl ?_ | refine J.pickF rfl rfl rfl ?_)
      refine J.move rfl rfl ?_
      first | refine J.skip rfl rfl rfl rfl rfl ?_ | refine J.skipU rfl rfl rfl rfl ?_ | (refine J.unguard rfl rfl rfl ?_; refine J.fieldAddr Ty.fd33_4 rfl rfl ?_)
      first | refine J.skip rfl rfl rfl rfl rfl ?_ | refine J.skipU rfl rfl rfl rfl ?_ | (refine J.unguard rfl rfl rfl ?_; refine J.loadO Ty.a3 rfl (by repeat first | exact .head _ | apply List.Mem.tail | apply List.mem_append_right) (by exact rfl) rfl ?_)
      first | refine J.skip rfl rfl rfl rfl rfl ?_ | refine J.skipU rfl rfl rfl rfl ?_ | (refine J.unguard rfl rfl rfl ?_; refine J.bin rfl rfl rfl rfl ?_)
      (first | refine J.pickT rfl rfl rfl ?_ | refine J.pickF rfl rfl rfl ?_)
      refine J.assign rfl rfl ?_
      refine J.nil ?_
      refine JX.thenN (hK1 _ _ ?_)
      refine JC.ret ?_
      refine JX.ret1 rfl rfl (fun w hw => ?_)
      refine ⟨ret_bool ?_, (hw.drop (List.nil_sublist _)).below⟩
      first | (simp_all [rightP, okTN]; done) | (simp [rightP, okTN] at *; omega) | (simp_all [rightP, okTN]; omega)

theorem take_snocE {R : List EV} {i : Nat} {x : EV} (h : R[i]? = some x) : R.take (i + 1) = R.take i ++ [x] := by
  have hi := (List.getElem?_eq_some_iff.1 h).1
  rw [take_add_one hi]
  rw [List.getElem?_eq_getElem hi] at h
  cases h
  rfl
theorem fE_take (xs : List EV) (n : Nat) : fE (xs.take n) = (fE xs).take (n * 51) := by
  have h : fE xs = fE (xs.take n) ++ fE (xs.drop n) := by rw [← fE_append, List.take_append_drop]
  have hl := fE_length (xs.take n)
  rw [List.length_take] at hl
  rcases Nat.le_total n xs.length with hn | hn
  · rw [h, List.take_left' (by rw [hl, Nat.min_eq_left hn])]
  · rw [List.take_of_length_le hn, List.take_of_length_le (by rw [fE_length]; omega)]
theorem fE_drop (xs : List EV) (n : Nat) : fE (xs.drop n) = (fE xs).drop (n * 51) := by
  have h : fE xs = fE (xs.take n) ++ fE (xs.drop n) := by rw [← fE_append, List.take_append_drop]
  have hl := fE_length (xs.take n)
  rw [List.length_take] at hl
  rcases Nat.le_total n xs.length with hn | hn
  · rw [h, List.drop_left' (by rw [hl, Nat.min_eq_left hn])]
  · rw [List.drop_of_length_le hn, List.drop_of_length_le (by rw [fE_length]; omega)]; rfl

set_option maxHeartbeats 1000000 in
theorem radd_spec (rt : Nat) (v : Value) (most : Int) (R : List EV) (lp : List (Nat × Obj)) (w : World) (hw0 : Own w ((rt, rtabO v most) :: lp)) (hv : Vec 33 51 v R.length (fE R) lp) (hR : ∀ x, x ∈ R → okE x) (hrl : R.length ≤ 549755813888) (x : EV) (hx : okE x) :
    Calls Tryz.prog 26 [.pointer (some ⟨rt, 0, none⟩), .agg (cE x).toArray].toArray w fun r w' => ∃ y : Value × List (Nat × Obj), r = .returned (.int .i64 (radd R most x).1) ∧ Vec 33 51 y.1 (radd R most x).2.length (fE (radd R most x).2) y.2 ∧ St w (rt :: lp.map (·.1)) ((rt, rtabO y.1 most) :: y.2) w' := by
  obtain ⟨ar, cr, rfl, hcr⟩ := hv.form
  refine calls_of_J (args := [.pointer (some ⟨rt, 0, none⟩), .agg (cE x).toArray]) (e := [(0, .pointer (some ⟨rt, 0, none⟩)), (1, .agg (cE x).toArray)]) Tryz.func26 rfl rfl ⟨rfl, rfl, trivial⟩ (hw0.st) ?_
  refine JC.seq (fun K0 hK0 => ?_)
  refine JC.region ?_
  refine J.box rfl rfl rfl (fun b3 => ?_)
  refine J.assign rfl rfl ?_
  refine J.nil ?_
  refine JX.thenN (hK0 _ _ ?_)
  refine JC.seq (fun K1 hK1 => ?_)
  refine JC.seq (fun K2 hK2 => ?_)
  refine JC.region ?_
  refine J.loadOA (vs := cE x) Ty.a33 Ty.s33 rfl (by repeat first | exact .head _ | apply List.Mem.tail | apply List.mem_append_right) (by exact rfl) rfl rfl ?_
  refine J.callB (v := .bool (decide (rightP x))) (fun w1 w2 hw hb => hw.step hb) Ty.bd48 rfl rfl (fun w1 hw => rright_spec x w1) ?_
  refine J.not rfl rfl ?_
  refine J.nil ?_
  refine JX.thenN (hK2 _ _ ?_)
  refine JC.cond rfl (fun h0 => ?_) (fun h0 => ?_)
  · skip
    have hri : ¬ rightP x := by simpa using h0
    refine JC.seq (fun K3 hK3 => ?_)
    refine JC.region ?_
    refine J.assign rfl rfl ?_
    refine J.nil ?_
    refine JX.thenN (hK3 _ _ ?_)
    refine JC.ret ?_
    refine JX.thenR ?_
    refine JX.ret1 rfl rfl (fun w hw => ?_)
    have hra : radd R most x = (1, R) := by simp [radd, *]
    exact ⟨(.slice ar R.length cr, lp), by rw [hra], by rw [hra]; exact hv, hw.drop (.cons _ (List.Sublist.refl _))⟩
  · skip
    have hri : rightP x := by simpa using h0
    refine JC.skip ?_
    refine JX.thenN (hK1 _ _ ?_)
    refine JC.seq (fun K4 hK4 => ?_)
    refine JC.seq (fun K5 hK5 => ?_)
    refine JC.region ?_
    refine J.move rfl rfl ?_
    refine J.fieldAddr Ty.fd33_0 rfl rfl ?_
    refine J.loadOA (vs := cP x.p) Ty.a31 Ty.s31 rfl (by repeat first | exact .head _ | apply List.Mem.tail | apply List.mem_append_right) (by exact rfl) rfl rfl ?_
    refine J.callB (v := .tuple #[.agg (cE ((tget R x.p).getD zE)).toArray, .bool (tget R x.p).isSome]) (fun w1 w2 hw hb => hw.step hb) Ty.bd49 rfl rfl (fun w1 hw => rget_spec rt _ most R w1 (hw.own _ (.tail _ (.head _))) (vec_rowM hv hw (fun q hq => by simp [hq])) hR (by omega) x.p hx.1) ?_
    refine J.move rfl rfl ?_
    refine J.extract rfl rfl rfl ?_
    refine J.extract rfl rfl rfl ?_
    refine J.alloc Ty.zE_ rfl rfl (fun b5 => ?_)
    refine J.storeW (cs := cE zE) (vs := cE ((tget R x.p).getD zE)) Ty.s33 rfl rfl rfl rfl rfl (one_cE _) .here ?_
    refine J.assign rfl rfl ?_
    refine J.nil ?_
    refine JX.thenN (hK5 _ _ ?_)
    refine JC.seq (fun K6 hK6 => ?_)
    refine JC.region ?_
    refine J.move rfl rfl ?_
    refine J.nil ?_
    refine JX.thenN (hK6 _ _ ?_)
    refine JC.cond rfl (fun h1 => ?_) (fun h1 => ?_)
    · skip
      have hsome : (tget R x.p).isSome = true := h1
      refine JC.seq (fun K7 hK7 => ?_)
      refine JC.region ?_
      refine J.assign rfl rfl ?_
      refine J.nil ?_
      refine JX.thenN (hK7 _ _ ?_)
      refine JC.ret ?_
      refine JX.thenR ?_
      refine JX.ret1 rfl rfl (fun w hw => ?_)
      have hra : radd R most x = (7, R) := by simp [radd, *]
      exact ⟨(.slice ar R.length cr, lp), by rw [hra], by rw [hra]; exact hv, hw.drop (.cons _ (.cons _ (List.Sublist.refl _)))⟩
    · skip
      have hsome : (tget R x.p).isSome = false := h1
      refine JC.skip ?_
      refine JX.thenN (hK4 _ _ ?_)
      refine JC.seq (fun K8 hK8 => ?_)
      refine JC.seq (fun K9 hK9 => ?_)
      apply JC.drawL 10 [Eqv (.pointer (some ⟨rt, 0, none⟩)), Eqv (.pointer (some ⟨rt, 0, none⟩)), Eqv (.pointer (some ⟨rt, 0 + 0, none⟩)), Eqv (.slice ar R.length cr), Eqv (.int .i64 ((R.length : Nat) : Int)), Eqv (.pointer (some ⟨rt, 0, none⟩)), Eqv (.pointer (some ⟨rt, 0, none⟩)), Eqv (.pointer (some ⟨rt, 0 + 1, none⟩)), Eqv (.int .i64 most), Eqv (.bool (decide (((R.length : Nat) : Int) ≥ most)))] Ty.mixed rfl rfl rfl (by kernel_rfl) rfl rfl (fun w w' hw hb => hw.step hb) ⟨fun _ _ _ h _ => h, fun _ _ _ h _ => h, fun _ _ _ h _ => h, fun _ _ _ h _ => h, fun _ _ _ h _ => h, fun _ _ _ h _ => h, fun _ _ _ h _ => h, fun _ _ _ h _ => h, fun _ _ _ h _ => h, fun _ _ _ h _ => h, trivial⟩ ?hstep ?htail
      case hstep =>
        refine ⟨fun wi => ?_, fun wi => ?_, fun wi => ?_, fun wi => ?_, fun wi => ?_, fun wi => ?_, fun wi => ?_, fun wi => ?_, fun wi => ?_, fun wi => ?_, trivial⟩
        · skip
          refine Fin.nil ?_
          refine J.move rfl rfl ?_
          exact J.finP rfl
        · skip
          refine Fin.consE rfl (Fin.nil ?_)
          refine J.nilCheck rfl rfl ?_
          exact J.finP rfl
        · skip
          refine Fin.consE rfl (Fin.nil ?_)
          refine J.fieldAddr Ty.fd51_0 rfl rfl ?_
          exact J.finP rfl
        · skip
          refine Fin.consE rfl (Fin.nil ?_)
          refine J.load1 (v := .slice ar R.length cr) Ty.a22 rfl (fun w1 hw => by rw [cell_of (hw.2.own _ (.tail _ (.tail _ (.head _))))]; rfl) rfl ?_
          exact J.finP rfl
        · skip
          refine Fin.consE rfl (Fin.nil ?_)
          refine J.lenS rfl Ty.u22 rfl rfl ?_
          exact J.finP rfl
        · skip
          refine Fin.nil ?_
          refine J.move rfl rfl ?_
          exact J.finP rfl
        · skip
          refine Fin.consE rfl (Fin.nil ?_)
          refine J.nilCheck rfl rfl ?_
          exact J.finP rfl
        · skip
          refine Fin.consE rfl (Fin.nil ?_)
          refine J.fieldAddr Ty.fd51_1 rfl rfl ?_
          exact J.finP rfl
        · skip
          refine Fin.consE rfl (Fin.nil ?_)
          refine J.load1 (v := .int .i64 most) Ty.a3 rfl (fun w1 hw => by rw [cell_of (hw.2.own _ (.tail _ (.tail _ (.head _))))]; rfl) rfl ?_
          exact J.finP rfl
        · skip
          refine Fin.consE rfl (Fin.consE rfl (Fin.nil ?_))
          refine J.bin rfl rfl rfl rfl ?_
          exact J.finP rfl
      case htail =>
        refine Fin.consE rfl (Fin.consE rfl (Fin.consE rfl (Fin.consE rfl (Fin.consE rfl (Fin.consE rfl (Fin.consE rfl (Fin.consE rfl (Fin.consE rfl (Fin.consE rfl (Fin.nil ?_))))))))))
        refine J.nil ?_
        refine JX.thenN (hK9 _ _ ?_)
        refine JC.cond rfl (fun h2 => ?_) (fun h2 => ?_)
        · skip
          have hful : most ≤ (R.length : Int) := by simp at h2; omega
          refine JC.seq (fun K10 hK10 => ?_)
          refine JC.region ?_
          refine J.assign rfl rfl ?_
          refine J.nil ?_
          refine JX.thenN (hK10 _ _ ?_)
          refine JC.ret ?_
          refine JX.thenR ?_
          refine JX.ret1 rfl rfl (fun w hw => ?_)
          have hra : radd R most x = (5, R) := by simp [radd, *]
          exact ⟨(.slice ar R.length cr, lp), by rw [hra], by rw [hra]; exact hv, hw.drop (.cons _ (.cons _ (List.Sublist.refl _)))⟩
        · skip
          have hful : ¬ most ≤ (R.length : Int) := by simp at h2; omega
          refine JC.skip ?_
          refine JX.thenN (hK8 _ _ ?_)
          refine JC.seq (fun K11 hK11 => ?_)
          refine JC.region ?_
          refine J.assign rfl rfl ?_
          refine J.nil ?_
          refine JX.thenN (hK11 _ _ ?_)
          refine JC.seq (fun K12 hK12 => ?_)
          refine JC.region ?_
          refine J.assign rfl rfl ?_
          refine J.nil ?_
          refine JX.thenN (hK12 _ _ ?_)
          refine JC.seq (fun K13 hK13 => ?_)
          refine JC.block ?_
          refine JC.conseq (JC.cov (f := (fun st => [(0, .pointer (some ⟨rt, 0, none⟩)), (3, .pointer (some ⟨b3, 0, none⟩)), (7, st.2.1), (8, .int .i64 ((st.1 : Nat) : Int))]) ((0, .slice none 0 0, []) : Nat × Value × List (Nat × Obj))) ⟨rfl, rfl, rfl, rfl, trivial⟩ (JC.loop (α := Nat × Value × List (Nat × Obj)) (fun st => [(0, .pointer (some ⟨rt, 0, none⟩)), (3, .pointer (some ⟨b3, 0, none⟩)), (7, st.2.1), (8, .int .i64 ((st.1 : Nat) : Int))]) (fun st w' => ((st.1 ≤ R.length ∧ ∀ j y, j < st.1 → R[j]? = some y → ltP y.p x.p = true) ∧ Vec 33 51 st.2.1 ((R.take st.1)).length (fE (R.take st.1)) st.2.2) ∧ St w (rt :: lp.map (·.1)) (st.2.2 ++ ((b5, cb (cE ((tget R x.p).getD zE)) 33) :: (b3, cb (cE x) 33) :: (rt, rtabO (.slice ar R.length cr) most) :: lp)) w') (fun st => R.length - st.1) ((0, .slice none 0 0, []) : Nat × Value × List (Nat × Obj)) (fun st => ?_))) (fun w hw => ⟨⟨⟨Nat.zero_le _, fun j y hj => by simp only at hj; omega⟩, Vec.nil _ _⟩, hw⟩)
          obtain ⟨i, vo, lo⟩ := st
          refine JC.pr (fun hx1 => ?_)
          obtain ⟨⟨hi, hbef⟩, hvo⟩ := hx1
          simp only at hi hbef hvo ⊢
          refine JC.seq (fun K14 hK14 => ?_)
          refine JC.seq (fun K15 hK15 => ?_)
          by_cases hlt : i < R.length
          · skip
            obtain ⟨q1, sp1, rfl, hlp, hsp, _⟩ := vec_pos hv (by omega)
            obtain ⟨xe, hxe⟩ : ∃ x, R[i]? = some x := ⟨_, List.getElem?_eq_getElem hlt⟩
            have hxo := hR xe (List.mem_of_getElem? hxe)
            apply JC.drawL 20 [Eqv (.int .i64 ((i : Nat) : Int)), Eqv (.pointer (some ⟨rt, 0, none⟩)), Eqv (.pointer (some ⟨rt, 0, none⟩)), Eqv (.pointer (some ⟨rt, 0 + 0, none⟩)), Eqv (.slice (some ⟨q1, 0, none⟩) R.length cr), Eqv (.int .i64 ((R.length : Nat) : Int)), Eqv (.bool true), Eqv (.bool true), Eqv (.pointer (some ⟨rt, 0, none⟩)), Eqv (.pointer (some ⟨rt, 0, none⟩)), Eqv (.pointer (some ⟨rt, 0 + 0, none⟩)), Eqv (.slice (some ⟨q1, 0, none⟩) R.length cr), Eqv (.int .i64 ((i : Nat) : Int)), Eqv (.pointer (some ⟨q1, 0 + (i : Int).toNat * 51, none⟩)), Eqv (.pointer (some ⟨q1, 0 + (i : Int).toNat * 51 + 0, none⟩)), Eqv (.agg (cP xe.p).toArray), Eqv (.pointer (some ⟨b3, 0 + 0, none⟩)), Eqv (.agg (cP x.p).toArray), Eqv (.bool (ltP xe.p x.p)), Eqv (.bool (ltP xe.p x.p))] Ty.mixed rfl rfl rfl (by kernel_rfl) rfl rfl (fun w w' hw hb => hw.step hb) ⟨fun _ _ _ h _ => h, fun _ _ _ h _ => h, fun _ _ _ h _ => h, fun _ _ _ h _ => h, fun _ _ _ h _ => h, fun _ _ _ h _ => h, fun _ _ _ h _ => h, fun _ _ _ h _ => h, fun _ _ _ h _ => h, fun _ _ _ h _ => h, fun _ _ _ h _ => h, fun _ _ _ h _ => h, fun _ _ _ h _ => h, fun _ _ _ h _ => h, fun _ _ _ h _ => h, fun _ _ _ h _ => h, fun _ _ _ h _ => h, fun _ _ _ h _ => h, fun _ _ _ h _ => h, fun _ _ _ h _ => h, trivial⟩ ?hstep ?htail
            case hstep =>
              refine ⟨fun wi => ?_, fun wi => ?_, fun wi => ?_, fun wi => ?_, fun wi => ?_, fun wi => ?_, fun wi => ?_, fun wi => ?_, fun wi => ?_, fun wi => ?_, fun wi => ?_, fun wi => ?_, fun wi => ?_, fun wi => ?_, fun wi => ?_, fun wi => ?_, fun wi => ?_, fun wi => ?_, fun wi => ?_, fun wi => ?_, trivial⟩
              · skip
                refine Fin.nil ?_
                refine J.move rfl rfl ?_
                exact J.finP rfl
              · skip
                refine Fin.nil ?_
                refine J.move rfl rfl ?_
                exact J.finP rfl
              · skip
                refine Fin.consE rfl (Fin.nil ?_)
                refine J.nilCheck rfl rfl ?_
                exact J.finP rfl
              · skip
                refine Fin.consE rfl (Fin.nil ?_)
                refine J.fieldAddr Ty.fd51_0 rfl rfl ?_
                exact J.finP rfl
              · skip
                refine Fin.consE rfl (Fin.nil ?_)
                refine J.load1 (v := .slice (some ⟨q1, 0, none⟩) R.length cr) Ty.a22 rfl (fun w1 hw => by rw [cell_of (hw.2.own _ (List.mem_append_right _ (.tail _ (.tail _ (.head _)))))]; rfl) rfl ?_
                exact J.finP rfl
              · skip
                refine Fin.consE rfl (Fin.nil ?_)
                refine J.lenS rfl Ty.u22 rfl rfl ?_
                exact J.finP rfl
              · skip
                refine Fin.consE rfl (Fin.consE rfl (Fin.nil ?_))
                refine J.bin rfl rfl rfl rfl ?_
                refine J.name 36 rfl (show _ = Value.bool true by simp; omega) ?_
                exact J.finP rfl
              · skip
                refine Fin.consE rfl (Fin.nil ?_)
                refine J.move rfl rfl ?_
                exact J.finP rfl
              · skip
                refine Fin.consE rfl (Fin.nil ?_)
                first | refine J.skip rfl rfl rfl rfl rfl ?_ | refine J.skipU rfl rfl rfl rfl ?_ | (refine J.unguard rfl rfl rfl ?_; refine J.move rfl rfl ?_)
                exact J.finP rfl
              · skip
                refine Fin.consE rfl (Fin.consE rfl (Fin.nil ?_))
                first | refine J.skip rfl rfl rfl rfl rfl ?_ | refine J.skipU rfl rfl rfl rfl ?_ | (refine J.unguard rfl rfl rfl ?_; refine J.nilCheck rfl rfl ?_)
                exact J.finP rfl
              · skip
                refine Fin.consE rfl (Fin.consE rfl (Fin.nil ?_))
                first | refine J.skip rfl rfl rfl rfl rfl ?_ | refine J.skipU rfl rfl rfl rfl ?_ | (refine J.unguard rfl rfl rfl ?_; refine J.fieldAddr Ty.fd51_0 rfl rfl ?_)
                exact J.finP rfl
              · skip
                refine Fin.consE rfl (Fin.consE rfl (Fin.nil ?_))
                refine J.unguard rfl rfl rfl ?_
                refine J.load1 (v := .slice (some ⟨q1, 0, none⟩) R.length cr) Ty.a22 rfl (fun w1 hw => by rw [cell_of (hw.2.own _ (List.mem_append_right _ (.tail _ (.tail _ (.head _)))))]; rfl) rfl ?_
                exact J.finP rfl
              · skip
                refine Fin.consE rfl (Fin.nil ?_)
                first | refine J.skip rfl rfl rfl rfl rfl ?_ | refine J.skipU rfl rfl rfl rfl ?_ | (refine J.unguard rfl rfl rfl ?_; refine J.move rfl rfl ?_)
                exact J.finP rfl
              · skip
                refine Fin.consE rfl (Fin.consE rfl (Fin.consE rfl (Fin.nil ?_)))
                refine J.unguard rfl rfl rfl ?_
                refine J.indexAddrS Ty.el22 Ty.s33 rfl rfl (by omega) (by omega) rfl ?_
                exact J.finP rfl
              · skip
                refine Fin.consE rfl (Fin.consE rfl (Fin.nil ?_))
                first | refine J.skip rfl rfl rfl rfl rfl ?_ | refine J.skipU rfl rfl rfl rfl ?_ | (refine J.unguard rfl rfl rfl ?_; refine J.fieldAddr Ty.fd33_0 rfl rfl ?_)
                exact J.finP rfl
              · skip
                refine Fin.consE rfl (Fin.consE rfl (Fin.nil ?_))
                refine J.unguard rfl rfl rfl ?_
                refine J.loadA (vs := cP xe.p) Ty.a31 Ty.s31 rfl rfl (fun w1 hw => cells_sub (rowE_at (vec_rowM hv hw.2 (fun q hq => List.mem_append_right _ (.tail _ (.tail _ (.tail _ hq))))) hxe (by omega)) rfl) rfl ?_
                exact J.finP rfl
              · skip
                refine Fin.consE rfl (Fin.nil ?_)
                first | refine J.skip rfl rfl rfl rfl rfl ?_ | refine J.skipU rfl rfl rfl rfl ?_ | (refine J.unguard rfl rfl rfl ?_; refine J.fieldAddr Ty.fd33_0 rfl rfl ?_)
                exact J.finP rfl
              · skip
                refine Fin.consE rfl (Fin.consE rfl (Fin.nil ?_))
                refine J.unguard rfl rfl rfl ?_
                refine J.loadA (vs := cP x.p) Ty.a31 Ty.s31 rfl rfl (fun w1 hw => cells_sub (Cells.of_block (hw.2.own _ (List.mem_append_right _ (.tail _ (.head _)))) rfl : Cells w1 b3 0 (cE x)) rfl) rfl ?_
                exact J.finP rfl
              · skip
                refine Fin.consE rfl (Fin.consE rfl (Fin.consE rfl (Fin.consE rfl (Fin.nil ?_))))
                refine J.unguard rfl rfl rfl ?_
                refine J.callD (v := .bool (ltP xe.p x.p)) Ty.bd50 rfl rfl (fun w1 hw => rless12_spec xe.p x.p w1) ?_
                exact J.finQ rfl
              · skip
                refine Fin.consE rfl (Fin.consE rfl (Fin.nil ?_))
                (first | refine J.pickT rfl rfl rfl ?_ | refine J.pickF rfl rfl rfl ?_)
                exact J.finP rfl
            case htail =>
              refine Fin.consE rfl (Fin.consE rfl (Fin.consE rfl (Fin.consE rfl (Fin.consE rfl (Fin.consE rfl (Fin.consE rfl (Fin.consE rfl (Fin.consE rfl (Fin.consE rfl (Fin.consE rfl (Fin.consE rfl (Fin.consE rfl (Fin.consE rfl (Fin.consE rfl (Fin.consE rfl (Fin.consE rfl (Fin.consE rfl (Fin.consE rfl (Fin.consE rfl (Fin.nil ?_))))))))))))))))))))
              refine J.nil ?_
              refine JX.thenN (hK15 _ _ ?_)
              refine JC.cond rfl (fun h3 => ?_) (fun h3 => ?_)
              · skip
                have hless : ltP xe.p x.p = true := h3
                refine JC.skip ?_
                refine JX.thenN (hK14 _ _ ?_)
                refine JC.block ?_
                refine JC.seq (fun K16 hK16 => ?_)
                refine JC.region ?_
                refine J.move rfl rfl ?_
                refine J.move rfl rfl ?_
                refine J.nilCheck rfl rfl ?_
                refine J.fieldAddr Ty.fd51_0 rfl rfl ?_
                refine J.load1 (v := .slice (some ⟨q1, 0, none⟩) R.length cr) Ty.a22 rfl (fun w1 hw => by rw [cell_of (hw.own _ (List.mem_append_right _ (.tail _ (.tail _ (.head _)))))]; rfl) rfl ?_
                refine J.move rfl rfl ?_
                refine J.indexAddrS Ty.el22 Ty.s33 rfl rfl (by omega) (by omega) rfl ?_
                refine J.loadA (vs := cE xe) Ty.a33 Ty.s33 rfl rfl (fun w1 hw => rowE_at (vec_rowM hv hw (fun q hq => List.mem_append_right _ (.tail _ (.tail _ (.tail _ hq))))) hxe (by omega)) rfl ?_
                refine J.buildSl (cs := cE xe) Ty.el22 Ty.s33 Ty.zE_ rfl rfl rfl rfl (by kernel_rfl) rfl rfl (fun b58 => ?_)
                have htl : (R.take i).length ≤ i := by rw [List.length_take]; omega
                refine J.perm (lo ++ ((b58, cb (cE xe) 33) :: (b5, cb (cE ((tget R x.p).getD zE)) 33) :: (b3, cb (cE x) 33) :: (rt, rtabO (.slice (some ⟨q1, 0, none⟩) R.length cr) most) :: lp)) (by (refine perm_cnt (fun _ => ?_)); simp only [cntB_append, cntB_cons, cntB_nil, Nat.add_zero, Nat.zero_add]; try ac_rfl) ?_
                refine J.append (lp := lo) (xs := fE (R.take i)) (ys := cE xe) (k := (R.take i).length) (m := 1) Ty.el22 Ty.s33 Ty.b33 Ty.zE_ rfl (.inl ⟨33, Ty.u22⟩) rfl rfl hvo (fun w3 hw3 => .inl (Row.own hw3 (List.mem_append_right _ (.head _)) rfl (Nat.le_refl _))) rfl (one_cE xe) (by omega) (by omega) rfl (fun vn ln hvn => ?_)
                refine J.assign rfl rfl ?_
                refine J.nil ?_
                refine JX.thenN (hK16 _ _ ?_)
                refine JC.region ?_
                refine J.move rfl rfl ?_
                (first | refine J.addN rfl rfl (by omega) (by omega) rfl ?_ | refine J.bin rfl rfl rfl rfl ?_)
                refine J.assign rfl rfl ?_
                refine J.nil ?_
                refine JX.blockN ?_
                refine JX.thenN ?_
                refine JX.again ((i + 1, vn, ln) : Nat × Value × List (Nat × Obj)) ?_ ?_ ?_
                · simp only; omega
                · exact ⟨rfl, rfl, rfl, rfl, trivial⟩
                · exact fun w1 hw => ⟨⟨⟨hlt, fun j y hj hy => by
                  rcases Nat.lt_or_ge j i with h | h
                  · exact hbef j y h hy
                  · have : j = i := by omega
                    subst this
                    rw [hxe] at hy; cases hy; exact hless⟩, by rw [take_snocE hxe, List.length_append, fE_append]; simpa [fE] using hvn⟩, hw.drop (List.Sublist.append_left (List.sublist_cons_self _ _) _)⟩
              · skip
                have hstop : ∀ y, R[i]? = some y → ltP y.p x.p = false := fun y hy => by rw [hxe] at hy; cases hy; exact h3
                refine JC.exit ?_
                refine JX.thenE ?_
                refine JX.thenE ?_
                refine JX.blockE ?_
                refine JX.thenN (hK13 _ _ ?_)
                refine JC.seq (fun K17 hK17 => ?_)
                refine JC.region ?_
                refine J.move rfl rfl ?_
                refine J.loadA (vs := cE x) Ty.a33 Ty.s33 rfl rfl (fun w1 hw => Cells.of_block (hw.own _ (List.mem_append_right _ (.tail _ (.head _)))) rfl) rfl ?_
                refine J.buildSl (cs := cE x) Ty.el22 Ty.s33 Ty.zE_ rfl rfl rfl rfl (by kernel_rfl) rfl rfl (fun b64 => ?_)
                have htl : (R.take i).length ≤ i := by rw [List.length_take]; omega
                refine J.perm (lo ++ ((b64, cb (cE x) 33) :: (b5, cb (cE ((tget R x.p).getD zE)) 33) :: (b3, cb (cE x) 33) :: (rt, rtabO (.slice (some ⟨q1, 0, none⟩) R.length cr) most) :: lp)) (by (refine perm_cnt (fun _ => ?_)); simp only [cntB_append, cntB_cons, cntB_nil, Nat.add_zero, Nat.zero_add]; try ac_rfl) ?_
                refine J.append (lp := lo) (xs := fE (R.take i)) (ys := cE x) (k := (R.take i).length) (m := 1) Ty.el22 Ty.s33 Ty.b33 Ty.zE_ rfl (.inl ⟨33, Ty.u22⟩) rfl rfl hvo (fun w3 hw3 => .inl (Row.own hw3 (List.mem_append_right _ (.head _)) rfl (Nat.le_refl _))) rfl (one_cE x) (by omega) (by omega) rfl (fun v65 l65 hv65 => ?_)
                refine J.assign rfl rfl ?_
                refine J.nil ?_
                refine JX.thenN (hK17 _ _ ?_)
                refine JC.seq (fun K18 hK18 => ?_)
                refine JC.region ?_
                refine J.move rfl rfl ?_
                refine J.move rfl rfl ?_
                refine J.move rfl rfl ?_
                refine J.nilCheck rfl rfl ?_
                refine J.fieldAddr Ty.fd51_0 rfl rfl ?_
                refine J.load1 (v := .slice (some ⟨q1, 0, none⟩) R.length cr) Ty.a22 rfl (fun w1 hw => by rw [cell_of (hw.own _ (List.mem_append_right _ (.tail _ (.tail _ (.tail _ (.head _))))))]; rfl) rfl ?_
                refine J.move rfl rfl ?_
                refine J.sliceS Ty.el22 Ty.s33 rfl rfl rfl rfl rfl (by omega) (by omega) (by omega) rfl ?_
                refine J.append (lp := l65) (xs := fE (R.take i ++ [x])) (ys := fE (R.drop i)) (k := (R.take i).length + 1) (m := R.length - i) Ty.el22 Ty.s33 Ty.b33 Ty.zE_ rfl (.inl ⟨33, Ty.u22⟩) rfl rfl (by rw [fE_append, show fE [x] = cE x from by simp [fE]]; exact hv65) (fun w3 hw3 => .inl (by
                  have h := Row.slice (vec_rowM hv hw3 (fun q hq => List.mem_append_right _ (by simp [hq]))) (sz := 51) (fE_length R) (show i ≤ R.length from hi) (Nat.le_refl _)
                  rw [fE_drop]
                  rw [List.take_of_length_le (by rw [List.length_drop, fE_length]; omega)] at h
                  exact h)) (by rw [fE_length, List.length_drop]) (fun y hy => fE_one hy) (by omega) (by omega) rfl (fun v74 l74 hv74 => ?_)
                obtain ⟨a74, c74, rfl, hc74⟩ := hv74.form
                refine J.nilCheck rfl rfl ?_
                refine J.fieldAddr Ty.fd51_0 rfl rfl ?_
                refine J.perm ((rt, rtabO (.slice (some ⟨q1, 0, none⟩) R.length cr) most) :: (l74 ++ ((b64, cb (cE x) 33) :: (b5, cb (cE ((tget R x.p).getD zE)) 33) :: (b3, cb (cE x) 33) :: lp))) (by (refine perm_cnt (fun _ => ?_)); simp only [cntB_append, cntB_cons, cntB_nil, Nat.add_zero, Nat.zero_add]; try ac_rfl) ?_
                refine J.storeO (vs := [.slice a74 ((R.take i).length + 1 + (R.length - i)) c74]) Ty.s22 rfl rfl rfl rfl (by simp [Value.oneCell']) .here (by simp) ?_
                refine J.nil ?_
                refine JX.thenN (hK18 _ _ ?_)
                refine JC.seq (fun K19 hK19 => ?_)
                refine JC.region ?_
                refine J.assign rfl rfl ?_
                refine J.nil ?_
                refine JX.thenN (hK19 _ _ ?_)
                refine JC.ret ?_
                refine JX.ret1 rfl rfl (fun w hw => ?_)
                have hra : radd R most x = (0, insE R x) := by first | (simp [radd, *]; done) | (simp [radd, *]; omega)
                have hpos := posE_of hi hbef hstop
                refine ⟨(_, l74), by rw [hra], ?_, hw.drop (.cons_cons _ (List.sublist_append_left _ _))⟩
                rw [hra, insE_pos, hpos]
                simp only [List.length_append, List.length_cons, List.length_drop, List.length_take]
                rw [List.length_take] at hv74
                have e : fE (R.take i ++ x :: R.drop i) = fE (R.take i ++ [x]) ++ fE (R.drop i) := by rw [← fE_append]; simp
                rw [e, show min i R.length + (R.length - i + 1) = min i R.length + 1 + (R.length - i) by omega]
                exact hv74
          · skip
            have hstop : ∀ y, R[i]? = some y → ltP y.p x.p = false := fun y hy => absurd (List.getElem?_eq_some_iff.1 hy).1 hlt
            apply JC.drawL 20 [Eqv (.int .i64 ((i : Nat) : Int)), Eqv (.pointer (some ⟨rt, 0, none⟩)), Eqv (.pointer (some ⟨rt, 0, none⟩)), Eqv (.pointer (some ⟨rt, 0 + 0, none⟩)), Eqv (.slice ar R.length cr), Eqv (.int .i64 ((R.length : Nat) : Int)), Eqv (.bool false), Eqv (.bool false), Eqv (undef), Eqv (undef), Eqv (undef), Eqv (undef), Eqv (undef), Eqv (undef), Eqv (undef), Eqv (undef), Eqv (undef), Eqv (undef), Eqv (undef), Eqv (.bool false)] Ty.mixed rfl rfl rfl (by kernel_rfl) rfl rfl (fun w w' hw hb => hw.step hb) ⟨fun _ _ _ h _ => h, fun _ _ _ h _ => h, fun _ _ _ h _ => h, fun _ _ _ h _ => h, fun _ _ _ h _ => h, fun _ _ _ h _ => h, fun _ _ _ h _ => h, fun _ _ _ h _ => h, fun _ _ _ h _ => h, fun _ _ _ h _ => h, fun _ _ _ h _ => h, fun _ _ _ h _ => h, fun _ _ _ h _ => h, fun _ _ _ h _ => h, fun _ _ _ h _ => h, fun _ _ _ h _ => h, fun _ _ _ h _ => h, fun _ _ _ h _ => h, fun _ _ _ h _ => h, fun _ _ _ h _ => h, trivial⟩ ?hstep ?htail
            case hstep =>
              refine ⟨fun wi => ?_, fun wi => ?_, fun wi => ?_, fun wi => ?_, fun wi => ?_, fun wi => ?_, fun wi => ?_, fun wi => ?_, fun wi => ?_, fun wi => ?_, fun wi => ?_, fun wi => ?_, fun wi => ?_, fun wi => ?_, fun wi => ?_, fun wi => ?_, fun wi => ?_, fun wi => ?_, fun wi => ?_, fun wi => ?_, trivial⟩
              · skip
                refine Fin.nil ?_
                refine J.move rfl rfl ?_
                exact J.finP rfl
              · skip
                refine Fin.nil ?_
                refine J.move rfl rfl ?_
                exact J.finP rfl
              · skip
                refine Fin.consE rfl (Fin.nil ?_)
                refine J.nilCheck rfl rfl ?_
                exact J.finP rfl
              · skip
                refine Fin.consE rfl (Fin.nil ?_)
                refine J.fieldAddr Ty.fd51_0 rfl rfl ?_
                exact J.finP rfl
              · skip
                refine Fin.consE rfl (Fin.nil ?_)
                refine J.load1 (v := .slice ar R.length cr) Ty.a22 rfl (fun w1 hw => by rw [cell_of (hw.2.own _ (List.mem_append_right _ (.tail _ (.tail _ (.head _)))))]; rfl) rfl ?_
                exact J.finP rfl
              · skip
                refine Fin.consE rfl (Fin.nil ?_)
                refine J.lenS rfl Ty.u22 rfl rfl ?_
                exact J.finP rfl
              · skip
                refine Fin.consE rfl (Fin.consE rfl (Fin.nil ?_))
                refine J.bin rfl rfl rfl rfl ?_
                refine J.name 36 rfl (show _ = Value.bool false by simp; omega) ?_
                exact J.finP rfl
              · skip
                refine Fin.consE rfl (Fin.nil ?_)
                refine J.move rfl rfl ?_
                exact J.finP rfl
              · skip
                refine Fin.consE rfl (Fin.nil ?_)
                first | refine J.skip rfl rfl rfl rfl rfl ?_ | refine J.skipU rfl rfl rfl rfl ?_ | (refine J.unguard rfl rfl rfl ?_; refine J.move rfl rfl ?_)
                exact J.finP rfl
              · skip
                refine Fin.consE rfl (Fin.consE rfl (Fin.nil ?_))
                first | refine J.skip rfl rfl rfl rfl rfl ?_ | refine J.skipU rfl rfl rfl rfl ?_ | (refine J.unguard rfl rfl rfl ?_; refine J.nilCheck rfl rfl ?_)
                exact J.finP rfl
              · skip
                refine Fin.consE rfl (Fin.consE rfl (Fin.nil ?_))
                first | refine J.skip rfl rfl rfl rfl rfl ?_ | refine J.skipU rfl rfl rfl rfl ?_ | (refine J.unguard rfl rfl rfl ?_; refine J.fieldAddr Ty.fd51_0 rfl rfl ?_)
                exact J.finP rfl
              · skip
                refine Fin.consE rfl (Fin.consE rfl (Fin.nil ?_))
                first | refine J.skip rfl rfl rfl rfl rfl ?_ | refine J.skipU rfl rfl rfl rfl ?_ | (refine J.unguard rfl rfl rfl ?_; refine J.load1 Ty.a22 rfl (fun w hw => (cell_of (hw.2.own (_, _) (by repeat first | exact .head _ | apply List.Mem.tail | apply List.mem_append_right))).trans (by exact rfl)) rfl ?_)
                exact J.finP rfl
              · skip
                refine Fin.consE rfl (Fin.nil ?_)
                first | refine J.skip rfl rfl rfl rfl rfl ?_ | refine J.skipU rfl rfl rfl rfl ?_ | (refine J.unguard rfl rfl rfl ?_; refine J.move rfl rfl ?_)
                exact J.finP rfl
              · skip
                refine Fin.consE rfl (Fin.consE rfl (Fin.consE rfl (Fin.nil ?_)))
                first | refine J.skip rfl rfl rfl rfl rfl ?_ | refine J.skipU rfl rfl rfl rfl ?_ | (refine J.unguard rfl rfl rfl ?_; refine J.indexAddrS Ty.el22 Ty.s33 rfl rfl (by omega) (by omega) rfl ?_)
                exact J.finP rfl
              · skip
                refine Fin.consE rfl (Fin.consE rfl (Fin.nil ?_))
                first | refine J.skip rfl rfl rfl rfl rfl ?_ | refine J.skipU rfl rfl rfl rfl ?_ | (refine J.unguard rfl rfl rfl ?_; refine J.fieldAddr Ty.fd33_0 rfl rfl ?_)
                exact J.finP rfl
              · skip
                refine Fin.consE rfl (Fin.consE rfl (Fin.nil ?_))
                first | refine J.skip rfl rfl rfl rfl rfl ?_ | refine J.skipU rfl rfl rfl rfl ?_ | (refine J.unguard rfl rfl rfl ?_; refine J.loadOA Ty.a31 Ty.s31 rfl (by repeat first | exact .head _ | apply List.Mem.tail | apply List.mem_append_right) (by exact rfl) rfl rfl ?_)
                exact J.finP rfl
              · skip
                refine Fin.consE rfl (Fin.nil ?_)
                first | refine J.skip rfl rfl rfl rfl rfl ?_ | refine J.skipU rfl rfl rfl rfl ?_ | (refine J.unguard rfl rfl rfl ?_; refine J.fieldAddr Ty.fd33_0 rfl rfl ?_)
                exact J.finP rfl
              · skip
                refine Fin.consE rfl (Fin.consE rfl (Fin.nil ?_))
                first | refine J.skip rfl rfl rfl rfl rfl ?_ | refine J.skipU rfl rfl rfl rfl ?_ | (refine J.unguard rfl rfl rfl ?_; refine J.loadOA Ty.a31 Ty.s31 rfl (by repeat first | exact .head _ | apply List.Mem.tail | apply List.mem_append_right) (by exact rfl) rfl rfl ?_)
                exact J.finP rfl
              · skip
                refine Fin.consE rfl (Fin.consE rfl (Fin.consE rfl (Fin.consE rfl (Fin.nil ?_))))
                first | refine J.skip rfl rfl rfl rfl rfl ?_ | refine J.skipU rfl rfl rfl rfl ?_ | (refine J.unguard rfl rfl rfl ?_; fail)
                exact J.finP rfl
              · skip
                refine Fin.consE rfl (Fin.consE rfl (Fin.nil ?_))
                (first | refine J.pickT rfl rfl rfl ?_ | refine J.pickF rfl rfl rfl ?_)
                exact J.finP rfl
            case htail =>
              refine Fin.consE rfl (Fin.consE rfl (Fin.consE rfl (Fin.consE rfl (Fin.consE rfl (Fin.consE rfl (Fin.consE rfl (Fin.consE rfl (Fin.consE rfl (Fin.consE rfl (Fin.consE rfl (Fin.consE rfl (Fin.consE rfl (Fin.consE rfl (Fin.consE rfl (Fin.consE rfl (Fin.consE rfl (Fin.consE rfl (Fin.consE rfl (Fin.consE rfl (Fin.nil ?_))))))))))))))))))))
              refine J.nil ?_
              refine JX.thenN (hK15 _ _ ?_)
              first | refine JC.condF rfl ?_ | refine JC.cond rfl (fun h => by first | (exfalso; simp at h; omega) | (simp at h)) (fun _ => ?_)
              refine JC.exit ?_
              refine JX.thenE ?_
              refine JX.thenE ?_
              refine JX.blockE ?_
              refine JX.thenN (hK13 _ _ ?_)
              refine JC.seq (fun K20 hK20 => ?_)
              refine JC.region ?_
              refine J.move rfl rfl ?_
              refine J.loadA (vs := cE x) Ty.a33 Ty.s33 rfl rfl (fun w1 hw => Cells.of_block (hw.own _ (List.mem_append_right _ (.tail _ (.head _)))) rfl) rfl ?_
              refine J.buildSl (cs := cE x) Ty.el22 Ty.s33 Ty.zE_ rfl rfl rfl rfl (by kernel_rfl) rfl rfl (fun b64 => ?_)
              have htl : (R.take i).length ≤ i := by rw [List.length_take]; omega
              refine J.perm (lo ++ ((b64, cb (cE x) 33) :: (b5, cb (cE ((tget R x.p).getD zE)) 33) :: (b3, cb (cE x) 33) :: (rt, rtabO (.slice ar R.length cr) most) :: lp)) (by (refine perm_cnt (fun _ => ?_)); simp only [cntB_append, cntB_cons, cntB_nil, Nat.add_zero, Nat.zero_add]; try ac_rfl) ?_
              refine J.append (lp := lo) (xs := fE (R.take i)) (ys := cE x) (k := (R.take i).length) (m := 1) Ty.el22 Ty.s33 Ty.b33 Ty.zE_ rfl (.inl ⟨33, Ty.u22⟩) rfl rfl hvo (fun w3 hw3 => .inl (Row.own hw3 (List.mem_append_right _ (.head _)) rfl (Nat.le_refl _))) rfl (one_cE x) (by omega) (by omega) rfl (fun v65 l65 hv65 => ?_)
              refine J.assign rfl rfl ?_
              refine J.nil ?_
              refine JX.thenN (hK20 _ _ ?_)
              refine JC.seq (fun K21 hK21 => ?_)
              refine JC.region ?_
              refine J.move rfl rfl ?_
              refine J.move rfl rfl ?_
              refine J.move rfl rfl ?_
              refine J.nilCheck rfl rfl ?_
              refine J.fieldAddr Ty.fd51_0 rfl rfl ?_
              refine J.load1 (v := .slice ar R.length cr) Ty.a22 rfl (fun w1 hw => by rw [cell_of (hw.own _ (List.mem_append_right _ (.tail _ (.tail _ (.tail _ (.head _))))))]; rfl) rfl ?_
              refine J.move rfl rfl ?_
              refine J.sliceS Ty.el22 Ty.s33 rfl rfl rfl rfl rfl (by omega) (by omega) (by omega) rfl ?_
              refine J.append (lp := l65) (xs := fE (R.take i ++ [x])) (ys := fE (R.drop i)) (k := (R.take i).length + 1) (m := R.length - i) Ty.el22 Ty.s33 Ty.b33 Ty.zE_ rfl (.inl ⟨33, Ty.u22⟩) rfl rfl (by rw [fE_append, show fE [x] = cE x from by simp [fE]]; exact hv65) (fun w3 hw3 => .inl (by
                have h := Row.slice (vec_rowM hv hw3 (fun q hq => List.mem_append_right _ (by simp [hq]))) (sz := 51) (fE_length R) (show i ≤ R.length from hi) (Nat.le_refl _)
                rw [fE_drop]
                rw [List.take_of_length_le (by rw [List.length_drop, fE_length]; omega)] at h
                exact h)) (by rw [fE_length, List.length_drop]) (fun y hy => fE_one hy) (by omega) (by omega) rfl (fun v74 l74 hv74 => ?_)
              obtain ⟨a74, c74, rfl, hc74⟩ := hv74.form
              refine J.nilCheck rfl rfl ?_
              refine J.fieldAddr Ty.fd51_0 rfl rfl ?_
              refine J.perm ((rt, rtabO (.slice ar R.length cr) most) :: (l74 ++ ((b64, cb (cE x) 33) :: (b5, cb (cE ((tget R x.p).getD zE)) 33) :: (b3, cb (cE x) 33) :: lp))) (by (refine perm_cnt (fun _ => ?_)); simp only [cntB_append, cntB_cons, cntB_nil, Nat.add_zero, Nat.zero_add]; try ac_rfl) ?_
              refine J.storeO (vs := [.slice a74 ((R.take i).length + 1 + (R.length - i)) c74]) Ty.s22 rfl rfl rfl rfl (by simp [Value.oneCell']) .here (by simp) ?_
              refine J.nil ?_
              refine JX.thenN (hK21 _ _ ?_)
              refine JC.seq (fun K22 hK22 => ?_)
              refine JC.region ?_
              refine J.assign rfl rfl ?_
              refine J.nil ?_
              refine JX.thenN (hK22 _ _ ?_)
              refine JC.ret ?_
              refine JX.ret1 rfl rfl (fun w hw => ?_)
              have hra : radd R most x = (0, insE R x) := by first | (simp [radd, *]; done) | (simp [radd, *]; omega)
              have hpos := posE_of hi hbef hstop
              refine ⟨(_, l74), by rw [hra], ?_, hw.drop (.cons_cons _ (List.sublist_append_left _ _))⟩
              rw [hra, insE_pos, hpos]
              simp only [List.length_append, List.length_cons, List.length_drop, List.length_take]
              rw [List.length_take] at hv74
              have e : fE (R.take i ++ x :: R.drop i) = fE (R.take i ++ [x]) ++ fE (R.drop i) := by rw [← fE_append]; simp
              rw [e, show min i R.length + (R.length - i + 1) = min i R.length + 1 + (R.length - i) by omega]
              exact hv74

end Go.Proofs.YtohldionclgljaaGreat
