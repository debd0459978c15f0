/-
  Drop and End, the program's and the document's: contracts.
-/
import Derived.Test.YtohldionclgljaaGreatPa
namespace Go.Proofs.YtohldionclgljaaGreat
open Go.J Go.RowKit
set_option linter.unusedVariables false
set_option linter.unusedSimpArgs false
set_option maxRecDepth 8000
/-- what a Drop does -/
def dropT (L : List EV) (fr : Int) (p : PV) : TV × List EV := match tget L p with
  | none => (noT, L)
  | some x => if fr < 0 ∨ (x.na ≠ fr ∧ x.nb ≠ fr) then (noT, L) else (hopT (if x.na = fr then x.nb else x.na) p noT, delL L p)
/-- what an End does -/
def endT (L : List EV) (p : PV) : TV × List EV := match tget L p with
  | none => (noT, L)
  | some x => if 0 ≤ x.na ∧ 0 ≤ x.nb then (noT, L) else (hopT x.nb p (hopT x.na p noT), delL L p)
theorem hop_len (n : Int) (p : PV) (T : TV) : (hopT n p T).out.length + (hopT n p T).lost.length = T.out.length + T.lost.length + 1 := by
  unfold hopT
  split <;> simp <;> omega

theorem two_one {T : TV} {y : TS} (h : T.is y) : ∀ v, v ∈ [y.vo, y.vl] → v.oneCell' = true := by
  obtain ⟨a, c, h1, _⟩ := h.1.form
  obtain ⟨a', c', h2, _⟩ := h.2.form
  intro v hv
  simp only [List.mem_cons, List.mem_nil_iff, or_false] at hv
  rcases hv with rfl | rfl
  · rw [h1]; rfl
  · rw [h2]; rfl

set_option maxHeartbeats 2000000 in
theorem tdrop_spec (t1 m1 : Nat) (mo : Int) (L : List EV) (es : Array MapEntry) (ck : Nat) (w : World) (hw0 : Own w [(t1, tabO mo m1), (m1, .map es ck)]) (hT : Tab L es ck) (fr : Int) (p : PV) (hp : okN p.n) :
    Calls Tryz.prog 30 [.pointer (some ⟨t1, 0, none⟩), .int .i64 fr, .agg (cP p).toArray].toArray w fun r w' => ∃ y : TS × Array MapEntry, r = .returned (.agg [y.1.vo, y.1.vl].toArray) ∧ ((dropT L fr p).1.is y.1 ∧ Tab (dropT L fr p).2 y.2 ck) ∧ St w [t1, m1] ((y.1.lo ++ y.1.ll) ++ [(t1, tabO mo m1), (m1, .map y.2 ck)]) w' := by
  refine calls_of_J (args := [.pointer (some ⟨t1, 0, none⟩), .int .i64 fr, .agg (cP p).toArray]) (e := [(0, .pointer (some ⟨t1, 0, none⟩)), (1, .int .i64 fr), (2, .agg (cP p).toArray)]) Tryz.func30 rfl rfl ⟨rfl, rfl, rfl, trivial⟩ (hw0.st) ?_
  refine JC.seq (fun K0 hK0 => ?_)
  refine JC.region ?_
  refine J.box rfl rfl rfl (fun b5 => ?_)
  refine J.alloc zTq rfl rfl (fun b6 => ?_)
  refine J.nil ?_
  refine JX.thenN (hK0 _ _ ?_)
  refine JC.seq (fun K1 hK1 => ?_)
  refine JC.region ?_
  refine J.alloc zTq rfl rfl (fun b7 => ?_)
  refine J.nil ?_
  refine JX.thenN (hK1 _ _ ?_)
  refine JC.seq (fun K2 hK2 => ?_)
  cases hg : tget L p with
  | none =>
    refine JC.region ?_
    refine J.move rfl rfl ?_
    refine J.loadOA (vs := cP p) Ty.a31 Ty.s31 rfl (by repeat first | exact .head _ | apply List.Mem.tail | apply List.mem_append_right) (by exact rfl) rfl rfl ?_
    refine J.callB (v := .tuple #[.agg (cE ((tget L p).getD zE)).toArray, .bool (tget L p).isSome]) (fun w1 w2 hw hb => hw.step hb) Ty.bd40 rfl rfl (fun w1 hw => get_spec t1 m1 mo L es ck w1 (St.owns (l1 := [(t1, tabO mo m1), (m1, .map es ck)]) (l := [(b7, cb ([nilV, nilV]) 55), (b6, cb ([nilV, nilV]) 55), (b5, cb (cP p) 31)]) (hw.perm (by (refine perm_cnt (fun _ => ?_)); simp only [cntB_append, cntB_cons, cntB_nil, Nat.add_zero, Nat.zero_add]; try ac_rfl))) hT p hp) ?_
    refine J.name 13 rfl (show _ = Value.tuple #[.agg (cE zE).toArray, .bool false] by rw [hg]; rfl) ?_
    refine J.move rfl rfl ?_
    refine J.extract rfl rfl rfl ?_
    refine J.extract rfl rfl rfl ?_
    refine J.alloc Ty.zE_ rfl rfl (fun b8 => ?_)
    refine J.storeW (cs := cE zE) (vs := cE zE) Ty.s33 rfl rfl rfl rfl rfl (one_cE _) .here ?_
    refine J.assign rfl rfl ?_
    refine J.nil ?_
    refine JX.thenN (hK2 _ _ ?_)
    refine JC.seq (fun K3 hK3 => ?_)
    refine JC.seq (fun K4 hK4 => ?_)
    refine JC.region ?_
    refine J.move rfl rfl ?_
    refine J.not rfl rfl ?_
    refine J.move rfl rfl ?_
    first | refine J.skip rfl rfl rfl rfl rfl ?_ | refine J.skipU rfl rfl rfl rfl ?_ | (refine J.unguard rfl rfl rfl ?_; refine J.move rfl rfl ?_)
    first | refine J.skip rfl rfl rfl rfl rfl ?_ | refine J.skipU rfl rfl rfl rfl ?_ | (refine J.unguard rfl rfl rfl ?_; skip)
    (first | refine J.pickT rfl rfl rfl ?_ | refine J.pickF rfl rfl rfl ?_)
    refine J.move rfl rfl ?_
    first | refine J.skip rfl rfl rfl rfl rfl ?_ | refine J.skipU rfl rfl rfl rfl ?_ | (refine J.unguard rfl rfl rfl ?_; refine J.fieldAddr Ty.fd33_3 rfl rfl ?_)
    first | refine J.skip rfl rfl rfl rfl rfl ?_ | refine J.skipU rfl rfl rfl rfl ?_ | (refine J.unguard rfl rfl rfl ?_; refine J.loadO Ty.a3 rfl (by repeat first | exact .head _ | apply List.Mem.tail | apply List.mem_append_right) (by exact rfl) rfl ?_)
    first | refine J.skip rfl rfl rfl rfl rfl ?_ | refine J.skipU rfl rfl rfl rfl ?_ | (refine J.unguard rfl rfl rfl ?_; refine J.move rfl rfl ?_)
    first | refine J.skip rfl rfl rfl rfl rfl ?_ | refine J.skipU rfl rfl rfl rfl ?_ | (refine J.unguard rfl rfl rfl ?_; skip)
    first | refine J.skip rfl rfl rfl rfl rfl ?_ | refine J.skipU rfl rfl rfl rfl ?_ | (refine J.unguard rfl rfl rfl ?_; refine J.move rfl rfl ?_)
    first | refine J.skip rfl rfl rfl rfl rfl ?_ | refine J.skipU rfl rfl rfl rfl ?_ | (refine J.unguard rfl rfl rfl ?_; refine J.fieldAddr Ty.fd33_4 rfl rfl ?_)
    first | refine J.skip rfl rfl rfl rfl rfl ?_ | refine J.skipU rfl rfl rfl rfl ?_ | (refine J.unguard rfl rfl rfl ?_; refine J.loadO Ty.a3 rfl (by repeat first | exact .head _ | apply List.Mem.tail | apply List.mem_append_right) (by exact rfl) rfl ?_)
    first | refine J.skip rfl rfl rfl rfl rfl ?_ | refine J.skipU rfl rfl rfl rfl ?_ | (refine J.unguard rfl rfl rfl ?_; refine J.move rfl rfl ?_)
    first | refine J.skip rfl rfl rfl rfl rfl ?_ | refine J.skipU rfl rfl rfl rfl ?_ | (refine J.unguard rfl rfl rfl ?_; skip)
    first | refine J.skip rfl rfl rfl rfl rfl ?_ | refine J.skipU rfl rfl rfl rfl ?_ | (refine J.unguard rfl rfl rfl ?_; (first | refine J.pickT rfl rfl rfl ?_ | refine J.pickF rfl rfl rfl ?_))
    (first | refine J.pickT rfl rfl rfl ?_ | refine J.pickF rfl rfl rfl ?_)
    refine J.nil ?_
    refine JX.thenN (hK4 _ _ ?_)
    first | refine JC.condT rfl ?_ | refine JC.cond rfl (fun _ => ?_) (fun h => by first | (exfalso; simp at h; omega) | (simp at h))
    refine JC.seq (fun K5 hK5 => ?_)
    refine JC.region ?_
    refine J.loadOA (vs := [nilV, nilV]) Ty.a55 Ty.s55 rfl (by repeat first | exact .head _ | apply List.Mem.tail | apply List.mem_append_right) rfl rfl rfl ?_
    refine J.storeW (cs := [nilV, nilV]) (vs := [nilV, nilV]) Ty.s55 rfl rfl rfl rfl rfl (by simp [Value.oneCell']) (by repeat first | exact .here | apply Up.there) ?_
    refine J.nil ?_
    refine JX.thenN (hK5 _ _ ?_)
    refine JC.ret ?_
    refine JX.thenR ?_
    refine JX.retC rfl rfl Ty.a55 Ty.s55 (vs := [nilV, nilV]) rfl (fun w1 hw => Cells.of_block (hw.own ((b6, cb ([nilV, nilV]) 55)) (by repeat first | exact .head _ | apply List.Mem.tail | apply List.mem_append_right)) rfl) (fun w1 hw => ?_)
    exact ⟨(noS, es), rfl, (by rw [show (dropT L fr p) = (noT, L) from by unfold dropT; rw [hg]]; exact ⟨no_is, hT⟩), (hw.perm (l' := [(b6, cb ([nilV, nilV]) 55), (b8, cb (cE zE) 33), (b7, cb ([nilV, nilV]) 55), (b5, cb (cP p) 31)] ++ ((t1, tabO mo m1) :: (m1, .map es ck) :: [])) (by (refine perm_cnt (fun _ => ?_)); simp only [cntB_append, cntB_cons, cntB_nil, Nat.add_zero, Nat.zero_add]; try ac_rfl)).drop (List.sublist_append_right _ _)⟩
  | some xe =>
    have hxL : xe ∈ L := List.mem_of_find?_eq_some hg
    refine JC.region ?_
    refine J.move rfl rfl ?_
    refine J.loadOA (vs := cP p) Ty.a31 Ty.s31 rfl (by repeat first | exact .head _ | apply List.Mem.tail | apply List.mem_append_right) (by exact rfl) rfl rfl ?_
    refine J.callB (v := .tuple #[.agg (cE ((tget L p).getD zE)).toArray, .bool (tget L p).isSome]) (fun w1 w2 hw hb => hw.step hb) Ty.bd40 rfl rfl (fun w1 hw => get_spec t1 m1 mo L es ck w1 (St.owns (l1 := [(t1, tabO mo m1), (m1, .map es ck)]) (l := [(b7, cb ([nilV, nilV]) 55), (b6, cb ([nilV, nilV]) 55), (b5, cb (cP p) 31)]) (hw.perm (by (refine perm_cnt (fun _ => ?_)); simp only [cntB_append, cntB_cons, cntB_nil, Nat.add_zero, Nat.zero_add]; try ac_rfl))) hT p hp) ?_
    refine J.name 13 rfl (show _ = Value.tuple #[.agg (cE xe).toArray, .bool true] by rw [hg]; rfl) ?_
    refine J.move rfl rfl ?_
    refine J.extract rfl rfl rfl ?_
    refine J.extract rfl rfl rfl ?_
    refine J.alloc Ty.zE_ rfl rfl (fun b8 => ?_)
    refine J.storeW (cs := cE zE) (vs := cE xe) Ty.s33 rfl rfl rfl rfl rfl (one_cE _) .here ?_
    refine J.assign rfl rfl ?_
    refine J.nil ?_
    refine JX.thenN (hK2 _ _ ?_)
    refine JC.seq (fun K6 hK6 => ?_)
    refine JC.seq (fun K7 hK7 => ?_)
    by_cases hf0 : fr < 0
    · skip
      refine JC.region ?_
      refine J.move rfl rfl ?_
      refine J.not rfl rfl ?_
      refine J.move rfl rfl ?_
      first | refine J.skip rfl rfl rfl rfl rfl ?_ | refine J.skipU rfl rfl rfl rfl ?_ | (refine J.unguard rfl rfl rfl ?_; refine J.move rfl rfl ?_)
      first | refine J.skip rfl rfl rfl rfl rfl ?_ | refine J.skipU rfl rfl rfl rfl ?_ | (refine J.unguard rfl rfl rfl ?_; refine J.bin rfl rfl rfl rfl ?_; refine J.name 20 rfl (show _ = Value.bool true by simp; omega) ?_)
      (first | refine J.pickT rfl rfl rfl ?_ | refine J.pickF rfl rfl rfl ?_)
      refine J.move rfl rfl ?_
      first | refine J.skip rfl rfl rfl rfl rfl ?_ | refine J.skipU rfl rfl rfl rfl ?_ | (refine J.unguard rfl rfl rfl ?_; refine J.fieldAddr Ty.fd33_3 rfl rfl ?_)
      first | refine J.skip rfl rfl rfl rfl rfl ?_ | refine J.skipU rfl rfl rfl rfl ?_ | (refine J.unguard rfl rfl rfl ?_; refine J.loadO Ty.a3 rfl (by repeat first | exact .head _ | apply List.Mem.tail | apply List.mem_append_right) (by exact rfl) rfl ?_)
      first | refine J.skip rfl rfl rfl rfl rfl ?_ | refine J.skipU rfl rfl rfl rfl ?_ | (refine J.unguard rfl rfl rfl ?_; refine J.move rfl rfl ?_)
      first | refine J.skip rfl rfl rfl rfl rfl ?_ | refine J.skipU rfl rfl rfl rfl ?_ | (refine J.unguard rfl rfl rfl ?_; skip)
      first | refine J.skip rfl rfl rfl rfl rfl ?_ | refine J.skipU rfl rfl rfl rfl ?_ | (refine J.unguard rfl rfl rfl ?_; refine J.move rfl rfl ?_)
      first | refine J.skip rfl rfl rfl rfl rfl ?_ | refine J.skipU rfl rfl rfl rfl ?_ | (refine J.unguard rfl rfl rfl ?_; refine J.fieldAddr Ty.fd33_4 rfl rfl ?_)
      first | refine J.skip rfl rfl rfl rfl rfl ?_ | refine J.skipU rfl rfl rfl rfl ?_ | (refine J.unguard rfl rfl rfl ?_; refine J.loadO Ty.a3 rfl (by repeat first | exact .head _ | apply List.Mem.tail | apply List.mem_append_right) (by exact rfl) rfl ?_)
      first | refine J.skip rfl rfl rfl rfl rfl ?_ | refine J.skipU rfl rfl rfl rfl ?_ | (refine J.unguard rfl rfl rfl ?_; refine J.move rfl rfl ?_)
      first | refine J.skip rfl rfl rfl rfl rfl ?_ | refine J.skipU rfl rfl rfl rfl ?_ | (refine J.unguard rfl rfl rfl ?_; skip)
      first | refine J.skip rfl rfl rfl rfl rfl ?_ | refine J.skipU rfl rfl rfl rfl ?_ | (refine J.unguard rfl rfl rfl ?_; (first | refine J.pickT rfl rfl rfl ?_ | refine J.pickF rfl rfl rfl ?_))
      (first | refine J.pickT rfl rfl rfl ?_ | refine J.pickF rfl rfl rfl ?_)
      refine J.nil ?_
      refine JX.thenN (hK7 _ _ ?_)
      first | refine JC.condT rfl ?_ | refine JC.cond rfl (fun _ => ?_) (fun h => by first | (exfalso; simp at h; omega) | (simp at h))
      refine JC.seq (fun K8 hK8 => ?_)
      refine JC.region ?_
      refine J.loadOA (vs := [nilV, nilV]) Ty.a55 Ty.s55 rfl (by repeat first | exact .head _ | apply List.Mem.tail | apply List.mem_append_right) rfl rfl rfl ?_
      refine J.storeW (cs := [nilV, nilV]) (vs := [nilV, nilV]) Ty.s55 rfl rfl rfl rfl rfl (by simp [Value.oneCell']) (by repeat first | exact .here | apply Up.there) ?_
      refine J.nil ?_
      refine JX.thenN (hK8 _ _ ?_)
      refine JC.ret ?_
      refine JX.thenR ?_
      refine JX.retC rfl rfl Ty.a55 Ty.s55 (vs := [nilV, nilV]) rfl (fun w1 hw => Cells.of_block (hw.own ((b6, cb ([nilV, nilV]) 55)) (by repeat first | exact .head _ | apply List.Mem.tail | apply List.mem_append_right)) rfl) (fun w1 hw => ?_)
      exact ⟨(noS, es), rfl, (by rw [show (dropT L fr p) = (noT, L) from by unfold dropT; rw [hg]; simp only; rw [if_pos (.inl hf0)]]; exact ⟨no_is, hT⟩), (hw.perm (l' := [(b6, cb ([nilV, nilV]) 55), (b8, cb (cE xe) 33), (b7, cb ([nilV, nilV]) 55), (b5, cb (cP p) 31)] ++ ((t1, tabO mo m1) :: (m1, .map es ck) :: [])) (by (refine perm_cnt (fun _ => ?_)); simp only [cntB_append, cntB_cons, cntB_nil, Nat.add_zero, Nat.zero_add]; try ac_rfl)).drop (List.sublist_append_right _ _)⟩
    · skip
      by_cases hna : xe.na = fr
      · skip
        refine JC.region ?_
        refine J.move rfl rfl ?_
        refine J.not rfl rfl ?_
        refine J.move rfl rfl ?_
        first | refine J.skip rfl rfl rfl rfl rfl ?_ | refine J.skipU rfl rfl rfl rfl ?_ | (refine J.unguard rfl rfl rfl ?_; refine J.move rfl rfl ?_)
        first | refine J.skip rfl rfl rfl rfl rfl ?_ | refine J.skipU rfl rfl rfl rfl ?_ | (refine J.unguard rfl rfl rfl ?_; refine J.bin rfl rfl rfl rfl ?_; refine J.name 20 rfl (show _ = Value.bool false by simp; omega) ?_)
        (first | refine J.pickT rfl rfl rfl ?_ | refine J.pickF rfl rfl rfl ?_)
        refine J.move rfl rfl ?_
        first | refine J.skip rfl rfl rfl rfl rfl ?_ | refine J.skipU rfl rfl rfl rfl ?_ | (refine J.unguard rfl rfl rfl ?_; refine J.fieldAddr Ty.fd33_3 rfl rfl ?_)
        first | refine J.skip rfl rfl rfl rfl rfl ?_ | refine J.skipU rfl rfl rfl rfl ?_ | (refine J.unguard rfl rfl rfl ?_; refine J.loadO Ty.a3 rfl (by repeat first | exact .head _ | apply List.Mem.tail | apply List.mem_append_right) (by exact rfl) rfl ?_)
        first | refine J.skip rfl rfl rfl rfl rfl ?_ | refine J.skipU rfl rfl rfl rfl ?_ | (refine J.unguard rfl rfl rfl ?_; refine J.move rfl rfl ?_)
        first | refine J.skip rfl rfl rfl rfl rfl ?_ | refine J.skipU rfl rfl rfl rfl ?_ | (refine J.unguard rfl rfl rfl ?_; refine J.bin rfl rfl rfl rfl ?_; refine J.name 26 rfl (show _ = Value.bool false by simp [hna]) ?_)
        first | refine J.skip rfl rfl rfl rfl rfl ?_ | refine J.skipU rfl rfl rfl rfl ?_ | (refine J.unguard rfl rfl rfl ?_; refine J.move rfl rfl ?_)
        first | refine J.skip rfl rfl rfl rfl rfl ?_ | refine J.skipU rfl rfl rfl rfl ?_ | (refine J.unguard rfl rfl rfl ?_; refine J.fieldAddr Ty.fd33_4 rfl rfl ?_)
        first | refine J.skip rfl rfl rfl rfl rfl ?_ | refine J.skipU rfl rfl rfl rfl ?_ | (refine J.unguard rfl rfl rfl ?_; refine J.loadO Ty.a3 rfl (by repeat first | exact .head _ | apply List.Mem.tail | apply List.mem_append_right) (by exact rfl) rfl ?_)
        first | refine J.skip rfl rfl rfl rfl rfl ?_ | refine J.skipU rfl rfl rfl rfl ?_ | (refine J.unguard rfl rfl rfl ?_; refine J.move rfl rfl ?_)
        first | refine J.skip rfl rfl rfl rfl rfl ?_ | refine J.skipU rfl rfl rfl rfl ?_ | (refine J.unguard rfl rfl rfl ?_; skip)
        first | refine J.skip rfl rfl rfl rfl rfl ?_ | refine J.skipU rfl rfl rfl rfl ?_ | (refine J.unguard rfl rfl rfl ?_; (first | refine J.pickT rfl rfl rfl ?_ | refine J.pickF rfl rfl rfl ?_))
        (first | refine J.pickT rfl rfl rfl ?_ | refine J.pickF rfl rfl rfl ?_)
        refine J.nil ?_
        refine JX.thenN (hK7 _ _ ?_)
        first | refine JC.condF rfl ?_ | refine JC.cond rfl (fun h => by first | (exfalso; simp at h; omega) | (simp at h)) (fun _ => ?_)
        refine JC.skip ?_
        refine JX.thenN (hK6 _ _ ?_)
        refine JC.seq (fun K9 hK9 => ?_)
        refine JC.region ?_
        refine J.move rfl rfl ?_
        refine J.loadOA (vs := cP p) Ty.a31 Ty.s31 rfl (by repeat first | exact .head _ | apply List.Mem.tail | apply List.mem_append_right) (by exact rfl) rfl rfl ?_
        refine J.perm ([(t1, tabO mo m1), (m1, .map es ck)] ++ ((b8, cb (cE xe) 33) :: (b7, cb ([nilV, nilV]) 55) :: (b6, cb ([nilV, nilV]) 55) :: (b5, cb (cP p) 31) :: [])) (by (refine perm_cnt (fun _ => ?_)); simp only [cntB_append, cntB_cons, cntB_nil, Nat.add_zero, Nat.zero_add]; try ac_rfl) ?_
        refine J.callS (α := Array MapEntry) (V := fun _ => .tuple #[.agg (cE ((tget (L) p).getD zE)).toArray, .bool (tget (L) p).isSome]) (Pr := fun y => Tab (delL (L) p) y ck) (L := fun y => [(t1, tabO mo m1), (m1, .map y ck)]) (l1 := [(t1, tabO mo m1), (m1, .map es ck)]) Ty.bd41 rfl rfl (fun w1 hw => (remove_spec t1 m1 mo (L) es ck w1 hw.owns hT p hp).mono fun _ _ ⟨y, h1, h2, h3⟩ => ⟨y, h1, h2, h3⟩) (fun es2 hT2 => ?_)
        simp only [List.cons_append, List.nil_append]
        refine J.nil ?_
        refine JX.thenN (hK9 _ _ ?_)
        refine JC.seq (fun K10 hK10 => ?_)
        refine JC.seq (fun K11 hK11 => ?_)
        refine JC.region ?_
        refine J.fieldAddr Ty.fd33_3 rfl rfl ?_
        refine J.loadO Ty.a3 rfl (by repeat first | exact .head _ | apply List.Mem.tail | apply List.mem_append_right) (by exact rfl) rfl ?_
        refine J.move rfl rfl ?_
        refine J.bin rfl rfl rfl rfl ?_
        refine J.nil ?_
        refine JX.thenN (hK11 _ _ ?_)
        refine JC.cond rfl (fun h1 => ?_) (fun h1 => ?_)
        · skip
          have hsd : xe.na = fr := by simpa using h1
          refine JC.region ?_
          refine J.fieldAddr Ty.fd33_4 rfl rfl ?_
          refine J.loadO Ty.a3 rfl (by repeat first | exact .head _ | apply List.Mem.tail | apply List.mem_append_right) (by exact rfl) rfl ?_
          refine J.loadOA (vs := cP p) Ty.a31 Ty.s31 rfl (by repeat first | exact .head _ | apply List.Mem.tail | apply List.mem_append_right) rfl rfl rfl ?_
          refine J.perm (((b7, cb [noS.vo, noS.vl] 55) :: ([])) ++ ((b8, cb (cE xe) 33) :: (b6, cb ([nilV, nilV]) 55) :: (b5, cb (cP p) 31) :: ((t1, tabO mo m1) :: (m1, .map es2 ck) :: []))) (by (refine perm_cnt (fun _ => ?_)); simp only [cntB_append, cntB_cons, cntB_nil, Nat.add_zero, Nat.zero_add]; try ac_rfl) ?_
          refine J.callS (α := TS) (V := fun _ => .tuple #[]) (Pr := fun y => (hopT xe.nb p noT).is y) (L := fun y => (b7, cb [y.vo, y.vl] 55) :: (y.lo ++ y.ll)) (l1 := (b7, cb [noS.vo, noS.vl] 55) :: ([])) Ty.bd42 rfl rfl (fun w1 hw => (hop_spec b7 noT noS w1 hw.owns no_is (by decide) xe.nb p).mono fun _ _ ⟨y, h1, h2, h3⟩ => ⟨y, h1, h2, h3⟩) (fun y hy => ?_)
          simp only [List.cons_append, List.nil_append]
          refine J.nil ?_
          refine JX.thenN (hK10 _ _ ?_)
          refine JC.seq (fun K12 hK12 => ?_)
          refine JC.region ?_
          refine J.perm ((b7, cb ([y.vo, y.vl]) 55) :: (b8, cb (cE xe) 33) :: (b6, cb ([nilV, nilV]) 55) :: (b5, cb (cP p) 31) :: ((y.lo ++ y.ll) ++ ((t1, tabO mo m1) :: (m1, .map es2 ck) :: []))) (by (refine perm_cnt (fun _ => ?_)); simp only [cntB_append, cntB_cons, cntB_nil, Nat.add_zero, Nat.zero_add]; try ac_rfl) ?_
          refine J.loadOA (vs := [y.vo, y.vl]) Ty.a55 Ty.s55 rfl (by repeat first | exact .head _ | apply List.Mem.tail | apply List.mem_append_right) rfl rfl rfl ?_
          refine J.storeW (cs := [nilV, nilV]) (vs := [y.vo, y.vl]) Ty.s55 rfl rfl rfl rfl rfl (two_one hy) (by repeat first | exact .here | apply Up.there) ?_
          refine J.nil ?_
          refine JX.thenN (hK12 _ _ ?_)
          refine JC.ret ?_
          refine JX.retC rfl rfl Ty.a55 Ty.s55 (vs := [y.vo, y.vl]) rfl (fun w1 hw => Cells.of_block (hw.own ((b6, cb ([y.vo, y.vl]) 55)) (by repeat first | exact .head _ | apply List.Mem.tail | apply List.mem_append_right)) rfl) (fun w1 hw => ?_)
          exact ⟨(y, es2), rfl, (by rw [show (dropT L fr p) = (hopT xe.nb p noT, delL L p) from by unfold dropT; rw [hg]; simp only; rw [if_neg (by first | (intro h; rcases h with h | h; exact hf0 h; exact h.1 hna) | (intro h; rcases h with h | h; exact hf0 h; exact h.2 hnb)), if_pos hsd]]; exact ⟨hy, hT2⟩), (hw.perm (l' := [(b6, cb ([y.vo, y.vl]) 55), (b8, cb (cE xe) 33), (b7, cb ([y.vo, y.vl]) 55), (b5, cb (cP p) 31)] ++ ((y.lo ++ y.ll) ++ ((t1, tabO mo m1) :: (m1, .map es2 ck) :: []))) (by (refine perm_cnt (fun _ => ?_)); simp only [cntB_append, cntB_cons, cntB_nil, Nat.add_zero, Nat.zero_add]; try ac_rfl)).drop (List.sublist_append_right _ _)⟩
        · skip
          have hsd : ¬ xe.na = fr := by simpa using h1
          refine JC.region ?_
          refine J.fieldAddr Ty.fd33_3 rfl rfl ?_
          refine J.loadO Ty.a3 rfl (by repeat first | exact .head _ | apply List.Mem.tail | apply List.mem_append_right) (by exact rfl) rfl ?_
          refine J.loadOA (vs := cP p) Ty.a31 Ty.s31 rfl (by repeat first | exact .head _ | apply List.Mem.tail | apply List.mem_append_right) rfl rfl rfl ?_
          refine J.perm (((b7, cb [noS.vo, noS.vl] 55) :: ([])) ++ ((b8, cb (cE xe) 33) :: (b6, cb ([nilV, nilV]) 55) :: (b5, cb (cP p) 31) :: ((t1, tabO mo m1) :: (m1, .map es2 ck) :: []))) (by (refine perm_cnt (fun _ => ?_)); simp only [cntB_append, cntB_cons, cntB_nil, Nat.add_zero, Nat.zero_add]; try ac_rfl) ?_
          refine J.callS (α := TS) (V := fun _ => .tuple #[]) (Pr := fun y => (hopT xe.na p noT).is y) (L := fun y => (b7, cb [y.vo, y.vl] 55) :: (y.lo ++ y.ll)) (l1 := (b7, cb [noS.vo, noS.vl] 55) :: ([])) Ty.bd42 rfl rfl (fun w1 hw => (hop_spec b7 noT noS w1 hw.owns no_is (by decide) xe.na p).mono fun _ _ ⟨y, h1, h2, h3⟩ => ⟨y, h1, h2, h3⟩) (fun y hy => ?_)
          simp only [List.cons_append, List.nil_append]
          refine J.nil ?_
          refine JX.thenN (hK10 _ _ ?_)
          refine JC.seq (fun K13 hK13 => ?_)
          refine JC.region ?_
          refine J.perm ((b7, cb ([y.vo, y.vl]) 55) :: (b8, cb (cE xe) 33) :: (b6, cb ([nilV, nilV]) 55) :: (b5, cb (cP p) 31) :: ((y.lo ++ y.ll) ++ ((t1, tabO mo m1) :: (m1, .map es2 ck) :: []))) (by (refine perm_cnt (fun _ => ?_)); simp only [cntB_append, cntB_cons, cntB_nil, Nat.add_zero, Nat.zero_add]; try ac_rfl) ?_
          refine J.loadOA (vs := [y.vo, y.vl]) Ty.a55 Ty.s55 rfl (by repeat first | exact .head _ | apply List.Mem.tail | apply List.mem_append_right) rfl rfl rfl ?_
          refine J.storeW (cs := [nilV, nilV]) (vs := [y.vo, y.vl]) Ty.s55 rfl rfl rfl rfl rfl (two_one hy) (by repeat first | exact .here | apply Up.there) ?_
          refine J.nil ?_
          refine JX.thenN (hK13 _ _ ?_)
          refine JC.ret ?_
          refine JX.retC rfl rfl Ty.a55 Ty.s55 (vs := [y.vo, y.vl]) rfl (fun w1 hw => Cells.of_block (hw.own ((b6, cb ([y.vo, y.vl]) 55)) (by repeat first | exact .head _ | apply List.Mem.tail | apply List.mem_append_right)) rfl) (fun w1 hw => ?_)
          exact ⟨(y, es2), rfl, (by rw [show (dropT L fr p) = (hopT xe.na p noT, delL L p) from by unfold dropT; rw [hg]; simp only; rw [if_neg (by first | (intro h; rcases h with h | h; exact hf0 h; exact h.1 hna) | (intro h; rcases h with h | h; exact hf0 h; exact h.2 hnb)), if_neg hsd]]; exact ⟨hy, hT2⟩), (hw.perm (l' := [(b6, cb ([y.vo, y.vl]) 55), (b8, cb (cE xe) 33), (b7, cb ([y.vo, y.vl]) 55), (b5, cb (cP p) 31)] ++ ((y.lo ++ y.ll) ++ ((t1, tabO mo m1) :: (m1, .map es2 ck) :: []))) (by (refine perm_cnt (fun _ => ?_)); simp only [cntB_append, cntB_cons, cntB_nil, Nat.add_zero, Nat.zero_add]; try ac_rfl)).drop (List.sublist_append_right _ _)⟩
      · skip
        by_cases hnb : xe.nb = fr
        · skip
          refine JC.region ?_
          refine J.move rfl rfl ?_
          refine J.not rfl rfl ?_
          refine J.move rfl rfl ?_
          first | refine J.skip rfl rfl rfl rfl rfl ?_ | refine J.skipU rfl rfl rfl rfl ?_ | (refine J.unguard rfl rfl rfl ?_; refine J.move rfl rfl ?_)
          first | refine J.skip rfl rfl rfl rfl rfl ?_ | refine J.skipU rfl rfl rfl rfl ?_ | (refine J.unguard rfl rfl rfl ?_; refine J.bin rfl rfl rfl rfl ?_; refine J.name 20 rfl (show _ = Value.bool false by simp; omega) ?_)
          (first | refine J.pickT rfl rfl rfl ?_ | refine J.pickF rfl rfl rfl ?_)
          refine J.move rfl rfl ?_
          first | refine J.skip rfl rfl rfl rfl rfl ?_ | refine J.skipU rfl rfl rfl rfl ?_ | (refine J.unguard rfl rfl rfl ?_; refine J.fieldAddr Ty.fd33_3 rfl rfl ?_)
          first | refine J.skip rfl rfl rfl rfl rfl ?_ | refine J.skipU rfl rfl rfl rfl ?_ | (refine J.unguard rfl rfl rfl ?_; refine J.loadO Ty.a3 rfl (by repeat first | exact .head _ | apply List.Mem.tail | apply List.mem_append_right) (by exact rfl) rfl ?_)
          first | refine J.skip rfl rfl rfl rfl rfl ?_ | refine J.skipU rfl rfl rfl rfl ?_ | (refine J.unguard rfl rfl rfl ?_; refine J.move rfl rfl ?_)
          first | refine J.skip rfl rfl rfl rfl rfl ?_ | refine J.skipU rfl rfl rfl rfl ?_ | (refine J.unguard rfl rfl rfl ?_; refine J.bin rfl rfl rfl rfl ?_; refine J.name 26 rfl (show _ = Value.bool true by simp [hna]) ?_)
          first | refine J.skip rfl rfl rfl rfl rfl ?_ | refine J.skipU rfl rfl rfl rfl ?_ | (refine J.unguard rfl rfl rfl ?_; refine J.move rfl rfl ?_)
          first | refine J.skip rfl rfl rfl rfl rfl ?_ | refine J.skipU rfl rfl rfl rfl ?_ | (refine J.unguard rfl rfl rfl ?_; refine J.fieldAddr Ty.fd33_4 rfl rfl ?_)
          first | refine J.skip rfl rfl rfl rfl rfl ?_ | refine J.skipU rfl rfl rfl rfl ?_ | (refine J.unguard rfl rfl rfl ?_; refine J.loadO Ty.a3 rfl (by repeat first | exact .head _ | apply List.Mem.tail | apply List.mem_append_right) (by exact rfl) rfl ?_)
          first | refine J.skip rfl rfl rfl rfl rfl ?_ | refine J.skipU rfl rfl rfl rfl ?_ | (refine J.unguard rfl rfl rfl ?_; refine J.move rfl rfl ?_)
          first | refine J.skip rfl rfl rfl rfl rfl ?_ | refine J.skipU rfl rfl rfl rfl ?_ | (refine J.unguard rfl rfl rfl ?_; refine J.bin rfl rfl rfl rfl ?_; refine J.name 31 rfl (show _ = Value.bool false by simp [hnb]) ?_)
          first | refine J.skip rfl rfl rfl rfl rfl ?_ | refine J.skipU rfl rfl rfl rfl ?_ | (refine J.unguard rfl rfl rfl ?_; (first | refine J.pickT rfl rfl rfl ?_ | refine J.pickF rfl rfl rfl ?_))
          (first | refine J.pickT rfl rfl rfl ?_ | refine J.pickF rfl rfl rfl ?_)
          refine J.nil ?_
          refine JX.thenN (hK7 _ _ ?_)
          first | refine JC.condF rfl ?_ | refine JC.cond rfl (fun h => by first | (exfalso; simp at h; omega) | (simp at h)) (fun _ => ?_)
          refine JC.skip ?_
          refine JX.thenN (hK6 _ _ ?_)
          refine JC.seq (fun K14 hK14 => ?_)
          refine JC.region ?_
          refine J.move rfl rfl ?_
          refine J.loadOA (vs := cP p) Ty.a31 Ty.s31 rfl (by repeat first | exact .head _ | apply List.Mem.tail | apply List.mem_append_right) (by exact rfl) rfl rfl ?_
          refine J.perm ([(t1, tabO mo m1), (m1, .map es ck)] ++ ((b8, cb (cE xe) 33) :: (b7, cb ([nilV, nilV]) 55) :: (b6, cb ([nilV, nilV]) 55) :: (b5, cb (cP p) 31) :: [])) (by (refine perm_cnt (fun _ => ?_)); simp only [cntB_append, cntB_cons, cntB_nil, Nat.add_zero, Nat.zero_add]; try ac_rfl) ?_
          refine J.callS (α := Array MapEntry) (V := fun _ => .tuple #[.agg (cE ((tget (L) p).getD zE)).toArray, .bool (tget (L) p).isSome]) (Pr := fun y => Tab (delL (L) p) y ck) (L := fun y => [(t1, tabO mo m1), (m1, .map y ck)]) (l1 := [(t1, tabO mo m1), (m1, .map es ck)]) Ty.bd41 rfl rfl (fun w1 hw => (remove_spec t1 m1 mo (L) es ck w1 hw.owns hT p hp).mono fun _ _ ⟨y, h1, h2, h3⟩ => ⟨y, h1, h2, h3⟩) (fun es2 hT2 => ?_)
          simp only [List.cons_append, List.nil_append]
          refine J.nil ?_
          refine JX.thenN (hK14 _ _ ?_)
          refine JC.seq (fun K15 hK15 => ?_)
          refine JC.seq (fun K16 hK16 => ?_)
          refine JC.region ?_
          refine J.fieldAddr Ty.fd33_3 rfl rfl ?_
          refine J.loadO Ty.a3 rfl (by repeat first | exact .head _ | apply List.Mem.tail | apply List.mem_append_right) (by exact rfl) rfl ?_
          refine J.move rfl rfl ?_
          refine J.bin rfl rfl rfl rfl ?_
          refine J.nil ?_
          refine JX.thenN (hK16 _ _ ?_)
          refine JC.cond rfl (fun h1 => ?_) (fun h1 => ?_)
          · skip
            have hsd : xe.na = fr := by simpa using h1
            refine JC.region ?_
            refine J.fieldAddr Ty.fd33_4 rfl rfl ?_
            refine J.loadO Ty.a3 rfl (by repeat first | exact .head _ | apply List.Mem.tail | apply List.mem_append_right) (by exact rfl) rfl ?_
            refine J.loadOA (vs := cP p) Ty.a31 Ty.s31 rfl (by repeat first | exact .head _ | apply List.Mem.tail | apply List.mem_append_right) rfl rfl rfl ?_
            refine J.perm (((b7, cb [noS.vo, noS.vl] 55) :: ([])) ++ ((b8, cb (cE xe) 33) :: (b6, cb ([nilV, nilV]) 55) :: (b5, cb (cP p) 31) :: ((t1, tabO mo m1) :: (m1, .map es2 ck) :: []))) (by (refine perm_cnt (fun _ => ?_)); simp only [cntB_append, cntB_cons, cntB_nil, Nat.add_zero, Nat.zero_add]; try ac_rfl) ?_
            refine J.callS (α := TS) (V := fun _ => .tuple #[]) (Pr := fun y => (hopT xe.nb p noT).is y) (L := fun y => (b7, cb [y.vo, y.vl] 55) :: (y.lo ++ y.ll)) (l1 := (b7, cb [noS.vo, noS.vl] 55) :: ([])) Ty.bd42 rfl rfl (fun w1 hw => (hop_spec b7 noT noS w1 hw.owns no_is (by decide) xe.nb p).mono fun _ _ ⟨y, h1, h2, h3⟩ => ⟨y, h1, h2, h3⟩) (fun y hy => ?_)
            simp only [List.cons_append, List.nil_append]
            refine J.nil ?_
            refine JX.thenN (hK15 _ _ ?_)
            refine JC.seq (fun K17 hK17 => ?_)
            refine JC.region ?_
            refine J.perm ((b7, cb ([y.vo, y.vl]) 55) :: (b8, cb (cE xe) 33) :: (b6, cb ([nilV, nilV]) 55) :: (b5, cb (cP p) 31) :: ((y.lo ++ y.ll) ++ ((t1, tabO mo m1) :: (m1, .map es2 ck) :: []))) (by (refine perm_cnt (fun _ => ?_)); simp only [cntB_append, cntB_cons, cntB_nil, Nat.add_zero, Nat.zero_add]; try ac_rfl) ?_
            refine J.loadOA (vs := [y.vo, y.vl]) Ty.a55 Ty.s55 rfl (by repeat first | exact .head _ | apply List.Mem.tail | apply List.mem_append_right) rfl rfl rfl ?_
            refine J.storeW (cs := [nilV, nilV]) (vs := [y.vo, y.vl]) Ty.s55 rfl rfl rfl rfl rfl (two_one hy) (by repeat first | exact .here | apply Up.there) ?_
            refine J.nil ?_
            refine JX.thenN (hK17 _ _ ?_)
            refine JC.ret ?_
            refine JX.retC rfl rfl Ty.a55 Ty.s55 (vs := [y.vo, y.vl]) rfl (fun w1 hw => Cells.of_block (hw.own ((b6, cb ([y.vo, y.vl]) 55)) (by repeat first | exact .head _ | apply List.Mem.tail | apply List.mem_append_right)) rfl) (fun w1 hw => ?_)
            exact ⟨(y, es2), rfl, (by rw [show (dropT L fr p) = (hopT xe.nb p noT, delL L p) from by unfold dropT; rw [hg]; simp only; rw [if_neg (by first | (intro h; rcases h with h | h; exact hf0 h; exact h.1 hna) | (intro h; rcases h with h | h; exact hf0 h; exact h.2 hnb)), if_pos hsd]]; exact ⟨hy, hT2⟩), (hw.perm (l' := [(b6, cb ([y.vo, y.vl]) 55), (b8, cb (cE xe) 33), (b7, cb ([y.vo, y.vl]) 55), (b5, cb (cP p) 31)] ++ ((y.lo ++ y.ll) ++ ((t1, tabO mo m1) :: (m1, .map es2 ck) :: []))) (by (refine perm_cnt (fun _ => ?_)); simp only [cntB_append, cntB_cons, cntB_nil, Nat.add_zero, Nat.zero_add]; try ac_rfl)).drop (List.sublist_append_right _ _)⟩
          · skip
            have hsd : ¬ xe.na = fr := by simpa using h1
            refine JC.region ?_
            refine J.fieldAddr Ty.fd33_3 rfl rfl ?_
            refine J.loadO Ty.a3 rfl (by repeat first | exact .head _ | apply List.Mem.tail | apply List.mem_append_right) (by exact rfl) rfl ?_
            refine J.loadOA (vs := cP p) Ty.a31 Ty.s31 rfl (by repeat first | exact .head _ | apply List.Mem.tail | apply List.mem_append_right) rfl rfl rfl ?_
            refine J.perm (((b7, cb [noS.vo, noS.vl] 55) :: ([])) ++ ((b8, cb (cE xe) 33) :: (b6, cb ([nilV, nilV]) 55) :: (b5, cb (cP p) 31) :: ((t1, tabO mo m1) :: (m1, .map es2 ck) :: []))) (by (refine perm_cnt (fun _ => ?_)); simp only [cntB_append, cntB_cons, cntB_nil, Nat.add_zero, Nat.zero_add]; try ac_rfl) ?_
            refine J.callS (α := TS) (V := fun _ => .tuple #[]) (Pr := fun y => (hopT xe.na p noT).is y) (L := fun y => (b7, cb [y.vo, y.vl] 55) :: (y.lo ++ y.ll)) (l1 := (b7, cb [noS.vo, noS.vl] 55) :: ([])) Ty.bd42 rfl rfl (fun w1 hw => (hop_spec b7 noT noS w1 hw.owns no_is (by decide) xe.na p).mono fun _ _ ⟨y, h1, h2, h3⟩ => ⟨y, h1, h2, h3⟩) (fun y hy => ?_)
            simp only [List.cons_append, List.nil_append]
            refine J.nil ?_
            refine JX.thenN (hK15 _ _ ?_)
            refine JC.seq (fun K18 hK18 => ?_)
            refine JC.region ?_
            refine J.perm ((b7, cb ([y.vo, y.vl]) 55) :: (b8, cb (cE xe) 33) :: (b6, cb ([nilV, nilV]) 55) :: (b5, cb (cP p) 31) :: ((y.lo ++ y.ll) ++ ((t1, tabO mo m1) :: (m1, .map es2 ck) :: []))) (by (refine perm_cnt (fun _ => ?_)); simp only [cntB_append, cntB_cons, cntB_nil, Nat.add_zero, Nat.zero_add]; try ac_rfl) ?_
            refine J.loadOA (vs := [y.vo, y.vl]) Ty.a55 Ty.s55 rfl (by repeat first | exact .head _ | apply List.Mem.tail | apply List.mem_append_right) rfl rfl rfl ?_
            refine J.storeW (cs := [nilV, nilV]) (vs := [y.vo, y.vl]) Ty.s55 rfl rfl rfl rfl rfl (two_one hy) (by repeat first | exact .here | apply Up.there) ?_
            refine J.nil ?_
            refine JX.thenN (hK18 _ _ ?_)
            refine JC.ret ?_
            refine JX.retC rfl rfl Ty.a55 Ty.s55 (vs := [y.vo, y.vl]) rfl (fun w1 hw => Cells.of_block (hw.own ((b6, cb ([y.vo, y.vl]) 55)) (by repeat first | exact .head _ | apply List.Mem.tail | apply List.mem_append_right)) rfl) (fun w1 hw => ?_)
            exact ⟨(y, es2), rfl, (by rw [show (dropT L fr p) = (hopT xe.na p noT, delL L p) from by unfold dropT; rw [hg]; simp only; rw [if_neg (by first | (intro h; rcases h with h | h; exact hf0 h; exact h.1 hna) | (intro h; rcases h with h | h; exact hf0 h; exact h.2 hnb)), if_neg hsd]]; exact ⟨hy, hT2⟩), (hw.perm (l' := [(b6, cb ([y.vo, y.vl]) 55), (b8, cb (cE xe) 33), (b7, cb ([y.vo, y.vl]) 55), (b5, cb (cP p) 31)] ++ ((y.lo ++ y.ll) ++ ((t1, tabO mo m1) :: (m1, .map es2 ck) :: []))) (by (refine perm_cnt (fun _ => ?_)); simp only [cntB_append, cntB_cons, cntB_nil, Nat.add_zero, Nat.zero_add]; try ac_rfl)).drop (List.sublist_append_right _ _)⟩
        · skip
          refine JC.region ?_
          refine J.move rfl rfl ?_
          refine J.not rfl rfl ?_
          refine J.move rfl rfl ?_
          first | refine J.skip rfl rfl rfl rfl rfl ?_ | refine J.skipU rfl rfl rfl rfl ?_ | (refine J.unguard rfl rfl rfl ?_; refine J.move rfl rfl ?_)
          first | refine J.skip rfl rfl rfl rfl rfl ?_ | refine J.skipU rfl rfl rfl rfl ?_ | (refine J.unguard rfl rfl rfl ?_; refine J.bin rfl rfl rfl rfl ?_; refine J.name 20 rfl (show _ = Value.bool false by simp; omega) ?_)
          (first | refine J.pickT rfl rfl rfl ?_ | refine J.pickF rfl rfl rfl ?_)
          refine J.move rfl rfl ?_
          first | refine J.skip rfl rfl rfl rfl rfl ?_ | refine J.skipU rfl rfl rfl rfl ?_ | (refine J.unguard rfl rfl rfl ?_; refine J.fieldAddr Ty.fd33_3 rfl rfl ?_)
          first | refine J.skip rfl rfl rfl rfl rfl ?_ | refine J.skipU rfl rfl rfl rfl ?_ | (refine J.unguard rfl rfl rfl ?_; refine J.loadO Ty.a3 rfl (by repeat first | exact .head _ | apply List.Mem.tail | apply List.mem_append_right) (by exact rfl) rfl ?_)
          first | refine J.skip rfl rfl rfl rfl rfl ?_ | refine J.skipU rfl rfl rfl rfl ?_ | (refine J.unguard rfl rfl rfl ?_; refine J.move rfl rfl ?_)
          first | refine J.skip rfl rfl rfl rfl rfl ?_ | refine J.skipU rfl rfl rfl rfl ?_ | (refine J.unguard rfl rfl rfl ?_; refine J.bin rfl rfl rfl rfl ?_; refine J.name 26 rfl (show _ = Value.bool true by simp [hna]) ?_)
          first | refine J.skip rfl rfl rfl rfl rfl ?_ | refine J.skipU rfl rfl rfl rfl ?_ | (refine J.unguard rfl rfl rfl ?_; refine J.move rfl rfl ?_)
          first | refine J.skip rfl rfl rfl rfl rfl ?_ | refine J.skipU rfl rfl rfl rfl ?_ | (refine J.unguard rfl rfl rfl ?_; refine J.fieldAddr Ty.fd33_4 rfl rfl ?_)
          first | refine J.skip rfl rfl rfl rfl rfl ?_ | refine J.skipU rfl rfl rfl rfl ?_ | (refine J.unguard rfl rfl rfl ?_; refine J.loadO Ty.a3 rfl (by repeat first | exact .head _ | apply List.Mem.tail | apply List.mem_append_right) (by exact rfl) rfl ?_)
          first | refine J.skip rfl rfl rfl rfl rfl ?_ | refine J.skipU rfl rfl rfl rfl ?_ | (refine J.unguard rfl rfl rfl ?_; refine J.move rfl rfl ?_)
          first | refine J.skip rfl rfl rfl rfl rfl ?_ | refine J.skipU rfl rfl rfl rfl ?_ | (refine J.unguard rfl rfl rfl ?_; refine J.bin rfl rfl rfl rfl ?_; refine J.name 31 rfl (show _ = Value.bool true by simp [hnb]) ?_)
          first | refine J.skip rfl rfl rfl rfl rfl ?_ | refine J.skipU rfl rfl rfl rfl ?_ | (refine J.unguard rfl rfl rfl ?_; (first | refine J.pickT rfl rfl rfl ?_ | refine J.pickF rfl rfl rfl ?_))
          (first | refine J.pickT rfl rfl rfl ?_ | refine J.pickF rfl rfl rfl ?_)
          refine J.nil ?_
          refine JX.thenN (hK7 _ _ ?_)
          first | refine JC.condT rfl ?_ | refine JC.cond rfl (fun _ => ?_) (fun h => by first | (exfalso; simp at h; omega) | (simp at h))
          refine JC.seq (fun K19 hK19 => ?_)
          refine JC.region ?_
          refine J.loadOA (vs := [nilV, nilV]) Ty.a55 Ty.s55 rfl (by repeat first | exact .head _ | apply List.Mem.tail | apply List.mem_append_right) rfl rfl rfl ?_
          refine J.storeW (cs := [nilV, nilV]) (vs := [nilV, nilV]) Ty.s55 rfl rfl rfl rfl rfl (by simp [Value.oneCell']) (by repeat first | exact .here | apply Up.there) ?_
          refine J.nil ?_
          refine JX.thenN (hK19 _ _ ?_)
          refine JC.ret ?_
          refine JX.thenR ?_
          refine JX.retC rfl rfl Ty.a55 Ty.s55 (vs := [nilV, nilV]) rfl (fun w1 hw => Cells.of_block (hw.own ((b6, cb ([nilV, nilV]) 55)) (by repeat first | exact .head _ | apply List.Mem.tail | apply List.mem_append_right)) rfl) (fun w1 hw => ?_)
          exact ⟨(noS, es), rfl, (by rw [show (dropT L fr p) = (noT, L) from by unfold dropT; rw [hg]; simp only; rw [if_pos (.inr ⟨hna, hnb⟩)]]; exact ⟨no_is, hT⟩), (hw.perm (l' := [(b6, cb ([nilV, nilV]) 55), (b8, cb (cE xe) 33), (b7, cb ([nilV, nilV]) 55), (b5, cb (cP p) 31)] ++ ((t1, tabO mo m1) :: (m1, .map es ck) :: [])) (by (refine perm_cnt (fun _ => ?_)); simp only [cntB_append, cntB_cons, cntB_nil, Nat.add_zero, Nat.zero_add]; try ac_rfl)).drop (List.sublist_append_right _ _)⟩

set_option maxHeartbeats 2000000 in
theorem tend_spec (t1 m1 : Nat) (mo : Int) (L : List EV) (es : Array MapEntry) (ck : Nat) (w : World) (hw0 : Own w [(t1, tabO mo m1), (m1, .map es ck)]) (hT : Tab L es ck) (p : PV) (hp : okN p.n) :
    Calls Tryz.prog 19 [.pointer (some ⟨t1, 0, none⟩), .agg (cP p).toArray].toArray w fun r w' => ∃ y : TS × Array MapEntry, r = .returned (.agg [y.1.vo, y.1.vl].toArray) ∧ ((endT L p).1.is y.1 ∧ Tab (endT L p).2 y.2 ck) ∧ St w [t1, m1] ((y.1.lo ++ y.1.ll) ++ [(t1, tabO mo m1), (m1, .map y.2 ck)]) w' := by
  refine calls_of_J (args := [.pointer (some ⟨t1, 0, none⟩), .agg (cP p).toArray]) (e := [(0, .pointer (some ⟨t1, 0, none⟩)), (1, .agg (cP p).toArray)]) Tryz.func19 rfl rfl ⟨rfl, rfl, trivial⟩ (hw0.st) ?_
  refine JC.seq (fun K0 hK0 => ?_)
  refine JC.region ?_
  refine J.box rfl rfl rfl (fun b3 => ?_)
  refine J.alloc zTq rfl rfl (fun b4 => ?_)
  refine J.nil ?_
  refine JX.thenN (hK0 _ _ ?_)
  refine JC.seq (fun K1 hK1 => ?_)
  refine JC.region ?_
  refine J.alloc zTq rfl rfl (fun b5 => ?_)
  refine J.nil ?_
  refine JX.thenN (hK1 _ _ ?_)
  refine JC.seq (fun K2 hK2 => ?_)
  cases hg : tget L p with
  | none =>
    refine JC.region ?_
    refine J.move rfl rfl ?_
    refine J.loadOA (vs := cP p) Ty.a31 Ty.s31 rfl (by repeat first | exact .head _ | apply List.Mem.tail | apply List.mem_append_right) (by exact rfl) rfl rfl ?_
    refine J.callB (v := .tuple #[.agg (cE ((tget L p).getD zE)).toArray, .bool (tget L p).isSome]) (fun w1 w2 hw hb => hw.step hb) Ty.bd40 rfl rfl (fun w1 hw => get_spec t1 m1 mo L es ck w1 (St.owns (l1 := [(t1, tabO mo m1), (m1, .map es ck)]) (l := [(b5, cb ([nilV, nilV]) 55), (b4, cb ([nilV, nilV]) 55), (b3, cb (cP p) 31)]) (hw.perm (by (refine perm_cnt (fun _ => ?_)); simp only [cntB_append, cntB_cons, cntB_nil, Nat.add_zero, Nat.zero_add]; try ac_rfl))) hT p hp) ?_
    refine J.name 11 rfl (show _ = Value.tuple #[.agg (cE zE).toArray, .bool false] by rw [hg]; rfl) ?_
    refine J.move rfl rfl ?_
    refine J.extract rfl rfl rfl ?_
    refine J.extract rfl rfl rfl ?_
    refine J.alloc Ty.zE_ rfl rfl (fun b6 => ?_)
    refine J.storeW (cs := cE zE) (vs := cE zE) Ty.s33 rfl rfl rfl rfl rfl (one_cE _) .here ?_
    refine J.assign rfl rfl ?_
    refine J.nil ?_
    refine JX.thenN (hK2 _ _ ?_)
    refine JC.seq (fun K3 hK3 => ?_)
    refine JC.seq (fun K4 hK4 => ?_)
    refine JC.region ?_
    refine J.move rfl rfl ?_
    refine J.not rfl rfl ?_
    refine J.move rfl rfl ?_
    first | refine J.skip rfl rfl rfl rfl rfl ?_ | refine J.skipU rfl rfl rfl rfl ?_ | (refine J.unguard rfl rfl rfl ?_; refine J.fieldAddr Ty.fd33_3 rfl rfl ?_)
    first | refine J.skip rfl rfl rfl rfl rfl ?_ | refine J.skipU rfl rfl rfl rfl ?_ | (refine J.unguard rfl rfl rfl ?_; refine J.loadO Ty.a3 rfl (by repeat first | exact .head _ | apply List.Mem.tail | apply List.mem_append_right) (by exact rfl) rfl ?_)
    first | refine J.skip rfl rfl rfl rfl rfl ?_ | refine J.skipU rfl rfl rfl rfl ?_ | (refine J.unguard rfl rfl rfl ?_; skip)
    first | refine J.skip rfl rfl rfl rfl rfl ?_ | refine J.skipU rfl rfl rfl rfl ?_ | (refine J.unguard rfl rfl rfl ?_; refine J.move rfl rfl ?_)
    first | refine J.skip rfl rfl rfl rfl rfl ?_ | refine J.skipU rfl rfl rfl rfl ?_ | (refine J.unguard rfl rfl rfl ?_; refine J.fieldAddr Ty.fd33_4 rfl rfl ?_)
    first | refine J.skip rfl rfl rfl rfl rfl ?_ | refine J.skipU rfl rfl rfl rfl ?_ | (refine J.unguard rfl rfl rfl ?_; refine J.loadO Ty.a3 rfl (by repeat first | exact .head _ | apply List.Mem.tail | apply List.mem_append_right) (by exact rfl) rfl ?_)
    first | refine J.skip rfl rfl rfl rfl rfl ?_ | refine J.skipU rfl rfl rfl rfl ?_ | (refine J.unguard rfl rfl rfl ?_; skip)
    first | refine J.skip rfl rfl rfl rfl rfl ?_ | refine J.skipU rfl rfl rfl rfl ?_ | (refine J.unguard rfl rfl rfl ?_; (first | refine J.pickT rfl rfl rfl ?_ | refine J.pickF rfl rfl rfl ?_))
    (first | refine J.pickT rfl rfl rfl ?_ | refine J.pickF rfl rfl rfl ?_)
    refine J.nil ?_
    refine JX.thenN (hK4 _ _ ?_)
    first | refine JC.condT rfl ?_ | refine JC.cond rfl (fun _ => ?_) (fun h => by first | (exfalso; simp at h; omega) | (simp at h))
    refine JC.seq (fun K5 hK5 => ?_)
    refine JC.region ?_
    refine J.loadOA (vs := [nilV, nilV]) Ty.a55 Ty.s55 rfl (by repeat first | exact .head _ | apply List.Mem.tail | apply List.mem_append_right) rfl rfl rfl ?_
    refine J.storeW (cs := [nilV, nilV]) (vs := [nilV, nilV]) Ty.s55 rfl rfl rfl rfl rfl (by simp [Value.oneCell']) (by repeat first | exact .here | apply Up.there) ?_
    refine J.nil ?_
    refine JX.thenN (hK5 _ _ ?_)
    refine JC.ret ?_
    refine JX.thenR ?_
    refine JX.retC rfl rfl Ty.a55 Ty.s55 (vs := [nilV, nilV]) rfl (fun w1 hw => Cells.of_block (hw.own ((b4, cb ([nilV, nilV]) 55)) (by repeat first | exact .head _ | apply List.Mem.tail | apply List.mem_append_right)) rfl) (fun w1 hw => ?_)
    exact ⟨(noS, es), rfl, (by rw [show (endT L p) = (noT, L) from by unfold endT; rw [hg]]; exact ⟨no_is, hT⟩), (hw.perm (l' := [(b4, cb ([nilV, nilV]) 55), (b6, cb (cE zE) 33), (b5, cb ([nilV, nilV]) 55), (b3, cb (cP p) 31)] ++ ((t1, tabO mo m1) :: (m1, .map es ck) :: [])) (by (refine perm_cnt (fun _ => ?_)); simp only [cntB_append, cntB_cons, cntB_nil, Nat.add_zero, Nat.zero_add]; try ac_rfl)).drop (List.sublist_append_right _ _)⟩
  | some xe =>
    have hxL : xe ∈ L := List.mem_of_find?_eq_some hg
    refine JC.region ?_
    refine J.move rfl rfl ?_
    refine J.loadOA (vs := cP p) Ty.a31 Ty.s31 rfl (by repeat first | exact .head _ | apply List.Mem.tail | apply List.mem_append_right) (by exact rfl) rfl rfl ?_
    refine J.callB (v := .tuple #[.agg (cE ((tget L p).getD zE)).toArray, .bool (tget L p).isSome]) (fun w1 w2 hw hb => hw.step hb) Ty.bd40 rfl rfl (fun w1 hw => get_spec t1 m1 mo L es ck w1 (St.owns (l1 := [(t1, tabO mo m1), (m1, .map es ck)]) (l := [(b5, cb ([nilV, nilV]) 55), (b4, cb ([nilV, nilV]) 55), (b3, cb (cP p) 31)]) (hw.perm (by (refine perm_cnt (fun _ => ?_)); simp only [cntB_append, cntB_cons, cntB_nil, Nat.add_zero, Nat.zero_add]; try ac_rfl))) hT p hp) ?_
    refine J.name 11 rfl (show _ = Value.tuple #[.agg (cE xe).toArray, .bool true] by rw [hg]; rfl) ?_
    refine J.move rfl rfl ?_
    refine J.extract rfl rfl rfl ?_
    refine J.extract rfl rfl rfl ?_
    refine J.alloc Ty.zE_ rfl rfl (fun b6 => ?_)
    refine J.storeW (cs := cE zE) (vs := cE xe) Ty.s33 rfl rfl rfl rfl rfl (one_cE _) .here ?_
    refine J.assign rfl rfl ?_
    refine J.nil ?_
    refine JX.thenN (hK2 _ _ ?_)
    refine JC.seq (fun K6 hK6 => ?_)
    refine JC.seq (fun K7 hK7 => ?_)
    by_cases hcA : 0 ≤ xe.na
    · skip
      by_cases hcB : 0 ≤ xe.nb
      · skip
        refine JC.region ?_
        refine J.move rfl rfl ?_
        refine J.not rfl rfl ?_
        refine J.move rfl rfl ?_
        first | refine J.skip rfl rfl rfl rfl rfl ?_ | refine J.skipU rfl rfl rfl rfl ?_ | (refine J.unguard rfl rfl rfl ?_; refine J.fieldAddr Ty.fd33_3 rfl rfl ?_)
        first | refine J.skip rfl rfl rfl rfl rfl ?_ | refine J.skipU rfl rfl rfl rfl ?_ | (refine J.unguard rfl rfl rfl ?_; refine J.loadO Ty.a3 rfl (by repeat first | exact .head _ | apply List.Mem.tail | apply List.mem_append_right) (by exact rfl) rfl ?_)
        first | refine J.skip rfl rfl rfl rfl rfl ?_ | refine J.skipU rfl rfl rfl rfl ?_ | (refine J.unguard rfl rfl rfl ?_; refine J.bin rfl rfl rfl rfl ?_; refine J.name 19 rfl (show _ = Value.bool true by simp; omega) ?_)
        first | refine J.skip rfl rfl rfl rfl rfl ?_ | refine J.skipU rfl rfl rfl rfl ?_ | (refine J.unguard rfl rfl rfl ?_; refine J.move rfl rfl ?_)
        first | refine J.skip rfl rfl rfl rfl rfl ?_ | refine J.skipU rfl rfl rfl rfl ?_ | (refine J.unguard rfl rfl rfl ?_; refine J.fieldAddr Ty.fd33_4 rfl rfl ?_)
        first | refine J.skip rfl rfl rfl rfl rfl ?_ | refine J.skipU rfl rfl rfl rfl ?_ | (refine J.unguard rfl rfl rfl ?_; refine J.loadO Ty.a3 rfl (by repeat first | exact .head _ | apply List.Mem.tail | apply List.mem_append_right) (by exact rfl) rfl ?_)
        first | refine J.skip rfl rfl rfl rfl rfl ?_ | refine J.skipU rfl rfl rfl rfl ?_ | (refine J.unguard rfl rfl rfl ?_; refine J.bin rfl rfl rfl rfl ?_; refine J.name 23 rfl (show _ = Value.bool true by simp; omega) ?_)
        first | refine J.skip rfl rfl rfl rfl rfl ?_ | refine J.skipU rfl rfl rfl rfl ?_ | (refine J.unguard rfl rfl rfl ?_; (first | refine J.pickT rfl rfl rfl ?_ | refine J.pickF rfl rfl rfl ?_))
        (first | refine J.pickT rfl rfl rfl ?_ | refine J.pickF rfl rfl rfl ?_)
        refine J.nil ?_
        refine JX.thenN (hK7 _ _ ?_)
        first | refine JC.condT rfl ?_ | refine JC.cond rfl (fun _ => ?_) (fun h => by first | (exfalso; simp at h; omega) | (simp at h))
        refine JC.seq (fun K8 hK8 => ?_)
        refine JC.region ?_
        refine J.loadOA (vs := [nilV, nilV]) Ty.a55 Ty.s55 rfl (by repeat first | exact .head _ | apply List.Mem.tail | apply List.mem_append_right) rfl rfl rfl ?_
        refine J.storeW (cs := [nilV, nilV]) (vs := [nilV, nilV]) Ty.s55 rfl rfl rfl rfl rfl (by simp [Value.oneCell']) (by repeat first | exact .here | apply Up.there) ?_
        refine J.nil ?_
        refine JX.thenN (hK8 _ _ ?_)
        refine JC.ret ?_
        refine JX.thenR ?_
        refine JX.retC rfl rfl Ty.a55 Ty.s55 (vs := [nilV, nilV]) rfl (fun w1 hw => Cells.of_block (hw.own ((b4, cb ([nilV, nilV]) 55)) (by repeat first | exact .head _ | apply List.Mem.tail | apply List.mem_append_right)) rfl) (fun w1 hw => ?_)
        exact ⟨(noS, es), rfl, (by rw [show (endT L p) = (noT, L) from by unfold endT; rw [hg]; simp only; rw [if_pos ⟨hcA, hcB⟩]]; exact ⟨no_is, hT⟩), (hw.perm (l' := [(b4, cb ([nilV, nilV]) 55), (b6, cb (cE xe) 33), (b5, cb ([nilV, nilV]) 55), (b3, cb (cP p) 31)] ++ ((t1, tabO mo m1) :: (m1, .map es ck) :: [])) (by (refine perm_cnt (fun _ => ?_)); simp only [cntB_append, cntB_cons, cntB_nil, Nat.add_zero, Nat.zero_add]; try ac_rfl)).drop (List.sublist_append_right _ _)⟩
      · skip
        refine JC.region ?_
        refine J.move rfl rfl ?_
        refine J.not rfl rfl ?_
        refine J.move rfl rfl ?_
        first | refine J.skip rfl rfl rfl rfl rfl ?_ | refine J.skipU rfl rfl rfl rfl ?_ | (refine J.unguard rfl rfl rfl ?_; refine J.fieldAddr Ty.fd33_3 rfl rfl ?_)
        first | refine J.skip rfl rfl rfl rfl rfl ?_ | refine J.skipU rfl rfl rfl rfl ?_ | (refine J.unguard rfl rfl rfl ?_; refine J.loadO Ty.a3 rfl (by repeat first | exact .head _ | apply List.Mem.tail | apply List.mem_append_right) (by exact rfl) rfl ?_)
        first | refine J.skip rfl rfl rfl rfl rfl ?_ | refine J.skipU rfl rfl rfl rfl ?_ | (refine J.unguard rfl rfl rfl ?_; refine J.bin rfl rfl rfl rfl ?_; refine J.name 19 rfl (show _ = Value.bool true by simp; omega) ?_)
        first | refine J.skip rfl rfl rfl rfl rfl ?_ | refine J.skipU rfl rfl rfl rfl ?_ | (refine J.unguard rfl rfl rfl ?_; refine J.move rfl rfl ?_)
        first | refine J.skip rfl rfl rfl rfl rfl ?_ | refine J.skipU rfl rfl rfl rfl ?_ | (refine J.unguard rfl rfl rfl ?_; refine J.fieldAddr Ty.fd33_4 rfl rfl ?_)
        first | refine J.skip rfl rfl rfl rfl rfl ?_ | refine J.skipU rfl rfl rfl rfl ?_ | (refine J.unguard rfl rfl rfl ?_; refine J.loadO Ty.a3 rfl (by repeat first | exact .head _ | apply List.Mem.tail | apply List.mem_append_right) (by exact rfl) rfl ?_)
        first | refine J.skip rfl rfl rfl rfl rfl ?_ | refine J.skipU rfl rfl rfl rfl ?_ | (refine J.unguard rfl rfl rfl ?_; refine J.bin rfl rfl rfl rfl ?_; refine J.name 23 rfl (show _ = Value.bool false by simp; omega) ?_)
        first | refine J.skip rfl rfl rfl rfl rfl ?_ | refine J.skipU rfl rfl rfl rfl ?_ | (refine J.unguard rfl rfl rfl ?_; (first | refine J.pickT rfl rfl rfl ?_ | refine J.pickF rfl rfl rfl ?_))
        (first | refine J.pickT rfl rfl rfl ?_ | refine J.pickF rfl rfl rfl ?_)
        refine J.nil ?_
        refine JX.thenN (hK7 _ _ ?_)
        first | refine JC.condF rfl ?_ | refine JC.cond rfl (fun h => by first | (exfalso; simp at h; omega) | (simp at h)) (fun _ => ?_)
        refine JC.skip ?_
        refine JX.thenN (hK6 _ _ ?_)
        refine JC.seq (fun K9 hK9 => ?_)
        refine JC.region ?_
        refine J.move rfl rfl ?_
        refine J.loadOA (vs := cP p) Ty.a31 Ty.s31 rfl (by repeat first | exact .head _ | apply List.Mem.tail | apply List.mem_append_right) (by exact rfl) rfl rfl ?_
        refine J.perm ([(t1, tabO mo m1), (m1, .map es ck)] ++ ((b6, cb (cE xe) 33) :: (b5, cb ([nilV, nilV]) 55) :: (b4, cb ([nilV, nilV]) 55) :: (b3, cb (cP p) 31) :: [])) (by (refine perm_cnt (fun _ => ?_)); simp only [cntB_append, cntB_cons, cntB_nil, Nat.add_zero, Nat.zero_add]; try ac_rfl) ?_
        refine J.callS (α := Array MapEntry) (V := fun _ => .tuple #[.agg (cE ((tget (L) p).getD zE)).toArray, .bool (tget (L) p).isSome]) (Pr := fun y => Tab (delL (L) p) y ck) (L := fun y => [(t1, tabO mo m1), (m1, .map y ck)]) (l1 := [(t1, tabO mo m1), (m1, .map es ck)]) Ty.bd41 rfl rfl (fun w1 hw => (remove_spec t1 m1 mo (L) es ck w1 hw.owns hT p hp).mono fun _ _ ⟨y, h1, h2, h3⟩ => ⟨y, h1, h2, h3⟩) (fun es2 hT2 => ?_)
        simp only [List.cons_append, List.nil_append]
        refine J.nil ?_
        refine JX.thenN (hK9 _ _ ?_)
        refine JC.seq (fun K10 hK10 => ?_)
        refine JC.region ?_
        refine J.fieldAddr Ty.fd33_3 rfl rfl ?_
        refine J.loadO Ty.a3 rfl (by repeat first | exact .head _ | apply List.Mem.tail | apply List.mem_append_right) (by exact rfl) rfl ?_
        refine J.loadOA (vs := cP p) Ty.a31 Ty.s31 rfl (by repeat first | exact .head _ | apply List.Mem.tail | apply List.mem_append_right) rfl rfl rfl ?_
        refine J.perm (((b5, cb [noS.vo, noS.vl] 55) :: ([])) ++ ((b6, cb (cE xe) 33) :: (b4, cb ([nilV, nilV]) 55) :: (b3, cb (cP p) 31) :: ((t1, tabO mo m1) :: (m1, .map es2 ck) :: []))) (by (refine perm_cnt (fun _ => ?_)); simp only [cntB_append, cntB_cons, cntB_nil, Nat.add_zero, Nat.zero_add]; try ac_rfl) ?_
        refine J.callS (α := TS) (V := fun _ => .tuple #[]) (Pr := fun y => (hopT xe.na p noT).is y) (L := fun y => (b5, cb [y.vo, y.vl] 55) :: (y.lo ++ y.ll)) (l1 := (b5, cb [noS.vo, noS.vl] 55) :: ([])) Ty.bd42 rfl rfl (fun w1 hw => (hop_spec b5 noT noS w1 hw.owns no_is (by decide) xe.na p).mono fun _ _ ⟨y, h1, h2, h3⟩ => ⟨y, h1, h2, h3⟩) (fun y1 hy1 => ?_)
        simp only [List.cons_append, List.nil_append]
        refine J.nil ?_
        refine JX.thenN (hK10 _ _ ?_)
        refine JC.seq (fun K11 hK11 => ?_)
        refine JC.region ?_
        refine J.fieldAddr Ty.fd33_4 rfl rfl ?_
        refine J.loadO Ty.a3 rfl (by repeat first | exact .head _ | apply List.Mem.tail | apply List.mem_append_right) (by exact rfl) rfl ?_
        refine J.loadOA (vs := cP p) Ty.a31 Ty.s31 rfl (by repeat first | exact .head _ | apply List.Mem.tail | apply List.mem_append_right) rfl rfl rfl ?_
        refine J.perm (((b5, cb [y1.vo, y1.vl] 55) :: (y1.lo ++ y1.ll)) ++ ((b6, cb (cE xe) 33) :: (b4, cb ([nilV, nilV]) 55) :: (b3, cb (cP p) 31) :: ((t1, tabO mo m1) :: (m1, .map es2 ck) :: []))) (by (refine perm_cnt (fun _ => ?_)); simp only [cntB_append, cntB_cons, cntB_nil, Nat.add_zero, Nat.zero_add]; try ac_rfl) ?_
        refine J.callS (α := TS) (V := fun _ => .tuple #[]) (Pr := fun y => (hopT xe.nb p (hopT xe.na p noT)).is y) (L := fun y => (b5, cb [y.vo, y.vl] 55) :: (y.lo ++ y.ll)) (l1 := (b5, cb [y1.vo, y1.vl] 55) :: (y1.lo ++ y1.ll)) Ty.bd42 rfl rfl (fun w1 hw => (hop_spec b5 (hopT xe.na p noT) y1 w1 hw.owns hy1 (by rw [hop_len]; decide) xe.nb p).mono fun _ _ ⟨y, h1, h2, h3⟩ => ⟨y, h1, h2, h3⟩) (fun y hy => ?_)
        simp only [List.cons_append, List.nil_append]
        refine J.nil ?_
        refine JX.thenN (hK11 _ _ ?_)
        refine JC.seq (fun K12 hK12 => ?_)
        refine JC.region ?_
        refine J.perm ((b5, cb ([y.vo, y.vl]) 55) :: (b6, cb (cE xe) 33) :: (b4, cb ([nilV, nilV]) 55) :: (b3, cb (cP p) 31) :: ((y.lo ++ y.ll) ++ ((t1, tabO mo m1) :: (m1, .map es2 ck) :: []))) (by (refine perm_cnt (fun _ => ?_)); simp only [cntB_append, cntB_cons, cntB_nil, Nat.add_zero, Nat.zero_add]; try ac_rfl) ?_
        refine J.loadOA (vs := [y.vo, y.vl]) Ty.a55 Ty.s55 rfl (by repeat first | exact .head _ | apply List.Mem.tail | apply List.mem_append_right) rfl rfl rfl ?_
        refine J.storeW (cs := [nilV, nilV]) (vs := [y.vo, y.vl]) Ty.s55 rfl rfl rfl rfl rfl (two_one hy) (by repeat first | exact .here | apply Up.there) ?_
        refine J.nil ?_
        refine JX.thenN (hK12 _ _ ?_)
        refine JC.ret ?_
        refine JX.retC rfl rfl Ty.a55 Ty.s55 (vs := [y.vo, y.vl]) rfl (fun w1 hw => Cells.of_block (hw.own ((b4, cb ([y.vo, y.vl]) 55)) (by repeat first | exact .head _ | apply List.Mem.tail | apply List.mem_append_right)) rfl) (fun w1 hw => ?_)
        exact ⟨(y, es2), rfl, (by rw [show (endT L p) = (hopT xe.nb p (hopT xe.na p noT), delL L p) from by unfold endT; rw [hg]; simp only; rw [if_neg (by first | exact hcB | exact fun h => hcB h.2)]]; exact ⟨hy, hT2⟩), (hw.perm (l' := [(b4, cb ([y.vo, y.vl]) 55), (b6, cb (cE xe) 33), (b5, cb ([y.vo, y.vl]) 55), (b3, cb (cP p) 31)] ++ ((y.lo ++ y.ll) ++ ((t1, tabO mo m1) :: (m1, .map es2 ck) :: []))) (by (refine perm_cnt (fun _ => ?_)); simp only [cntB_append, cntB_cons, cntB_nil, Nat.add_zero, Nat.zero_add]; try ac_rfl)).drop (List.sublist_append_right _ _)⟩
    · skip
      have hcB : ¬ (0 ≤ xe.na ∧ 0 ≤ xe.nb) := fun h => hcA h.1
      refine JC.region ?_
      refine J.move rfl rfl ?_
      refine J.not rfl rfl ?_
      refine J.move rfl rfl ?_
      first | refine J.skip rfl rfl rfl rfl rfl ?_ | refine J.skipU rfl rfl rfl rfl ?_ | (refine J.unguard rfl rfl rfl ?_; refine J.fieldAddr Ty.fd33_3 rfl rfl ?_)
      first | refine J.skip rfl rfl rfl rfl rfl ?_ | refine J.skipU rfl rfl rfl rfl ?_ | (refine J.unguard rfl rfl rfl ?_; refine J.loadO Ty.a3 rfl (by repeat first | exact .head _ | apply List.Mem.tail | apply List.mem_append_right) (by exact rfl) rfl ?_)
      first | refine J.skip rfl rfl rfl rfl rfl ?_ | refine J.skipU rfl rfl rfl rfl ?_ | (refine J.unguard rfl rfl rfl ?_; refine J.bin rfl rfl rfl rfl ?_; refine J.name 19 rfl (show _ = Value.bool false by simp; omega) ?_)
      first | refine J.skip rfl rfl rfl rfl rfl ?_ | refine J.skipU rfl rfl rfl rfl ?_ | (refine J.unguard rfl rfl rfl ?_; refine J.move rfl rfl ?_)
      first | refine J.skip rfl rfl rfl rfl rfl ?_ | refine J.skipU rfl rfl rfl rfl ?_ | (refine J.unguard rfl rfl rfl ?_; refine J.fieldAddr Ty.fd33_4 rfl rfl ?_)
      first | refine J.skip rfl rfl rfl rfl rfl ?_ | refine J.skipU rfl rfl rfl rfl ?_ | (refine J.unguard rfl rfl rfl ?_; refine J.loadO Ty.a3 rfl (by repeat first | exact .head _ | apply List.Mem.tail | apply List.mem_append_right) (by exact rfl) rfl ?_)
      first | refine J.skip rfl rfl rfl rfl rfl ?_ | refine J.skipU rfl rfl rfl rfl ?_ | (refine J.unguard rfl rfl rfl ?_; skip)
      first | refine J.skip rfl rfl rfl rfl rfl ?_ | refine J.skipU rfl rfl rfl rfl ?_ | (refine J.unguard rfl rfl rfl ?_; (first | refine J.pickT rfl rfl rfl ?_ | refine J.pickF rfl rfl rfl ?_))
      (first | refine J.pickT rfl rfl rfl ?_ | refine J.pickF rfl rfl rfl ?_)
      refine J.nil ?_
      refine JX.thenN (hK7 _ _ ?_)
      first | refine JC.condF rfl ?_ | refine JC.cond rfl (fun h => by first | (exfalso; simp at h; omega) | (simp at h)) (fun _ => ?_)
      refine JC.skip ?_
      refine JX.thenN (hK6 _ _ ?_)
      refine JC.seq (fun K13 hK13 => ?_)
      refine JC.region ?_
      refine J.move rfl rfl ?_
      refine J.loadOA (vs := cP p) Ty.a31 Ty.s31 rfl (by repeat first | exact .head _ | apply List.Mem.tail | apply List.mem_append_right) (by exact rfl) rfl rfl ?_
      refine J.perm ([(t1, tabO mo m1), (m1, .map es ck)] ++ ((b6, cb (cE xe) 33) :: (b5, cb ([nilV, nilV]) 55) :: (b4, cb ([nilV, nilV]) 55) :: (b3, cb (cP p) 31) :: [])) (by (refine perm_cnt (fun _ => ?_)); simp only [cntB_append, cntB_cons, cntB_nil, Nat.add_zero, Nat.zero_add]; try ac_rfl) ?_
      refine J.callS (α := Array MapEntry) (V := fun _ => .tuple #[.agg (cE ((tget (L) p).getD zE)).toArray, .bool (tget (L) p).isSome]) (Pr := fun y => Tab (delL (L) p) y ck) (L := fun y => [(t1, tabO mo m1), (m1, .map y ck)]) (l1 := [(t1, tabO mo m1), (m1, .map es ck)]) Ty.bd41 rfl rfl (fun w1 hw => (remove_spec t1 m1 mo (L) es ck w1 hw.owns hT p hp).mono fun _ _ ⟨y, h1, h2, h3⟩ => ⟨y, h1, h2, h3⟩) (fun es2 hT2 => ?_)
      simp only [List.cons_append, List.nil_append]
      refine J.nil ?_
      refine JX.thenN (hK13 _ _ ?_)
      refine JC.seq (fun K14 hK14 => ?_)
      refine JC.region ?_
      refine J.fieldAddr Ty.fd33_3 rfl rfl ?_
      refine J.loadO Ty.a3 rfl (by repeat first | exact .head _ | apply List.Mem.tail | apply List.mem_append_right) (by exact rfl) rfl ?_
      refine J.loadOA (vs := cP p) Ty.a31 Ty.s31 rfl (by repeat first | exact .head _ | apply List.Mem.tail | apply List.mem_append_right) rfl rfl rfl ?_
      refine J.perm (((b5, cb [noS.vo, noS.vl] 55) :: ([])) ++ ((b6, cb (cE xe) 33) :: (b4, cb ([nilV, nilV]) 55) :: (b3, cb (cP p) 31) :: ((t1, tabO mo m1) :: (m1, .map es2 ck) :: []))) (by (refine perm_cnt (fun _ => ?_)); simp only [cntB_append, cntB_cons, cntB_nil, Nat.add_zero, Nat.zero_add]; try ac_rfl) ?_
      refine J.callS (α := TS) (V := fun _ => .tuple #[]) (Pr := fun y => (hopT xe.na p noT).is y) (L := fun y => (b5, cb [y.vo, y.vl] 55) :: (y.lo ++ y.ll)) (l1 := (b5, cb [noS.vo, noS.vl] 55) :: ([])) Ty.bd42 rfl rfl (fun w1 hw => (hop_spec b5 noT noS w1 hw.owns no_is (by decide) xe.na p).mono fun _ _ ⟨y, h1, h2, h3⟩ => ⟨y, h1, h2, h3⟩) (fun y1 hy1 => ?_)
      simp only [List.cons_append, List.nil_append]
      refine J.nil ?_
      refine JX.thenN (hK14 _ _ ?_)
      refine JC.seq (fun K15 hK15 => ?_)
      refine JC.region ?_
      refine J.fieldAddr Ty.fd33_4 rfl rfl ?_
      refine J.loadO Ty.a3 rfl (by repeat first | exact .head _ | apply List.Mem.tail | apply List.mem_append_right) (by exact rfl) rfl ?_
      refine J.loadOA (vs := cP p) Ty.a31 Ty.s31 rfl (by repeat first | exact .head _ | apply List.Mem.tail | apply List.mem_append_right) rfl rfl rfl ?_
      refine J.perm (((b5, cb [y1.vo, y1.vl] 55) :: (y1.lo ++ y1.ll)) ++ ((b6, cb (cE xe) 33) :: (b4, cb ([nilV, nilV]) 55) :: (b3, cb (cP p) 31) :: ((t1, tabO mo m1) :: (m1, .map es2 ck) :: []))) (by (refine perm_cnt (fun _ => ?_)); simp only [cntB_append, cntB_cons, cntB_nil, Nat.add_zero, Nat.zero_add]; try ac_rfl) ?_
      refine J.callS (α := TS) (V := fun _ => .tuple #[]) (Pr := fun y => (hopT xe.nb p (hopT xe.na p noT)).is y) (L := fun y => (b5, cb [y.vo, y.vl] 55) :: (y.lo ++ y.ll)) (l1 := (b5, cb [y1.vo, y1.vl] 55) :: (y1.lo ++ y1.ll)) Ty.bd42 rfl rfl (fun w1 hw => (hop_spec b5 (hopT xe.na p noT) y1 w1 hw.owns hy1 (by rw [hop_len]; decide) xe.nb p).mono fun _ _ ⟨y, h1, h2, h3⟩ => ⟨y, h1, h2, h3⟩) (fun y hy => ?_)
      simp only [List.cons_append, List.nil_append]
      refine J.nil ?_
      refine JX.thenN (hK15 _ _ ?_)
      refine JC.seq (fun K16 hK16 => ?_)
      refine JC.region ?_
      refine J.perm ((b5, cb ([y.vo, y.vl]) 55) :: (b6, cb (cE xe) 33) :: (b4, cb ([nilV, nilV]) 55) :: (b3, cb (cP p) 31) :: ((y.lo ++ y.ll) ++ ((t1, tabO mo m1) :: (m1, .map es2 ck) :: []))) (by (refine perm_cnt (fun _ => ?_)); simp only [cntB_append, cntB_cons, cntB_nil, Nat.add_zero, Nat.zero_add]; try ac_rfl) ?_
      refine J.loadOA (vs := [y.vo, y.vl]) Ty.a55 Ty.s55 rfl (by repeat first | exact .head _ | apply List.Mem.tail | apply List.mem_append_right) rfl rfl rfl ?_
      refine J.storeW (cs := [nilV, nilV]) (vs := [y.vo, y.vl]) Ty.s55 rfl rfl rfl rfl rfl (two_one hy) (by repeat first | exact .here | apply Up.there) ?_
      refine J.nil ?_
      refine JX.thenN (hK16 _ _ ?_)
      refine JC.ret ?_
      refine JX.retC rfl rfl Ty.a55 Ty.s55 (vs := [y.vo, y.vl]) rfl (fun w1 hw => Cells.of_block (hw.own ((b4, cb ([y.vo, y.vl]) 55)) (by repeat first | exact .head _ | apply List.Mem.tail | apply List.mem_append_right)) rfl) (fun w1 hw => ?_)
      exact ⟨(y, es2), rfl, (by rw [show (endT L p) = (hopT xe.nb p (hopT xe.na p noT), delL L p) from by unfold endT; rw [hg]; simp only; rw [if_neg (by first | exact hcB | exact fun h => hcB h.2)]]; exact ⟨hy, hT2⟩), (hw.perm (l' := [(b4, cb ([y.vo, y.vl]) 55), (b6, cb (cE xe) 33), (b5, cb ([y.vo, y.vl]) 55), (b3, cb (cP p) 31)] ++ ((y.lo ++ y.ll) ++ ((t1, tabO mo m1) :: (m1, .map es2 ck) :: []))) (by (refine perm_cnt (fun _ => ?_)); simp only [cntB_append, cntB_cons, cntB_nil, Nat.add_zero, Nat.zero_add]; try ac_rfl)).drop (List.sublist_append_right _ _)⟩

end Go.Proofs.YtohldionclgljaaGreat
