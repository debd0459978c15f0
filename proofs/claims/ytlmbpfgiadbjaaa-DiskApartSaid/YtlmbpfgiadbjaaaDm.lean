/-
  The laws of layer 5 (disk): walks, second part.
-/
import Derived.Test.YtlmbpfgiadbjaaaRg
import Derived.Test.YtlmbpfgiadbjaaaDl
namespace Go.Proofs.Ytlmbpfgiadbjaaa
open Go.J Go.RowKit
set_option maxRecDepth 8000
set_option linter.unusedVariables false
set_option linter.unusedSimpArgs false
/-- a call of a script -/
structure OpD where
  kind : Int
  i : Int
  b : Sl UInt8
def ROp : World → List Value → OpD → Prop := fun W cs x => cs = [.int .i64 x.kind, .int .i64 x.i, x.b.v] ∧ (Lit.int .i64 x.kind).wf = true ∧ (Lit.int .i64 x.i).wf = true ∧ RSl 1 1 RU8 W [x.b.v] x.b
theorem fs30 : fieldsT Try.prog 30 = some [(3, 0, 1), (3, 1, 1), (28, 2, 1)] := by kernel_rfl
theorem dec_op : Decodes Try.prog 30 ROp := by
  intro H enc w fuel cs x h hn
  have hl := dec_len Ty.a30 Ty.s30 h
  obtain ⟨k, hk, wk⟩ := dec_field fs30 h hn 0 _ rfl (dec_int Ty.u3)
  obtain ⟨i, hi, wi⟩ := dec_field fs30 h hn 1 _ rfl (dec_int Ty.u3)
  obtain ⟨b, hb⟩ := dec_field fs30 h hn 2 _ rfl (dec_slice Ty.el28 Ty.s5 Ty.b5 (by omega) (dec_u8 Ty.u5))
  have h0 := one_of hk
  have h1 := one_of hi
  have h2 := one_of hb.1
  refine ⟨⟨k, i, b⟩, ?_, wk, wi, rfl, hb.2⟩
  apply List.ext_getElem?
  intro j
  match j with
  | 0 => exact h0
  | 1 => exact h1
  | 2 => exact h2
  | j + 3 => rw [List.getElem?_eq_none (by omega), List.getElem?_eq_none (by simp)]
theorem reach_len {α : Type} {W : World} {sz by_ : Nat} {R : World → List Value → α → Prop} {s : Sl α} {cs : List Value} (h : RSl sz by_ R W cs s) : s.xs.length * by_ ≤ 140737488351232 := by
  have h1 := h.2.1
  have h2 := h.2.2.1
  have h3 : reachBytes = 140737488351232 := rfl
  have := Nat.mul_le_mul_right by_ h1
  omega
theorem rB_length (n : Nat) (B : List UInt8) (i : Int) : (rB n B i).length ≤ 64 := by
  unfold rB; split
  · simp
  · simp only [sec, List.length_take]; omega
theorem wK_range {n : Nat} {p i : Int} {m : Nat} {k : Int} {j : Nat} (h0 : 0 ≤ k) (h1 : k ≤ j) : 0 ≤ wK n p i m k ∧ wK n p i m k ≤ (j : Int) + 1 := by
  unfold wK; split <;> omega
theorem wP_lt {n : Nat} {p i : Int} {m : Nat} (h : p < 9223372036854775808) : wP n p i m < 9223372036854775808 := by
  unfold wP; split <;> (try split) <;> omega

theorem diskPlays_walk (w : World) (n0 : Int) (_w1 : (Lit.int .i64 n0).wf = true) (o : Sl OpD) (ho : RSl 3 40 ROp w [o.v] o) :
    Calls Try.prog 3 [.int .i64 n0, o.v].toArray w fun r w' => r = .returned (.bool true) ∧ Below w.heap.size w w' := by
  refine calls_of_J (args := [.int .i64 n0, o.v]) (e := [(0, .int .i64 n0), (1, o.v)]) Try.func3 rfl rfl ⟨rfl, rfl, trivial⟩ (St.start w) ?_
  refine JC.seq (fun K0 hK0 => ?_)
  refine JC.region ?_
  refine J.assign rfl rfl ?_
  refine J.nil ?_
  refine JX.thenN (hK0 _ _ ?_)
  refine JC.seq (fun K1 hK1 => ?_)
  refine JC.region ?_
  refine J.move rfl rfl ?_
  refine J.callS (l1 := []) Ty.bd14 rfl rfl (fun w' hw => new_spec n0 w') (fun x _ => ?_)
  obtain ⟨d, s⟩ := x
  generalize hN : (min (max n0 0) 4096).toNat = N
  have hN2 : N ≤ 4096 := by omega
  simp only [List.append_nil]
  refine J.assign rfl rfl ?_
  refine J.nil ?_
  refine JX.thenN (hK1 _ _ ?_)
  refine JC.seq (fun K2 hK2 => ?_)
  refine JC.region ?_
  refine J.move rfl rfl ?_
  refine J.callS (l1 := []) Ty.bd15 rfl rfl (fun w' hw => rnew_spec n0 w') (fun x _ => ?_)
  obtain ⟨r, q⟩ := x
  simp only [hN]
  refine J.assign rfl rfl ?_
  refine J.nil ?_
  refine JX.thenN (hK2 _ _ ?_)
  refine JC.seq (fun K3 hK3 => ?_)
  refine JC.seq (fun K4 hK4 => ?_)
  refine JC.region ?_
  refine J.callB (fun w1 w2 hw hb => hw.step hb) Ty.bd16 rfl rfl (fun w' hw => fixed5 w') ?_
  refine J.not rfl rfl ?_
  refine J.move rfl rfl ?_
  first
    | (refine J.skip rfl rfl rfl rfl rfl ?_)
    | (refine J.skipU rfl rfl rfl rfl ?_)
    | (refine J.unguard rfl rfl rfl ?_; refine J.move rfl rfl ?_)
  first
    | (refine J.skip rfl rfl rfl rfl rfl ?_)
    | (refine J.skipU rfl rfl rfl rfl ?_)
    | (refine J.unguard rfl rfl rfl ?_; refine J.eqNil Ty.u23 rfl rfl rfl ?_)
  (first | refine J.pickT rfl rfl rfl ?_ | refine J.pickF rfl rfl rfl ?_)
  refine J.nil ?_
  refine JX.thenN (hK4 _ _ ?_)
  first | refine JC.condF rfl ?_ | refine JC.cond rfl (fun h => by first | (exfalso; simp at h; omega) | (simp at h)) (fun _ => ?_)
  refine JC.skip ?_
  refine JX.thenN (hK3 _ _ ?_)
  refine JC.seq (fun K5 hK5 => ?_)
  refine JC.seq (fun K6 hK6 => ?_)
  refine JC.region ?_
  refine J.move rfl rfl ?_
  refine J.lenS rfl Ty.u22 rfl rfl ?_
  refine J.move rfl rfl ?_
  refine J.nil ?_
  refine JX.thenN (hK6 _ _ ?_)
  refine JC.block ?_
  refine JC.conseq (JC.cov (f := (fun x => [(5, .pointer (some ⟨d, 0, none⟩)), (6, .pointer (some ⟨r, 0, none⟩)), (27, o.v), (28, .int .i64 ((o.xs.length : Nat) : Int)), (29, .int .i64 ((x.1 : Nat) : Int))]) ((0, List.replicate (64 * N) 0, -1, 0, [(q, cb ((List.replicate (64 * N) (0 : UInt8)).map u8) 5)]) : Nat × List UInt8 × Int × Int × List (Nat × Obj))) ⟨rfl, rfl, rfl, rfl, rfl, trivial⟩ (JC.loop (α := Nat × List UInt8 × Int × Int × List (Nat × Obj)) (fun x => [(5, .pointer (some ⟨d, 0, none⟩)), (6, .pointer (some ⟨r, 0, none⟩)), (27, o.v), (28, .int .i64 ((o.xs.length : Nat) : Int)), (29, .int .i64 ((x.1 : Nat) : Int))]) (fun x w' => (x.1 ≤ o.xs.length ∧ x.1 ≤ 301 ∧ x.2.1.length = 64 * N ∧ 0 ≤ x.2.2.2.1 ∧ x.2.2.2.1 ≤ ((x.1 : Nat) : Int) ∧ x.2.2.1 < 9223372036854775808 ∧ Vec 5 1 (.slice (some ⟨q, 0, none⟩) (64 * N) (64 * N)) (64 * N) (x.2.1.map u8) x.2.2.2.2) ∧ St w [] ((d, dkO s N (x.2.2.1) (x.2.2.2.1)) :: (s, dkS (x.2.1)) :: (r, rfO (.slice (some ⟨q, 0, none⟩) (64 * N) (64 * N)) (x.2.2.1) (x.2.2.2.1)) :: x.2.2.2.2) w') (fun x => o.xs.length - x.1) ((0, List.replicate (64 * N) 0, -1, 0, [(q, cb ((List.replicate (64 * N) (0 : UInt8)).map u8) 5)]) : Nat × List UInt8 × Int × Int × List (Nat × Obj)) (fun x => ?_))) (fun w hw => ⟨⟨Nat.zero_le _, by show 0 ≤ 301; omega, by simp, Int.le_refl _, Int.le_refl _, by show (-1 : Int) < 9223372036854775808; omega, ⟨by simp, .inr ⟨q, 64 * N, [], rfl, by rw [List.append_nil], by simp, Nat.le_refl _⟩⟩⟩, hw.perm (by (refine perm_cnt (fun _ => ?_)); simp only [cntB_append, cntB_cons, cntB_nil, Nat.add_zero, Nat.zero_add]; try ac_rfl)⟩)
  obtain ⟨i, B, p, k, lp⟩ := x
  refine JC.pr (fun hx => ?_)
  obtain ⟨hi, hi3, hB, hk0, hk1, hp, hv⟩ := hx
  simp only at hi hi3 hB hk0 hk1 hp hv ⊢
  refine JC.seq (fun K7 hK7 => ?_)
  refine JC.region ?_
  refine J.bin rfl rfl rfl rfl ?_
  refine J.nil ?_
  refine JX.thenN (hK7 _ _ ?_)
  refine JC.seq (fun K8 hK8 => ?_)
  refine JC.cond rfl (fun h1 => ?_) (fun h1 => ?_)
  · skip
    have hlt : i < o.xs.length := by simp at h1; omega
    obtain ⟨ob, oo, oc, hoa, hol, hocc, hor⟩ := ho.at hlt
    generalize o.xs[i] = z at hor
    obtain ⟨rfl, hzk, hzi, hzb⟩ := hor
    have hzr := hzb.row
    have hzl := reach_len hzb
    have hzi' := bounds_i64 hzi
    have hrl := rB_length N B z.i
    refine JC.skip ?_
    refine JX.thenN (hK8 _ _ ?_)
    refine JC.seq (fun K9 hK9 => ?_)
    refine JC.block ?_
    refine JC.seq (fun K10 hK10 => ?_)
    refine JC.region ?_
    refine J.move rfl rfl ?_
    refine J.name 27 rfl (show o.v = Value.slice (some ⟨ob, oo, none⟩) o.xs.length o.c by simp only [Sl.v, hoa]) ?_
    refine J.indexAddrS Ty.el22 Ty.s30 rfl rfl (by omega) (by omega) rfl ?_
    refine J.name 27 rfl (show Value.slice (some ⟨ob, oo, none⟩) o.xs.length o.c = o.v by simp only [Sl.v, hoa]) ?_
    refine J.loadRA Ty.a30 Ty.s30 rfl hol (by omega) hocc (by simp) rfl ?_
    refine J.alloc Ty.z30 rfl rfl (fun b8 => ?_)
    refine J.assign rfl rfl ?_
    refine J.storeO (vs := [.int .i64 z.kind, .int .i64 z.i, z.b.v]) Ty.s30 rfl rfl rfl rfl (by simp [Value.oneCell']) .here (by simp) ?_
    refine J.perm ((b8, cb [.int .i64 z.kind, .int .i64 z.i, z.b.v] 30) :: (d, dkO s N (p) (k)) :: (s, dkS (B)) :: (r, rfO (.slice (some ⟨q, 0, none⟩) (64 * N) (64 * N)) (p) (k)) :: lp) (.refl _) ?_
    refine J.perm ((d, dkO s N (p) (k)) :: (s, dkS (B)) :: (r, rfO (.slice (some ⟨q, 0, none⟩) (64 * N) (64 * N)) (p) (k)) :: (b8, cb [.int .i64 z.kind, .int .i64 z.i, z.b.v] 30) :: lp) (by (refine perm_cnt (fun _ => ?_)); simp only [cntB_append, cntB_cons, cntB_nil, Nat.add_zero, Nat.zero_add]; try ac_rfl) ?_
    refine J.nil ?_
    refine JX.thenN (hK10 _ _ ?_)
    refine JC.seq (fun K11 hK11 => ?_)
    refine JC.seq (fun K12 hK12 => ?_)
    refine JC.region ?_
    refine J.move rfl rfl ?_
    refine J.bin rfl rfl rfl rfl ?_
    refine J.nil ?_
    refine JX.thenN (hK12 _ _ ?_)
    refine JC.cond rfl (fun h2 => ?_) (fun h2 => ?_)
    · skip
      refine JC.conseq (I' := St w [] ((d, dkO s N (p) (k)) :: (s, dkS (B)) :: (r, rfO (.slice (some ⟨q, 0, none⟩) (64 * N) (64 * N)) (p) (k)) :: lp)) ?_ (fun w1 hw => hw.drop (.cons_cons _ (.cons_cons _ (.cons_cons _ (List.sublist_cons_self _ _)))))
      refine JC.exit ?_
      refine JX.thenE ?_
      refine JX.blockO rfl ?_
      refine JX.thenE ?_
      refine JX.thenE ?_
      refine JX.blockE ?_
      refine JX.thenN (hK5 _ _ ?_)
      refine JC.seq (fun K13 hK13 => ?_)
      apply JC.drawL 9 [Eqv _, RowP (64 * N) (B.map u8), Eqv _, Eqv _, Eqv _, Eqv _, Eqv _, Eqv _, Eqv _] Ty.mixed rfl rfl rfl (by kernel_rfl) rfl rfl (fun w w' hw hb => hw.step hb) ⟨fun _ _ _ h _ => h, RowP.st _ _, fun _ _ _ h _ => h, fun _ _ _ h _ => h, fun _ _ _ h _ => h, fun _ _ _ h _ => h, fun _ _ _ h _ => h, fun _ _ _ h _ => h, fun _ _ _ h _ => h, trivial⟩ ?hstep ?htail
      case hstep =>
        refine ⟨fun wi => ?_, fun wi => ?_, fun wi => ?_, fun wi => ?_, fun wi => ?_, fun wi => ?_, fun wi => ?_, fun wi => ?_, fun wi => ?_, trivial⟩
        · skip
          refine Fin.nil ?_
          refine J.move rfl rfl ?_
          refine J.nil (JX.fin rfl (fun w hw => ⟨rfl, (by rw [hw.1]; exact Below.refl _ _)⟩))
        · skip
          refine Fin.cons (fun v35_0 => ?_)
          refine Fin.nil ?_
          refine J.prE (fun h => ?_); subst h
          refine J.callR (k := 64 * N) (ys := B.map u8) Ty.bd24 rfl rfl (fun w' hw => (bytes_spec d s N B p k w' (St.owns (l1 := [(d, dkO s N (p) (k)), (s, dkS (B))]) (l := (r, rfO (.slice (some ⟨q, 0, none⟩) (64 * N) (64 * N)) (p) (k)) :: lp) hw) hB hN2).mono fun _ w2 ⟨x, h1, h2, h3⟩ => ⟨x.1, h1, h2.row (l := [(d, dkO s N (p) (k)), (s, dkS (B))]) h3, h3.same (St.owns (l1 := [(d, dkO s N (p) (k)), (s, dkS (B))]) (l := (r, rfO (.slice (some ⟨q, 0, none⟩) (64 * N) (64 * N)) (p) (k)) :: lp) hw) (fun p hp => List.mem_append_right _ hp)⟩) (fun v126 => ?_)
          refine J.nil (JX.fin rfl (fun w hw => ⟨hw.1, hw.2⟩))
        · skip
          refine Fin.cons (fun v35_1 => ?_)
          refine Fin.nil ?_
          refine J.prR ?_
          refine J.toStr (m := 64 * N) (bs := B) Ty.el28 Ty.u5 Ty.u9 rfl (fun w' hw => hw.2.1) hB rfl ?_
          refine J.nil (JX.fin rfl (fun w hw => ⟨rfl, (by rw [hw.1]; exact Below.refl _ _)⟩))
        · skip
          refine Fin.nil ?_
          refine J.move rfl rfl ?_
          refine J.nil (JX.fin rfl (fun w hw => ⟨rfl, (by rw [hw.1]; exact Below.refl _ _)⟩))
        · skip
          refine Fin.cons (fun v35_3 => ?_)
          refine Fin.nil ?_
          refine J.prE (fun h => ?_); subst h
          refine J.nilCheck rfl rfl ?_
          refine J.nil (JX.fin rfl (fun w hw => ⟨rfl, (by rw [hw.1]; exact Below.refl _ _)⟩))
        · skip
          refine Fin.cons (fun v35_4 => ?_)
          refine Fin.nil ?_
          refine J.prE (fun h => ?_); subst h
          refine J.fieldAddr Ty.fd35_0 rfl rfl ?_
          refine J.nil (JX.fin rfl (fun w hw => ⟨rfl, (by rw [hw.1]; exact Below.refl _ _)⟩))
        · skip
          refine Fin.cons (fun v35_5 => ?_)
          refine Fin.nil ?_
          refine J.prE (fun h => ?_); subst h
          (first | refine J.load1 Ty.a28 rfl (fun w hw => (cell_of (hw.2.own _ (.head _))).trans rfl) rfl ?_ | refine J.load1 Ty.a28 rfl (fun w hw => (cell_of (hw.2.own _ (.tail _ (.head _)))).trans rfl) rfl ?_ | refine J.load1 Ty.a28 rfl (fun w hw => (cell_of (hw.2.own _ (.tail _ (.tail _ (.head _))))).trans rfl) rfl ?_ | refine J.load1 Ty.a28 rfl (fun w hw => (cell_of (hw.2.own _ (.tail _ (.tail _ (.tail _ (.head _)))))).trans rfl) rfl ?_ | refine J.load1 Ty.a28 rfl (fun w hw => (cell_of (hw.2.own _ (.tail _ (.tail _ (.tail _ (.tail _ (.head _))))))).trans rfl) rfl ?_ | refine J.load1 Ty.a28 rfl (fun w hw => (cell_of (hw.2.own _ (List.mem_append_right _ (.head _)))).trans rfl) rfl ?_ | refine J.load1 Ty.a28 rfl (fun w hw => (cell_of (hw.2.own _ (List.mem_append_right _ (.tail _ (.head _))))).trans rfl) rfl ?_ | refine J.load1 Ty.a28 rfl (fun w hw => (cell_of (hw.2.own _ (List.mem_append_right _ (.tail _ (.tail _ (.head _)))))).trans rfl) rfl ?_ | refine J.load1 Ty.a28 rfl (fun w hw => (cell_of (hw.2.own _ (List.mem_append_right _ (.tail _ (.tail _ (.tail _ (.head _))))))).trans rfl) rfl ?_ | refine J.load1 Ty.a28 rfl (fun w hw => (cell_of (hw.2.own _ (List.mem_append_right _ (.tail _ (.tail _ (.tail _ (.tail _ (.head _)))))))).trans rfl) rfl ?_)
          refine J.nil (JX.fin rfl (fun w hw => ⟨rfl, (by rw [hw.1]; exact Below.refl _ _)⟩))
        · skip
          refine Fin.cons (fun v35_6 => ?_)
          refine Fin.nil ?_
          refine J.prE (fun h => ?_); subst h
          refine J.toStr (m := 64 * N) (bs := B) Ty.el28 Ty.u5 Ty.u9 rfl (fun w' hw => hv.row (l := [(d, dkO s N (p) (k)), (s, dkS (B)), (r, rfO (.slice (some ⟨q, 0, none⟩) (64 * N) (64 * N)) (p) (k))]) (hw.2.perm (by (refine perm_cnt (fun _ => ?_)); simp only [cntB_append, cntB_cons, cntB_nil, Nat.add_zero, Nat.zero_add]; try ac_rfl))) hB rfl ?_
          refine J.nil (JX.fin rfl (fun w hw => ⟨rfl, (by rw [hw.1]; exact Below.refl _ _)⟩))
        · skip
          refine Fin.cons (fun v35_2 => ?_)
          refine Fin.cons (fun v35_7 => ?_)
          refine Fin.nil ?_
          refine J.prE (fun h => ?_); subst h
          refine J.prE (fun h => ?_); subst h
          refine J.strEq rfl rfl rfl ?_
          refine J.name 152 rfl (show Value.bool _ = .bool true by simp) ?_
          refine J.nil (JX.fin rfl (fun w hw => ⟨rfl, (by rw [hw.1]; exact Below.refl _ _)⟩))
      case htail =>
        refine Fin.cons (fun v35_0 => ?_)
        refine Fin.cons (fun v35_1 => ?_)
        refine Fin.cons (fun v35_2 => ?_)
        refine Fin.cons (fun v35_3 => ?_)
        refine Fin.cons (fun v35_4 => ?_)
        refine Fin.cons (fun v35_5 => ?_)
        refine Fin.cons (fun v35_6 => ?_)
        refine Fin.cons (fun v35_7 => ?_)
        refine Fin.cons (fun v35_8 => ?_)
        refine Fin.nil ?_
        refine J.prE (fun h => ?_); subst h
        refine J.prE (fun h => ?_); subst h
        refine J.prE (fun h => ?_); subst h
        refine J.prE (fun h => ?_); subst h
        refine J.prE (fun h => ?_); subst h
        refine J.prE (fun h => ?_); subst h
        refine J.prE (fun h => ?_); subst h
        refine J.drop ?_
        refine J.prE (fun h => ?_); subst h
        refine J.assign rfl rfl ?_
        refine J.nil ?_
        refine JX.thenN (hK13 _ _ ?_)
        refine JC.ret ?_
        refine JX.ret1 rfl rfl (fun w hw => ?_)
        exact ⟨rfl, hw.below⟩
    · skip
      have hi4 : i ≤ 300 := by simp at h2; omega
      refine JC.skip ?_
      refine JX.thenN (hK11 _ _ ?_)
      refine JC.seqCut (α := List UInt8 × Int × Int × List (Nat × Obj)) (fun y => [(5, .pointer (some ⟨d, 0, none⟩)), (6, .pointer (some ⟨r, 0, none⟩)), (27, o.v), (28, .int .i64 ((o.xs.length : Nat) : Int)), (29, .int .i64 ((i : Nat) : Int))]) (fun y w' => (y.1.length = 64 * N ∧ 0 ≤ y.2.2.1 ∧ y.2.2.1 ≤ (((i + 1) : Nat) : Int) ∧ y.2.1 < 9223372036854775808 ∧ Vec 5 1 (.slice (some ⟨q, 0, none⟩) (64 * N) (64 * N)) (64 * N) (y.1.map u8) y.2.2.2) ∧ St w [] ((d, dkO s N (y.2.1) (y.2.2.1)) :: (s, dkS (y.1)) :: (r, rfO (.slice (some ⟨q, 0, none⟩) (64 * N) (64 * N)) (y.2.1) (y.2.2.1)) :: y.2.2.2) w') (fun y => ?_) (fun K14 hK14 => ?_)
      · skip
        obtain ⟨B2, p2, k2, lp2⟩ := y
        refine JC.pr (fun hx => ?_)
        obtain ⟨hB2, hk20, hk21, hp2, hv2⟩ := hx
        simp only at hB2 hk20 hk21 hp2 hv2 ⊢
        refine JC.seq (fun K15 hK15 => ?_)
        apply JC.drawL 18 [Eqv _, Eqv _, Eqv _, Eqv _, Eqv _, Eqv _, Eqv _, Eqv _, Eqv _, Eqv _, Eqv _, Eqv _, Eqv _, Eqv _, Eqv _, Eqv _, Eqv _, Eqv _] Ty.mixed rfl rfl rfl (by kernel_rfl) rfl rfl (fun w w' hw hb => hw.step hb) ⟨fun _ _ _ h _ => h, fun _ _ _ h _ => h, fun _ _ _ h _ => h, fun _ _ _ h _ => h, fun _ _ _ h _ => h, fun _ _ _ h _ => h, fun _ _ _ h _ => h, fun _ _ _ h _ => h, fun _ _ _ h _ => h, fun _ _ _ h _ => h, fun _ _ _ h _ => h, fun _ _ _ h _ => h, fun _ _ _ h _ => h, fun _ _ _ h _ => h, fun _ _ _ h _ => h, fun _ _ _ h _ => h, fun _ _ _ h _ => h, fun _ _ _ h _ => h, trivial⟩ ?hstep ?htail
        case hstep =>
          refine ⟨fun wi => ?_, fun wi => ?_, fun wi => ?_, fun wi => ?_, fun wi => ?_, fun wi => ?_, fun wi => ?_, fun wi => ?_, fun wi => ?_, fun wi => ?_, fun wi => ?_, fun wi => ?_, fun wi => ?_, fun wi => ?_, fun wi => ?_, fun wi => ?_, fun wi => ?_, fun wi => ?_, trivial⟩
          · skip
            refine Fin.nil ?_
            refine J.move rfl rfl ?_
            refine J.nil (JX.fin rfl (fun w hw => ⟨rfl, (by rw [hw.1]; exact Below.refl _ _)⟩))
          · skip
            refine Fin.cons (fun v32_0 => ?_)
            refine Fin.nil ?_
            refine J.prE (fun h => ?_); subst h
            refine J.callD Ty.bd22 rfl rfl (fun w' hw => done_spec d s N p2 k2 w' hw.owns') ?_
            refine J.nil (JX.fin rfl (fun w hw => ⟨rfl, hw⟩))
          · skip
            refine Fin.nil ?_
            refine J.move rfl rfl ?_
            refine J.nil (JX.fin rfl (fun w hw => ⟨rfl, (by rw [hw.1]; exact Below.refl _ _)⟩))
          · skip
            refine Fin.cons (fun v32_2 => ?_)
            refine Fin.nil ?_
            refine J.prE (fun h => ?_); subst h
            refine J.nilCheck rfl rfl ?_
            refine J.nil (JX.fin rfl (fun w hw => ⟨rfl, (by rw [hw.1]; exact Below.refl _ _)⟩))
          · skip
            refine Fin.cons (fun v32_3 => ?_)
            refine Fin.nil ?_
            refine J.prE (fun h => ?_); subst h
            refine J.fieldAddr Ty.fd35_2 rfl rfl ?_
            refine J.nil (JX.fin rfl (fun w hw => ⟨rfl, (by rw [hw.1]; exact Below.refl _ _)⟩))
          · skip
            refine Fin.cons (fun v32_4 => ?_)
            refine Fin.nil ?_
            refine J.prE (fun h => ?_); subst h
            (first | refine J.load1 Ty.a3 rfl (fun w hw => (cell_of (hw.2.own _ (.head _))).trans rfl) rfl ?_ | refine J.load1 Ty.a3 rfl (fun w hw => (cell_of (hw.2.own _ (.tail _ (.head _)))).trans rfl) rfl ?_ | refine J.load1 Ty.a3 rfl (fun w hw => (cell_of (hw.2.own _ (.tail _ (.tail _ (.head _))))).trans rfl) rfl ?_ | refine J.load1 Ty.a3 rfl (fun w hw => (cell_of (hw.2.own _ (.tail _ (.tail _ (.tail _ (.head _)))))).trans rfl) rfl ?_ | refine J.load1 Ty.a3 rfl (fun w hw => (cell_of (hw.2.own _ (.tail _ (.tail _ (.tail _ (.tail _ (.head _))))))).trans rfl) rfl ?_ | refine J.load1 Ty.a3 rfl (fun w hw => (cell_of (hw.2.own _ (List.mem_append_right _ (.head _)))).trans rfl) rfl ?_ | refine J.load1 Ty.a3 rfl (fun w hw => (cell_of (hw.2.own _ (List.mem_append_right _ (.tail _ (.head _))))).trans rfl) rfl ?_ | refine J.load1 Ty.a3 rfl (fun w hw => (cell_of (hw.2.own _ (List.mem_append_right _ (.tail _ (.tail _ (.head _)))))).trans rfl) rfl ?_ | refine J.load1 Ty.a3 rfl (fun w hw => (cell_of (hw.2.own _ (List.mem_append_right _ (.tail _ (.tail _ (.tail _ (.head _))))))).trans rfl) rfl ?_ | refine J.load1 Ty.a3 rfl (fun w hw => (cell_of (hw.2.own _ (List.mem_append_right _ (.tail _ (.tail _ (.tail _ (.tail _ (.head _)))))))).trans rfl) rfl ?_)
            refine J.nil (JX.fin rfl (fun w hw => ⟨rfl, (by rw [hw.1]; exact Below.refl _ _)⟩))
          · skip
            refine Fin.cons (fun v32_1 => ?_)
            refine Fin.cons (fun v32_5 => ?_)
            refine Fin.nil ?_
            refine J.prE (fun h => ?_); subst h
            refine J.prE (fun h => ?_); subst h
            refine J.bin rfl rfl rfl rfl ?_
            refine J.name 131 rfl (show Value.bool _ = .bool false by simp) ?_
            refine J.nil (JX.fin rfl (fun w hw => ⟨rfl, (by rw [hw.1]; exact Below.refl _ _)⟩))
          · skip
            refine Fin.cons (fun v32_6 => ?_)
            refine Fin.cons (fun v32_1 => ?_)
            refine Fin.nil ?_
            refine J.prE (fun h => ?_); subst h
            refine J.prE (fun h => ?_); subst h
            refine J.move rfl rfl ?_
            refine J.nil (JX.fin rfl (fun w hw => ⟨rfl, (by rw [hw.1]; exact Below.refl _ _)⟩))
          · skip
            refine Fin.cons (fun v32_7 => ?_)
            refine Fin.nil ?_
            refine J.prE (fun h => ?_); subst h
            first
              | (refine J.skip rfl rfl rfl rfl rfl ?_)
              | (refine J.skipU rfl rfl rfl rfl ?_)
              | (refine J.unguard rfl rfl rfl ?_; refine J.move rfl rfl ?_)
            refine J.nil (JX.fin rfl (fun w hw => ⟨rfl, (by rw [hw.1]; exact Below.refl _ _)⟩))
          · skip
            refine Fin.cons (fun v32_8 => ?_)
            refine Fin.cons (fun v32_7 => ?_)
            refine Fin.cons (fun v32_7 => ?_)
            refine Fin.nil ?_
            refine J.prE (fun h => ?_); subst h
            refine J.prE (fun h => ?_); subst h
            refine J.prE (fun h => ?_); subst h
            refine J.unguard rfl rfl rfl ?_
            refine J.callD Ty.bd23 rfl rfl (fun w' hw => size_spec d s N p2 k2 w' hw.owns') ?_
            refine J.nil (JX.fin rfl (fun w hw => ⟨rfl, hw⟩))
          · skip
            refine Fin.cons (fun v32_7 => ?_)
            refine Fin.nil ?_
            refine J.prE (fun h => ?_); subst h
            first
              | (refine J.skip rfl rfl rfl rfl rfl ?_)
              | (refine J.skipU rfl rfl rfl rfl ?_)
              | (refine J.unguard rfl rfl rfl ?_; refine J.move rfl rfl ?_)
            refine J.nil (JX.fin rfl (fun w hw => ⟨rfl, (by rw [hw.1]; exact Below.refl _ _)⟩))
          · skip
            refine Fin.cons (fun v32_10 => ?_)
            refine Fin.cons (fun v32_7 => ?_)
            refine Fin.nil ?_
            refine J.prE (fun h => ?_); subst h
            refine J.prE (fun h => ?_); subst h
            first
              | (refine J.skip rfl rfl rfl rfl rfl ?_)
              | (refine J.skipU rfl rfl rfl rfl ?_)
              | (refine J.unguard rfl rfl rfl ?_; refine J.nilCheck rfl rfl ?_)
            refine J.nil (JX.fin rfl (fun w hw => ⟨rfl, (by rw [hw.1]; exact Below.refl _ _)⟩))
          · skip
            refine Fin.cons (fun v32_11 => ?_)
            refine Fin.cons (fun v32_7 => ?_)
            refine Fin.nil ?_
            refine J.prE (fun h => ?_); subst h
            refine J.prE (fun h => ?_); subst h
            first
              | (refine J.skip rfl rfl rfl rfl rfl ?_)
              | (refine J.skipU rfl rfl rfl rfl ?_)
              | (refine J.unguard rfl rfl rfl ?_; refine J.fieldAddr Ty.fd35_0 rfl rfl ?_)
            refine J.nil (JX.fin rfl (fun w hw => ⟨rfl, (by rw [hw.1]; exact Below.refl _ _)⟩))
          · skip
            refine Fin.cons (fun v32_12 => ?_)
            refine Fin.cons (fun v32_7 => ?_)
            refine Fin.nil ?_
            refine J.prE (fun h => ?_); subst h
            refine J.prE (fun h => ?_); subst h
            first
              | (refine J.skip rfl rfl rfl rfl rfl ?_)
              | (refine J.skipU rfl rfl rfl rfl ?_)
              | (refine J.unguard rfl rfl rfl ?_; (first | refine J.load1 Ty.a28 rfl (fun w hw => (cell_of (hw.2.own _ (.head _))).trans rfl) rfl ?_ | refine J.load1 Ty.a28 rfl (fun w hw => (cell_of (hw.2.own _ (.tail _ (.head _)))).trans rfl) rfl ?_ | refine J.load1 Ty.a28 rfl (fun w hw => (cell_of (hw.2.own _ (.tail _ (.tail _ (.head _))))).trans rfl) rfl ?_ | refine J.load1 Ty.a28 rfl (fun w hw => (cell_of (hw.2.own _ (.tail _ (.tail _ (.tail _ (.head _)))))).trans rfl) rfl ?_ | refine J.load1 Ty.a28 rfl (fun w hw => (cell_of (hw.2.own _ (.tail _ (.tail _ (.tail _ (.tail _ (.head _))))))).trans rfl) rfl ?_ | refine J.load1 Ty.a28 rfl (fun w hw => (cell_of (hw.2.own _ (List.mem_append_right _ (.head _)))).trans rfl) rfl ?_ | refine J.load1 Ty.a28 rfl (fun w hw => (cell_of (hw.2.own _ (List.mem_append_right _ (.tail _ (.head _))))).trans rfl) rfl ?_ | refine J.load1 Ty.a28 rfl (fun w hw => (cell_of (hw.2.own _ (List.mem_append_right _ (.tail _ (.tail _ (.head _)))))).trans rfl) rfl ?_ | refine J.load1 Ty.a28 rfl (fun w hw => (cell_of (hw.2.own _ (List.mem_append_right _ (.tail _ (.tail _ (.tail _ (.head _))))))).trans rfl) rfl ?_ | refine J.load1 Ty.a28 rfl (fun w hw => (cell_of (hw.2.own _ (List.mem_append_right _ (.tail _ (.tail _ (.tail _ (.tail _ (.head _)))))))).trans rfl) rfl ?_))
            refine J.nil (JX.fin rfl (fun w hw => ⟨rfl, (by rw [hw.1]; exact Below.refl _ _)⟩))
          · skip
            refine Fin.cons (fun v32_13 => ?_)
            refine Fin.cons (fun v32_7 => ?_)
            refine Fin.nil ?_
            refine J.prE (fun h => ?_); subst h
            refine J.prE (fun h => ?_); subst h
            first
              | (refine J.skip rfl rfl rfl rfl rfl ?_)
              | (refine J.skipU rfl rfl rfl rfl ?_)
              | (refine J.unguard rfl rfl rfl ?_; refine J.lenS rfl Ty.u28 rfl rfl ?_)
            refine J.nil (JX.fin rfl (fun w hw => ⟨rfl, (by rw [hw.1]; exact Below.refl _ _)⟩))
          · skip
            refine Fin.cons (fun v32_14 => ?_)
            refine Fin.cons (fun v32_7 => ?_)
            refine Fin.nil ?_
            refine J.prE (fun h => ?_); subst h
            refine J.prE (fun h => ?_); subst h
            refine J.unguard rfl rfl rfl ?_
            refine J.quoN rfl rfl (by omega) (by omega) (by omega) rfl ?_
            refine J.name 140 rfl (congrArg (Value.int .i64) (show ((64 * N : Nat) : Int) / 64 = (N : Int) by omega)) ?_
            refine J.nil (JX.fin rfl (fun w hw => ⟨rfl, (by rw [hw.1]; exact Below.refl _ _)⟩))
          · skip
            refine Fin.cons (fun v32_9 => ?_)
            refine Fin.cons (fun v32_15 => ?_)
            refine Fin.cons (fun v32_7 => ?_)
            refine Fin.nil ?_
            refine J.prE (fun h => ?_); subst h
            refine J.prE (fun h => ?_); subst h
            refine J.prE (fun h => ?_); subst h
            refine J.unguard rfl rfl rfl ?_
            refine J.bin rfl rfl rfl rfl ?_
            refine J.name 141 rfl (show Value.bool _ = .bool false by simp) ?_
            refine J.nil (JX.fin rfl (fun w hw => ⟨rfl, (by rw [hw.1]; exact Below.refl _ _)⟩))
          · skip
            refine Fin.cons (fun v32_7 => ?_)
            refine Fin.cons (fun v32_16 => ?_)
            refine Fin.nil ?_
            refine J.prE (fun h => ?_); subst h
            refine J.prE (fun h => ?_); subst h
            (first | refine J.pickT rfl rfl rfl ?_ | refine J.pickF rfl rfl rfl ?_)
            refine J.nil (JX.fin rfl (fun w hw => ⟨rfl, (by rw [hw.1]; exact Below.refl _ _)⟩))
        case htail =>
          refine Fin.cons (fun v32_0 => ?_)
          refine Fin.cons (fun v32_1 => ?_)
          refine Fin.cons (fun v32_2 => ?_)
          refine Fin.cons (fun v32_3 => ?_)
          refine Fin.cons (fun v32_4 => ?_)
          refine Fin.cons (fun v32_5 => ?_)
          refine Fin.cons (fun v32_6 => ?_)
          refine Fin.cons (fun v32_7 => ?_)
          refine Fin.cons (fun v32_8 => ?_)
          refine Fin.cons (fun v32_9 => ?_)
          refine Fin.cons (fun v32_10 => ?_)
          refine Fin.cons (fun v32_11 => ?_)
          refine Fin.cons (fun v32_12 => ?_)
          refine Fin.cons (fun v32_13 => ?_)
          refine Fin.cons (fun v32_14 => ?_)
          refine Fin.cons (fun v32_15 => ?_)
          refine Fin.cons (fun v32_16 => ?_)
          refine Fin.cons (fun v32_17 => ?_)
          refine Fin.nil ?_
          refine J.prE (fun h => ?_); subst h
          refine J.prE (fun h => ?_); subst h
          refine J.prE (fun h => ?_); subst h
          refine J.prE (fun h => ?_); subst h
          refine J.prE (fun h => ?_); subst h
          refine J.prE (fun h => ?_); subst h
          refine J.prE (fun h => ?_); subst h
          refine J.prE (fun h => ?_); subst h
          refine J.prE (fun h => ?_); subst h
          refine J.prE (fun h => ?_); subst h
          refine J.prE (fun h => ?_); subst h
          refine J.prE (fun h => ?_); subst h
          refine J.prE (fun h => ?_); subst h
          refine J.prE (fun h => ?_); subst h
          refine J.prE (fun h => ?_); subst h
          refine J.prE (fun h => ?_); subst h
          refine J.prE (fun h => ?_); subst h
          refine J.prE (fun h => ?_); subst h
          refine J.nil ?_
          refine JX.thenN (hK15 _ _ ?_)
          first | refine JC.condF rfl ?_ | refine JC.cond rfl (fun h => by first | (exfalso; simp at h; omega) | (simp at h)) (fun _ => ?_)
          refine JC.skip ?_
          refine JX.blockN ?_
          refine JX.thenN (hK9 _ _ ?_)
          refine JC.region ?_
          (first | refine J.addN rfl rfl (by omega) (by omega) rfl ?_ | refine J.bin rfl rfl rfl rfl ?_)
          refine J.move rfl rfl ?_
          refine J.nil ?_
          refine JX.thenN ?_
          refine JX.again (i + 1, B2, p2, k2, lp2) ?_ ?_ ?_
          · simp only; omega
          · exact ⟨rfl, rfl, rfl, rfl, rfl, trivial⟩
          · exact fun w hw => ⟨⟨hlt, by omega, hB2, hk20, hk21, hp2, hv2⟩, hw⟩
      · skip
        refine JC.seq (fun K16 hK16 => ?_)
        refine JC.region ?_
        refine J.fieldAddr Ty.fd30_0 rfl rfl ?_
        (first | refine J.loadO Ty.a3 rfl (.head _) rfl rfl ?_ | refine J.loadO Ty.a3 rfl (.tail _ (.head _)) rfl rfl ?_ | refine J.loadO Ty.a3 rfl (.tail _ (.tail _ (.head _))) rfl rfl ?_ | refine J.loadO Ty.a3 rfl (.tail _ (.tail _ (.tail _ (.head _)))) rfl rfl ?_ | refine J.loadO Ty.a3 rfl (.tail _ (.tail _ (.tail _ (.tail _ (.head _))))) rfl rfl ?_ | refine J.loadO Ty.a3 rfl (List.mem_append_right _ (.head _)) rfl rfl ?_ | refine J.loadO Ty.a3 rfl (List.mem_append_right _ (.tail _ (.head _))) rfl rfl ?_ | refine J.loadO Ty.a3 rfl (List.mem_append_right _ (.tail _ (.tail _ (.head _)))) rfl rfl ?_ | refine J.loadO Ty.a3 rfl (List.mem_append_right _ (.tail _ (.tail _ (.tail _ (.head _))))) rfl rfl ?_ | refine J.loadO Ty.a3 rfl (List.mem_append_right _ (.tail _ (.tail _ (.tail _ (.tail _ (.head _)))))) rfl rfl ?_)
        refine J.nil ?_
        refine JX.thenN (hK16 _ _ ?_)
        refine JC.block ?_
        refine JC.seq (fun K17 hK17 => ?_)
        refine JC.region ?_
        refine J.bin rfl rfl rfl rfl ?_
        refine J.assign rfl rfl ?_
        refine J.nil ?_
        refine JX.thenN (hK17 _ _ ?_)
        refine JC.cond rfl (fun h3 => ?_) (fun h3 => ?_)
        · skip
          try simp only [decide_eq_true_eq, decide_eq_false_iff_not, beq_iff_eq, bne_iff_ne, bne_eq_false_iff_eq, ne_eq, beq_eq_false_iff_ne, Bool.not_eq_true, Bool.not_eq_false, Int.not_lt, Int.not_le] at h3
          refine JC.seq (fun K18 hK18 => ?_)
          refine JC.region ?_
          refine J.buildSl Ty.el28 Ty.s5 Ty.z5 rfl rfl rfl rfl rfl rfl rfl (fun b76 => ?_)
          refine J.fieldAddr Ty.fd30_2 rfl rfl ?_
          (first | refine J.loadO Ty.a28 rfl (.head _) rfl rfl ?_ | refine J.loadO Ty.a28 rfl (.tail _ (.head _)) rfl rfl ?_ | refine J.loadO Ty.a28 rfl (.tail _ (.tail _ (.head _))) rfl rfl ?_ | refine J.loadO Ty.a28 rfl (.tail _ (.tail _ (.tail _ (.head _)))) rfl rfl ?_ | refine J.loadO Ty.a28 rfl (.tail _ (.tail _ (.tail _ (.tail _ (.head _))))) rfl rfl ?_ | refine J.loadO Ty.a28 rfl (List.mem_append_right _ (.head _)) rfl rfl ?_ | refine J.loadO Ty.a28 rfl (List.mem_append_right _ (.tail _ (.head _))) rfl rfl ?_ | refine J.loadO Ty.a28 rfl (List.mem_append_right _ (.tail _ (.tail _ (.head _)))) rfl rfl ?_ | refine J.loadO Ty.a28 rfl (List.mem_append_right _ (.tail _ (.tail _ (.tail _ (.head _))))) rfl rfl ?_ | refine J.loadO Ty.a28 rfl (List.mem_append_right _ (.tail _ (.tail _ (.tail _ (.tail _ (.head _)))))) rfl rfl ?_)
          refine J.append (lp := [(b76, cb [] 5)]) (xs := []) (ys := z.b.xs.map u8) (k := 0) (m := z.b.xs.length) Ty.el28 Ty.s5 Ty.b5 Ty.z5 rfl (.inl ⟨5, Ty.u28⟩) rfl rfl ⟨rfl, .inr ⟨b76, 0, [], rfl, rfl, rfl, Nat.le_refl _⟩⟩ (fun w' hw => .inl (hzr.st (.inr (by simp)) hw)) (by simp) (one_u8 _) (by omega) (by omega) rfl (fun v79 lp79 hv79 => ?_)
          rw [Nat.zero_add, List.nil_append] at hv79
          obtain ⟨a79, c79, rfl, hc79⟩ := hv79.form
          refine J.assign rfl rfl ?_
          refine J.nil ?_
          refine JX.thenN (hK18 _ _ ?_)
          refine JC.seq (fun K19 hK19 => ?_)
          refine JC.region ?_
          refine J.move rfl rfl ?_
          refine J.fieldAddr Ty.fd30_1 rfl rfl ?_
          (first | refine J.loadO Ty.a3 rfl (.head _) rfl rfl ?_ | refine J.loadO Ty.a3 rfl (.tail _ (.head _)) rfl rfl ?_ | refine J.loadO Ty.a3 rfl (.tail _ (.tail _ (.head _))) rfl rfl ?_ | refine J.loadO Ty.a3 rfl (.tail _ (.tail _ (.tail _ (.head _)))) rfl rfl ?_ | refine J.loadO Ty.a3 rfl (.tail _ (.tail _ (.tail _ (.tail _ (.head _))))) rfl rfl ?_ | refine J.loadO Ty.a3 rfl (List.mem_append_right _ (.head _)) rfl rfl ?_ | refine J.loadO Ty.a3 rfl (List.mem_append_right _ (.tail _ (.head _))) rfl rfl ?_ | refine J.loadO Ty.a3 rfl (List.mem_append_right _ (.tail _ (.tail _ (.head _)))) rfl rfl ?_ | refine J.loadO Ty.a3 rfl (List.mem_append_right _ (.tail _ (.tail _ (.tail _ (.head _))))) rfl rfl ?_ | refine J.loadO Ty.a3 rfl (List.mem_append_right _ (.tail _ (.tail _ (.tail _ (.tail _ (.head _)))))) rfl rfl ?_)
          refine J.move rfl rfl ?_
          refine J.perm ([(d, dkO s N (p) (k)), (s, dkS (B))] ++ (lp79 ++ ([(b8, cb [.int .i64 z.kind, .int .i64 z.i, z.b.v] 30)] ++ (r, rfO (.slice (some ⟨q, 0, none⟩) (64 * N) (64 * N)) (p) (k)) :: lp))) (by (refine perm_cnt (fun _ => ?_)); simp only [cntB_append, cntB_cons, cntB_nil, Nat.add_zero, Nat.zero_add]; try ac_rfl) ?_
          refine J.callT (l1 := [(d, dkO s N (p) (k)), (s, dkS (B))]) (L := [(d, dkO s N (wP N p z.i z.b.xs.length) (wK N p z.i z.b.xs.length k)), (s, dkS (wB N p z.i B z.b.xs))]) Ty.bd17 rfl rfl (fun w' hw => write_all d s N B z.b.xs p k z.i a79 z.b.xs.length c79 w' hw.owns hB hk0 (by omega) rfl (hv79.row (hw.perm (l' := lp79 ++ ([(d, dkO s N (p) (k)), (s, dkS (B))] ++ ([(b8, cb [.int .i64 z.kind, .int .i64 z.i, z.b.v] 30)] ++ (r, rfO (.slice (some ⟨q, 0, none⟩) (64 * N) (64 * N)) (p) (k)) :: lp))) (by (refine perm_cnt (fun _ => ?_)); simp only [cntB_append, cntB_cons, cntB_nil, Nat.add_zero, Nat.zero_add]; try ac_rfl))) (hv79.off (l1 := [(d, dkO s N (p) (k)), (s, dkS (B))]) hw) hp) ?_
          refine J.perm ((d, dkO s N (wP N p z.i z.b.xs.length) (wK N p z.i z.b.xs.length k)) :: (s, dkS (wB N p z.i B z.b.xs)) :: (r, rfO (.slice (some ⟨q, 0, none⟩) (64 * N) (64 * N)) (p) (k)) :: (b8, cb [.int .i64 z.kind, .int .i64 z.i, z.b.v] 30) :: (lp ++ lp79)) (by (refine perm_cnt (fun _ => ?_)); simp only [cntB_append, cntB_cons, cntB_nil, Nat.add_zero, Nat.zero_add]; try ac_rfl) ?_
          refine J.assign rfl rfl ?_
          refine J.nil ?_
          refine JX.thenN (hK19 _ _ ?_)
          refine JC.seq (fun K20 hK20 => ?_)
          refine JC.seq (fun K21 hK21 => ?_)
          refine JC.region ?_
          refine J.move rfl rfl ?_
          refine J.move rfl rfl ?_
          refine J.fieldAddr Ty.fd30_1 rfl rfl ?_
          (first | refine J.loadO Ty.a3 rfl (.head _) rfl rfl ?_ | refine J.loadO Ty.a3 rfl (.tail _ (.head _)) rfl rfl ?_ | refine J.loadO Ty.a3 rfl (.tail _ (.tail _ (.head _))) rfl rfl ?_ | refine J.loadO Ty.a3 rfl (.tail _ (.tail _ (.tail _ (.head _)))) rfl rfl ?_ | refine J.loadO Ty.a3 rfl (.tail _ (.tail _ (.tail _ (.tail _ (.head _))))) rfl rfl ?_ | refine J.loadO Ty.a3 rfl (List.mem_append_right _ (.head _)) rfl rfl ?_ | refine J.loadO Ty.a3 rfl (List.mem_append_right _ (.tail _ (.head _))) rfl rfl ?_ | refine J.loadO Ty.a3 rfl (List.mem_append_right _ (.tail _ (.tail _ (.head _)))) rfl rfl ?_ | refine J.loadO Ty.a3 rfl (List.mem_append_right _ (.tail _ (.tail _ (.tail _ (.head _))))) rfl rfl ?_ | refine J.loadO Ty.a3 rfl (List.mem_append_right _ (.tail _ (.tail _ (.tail _ (.tail _ (.head _)))))) rfl rfl ?_)
          refine J.fieldAddr Ty.fd30_2 rfl rfl ?_
          (first | refine J.loadO Ty.a28 rfl (.head _) rfl rfl ?_ | refine J.loadO Ty.a28 rfl (.tail _ (.head _)) rfl rfl ?_ | refine J.loadO Ty.a28 rfl (.tail _ (.tail _ (.head _))) rfl rfl ?_ | refine J.loadO Ty.a28 rfl (.tail _ (.tail _ (.tail _ (.head _)))) rfl rfl ?_ | refine J.loadO Ty.a28 rfl (.tail _ (.tail _ (.tail _ (.tail _ (.head _))))) rfl rfl ?_ | refine J.loadO Ty.a28 rfl (List.mem_append_right _ (.head _)) rfl rfl ?_ | refine J.loadO Ty.a28 rfl (List.mem_append_right _ (.tail _ (.head _))) rfl rfl ?_ | refine J.loadO Ty.a28 rfl (List.mem_append_right _ (.tail _ (.tail _ (.head _)))) rfl rfl ?_ | refine J.loadO Ty.a28 rfl (List.mem_append_right _ (.tail _ (.tail _ (.tail _ (.head _))))) rfl rfl ?_ | refine J.loadO Ty.a28 rfl (List.mem_append_right _ (.tail _ (.tail _ (.tail _ (.tail _ (.head _)))))) rfl rfl ?_)
          refine J.perm (((r, rfO (.slice (some ⟨q, 0, none⟩) (64 * N) (64 * N)) (p) (k)) :: lp) ++ (lp79 ++ ([(b8, cb [.int .i64 z.kind, .int .i64 z.i, z.b.v] 30)] ++ [(d, dkO s N (wP N p z.i z.b.xs.length) (wK N p z.i z.b.xs.length k)), (s, dkS (wB N p z.i B z.b.xs))]))) (by (refine perm_cnt (fun _ => ?_)); simp only [cntB_append, cntB_cons, cntB_nil, Nat.add_zero, Nat.zero_add]; try ac_rfl) ?_
          refine J.callS (α := List (Nat × Obj)) (V := fun _ => .int .i64 (wE N p z.i z.b.xs.length)) (Pr := fun x => Vec 5 1 (.slice (some ⟨q, 0, none⟩) (64 * N) (64 * N)) (64 * N) ((wB N p z.i B z.b.xs).map u8) x) (L := fun x => (r, rfO (.slice (some ⟨q, 0, none⟩) (64 * N) (64 * N)) (wP N p z.i z.b.xs.length) (wK N p z.i z.b.xs.length k)) :: x) (l1 := (r, rfO (.slice (some ⟨q, 0, none⟩) (64 * N) (64 * N)) (p) (k)) :: lp) Ty.bd18 rfl rfl
            (fun w' hw => rwrite_all r N _ lp B z.b.xs p k z.i z.b.a z.b.xs.length z.b.c w' hw.owns hv hN2 hB hk0 (by omega) rfl (hzr.st (.inr (by simp)) hw) (hzr.offNew hw (fun p hp => List.mem_append_left _ hp)) hp) (fun lpW hvW => ?_)
          refine J.perm ((d, dkO s N (wP N p z.i z.b.xs.length) (wK N p z.i z.b.xs.length k)) :: (s, dkS (wB N p z.i B z.b.xs)) :: (r, rfO (.slice (some ⟨q, 0, none⟩) (64 * N) (64 * N)) (wP N p z.i z.b.xs.length) (wK N p z.i z.b.xs.length k)) :: (b8, cb [.int .i64 z.kind, .int .i64 z.i, z.b.v] 30) :: (lpW ++ lp79)) (by (refine perm_cnt (fun _ => ?_)); simp only [cntB_append, cntB_cons, cntB_nil, Nat.add_zero, Nat.zero_add]; try ac_rfl) ?_
          refine J.bin rfl rfl rfl rfl ?_
          refine J.move rfl rfl ?_
          refine J.split 93 rfl (fun h => by first | (exfalso; simp at h; omega) | (simp at h)) (fun _ => ?_)
          first
            | (refine J.skip rfl rfl rfl rfl rfl ?_)
            | (refine J.skipU rfl rfl rfl rfl ?_)
            | (refine J.unguard rfl rfl rfl ?_; refine J.move rfl rfl ?_)
          refine J.unguard rfl rfl rfl ?_
          refine J.toStr (m := z.b.xs.length) (bs := z.b.xs) Ty.el28 Ty.u5 Ty.u9 rfl (fun w' hw => hv79.row (hw.perm (l' := lp79 ++ ((d, dkO s N (wP N p z.i z.b.xs.length) (wK N p z.i z.b.xs.length k)) :: (s, dkS (wB N p z.i B z.b.xs)) :: (r, rfO (.slice (some ⟨q, 0, none⟩) (64 * N) (64 * N)) (wP N p z.i z.b.xs.length) (wK N p z.i z.b.xs.length k)) :: (b8, cb [.int .i64 z.kind, .int .i64 z.i, z.b.v] 30) :: lpW)) (by (refine perm_cnt (fun _ => ?_)); simp only [cntB_append, cntB_cons, cntB_nil, Nat.add_zero, Nat.zero_add]; try ac_rfl))) rfl rfl ?_
          first
            | (refine J.skip rfl rfl rfl rfl rfl ?_)
            | (refine J.skipU rfl rfl rfl rfl ?_)
            | (refine J.unguard rfl rfl rfl ?_; refine J.fieldAddr Ty.fd30_2 rfl rfl ?_)
          first
            | (refine J.skip rfl rfl rfl rfl rfl ?_)
            | (refine J.skipU rfl rfl rfl rfl ?_)
            | (refine J.unguard rfl rfl rfl ?_; (first | refine J.loadO Ty.a28 rfl (.head _) rfl rfl ?_ | refine J.loadO Ty.a28 rfl (.tail _ (.head _)) rfl rfl ?_ | refine J.loadO Ty.a28 rfl (.tail _ (.tail _ (.head _))) rfl rfl ?_ | refine J.loadO Ty.a28 rfl (.tail _ (.tail _ (.tail _ (.head _)))) rfl rfl ?_ | refine J.loadO Ty.a28 rfl (.tail _ (.tail _ (.tail _ (.tail _ (.head _))))) rfl rfl ?_ | refine J.loadO Ty.a28 rfl (List.mem_append_right _ (.head _)) rfl rfl ?_ | refine J.loadO Ty.a28 rfl (List.mem_append_right _ (.tail _ (.head _))) rfl rfl ?_ | refine J.loadO Ty.a28 rfl (List.mem_append_right _ (.tail _ (.tail _ (.head _)))) rfl rfl ?_ | refine J.loadO Ty.a28 rfl (List.mem_append_right _ (.tail _ (.tail _ (.tail _ (.head _))))) rfl rfl ?_ | refine J.loadO Ty.a28 rfl (List.mem_append_right _ (.tail _ (.tail _ (.tail _ (.tail _ (.head _)))))) rfl rfl ?_))
          refine J.unguard rfl rfl rfl ?_
          refine J.toStr (m := z.b.xs.length) (bs := z.b.xs) Ty.el28 Ty.u5 Ty.u9 rfl (fun w' hw => hzr.st (.inr (by simp)) hw) rfl rfl ?_
          first
            | (refine J.skip rfl rfl rfl rfl rfl ?_)
            | (refine J.skipU rfl rfl rfl rfl ?_)
            | (refine J.unguard rfl rfl rfl ?_; (first | refine J.strNe rfl rfl rfl ?_ | refine J.bin rfl rfl rfl rfl ?_))
          (first | refine J.pickT rfl rfl rfl ?_ | refine J.pickF rfl rfl rfl ?_)
          refine J.nil ?_
          refine JX.thenN (hK21 _ _ ?_)
          first | refine JC.condF rfl ?_ | refine JC.cond rfl (fun h => by first | (exfalso; simp at h; omega) | (simp at h)) (fun _ => ?_)
          refine JC.skip ?_
          refine JX.thenN (hK20 _ _ ?_)
          refine JC.seq (fun K22 hK22 => ?_)
          refine JC.region ?_
          refine J.perm (lp79 ++ ((d, dkO s N (wP N p z.i z.b.xs.length) (wK N p z.i z.b.xs.length k)) :: (s, dkS (wB N p z.i B z.b.xs)) :: (r, rfO (.slice (some ⟨q, 0, none⟩) (64 * N) (64 * N)) (wP N p z.i z.b.xs.length) (wK N p z.i z.b.xs.length k)) :: (b8, cb [.int .i64 z.kind, .int .i64 z.i, z.b.v] 30) :: lpW)) (by (refine perm_cnt (fun _ => ?_)); simp only [cntB_append, cntB_cons, cntB_nil, Nat.add_zero, Nat.zero_add]; try ac_rfl) ?_
          refine J.move rfl rfl ?_
          refine J.lenS rfl Ty.u28 rfl rfl ?_
          refine J.move rfl rfl ?_
          refine J.nil ?_
          refine JX.thenN (hK22 _ _ ?_)
          refine JC.block ?_
          refine JC.conseq (JC.cov (f := (fun x => [(5, .pointer (some ⟨d, 0, none⟩)), (6, .pointer (some ⟨r, 0, none⟩)), (27, o.v), (28, .int .i64 ((o.xs.length : Nat) : Int)), (29, .int .i64 ((i : Nat) : Int)), (9, .slice a79 z.b.xs.length c79), (101, .slice a79 z.b.xs.length c79), (102, .int .i64 ((z.b.xs.length : Nat) : Int)), (103, .int .i64 ((x.1 : Nat) : Int))]) ((0, z.b.xs, lp79) : Nat × List UInt8 × List (Nat × Obj))) ⟨rfl, rfl, rfl, rfl, rfl, rfl, rfl, rfl, rfl, trivial⟩ (JC.loop (α := Nat × List UInt8 × List (Nat × Obj)) (fun x => [(5, .pointer (some ⟨d, 0, none⟩)), (6, .pointer (some ⟨r, 0, none⟩)), (27, o.v), (28, .int .i64 ((o.xs.length : Nat) : Int)), (29, .int .i64 ((i : Nat) : Int)), (9, .slice a79 z.b.xs.length c79), (101, .slice a79 z.b.xs.length c79), (102, .int .i64 ((z.b.xs.length : Nat) : Int)), (103, .int .i64 ((x.1 : Nat) : Int))]) (fun x w' => (x.1 ≤ z.b.xs.length ∧ Vec 5 1 (.slice a79 z.b.xs.length c79) z.b.xs.length (x.2.1.map u8) x.2.2) ∧ St w [] (x.2.2 ++ ((d, dkO s N (wP N p z.i z.b.xs.length) (wK N p z.i z.b.xs.length k)) :: (s, dkS (wB N p z.i B z.b.xs)) :: (r, rfO (.slice (some ⟨q, 0, none⟩) (64 * N) (64 * N)) (wP N p z.i z.b.xs.length) (wK N p z.i z.b.xs.length k)) :: (b8, cb [.int .i64 z.kind, .int .i64 z.i, z.b.v] 30) :: lpW)) w') (fun x => z.b.xs.length - x.1) ((0, z.b.xs, lp79) : Nat × List UInt8 × List (Nat × Obj)) (fun x => ?_))) (fun w hw => ⟨⟨Nat.zero_le _, hv79⟩, hw⟩)
          obtain ⟨jk, yk, lk⟩ := x
          refine JC.pr (fun hx => ?_)
          obtain ⟨hjk, hvk⟩ := hx
          simp only at hjk hvk ⊢
          refine JC.seq (fun K23 hK23 => ?_)
          refine JC.region ?_
          refine J.bin rfl rfl rfl rfl ?_
          refine J.nil ?_
          refine JX.thenN (hK23 _ _ ?_)
          refine JC.seq (fun K24 hK24 => ?_)
          refine JC.cond rfl (fun h5 => ?_) (fun h5 => ?_)
          · skip
            have hltk : jk < z.b.xs.length := by simp at h5; omega
            obtain ⟨qk, sk, hqk, rfl, hyk, hfk⟩ := hvk.at hltk
            subst hqk
            refine JC.skip ?_
            refine JX.thenN (hK24 _ _ ?_)
            refine JC.seq (fun K25 hK25 => ?_)
            refine JC.block ?_
            refine JC.seq (fun K26 hK26 => ?_)
            refine JC.region ?_
            refine J.move rfl rfl ?_
            refine J.assign rfl rfl ?_
            refine J.nil ?_
            refine JX.thenN (hK26 _ _ ?_)
            refine JC.region ?_
            refine J.move rfl rfl ?_
            refine J.move rfl rfl ?_
            refine J.indexAddrS Ty.el28 Ty.s5 rfl rfl (by omega) (by omega) rfl ?_
            refine J.loadO (v := u8 (yk[jk]'(by omega))) Ty.a5 rfl (.head _) (at_u8 (by omega)) rfl ?_
            refine J.bin rfl rfl rfl rfl ?_
            refine J.name 110 rfl (u8_succ (yk[jk]'(by omega))) ?_
            refine J.indexAddrS Ty.el28 Ty.s5 rfl rfl (by omega) (by omega) rfl ?_
            refine J.storeO (vs := [u8 (yk[jk]'(by omega) + 1)]) Ty.s5 rfl rfl rfl rfl (by simp [Value.oneCell']) .here (by simp; omega) ?_
            refine J.nil ?_
            refine JX.blockN ?_
            refine JX.thenN (hK25 _ _ ?_)
            refine JC.region ?_
            (first | refine J.addN rfl rfl (by omega) (by omega) rfl ?_ | refine J.bin rfl rfl rfl rfl ?_)
            refine J.move rfl rfl ?_
            refine J.nil ?_
            refine JX.thenN ?_
            refine JX.again (jk + 1, yk.set jk (yk[jk]'(by omega) + 1), [(qk, cb (setMany (yk.map u8 ++ sk) (0 + (jk : Int).toNat * 1) [u8 (yk[jk]'(by omega) + 1)]) 5)]) ?_ ?_ ?_
            · simp only; omega
            · exact ⟨rfl, rfl, rfl, rfl, rfl, rfl, rfl, rfl, rfl, trivial⟩
            · exact fun w hw => ⟨⟨hltk, hfk _⟩, hw⟩
          · skip
            have hgek : jk = z.b.xs.length := by simp at h5; omega
            refine JC.exit ?_
            refine JX.thenE ?_
            refine JX.thenE ?_
            refine JX.blockE ?_
            refine JX.blockN ?_
            refine JX.thenN ?_
            exact JX.cut (hK14 (wB N p z.i B z.b.xs, wP N p z.i z.b.xs.length, wK N p z.i z.b.xs.length k, lpW)) ⟨rfl, rfl, rfl, rfl, rfl, trivial⟩ (fun w1 hw => ⟨⟨wB_length hB, (wK_range hk0 hk1).1, (wK_range hk0 hk1).2, wP_lt hp, hvW⟩, St.drop (St.perm (l' := (lk ++ [(b8, cb [.int .i64 z.kind, .int .i64 z.i, z.b.v] 30)]) ++ ((d, dkO s N (wP N p z.i z.b.xs.length) (wK N p z.i z.b.xs.length k)) :: (s, dkS (wB N p z.i B z.b.xs)) :: (r, rfO (.slice (some ⟨q, 0, none⟩) (64 * N) (64 * N)) (wP N p z.i z.b.xs.length) (wK N p z.i z.b.xs.length k)) :: lpW)) hw (by (refine perm_cnt (fun _ => ?_)); simp only [cntB_append, cntB_cons, cntB_nil, Nat.add_zero, Nat.zero_add]; try ac_rfl)) (List.sublist_append_right _ _)⟩)
        · skip
          try simp only [decide_eq_true_eq, decide_eq_false_iff_not, beq_iff_eq, bne_iff_ne, bne_eq_false_iff_eq, ne_eq, beq_eq_false_iff_ne, Bool.not_eq_true, Bool.not_eq_false, Int.not_lt, Int.not_le] at h3
          refine JC.seq (fun K27 hK27 => ?_)
          refine JC.region ?_
          refine J.bin rfl rfl rfl rfl ?_
          refine J.assign rfl rfl ?_
          refine J.nil ?_
          refine JX.thenN (hK27 _ _ ?_)
          refine JC.cond rfl (fun h6 => ?_) (fun h6 => ?_)
          · skip
            try simp only [decide_eq_true_eq, decide_eq_false_iff_not, beq_iff_eq, bne_iff_ne, bne_eq_false_iff_eq, ne_eq, beq_eq_false_iff_ne, Bool.not_eq_true, Bool.not_eq_false, Int.not_lt, Int.not_le] at h6
            refine JC.seq (fun K28 hK28 => ?_)
            refine JC.region ?_
            refine J.move rfl rfl ?_
            refine J.fieldAddr Ty.fd30_1 rfl rfl ?_
            (first | refine J.loadO Ty.a3 rfl (.head _) rfl rfl ?_ | refine J.loadO Ty.a3 rfl (.tail _ (.head _)) rfl rfl ?_ | refine J.loadO Ty.a3 rfl (.tail _ (.tail _ (.head _))) rfl rfl ?_ | refine J.loadO Ty.a3 rfl (.tail _ (.tail _ (.tail _ (.head _)))) rfl rfl ?_ | refine J.loadO Ty.a3 rfl (.tail _ (.tail _ (.tail _ (.tail _ (.head _))))) rfl rfl ?_ | refine J.loadO Ty.a3 rfl (List.mem_append_right _ (.head _)) rfl rfl ?_ | refine J.loadO Ty.a3 rfl (List.mem_append_right _ (.tail _ (.head _))) rfl rfl ?_ | refine J.loadO Ty.a3 rfl (List.mem_append_right _ (.tail _ (.tail _ (.head _)))) rfl rfl ?_ | refine J.loadO Ty.a3 rfl (List.mem_append_right _ (.tail _ (.tail _ (.tail _ (.head _))))) rfl rfl ?_ | refine J.loadO Ty.a3 rfl (List.mem_append_right _ (.tail _ (.tail _ (.tail _ (.tail _ (.head _)))))) rfl rfl ?_)
            refine J.perm ([(d, dkO s N (p) (k))] ++ ((s, dkS (B)) :: (r, rfO (.slice (some ⟨q, 0, none⟩) (64 * N) (64 * N)) (p) (k)) :: (b8, cb [.int .i64 z.kind, .int .i64 z.i, z.b.v] 30) :: lp)) (by (refine perm_cnt (fun _ => ?_)); simp only [cntB_append, cntB_cons, cntB_nil, Nat.add_zero, Nat.zero_add]; try ac_rfl) ?_
            refine J.callT (l1 := [(d, dkO s N (p) (k))]) (L := [(d, dkO s N (max z.i (-1)) (k))]) Ty.bd19 rfl rfl (fun w' hw => power_spec d s N p k z.i w' hw.owns) ?_
            refine J.nil ?_
            refine JX.thenN (hK28 _ _ ?_)
            refine JC.region ?_
            refine J.move rfl rfl ?_
            refine J.fieldAddr Ty.fd30_1 rfl rfl ?_
            (first | refine J.loadO Ty.a3 rfl (.head _) rfl rfl ?_ | refine J.loadO Ty.a3 rfl (.tail _ (.head _)) rfl rfl ?_ | refine J.loadO Ty.a3 rfl (.tail _ (.tail _ (.head _))) rfl rfl ?_ | refine J.loadO Ty.a3 rfl (.tail _ (.tail _ (.tail _ (.head _)))) rfl rfl ?_ | refine J.loadO Ty.a3 rfl (.tail _ (.tail _ (.tail _ (.tail _ (.head _))))) rfl rfl ?_ | refine J.loadO Ty.a3 rfl (List.mem_append_right _ (.head _)) rfl rfl ?_ | refine J.loadO Ty.a3 rfl (List.mem_append_right _ (.tail _ (.head _))) rfl rfl ?_ | refine J.loadO Ty.a3 rfl (List.mem_append_right _ (.tail _ (.tail _ (.head _)))) rfl rfl ?_ | refine J.loadO Ty.a3 rfl (List.mem_append_right _ (.tail _ (.tail _ (.tail _ (.head _))))) rfl rfl ?_ | refine J.loadO Ty.a3 rfl (List.mem_append_right _ (.tail _ (.tail _ (.tail _ (.tail _ (.head _)))))) rfl rfl ?_)
            refine J.max2 rfl rfl rfl ?_
            refine J.nilCheck rfl rfl ?_
            refine J.fieldAddr Ty.fd35_1 rfl rfl ?_
            (first | refine J.storeO Ty.s3 rfl rfl rfl rfl (by simp [Value.oneCell']) .here (by simp) ?_ | refine J.storeO Ty.s3 rfl rfl rfl rfl (by simp [Value.oneCell']) (.there .here) (by simp) ?_ | refine J.storeO Ty.s3 rfl rfl rfl rfl (by simp [Value.oneCell']) (.there (.there .here)) (by simp) ?_ | refine J.storeO Ty.s3 rfl rfl rfl rfl (by simp [Value.oneCell']) (.there (.there (.there .here))) (by simp) ?_)
            refine J.nil ?_
            refine JX.blockN ?_
            refine JX.thenN ?_
            exact JX.cut (hK14 (B, max z.i (-1), k, lp)) ⟨rfl, rfl, rfl, rfl, rfl, trivial⟩ (fun w1 hw => ⟨⟨hB, hk0, by simp only; omega, by simp only; omega, hv⟩, St.drop (St.perm (l' := [(b8, cb [.int .i64 z.kind, .int .i64 z.i, z.b.v] 30)] ++ ((d, dkO s N (max z.i (-1)) (k)) :: (s, dkS (B)) :: (r, rfO (.slice (some ⟨q, 0, none⟩) (64 * N) (64 * N)) (max z.i (-1)) (k)) :: lp)) hw (by (refine perm_cnt (fun _ => ?_)); simp only [cntB_append, cntB_cons, cntB_nil, Nat.add_zero, Nat.zero_add]; try ac_rfl)) (List.sublist_append_right _ _)⟩)
          · skip
            try simp only [decide_eq_true_eq, decide_eq_false_iff_not, beq_iff_eq, bne_iff_ne, bne_eq_false_iff_eq, ne_eq, beq_eq_false_iff_ne, Bool.not_eq_true, Bool.not_eq_false, Int.not_lt, Int.not_le] at h6
            refine JC.seq (fun K29 hK29 => ?_)
            refine JC.region ?_
            refine J.move rfl rfl ?_
            refine J.fieldAddr Ty.fd30_1 rfl rfl ?_
            (first | refine J.loadO Ty.a3 rfl (.head _) rfl rfl ?_ | refine J.loadO Ty.a3 rfl (.tail _ (.head _)) rfl rfl ?_ | refine J.loadO Ty.a3 rfl (.tail _ (.tail _ (.head _))) rfl rfl ?_ | refine J.loadO Ty.a3 rfl (.tail _ (.tail _ (.tail _ (.head _)))) rfl rfl ?_ | refine J.loadO Ty.a3 rfl (.tail _ (.tail _ (.tail _ (.tail _ (.head _))))) rfl rfl ?_ | refine J.loadO Ty.a3 rfl (List.mem_append_right _ (.head _)) rfl rfl ?_ | refine J.loadO Ty.a3 rfl (List.mem_append_right _ (.tail _ (.head _))) rfl rfl ?_ | refine J.loadO Ty.a3 rfl (List.mem_append_right _ (.tail _ (.tail _ (.head _)))) rfl rfl ?_ | refine J.loadO Ty.a3 rfl (List.mem_append_right _ (.tail _ (.tail _ (.tail _ (.head _))))) rfl rfl ?_ | refine J.loadO Ty.a3 rfl (List.mem_append_right _ (.tail _ (.tail _ (.tail _ (.tail _ (.head _)))))) rfl rfl ?_)
            refine J.perm ([(d, dkO s N (p) (k)), (s, dkS (B))] ++ ([(b8, cb [.int .i64 z.kind, .int .i64 z.i, z.b.v] 30)] ++ (r, rfO (.slice (some ⟨q, 0, none⟩) (64 * N) (64 * N)) (p) (k)) :: lp)) (by (refine perm_cnt (fun _ => ?_)); simp only [cntB_append, cntB_cons, cntB_nil, Nat.add_zero, Nat.zero_add]; try ac_rfl) ?_
            refine J.callS (l1 := [(d, dkO s N (p) (k)), (s, dkS (B))]) Ty.bd20 rfl rfl (fun w' hw => read_all d s N B p k z.i w' hw.owns hB) (fun x hv42 => ?_)
            obtain ⟨v42, lp42⟩ := x
            simp only at hv42 ⊢
            obtain ⟨a42, c42, rfl, hc42⟩ := hv42.form
            refine J.perm ((d, dkO s N (p) (k)) :: (s, dkS (B)) :: (r, rfO (.slice (some ⟨q, 0, none⟩) (64 * N) (64 * N)) (p) (k)) :: (b8, cb [.int .i64 z.kind, .int .i64 z.i, z.b.v] 30) :: (lp ++ lp42)) (by (refine perm_cnt (fun _ => ?_)); simp only [cntB_append, cntB_cons, cntB_nil, Nat.add_zero, Nat.zero_add]; try ac_rfl) ?_
            refine J.move rfl rfl ?_
            refine J.extract rfl rfl rfl ?_
            refine J.extract rfl rfl rfl ?_
            refine J.assign rfl rfl ?_
            refine J.assign rfl rfl ?_
            refine J.nil ?_
            refine JX.thenN (hK29 _ _ ?_)
            refine JC.seq (fun K30 hK30 => ?_)
            refine JC.region ?_
            refine J.move rfl rfl ?_
            refine J.fieldAddr Ty.fd30_1 rfl rfl ?_
            (first | refine J.loadO Ty.a3 rfl (.head _) rfl rfl ?_ | refine J.loadO Ty.a3 rfl (.tail _ (.head _)) rfl rfl ?_ | refine J.loadO Ty.a3 rfl (.tail _ (.tail _ (.head _))) rfl rfl ?_ | refine J.loadO Ty.a3 rfl (.tail _ (.tail _ (.tail _ (.head _)))) rfl rfl ?_ | refine J.loadO Ty.a3 rfl (.tail _ (.tail _ (.tail _ (.tail _ (.head _))))) rfl rfl ?_ | refine J.loadO Ty.a3 rfl (List.mem_append_right _ (.head _)) rfl rfl ?_ | refine J.loadO Ty.a3 rfl (List.mem_append_right _ (.tail _ (.head _))) rfl rfl ?_ | refine J.loadO Ty.a3 rfl (List.mem_append_right _ (.tail _ (.tail _ (.head _)))) rfl rfl ?_ | refine J.loadO Ty.a3 rfl (List.mem_append_right _ (.tail _ (.tail _ (.tail _ (.head _))))) rfl rfl ?_ | refine J.loadO Ty.a3 rfl (List.mem_append_right _ (.tail _ (.tail _ (.tail _ (.tail _ (.head _)))))) rfl rfl ?_)
            refine J.perm (((r, rfO (.slice (some ⟨q, 0, none⟩) (64 * N) (64 * N)) (p) (k)) :: lp) ++ (lp42 ++ [(b8, cb [.int .i64 z.kind, .int .i64 z.i, z.b.v] 30), (d, dkO s N (p) (k)), (s, dkS (B))])) (by (refine perm_cnt (fun _ => ?_)); simp only [cntB_append, cntB_cons, cntB_nil, Nat.add_zero, Nat.zero_add]; try ac_rfl) ?_
            refine J.callS (l1 := (r, rfO (.slice (some ⟨q, 0, none⟩) (64 * N) (64 * N)) (p) (k)) :: lp) Ty.bd21 rfl rfl (fun w' hw => rread_all r N _ lp B p k w' hw.owns hv hN2 z.i hB) (fun x hv49 => ?_)
            obtain ⟨v49, lp49⟩ := x
            simp only at hv49 ⊢
            obtain ⟨a49, c49, rfl, hc49⟩ := hv49.form
            refine J.perm ((d, dkO s N (p) (k)) :: (s, dkS (B)) :: (r, rfO (.slice (some ⟨q, 0, none⟩) (64 * N) (64 * N)) (p) (k)) :: (b8, cb [.int .i64 z.kind, .int .i64 z.i, z.b.v] 30) :: (lp ++ lp42 ++ lp49)) (by (refine perm_cnt (fun _ => ?_)); simp only [cntB_append, cntB_cons, cntB_nil, Nat.add_zero, Nat.zero_add]; try ac_rfl) ?_
            refine J.move rfl rfl ?_
            refine J.extract rfl rfl rfl ?_
            refine J.extract rfl rfl rfl ?_
            refine J.assign rfl rfl ?_
            refine J.assign rfl rfl ?_
            refine J.nil ?_
            refine JX.thenN (hK30 _ _ ?_)
            refine JC.seq (fun K31 hK31 => ?_)
            refine JC.seq (fun K32 hK32 => ?_)
            refine JC.region ?_
            refine J.move rfl rfl ?_
            refine J.toStr (m := (rB N B z.i).length) (bs := rB N B z.i) Ty.el28 Ty.u5 Ty.u9 rfl (fun w' hw => hv42.row (hw.perm (l' := lp42 ++ ((d, dkO s N (p) (k)) :: (s, dkS (B)) :: (r, rfO (.slice (some ⟨q, 0, none⟩) (64 * N) (64 * N)) (p) (k)) :: (b8, cb [.int .i64 z.kind, .int .i64 z.i, z.b.v] 30) :: (lp ++ lp49))) (by (refine perm_cnt (fun _ => ?_)); simp only [cntB_append, cntB_cons, cntB_nil, Nat.add_zero, Nat.zero_add]; try ac_rfl))) rfl rfl ?_
            refine J.move rfl rfl ?_
            refine J.toStr (m := (rB N B z.i).length) (bs := rB N B z.i) Ty.el28 Ty.u5 Ty.u9 rfl (fun w' hw => hv49.row (hw.perm (l' := lp49 ++ ((d, dkO s N (p) (k)) :: (s, dkS (B)) :: (r, rfO (.slice (some ⟨q, 0, none⟩) (64 * N) (64 * N)) (p) (k)) :: (b8, cb [.int .i64 z.kind, .int .i64 z.i, z.b.v] 30) :: (lp ++ lp42))) (by (refine perm_cnt (fun _ => ?_)); simp only [cntB_append, cntB_cons, cntB_nil, Nat.add_zero, Nat.zero_add]; try ac_rfl))) rfl rfl ?_
            (first | refine J.strNe rfl rfl rfl ?_ | refine J.bin rfl rfl rfl rfl ?_)
            refine J.move rfl rfl ?_
            refine J.split 57 rfl (fun h => by first | (exfalso; simp at h; omega) | (simp at h)) (fun _ => ?_)
            first
              | (refine J.skip rfl rfl rfl rfl rfl ?_)
              | (refine J.skipU rfl rfl rfl rfl ?_)
              | (refine J.unguard rfl rfl rfl ?_; refine J.move rfl rfl ?_)
            first
              | (refine J.skip rfl rfl rfl rfl rfl ?_)
              | (refine J.skipU rfl rfl rfl rfl ?_)
              | (refine J.unguard rfl rfl rfl ?_; refine J.move rfl rfl ?_)
            first
              | (refine J.skip rfl rfl rfl rfl rfl ?_)
              | (refine J.skipU rfl rfl rfl rfl ?_)
              | (refine J.unguard rfl rfl rfl ?_; refine J.bin rfl rfl rfl rfl ?_)
            (first | refine J.pickT rfl rfl rfl ?_ | refine J.pickF rfl rfl rfl ?_)
            refine J.nil ?_
            refine JX.thenN (hK32 _ _ ?_)
            first | refine JC.condF rfl ?_ | refine JC.cond rfl (fun h => by first | (exfalso; simp at h; omega) | (simp at h)) (fun _ => ?_)
            refine JC.skip ?_
            refine JX.thenN (hK31 _ _ ?_)
            refine JC.seq (fun K33 hK33 => ?_)
            refine JC.region ?_
            refine J.perm (lp42 ++ ((d, dkO s N (p) (k)) :: (s, dkS (B)) :: (r, rfO (.slice (some ⟨q, 0, none⟩) (64 * N) (64 * N)) (p) (k)) :: (b8, cb [.int .i64 z.kind, .int .i64 z.i, z.b.v] 30) :: (lp ++ lp49))) (by (refine perm_cnt (fun _ => ?_)); simp only [cntB_append, cntB_cons, cntB_nil, Nat.add_zero, Nat.zero_add]; try ac_rfl) ?_
            refine J.move rfl rfl ?_
            refine J.lenS rfl Ty.u28 rfl rfl ?_
            refine J.move rfl rfl ?_
            refine J.nil ?_
            refine JX.thenN (hK33 _ _ ?_)
            refine JC.block ?_
            refine JC.conseq (JC.cov (f := (fun x => [(5, .pointer (some ⟨d, 0, none⟩)), (6, .pointer (some ⟨r, 0, none⟩)), (27, o.v), (28, .int .i64 ((o.xs.length : Nat) : Int)), (29, .int .i64 ((i : Nat) : Int)), (12, .slice a42 (rB N B z.i).length c42), (62, .slice a42 (rB N B z.i).length c42), (63, .int .i64 (((rB N B z.i).length : Nat) : Int)), (64, .int .i64 ((x.1 : Nat) : Int))]) ((0, (rB N B z.i), lp42) : Nat × List UInt8 × List (Nat × Obj))) ⟨rfl, rfl, rfl, rfl, rfl, rfl, rfl, rfl, rfl, trivial⟩ (JC.loop (α := Nat × List UInt8 × List (Nat × Obj)) (fun x => [(5, .pointer (some ⟨d, 0, none⟩)), (6, .pointer (some ⟨r, 0, none⟩)), (27, o.v), (28, .int .i64 ((o.xs.length : Nat) : Int)), (29, .int .i64 ((i : Nat) : Int)), (12, .slice a42 (rB N B z.i).length c42), (62, .slice a42 (rB N B z.i).length c42), (63, .int .i64 (((rB N B z.i).length : Nat) : Int)), (64, .int .i64 ((x.1 : Nat) : Int))]) (fun x w' => (x.1 ≤ (rB N B z.i).length ∧ Vec 5 1 (.slice a42 (rB N B z.i).length c42) (rB N B z.i).length (x.2.1.map u8) x.2.2) ∧ St w [] (x.2.2 ++ ((d, dkO s N (p) (k)) :: (s, dkS (B)) :: (r, rfO (.slice (some ⟨q, 0, none⟩) (64 * N) (64 * N)) (p) (k)) :: (b8, cb [.int .i64 z.kind, .int .i64 z.i, z.b.v] 30) :: (lp ++ lp49))) w') (fun x => (rB N B z.i).length - x.1) ((0, (rB N B z.i), lp42) : Nat × List UInt8 × List (Nat × Obj)) (fun x => ?_))) (fun w hw => ⟨⟨Nat.zero_le _, hv42⟩, hw⟩)
            obtain ⟨jk, yk, lk⟩ := x
            refine JC.pr (fun hx => ?_)
            obtain ⟨hjk, hvk⟩ := hx
            simp only at hjk hvk ⊢
            refine JC.seq (fun K34 hK34 => ?_)
            refine JC.region ?_
            refine J.bin rfl rfl rfl rfl ?_
            refine J.nil ?_
            refine JX.thenN (hK34 _ _ ?_)
            refine JC.seq (fun K35 hK35 => ?_)
            refine JC.cond rfl (fun h8 => ?_) (fun h8 => ?_)
            · skip
              have hltk : jk < (rB N B z.i).length := by simp at h8; omega
              obtain ⟨qk, sk, hqk, rfl, hyk, hfk⟩ := hvk.at hltk
              subst hqk
              refine JC.skip ?_
              refine JX.thenN (hK35 _ _ ?_)
              refine JC.seq (fun K36 hK36 => ?_)
              refine JC.block ?_
              refine JC.seq (fun K37 hK37 => ?_)
              refine JC.region ?_
              refine J.move rfl rfl ?_
              refine J.assign rfl rfl ?_
              refine J.nil ?_
              refine JX.thenN (hK37 _ _ ?_)
              refine JC.region ?_
              refine J.move rfl rfl ?_
              refine J.move rfl rfl ?_
              refine J.indexAddrS Ty.el28 Ty.s5 rfl rfl (by omega) (by omega) rfl ?_
              refine J.loadO (v := u8 (yk[jk]'(by omega))) Ty.a5 rfl (.head _) (at_u8 (by omega)) rfl ?_
              refine J.bin rfl rfl rfl rfl ?_
              refine J.name 71 rfl (u8_succ (yk[jk]'(by omega))) ?_
              refine J.indexAddrS Ty.el28 Ty.s5 rfl rfl (by omega) (by omega) rfl ?_
              refine J.storeO (vs := [u8 (yk[jk]'(by omega) + 1)]) Ty.s5 rfl rfl rfl rfl (by simp [Value.oneCell']) .here (by simp; omega) ?_
              refine J.nil ?_
              refine JX.blockN ?_
              refine JX.thenN (hK36 _ _ ?_)
              refine JC.region ?_
              (first | refine J.addN rfl rfl (by omega) (by omega) rfl ?_ | refine J.bin rfl rfl rfl rfl ?_)
              refine J.move rfl rfl ?_
              refine J.nil ?_
              refine JX.thenN ?_
              refine JX.again (jk + 1, yk.set jk (yk[jk]'(by omega) + 1), [(qk, cb (setMany (yk.map u8 ++ sk) (0 + (jk : Int).toNat * 1) [u8 (yk[jk]'(by omega) + 1)]) 5)]) ?_ ?_ ?_
              · simp only; omega
              · exact ⟨rfl, rfl, rfl, rfl, rfl, rfl, rfl, rfl, rfl, trivial⟩
              · exact fun w hw => ⟨⟨hltk, hfk _⟩, hw⟩
            · skip
              have hgek : jk = (rB N B z.i).length := by simp at h8; omega
              refine JC.exit ?_
              refine JX.thenE ?_
              refine JX.thenE ?_
              refine JX.blockE ?_
              refine JX.blockN ?_
              refine JX.thenN ?_
              exact JX.cut (hK14 (B, p, k, lp)) ⟨rfl, rfl, rfl, rfl, rfl, trivial⟩ (fun w1 hw => ⟨⟨hB, hk0, by simp only; omega, hp, hv⟩, St.drop (St.perm (l' := (lk ++ lp49 ++ [(b8, cb [.int .i64 z.kind, .int .i64 z.i, z.b.v] 30)]) ++ ((d, dkO s N (p) (k)) :: (s, dkS (B)) :: (r, rfO (.slice (some ⟨q, 0, none⟩) (64 * N) (64 * N)) (p) (k)) :: lp)) hw (by (refine perm_cnt (fun _ => ?_)); simp only [cntB_append, cntB_cons, cntB_nil, Nat.add_zero, Nat.zero_add]; try ac_rfl)) (List.sublist_append_right _ _)⟩)
  · skip
    have hge : i = o.xs.length := by simp at h1; omega
    refine JC.exit ?_
    refine JX.thenE ?_
    refine JX.thenE ?_
    refine JX.blockE ?_
    refine JX.thenN (hK5 _ _ ?_)
    refine JC.seq (fun K38 hK38 => ?_)
    apply JC.drawL 9 [Eqv _, RowP (64 * N) (B.map u8), Eqv _, Eqv _, Eqv _, Eqv _, Eqv _, Eqv _, Eqv _] Ty.mixed rfl rfl rfl (by kernel_rfl) rfl rfl (fun w w' hw hb => hw.step hb) ⟨fun _ _ _ h _ => h, RowP.st _ _, fun _ _ _ h _ => h, fun _ _ _ h _ => h, fun _ _ _ h _ => h, fun _ _ _ h _ => h, fun _ _ _ h _ => h, fun _ _ _ h _ => h, fun _ _ _ h _ => h, trivial⟩ ?hstep ?htail
    case hstep =>
      refine ⟨fun wi => ?_, fun wi => ?_, fun wi => ?_, fun wi => ?_, fun wi => ?_, fun wi => ?_, fun wi => ?_, fun wi => ?_, fun wi => ?_, trivial⟩
      · skip
        refine Fin.nil ?_
        refine J.move rfl rfl ?_
        refine J.nil (JX.fin rfl (fun w hw => ⟨rfl, (by rw [hw.1]; exact Below.refl _ _)⟩))
      · skip
        refine Fin.cons (fun v35_0 => ?_)
        refine Fin.nil ?_
        refine J.prE (fun h => ?_); subst h
        refine J.callR (k := 64 * N) (ys := B.map u8) Ty.bd24 rfl rfl (fun w' hw => (bytes_spec d s N B p k w' (St.owns (l1 := [(d, dkO s N (p) (k)), (s, dkS (B))]) (l := (r, rfO (.slice (some ⟨q, 0, none⟩) (64 * N) (64 * N)) (p) (k)) :: lp) hw) hB hN2).mono fun _ w2 ⟨x, h1, h2, h3⟩ => ⟨x.1, h1, h2.row (l := [(d, dkO s N (p) (k)), (s, dkS (B))]) h3, h3.same (St.owns (l1 := [(d, dkO s N (p) (k)), (s, dkS (B))]) (l := (r, rfO (.slice (some ⟨q, 0, none⟩) (64 * N) (64 * N)) (p) (k)) :: lp) hw) (fun p hp => List.mem_append_right _ hp)⟩) (fun v126 => ?_)
        refine J.nil (JX.fin rfl (fun w hw => ⟨hw.1, hw.2⟩))
      · skip
        refine Fin.cons (fun v35_1 => ?_)
        refine Fin.nil ?_
        refine J.prR ?_
        refine J.toStr (m := 64 * N) (bs := B) Ty.el28 Ty.u5 Ty.u9 rfl (fun w' hw => hw.2.1) hB rfl ?_
        refine J.nil (JX.fin rfl (fun w hw => ⟨rfl, (by rw [hw.1]; exact Below.refl _ _)⟩))
      · skip
        refine Fin.nil ?_
        refine J.move rfl rfl ?_
        refine J.nil (JX.fin rfl (fun w hw => ⟨rfl, (by rw [hw.1]; exact Below.refl _ _)⟩))
      · skip
        refine Fin.cons (fun v35_3 => ?_)
        refine Fin.nil ?_
        refine J.prE (fun h => ?_); subst h
        refine J.nilCheck rfl rfl ?_
        refine J.nil (JX.fin rfl (fun w hw => ⟨rfl, (by rw [hw.1]; exact Below.refl _ _)⟩))
      · skip
        refine Fin.cons (fun v35_4 => ?_)
        refine Fin.nil ?_
        refine J.prE (fun h => ?_); subst h
        refine J.fieldAddr Ty.fd35_0 rfl rfl ?_
        refine J.nil (JX.fin rfl (fun w hw => ⟨rfl, (by rw [hw.1]; exact Below.refl _ _)⟩))
      · skip
        refine Fin.cons (fun v35_5 => ?_)
        refine Fin.nil ?_
        refine J.prE (fun h => ?_); subst h
        (first | refine J.load1 Ty.a28 rfl (fun w hw => (cell_of (hw.2.own _ (.head _))).trans rfl) rfl ?_ | refine J.load1 Ty.a28 rfl (fun w hw => (cell_of (hw.2.own _ (.tail _ (.head _)))).trans rfl) rfl ?_ | refine J.load1 Ty.a28 rfl (fun w hw => (cell_of (hw.2.own _ (.tail _ (.tail _ (.head _))))).trans rfl) rfl ?_ | refine J.load1 Ty.a28 rfl (fun w hw => (cell_of (hw.2.own _ (.tail _ (.tail _ (.tail _ (.head _)))))).trans rfl) rfl ?_ | refine J.load1 Ty.a28 rfl (fun w hw => (cell_of (hw.2.own _ (.tail _ (.tail _ (.tail _ (.tail _ (.head _))))))).trans rfl) rfl ?_ | refine J.load1 Ty.a28 rfl (fun w hw => (cell_of (hw.2.own _ (List.mem_append_right _ (.head _)))).trans rfl) rfl ?_ | refine J.load1 Ty.a28 rfl (fun w hw => (cell_of (hw.2.own _ (List.mem_append_right _ (.tail _ (.head _))))).trans rfl) rfl ?_ | refine J.load1 Ty.a28 rfl (fun w hw => (cell_of (hw.2.own _ (List.mem_append_right _ (.tail _ (.tail _ (.head _)))))).trans rfl) rfl ?_ | refine J.load1 Ty.a28 rfl (fun w hw => (cell_of (hw.2.own _ (List.mem_append_right _ (.tail _ (.tail _ (.tail _ (.head _))))))).trans rfl) rfl ?_ | refine J.load1 Ty.a28 rfl (fun w hw => (cell_of (hw.2.own _ (List.mem_append_right _ (.tail _ (.tail _ (.tail _ (.tail _ (.head _)))))))).trans rfl) rfl ?_)
        refine J.nil (JX.fin rfl (fun w hw => ⟨rfl, (by rw [hw.1]; exact Below.refl _ _)⟩))
      · skip
        refine Fin.cons (fun v35_6 => ?_)
        refine Fin.nil ?_
        refine J.prE (fun h => ?_); subst h
        refine J.toStr (m := 64 * N) (bs := B) Ty.el28 Ty.u5 Ty.u9 rfl (fun w' hw => hv.row (l := [(d, dkO s N (p) (k)), (s, dkS (B)), (r, rfO (.slice (some ⟨q, 0, none⟩) (64 * N) (64 * N)) (p) (k))]) (hw.2.perm (by (refine perm_cnt (fun _ => ?_)); simp only [cntB_append, cntB_cons, cntB_nil, Nat.add_zero, Nat.zero_add]; try ac_rfl))) hB rfl ?_
        refine J.nil (JX.fin rfl (fun w hw => ⟨rfl, (by rw [hw.1]; exact Below.refl _ _)⟩))
      · skip
        refine Fin.cons (fun v35_2 => ?_)
        refine Fin.cons (fun v35_7 => ?_)
        refine Fin.nil ?_
        refine J.prE (fun h => ?_); subst h
        refine J.prE (fun h => ?_); subst h
        refine J.strEq rfl rfl rfl ?_
        refine J.name 152 rfl (show Value.bool _ = .bool true by simp) ?_
        refine J.nil (JX.fin rfl (fun w hw => ⟨rfl, (by rw [hw.1]; exact Below.refl _ _)⟩))
    case htail =>
      refine Fin.cons (fun v35_0 => ?_)
      refine Fin.cons (fun v35_1 => ?_)
      refine Fin.cons (fun v35_2 => ?_)
      refine Fin.cons (fun v35_3 => ?_)
      refine Fin.cons (fun v35_4 => ?_)
      refine Fin.cons (fun v35_5 => ?_)
      refine Fin.cons (fun v35_6 => ?_)
      refine Fin.cons (fun v35_7 => ?_)
      refine Fin.cons (fun v35_8 => ?_)
      refine Fin.nil ?_
      refine J.prE (fun h => ?_); subst h
      refine J.prE (fun h => ?_); subst h
      refine J.prE (fun h => ?_); subst h
      refine J.prE (fun h => ?_); subst h
      refine J.prE (fun h => ?_); subst h
      refine J.prE (fun h => ?_); subst h
      refine J.prE (fun h => ?_); subst h
      refine J.drop ?_
      refine J.prE (fun h => ?_); subst h
      refine J.assign rfl rfl ?_
      refine J.nil ?_
      refine JX.thenN (hK38 _ _ ?_)
      refine JC.ret ?_
      refine JX.ret1 rfl rfl (fun w hw => ?_)
      exact ⟨rfl, hw.below⟩

end Go.Proofs.Ytlmbpfgiadbjaaa
