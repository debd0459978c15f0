/-
  The laws of layer 5 (disk): walks, third part.
-/
import Derived.Test.YtlmbpfgiadbjaaaDm
namespace Go.Proofs.Ytlmbpfgiadbjaaa
open Go.J Go.RowKit
set_option linter.unusedVariables false
set_option linter.unusedSimpArgs false
set_option maxRecDepth 8000


theorem wrap_i64m (n : Int) : IntKind.i64.wrap n = (n + 9223372036854775808) % 18446744073709551616 - 9223372036854775808 := by
  unfold IntKind.wrap; simp [IntKind.bits, IntKind.signed]; split <;> omega
theorem may_cases (i : Int) (n m : Nat) : i < 0 ∨ (0 ≤ i ∧ (n : Int) ≤ i) ∨ (0 ≤ i ∧ i < n ∧ 64 < m) ∨ (0 ≤ i ∧ i < n ∧ m ≤ 64) := by omega
theorem w_ok {n m : Nat} {p i : Int} (h0 : 0 ≤ i) (h1 : i < n) (h2 : m ≤ 64) (h3 : p ≠ 0) : wE n p i m = 0 := by
  rw [wE, if_neg (by omega), if_neg (by omega), if_neg h3]
theorem wrap_ne {q : Int} {k : Int} (hq : -9223372036854775808 ≤ q) (hk : 0 ≤ k) (hk2 : k ≤ 400) (h : q < 0) : IntKind.i64.wrap (q - k) ≠ 0 := by
  rw [wrap_i64m]; omega
theorem wrap_pred {q k : Int} : IntKind.i64.wrap (IntKind.i64.wrap (q - k) - 1) = IntKind.i64.wrap (q - (k + 1)) := by
  rw [wrap_i64m, wrap_i64m, wrap_i64m]; omega

theorem diskStops_walk (w : World) (n0 : Int) (_w1 : (Lit.int .i64 n0).wf = true) (q0 : Int) (w2 : (Lit.int .i64 q0).wf = true) (o : Sl OpD) (ho : RSl 3 40 ROp w [o.v] o) :
    Calls Try.prog 4 [.int .i64 n0, .int .i64 q0, o.v].toArray w fun r w' => r = .returned (.bool true) ∧ Below w.heap.size w w' := by
  have hq := bounds_i64 w2
  refine calls_of_J (args := [.int .i64 n0, .int .i64 q0, o.v]) (e := [(0, .int .i64 n0), (1, .int .i64 q0), (2, o.v)]) Try.func4 rfl rfl ⟨rfl, rfl, rfl, trivial⟩ (St.start w) ?_
  refine JC.seq (fun K0 hK0 => ?_)
  refine JC.region ?_
  refine J.assign rfl rfl ?_
  refine J.nil ?_
  refine JX.thenN (hK0 _ _ ?_)
  refine JC.seq (fun K1 hK1 => ?_)
  refine JC.region ?_
  refine J.move rfl rfl ?_
  refine J.callS (l1 := []) Ty.bd14 rfl rfl (fun w' hw => new_spec n0 w') (fun x _ => ?_)
  obtain ⟨d, s⟩ := x
  generalize hN : (min (max n0 0) 4096).toNat = N
  have hN2 : N ≤ 4096 := by omega
  simp only [List.append_nil]
  refine J.assign rfl rfl ?_
  refine J.nil ?_
  refine JX.thenN (hK1 _ _ ?_)
  refine JC.seq (fun K2 hK2 => ?_)
  refine JC.region ?_
  refine J.move rfl rfl ?_
  refine J.callS (l1 := []) Ty.bd15 rfl rfl (fun w' hw => rnew_spec n0 w') (fun x _ => ?_)
  obtain ⟨r, q⟩ := x
  simp only [hN]
  refine J.assign rfl rfl ?_
  refine J.nil ?_
  refine JX.thenN (hK2 _ _ ?_)
  refine JC.seq (fun K3 hK3 => ?_)
  refine JC.seq (fun K4 hK4 => ?_)
  refine JC.region ?_
  refine J.callB (fun w1 w2 hw hb => hw.step hb) Ty.bd16 rfl rfl (fun w' hw => fixed5 w') ?_
  refine J.not rfl rfl ?_
  refine J.move rfl rfl ?_
  first
    | (refine J.skip rfl rfl rfl rfl rfl ?_)
    | (refine J.skipU rfl rfl rfl rfl ?_)
    | (refine J.unguard rfl rfl rfl ?_; refine J.move rfl rfl ?_)
  first
    | (refine J.skip rfl rfl rfl rfl rfl ?_)
    | (refine J.skipU rfl rfl rfl rfl ?_)
    | (refine J.unguard rfl rfl rfl ?_; refine J.eqNil Ty.u23 rfl rfl rfl ?_)
  (first | refine J.pickT rfl rfl rfl ?_ | refine J.pickF rfl rfl rfl ?_)
  refine J.nil ?_
  refine JX.thenN (hK4 _ _ ?_)
  first | refine JC.condF rfl ?_ | refine JC.cond rfl (fun h => by first | (exfalso; simp at h; omega) | (simp at h)) (fun _ => ?_)
  refine JC.skip ?_
  refine JX.thenN (hK3 _ _ ?_)
  refine JC.seq (fun K5 hK5 => ?_)
  refine JC.region ?_
  refine J.move rfl rfl ?_
  refine J.move rfl rfl ?_
  refine J.perm ([(d, dkO s N (-1) (0))] ++ [(s, _), (r, _), (q, _)]) (by (refine perm_cnt (fun _ => ?_)); simp only [cntB_append, cntB_cons, cntB_nil, Nat.add_zero, Nat.zero_add]; try ac_rfl) ?_
  refine J.callT (l1 := [(d, dkO s N (-1) (0))]) (L := [(d, dkO s N (max q0 (-1)) (0))]) Ty.bd19 rfl rfl (fun w' hw => power_spec d s N (-1) 0 q0 w' hw.owns) ?_
  refine J.nil ?_
  refine JX.thenN (hK5 _ _ ?_)
  refine JC.seq (fun K6 hK6 => ?_)
  refine JC.region ?_
  refine J.cov (f := [(0, .int .i64 n0), (1, .int .i64 q0), (2, o.v), (7, .pointer (some ⟨d, 0, none⟩)), (8, .pointer (some ⟨r, 0, none⟩))]) ⟨rfl, rfl, rfl, rfl, rfl, trivial⟩ ?_
  refine J.name 1 rfl (congrArg (Value.int .i64) (show q0 = IntKind.i64.wrap (q0 - 0) by rw [Int.sub_zero, wrap_i64 (by omega) (by omega)])) ?_
  refine J.move rfl rfl ?_
  refine J.assign rfl rfl ?_
  refine J.nil ?_
  refine JX.thenN (hK6 _ _ ?_)
  refine JC.seq (fun K7 hK7 => ?_)
  refine JC.seq (fun K8 hK8 => ?_)
  refine JC.region ?_
  refine J.move rfl rfl ?_
  refine J.lenS rfl Ty.u22 rfl rfl ?_
  refine J.move rfl rfl ?_
  refine J.nil ?_
  refine JX.thenN (hK8 _ _ ?_)
  refine JC.block ?_
  refine JC.conseq (JC.cov (f := (fun x => [(7, .pointer (some ⟨d, 0, none⟩)), (8, .pointer (some ⟨r, 0, none⟩)), (9, .int .i64 (IntKind.i64.wrap (q0 - x.2.2.2.1))), (28, o.v), (29, .int .i64 ((o.xs.length : Nat) : Int)), (30, .int .i64 ((x.1 : Nat) : Int))]) ((0, List.replicate (64 * N) 0, max q0 (-1), 0, [(q, cb ((List.replicate (64 * N) (0 : UInt8)).map u8) 5)]) : Nat × List UInt8 × Int × Int × List (Nat × Obj))) ⟨rfl, rfl, rfl, rfl, rfl, rfl, trivial⟩ (JC.loop (α := Nat × List UInt8 × Int × Int × List (Nat × Obj)) (fun x => [(7, .pointer (some ⟨d, 0, none⟩)), (8, .pointer (some ⟨r, 0, none⟩)), (9, .int .i64 (IntKind.i64.wrap (q0 - x.2.2.2.1))), (28, o.v), (29, .int .i64 ((o.xs.length : Nat) : Int)), (30, .int .i64 ((x.1 : Nat) : Int))]) (fun x w' => (x.1 ≤ o.xs.length ∧ x.1 ≤ 301 ∧ x.2.1.length = 64 * N ∧ 0 ≤ x.2.2.2.1 ∧ x.2.2.2.1 ≤ ((x.1 : Nat) : Int) ∧ ((q0 < 0 ∧ x.2.2.1 = -1) ∨ (x.2.2.1 = q0 - x.2.2.2.1 ∧ 0 ≤ x.2.2.1)) ∧ Vec 5 1 (.slice (some ⟨q, 0, none⟩) (64 * N) (64 * N)) (64 * N) (x.2.1.map u8) x.2.2.2.2) ∧ St w [] ((d, dkO s N (x.2.2.1) (x.2.2.2.1)) :: (s, dkS (x.2.1)) :: (r, rfO (.slice (some ⟨q, 0, none⟩) (64 * N) (64 * N)) (-1) (x.2.2.2.1)) :: x.2.2.2.2) w') (fun x => o.xs.length - x.1) ((0, List.replicate (64 * N) 0, max q0 (-1), 0, [(q, cb ((List.replicate (64 * N) (0 : UInt8)).map u8) 5)]) : Nat × List UInt8 × Int × Int × List (Nat × Obj)) (fun x => ?_))) (fun w hw => ⟨⟨Nat.zero_le _, by show 0 ≤ 301; omega, by simp, Int.le_refl _, Int.le_refl _, by simp only; omega, ⟨by simp, .inr ⟨q, 64 * N, [], rfl, by rw [List.append_nil], by simp, Nat.le_refl _⟩⟩⟩, hw.perm (by (refine perm_cnt (fun _ => ?_)); simp only [cntB_append, cntB_cons, cntB_nil, Nat.add_zero, Nat.zero_add]; try ac_rfl)⟩)
  obtain ⟨i, B, p, k, lp⟩ := x
  refine JC.pr (fun hx => ?_)
  obtain ⟨hi, hi3, hB, hk0, hk1, hp, hv⟩ := hx
  simp only at hi hi3 hB hk0 hk1 hp hv ⊢
  refine JC.seq (fun K9 hK9 => ?_)
  refine JC.region ?_
  refine J.bin rfl rfl rfl rfl ?_
  refine J.nil ?_
  refine JX.thenN (hK9 _ _ ?_)
  refine JC.seq (fun K10 hK10 => ?_)
  refine JC.cond rfl (fun h1 => ?_) (fun h1 => ?_)
  · skip
    have hlt : i < o.xs.length := by simp at h1; omega
    obtain ⟨ob, oo, oc, hoa, hol, hocc, hor⟩ := ho.at hlt
    generalize o.xs[i] = z at hor
    obtain ⟨rfl, hzk, hzi, hzb⟩ := hor
    have hzr := hzb.row
    have hzl := reach_len hzb
    have hzi' := bounds_i64 hzi
    refine JC.skip ?_
    refine JX.thenN (hK10 _ _ ?_)
    refine JC.seq (fun K11 hK11 => ?_)
    refine JC.block ?_
    refine JC.seq (fun K12 hK12 => ?_)
    refine JC.region ?_
    refine J.move rfl rfl ?_
    refine J.name 28 rfl (show o.v = Value.slice (some ⟨ob, oo, none⟩) o.xs.length o.c by simp only [Sl.v, hoa]) ?_
    refine J.indexAddrS Ty.el22 Ty.s30 rfl rfl (by omega) (by omega) rfl ?_
    refine J.name 28 rfl (show Value.slice (some ⟨ob, oo, none⟩) o.xs.length o.c = o.v by simp only [Sl.v, hoa]) ?_
    refine J.loadRA Ty.a30 Ty.s30 rfl hol (by omega) hocc (by simp) rfl ?_
    refine J.alloc Ty.z30 rfl rfl (fun b11 => ?_)
    refine J.assign rfl rfl ?_
    refine J.storeO (vs := [.int .i64 z.kind, .int .i64 z.i, z.b.v]) Ty.s30 rfl rfl rfl rfl (by simp [Value.oneCell']) .here (by simp) ?_
    refine J.perm ((b11, cb [.int .i64 z.kind, .int .i64 z.i, z.b.v] 30) :: (d, dkO s N (p) (k)) :: (s, dkS (B)) :: (r, rfO (.slice (some ⟨q, 0, none⟩) (64 * N) (64 * N)) (-1) (k)) :: lp) (.refl _) ?_
    refine J.perm ((d, dkO s N (p) (k)) :: (s, dkS (B)) :: (r, rfO (.slice (some ⟨q, 0, none⟩) (64 * N) (64 * N)) (-1) (k)) :: (b11, cb [.int .i64 z.kind, .int .i64 z.i, z.b.v] 30) :: lp) (by (refine perm_cnt (fun _ => ?_)); simp only [cntB_append, cntB_cons, cntB_nil, Nat.add_zero, Nat.zero_add]; try ac_rfl) ?_
    refine J.nil ?_
    refine JX.thenN (hK12 _ _ ?_)
    refine JC.seq (fun K13 hK13 => ?_)
    refine JC.seq (fun K14 hK14 => ?_)
    refine JC.region ?_
    refine J.move rfl rfl ?_
    refine J.bin rfl rfl rfl rfl ?_
    refine J.nil ?_
    refine JX.thenN (hK14 _ _ ?_)
    refine JC.cond rfl (fun h2 => ?_) (fun h2 => ?_)
    · skip
      refine JC.conseq (I' := St w [] ((d, dkO s N (p) (k)) :: (s, dkS (B)) :: (r, rfO (.slice (some ⟨q, 0, none⟩) (64 * N) (64 * N)) (-1) (k)) :: lp)) ?_ (fun w1 hw => hw.drop (.cons_cons _ (.cons_cons _ (.cons_cons _ (List.sublist_cons_self _ _)))))
      refine JC.exit ?_
      refine JX.thenE ?_
      refine JX.blockO rfl ?_
      refine JX.thenE ?_
      refine JX.thenE ?_
      refine JX.blockE ?_
      refine JX.thenN (hK7 _ _ ?_)
      refine JC.seq (fun K15 hK15 => ?_)
      apply JC.drawL 9 [Eqv _, RowP (64 * N) (B.map u8), Eqv _, Eqv _, Eqv _, Eqv _, Eqv _, Eqv _, Eqv _] Ty.mixed rfl rfl rfl (by kernel_rfl) rfl rfl (fun w w' hw hb => hw.step hb) ⟨fun _ _ _ h _ => h, RowP.st _ _, fun _ _ _ h _ => h, fun _ _ _ h _ => h, fun _ _ _ h _ => h, fun _ _ _ h _ => h, fun _ _ _ h _ => h, fun _ _ _ h _ => h, fun _ _ _ h _ => h, trivial⟩ ?hstep ?htail
      case hstep =>
        refine ⟨fun wi => ?_, fun wi => ?_, fun wi => ?_, fun wi => ?_, fun wi => ?_, fun wi => ?_, fun wi => ?_, fun wi => ?_, fun wi => ?_, trivial⟩
        · skip
          refine Fin.nil ?_
          refine J.move rfl rfl ?_
          refine J.nil (JX.fin rfl (fun w hw => ⟨rfl, (by rw [hw.1]; exact Below.refl _ _)⟩))
        · skip
          refine Fin.cons (fun v23_0 => ?_)
          refine Fin.nil ?_
          refine J.prE (fun h => ?_); subst h
          refine J.callR (k := 64 * N) (ys := B.map u8) Ty.bd24 rfl rfl (fun w' hw => (bytes_spec d s N B p k w' (St.owns (l1 := [(d, dkO s N (p) (k)), (s, dkS (B))]) (l := (r, rfO (.slice (some ⟨q, 0, none⟩) (64 * N) (64 * N)) (-1) (k)) :: lp) hw) hB hN2).mono fun _ w2 ⟨x, h1, h2, h3⟩ => ⟨x.1, h1, h2.row (l := [(d, dkO s N (p) (k)), (s, dkS (B))]) h3, h3.same (St.owns (l1 := [(d, dkO s N (p) (k)), (s, dkS (B))]) (l := (r, rfO (.slice (some ⟨q, 0, none⟩) (64 * N) (64 * N)) (-1) (k)) :: lp) hw) (fun p hp => List.mem_append_right _ hp)⟩) (fun v126 => ?_)
          refine J.nil (JX.fin rfl (fun w hw => ⟨hw.1, hw.2⟩))
        · skip
          refine Fin.cons (fun v23_1 => ?_)
          refine Fin.nil ?_
          refine J.prR ?_
          refine J.toStr (m := 64 * N) (bs := B) Ty.el28 Ty.u5 Ty.u9 rfl (fun w' hw => hw.2.1) hB rfl ?_
          refine J.nil (JX.fin rfl (fun w hw => ⟨rfl, (by rw [hw.1]; exact Below.refl _ _)⟩))
        · skip
          refine Fin.nil ?_
          refine J.move rfl rfl ?_
          refine J.nil (JX.fin rfl (fun w hw => ⟨rfl, (by rw [hw.1]; exact Below.refl _ _)⟩))
        · skip
          refine Fin.cons (fun v23_3 => ?_)
          refine Fin.nil ?_
          refine J.prE (fun h => ?_); subst h
          refine J.nilCheck rfl rfl ?_
          refine J.nil (JX.fin rfl (fun w hw => ⟨rfl, (by rw [hw.1]; exact Below.refl _ _)⟩))
        · skip
          refine Fin.cons (fun v23_4 => ?_)
          refine Fin.nil ?_
          refine J.prE (fun h => ?_); subst h
          refine J.fieldAddr Ty.fd35_0 rfl rfl ?_
          refine J.nil (JX.fin rfl (fun w hw => ⟨rfl, (by rw [hw.1]; exact Below.refl _ _)⟩))
        · skip
          refine Fin.cons (fun v23_5 => ?_)
          refine Fin.nil ?_
          refine J.prE (fun h => ?_); subst h
          (first | refine J.load1 Ty.a28 rfl (fun w hw => (cell_of (hw.2.own _ (.head _))).trans rfl) rfl ?_ | refine J.load1 Ty.a28 rfl (fun w hw => (cell_of (hw.2.own _ (.tail _ (.head _)))).trans rfl) rfl ?_ | refine J.load1 Ty.a28 rfl (fun w hw => (cell_of (hw.2.own _ (.tail _ (.tail _ (.head _))))).trans rfl) rfl ?_ | refine J.load1 Ty.a28 rfl (fun w hw => (cell_of (hw.2.own _ (.tail _ (.tail _ (.tail _ (.head _)))))).trans rfl) rfl ?_ | refine J.load1 Ty.a28 rfl (fun w hw => (cell_of (hw.2.own _ (.tail _ (.tail _ (.tail _ (.tail _ (.head _))))))).trans rfl) rfl ?_ | refine J.load1 Ty.a28 rfl (fun w hw => (cell_of (hw.2.own _ (List.mem_append_right _ (.head _)))).trans rfl) rfl ?_ | refine J.load1 Ty.a28 rfl (fun w hw => (cell_of (hw.2.own _ (List.mem_append_right _ (.tail _ (.head _))))).trans rfl) rfl ?_ | refine J.load1 Ty.a28 rfl (fun w hw => (cell_of (hw.2.own _ (List.mem_append_right _ (.tail _ (.tail _ (.head _)))))).trans rfl) rfl ?_ | refine J.load1 Ty.a28 rfl (fun w hw => (cell_of (hw.2.own _ (List.mem_append_right _ (.tail _ (.tail _ (.tail _ (.head _))))))).trans rfl) rfl ?_ | refine J.load1 Ty.a28 rfl (fun w hw => (cell_of (hw.2.own _ (List.mem_append_right _ (.tail _ (.tail _ (.tail _ (.tail _ (.head _)))))))).trans rfl) rfl ?_)
          refine J.nil (JX.fin rfl (fun w hw => ⟨rfl, (by rw [hw.1]; exact Below.refl _ _)⟩))
        · skip
          refine Fin.cons (fun v23_6 => ?_)
          refine Fin.nil ?_
          refine J.prE (fun h => ?_); subst h
          refine J.toStr (m := 64 * N) (bs := B) Ty.el28 Ty.u5 Ty.u9 rfl (fun w' hw => hv.row (l := [(d, dkO s N (p) (k)), (s, dkS (B)), (r, rfO (.slice (some ⟨q, 0, none⟩) (64 * N) (64 * N)) (-1) (k))]) (hw.2.perm (by (refine perm_cnt (fun _ => ?_)); simp only [cntB_append, cntB_cons, cntB_nil, Nat.add_zero, Nat.zero_add]; try ac_rfl))) hB rfl ?_
          refine J.nil (JX.fin rfl (fun w hw => ⟨rfl, (by rw [hw.1]; exact Below.refl _ _)⟩))
        · skip
          refine Fin.cons (fun v23_2 => ?_)
          refine Fin.cons (fun v23_7 => ?_)
          refine Fin.nil ?_
          refine J.prE (fun h => ?_); subst h
          refine J.prE (fun h => ?_); subst h
          refine J.strEq rfl rfl rfl ?_
          refine J.name 99 rfl (show Value.bool _ = .bool true by simp) ?_
          refine J.nil (JX.fin rfl (fun w hw => ⟨rfl, (by rw [hw.1]; exact Below.refl _ _)⟩))
      case htail =>
        refine Fin.cons (fun v23_0 => ?_)
        refine Fin.cons (fun v23_1 => ?_)
        refine Fin.cons (fun v23_2 => ?_)
        refine Fin.cons (fun v23_3 => ?_)
        refine Fin.cons (fun v23_4 => ?_)
        refine Fin.cons (fun v23_5 => ?_)
        refine Fin.cons (fun v23_6 => ?_)
        refine Fin.cons (fun v23_7 => ?_)
        refine Fin.cons (fun v23_8 => ?_)
        refine Fin.nil ?_
        refine J.prE (fun h => ?_); subst h
        refine J.prE (fun h => ?_); subst h
        refine J.prE (fun h => ?_); subst h
        refine J.prE (fun h => ?_); subst h
        refine J.prE (fun h => ?_); subst h
        refine J.prE (fun h => ?_); subst h
        refine J.prE (fun h => ?_); subst h
        refine J.drop ?_
        refine J.prE (fun h => ?_); subst h
        refine J.assign rfl rfl ?_
        refine J.nil ?_
        refine JX.thenN (hK15 _ _ ?_)
        refine JC.ret ?_
        refine JX.ret1 rfl rfl (fun w hw => ?_)
        exact ⟨rfl, hw.below⟩
    · skip
      have hi4 : i ≤ 300 := by simp at h2; omega
      refine JC.skip ?_
      refine JX.thenN (hK13 _ _ ?_)
      refine JC.seq (fun K16 hK16 => ?_)
      refine JC.region ?_
      rcases may_cases z.i N z.b.xs.length with hm1 | ⟨hm1, hm2⟩ | ⟨hm1, hm2, hm3⟩ | ⟨hm1, hm2, hm3⟩
      · skip
        refine J.move rfl rfl ?_
        refine J.fieldAddr Ty.fd30_1 rfl rfl ?_
        (first | refine J.loadO Ty.a3 rfl (.head _) rfl rfl ?_ | refine J.loadO Ty.a3 rfl (.tail _ (.head _)) rfl rfl ?_ | refine J.loadO Ty.a3 rfl (.tail _ (.tail _ (.head _))) rfl rfl ?_ | refine J.loadO Ty.a3 rfl (.tail _ (.tail _ (.tail _ (.head _)))) rfl rfl ?_ | refine J.loadO Ty.a3 rfl (.tail _ (.tail _ (.tail _ (.tail _ (.head _))))) rfl rfl ?_ | refine J.loadO Ty.a3 rfl (List.mem_append_right _ (.head _)) rfl rfl ?_ | refine J.loadO Ty.a3 rfl (List.mem_append_right _ (.tail _ (.head _))) rfl rfl ?_ | refine J.loadO Ty.a3 rfl (List.mem_append_right _ (.tail _ (.tail _ (.head _)))) rfl rfl ?_ | refine J.loadO Ty.a3 rfl (List.mem_append_right _ (.tail _ (.tail _ (.tail _ (.head _))))) rfl rfl ?_ | refine J.loadO Ty.a3 rfl (List.mem_append_right _ (.tail _ (.tail _ (.tail _ (.tail _ (.head _)))))) rfl rfl ?_)
        refine J.fieldAddr Ty.fd30_2 rfl rfl ?_
        (first | refine J.loadO Ty.a28 rfl (.head _) rfl rfl ?_ | refine J.loadO Ty.a28 rfl (.tail _ (.head _)) rfl rfl ?_ | refine J.loadO Ty.a28 rfl (.tail _ (.tail _ (.head _))) rfl rfl ?_ | refine J.loadO Ty.a28 rfl (.tail _ (.tail _ (.tail _ (.head _)))) rfl rfl ?_ | refine J.loadO Ty.a28 rfl (.tail _ (.tail _ (.tail _ (.tail _ (.head _))))) rfl rfl ?_ | refine J.loadO Ty.a28 rfl (List.mem_append_right _ (.head _)) rfl rfl ?_ | refine J.loadO Ty.a28 rfl (List.mem_append_right _ (.tail _ (.head _))) rfl rfl ?_ | refine J.loadO Ty.a28 rfl (List.mem_append_right _ (.tail _ (.tail _ (.head _)))) rfl rfl ?_ | refine J.loadO Ty.a28 rfl (List.mem_append_right _ (.tail _ (.tail _ (.tail _ (.head _))))) rfl rfl ?_ | refine J.loadO Ty.a28 rfl (List.mem_append_right _ (.tail _ (.tail _ (.tail _ (.tail _ (.head _)))))) rfl rfl ?_)
        refine J.callB (fun w1 w2 hw hb => hw.step hb) Ty.bd17 rfl rfl (fun w' hw => write_neg d s N p k w' hw.owns' z.i _ hm1) ?_
        refine J.assign rfl rfl ?_
        refine J.nil ?_
        refine JX.thenN (hK16 _ _ ?_)
        refine JC.seq (fun K17 hK17 => ?_)
        apply JC.drawL 20 [Eqv _, Eqv _, Eqv _, Eqv _, Eqv _, Eqv _, Eqv _, Eqv _, Eqv _, Eqv _, Eqv _, Eqv _, Eqv _, Eqv _, Eqv _, Eqv _, Eqv _, Eqv _, Eqv _, Eqv _] Ty.mixed rfl rfl rfl (by kernel_rfl) rfl rfl (fun w w' hw hb => hw.step hb) ⟨fun _ _ _ h _ => h, fun _ _ _ h _ => h, fun _ _ _ h _ => h, fun _ _ _ h _ => h, fun _ _ _ h _ => h, fun _ _ _ h _ => h, fun _ _ _ h _ => h, fun _ _ _ h _ => h, fun _ _ _ h _ => h, fun _ _ _ h _ => h, fun _ _ _ h _ => h, fun _ _ _ h _ => h, fun _ _ _ h _ => h, fun _ _ _ h _ => h, fun _ _ _ h _ => h, fun _ _ _ h _ => h, fun _ _ _ h _ => h, fun _ _ _ h _ => h, fun _ _ _ h _ => h, fun _ _ _ h _ => h, trivial⟩ ?hstep ?htail
        case hstep =>
          refine ⟨fun wi => ?_, fun wi => ?_, fun wi => ?_, fun wi => ?_, fun wi => ?_, fun wi => ?_, fun wi => ?_, fun wi => ?_, fun wi => ?_, fun wi => ?_, fun wi => ?_, fun wi => ?_, fun wi => ?_, fun wi => ?_, fun wi => ?_, fun wi => ?_, fun wi => ?_, fun wi => ?_, fun wi => ?_, fun wi => ?_, trivial⟩
          · skip
            refine Fin.nil ?_
            refine J.fieldAddr Ty.fd30_1 rfl rfl ?_
            refine J.nil (JX.fin rfl (fun w hw => ⟨rfl, (by rw [hw.1]; exact Below.refl _ _)⟩))
          · skip
            refine Fin.cons (fun v12_0 => ?_)
            refine Fin.nil ?_
            refine J.prE (fun h => ?_); subst h
            (first | refine J.load1 Ty.a3 rfl (fun w hw => (cell_of (hw.2.own _ (.head _))).trans rfl) rfl ?_ | refine J.load1 Ty.a3 rfl (fun w hw => (cell_of (hw.2.own _ (.tail _ (.head _)))).trans rfl) rfl ?_ | refine J.load1 Ty.a3 rfl (fun w hw => (cell_of (hw.2.own _ (.tail _ (.tail _ (.head _))))).trans rfl) rfl ?_ | refine J.load1 Ty.a3 rfl (fun w hw => (cell_of (hw.2.own _ (.tail _ (.tail _ (.tail _ (.head _)))))).trans rfl) rfl ?_ | refine J.load1 Ty.a3 rfl (fun w hw => (cell_of (hw.2.own _ (.tail _ (.tail _ (.tail _ (.tail _ (.head _))))))).trans rfl) rfl ?_ | refine J.load1 Ty.a3 rfl (fun w hw => (cell_of (hw.2.own _ (List.mem_append_right _ (.head _)))).trans rfl) rfl ?_ | refine J.load1 Ty.a3 rfl (fun w hw => (cell_of (hw.2.own _ (List.mem_append_right _ (.tail _ (.head _))))).trans rfl) rfl ?_ | refine J.load1 Ty.a3 rfl (fun w hw => (cell_of (hw.2.own _ (List.mem_append_right _ (.tail _ (.tail _ (.head _)))))).trans rfl) rfl ?_ | refine J.load1 Ty.a3 rfl (fun w hw => (cell_of (hw.2.own _ (List.mem_append_right _ (.tail _ (.tail _ (.tail _ (.head _))))))).trans rfl) rfl ?_ | refine J.load1 Ty.a3 rfl (fun w hw => (cell_of (hw.2.own _ (List.mem_append_right _ (.tail _ (.tail _ (.tail _ (.tail _ (.head _)))))))).trans rfl) rfl ?_)
            refine J.nil (JX.fin rfl (fun w hw => ⟨rfl, (by rw [hw.1]; exact Below.refl _ _)⟩))
          · skip
            refine Fin.cons (fun v12_1 => ?_)
            refine Fin.nil ?_
            refine J.prE (fun h => ?_); subst h
            refine J.bin rfl rfl rfl rfl ?_
            refine J.name 45 rfl (show Value.bool _ = .bool false by simp <;> omega) ?_
            refine J.nil (JX.fin rfl (fun w hw => ⟨rfl, (by rw [hw.1]; exact Below.refl _ _)⟩))
          · skip
            refine Fin.cons (fun v12_2 => ?_)
            refine Fin.nil ?_
            refine J.prE (fun h => ?_); subst h
            refine J.move rfl rfl ?_
            refine J.nil (JX.fin rfl (fun w hw => ⟨rfl, (by rw [hw.1]; exact Below.refl _ _)⟩))
          · skip
            refine Fin.cons (fun v12_3 => ?_)
            refine Fin.nil ?_
            refine J.prE (fun h => ?_); subst h
            first
              | (refine J.skip rfl rfl rfl rfl rfl ?_)
              | (refine J.skipU rfl rfl rfl rfl ?_)
              | (refine J.unguard rfl rfl rfl ?_; refine J.fieldAddr Ty.fd30_1 rfl rfl ?_)
            refine J.nil (JX.fin rfl (fun w hw => ⟨rfl, (by rw [hw.1]; exact Below.refl _ _)⟩))
          · skip
            refine Fin.cons (fun v12_4 => ?_)
            refine Fin.cons (fun v12_3 => ?_)
            refine Fin.nil ?_
            refine J.prE (fun h => ?_); subst h
            refine J.prE (fun h => ?_); subst h
            first
              | (refine J.skip rfl rfl rfl rfl rfl ?_)
              | (refine J.skipU rfl rfl rfl rfl ?_)
              | (refine J.unguard rfl rfl rfl ?_; (first | refine J.load1 Ty.a3 rfl (fun w hw => (cell_of (hw.2.own _ (.head _))).trans rfl) rfl ?_ | refine J.load1 Ty.a3 rfl (fun w hw => (cell_of (hw.2.own _ (.tail _ (.head _)))).trans rfl) rfl ?_ | refine J.load1 Ty.a3 rfl (fun w hw => (cell_of (hw.2.own _ (.tail _ (.tail _ (.head _))))).trans rfl) rfl ?_ | refine J.load1 Ty.a3 rfl (fun w hw => (cell_of (hw.2.own _ (.tail _ (.tail _ (.tail _ (.head _)))))).trans rfl) rfl ?_ | refine J.load1 Ty.a3 rfl (fun w hw => (cell_of (hw.2.own _ (.tail _ (.tail _ (.tail _ (.tail _ (.head _))))))).trans rfl) rfl ?_ | refine J.load1 Ty.a3 rfl (fun w hw => (cell_of (hw.2.own _ (List.mem_append_right _ (.head _)))).trans rfl) rfl ?_ | refine J.load1 Ty.a3 rfl (fun w hw => (cell_of (hw.2.own _ (List.mem_append_right _ (.tail _ (.head _))))).trans rfl) rfl ?_ | refine J.load1 Ty.a3 rfl (fun w hw => (cell_of (hw.2.own _ (List.mem_append_right _ (.tail _ (.tail _ (.head _)))))).trans rfl) rfl ?_ | refine J.load1 Ty.a3 rfl (fun w hw => (cell_of (hw.2.own _ (List.mem_append_right _ (.tail _ (.tail _ (.tail _ (.head _))))))).trans rfl) rfl ?_ | refine J.load1 Ty.a3 rfl (fun w hw => (cell_of (hw.2.own _ (List.mem_append_right _ (.tail _ (.tail _ (.tail _ (.tail _ (.head _)))))))).trans rfl) rfl ?_))
            refine J.nil (JX.fin rfl (fun w hw => ⟨rfl, (by rw [hw.1]; exact Below.refl _ _)⟩))
          · skip
            refine Fin.cons (fun v12_3 => ?_)
            refine Fin.nil ?_
            refine J.prE (fun h => ?_); subst h
            first
              | (refine J.skip rfl rfl rfl rfl rfl ?_)
              | (refine J.skipU rfl rfl rfl rfl ?_)
              | (refine J.unguard rfl rfl rfl ?_; refine J.move rfl rfl ?_)
            refine J.nil (JX.fin rfl (fun w hw => ⟨rfl, (by rw [hw.1]; exact Below.refl _ _)⟩))
          · skip
            refine Fin.cons (fun v12_6 => ?_)
            refine Fin.cons (fun v12_3 => ?_)
            refine Fin.nil ?_
            refine J.prE (fun h => ?_); subst h
            refine J.prE (fun h => ?_); subst h
            first
              | (refine J.skip rfl rfl rfl rfl rfl ?_)
              | (refine J.skipU rfl rfl rfl rfl ?_)
              | (refine J.unguard rfl rfl rfl ?_; refine J.nilCheck rfl rfl ?_)
            refine J.nil (JX.fin rfl (fun w hw => ⟨rfl, (by rw [hw.1]; exact Below.refl _ _)⟩))
          · skip
            refine Fin.cons (fun v12_7 => ?_)
            refine Fin.cons (fun v12_3 => ?_)
            refine Fin.nil ?_
            refine J.prE (fun h => ?_); subst h
            refine J.prE (fun h => ?_); subst h
            first
              | (refine J.skip rfl rfl rfl rfl rfl ?_)
              | (refine J.skipU rfl rfl rfl rfl ?_)
              | (refine J.unguard rfl rfl rfl ?_; refine J.fieldAddr Ty.fd35_0 rfl rfl ?_)
            refine J.nil (JX.fin rfl (fun w hw => ⟨rfl, (by rw [hw.1]; exact Below.refl _ _)⟩))
          · skip
            refine Fin.cons (fun v12_8 => ?_)
            refine Fin.cons (fun v12_3 => ?_)
            refine Fin.nil ?_
            refine J.prE (fun h => ?_); subst h
            refine J.prE (fun h => ?_); subst h
            first
              | (refine J.skip rfl rfl rfl rfl rfl ?_)
              | (refine J.skipU rfl rfl rfl rfl ?_)
              | (refine J.unguard rfl rfl rfl ?_; (first | refine J.load1 Ty.a28 rfl (fun w hw => (cell_of (hw.2.own _ (.head _))).trans rfl) rfl ?_ | refine J.load1 Ty.a28 rfl (fun w hw => (cell_of (hw.2.own _ (.tail _ (.head _)))).trans rfl) rfl ?_ | refine J.load1 Ty.a28 rfl (fun w hw => (cell_of (hw.2.own _ (.tail _ (.tail _ (.head _))))).trans rfl) rfl ?_ | refine J.load1 Ty.a28 rfl (fun w hw => (cell_of (hw.2.own _ (.tail _ (.tail _ (.tail _ (.head _)))))).trans rfl) rfl ?_ | refine J.load1 Ty.a28 rfl (fun w hw => (cell_of (hw.2.own _ (.tail _ (.tail _ (.tail _ (.tail _ (.head _))))))).trans rfl) rfl ?_ | refine J.load1 Ty.a28 rfl (fun w hw => (cell_of (hw.2.own _ (List.mem_append_right _ (.head _)))).trans rfl) rfl ?_ | refine J.load1 Ty.a28 rfl (fun w hw => (cell_of (hw.2.own _ (List.mem_append_right _ (.tail _ (.head _))))).trans rfl) rfl ?_ | refine J.load1 Ty.a28 rfl (fun w hw => (cell_of (hw.2.own _ (List.mem_append_right _ (.tail _ (.tail _ (.head _)))))).trans rfl) rfl ?_ | refine J.load1 Ty.a28 rfl (fun w hw => (cell_of (hw.2.own _ (List.mem_append_right _ (.tail _ (.tail _ (.tail _ (.head _))))))).trans rfl) rfl ?_ | refine J.load1 Ty.a28 rfl (fun w hw => (cell_of (hw.2.own _ (List.mem_append_right _ (.tail _ (.tail _ (.tail _ (.tail _ (.head _)))))))).trans rfl) rfl ?_))
            refine J.nil (JX.fin rfl (fun w hw => ⟨rfl, (by rw [hw.1]; exact Below.refl _ _)⟩))
          · skip
            refine Fin.cons (fun v12_9 => ?_)
            refine Fin.cons (fun v12_3 => ?_)
            refine Fin.nil ?_
            refine J.prE (fun h => ?_); subst h
            refine J.prE (fun h => ?_); subst h
            first
              | (refine J.skip rfl rfl rfl rfl rfl ?_)
              | (refine J.skipU rfl rfl rfl rfl ?_)
              | (refine J.unguard rfl rfl rfl ?_; refine J.lenS rfl Ty.u28 rfl rfl ?_)
            refine J.nil (JX.fin rfl (fun w hw => ⟨rfl, (by rw [hw.1]; exact Below.refl _ _)⟩))
          · skip
            refine Fin.cons (fun v12_10 => ?_)
            refine Fin.cons (fun v12_3 => ?_)
            refine Fin.nil ?_
            refine J.prE (fun h => ?_); subst h
            refine J.prE (fun h => ?_); subst h
            first
              | (refine J.skip rfl rfl rfl rfl rfl ?_)
              | (refine J.skipU rfl rfl rfl rfl ?_)
              | (refine J.unguard rfl rfl rfl ?_; (first | refine J.quoN rfl rfl (by omega) (by omega) (by omega) rfl ?_ | refine J.bin rfl rfl rfl rfl ?_))
            refine J.nil (JX.fin rfl (fun w hw => ⟨rfl, (by rw [hw.1]; exact Below.refl _ _)⟩))
          · skip
            refine Fin.cons (fun v12_5 => ?_)
            refine Fin.cons (fun v12_11 => ?_)
            refine Fin.cons (fun v12_3 => ?_)
            refine Fin.nil ?_
            refine J.prE (fun h => ?_); subst h
            refine J.prE (fun h => ?_); subst h
            refine J.prE (fun h => ?_); subst h
            first
              | (refine J.skip rfl rfl rfl rfl rfl ?_)
              | (refine J.skipU rfl rfl rfl rfl ?_)
              | (refine J.unguard rfl rfl rfl ?_; refine J.bin rfl rfl rfl rfl ?_)
            refine J.nil (JX.fin rfl (fun w hw => ⟨rfl, (by rw [hw.1]; exact Below.refl _ _)⟩))
          · skip
            refine Fin.cons (fun v12_3 => ?_)
            refine Fin.cons (fun v12_12 => ?_)
            refine Fin.nil ?_
            refine J.prE (fun h => ?_); subst h
            refine J.prE (fun h => ?_); subst h
            (first | refine J.pickT rfl rfl rfl ?_ | refine J.pickF rfl rfl rfl ?_)
            refine J.nil (JX.fin rfl (fun w hw => ⟨rfl, (by rw [hw.1]; exact Below.refl _ _)⟩))
          · skip
            refine Fin.cons (fun v12_13 => ?_)
            refine Fin.cons (fun v12_3 => ?_)
            refine Fin.nil ?_
            refine J.prE (fun h => ?_); subst h
            refine J.prE (fun h => ?_); subst h
            refine J.move rfl rfl ?_
            refine J.nil (JX.fin rfl (fun w hw => ⟨rfl, (by rw [hw.1]; exact Below.refl _ _)⟩))
          · skip
            refine Fin.cons (fun v12_14 => ?_)
            refine Fin.nil ?_
            refine J.prE (fun h => ?_); subst h
            first
              | (refine J.skip rfl rfl rfl rfl rfl ?_)
              | (refine J.skipU rfl rfl rfl rfl ?_)
              | (refine J.unguard rfl rfl rfl ?_; refine J.fieldAddr Ty.fd30_2 rfl rfl ?_)
            refine J.nil (JX.fin rfl (fun w hw => ⟨rfl, (by rw [hw.1]; exact Below.refl _ _)⟩))
          · skip
            refine Fin.cons (fun v12_15 => ?_)
            refine Fin.cons (fun v12_14 => ?_)
            refine Fin.nil ?_
            refine J.prE (fun h => ?_); subst h
            refine J.prE (fun h => ?_); subst h
            first
              | (refine J.skip rfl rfl rfl rfl rfl ?_)
              | (refine J.skipU rfl rfl rfl rfl ?_)
              | (refine J.unguard rfl rfl rfl ?_; (first | refine J.load1 Ty.a28 rfl (fun w hw => (cell_of (hw.2.own _ (.head _))).trans rfl) rfl ?_ | refine J.load1 Ty.a28 rfl (fun w hw => (cell_of (hw.2.own _ (.tail _ (.head _)))).trans rfl) rfl ?_ | refine J.load1 Ty.a28 rfl (fun w hw => (cell_of (hw.2.own _ (.tail _ (.tail _ (.head _))))).trans rfl) rfl ?_ | refine J.load1 Ty.a28 rfl (fun w hw => (cell_of (hw.2.own _ (.tail _ (.tail _ (.tail _ (.head _)))))).trans rfl) rfl ?_ | refine J.load1 Ty.a28 rfl (fun w hw => (cell_of (hw.2.own _ (.tail _ (.tail _ (.tail _ (.tail _ (.head _))))))).trans rfl) rfl ?_ | refine J.load1 Ty.a28 rfl (fun w hw => (cell_of (hw.2.own _ (List.mem_append_right _ (.head _)))).trans rfl) rfl ?_ | refine J.load1 Ty.a28 rfl (fun w hw => (cell_of (hw.2.own _ (List.mem_append_right _ (.tail _ (.head _))))).trans rfl) rfl ?_ | refine J.load1 Ty.a28 rfl (fun w hw => (cell_of (hw.2.own _ (List.mem_append_right _ (.tail _ (.tail _ (.head _)))))).trans rfl) rfl ?_ | refine J.load1 Ty.a28 rfl (fun w hw => (cell_of (hw.2.own _ (List.mem_append_right _ (.tail _ (.tail _ (.tail _ (.head _))))))).trans rfl) rfl ?_ | refine J.load1 Ty.a28 rfl (fun w hw => (cell_of (hw.2.own _ (List.mem_append_right _ (.tail _ (.tail _ (.tail _ (.tail _ (.head _)))))))).trans rfl) rfl ?_))
            refine J.nil (JX.fin rfl (fun w hw => ⟨rfl, (by rw [hw.1]; exact Below.refl _ _)⟩))
          · skip
            refine Fin.cons (fun v12_16 => ?_)
            refine Fin.cons (fun v12_14 => ?_)
            refine Fin.nil ?_
            refine J.prE (fun h => ?_); subst h
            refine J.prE (fun h => ?_); subst h
            first
              | (refine J.skip rfl rfl rfl rfl rfl ?_)
              | (refine J.skipU rfl rfl rfl rfl ?_)
              | (refine J.unguard rfl rfl rfl ?_; refine J.lenS rfl Ty.u28 rfl rfl ?_)
            refine J.nil (JX.fin rfl (fun w hw => ⟨rfl, (by rw [hw.1]; exact Below.refl _ _)⟩))
          · skip
            refine Fin.cons (fun v12_17 => ?_)
            refine Fin.cons (fun v12_14 => ?_)
            refine Fin.nil ?_
            refine J.prE (fun h => ?_); subst h
            refine J.prE (fun h => ?_); subst h
            first
              | (refine J.skip rfl rfl rfl rfl rfl ?_)
              | (refine J.skipU rfl rfl rfl rfl ?_)
              | (refine J.unguard rfl rfl rfl ?_; refine J.bin rfl rfl rfl rfl ?_)
            refine J.nil (JX.fin rfl (fun w hw => ⟨rfl, (by rw [hw.1]; exact Below.refl _ _)⟩))
          · skip
            refine Fin.cons (fun v12_14 => ?_)
            refine Fin.cons (fun v12_18 => ?_)
            refine Fin.nil ?_
            refine J.prE (fun h => ?_); subst h
            refine J.prE (fun h => ?_); subst h
            (first | refine J.pickT rfl rfl rfl ?_ | refine J.pickF rfl rfl rfl ?_)
            refine J.nil (JX.fin rfl (fun w hw => ⟨rfl, (by rw [hw.1]; exact Below.refl _ _)⟩))
        case htail =>
          refine Fin.cons (fun v12_0 => ?_)
          refine Fin.cons (fun v12_1 => ?_)
          refine Fin.cons (fun v12_2 => ?_)
          refine Fin.cons (fun v12_3 => ?_)
          refine Fin.cons (fun v12_4 => ?_)
          refine Fin.cons (fun v12_5 => ?_)
          refine Fin.cons (fun v12_6 => ?_)
          refine Fin.cons (fun v12_7 => ?_)
          refine Fin.cons (fun v12_8 => ?_)
          refine Fin.cons (fun v12_9 => ?_)
          refine Fin.cons (fun v12_10 => ?_)
          refine Fin.cons (fun v12_11 => ?_)
          refine Fin.cons (fun v12_12 => ?_)
          refine Fin.cons (fun v12_13 => ?_)
          refine Fin.cons (fun v12_14 => ?_)
          refine Fin.cons (fun v12_15 => ?_)
          refine Fin.cons (fun v12_16 => ?_)
          refine Fin.cons (fun v12_17 => ?_)
          refine Fin.cons (fun v12_18 => ?_)
          refine Fin.cons (fun v12_19 => ?_)
          refine Fin.nil ?_
          refine J.prE (fun h => ?_); subst h
          refine J.prE (fun h => ?_); subst h
          refine J.prE (fun h => ?_); subst h
          refine J.prE (fun h => ?_); subst h
          refine J.prE (fun h => ?_); subst h
          refine J.prE (fun h => ?_); subst h
          refine J.prE (fun h => ?_); subst h
          refine J.prE (fun h => ?_); subst h
          refine J.prE (fun h => ?_); subst h
          refine J.prE (fun h => ?_); subst h
          refine J.prE (fun h => ?_); subst h
          refine J.prE (fun h => ?_); subst h
          refine J.prE (fun h => ?_); subst h
          refine J.prE (fun h => ?_); subst h
          refine J.prE (fun h => ?_); subst h
          refine J.prE (fun h => ?_); subst h
          refine J.prE (fun h => ?_); subst h
          refine J.prE (fun h => ?_); subst h
          refine J.prE (fun h => ?_); subst h
          refine J.prE (fun h => ?_); subst h
          refine J.assign rfl rfl ?_
          refine J.nil ?_
          refine JX.thenN (hK17 _ _ ?_)
          refine JC.block ?_
          refine JC.seq (fun K18 hK18 => ?_)
          refine JC.region ?_
          refine J.move rfl rfl ?_
          refine J.not rfl rfl ?_
          refine J.assign rfl rfl ?_
          refine J.nil ?_
          refine JX.thenN (hK18 _ _ ?_)
          first | refine JC.condT rfl ?_ | refine JC.cond rfl (fun _ => ?_) (fun h => by first | (exfalso; simp at h; omega) | (simp at h))
          refine JC.seq (fun K19 hK19 => ?_)
          refine JC.region ?_
          refine J.move rfl rfl ?_
          refine J.bin rfl rfl rfl rfl ?_
          refine J.move rfl rfl ?_
          first
            | (refine J.skip rfl rfl rfl rfl rfl ?_)
            | (refine J.skipU rfl rfl rfl rfl ?_)
            | (refine J.unguard rfl rfl rfl ?_; refine J.move rfl rfl ?_)
          first
            | (refine J.skip rfl rfl rfl rfl rfl ?_)
            | (refine J.skipU rfl rfl rfl rfl ?_)
            | (refine J.unguard rfl rfl rfl ?_; refine J.bin rfl rfl rfl rfl ?_)
          (first | refine J.pickT rfl rfl rfl ?_ | refine J.pickF rfl rfl rfl ?_)
          refine J.nil ?_
          refine JX.thenN (hK19 _ _ ?_)
          first | refine JC.condF rfl ?_ | refine JC.cond rfl (fun h => by first | (exfalso; simp at h; omega) | (simp at h)) (fun _ => ?_)
          refine JC.skip ?_
          refine JX.blockN ?_
          refine JX.blockN ?_
          refine JX.thenN (hK11 _ _ ?_)
          refine JC.region ?_
          (first | refine J.addN rfl rfl (by omega) (by omega) rfl ?_ | refine J.bin rfl rfl rfl rfl ?_)
          refine J.move rfl rfl ?_
          refine J.nil ?_
          refine JX.thenN ?_
          refine JX.again (i + 1, B, p, k, lp) ?_ ?_ ?_
          · simp only; omega
          · exact ⟨rfl, rfl, rfl, rfl, rfl, rfl, trivial⟩
          · exact fun w1 hw => ⟨⟨hlt, by simp only; omega, hB, hk0, by simp only; omega, by simp only; exact hp, hv⟩, St.drop hw (.cons_cons _ (.cons_cons _ (.cons_cons _ (List.sublist_cons_self _ _))))⟩
      · skip
        refine J.move rfl rfl ?_
        refine J.fieldAddr Ty.fd30_1 rfl rfl ?_
        (first | refine J.loadO Ty.a3 rfl (.head _) rfl rfl ?_ | refine J.loadO Ty.a3 rfl (.tail _ (.head _)) rfl rfl ?_ | refine J.loadO Ty.a3 rfl (.tail _ (.tail _ (.head _))) rfl rfl ?_ | refine J.loadO Ty.a3 rfl (.tail _ (.tail _ (.tail _ (.head _)))) rfl rfl ?_ | refine J.loadO Ty.a3 rfl (.tail _ (.tail _ (.tail _ (.tail _ (.head _))))) rfl rfl ?_ | refine J.loadO Ty.a3 rfl (List.mem_append_right _ (.head _)) rfl rfl ?_ | refine J.loadO Ty.a3 rfl (List.mem_append_right _ (.tail _ (.head _))) rfl rfl ?_ | refine J.loadO Ty.a3 rfl (List.mem_append_right _ (.tail _ (.tail _ (.head _)))) rfl rfl ?_ | refine J.loadO Ty.a3 rfl (List.mem_append_right _ (.tail _ (.tail _ (.tail _ (.head _))))) rfl rfl ?_ | refine J.loadO Ty.a3 rfl (List.mem_append_right _ (.tail _ (.tail _ (.tail _ (.tail _ (.head _)))))) rfl rfl ?_)
        refine J.fieldAddr Ty.fd30_2 rfl rfl ?_
        (first | refine J.loadO Ty.a28 rfl (.head _) rfl rfl ?_ | refine J.loadO Ty.a28 rfl (.tail _ (.head _)) rfl rfl ?_ | refine J.loadO Ty.a28 rfl (.tail _ (.tail _ (.head _))) rfl rfl ?_ | refine J.loadO Ty.a28 rfl (.tail _ (.tail _ (.tail _ (.head _)))) rfl rfl ?_ | refine J.loadO Ty.a28 rfl (.tail _ (.tail _ (.tail _ (.tail _ (.head _))))) rfl rfl ?_ | refine J.loadO Ty.a28 rfl (List.mem_append_right _ (.head _)) rfl rfl ?_ | refine J.loadO Ty.a28 rfl (List.mem_append_right _ (.tail _ (.head _))) rfl rfl ?_ | refine J.loadO Ty.a28 rfl (List.mem_append_right _ (.tail _ (.tail _ (.head _)))) rfl rfl ?_ | refine J.loadO Ty.a28 rfl (List.mem_append_right _ (.tail _ (.tail _ (.tail _ (.head _))))) rfl rfl ?_ | refine J.loadO Ty.a28 rfl (List.mem_append_right _ (.tail _ (.tail _ (.tail _ (.tail _ (.head _)))))) rfl rfl ?_)
        refine J.callB (fun w1 w2 hw hb => hw.step hb) Ty.bd17 rfl rfl (fun w' hw => write_high d s N p k w' hw.owns' z.i _ hm1 hm2) ?_
        refine J.assign rfl rfl ?_
        refine J.nil ?_
        refine JX.thenN (hK16 _ _ ?_)
        refine JC.seq (fun K20 hK20 => ?_)
        apply JC.drawL 20 [Eqv _, Eqv _, Eqv _, Eqv _, Eqv _, Eqv _, Eqv _, Eqv _, Eqv _, Eqv _, Eqv _, Eqv _, Eqv _, Eqv _, Eqv _, Eqv _, Eqv _, Eqv _, Eqv _, Eqv _] Ty.mixed rfl rfl rfl (by kernel_rfl) rfl rfl (fun w w' hw hb => hw.step hb) ⟨fun _ _ _ h _ => h, fun _ _ _ h _ => h, fun _ _ _ h _ => h, fun _ _ _ h _ => h, fun _ _ _ h _ => h, fun _ _ _ h _ => h, fun _ _ _ h _ => h, fun _ _ _ h _ => h, fun _ _ _ h _ => h, fun _ _ _ h _ => h, fun _ _ _ h _ => h, fun _ _ _ h _ => h, fun _ _ _ h _ => h, fun _ _ _ h _ => h, fun _ _ _ h _ => h, fun _ _ _ h _ => h, fun _ _ _ h _ => h, fun _ _ _ h _ => h, fun _ _ _ h _ => h, fun _ _ _ h _ => h, trivial⟩ ?hstep ?htail
        case hstep =>
          refine ⟨fun wi => ?_, fun wi => ?_, fun wi => ?_, fun wi => ?_, fun wi => ?_, fun wi => ?_, fun wi => ?_, fun wi => ?_, fun wi => ?_, fun wi => ?_, fun wi => ?_, fun wi => ?_, fun wi => ?_, fun wi => ?_, fun wi => ?_, fun wi => ?_, fun wi => ?_, fun wi => ?_, fun wi => ?_, fun wi => ?_, trivial⟩
          · skip
            refine Fin.nil ?_
            refine J.fieldAddr Ty.fd30_1 rfl rfl ?_
            refine J.nil (JX.fin rfl (fun w hw => ⟨rfl, (by rw [hw.1]; exact Below.refl _ _)⟩))
          · skip
            refine Fin.cons (fun v12_0 => ?_)
            refine Fin.nil ?_
            refine J.prE (fun h => ?_); subst h
            (first | refine J.load1 Ty.a3 rfl (fun w hw => (cell_of (hw.2.own _ (.head _))).trans rfl) rfl ?_ | refine J.load1 Ty.a3 rfl (fun w hw => (cell_of (hw.2.own _ (.tail _ (.head _)))).trans rfl) rfl ?_ | refine J.load1 Ty.a3 rfl (fun w hw => (cell_of (hw.2.own _ (.tail _ (.tail _ (.head _))))).trans rfl) rfl ?_ | refine J.load1 Ty.a3 rfl (fun w hw => (cell_of (hw.2.own _ (.tail _ (.tail _ (.tail _ (.head _)))))).trans rfl) rfl ?_ | refine J.load1 Ty.a3 rfl (fun w hw => (cell_of (hw.2.own _ (.tail _ (.tail _ (.tail _ (.tail _ (.head _))))))).trans rfl) rfl ?_ | refine J.load1 Ty.a3 rfl (fun w hw => (cell_of (hw.2.own _ (List.mem_append_right _ (.head _)))).trans rfl) rfl ?_ | refine J.load1 Ty.a3 rfl (fun w hw => (cell_of (hw.2.own _ (List.mem_append_right _ (.tail _ (.head _))))).trans rfl) rfl ?_ | refine J.load1 Ty.a3 rfl (fun w hw => (cell_of (hw.2.own _ (List.mem_append_right _ (.tail _ (.tail _ (.head _)))))).trans rfl) rfl ?_ | refine J.load1 Ty.a3 rfl (fun w hw => (cell_of (hw.2.own _ (List.mem_append_right _ (.tail _ (.tail _ (.tail _ (.head _))))))).trans rfl) rfl ?_ | refine J.load1 Ty.a3 rfl (fun w hw => (cell_of (hw.2.own _ (List.mem_append_right _ (.tail _ (.tail _ (.tail _ (.tail _ (.head _)))))))).trans rfl) rfl ?_)
            refine J.nil (JX.fin rfl (fun w hw => ⟨rfl, (by rw [hw.1]; exact Below.refl _ _)⟩))
          · skip
            refine Fin.cons (fun v12_1 => ?_)
            refine Fin.nil ?_
            refine J.prE (fun h => ?_); subst h
            refine J.bin rfl rfl rfl rfl ?_
            refine J.name 45 rfl (show Value.bool _ = .bool true by simp <;> omega) ?_
            refine J.nil (JX.fin rfl (fun w hw => ⟨rfl, (by rw [hw.1]; exact Below.refl _ _)⟩))
          · skip
            refine Fin.cons (fun v12_2 => ?_)
            refine Fin.nil ?_
            refine J.prE (fun h => ?_); subst h
            refine J.move rfl rfl ?_
            refine J.nil (JX.fin rfl (fun w hw => ⟨rfl, (by rw [hw.1]; exact Below.refl _ _)⟩))
          · skip
            refine Fin.cons (fun v12_3 => ?_)
            refine Fin.nil ?_
            refine J.prE (fun h => ?_); subst h
            first
              | (refine J.skip rfl rfl rfl rfl rfl ?_)
              | (refine J.skipU rfl rfl rfl rfl ?_)
              | (refine J.unguard rfl rfl rfl ?_; refine J.fieldAddr Ty.fd30_1 rfl rfl ?_)
            refine J.nil (JX.fin rfl (fun w hw => ⟨rfl, (by rw [hw.1]; exact Below.refl _ _)⟩))
          · skip
            refine Fin.cons (fun v12_4 => ?_)
            refine Fin.cons (fun v12_3 => ?_)
            refine Fin.nil ?_
            refine J.prE (fun h => ?_); subst h
            refine J.prE (fun h => ?_); subst h
            first
              | (refine J.skip rfl rfl rfl rfl rfl ?_)
              | (refine J.skipU rfl rfl rfl rfl ?_)
              | (refine J.unguard rfl rfl rfl ?_; (first | refine J.load1 Ty.a3 rfl (fun w hw => (cell_of (hw.2.own _ (.head _))).trans rfl) rfl ?_ | refine J.load1 Ty.a3 rfl (fun w hw => (cell_of (hw.2.own _ (.tail _ (.head _)))).trans rfl) rfl ?_ | refine J.load1 Ty.a3 rfl (fun w hw => (cell_of (hw.2.own _ (.tail _ (.tail _ (.head _))))).trans rfl) rfl ?_ | refine J.load1 Ty.a3 rfl (fun w hw => (cell_of (hw.2.own _ (.tail _ (.tail _ (.tail _ (.head _)))))).trans rfl) rfl ?_ | refine J.load1 Ty.a3 rfl (fun w hw => (cell_of (hw.2.own _ (.tail _ (.tail _ (.tail _ (.tail _ (.head _))))))).trans rfl) rfl ?_ | refine J.load1 Ty.a3 rfl (fun w hw => (cell_of (hw.2.own _ (List.mem_append_right _ (.head _)))).trans rfl) rfl ?_ | refine J.load1 Ty.a3 rfl (fun w hw => (cell_of (hw.2.own _ (List.mem_append_right _ (.tail _ (.head _))))).trans rfl) rfl ?_ | refine J.load1 Ty.a3 rfl (fun w hw => (cell_of (hw.2.own _ (List.mem_append_right _ (.tail _ (.tail _ (.head _)))))).trans rfl) rfl ?_ | refine J.load1 Ty.a3 rfl (fun w hw => (cell_of (hw.2.own _ (List.mem_append_right _ (.tail _ (.tail _ (.tail _ (.head _))))))).trans rfl) rfl ?_ | refine J.load1 Ty.a3 rfl (fun w hw => (cell_of (hw.2.own _ (List.mem_append_right _ (.tail _ (.tail _ (.tail _ (.tail _ (.head _)))))))).trans rfl) rfl ?_))
            refine J.nil (JX.fin rfl (fun w hw => ⟨rfl, (by rw [hw.1]; exact Below.refl _ _)⟩))
          · skip
            refine Fin.cons (fun v12_3 => ?_)
            refine Fin.nil ?_
            refine J.prE (fun h => ?_); subst h
            first
              | (refine J.skip rfl rfl rfl rfl rfl ?_)
              | (refine J.skipU rfl rfl rfl rfl ?_)
              | (refine J.unguard rfl rfl rfl ?_; refine J.move rfl rfl ?_)
            refine J.nil (JX.fin rfl (fun w hw => ⟨rfl, (by rw [hw.1]; exact Below.refl _ _)⟩))
          · skip
            refine Fin.cons (fun v12_6 => ?_)
            refine Fin.cons (fun v12_3 => ?_)
            refine Fin.nil ?_
            refine J.prE (fun h => ?_); subst h
            refine J.prE (fun h => ?_); subst h
            first
              | (refine J.skip rfl rfl rfl rfl rfl ?_)
              | (refine J.skipU rfl rfl rfl rfl ?_)
              | (refine J.unguard rfl rfl rfl ?_; refine J.nilCheck rfl rfl ?_)
            refine J.nil (JX.fin rfl (fun w hw => ⟨rfl, (by rw [hw.1]; exact Below.refl _ _)⟩))
          · skip
            refine Fin.cons (fun v12_7 => ?_)
            refine Fin.cons (fun v12_3 => ?_)
            refine Fin.nil ?_
            refine J.prE (fun h => ?_); subst h
            refine J.prE (fun h => ?_); subst h
            first
              | (refine J.skip rfl rfl rfl rfl rfl ?_)
              | (refine J.skipU rfl rfl rfl rfl ?_)
              | (refine J.unguard rfl rfl rfl ?_; refine J.fieldAddr Ty.fd35_0 rfl rfl ?_)
            refine J.nil (JX.fin rfl (fun w hw => ⟨rfl, (by rw [hw.1]; exact Below.refl _ _)⟩))
          · skip
            refine Fin.cons (fun v12_8 => ?_)
            refine Fin.cons (fun v12_3 => ?_)
            refine Fin.nil ?_
            refine J.prE (fun h => ?_); subst h
            refine J.prE (fun h => ?_); subst h
            first
              | (refine J.skip rfl rfl rfl rfl rfl ?_)
              | (refine J.skipU rfl rfl rfl rfl ?_)
              | (refine J.unguard rfl rfl rfl ?_; (first | refine J.load1 Ty.a28 rfl (fun w hw => (cell_of (hw.2.own _ (.head _))).trans rfl) rfl ?_ | refine J.load1 Ty.a28 rfl (fun w hw => (cell_of (hw.2.own _ (.tail _ (.head _)))).trans rfl) rfl ?_ | refine J.load1 Ty.a28 rfl (fun w hw => (cell_of (hw.2.own _ (.tail _ (.tail _ (.head _))))).trans rfl) rfl ?_ | refine J.load1 Ty.a28 rfl (fun w hw => (cell_of (hw.2.own _ (.tail _ (.tail _ (.tail _ (.head _)))))).trans rfl) rfl ?_ | refine J.load1 Ty.a28 rfl (fun w hw => (cell_of (hw.2.own _ (.tail _ (.tail _ (.tail _ (.tail _ (.head _))))))).trans rfl) rfl ?_ | refine J.load1 Ty.a28 rfl (fun w hw => (cell_of (hw.2.own _ (List.mem_append_right _ (.head _)))).trans rfl) rfl ?_ | refine J.load1 Ty.a28 rfl (fun w hw => (cell_of (hw.2.own _ (List.mem_append_right _ (.tail _ (.head _))))).trans rfl) rfl ?_ | refine J.load1 Ty.a28 rfl (fun w hw => (cell_of (hw.2.own _ (List.mem_append_right _ (.tail _ (.tail _ (.head _)))))).trans rfl) rfl ?_ | refine J.load1 Ty.a28 rfl (fun w hw => (cell_of (hw.2.own _ (List.mem_append_right _ (.tail _ (.tail _ (.tail _ (.head _))))))).trans rfl) rfl ?_ | refine J.load1 Ty.a28 rfl (fun w hw => (cell_of (hw.2.own _ (List.mem_append_right _ (.tail _ (.tail _ (.tail _ (.tail _ (.head _)))))))).trans rfl) rfl ?_))
            refine J.nil (JX.fin rfl (fun w hw => ⟨rfl, (by rw [hw.1]; exact Below.refl _ _)⟩))
          · skip
            refine Fin.cons (fun v12_9 => ?_)
            refine Fin.cons (fun v12_3 => ?_)
            refine Fin.nil ?_
            refine J.prE (fun h => ?_); subst h
            refine J.prE (fun h => ?_); subst h
            first
              | (refine J.skip rfl rfl rfl rfl rfl ?_)
              | (refine J.skipU rfl rfl rfl rfl ?_)
              | (refine J.unguard rfl rfl rfl ?_; refine J.lenS rfl Ty.u28 rfl rfl ?_)
            refine J.nil (JX.fin rfl (fun w hw => ⟨rfl, (by rw [hw.1]; exact Below.refl _ _)⟩))
          · skip
            refine Fin.cons (fun v12_10 => ?_)
            refine Fin.cons (fun v12_3 => ?_)
            refine Fin.nil ?_
            refine J.prE (fun h => ?_); subst h
            refine J.prE (fun h => ?_); subst h
            refine J.unguard rfl rfl rfl ?_
            refine J.quoN rfl rfl (by omega) (by omega) (by omega) rfl ?_
            refine J.name 54 rfl (congrArg (Value.int .i64) (show ((64 * N : Nat) : Int) / 64 = (N : Int) by omega)) ?_
            refine J.nil (JX.fin rfl (fun w hw => ⟨rfl, (by rw [hw.1]; exact Below.refl _ _)⟩))
          · skip
            refine Fin.cons (fun v12_5 => ?_)
            refine Fin.cons (fun v12_11 => ?_)
            refine Fin.cons (fun v12_3 => ?_)
            refine Fin.nil ?_
            refine J.prE (fun h => ?_); subst h
            refine J.prE (fun h => ?_); subst h
            refine J.prE (fun h => ?_); subst h
            refine J.unguard rfl rfl rfl ?_
            refine J.bin rfl rfl rfl rfl ?_
            refine J.name 55 rfl (show Value.bool _ = .bool false by simp <;> omega) ?_
            refine J.nil (JX.fin rfl (fun w hw => ⟨rfl, (by rw [hw.1]; exact Below.refl _ _)⟩))
          · skip
            refine Fin.cons (fun v12_3 => ?_)
            refine Fin.cons (fun v12_12 => ?_)
            refine Fin.nil ?_
            refine J.prE (fun h => ?_); subst h
            refine J.prE (fun h => ?_); subst h
            (first | refine J.pickT rfl rfl rfl ?_ | refine J.pickF rfl rfl rfl ?_)
            refine J.nil (JX.fin rfl (fun w hw => ⟨rfl, (by rw [hw.1]; exact Below.refl _ _)⟩))
          · skip
            refine Fin.cons (fun v12_13 => ?_)
            refine Fin.cons (fun v12_3 => ?_)
            refine Fin.nil ?_
            refine J.prE (fun h => ?_); subst h
            refine J.prE (fun h => ?_); subst h
            refine J.move rfl rfl ?_
            refine J.nil (JX.fin rfl (fun w hw => ⟨rfl, (by rw [hw.1]; exact Below.refl _ _)⟩))
          · skip
            refine Fin.cons (fun v12_14 => ?_)
            refine Fin.nil ?_
            refine J.prE (fun h => ?_); subst h
            first
              | (refine J.skip rfl rfl rfl rfl rfl ?_)
              | (refine J.skipU rfl rfl rfl rfl ?_)
              | (refine J.unguard rfl rfl rfl ?_; refine J.fieldAddr Ty.fd30_2 rfl rfl ?_)
            refine J.nil (JX.fin rfl (fun w hw => ⟨rfl, (by rw [hw.1]; exact Below.refl _ _)⟩))
          · skip
            refine Fin.cons (fun v12_15 => ?_)
            refine Fin.cons (fun v12_14 => ?_)
            refine Fin.nil ?_
            refine J.prE (fun h => ?_); subst h
            refine J.prE (fun h => ?_); subst h
            first
              | (refine J.skip rfl rfl rfl rfl rfl ?_)
              | (refine J.skipU rfl rfl rfl rfl ?_)
              | (refine J.unguard rfl rfl rfl ?_; (first | refine J.load1 Ty.a28 rfl (fun w hw => (cell_of (hw.2.own _ (.head _))).trans rfl) rfl ?_ | refine J.load1 Ty.a28 rfl (fun w hw => (cell_of (hw.2.own _ (.tail _ (.head _)))).trans rfl) rfl ?_ | refine J.load1 Ty.a28 rfl (fun w hw => (cell_of (hw.2.own _ (.tail _ (.tail _ (.head _))))).trans rfl) rfl ?_ | refine J.load1 Ty.a28 rfl (fun w hw => (cell_of (hw.2.own _ (.tail _ (.tail _ (.tail _ (.head _)))))).trans rfl) rfl ?_ | refine J.load1 Ty.a28 rfl (fun w hw => (cell_of (hw.2.own _ (.tail _ (.tail _ (.tail _ (.tail _ (.head _))))))).trans rfl) rfl ?_ | refine J.load1 Ty.a28 rfl (fun w hw => (cell_of (hw.2.own _ (List.mem_append_right _ (.head _)))).trans rfl) rfl ?_ | refine J.load1 Ty.a28 rfl (fun w hw => (cell_of (hw.2.own _ (List.mem_append_right _ (.tail _ (.head _))))).trans rfl) rfl ?_ | refine J.load1 Ty.a28 rfl (fun w hw => (cell_of (hw.2.own _ (List.mem_append_right _ (.tail _ (.tail _ (.head _)))))).trans rfl) rfl ?_ | refine J.load1 Ty.a28 rfl (fun w hw => (cell_of (hw.2.own _ (List.mem_append_right _ (.tail _ (.tail _ (.tail _ (.head _))))))).trans rfl) rfl ?_ | refine J.load1 Ty.a28 rfl (fun w hw => (cell_of (hw.2.own _ (List.mem_append_right _ (.tail _ (.tail _ (.tail _ (.tail _ (.head _)))))))).trans rfl) rfl ?_))
            refine J.nil (JX.fin rfl (fun w hw => ⟨rfl, (by rw [hw.1]; exact Below.refl _ _)⟩))
          · skip
            refine Fin.cons (fun v12_16 => ?_)
            refine Fin.cons (fun v12_14 => ?_)
            refine Fin.nil ?_
            refine J.prE (fun h => ?_); subst h
            refine J.prE (fun h => ?_); subst h
            first
              | (refine J.skip rfl rfl rfl rfl rfl ?_)
              | (refine J.skipU rfl rfl rfl rfl ?_)
              | (refine J.unguard rfl rfl rfl ?_; refine J.lenS rfl Ty.u28 rfl rfl ?_)
            refine J.nil (JX.fin rfl (fun w hw => ⟨rfl, (by rw [hw.1]; exact Below.refl _ _)⟩))
          · skip
            refine Fin.cons (fun v12_17 => ?_)
            refine Fin.cons (fun v12_14 => ?_)
            refine Fin.nil ?_
            refine J.prE (fun h => ?_); subst h
            refine J.prE (fun h => ?_); subst h
            first
              | (refine J.skip rfl rfl rfl rfl rfl ?_)
              | (refine J.skipU rfl rfl rfl rfl ?_)
              | (refine J.unguard rfl rfl rfl ?_; refine J.bin rfl rfl rfl rfl ?_)
            refine J.nil (JX.fin rfl (fun w hw => ⟨rfl, (by rw [hw.1]; exact Below.refl _ _)⟩))
          · skip
            refine Fin.cons (fun v12_14 => ?_)
            refine Fin.cons (fun v12_18 => ?_)
            refine Fin.nil ?_
            refine J.prE (fun h => ?_); subst h
            refine J.prE (fun h => ?_); subst h
            (first | refine J.pickT rfl rfl rfl ?_ | refine J.pickF rfl rfl rfl ?_)
            refine J.nil (JX.fin rfl (fun w hw => ⟨rfl, (by rw [hw.1]; exact Below.refl _ _)⟩))
        case htail =>
          refine Fin.cons (fun v12_0 => ?_)
          refine Fin.cons (fun v12_1 => ?_)
          refine Fin.cons (fun v12_2 => ?_)
          refine Fin.cons (fun v12_3 => ?_)
          refine Fin.cons (fun v12_4 => ?_)
          refine Fin.cons (fun v12_5 => ?_)
          refine Fin.cons (fun v12_6 => ?_)
          refine Fin.cons (fun v12_7 => ?_)
          refine Fin.cons (fun v12_8 => ?_)
          refine Fin.cons (fun v12_9 => ?_)
          refine Fin.cons (fun v12_10 => ?_)
          refine Fin.cons (fun v12_11 => ?_)
          refine Fin.cons (fun v12_12 => ?_)
          refine Fin.cons (fun v12_13 => ?_)
          refine Fin.cons (fun v12_14 => ?_)
          refine Fin.cons (fun v12_15 => ?_)
          refine Fin.cons (fun v12_16 => ?_)
          refine Fin.cons (fun v12_17 => ?_)
          refine Fin.cons (fun v12_18 => ?_)
          refine Fin.cons (fun v12_19 => ?_)
          refine Fin.nil ?_
          refine J.prE (fun h => ?_); subst h
          refine J.prE (fun h => ?_); subst h
          refine J.prE (fun h => ?_); subst h
          refine J.prE (fun h => ?_); subst h
          refine J.prE (fun h => ?_); subst h
          refine J.prE (fun h => ?_); subst h
          refine J.prE (fun h => ?_); subst h
          refine J.prE (fun h => ?_); subst h
          refine J.prE (fun h => ?_); subst h
          refine J.prE (fun h => ?_); subst h
          refine J.prE (fun h => ?_); subst h
          refine J.prE (fun h => ?_); subst h
          refine J.prE (fun h => ?_); subst h
          refine J.prE (fun h => ?_); subst h
          refine J.prE (fun h => ?_); subst h
          refine J.prE (fun h => ?_); subst h
          refine J.prE (fun h => ?_); subst h
          refine J.prE (fun h => ?_); subst h
          refine J.prE (fun h => ?_); subst h
          refine J.prE (fun h => ?_); subst h
          refine J.assign rfl rfl ?_
          refine J.nil ?_
          refine JX.thenN (hK20 _ _ ?_)
          refine JC.block ?_
          refine JC.seq (fun K21 hK21 => ?_)
          refine JC.region ?_
          refine J.move rfl rfl ?_
          refine J.not rfl rfl ?_
          refine J.assign rfl rfl ?_
          refine J.nil ?_
          refine JX.thenN (hK21 _ _ ?_)
          first | refine JC.condT rfl ?_ | refine JC.cond rfl (fun _ => ?_) (fun h => by first | (exfalso; simp at h; omega) | (simp at h))
          refine JC.seq (fun K22 hK22 => ?_)
          refine JC.region ?_
          refine J.move rfl rfl ?_
          refine J.bin rfl rfl rfl rfl ?_
          refine J.move rfl rfl ?_
          first
            | (refine J.skip rfl rfl rfl rfl rfl ?_)
            | (refine J.skipU rfl rfl rfl rfl ?_)
            | (refine J.unguard rfl rfl rfl ?_; refine J.move rfl rfl ?_)
          first
            | (refine J.skip rfl rfl rfl rfl rfl ?_)
            | (refine J.skipU rfl rfl rfl rfl ?_)
            | (refine J.unguard rfl rfl rfl ?_; refine J.bin rfl rfl rfl rfl ?_)
          (first | refine J.pickT rfl rfl rfl ?_ | refine J.pickF rfl rfl rfl ?_)
          refine J.nil ?_
          refine JX.thenN (hK22 _ _ ?_)
          first | refine JC.condF rfl ?_ | refine JC.cond rfl (fun h => by first | (exfalso; simp at h; omega) | (simp at h)) (fun _ => ?_)
          refine JC.skip ?_
          refine JX.blockN ?_
          refine JX.blockN ?_
          refine JX.thenN (hK11 _ _ ?_)
          refine JC.region ?_
          (first | refine J.addN rfl rfl (by omega) (by omega) rfl ?_ | refine J.bin rfl rfl rfl rfl ?_)
          refine J.move rfl rfl ?_
          refine J.nil ?_
          refine JX.thenN ?_
          refine JX.again (i + 1, B, p, k, lp) ?_ ?_ ?_
          · simp only; omega
          · exact ⟨rfl, rfl, rfl, rfl, rfl, rfl, trivial⟩
          · exact fun w1 hw => ⟨⟨hlt, by simp only; omega, hB, hk0, by simp only; omega, by simp only; exact hp, hv⟩, St.drop hw (.cons_cons _ (.cons_cons _ (.cons_cons _ (List.sublist_cons_self _ _))))⟩
      · skip
        refine J.move rfl rfl ?_
        refine J.fieldAddr Ty.fd30_1 rfl rfl ?_
        (first | refine J.loadO Ty.a3 rfl (.head _) rfl rfl ?_ | refine J.loadO Ty.a3 rfl (.tail _ (.head _)) rfl rfl ?_ | refine J.loadO Ty.a3 rfl (.tail _ (.tail _ (.head _))) rfl rfl ?_ | refine J.loadO Ty.a3 rfl (.tail _ (.tail _ (.tail _ (.head _)))) rfl rfl ?_ | refine J.loadO Ty.a3 rfl (.tail _ (.tail _ (.tail _ (.tail _ (.head _))))) rfl rfl ?_ | refine J.loadO Ty.a3 rfl (List.mem_append_right _ (.head _)) rfl rfl ?_ | refine J.loadO Ty.a3 rfl (List.mem_append_right _ (.tail _ (.head _))) rfl rfl ?_ | refine J.loadO Ty.a3 rfl (List.mem_append_right _ (.tail _ (.tail _ (.head _)))) rfl rfl ?_ | refine J.loadO Ty.a3 rfl (List.mem_append_right _ (.tail _ (.tail _ (.tail _ (.head _))))) rfl rfl ?_ | refine J.loadO Ty.a3 rfl (List.mem_append_right _ (.tail _ (.tail _ (.tail _ (.tail _ (.head _)))))) rfl rfl ?_)
        refine J.fieldAddr Ty.fd30_2 rfl rfl ?_
        (first | refine J.loadO Ty.a28 rfl (.head _) rfl rfl ?_ | refine J.loadO Ty.a28 rfl (.tail _ (.head _)) rfl rfl ?_ | refine J.loadO Ty.a28 rfl (.tail _ (.tail _ (.head _))) rfl rfl ?_ | refine J.loadO Ty.a28 rfl (.tail _ (.tail _ (.tail _ (.head _)))) rfl rfl ?_ | refine J.loadO Ty.a28 rfl (.tail _ (.tail _ (.tail _ (.tail _ (.head _))))) rfl rfl ?_ | refine J.loadO Ty.a28 rfl (List.mem_append_right _ (.head _)) rfl rfl ?_ | refine J.loadO Ty.a28 rfl (List.mem_append_right _ (.tail _ (.head _))) rfl rfl ?_ | refine J.loadO Ty.a28 rfl (List.mem_append_right _ (.tail _ (.tail _ (.head _)))) rfl rfl ?_ | refine J.loadO Ty.a28 rfl (List.mem_append_right _ (.tail _ (.tail _ (.tail _ (.head _))))) rfl rfl ?_ | refine J.loadO Ty.a28 rfl (List.mem_append_right _ (.tail _ (.tail _ (.tail _ (.tail _ (.head _)))))) rfl rfl ?_)
        refine J.callB (fun w1 w2 hw hb => hw.step hb) Ty.bd17 rfl rfl (fun w' hw => write_long d s N p k w' hw.owns' z.i z.b.a z.b.xs.length z.b.c hm1 hm2 hm3) ?_
        refine J.assign rfl rfl ?_
        refine J.nil ?_
        refine JX.thenN (hK16 _ _ ?_)
        refine JC.seq (fun K23 hK23 => ?_)
        apply JC.drawL 20 [Eqv _, Eqv _, Eqv _, Eqv _, Eqv _, Eqv _, Eqv _, Eqv _, Eqv _, Eqv _, Eqv _, Eqv _, Eqv _, Eqv _, Eqv _, Eqv _, Eqv _, Eqv _, Eqv _, Eqv _] Ty.mixed rfl rfl rfl (by kernel_rfl) rfl rfl (fun w w' hw hb => hw.step hb) ⟨fun _ _ _ h _ => h, fun _ _ _ h _ => h, fun _ _ _ h _ => h, fun _ _ _ h _ => h, fun _ _ _ h _ => h, fun _ _ _ h _ => h, fun _ _ _ h _ => h, fun _ _ _ h _ => h, fun _ _ _ h _ => h, fun _ _ _ h _ => h, fun _ _ _ h _ => h, fun _ _ _ h _ => h, fun _ _ _ h _ => h, fun _ _ _ h _ => h, fun _ _ _ h _ => h, fun _ _ _ h _ => h, fun _ _ _ h _ => h, fun _ _ _ h _ => h, fun _ _ _ h _ => h, fun _ _ _ h _ => h, trivial⟩ ?hstep ?htail
        case hstep =>
          refine ⟨fun wi => ?_, fun wi => ?_, fun wi => ?_, fun wi => ?_, fun wi => ?_, fun wi => ?_, fun wi => ?_, fun wi => ?_, fun wi => ?_, fun wi => ?_, fun wi => ?_, fun wi => ?_, fun wi => ?_, fun wi => ?_, fun wi => ?_, fun wi => ?_, fun wi => ?_, fun wi => ?_, fun wi => ?_, fun wi => ?_, trivial⟩
          · skip
            refine Fin.nil ?_
            refine J.fieldAddr Ty.fd30_1 rfl rfl ?_
            refine J.nil (JX.fin rfl (fun w hw => ⟨rfl, (by rw [hw.1]; exact Below.refl _ _)⟩))
          · skip
            refine Fin.cons (fun v12_0 => ?_)
            refine Fin.nil ?_
            refine J.prE (fun h => ?_); subst h
            (first | refine J.load1 Ty.a3 rfl (fun w hw => (cell_of (hw.2.own _ (.head _))).trans rfl) rfl ?_ | refine J.load1 Ty.a3 rfl (fun w hw => (cell_of (hw.2.own _ (.tail _ (.head _)))).trans rfl) rfl ?_ | refine J.load1 Ty.a3 rfl (fun w hw => (cell_of (hw.2.own _ (.tail _ (.tail _ (.head _))))).trans rfl) rfl ?_ | refine J.load1 Ty.a3 rfl (fun w hw => (cell_of (hw.2.own _ (.tail _ (.tail _ (.tail _ (.head _)))))).trans rfl) rfl ?_ | refine J.load1 Ty.a3 rfl (fun w hw => (cell_of (hw.2.own _ (.tail _ (.tail _ (.tail _ (.tail _ (.head _))))))).trans rfl) rfl ?_ | refine J.load1 Ty.a3 rfl (fun w hw => (cell_of (hw.2.own _ (List.mem_append_right _ (.head _)))).trans rfl) rfl ?_ | refine J.load1 Ty.a3 rfl (fun w hw => (cell_of (hw.2.own _ (List.mem_append_right _ (.tail _ (.head _))))).trans rfl) rfl ?_ | refine J.load1 Ty.a3 rfl (fun w hw => (cell_of (hw.2.own _ (List.mem_append_right _ (.tail _ (.tail _ (.head _)))))).trans rfl) rfl ?_ | refine J.load1 Ty.a3 rfl (fun w hw => (cell_of (hw.2.own _ (List.mem_append_right _ (.tail _ (.tail _ (.tail _ (.head _))))))).trans rfl) rfl ?_ | refine J.load1 Ty.a3 rfl (fun w hw => (cell_of (hw.2.own _ (List.mem_append_right _ (.tail _ (.tail _ (.tail _ (.tail _ (.head _)))))))).trans rfl) rfl ?_)
            refine J.nil (JX.fin rfl (fun w hw => ⟨rfl, (by rw [hw.1]; exact Below.refl _ _)⟩))
          · skip
            refine Fin.cons (fun v12_1 => ?_)
            refine Fin.nil ?_
            refine J.prE (fun h => ?_); subst h
            refine J.bin rfl rfl rfl rfl ?_
            refine J.name 45 rfl (show Value.bool _ = .bool true by simp <;> omega) ?_
            refine J.nil (JX.fin rfl (fun w hw => ⟨rfl, (by rw [hw.1]; exact Below.refl _ _)⟩))
          · skip
            refine Fin.cons (fun v12_2 => ?_)
            refine Fin.nil ?_
            refine J.prE (fun h => ?_); subst h
            refine J.move rfl rfl ?_
            refine J.nil (JX.fin rfl (fun w hw => ⟨rfl, (by rw [hw.1]; exact Below.refl _ _)⟩))
          · skip
            refine Fin.cons (fun v12_3 => ?_)
            refine Fin.nil ?_
            refine J.prE (fun h => ?_); subst h
            first
              | (refine J.skip rfl rfl rfl rfl rfl ?_)
              | (refine J.skipU rfl rfl rfl rfl ?_)
              | (refine J.unguard rfl rfl rfl ?_; refine J.fieldAddr Ty.fd30_1 rfl rfl ?_)
            refine J.nil (JX.fin rfl (fun w hw => ⟨rfl, (by rw [hw.1]; exact Below.refl _ _)⟩))
          · skip
            refine Fin.cons (fun v12_4 => ?_)
            refine Fin.cons (fun v12_3 => ?_)
            refine Fin.nil ?_
            refine J.prE (fun h => ?_); subst h
            refine J.prE (fun h => ?_); subst h
            first
              | (refine J.skip rfl rfl rfl rfl rfl ?_)
              | (refine J.skipU rfl rfl rfl rfl ?_)
              | (refine J.unguard rfl rfl rfl ?_; (first | refine J.load1 Ty.a3 rfl (fun w hw => (cell_of (hw.2.own _ (.head _))).trans rfl) rfl ?_ | refine J.load1 Ty.a3 rfl (fun w hw => (cell_of (hw.2.own _ (.tail _ (.head _)))).trans rfl) rfl ?_ | refine J.load1 Ty.a3 rfl (fun w hw => (cell_of (hw.2.own _ (.tail _ (.tail _ (.head _))))).trans rfl) rfl ?_ | refine J.load1 Ty.a3 rfl (fun w hw => (cell_of (hw.2.own _ (.tail _ (.tail _ (.tail _ (.head _)))))).trans rfl) rfl ?_ | refine J.load1 Ty.a3 rfl (fun w hw => (cell_of (hw.2.own _ (.tail _ (.tail _ (.tail _ (.tail _ (.head _))))))).trans rfl) rfl ?_ | refine J.load1 Ty.a3 rfl (fun w hw => (cell_of (hw.2.own _ (List.mem_append_right _ (.head _)))).trans rfl) rfl ?_ | refine J.load1 Ty.a3 rfl (fun w hw => (cell_of (hw.2.own _ (List.mem_append_right _ (.tail _ (.head _))))).trans rfl) rfl ?_ | refine J.load1 Ty.a3 rfl (fun w hw => (cell_of (hw.2.own _ (List.mem_append_right _ (.tail _ (.tail _ (.head _)))))).trans rfl) rfl ?_ | refine J.load1 Ty.a3 rfl (fun w hw => (cell_of (hw.2.own _ (List.mem_append_right _ (.tail _ (.tail _ (.tail _ (.head _))))))).trans rfl) rfl ?_ | refine J.load1 Ty.a3 rfl (fun w hw => (cell_of (hw.2.own _ (List.mem_append_right _ (.tail _ (.tail _ (.tail _ (.tail _ (.head _)))))))).trans rfl) rfl ?_))
            refine J.nil (JX.fin rfl (fun w hw => ⟨rfl, (by rw [hw.1]; exact Below.refl _ _)⟩))
          · skip
            refine Fin.cons (fun v12_3 => ?_)
            refine Fin.nil ?_
            refine J.prE (fun h => ?_); subst h
            first
              | (refine J.skip rfl rfl rfl rfl rfl ?_)
              | (refine J.skipU rfl rfl rfl rfl ?_)
              | (refine J.unguard rfl rfl rfl ?_; refine J.move rfl rfl ?_)
            refine J.nil (JX.fin rfl (fun w hw => ⟨rfl, (by rw [hw.1]; exact Below.refl _ _)⟩))
          · skip
            refine Fin.cons (fun v12_6 => ?_)
            refine Fin.cons (fun v12_3 => ?_)
            refine Fin.nil ?_
            refine J.prE (fun h => ?_); subst h
            refine J.prE (fun h => ?_); subst h
            first
              | (refine J.skip rfl rfl rfl rfl rfl ?_)
              | (refine J.skipU rfl rfl rfl rfl ?_)
              | (refine J.unguard rfl rfl rfl ?_; refine J.nilCheck rfl rfl ?_)
            refine J.nil (JX.fin rfl (fun w hw => ⟨rfl, (by rw [hw.1]; exact Below.refl _ _)⟩))
          · skip
            refine Fin.cons (fun v12_7 => ?_)
            refine Fin.cons (fun v12_3 => ?_)
            refine Fin.nil ?_
            refine J.prE (fun h => ?_); subst h
            refine J.prE (fun h => ?_); subst h
            first
              | (refine J.skip rfl rfl rfl rfl rfl ?_)
              | (refine J.skipU rfl rfl rfl rfl ?_)
              | (refine J.unguard rfl rfl rfl ?_; refine J.fieldAddr Ty.fd35_0 rfl rfl ?_)
            refine J.nil (JX.fin rfl (fun w hw => ⟨rfl, (by rw [hw.1]; exact Below.refl _ _)⟩))
          · skip
            refine Fin.cons (fun v12_8 => ?_)
            refine Fin.cons (fun v12_3 => ?_)
            refine Fin.nil ?_
            refine J.prE (fun h => ?_); subst h
            refine J.prE (fun h => ?_); subst h
            first
              | (refine J.skip rfl rfl rfl rfl rfl ?_)
              | (refine J.skipU rfl rfl rfl rfl ?_)
              | (refine J.unguard rfl rfl rfl ?_; (first | refine J.load1 Ty.a28 rfl (fun w hw => (cell_of (hw.2.own _ (.head _))).trans rfl) rfl ?_ | refine J.load1 Ty.a28 rfl (fun w hw => (cell_of (hw.2.own _ (.tail _ (.head _)))).trans rfl) rfl ?_ | refine J.load1 Ty.a28 rfl (fun w hw => (cell_of (hw.2.own _ (.tail _ (.tail _ (.head _))))).trans rfl) rfl ?_ | refine J.load1 Ty.a28 rfl (fun w hw => (cell_of (hw.2.own _ (.tail _ (.tail _ (.tail _ (.head _)))))).trans rfl) rfl ?_ | refine J.load1 Ty.a28 rfl (fun w hw => (cell_of (hw.2.own _ (.tail _ (.tail _ (.tail _ (.tail _ (.head _))))))).trans rfl) rfl ?_ | refine J.load1 Ty.a28 rfl (fun w hw => (cell_of (hw.2.own _ (List.mem_append_right _ (.head _)))).trans rfl) rfl ?_ | refine J.load1 Ty.a28 rfl (fun w hw => (cell_of (hw.2.own _ (List.mem_append_right _ (.tail _ (.head _))))).trans rfl) rfl ?_ | refine J.load1 Ty.a28 rfl (fun w hw => (cell_of (hw.2.own _ (List.mem_append_right _ (.tail _ (.tail _ (.head _)))))).trans rfl) rfl ?_ | refine J.load1 Ty.a28 rfl (fun w hw => (cell_of (hw.2.own _ (List.mem_append_right _ (.tail _ (.tail _ (.tail _ (.head _))))))).trans rfl) rfl ?_ | refine J.load1 Ty.a28 rfl (fun w hw => (cell_of (hw.2.own _ (List.mem_append_right _ (.tail _ (.tail _ (.tail _ (.tail _ (.head _)))))))).trans rfl) rfl ?_))
            refine J.nil (JX.fin rfl (fun w hw => ⟨rfl, (by rw [hw.1]; exact Below.refl _ _)⟩))
          · skip
            refine Fin.cons (fun v12_9 => ?_)
            refine Fin.cons (fun v12_3 => ?_)
            refine Fin.nil ?_
            refine J.prE (fun h => ?_); subst h
            refine J.prE (fun h => ?_); subst h
            first
              | (refine J.skip rfl rfl rfl rfl rfl ?_)
              | (refine J.skipU rfl rfl rfl rfl ?_)
              | (refine J.unguard rfl rfl rfl ?_; refine J.lenS rfl Ty.u28 rfl rfl ?_)
            refine J.nil (JX.fin rfl (fun w hw => ⟨rfl, (by rw [hw.1]; exact Below.refl _ _)⟩))
          · skip
            refine Fin.cons (fun v12_10 => ?_)
            refine Fin.cons (fun v12_3 => ?_)
            refine Fin.nil ?_
            refine J.prE (fun h => ?_); subst h
            refine J.prE (fun h => ?_); subst h
            refine J.unguard rfl rfl rfl ?_
            refine J.quoN rfl rfl (by omega) (by omega) (by omega) rfl ?_
            refine J.name 54 rfl (congrArg (Value.int .i64) (show ((64 * N : Nat) : Int) / 64 = (N : Int) by omega)) ?_
            refine J.nil (JX.fin rfl (fun w hw => ⟨rfl, (by rw [hw.1]; exact Below.refl _ _)⟩))
          · skip
            refine Fin.cons (fun v12_5 => ?_)
            refine Fin.cons (fun v12_11 => ?_)
            refine Fin.cons (fun v12_3 => ?_)
            refine Fin.nil ?_
            refine J.prE (fun h => ?_); subst h
            refine J.prE (fun h => ?_); subst h
            refine J.prE (fun h => ?_); subst h
            refine J.unguard rfl rfl rfl ?_
            refine J.bin rfl rfl rfl rfl ?_
            refine J.name 55 rfl (show Value.bool _ = .bool true by simp <;> omega) ?_
            refine J.nil (JX.fin rfl (fun w hw => ⟨rfl, (by rw [hw.1]; exact Below.refl _ _)⟩))
          · skip
            refine Fin.cons (fun v12_3 => ?_)
            refine Fin.cons (fun v12_12 => ?_)
            refine Fin.nil ?_
            refine J.prE (fun h => ?_); subst h
            refine J.prE (fun h => ?_); subst h
            (first | refine J.pickT rfl rfl rfl ?_ | refine J.pickF rfl rfl rfl ?_)
            refine J.nil (JX.fin rfl (fun w hw => ⟨rfl, (by rw [hw.1]; exact Below.refl _ _)⟩))
          · skip
            refine Fin.cons (fun v12_13 => ?_)
            refine Fin.cons (fun v12_3 => ?_)
            refine Fin.nil ?_
            refine J.prE (fun h => ?_); subst h
            refine J.prE (fun h => ?_); subst h
            refine J.move rfl rfl ?_
            refine J.nil (JX.fin rfl (fun w hw => ⟨rfl, (by rw [hw.1]; exact Below.refl _ _)⟩))
          · skip
            refine Fin.cons (fun v12_14 => ?_)
            refine Fin.nil ?_
            refine J.prE (fun h => ?_); subst h
            first
              | (refine J.skip rfl rfl rfl rfl rfl ?_)
              | (refine J.skipU rfl rfl rfl rfl ?_)
              | (refine J.unguard rfl rfl rfl ?_; refine J.fieldAddr Ty.fd30_2 rfl rfl ?_)
            refine J.nil (JX.fin rfl (fun w hw => ⟨rfl, (by rw [hw.1]; exact Below.refl _ _)⟩))
          · skip
            refine Fin.cons (fun v12_15 => ?_)
            refine Fin.cons (fun v12_14 => ?_)
            refine Fin.nil ?_
            refine J.prE (fun h => ?_); subst h
            refine J.prE (fun h => ?_); subst h
            first
              | (refine J.skip rfl rfl rfl rfl rfl ?_)
              | (refine J.skipU rfl rfl rfl rfl ?_)
              | (refine J.unguard rfl rfl rfl ?_; (first | refine J.load1 Ty.a28 rfl (fun w hw => (cell_of (hw.2.own _ (.head _))).trans rfl) rfl ?_ | refine J.load1 Ty.a28 rfl (fun w hw => (cell_of (hw.2.own _ (.tail _ (.head _)))).trans rfl) rfl ?_ | refine J.load1 Ty.a28 rfl (fun w hw => (cell_of (hw.2.own _ (.tail _ (.tail _ (.head _))))).trans rfl) rfl ?_ | refine J.load1 Ty.a28 rfl (fun w hw => (cell_of (hw.2.own _ (.tail _ (.tail _ (.tail _ (.head _)))))).trans rfl) rfl ?_ | refine J.load1 Ty.a28 rfl (fun w hw => (cell_of (hw.2.own _ (.tail _ (.tail _ (.tail _ (.tail _ (.head _))))))).trans rfl) rfl ?_ | refine J.load1 Ty.a28 rfl (fun w hw => (cell_of (hw.2.own _ (List.mem_append_right _ (.head _)))).trans rfl) rfl ?_ | refine J.load1 Ty.a28 rfl (fun w hw => (cell_of (hw.2.own _ (List.mem_append_right _ (.tail _ (.head _))))).trans rfl) rfl ?_ | refine J.load1 Ty.a28 rfl (fun w hw => (cell_of (hw.2.own _ (List.mem_append_right _ (.tail _ (.tail _ (.head _)))))).trans rfl) rfl ?_ | refine J.load1 Ty.a28 rfl (fun w hw => (cell_of (hw.2.own _ (List.mem_append_right _ (.tail _ (.tail _ (.tail _ (.head _))))))).trans rfl) rfl ?_ | refine J.load1 Ty.a28 rfl (fun w hw => (cell_of (hw.2.own _ (List.mem_append_right _ (.tail _ (.tail _ (.tail _ (.tail _ (.head _)))))))).trans rfl) rfl ?_))
            refine J.nil (JX.fin rfl (fun w hw => ⟨rfl, (by rw [hw.1]; exact Below.refl _ _)⟩))
          · skip
            refine Fin.cons (fun v12_16 => ?_)
            refine Fin.cons (fun v12_14 => ?_)
            refine Fin.nil ?_
            refine J.prE (fun h => ?_); subst h
            refine J.prE (fun h => ?_); subst h
            first
              | (refine J.skip rfl rfl rfl rfl rfl ?_)
              | (refine J.skipU rfl rfl rfl rfl ?_)
              | (refine J.unguard rfl rfl rfl ?_; refine J.lenS rfl Ty.u28 rfl rfl ?_)
            refine J.nil (JX.fin rfl (fun w hw => ⟨rfl, (by rw [hw.1]; exact Below.refl _ _)⟩))
          · skip
            refine Fin.cons (fun v12_17 => ?_)
            refine Fin.cons (fun v12_14 => ?_)
            refine Fin.nil ?_
            refine J.prE (fun h => ?_); subst h
            refine J.prE (fun h => ?_); subst h
            refine J.unguard rfl rfl rfl ?_
            refine J.bin rfl rfl rfl rfl ?_
            refine J.name 61 rfl (show Value.bool _ = .bool false by simp <;> omega) ?_
            refine J.nil (JX.fin rfl (fun w hw => ⟨rfl, (by rw [hw.1]; exact Below.refl _ _)⟩))
          · skip
            refine Fin.cons (fun v12_14 => ?_)
            refine Fin.cons (fun v12_18 => ?_)
            refine Fin.nil ?_
            refine J.prE (fun h => ?_); subst h
            refine J.prE (fun h => ?_); subst h
            (first | refine J.pickT rfl rfl rfl ?_ | refine J.pickF rfl rfl rfl ?_)
            refine J.nil (JX.fin rfl (fun w hw => ⟨rfl, (by rw [hw.1]; exact Below.refl _ _)⟩))
        case htail =>
          refine Fin.cons (fun v12_0 => ?_)
          refine Fin.cons (fun v12_1 => ?_)
          refine Fin.cons (fun v12_2 => ?_)
          refine Fin.cons (fun v12_3 => ?_)
          refine Fin.cons (fun v12_4 => ?_)
          refine Fin.cons (fun v12_5 => ?_)
          refine Fin.cons (fun v12_6 => ?_)
          refine Fin.cons (fun v12_7 => ?_)
          refine Fin.cons (fun v12_8 => ?_)
          refine Fin.cons (fun v12_9 => ?_)
          refine Fin.cons (fun v12_10 => ?_)
          refine Fin.cons (fun v12_11 => ?_)
          refine Fin.cons (fun v12_12 => ?_)
          refine Fin.cons (fun v12_13 => ?_)
          refine Fin.cons (fun v12_14 => ?_)
          refine Fin.cons (fun v12_15 => ?_)
          refine Fin.cons (fun v12_16 => ?_)
          refine Fin.cons (fun v12_17 => ?_)
          refine Fin.cons (fun v12_18 => ?_)
          refine Fin.cons (fun v12_19 => ?_)
          refine Fin.nil ?_
          refine J.prE (fun h => ?_); subst h
          refine J.prE (fun h => ?_); subst h
          refine J.prE (fun h => ?_); subst h
          refine J.prE (fun h => ?_); subst h
          refine J.prE (fun h => ?_); subst h
          refine J.prE (fun h => ?_); subst h
          refine J.prE (fun h => ?_); subst h
          refine J.prE (fun h => ?_); subst h
          refine J.prE (fun h => ?_); subst h
          refine J.prE (fun h => ?_); subst h
          refine J.prE (fun h => ?_); subst h
          refine J.prE (fun h => ?_); subst h
          refine J.prE (fun h => ?_); subst h
          refine J.prE (fun h => ?_); subst h
          refine J.prE (fun h => ?_); subst h
          refine J.prE (fun h => ?_); subst h
          refine J.prE (fun h => ?_); subst h
          refine J.prE (fun h => ?_); subst h
          refine J.prE (fun h => ?_); subst h
          refine J.prE (fun h => ?_); subst h
          refine J.assign rfl rfl ?_
          refine J.nil ?_
          refine JX.thenN (hK23 _ _ ?_)
          refine JC.block ?_
          refine JC.seq (fun K24 hK24 => ?_)
          refine JC.region ?_
          refine J.move rfl rfl ?_
          refine J.not rfl rfl ?_
          refine J.assign rfl rfl ?_
          refine J.nil ?_
          refine JX.thenN (hK24 _ _ ?_)
          first | refine JC.condT rfl ?_ | refine JC.cond rfl (fun _ => ?_) (fun h => by first | (exfalso; simp at h; omega) | (simp at h))
          refine JC.seq (fun K25 hK25 => ?_)
          refine JC.region ?_
          refine J.move rfl rfl ?_
          refine J.bin rfl rfl rfl rfl ?_
          refine J.move rfl rfl ?_
          first
            | (refine J.skip rfl rfl rfl rfl rfl ?_)
            | (refine J.skipU rfl rfl rfl rfl ?_)
            | (refine J.unguard rfl rfl rfl ?_; refine J.move rfl rfl ?_)
          first
            | (refine J.skip rfl rfl rfl rfl rfl ?_)
            | (refine J.skipU rfl rfl rfl rfl ?_)
            | (refine J.unguard rfl rfl rfl ?_; refine J.bin rfl rfl rfl rfl ?_)
          (first | refine J.pickT rfl rfl rfl ?_ | refine J.pickF rfl rfl rfl ?_)
          refine J.nil ?_
          refine JX.thenN (hK25 _ _ ?_)
          first | refine JC.condF rfl ?_ | refine JC.cond rfl (fun h => by first | (exfalso; simp at h; omega) | (simp at h)) (fun _ => ?_)
          refine JC.skip ?_
          refine JX.blockN ?_
          refine JX.blockN ?_
          refine JX.thenN (hK11 _ _ ?_)
          refine JC.region ?_
          (first | refine J.addN rfl rfl (by omega) (by omega) rfl ?_ | refine J.bin rfl rfl rfl rfl ?_)
          refine J.move rfl rfl ?_
          refine J.nil ?_
          refine JX.thenN ?_
          refine JX.again (i + 1, B, p, k, lp) ?_ ?_ ?_
          · simp only; omega
          · exact ⟨rfl, rfl, rfl, rfl, rfl, rfl, trivial⟩
          · exact fun w1 hw => ⟨⟨hlt, by simp only; omega, hB, hk0, by simp only; omega, by simp only; exact hp, hv⟩, St.drop hw (.cons_cons _ (.cons_cons _ (.cons_cons _ (List.sublist_cons_self _ _))))⟩
      · skip
        by_cases hp0 : p = 0
        · skip
          subst hp0
          have hq0 : q0 = k := by omega
          have hl0 : IntKind.i64.wrap (q0 - k) = 0 := by rw [hq0, Int.sub_self]; rfl
          refine J.move rfl rfl ?_
          refine J.fieldAddr Ty.fd30_1 rfl rfl ?_
          (first | refine J.loadO Ty.a3 rfl (.head _) rfl rfl ?_ | refine J.loadO Ty.a3 rfl (.tail _ (.head _)) rfl rfl ?_ | refine J.loadO Ty.a3 rfl (.tail _ (.tail _ (.head _))) rfl rfl ?_ | refine J.loadO Ty.a3 rfl (.tail _ (.tail _ (.tail _ (.head _)))) rfl rfl ?_ | refine J.loadO Ty.a3 rfl (.tail _ (.tail _ (.tail _ (.tail _ (.head _))))) rfl rfl ?_ | refine J.loadO Ty.a3 rfl (List.mem_append_right _ (.head _)) rfl rfl ?_ | refine J.loadO Ty.a3 rfl (List.mem_append_right _ (.tail _ (.head _))) rfl rfl ?_ | refine J.loadO Ty.a3 rfl (List.mem_append_right _ (.tail _ (.tail _ (.head _)))) rfl rfl ?_ | refine J.loadO Ty.a3 rfl (List.mem_append_right _ (.tail _ (.tail _ (.tail _ (.head _))))) rfl rfl ?_ | refine J.loadO Ty.a3 rfl (List.mem_append_right _ (.tail _ (.tail _ (.tail _ (.tail _ (.head _)))))) rfl rfl ?_)
          refine J.fieldAddr Ty.fd30_2 rfl rfl ?_
          (first | refine J.loadO Ty.a28 rfl (.head _) rfl rfl ?_ | refine J.loadO Ty.a28 rfl (.tail _ (.head _)) rfl rfl ?_ | refine J.loadO Ty.a28 rfl (.tail _ (.tail _ (.head _))) rfl rfl ?_ | refine J.loadO Ty.a28 rfl (.tail _ (.tail _ (.tail _ (.head _)))) rfl rfl ?_ | refine J.loadO Ty.a28 rfl (.tail _ (.tail _ (.tail _ (.tail _ (.head _))))) rfl rfl ?_ | refine J.loadO Ty.a28 rfl (List.mem_append_right _ (.head _)) rfl rfl ?_ | refine J.loadO Ty.a28 rfl (List.mem_append_right _ (.tail _ (.head _))) rfl rfl ?_ | refine J.loadO Ty.a28 rfl (List.mem_append_right _ (.tail _ (.tail _ (.head _)))) rfl rfl ?_ | refine J.loadO Ty.a28 rfl (List.mem_append_right _ (.tail _ (.tail _ (.tail _ (.head _))))) rfl rfl ?_ | refine J.loadO Ty.a28 rfl (List.mem_append_right _ (.tail _ (.tail _ (.tail _ (.tail _ (.head _)))))) rfl rfl ?_)
          refine J.callB (fun w1 w2 hw hb => hw.step hb) Ty.bd17 rfl rfl (fun w' hw => write_down d s N k w' hw.owns' z.i z.b.a z.b.xs.length z.b.c hm1 hm2 hm3) ?_
          refine J.assign rfl rfl ?_
          refine J.nil ?_
          refine JX.thenN (hK16 _ _ ?_)
          refine JC.seq (fun K26 hK26 => ?_)
          apply JC.drawL 20 [Eqv _, Eqv _, Eqv _, Eqv _, Eqv _, Eqv _, Eqv _, Eqv _, Eqv _, Eqv _, Eqv _, Eqv _, Eqv _, Eqv _, Eqv _, Eqv _, Eqv _, Eqv _, Eqv _, Eqv _] Ty.mixed rfl rfl rfl (by kernel_rfl) rfl rfl (fun w w' hw hb => hw.step hb) ⟨fun _ _ _ h _ => h, fun _ _ _ h _ => h, fun _ _ _ h _ => h, fun _ _ _ h _ => h, fun _ _ _ h _ => h, fun _ _ _ h _ => h, fun _ _ _ h _ => h, fun _ _ _ h _ => h, fun _ _ _ h _ => h, fun _ _ _ h _ => h, fun _ _ _ h _ => h, fun _ _ _ h _ => h, fun _ _ _ h _ => h, fun _ _ _ h _ => h, fun _ _ _ h _ => h, fun _ _ _ h _ => h, fun _ _ _ h _ => h, fun _ _ _ h _ => h, fun _ _ _ h _ => h, fun _ _ _ h _ => h, trivial⟩ ?hstep ?htail
          case hstep =>
            refine ⟨fun wi => ?_, fun wi => ?_, fun wi => ?_, fun wi => ?_, fun wi => ?_, fun wi => ?_, fun wi => ?_, fun wi => ?_, fun wi => ?_, fun wi => ?_, fun wi => ?_, fun wi => ?_, fun wi => ?_, fun wi => ?_, fun wi => ?_, fun wi => ?_, fun wi => ?_, fun wi => ?_, fun wi => ?_, fun wi => ?_, trivial⟩
            · skip
              refine Fin.nil ?_
              refine J.fieldAddr Ty.fd30_1 rfl rfl ?_
              refine J.nil (JX.fin rfl (fun w hw => ⟨rfl, (by rw [hw.1]; exact Below.refl _ _)⟩))
            · skip
              refine Fin.cons (fun v12_0 => ?_)
              refine Fin.nil ?_
              refine J.prE (fun h => ?_); subst h
              (first | refine J.load1 Ty.a3 rfl (fun w hw => (cell_of (hw.2.own _ (.head _))).trans rfl) rfl ?_ | refine J.load1 Ty.a3 rfl (fun w hw => (cell_of (hw.2.own _ (.tail _ (.head _)))).trans rfl) rfl ?_ | refine J.load1 Ty.a3 rfl (fun w hw => (cell_of (hw.2.own _ (.tail _ (.tail _ (.head _))))).trans rfl) rfl ?_ | refine J.load1 Ty.a3 rfl (fun w hw => (cell_of (hw.2.own _ (.tail _ (.tail _ (.tail _ (.head _)))))).trans rfl) rfl ?_ | refine J.load1 Ty.a3 rfl (fun w hw => (cell_of (hw.2.own _ (.tail _ (.tail _ (.tail _ (.tail _ (.head _))))))).trans rfl) rfl ?_ | refine J.load1 Ty.a3 rfl (fun w hw => (cell_of (hw.2.own _ (List.mem_append_right _ (.head _)))).trans rfl) rfl ?_ | refine J.load1 Ty.a3 rfl (fun w hw => (cell_of (hw.2.own _ (List.mem_append_right _ (.tail _ (.head _))))).trans rfl) rfl ?_ | refine J.load1 Ty.a3 rfl (fun w hw => (cell_of (hw.2.own _ (List.mem_append_right _ (.tail _ (.tail _ (.head _)))))).trans rfl) rfl ?_ | refine J.load1 Ty.a3 rfl (fun w hw => (cell_of (hw.2.own _ (List.mem_append_right _ (.tail _ (.tail _ (.tail _ (.head _))))))).trans rfl) rfl ?_ | refine J.load1 Ty.a3 rfl (fun w hw => (cell_of (hw.2.own _ (List.mem_append_right _ (.tail _ (.tail _ (.tail _ (.tail _ (.head _)))))))).trans rfl) rfl ?_)
              refine J.nil (JX.fin rfl (fun w hw => ⟨rfl, (by rw [hw.1]; exact Below.refl _ _)⟩))
            · skip
              refine Fin.cons (fun v12_1 => ?_)
              refine Fin.nil ?_
              refine J.prE (fun h => ?_); subst h
              refine J.bin rfl rfl rfl rfl ?_
              refine J.name 45 rfl (show Value.bool _ = .bool true by simp <;> omega) ?_
              refine J.nil (JX.fin rfl (fun w hw => ⟨rfl, (by rw [hw.1]; exact Below.refl _ _)⟩))
            · skip
              refine Fin.cons (fun v12_2 => ?_)
              refine Fin.nil ?_
              refine J.prE (fun h => ?_); subst h
              refine J.move rfl rfl ?_
              refine J.nil (JX.fin rfl (fun w hw => ⟨rfl, (by rw [hw.1]; exact Below.refl _ _)⟩))
            · skip
              refine Fin.cons (fun v12_3 => ?_)
              refine Fin.nil ?_
              refine J.prE (fun h => ?_); subst h
              first
                | (refine J.skip rfl rfl rfl rfl rfl ?_)
                | (refine J.skipU rfl rfl rfl rfl ?_)
                | (refine J.unguard rfl rfl rfl ?_; refine J.fieldAddr Ty.fd30_1 rfl rfl ?_)
              refine J.nil (JX.fin rfl (fun w hw => ⟨rfl, (by rw [hw.1]; exact Below.refl _ _)⟩))
            · skip
              refine Fin.cons (fun v12_4 => ?_)
              refine Fin.cons (fun v12_3 => ?_)
              refine Fin.nil ?_
              refine J.prE (fun h => ?_); subst h
              refine J.prE (fun h => ?_); subst h
              first
                | (refine J.skip rfl rfl rfl rfl rfl ?_)
                | (refine J.skipU rfl rfl rfl rfl ?_)
                | (refine J.unguard rfl rfl rfl ?_; (first | refine J.load1 Ty.a3 rfl (fun w hw => (cell_of (hw.2.own _ (.head _))).trans rfl) rfl ?_ | refine J.load1 Ty.a3 rfl (fun w hw => (cell_of (hw.2.own _ (.tail _ (.head _)))).trans rfl) rfl ?_ | refine J.load1 Ty.a3 rfl (fun w hw => (cell_of (hw.2.own _ (.tail _ (.tail _ (.head _))))).trans rfl) rfl ?_ | refine J.load1 Ty.a3 rfl (fun w hw => (cell_of (hw.2.own _ (.tail _ (.tail _ (.tail _ (.head _)))))).trans rfl) rfl ?_ | refine J.load1 Ty.a3 rfl (fun w hw => (cell_of (hw.2.own _ (.tail _ (.tail _ (.tail _ (.tail _ (.head _))))))).trans rfl) rfl ?_ | refine J.load1 Ty.a3 rfl (fun w hw => (cell_of (hw.2.own _ (List.mem_append_right _ (.head _)))).trans rfl) rfl ?_ | refine J.load1 Ty.a3 rfl (fun w hw => (cell_of (hw.2.own _ (List.mem_append_right _ (.tail _ (.head _))))).trans rfl) rfl ?_ | refine J.load1 Ty.a3 rfl (fun w hw => (cell_of (hw.2.own _ (List.mem_append_right _ (.tail _ (.tail _ (.head _)))))).trans rfl) rfl ?_ | refine J.load1 Ty.a3 rfl (fun w hw => (cell_of (hw.2.own _ (List.mem_append_right _ (.tail _ (.tail _ (.tail _ (.head _))))))).trans rfl) rfl ?_ | refine J.load1 Ty.a3 rfl (fun w hw => (cell_of (hw.2.own _ (List.mem_append_right _ (.tail _ (.tail _ (.tail _ (.tail _ (.head _)))))))).trans rfl) rfl ?_))
              refine J.nil (JX.fin rfl (fun w hw => ⟨rfl, (by rw [hw.1]; exact Below.refl _ _)⟩))
            · skip
              refine Fin.cons (fun v12_3 => ?_)
              refine Fin.nil ?_
              refine J.prE (fun h => ?_); subst h
              first
                | (refine J.skip rfl rfl rfl rfl rfl ?_)
                | (refine J.skipU rfl rfl rfl rfl ?_)
                | (refine J.unguard rfl rfl rfl ?_; refine J.move rfl rfl ?_)
              refine J.nil (JX.fin rfl (fun w hw => ⟨rfl, (by rw [hw.1]; exact Below.refl _ _)⟩))
            · skip
              refine Fin.cons (fun v12_6 => ?_)
              refine Fin.cons (fun v12_3 => ?_)
              refine Fin.nil ?_
              refine J.prE (fun h => ?_); subst h
              refine J.prE (fun h => ?_); subst h
              first
                | (refine J.skip rfl rfl rfl rfl rfl ?_)
                | (refine J.skipU rfl rfl rfl rfl ?_)
                | (refine J.unguard rfl rfl rfl ?_; refine J.nilCheck rfl rfl ?_)
              refine J.nil (JX.fin rfl (fun w hw => ⟨rfl, (by rw [hw.1]; exact Below.refl _ _)⟩))
            · skip
              refine Fin.cons (fun v12_7 => ?_)
              refine Fin.cons (fun v12_3 => ?_)
              refine Fin.nil ?_
              refine J.prE (fun h => ?_); subst h
              refine J.prE (fun h => ?_); subst h
              first
                | (refine J.skip rfl rfl rfl rfl rfl ?_)
                | (refine J.skipU rfl rfl rfl rfl ?_)
                | (refine J.unguard rfl rfl rfl ?_; refine J.fieldAddr Ty.fd35_0 rfl rfl ?_)
              refine J.nil (JX.fin rfl (fun w hw => ⟨rfl, (by rw [hw.1]; exact Below.refl _ _)⟩))
            · skip
              refine Fin.cons (fun v12_8 => ?_)
              refine Fin.cons (fun v12_3 => ?_)
              refine Fin.nil ?_
              refine J.prE (fun h => ?_); subst h
              refine J.prE (fun h => ?_); subst h
              first
                | (refine J.skip rfl rfl rfl rfl rfl ?_)
                | (refine J.skipU rfl rfl rfl rfl ?_)
                | (refine J.unguard rfl rfl rfl ?_; (first | refine J.load1 Ty.a28 rfl (fun w hw => (cell_of (hw.2.own _ (.head _))).trans rfl) rfl ?_ | refine J.load1 Ty.a28 rfl (fun w hw => (cell_of (hw.2.own _ (.tail _ (.head _)))).trans rfl) rfl ?_ | refine J.load1 Ty.a28 rfl (fun w hw => (cell_of (hw.2.own _ (.tail _ (.tail _ (.head _))))).trans rfl) rfl ?_ | refine J.load1 Ty.a28 rfl (fun w hw => (cell_of (hw.2.own _ (.tail _ (.tail _ (.tail _ (.head _)))))).trans rfl) rfl ?_ | refine J.load1 Ty.a28 rfl (fun w hw => (cell_of (hw.2.own _ (.tail _ (.tail _ (.tail _ (.tail _ (.head _))))))).trans rfl) rfl ?_ | refine J.load1 Ty.a28 rfl (fun w hw => (cell_of (hw.2.own _ (List.mem_append_right _ (.head _)))).trans rfl) rfl ?_ | refine J.load1 Ty.a28 rfl (fun w hw => (cell_of (hw.2.own _ (List.mem_append_right _ (.tail _ (.head _))))).trans rfl) rfl ?_ | refine J.load1 Ty.a28 rfl (fun w hw => (cell_of (hw.2.own _ (List.mem_append_right _ (.tail _ (.tail _ (.head _)))))).trans rfl) rfl ?_ | refine J.load1 Ty.a28 rfl (fun w hw => (cell_of (hw.2.own _ (List.mem_append_right _ (.tail _ (.tail _ (.tail _ (.head _))))))).trans rfl) rfl ?_ | refine J.load1 Ty.a28 rfl (fun w hw => (cell_of (hw.2.own _ (List.mem_append_right _ (.tail _ (.tail _ (.tail _ (.tail _ (.head _)))))))).trans rfl) rfl ?_))
              refine J.nil (JX.fin rfl (fun w hw => ⟨rfl, (by rw [hw.1]; exact Below.refl _ _)⟩))
            · skip
              refine Fin.cons (fun v12_9 => ?_)
              refine Fin.cons (fun v12_3 => ?_)
              refine Fin.nil ?_
              refine J.prE (fun h => ?_); subst h
              refine J.prE (fun h => ?_); subst h
              first
                | (refine J.skip rfl rfl rfl rfl rfl ?_)
                | (refine J.skipU rfl rfl rfl rfl ?_)
                | (refine J.unguard rfl rfl rfl ?_; refine J.lenS rfl Ty.u28 rfl rfl ?_)
              refine J.nil (JX.fin rfl (fun w hw => ⟨rfl, (by rw [hw.1]; exact Below.refl _ _)⟩))
            · skip
              refine Fin.cons (fun v12_10 => ?_)
              refine Fin.cons (fun v12_3 => ?_)
              refine Fin.nil ?_
              refine J.prE (fun h => ?_); subst h
              refine J.prE (fun h => ?_); subst h
              refine J.unguard rfl rfl rfl ?_
              refine J.quoN rfl rfl (by omega) (by omega) (by omega) rfl ?_
              refine J.name 54 rfl (congrArg (Value.int .i64) (show ((64 * N : Nat) : Int) / 64 = (N : Int) by omega)) ?_
              refine J.nil (JX.fin rfl (fun w hw => ⟨rfl, (by rw [hw.1]; exact Below.refl _ _)⟩))
            · skip
              refine Fin.cons (fun v12_5 => ?_)
              refine Fin.cons (fun v12_11 => ?_)
              refine Fin.cons (fun v12_3 => ?_)
              refine Fin.nil ?_
              refine J.prE (fun h => ?_); subst h
              refine J.prE (fun h => ?_); subst h
              refine J.prE (fun h => ?_); subst h
              refine J.unguard rfl rfl rfl ?_
              refine J.bin rfl rfl rfl rfl ?_
              refine J.name 55 rfl (show Value.bool _ = .bool true by simp <;> omega) ?_
              refine J.nil (JX.fin rfl (fun w hw => ⟨rfl, (by rw [hw.1]; exact Below.refl _ _)⟩))
            · skip
              refine Fin.cons (fun v12_3 => ?_)
              refine Fin.cons (fun v12_12 => ?_)
              refine Fin.nil ?_
              refine J.prE (fun h => ?_); subst h
              refine J.prE (fun h => ?_); subst h
              (first | refine J.pickT rfl rfl rfl ?_ | refine J.pickF rfl rfl rfl ?_)
              refine J.nil (JX.fin rfl (fun w hw => ⟨rfl, (by rw [hw.1]; exact Below.refl _ _)⟩))
            · skip
              refine Fin.cons (fun v12_13 => ?_)
              refine Fin.cons (fun v12_3 => ?_)
              refine Fin.nil ?_
              refine J.prE (fun h => ?_); subst h
              refine J.prE (fun h => ?_); subst h
              refine J.move rfl rfl ?_
              refine J.nil (JX.fin rfl (fun w hw => ⟨rfl, (by rw [hw.1]; exact Below.refl _ _)⟩))
            · skip
              refine Fin.cons (fun v12_14 => ?_)
              refine Fin.nil ?_
              refine J.prE (fun h => ?_); subst h
              first
                | (refine J.skip rfl rfl rfl rfl rfl ?_)
                | (refine J.skipU rfl rfl rfl rfl ?_)
                | (refine J.unguard rfl rfl rfl ?_; refine J.fieldAddr Ty.fd30_2 rfl rfl ?_)
              refine J.nil (JX.fin rfl (fun w hw => ⟨rfl, (by rw [hw.1]; exact Below.refl _ _)⟩))
            · skip
              refine Fin.cons (fun v12_15 => ?_)
              refine Fin.cons (fun v12_14 => ?_)
              refine Fin.nil ?_
              refine J.prE (fun h => ?_); subst h
              refine J.prE (fun h => ?_); subst h
              first
                | (refine J.skip rfl rfl rfl rfl rfl ?_)
                | (refine J.skipU rfl rfl rfl rfl ?_)
                | (refine J.unguard rfl rfl rfl ?_; (first | refine J.load1 Ty.a28 rfl (fun w hw => (cell_of (hw.2.own _ (.head _))).trans rfl) rfl ?_ | refine J.load1 Ty.a28 rfl (fun w hw => (cell_of (hw.2.own _ (.tail _ (.head _)))).trans rfl) rfl ?_ | refine J.load1 Ty.a28 rfl (fun w hw => (cell_of (hw.2.own _ (.tail _ (.tail _ (.head _))))).trans rfl) rfl ?_ | refine J.load1 Ty.a28 rfl (fun w hw => (cell_of (hw.2.own _ (.tail _ (.tail _ (.tail _ (.head _)))))).trans rfl) rfl ?_ | refine J.load1 Ty.a28 rfl (fun w hw => (cell_of (hw.2.own _ (.tail _ (.tail _ (.tail _ (.tail _ (.head _))))))).trans rfl) rfl ?_ | refine J.load1 Ty.a28 rfl (fun w hw => (cell_of (hw.2.own _ (List.mem_append_right _ (.head _)))).trans rfl) rfl ?_ | refine J.load1 Ty.a28 rfl (fun w hw => (cell_of (hw.2.own _ (List.mem_append_right _ (.tail _ (.head _))))).trans rfl) rfl ?_ | refine J.load1 Ty.a28 rfl (fun w hw => (cell_of (hw.2.own _ (List.mem_append_right _ (.tail _ (.tail _ (.head _)))))).trans rfl) rfl ?_ | refine J.load1 Ty.a28 rfl (fun w hw => (cell_of (hw.2.own _ (List.mem_append_right _ (.tail _ (.tail _ (.tail _ (.head _))))))).trans rfl) rfl ?_ | refine J.load1 Ty.a28 rfl (fun w hw => (cell_of (hw.2.own _ (List.mem_append_right _ (.tail _ (.tail _ (.tail _ (.tail _ (.head _)))))))).trans rfl) rfl ?_))
              refine J.nil (JX.fin rfl (fun w hw => ⟨rfl, (by rw [hw.1]; exact Below.refl _ _)⟩))
            · skip
              refine Fin.cons (fun v12_16 => ?_)
              refine Fin.cons (fun v12_14 => ?_)
              refine Fin.nil ?_
              refine J.prE (fun h => ?_); subst h
              refine J.prE (fun h => ?_); subst h
              first
                | (refine J.skip rfl rfl rfl rfl rfl ?_)
                | (refine J.skipU rfl rfl rfl rfl ?_)
                | (refine J.unguard rfl rfl rfl ?_; refine J.lenS rfl Ty.u28 rfl rfl ?_)
              refine J.nil (JX.fin rfl (fun w hw => ⟨rfl, (by rw [hw.1]; exact Below.refl _ _)⟩))
            · skip
              refine Fin.cons (fun v12_17 => ?_)
              refine Fin.cons (fun v12_14 => ?_)
              refine Fin.nil ?_
              refine J.prE (fun h => ?_); subst h
              refine J.prE (fun h => ?_); subst h
              refine J.unguard rfl rfl rfl ?_
              refine J.bin rfl rfl rfl rfl ?_
              refine J.name 61 rfl (show Value.bool _ = .bool true by simp <;> omega) ?_
              refine J.nil (JX.fin rfl (fun w hw => ⟨rfl, (by rw [hw.1]; exact Below.refl _ _)⟩))
            · skip
              refine Fin.cons (fun v12_14 => ?_)
              refine Fin.cons (fun v12_18 => ?_)
              refine Fin.nil ?_
              refine J.prE (fun h => ?_); subst h
              refine J.prE (fun h => ?_); subst h
              (first | refine J.pickT rfl rfl rfl ?_ | refine J.pickF rfl rfl rfl ?_)
              refine J.nil (JX.fin rfl (fun w hw => ⟨rfl, (by rw [hw.1]; exact Below.refl _ _)⟩))
          case htail =>
            refine Fin.cons (fun v12_0 => ?_)
            refine Fin.cons (fun v12_1 => ?_)
            refine Fin.cons (fun v12_2 => ?_)
            refine Fin.cons (fun v12_3 => ?_)
            refine Fin.cons (fun v12_4 => ?_)
            refine Fin.cons (fun v12_5 => ?_)
            refine Fin.cons (fun v12_6 => ?_)
            refine Fin.cons (fun v12_7 => ?_)
            refine Fin.cons (fun v12_8 => ?_)
            refine Fin.cons (fun v12_9 => ?_)
            refine Fin.cons (fun v12_10 => ?_)
            refine Fin.cons (fun v12_11 => ?_)
            refine Fin.cons (fun v12_12 => ?_)
            refine Fin.cons (fun v12_13 => ?_)
            refine Fin.cons (fun v12_14 => ?_)
            refine Fin.cons (fun v12_15 => ?_)
            refine Fin.cons (fun v12_16 => ?_)
            refine Fin.cons (fun v12_17 => ?_)
            refine Fin.cons (fun v12_18 => ?_)
            refine Fin.cons (fun v12_19 => ?_)
            refine Fin.nil ?_
            refine J.prE (fun h => ?_); subst h
            refine J.prE (fun h => ?_); subst h
            refine J.prE (fun h => ?_); subst h
            refine J.prE (fun h => ?_); subst h
            refine J.prE (fun h => ?_); subst h
            refine J.prE (fun h => ?_); subst h
            refine J.prE (fun h => ?_); subst h
            refine J.prE (fun h => ?_); subst h
            refine J.prE (fun h => ?_); subst h
            refine J.prE (fun h => ?_); subst h
            refine J.prE (fun h => ?_); subst h
            refine J.prE (fun h => ?_); subst h
            refine J.prE (fun h => ?_); subst h
            refine J.prE (fun h => ?_); subst h
            refine J.prE (fun h => ?_); subst h
            refine J.prE (fun h => ?_); subst h
            refine J.prE (fun h => ?_); subst h
            refine J.prE (fun h => ?_); subst h
            refine J.prE (fun h => ?_); subst h
            refine J.prE (fun h => ?_); subst h
            refine J.assign rfl rfl ?_
            refine J.nil ?_
            refine JX.thenN (hK26 _ _ ?_)
            refine JC.block ?_
            refine JC.seq (fun K27 hK27 => ?_)
            refine JC.region ?_
            refine J.move rfl rfl ?_
            refine J.not rfl rfl ?_
            refine J.assign rfl rfl ?_
            refine J.nil ?_
            refine JX.thenN (hK27 _ _ ?_)
            first | refine JC.condF rfl ?_ | refine JC.cond rfl (fun h => by first | (exfalso; simp at h; omega) | (simp at h)) (fun _ => ?_)
            refine JC.seq (fun K28 hK28 => ?_)
            refine JC.region ?_
            refine J.move rfl rfl ?_
            refine J.bin rfl rfl rfl rfl ?_
            refine J.name 87 rfl (congrArg Value.bool (show _ = true by simpa using hl0)) ?_
            refine J.assign rfl rfl ?_
            refine J.nil ?_
            refine JX.thenN (hK28 _ _ ?_)
            first | refine JC.condT rfl ?_ | refine JC.cond rfl (fun _ => ?_) (fun h => by first | (exfalso; simp at h; omega) | (simp at h))
            refine JC.seq (fun K29 hK29 => ?_)
            refine JC.region ?_
            refine J.move rfl rfl ?_
            refine J.bin rfl rfl rfl rfl ?_
            refine J.nil ?_
            refine JX.thenN (hK29 _ _ ?_)
            first | refine JC.condF rfl ?_ | refine JC.cond rfl (fun h => by first | (exfalso; simp at h; omega) | (simp at h)) (fun _ => ?_)
            refine JC.skip ?_
            refine JX.blockN ?_
            refine JX.blockN ?_
            refine JX.thenN (hK11 _ _ ?_)
            refine JC.region ?_
            (first | refine J.addN rfl rfl (by omega) (by omega) rfl ?_ | refine J.bin rfl rfl rfl rfl ?_)
            refine J.move rfl rfl ?_
            refine J.nil ?_
            refine JX.thenN ?_
            refine JX.again (i + 1, B, 0, k, lp) ?_ ?_ ?_
            · simp only; omega
            · exact ⟨rfl, rfl, rfl, rfl, rfl, rfl, trivial⟩
            · exact fun w1 hw => ⟨⟨hlt, by simp only; omega, hB, hk0, by simp only; omega, by simp only; exact hp, hv⟩, St.drop hw (.cons_cons _ (.cons_cons _ (.cons_cons _ (List.sublist_cons_self _ _))))⟩
        · skip
          have hl0 : IntKind.i64.wrap (q0 - k) ≠ 0 := by
            rcases hp with ⟨h1, _⟩ | ⟨h1, h2⟩
            · exact wrap_ne (by omega) hk0 (by omega) h1
            · rw [wrap_i64 (by omega) (by omega)]; omega
          refine J.move rfl rfl ?_
          refine J.fieldAddr Ty.fd30_1 rfl rfl ?_
          (first | refine J.loadO Ty.a3 rfl (.head _) rfl rfl ?_ | refine J.loadO Ty.a3 rfl (.tail _ (.head _)) rfl rfl ?_ | refine J.loadO Ty.a3 rfl (.tail _ (.tail _ (.head _))) rfl rfl ?_ | refine J.loadO Ty.a3 rfl (.tail _ (.tail _ (.tail _ (.head _)))) rfl rfl ?_ | refine J.loadO Ty.a3 rfl (.tail _ (.tail _ (.tail _ (.tail _ (.head _))))) rfl rfl ?_ | refine J.loadO Ty.a3 rfl (List.mem_append_right _ (.head _)) rfl rfl ?_ | refine J.loadO Ty.a3 rfl (List.mem_append_right _ (.tail _ (.head _))) rfl rfl ?_ | refine J.loadO Ty.a3 rfl (List.mem_append_right _ (.tail _ (.tail _ (.head _)))) rfl rfl ?_ | refine J.loadO Ty.a3 rfl (List.mem_append_right _ (.tail _ (.tail _ (.tail _ (.head _))))) rfl rfl ?_ | refine J.loadO Ty.a3 rfl (List.mem_append_right _ (.tail _ (.tail _ (.tail _ (.tail _ (.head _)))))) rfl rfl ?_)
          refine J.fieldAddr Ty.fd30_2 rfl rfl ?_
          (first | refine J.loadO Ty.a28 rfl (.head _) rfl rfl ?_ | refine J.loadO Ty.a28 rfl (.tail _ (.head _)) rfl rfl ?_ | refine J.loadO Ty.a28 rfl (.tail _ (.tail _ (.head _))) rfl rfl ?_ | refine J.loadO Ty.a28 rfl (.tail _ (.tail _ (.tail _ (.head _)))) rfl rfl ?_ | refine J.loadO Ty.a28 rfl (.tail _ (.tail _ (.tail _ (.tail _ (.head _))))) rfl rfl ?_ | refine J.loadO Ty.a28 rfl (List.mem_append_right _ (.head _)) rfl rfl ?_ | refine J.loadO Ty.a28 rfl (List.mem_append_right _ (.tail _ (.head _))) rfl rfl ?_ | refine J.loadO Ty.a28 rfl (List.mem_append_right _ (.tail _ (.tail _ (.head _)))) rfl rfl ?_ | refine J.loadO Ty.a28 rfl (List.mem_append_right _ (.tail _ (.tail _ (.tail _ (.head _))))) rfl rfl ?_ | refine J.loadO Ty.a28 rfl (List.mem_append_right _ (.tail _ (.tail _ (.tail _ (.tail _ (.head _)))))) rfl rfl ?_)
          refine J.perm ([(d, dkO s N (p) (k)), (s, dkS (B))] ++ ([(b11, cb [.int .i64 z.kind, .int .i64 z.i, z.b.v] 30)] ++ (r, rfO (.slice (some ⟨q, 0, none⟩) (64 * N) (64 * N)) (-1) (k)) :: lp)) (by (refine perm_cnt (fun _ => ?_)); simp only [cntB_append, cntB_cons, cntB_nil, Nat.add_zero, Nat.zero_add]; try ac_rfl) ?_
          refine J.callT (l1 := [(d, dkO s N (p) (k)), (s, dkS (B))]) (L := [(d, dkO s N (wP N p z.i z.b.xs.length) (wK N p z.i z.b.xs.length k)), (s, dkS (wB N p z.i B z.b.xs))]) Ty.bd17 rfl rfl (fun w' hw => write_all d s N B z.b.xs p k z.i z.b.a z.b.xs.length z.b.c w' hw.owns hB hk0 (by omega) rfl (hzr.st (.inr (by simp)) hw) (hzr.offNew hw (fun p hp => List.mem_append_left _ hp)) (by omega)) ?_
          have he := w_ok hm1 hm2 hm3 hp0
          refine J.name 42 rfl (congrArg (Value.int .i64) he) ?_
          refine J.perm ((d, dkO s N (wP N p z.i z.b.xs.length) (k + 1)) :: (s, dkS (put B z.i.toNat z.b.xs)) :: (r, rfO (.slice (some ⟨q, 0, none⟩) (64 * N) (64 * N)) (-1) (k)) :: (b11, cb [.int .i64 z.kind, .int .i64 z.i, z.b.v] 30) :: lp) (by simp only [wK, wB, he, if_true]; exact (by (refine perm_cnt (fun _ => ?_)); simp only [cntB_append, cntB_cons, cntB_nil, Nat.add_zero, Nat.zero_add]; try ac_rfl)) ?_
          refine J.assign rfl rfl ?_
          refine J.nil ?_
          refine JX.thenN (hK16 _ _ ?_)
          refine JC.seq (fun K30 hK30 => ?_)
          apply JC.drawL 20 [Eqv _, Eqv _, Eqv _, Eqv _, Eqv _, Eqv _, Eqv _, Eqv _, Eqv _, Eqv _, Eqv _, Eqv _, Eqv _, Eqv _, Eqv _, Eqv _, Eqv _, Eqv _, Eqv _, Eqv _] Ty.mixed rfl rfl rfl (by kernel_rfl) rfl rfl (fun w w' hw hb => hw.step hb) ⟨fun _ _ _ h _ => h, fun _ _ _ h _ => h, fun _ _ _ h _ => h, fun _ _ _ h _ => h, fun _ _ _ h _ => h, fun _ _ _ h _ => h, fun _ _ _ h _ => h, fun _ _ _ h _ => h, fun _ _ _ h _ => h, fun _ _ _ h _ => h, fun _ _ _ h _ => h, fun _ _ _ h _ => h, fun _ _ _ h _ => h, fun _ _ _ h _ => h, fun _ _ _ h _ => h, fun _ _ _ h _ => h, fun _ _ _ h _ => h, fun _ _ _ h _ => h, fun _ _ _ h _ => h, fun _ _ _ h _ => h, trivial⟩ ?hstep ?htail
          case hstep =>
            refine ⟨fun wi => ?_, fun wi => ?_, fun wi => ?_, fun wi => ?_, fun wi => ?_, fun wi => ?_, fun wi => ?_, fun wi => ?_, fun wi => ?_, fun wi => ?_, fun wi => ?_, fun wi => ?_, fun wi => ?_, fun wi => ?_, fun wi => ?_, fun wi => ?_, fun wi => ?_, fun wi => ?_, fun wi => ?_, fun wi => ?_, trivial⟩
            · skip
              refine Fin.nil ?_
              refine J.fieldAddr Ty.fd30_1 rfl rfl ?_
              refine J.nil (JX.fin rfl (fun w hw => ⟨rfl, (by rw [hw.1]; exact Below.refl _ _)⟩))
            · skip
              refine Fin.cons (fun v12_0 => ?_)
              refine Fin.nil ?_
              refine J.prE (fun h => ?_); subst h
              (first | refine J.load1 Ty.a3 rfl (fun w hw => (cell_of (hw.2.own _ (.head _))).trans rfl) rfl ?_ | refine J.load1 Ty.a3 rfl (fun w hw => (cell_of (hw.2.own _ (.tail _ (.head _)))).trans rfl) rfl ?_ | refine J.load1 Ty.a3 rfl (fun w hw => (cell_of (hw.2.own _ (.tail _ (.tail _ (.head _))))).trans rfl) rfl ?_ | refine J.load1 Ty.a3 rfl (fun w hw => (cell_of (hw.2.own _ (.tail _ (.tail _ (.tail _ (.head _)))))).trans rfl) rfl ?_ | refine J.load1 Ty.a3 rfl (fun w hw => (cell_of (hw.2.own _ (.tail _ (.tail _ (.tail _ (.tail _ (.head _))))))).trans rfl) rfl ?_ | refine J.load1 Ty.a3 rfl (fun w hw => (cell_of (hw.2.own _ (List.mem_append_right _ (.head _)))).trans rfl) rfl ?_ | refine J.load1 Ty.a3 rfl (fun w hw => (cell_of (hw.2.own _ (List.mem_append_right _ (.tail _ (.head _))))).trans rfl) rfl ?_ | refine J.load1 Ty.a3 rfl (fun w hw => (cell_of (hw.2.own _ (List.mem_append_right _ (.tail _ (.tail _ (.head _)))))).trans rfl) rfl ?_ | refine J.load1 Ty.a3 rfl (fun w hw => (cell_of (hw.2.own _ (List.mem_append_right _ (.tail _ (.tail _ (.tail _ (.head _))))))).trans rfl) rfl ?_ | refine J.load1 Ty.a3 rfl (fun w hw => (cell_of (hw.2.own _ (List.mem_append_right _ (.tail _ (.tail _ (.tail _ (.tail _ (.head _)))))))).trans rfl) rfl ?_)
              refine J.nil (JX.fin rfl (fun w hw => ⟨rfl, (by rw [hw.1]; exact Below.refl _ _)⟩))
            · skip
              refine Fin.cons (fun v12_1 => ?_)
              refine Fin.nil ?_
              refine J.prE (fun h => ?_); subst h
              refine J.bin rfl rfl rfl rfl ?_
              refine J.name 45 rfl (show Value.bool _ = .bool true by simp <;> omega) ?_
              refine J.nil (JX.fin rfl (fun w hw => ⟨rfl, (by rw [hw.1]; exact Below.refl _ _)⟩))
            · skip
              refine Fin.cons (fun v12_2 => ?_)
              refine Fin.nil ?_
              refine J.prE (fun h => ?_); subst h
              refine J.move rfl rfl ?_
              refine J.nil (JX.fin rfl (fun w hw => ⟨rfl, (by rw [hw.1]; exact Below.refl _ _)⟩))
            · skip
              refine Fin.cons (fun v12_3 => ?_)
              refine Fin.nil ?_
              refine J.prE (fun h => ?_); subst h
              first
                | (refine J.skip rfl rfl rfl rfl rfl ?_)
                | (refine J.skipU rfl rfl rfl rfl ?_)
                | (refine J.unguard rfl rfl rfl ?_; refine J.fieldAddr Ty.fd30_1 rfl rfl ?_)
              refine J.nil (JX.fin rfl (fun w hw => ⟨rfl, (by rw [hw.1]; exact Below.refl _ _)⟩))
            · skip
              refine Fin.cons (fun v12_4 => ?_)
              refine Fin.cons (fun v12_3 => ?_)
              refine Fin.nil ?_
              refine J.prE (fun h => ?_); subst h
              refine J.prE (fun h => ?_); subst h
              first
                | (refine J.skip rfl rfl rfl rfl rfl ?_)
                | (refine J.skipU rfl rfl rfl rfl ?_)
                | (refine J.unguard rfl rfl rfl ?_; (first | refine J.load1 Ty.a3 rfl (fun w hw => (cell_of (hw.2.own _ (.head _))).trans rfl) rfl ?_ | refine J.load1 Ty.a3 rfl (fun w hw => (cell_of (hw.2.own _ (.tail _ (.head _)))).trans rfl) rfl ?_ | refine J.load1 Ty.a3 rfl (fun w hw => (cell_of (hw.2.own _ (.tail _ (.tail _ (.head _))))).trans rfl) rfl ?_ | refine J.load1 Ty.a3 rfl (fun w hw => (cell_of (hw.2.own _ (.tail _ (.tail _ (.tail _ (.head _)))))).trans rfl) rfl ?_ | refine J.load1 Ty.a3 rfl (fun w hw => (cell_of (hw.2.own _ (.tail _ (.tail _ (.tail _ (.tail _ (.head _))))))).trans rfl) rfl ?_ | refine J.load1 Ty.a3 rfl (fun w hw => (cell_of (hw.2.own _ (List.mem_append_right _ (.head _)))).trans rfl) rfl ?_ | refine J.load1 Ty.a3 rfl (fun w hw => (cell_of (hw.2.own _ (List.mem_append_right _ (.tail _ (.head _))))).trans rfl) rfl ?_ | refine J.load1 Ty.a3 rfl (fun w hw => (cell_of (hw.2.own _ (List.mem_append_right _ (.tail _ (.tail _ (.head _)))))).trans rfl) rfl ?_ | refine J.load1 Ty.a3 rfl (fun w hw => (cell_of (hw.2.own _ (List.mem_append_right _ (.tail _ (.tail _ (.tail _ (.head _))))))).trans rfl) rfl ?_ | refine J.load1 Ty.a3 rfl (fun w hw => (cell_of (hw.2.own _ (List.mem_append_right _ (.tail _ (.tail _ (.tail _ (.tail _ (.head _)))))))).trans rfl) rfl ?_))
              refine J.nil (JX.fin rfl (fun w hw => ⟨rfl, (by rw [hw.1]; exact Below.refl _ _)⟩))
            · skip
              refine Fin.cons (fun v12_3 => ?_)
              refine Fin.nil ?_
              refine J.prE (fun h => ?_); subst h
              first
                | (refine J.skip rfl rfl rfl rfl rfl ?_)
                | (refine J.skipU rfl rfl rfl rfl ?_)
                | (refine J.unguard rfl rfl rfl ?_; refine J.move rfl rfl ?_)
              refine J.nil (JX.fin rfl (fun w hw => ⟨rfl, (by rw [hw.1]; exact Below.refl _ _)⟩))
            · skip
              refine Fin.cons (fun v12_6 => ?_)
              refine Fin.cons (fun v12_3 => ?_)
              refine Fin.nil ?_
              refine J.prE (fun h => ?_); subst h
              refine J.prE (fun h => ?_); subst h
              first
                | (refine J.skip rfl rfl rfl rfl rfl ?_)
                | (refine J.skipU rfl rfl rfl rfl ?_)
                | (refine J.unguard rfl rfl rfl ?_; refine J.nilCheck rfl rfl ?_)
              refine J.nil (JX.fin rfl (fun w hw => ⟨rfl, (by rw [hw.1]; exact Below.refl _ _)⟩))
            · skip
              refine Fin.cons (fun v12_7 => ?_)
              refine Fin.cons (fun v12_3 => ?_)
              refine Fin.nil ?_
              refine J.prE (fun h => ?_); subst h
              refine J.prE (fun h => ?_); subst h
              first
                | (refine J.skip rfl rfl rfl rfl rfl ?_)
                | (refine J.skipU rfl rfl rfl rfl ?_)
                | (refine J.unguard rfl rfl rfl ?_; refine J.fieldAddr Ty.fd35_0 rfl rfl ?_)
              refine J.nil (JX.fin rfl (fun w hw => ⟨rfl, (by rw [hw.1]; exact Below.refl _ _)⟩))
            · skip
              refine Fin.cons (fun v12_8 => ?_)
              refine Fin.cons (fun v12_3 => ?_)
              refine Fin.nil ?_
              refine J.prE (fun h => ?_); subst h
              refine J.prE (fun h => ?_); subst h
              first
                | (refine J.skip rfl rfl rfl rfl rfl ?_)
                | (refine J.skipU rfl rfl rfl rfl ?_)
                | (refine J.unguard rfl rfl rfl ?_; (first | refine J.load1 Ty.a28 rfl (fun w hw => (cell_of (hw.2.own _ (.head _))).trans rfl) rfl ?_ | refine J.load1 Ty.a28 rfl (fun w hw => (cell_of (hw.2.own _ (.tail _ (.head _)))).trans rfl) rfl ?_ | refine J.load1 Ty.a28 rfl (fun w hw => (cell_of (hw.2.own _ (.tail _ (.tail _ (.head _))))).trans rfl) rfl ?_ | refine J.load1 Ty.a28 rfl (fun w hw => (cell_of (hw.2.own _ (.tail _ (.tail _ (.tail _ (.head _)))))).trans rfl) rfl ?_ | refine J.load1 Ty.a28 rfl (fun w hw => (cell_of (hw.2.own _ (.tail _ (.tail _ (.tail _ (.tail _ (.head _))))))).trans rfl) rfl ?_ | refine J.load1 Ty.a28 rfl (fun w hw => (cell_of (hw.2.own _ (List.mem_append_right _ (.head _)))).trans rfl) rfl ?_ | refine J.load1 Ty.a28 rfl (fun w hw => (cell_of (hw.2.own _ (List.mem_append_right _ (.tail _ (.head _))))).trans rfl) rfl ?_ | refine J.load1 Ty.a28 rfl (fun w hw => (cell_of (hw.2.own _ (List.mem_append_right _ (.tail _ (.tail _ (.head _)))))).trans rfl) rfl ?_ | refine J.load1 Ty.a28 rfl (fun w hw => (cell_of (hw.2.own _ (List.mem_append_right _ (.tail _ (.tail _ (.tail _ (.head _))))))).trans rfl) rfl ?_ | refine J.load1 Ty.a28 rfl (fun w hw => (cell_of (hw.2.own _ (List.mem_append_right _ (.tail _ (.tail _ (.tail _ (.tail _ (.head _)))))))).trans rfl) rfl ?_))
              refine J.nil (JX.fin rfl (fun w hw => ⟨rfl, (by rw [hw.1]; exact Below.refl _ _)⟩))
            · skip
              refine Fin.cons (fun v12_9 => ?_)
              refine Fin.cons (fun v12_3 => ?_)
              refine Fin.nil ?_
              refine J.prE (fun h => ?_); subst h
              refine J.prE (fun h => ?_); subst h
              first
                | (refine J.skip rfl rfl rfl rfl rfl ?_)
                | (refine J.skipU rfl rfl rfl rfl ?_)
                | (refine J.unguard rfl rfl rfl ?_; refine J.lenS rfl Ty.u28 rfl rfl ?_)
              refine J.nil (JX.fin rfl (fun w hw => ⟨rfl, (by rw [hw.1]; exact Below.refl _ _)⟩))
            · skip
              refine Fin.cons (fun v12_10 => ?_)
              refine Fin.cons (fun v12_3 => ?_)
              refine Fin.nil ?_
              refine J.prE (fun h => ?_); subst h
              refine J.prE (fun h => ?_); subst h
              refine J.unguard rfl rfl rfl ?_
              refine J.quoN rfl rfl (by omega) (by omega) (by omega) rfl ?_
              refine J.name 54 rfl (congrArg (Value.int .i64) (show ((64 * N : Nat) : Int) / 64 = (N : Int) by omega)) ?_
              refine J.nil (JX.fin rfl (fun w hw => ⟨rfl, (by rw [hw.1]; exact Below.refl _ _)⟩))
            · skip
              refine Fin.cons (fun v12_5 => ?_)
              refine Fin.cons (fun v12_11 => ?_)
              refine Fin.cons (fun v12_3 => ?_)
              refine Fin.nil ?_
              refine J.prE (fun h => ?_); subst h
              refine J.prE (fun h => ?_); subst h
              refine J.prE (fun h => ?_); subst h
              refine J.unguard rfl rfl rfl ?_
              refine J.bin rfl rfl rfl rfl ?_
              refine J.name 55 rfl (show Value.bool _ = .bool true by simp <;> omega) ?_
              refine J.nil (JX.fin rfl (fun w hw => ⟨rfl, (by rw [hw.1]; exact Below.refl _ _)⟩))
            · skip
              refine Fin.cons (fun v12_3 => ?_)
              refine Fin.cons (fun v12_12 => ?_)
              refine Fin.nil ?_
              refine J.prE (fun h => ?_); subst h
              refine J.prE (fun h => ?_); subst h
              (first | refine J.pickT rfl rfl rfl ?_ | refine J.pickF rfl rfl rfl ?_)
              refine J.nil (JX.fin rfl (fun w hw => ⟨rfl, (by rw [hw.1]; exact Below.refl _ _)⟩))
            · skip
              refine Fin.cons (fun v12_13 => ?_)
              refine Fin.cons (fun v12_3 => ?_)
              refine Fin.nil ?_
              refine J.prE (fun h => ?_); subst h
              refine J.prE (fun h => ?_); subst h
              refine J.move rfl rfl ?_
              refine J.nil (JX.fin rfl (fun w hw => ⟨rfl, (by rw [hw.1]; exact Below.refl _ _)⟩))
            · skip
              refine Fin.cons (fun v12_14 => ?_)
              refine Fin.nil ?_
              refine J.prE (fun h => ?_); subst h
              first
                | (refine J.skip rfl rfl rfl rfl rfl ?_)
                | (refine J.skipU rfl rfl rfl rfl ?_)
                | (refine J.unguard rfl rfl rfl ?_; refine J.fieldAddr Ty.fd30_2 rfl rfl ?_)
              refine J.nil (JX.fin rfl (fun w hw => ⟨rfl, (by rw [hw.1]; exact Below.refl _ _)⟩))
            · skip
              refine Fin.cons (fun v12_15 => ?_)
              refine Fin.cons (fun v12_14 => ?_)
              refine Fin.nil ?_
              refine J.prE (fun h => ?_); subst h
              refine J.prE (fun h => ?_); subst h
              first
                | (refine J.skip rfl rfl rfl rfl rfl ?_)
                | (refine J.skipU rfl rfl rfl rfl ?_)
                | (refine J.unguard rfl rfl rfl ?_; (first | refine J.load1 Ty.a28 rfl (fun w hw => (cell_of (hw.2.own _ (.head _))).trans rfl) rfl ?_ | refine J.load1 Ty.a28 rfl (fun w hw => (cell_of (hw.2.own _ (.tail _ (.head _)))).trans rfl) rfl ?_ | refine J.load1 Ty.a28 rfl (fun w hw => (cell_of (hw.2.own _ (.tail _ (.tail _ (.head _))))).trans rfl) rfl ?_ | refine J.load1 Ty.a28 rfl (fun w hw => (cell_of (hw.2.own _ (.tail _ (.tail _ (.tail _ (.head _)))))).trans rfl) rfl ?_ | refine J.load1 Ty.a28 rfl (fun w hw => (cell_of (hw.2.own _ (.tail _ (.tail _ (.tail _ (.tail _ (.head _))))))).trans rfl) rfl ?_ | refine J.load1 Ty.a28 rfl (fun w hw => (cell_of (hw.2.own _ (List.mem_append_right _ (.head _)))).trans rfl) rfl ?_ | refine J.load1 Ty.a28 rfl (fun w hw => (cell_of (hw.2.own _ (List.mem_append_right _ (.tail _ (.head _))))).trans rfl) rfl ?_ | refine J.load1 Ty.a28 rfl (fun w hw => (cell_of (hw.2.own _ (List.mem_append_right _ (.tail _ (.tail _ (.head _)))))).trans rfl) rfl ?_ | refine J.load1 Ty.a28 rfl (fun w hw => (cell_of (hw.2.own _ (List.mem_append_right _ (.tail _ (.tail _ (.tail _ (.head _))))))).trans rfl) rfl ?_ | refine J.load1 Ty.a28 rfl (fun w hw => (cell_of (hw.2.own _ (List.mem_append_right _ (.tail _ (.tail _ (.tail _ (.tail _ (.head _)))))))).trans rfl) rfl ?_))
              refine J.nil (JX.fin rfl (fun w hw => ⟨rfl, (by rw [hw.1]; exact Below.refl _ _)⟩))
            · skip
              refine Fin.cons (fun v12_16 => ?_)
              refine Fin.cons (fun v12_14 => ?_)
              refine Fin.nil ?_
              refine J.prE (fun h => ?_); subst h
              refine J.prE (fun h => ?_); subst h
              first
                | (refine J.skip rfl rfl rfl rfl rfl ?_)
                | (refine J.skipU rfl rfl rfl rfl ?_)
                | (refine J.unguard rfl rfl rfl ?_; refine J.lenS rfl Ty.u28 rfl rfl ?_)
              refine J.nil (JX.fin rfl (fun w hw => ⟨rfl, (by rw [hw.1]; exact Below.refl _ _)⟩))
            · skip
              refine Fin.cons (fun v12_17 => ?_)
              refine Fin.cons (fun v12_14 => ?_)
              refine Fin.nil ?_
              refine J.prE (fun h => ?_); subst h
              refine J.prE (fun h => ?_); subst h
              refine J.unguard rfl rfl rfl ?_
              refine J.bin rfl rfl rfl rfl ?_
              refine J.name 61 rfl (show Value.bool _ = .bool true by simp <;> omega) ?_
              refine J.nil (JX.fin rfl (fun w hw => ⟨rfl, (by rw [hw.1]; exact Below.refl _ _)⟩))
            · skip
              refine Fin.cons (fun v12_14 => ?_)
              refine Fin.cons (fun v12_18 => ?_)
              refine Fin.nil ?_
              refine J.prE (fun h => ?_); subst h
              refine J.prE (fun h => ?_); subst h
              (first | refine J.pickT rfl rfl rfl ?_ | refine J.pickF rfl rfl rfl ?_)
              refine J.nil (JX.fin rfl (fun w hw => ⟨rfl, (by rw [hw.1]; exact Below.refl _ _)⟩))
          case htail =>
            refine Fin.cons (fun v12_0 => ?_)
            refine Fin.cons (fun v12_1 => ?_)
            refine Fin.cons (fun v12_2 => ?_)
            refine Fin.cons (fun v12_3 => ?_)
            refine Fin.cons (fun v12_4 => ?_)
            refine Fin.cons (fun v12_5 => ?_)
            refine Fin.cons (fun v12_6 => ?_)
            refine Fin.cons (fun v12_7 => ?_)
            refine Fin.cons (fun v12_8 => ?_)
            refine Fin.cons (fun v12_9 => ?_)
            refine Fin.cons (fun v12_10 => ?_)
            refine Fin.cons (fun v12_11 => ?_)
            refine Fin.cons (fun v12_12 => ?_)
            refine Fin.cons (fun v12_13 => ?_)
            refine Fin.cons (fun v12_14 => ?_)
            refine Fin.cons (fun v12_15 => ?_)
            refine Fin.cons (fun v12_16 => ?_)
            refine Fin.cons (fun v12_17 => ?_)
            refine Fin.cons (fun v12_18 => ?_)
            refine Fin.cons (fun v12_19 => ?_)
            refine Fin.nil ?_
            refine J.prE (fun h => ?_); subst h
            refine J.prE (fun h => ?_); subst h
            refine J.prE (fun h => ?_); subst h
            refine J.prE (fun h => ?_); subst h
            refine J.prE (fun h => ?_); subst h
            refine J.prE (fun h => ?_); subst h
            refine J.prE (fun h => ?_); subst h
            refine J.prE (fun h => ?_); subst h
            refine J.prE (fun h => ?_); subst h
            refine J.prE (fun h => ?_); subst h
            refine J.prE (fun h => ?_); subst h
            refine J.prE (fun h => ?_); subst h
            refine J.prE (fun h => ?_); subst h
            refine J.prE (fun h => ?_); subst h
            refine J.prE (fun h => ?_); subst h
            refine J.prE (fun h => ?_); subst h
            refine J.prE (fun h => ?_); subst h
            refine J.prE (fun h => ?_); subst h
            refine J.prE (fun h => ?_); subst h
            refine J.prE (fun h => ?_); subst h
            refine J.assign rfl rfl ?_
            refine J.nil ?_
            refine JX.thenN (hK30 _ _ ?_)
            refine JC.block ?_
            refine JC.seq (fun K31 hK31 => ?_)
            refine JC.region ?_
            refine J.move rfl rfl ?_
            refine J.not rfl rfl ?_
            refine J.assign rfl rfl ?_
            refine J.nil ?_
            refine JX.thenN (hK31 _ _ ?_)
            first | refine JC.condF rfl ?_ | refine JC.cond rfl (fun h => by first | (exfalso; simp at h; omega) | (simp at h)) (fun _ => ?_)
            refine JC.seq (fun K32 hK32 => ?_)
            refine JC.region ?_
            refine J.move rfl rfl ?_
            refine J.bin rfl rfl rfl rfl ?_
            refine J.name 87 rfl (congrArg Value.bool (show _ = false by simpa using hl0)) ?_
            refine J.assign rfl rfl ?_
            refine J.nil ?_
            refine JX.thenN (hK32 _ _ ?_)
            first | refine JC.condF rfl ?_ | refine JC.cond rfl (fun h => by first | (exfalso; simp at h; omega) | (simp at h)) (fun _ => ?_)
            refine JC.seq (fun K33 hK33 => ?_)
            refine JC.seq (fun K34 hK34 => ?_)
            refine JC.region ?_
            refine J.move rfl rfl ?_
            refine J.bin rfl rfl rfl rfl ?_
            refine J.move rfl rfl ?_
            first
              | (refine J.skip rfl rfl rfl rfl rfl ?_)
              | (refine J.skipU rfl rfl rfl rfl ?_)
              | (refine J.unguard rfl rfl rfl ?_; refine J.move rfl rfl ?_)
            first
              | (refine J.skip rfl rfl rfl rfl rfl ?_)
              | (refine J.skipU rfl rfl rfl rfl ?_)
              | (refine J.unguard rfl rfl rfl ?_; refine J.fieldAddr Ty.fd30_1 rfl rfl ?_)
            first
              | (refine J.skip rfl rfl rfl rfl rfl ?_)
              | (refine J.skipU rfl rfl rfl rfl ?_)
              | (refine J.unguard rfl rfl rfl ?_; (first | refine J.loadO Ty.a3 rfl (.head _) rfl rfl ?_ | refine J.loadO Ty.a3 rfl (.tail _ (.head _)) rfl rfl ?_ | refine J.loadO Ty.a3 rfl (.tail _ (.tail _ (.head _))) rfl rfl ?_ | refine J.loadO Ty.a3 rfl (.tail _ (.tail _ (.tail _ (.head _)))) rfl rfl ?_ | refine J.loadO Ty.a3 rfl (.tail _ (.tail _ (.tail _ (.tail _ (.head _))))) rfl rfl ?_ | refine J.loadO Ty.a3 rfl (List.mem_append_right _ (.head _)) rfl rfl ?_ | refine J.loadO Ty.a3 rfl (List.mem_append_right _ (.tail _ (.head _))) rfl rfl ?_ | refine J.loadO Ty.a3 rfl (List.mem_append_right _ (.tail _ (.tail _ (.head _)))) rfl rfl ?_ | refine J.loadO Ty.a3 rfl (List.mem_append_right _ (.tail _ (.tail _ (.tail _ (.head _))))) rfl rfl ?_ | refine J.loadO Ty.a3 rfl (List.mem_append_right _ (.tail _ (.tail _ (.tail _ (.tail _ (.head _)))))) rfl rfl ?_))
            first
              | (refine J.skip rfl rfl rfl rfl rfl ?_)
              | (refine J.skipU rfl rfl rfl rfl ?_)
              | (refine J.unguard rfl rfl rfl ?_; refine J.fieldAddr Ty.fd30_2 rfl rfl ?_)
            first
              | (refine J.skip rfl rfl rfl rfl rfl ?_)
              | (refine J.skipU rfl rfl rfl rfl ?_)
              | (refine J.unguard rfl rfl rfl ?_; (first | refine J.loadO Ty.a28 rfl (.head _) rfl rfl ?_ | refine J.loadO Ty.a28 rfl (.tail _ (.head _)) rfl rfl ?_ | refine J.loadO Ty.a28 rfl (.tail _ (.tail _ (.head _))) rfl rfl ?_ | refine J.loadO Ty.a28 rfl (.tail _ (.tail _ (.tail _ (.head _)))) rfl rfl ?_ | refine J.loadO Ty.a28 rfl (.tail _ (.tail _ (.tail _ (.tail _ (.head _))))) rfl rfl ?_ | refine J.loadO Ty.a28 rfl (List.mem_append_right _ (.head _)) rfl rfl ?_ | refine J.loadO Ty.a28 rfl (List.mem_append_right _ (.tail _ (.head _))) rfl rfl ?_ | refine J.loadO Ty.a28 rfl (List.mem_append_right _ (.tail _ (.tail _ (.head _)))) rfl rfl ?_ | refine J.loadO Ty.a28 rfl (List.mem_append_right _ (.tail _ (.tail _ (.tail _ (.head _))))) rfl rfl ?_ | refine J.loadO Ty.a28 rfl (List.mem_append_right _ (.tail _ (.tail _ (.tail _ (.tail _ (.head _)))))) rfl rfl ?_))
            refine J.unguard rfl rfl rfl ?_
            refine J.perm (((r, rfO (.slice (some ⟨q, 0, none⟩) (64 * N) (64 * N)) (-1) (k)) :: lp) ++ [(d, dkO s N (wP N p z.i z.b.xs.length) (k + 1)), (s, dkS (put B z.i.toNat z.b.xs)), (b11, cb [.int .i64 z.kind, .int .i64 z.i, z.b.v] 30)]) (by (refine perm_cnt (fun _ => ?_)); simp only [cntB_append, cntB_cons, cntB_nil, Nat.add_zero, Nat.zero_add]; try ac_rfl) ?_
            refine J.callS (α := List (Nat × Obj)) (V := fun _ => .int .i64 0) (Pr := fun x => Vec 5 1 (.slice (some ⟨q, 0, none⟩) (64 * N) (64 * N)) (64 * N) ((put B z.i.toNat z.b.xs).map u8) x) (L := fun x => (r, rfO (.slice (some ⟨q, 0, none⟩) (64 * N) (64 * N)) (-1) (k + 1)) :: x) (l1 := (r, rfO (.slice (some ⟨q, 0, none⟩) (64 * N) (64 * N)) (-1) (k)) :: lp) Ty.bd18 rfl rfl
              (fun w' hw => by
                have h := rwrite_all r N _ lp B z.b.xs (-1) k z.i z.b.a z.b.xs.length z.b.c w' hw.owns hv hN2 hB hk0 (by omega) rfl (hzr.st (.inr (by simp)) hw) (hzr.offNew hw (fun p hp => List.mem_append_left _ hp)) (by omega)
                have he : wE N (-1) z.i z.b.xs.length = 0 := w_ok hm1 hm2 hm3 (by omega)
                simp only [wP, wK, wB, he, if_true, show ¬ (0 : Int) < -1 by omega, if_false] at h
                exact h) (fun lpW hvW => ?_)
            first
              | (refine J.skip rfl rfl rfl rfl rfl ?_)
              | (refine J.skipU rfl rfl rfl rfl ?_)
              | (refine J.unguard rfl rfl rfl ?_; refine J.bin rfl rfl rfl rfl ?_)
            (first | refine J.pickT rfl rfl rfl ?_ | refine J.pickF rfl rfl rfl ?_)
            refine J.nil ?_
            refine JX.thenN (hK34 _ _ ?_)
            first | refine JC.condF rfl ?_ | refine JC.cond rfl (fun h => by first | (exfalso; simp at h; omega) | (simp at h)) (fun _ => ?_)
            refine JC.skip ?_
            refine JX.thenN (hK33 _ _ ?_)
            refine JC.region ?_
            refine J.move rfl rfl ?_
            refine J.bin rfl rfl rfl rfl ?_
            refine J.name 75 rfl (congrArg (Value.int .i64) wrap_pred) ?_
            refine J.assign rfl rfl ?_
            refine J.nil ?_
            refine JX.blockN ?_
            refine JX.blockN ?_
            refine JX.thenN (hK11 _ _ ?_)
            refine JC.region ?_
            (first | refine J.addN rfl rfl (by omega) (by omega) rfl ?_ | refine J.bin rfl rfl rfl rfl ?_)
            refine J.move rfl rfl ?_
            refine J.nil ?_
            refine JX.thenN ?_
            refine JX.again (i + 1, put B z.i.toNat z.b.xs, wP N p z.i z.b.xs.length, k + 1, lpW) ?_ ?_ ?_
            · simp only; omega
            · exact ⟨rfl, rfl, rfl, rfl, rfl, rfl, trivial⟩
            · exact fun w1 hw => ⟨⟨hlt, by simp only; omega, put_length hB (by omega) (by omega), by simp only; omega, by simp only; omega, by simp only [wP, w_ok hm1 hm2 hm3 hp0, if_true]; split <;> omega, hvW⟩, St.drop (St.perm (l' := [(b11, cb [.int .i64 z.kind, .int .i64 z.i, z.b.v] 30)] ++ ((d, dkO s N (wP N p z.i z.b.xs.length) (k + 1)) :: (s, dkS (put B z.i.toNat z.b.xs)) :: (r, rfO (.slice (some ⟨q, 0, none⟩) (64 * N) (64 * N)) (-1) (k + 1)) :: lpW)) hw (by (refine perm_cnt (fun _ => ?_)); simp only [cntB_append, cntB_cons, cntB_nil, Nat.add_zero, Nat.zero_add]; try ac_rfl)) (List.sublist_append_right _ _)⟩
  · skip
    have hge : i = o.xs.length := by simp at h1; omega
    refine JC.exit ?_
    refine JX.thenE ?_
    refine JX.thenE ?_
    refine JX.blockE ?_
    refine JX.thenN (hK7 _ _ ?_)
    refine JC.seq (fun K35 hK35 => ?_)
    apply JC.drawL 9 [Eqv _, RowP (64 * N) (B.map u8), Eqv _, Eqv _, Eqv _, Eqv _, Eqv _, Eqv _, Eqv _] Ty.mixed rfl rfl rfl (by kernel_rfl) rfl rfl (fun w w' hw hb => hw.step hb) ⟨fun _ _ _ h _ => h, RowP.st _ _, fun _ _ _ h _ => h, fun _ _ _ h _ => h, fun _ _ _ h _ => h, fun _ _ _ h _ => h, fun _ _ _ h _ => h, fun _ _ _ h _ => h, fun _ _ _ h _ => h, trivial⟩ ?hstep ?htail
    case hstep =>
      refine ⟨fun wi => ?_, fun wi => ?_, fun wi => ?_, fun wi => ?_, fun wi => ?_, fun wi => ?_, fun wi => ?_, fun wi => ?_, fun wi => ?_, trivial⟩
      · skip
        refine Fin.nil ?_
        refine J.move rfl rfl ?_
        refine J.nil (JX.fin rfl (fun w hw => ⟨rfl, (by rw [hw.1]; exact Below.refl _ _)⟩))
      · skip
        refine Fin.cons (fun v23_0 => ?_)
        refine Fin.nil ?_
        refine J.prE (fun h => ?_); subst h
        refine J.callR (k := 64 * N) (ys := B.map u8) Ty.bd24 rfl rfl (fun w' hw => (bytes_spec d s N B p k w' (St.owns (l1 := [(d, dkO s N (p) (k)), (s, dkS (B))]) (l := (r, rfO (.slice (some ⟨q, 0, none⟩) (64 * N) (64 * N)) (-1) (k)) :: lp) hw) hB hN2).mono fun _ w2 ⟨x, h1, h2, h3⟩ => ⟨x.1, h1, h2.row (l := [(d, dkO s N (p) (k)), (s, dkS (B))]) h3, h3.same (St.owns (l1 := [(d, dkO s N (p) (k)), (s, dkS (B))]) (l := (r, rfO (.slice (some ⟨q, 0, none⟩) (64 * N) (64 * N)) (-1) (k)) :: lp) hw) (fun p hp => List.mem_append_right _ hp)⟩) (fun v126 => ?_)
        refine J.nil (JX.fin rfl (fun w hw => ⟨hw.1, hw.2⟩))
      · skip
        refine Fin.cons (fun v23_1 => ?_)
        refine Fin.nil ?_
        refine J.prR ?_
        refine J.toStr (m := 64 * N) (bs := B) Ty.el28 Ty.u5 Ty.u9 rfl (fun w' hw => hw.2.1) hB rfl ?_
        refine J.nil (JX.fin rfl (fun w hw => ⟨rfl, (by rw [hw.1]; exact Below.refl _ _)⟩))
      · skip
        refine Fin.nil ?_
        refine J.move rfl rfl ?_
        refine J.nil (JX.fin rfl (fun w hw => ⟨rfl, (by rw [hw.1]; exact Below.refl _ _)⟩))
      · skip
        refine Fin.cons (fun v23_3 => ?_)
        refine Fin.nil ?_
        refine J.prE (fun h => ?_); subst h
        refine J.nilCheck rfl rfl ?_
        refine J.nil (JX.fin rfl (fun w hw => ⟨rfl, (by rw [hw.1]; exact Below.refl _ _)⟩))
      · skip
        refine Fin.cons (fun v23_4 => ?_)
        refine Fin.nil ?_
        refine J.prE (fun h => ?_); subst h
        refine J.fieldAddr Ty.fd35_0 rfl rfl ?_
        refine J.nil (JX.fin rfl (fun w hw => ⟨rfl, (by rw [hw.1]; exact Below.refl _ _)⟩))
      · skip
        refine Fin.cons (fun v23_5 => ?_)
        refine Fin.nil ?_
        refine J.prE (fun h => ?_); subst h
        (first | refine J.load1 Ty.a28 rfl (fun w hw => (cell_of (hw.2.own _ (.head _))).trans rfl) rfl ?_ | refine J.load1 Ty.a28 rfl (fun w hw => (cell_of (hw.2.own _ (.tail _ (.head _)))).trans rfl) rfl ?_ | refine J.load1 Ty.a28 rfl (fun w hw => (cell_of (hw.2.own _ (.tail _ (.tail _ (.head _))))).trans rfl) rfl ?_ | refine J.load1 Ty.a28 rfl (fun w hw => (cell_of (hw.2.own _ (.tail _ (.tail _ (.tail _ (.head _)))))).trans rfl) rfl ?_ | refine J.load1 Ty.a28 rfl (fun w hw => (cell_of (hw.2.own _ (.tail _ (.tail _ (.tail _ (.tail _ (.head _))))))).trans rfl) rfl ?_ | refine J.load1 Ty.a28 rfl (fun w hw => (cell_of (hw.2.own _ (List.mem_append_right _ (.head _)))).trans rfl) rfl ?_ | refine J.load1 Ty.a28 rfl (fun w hw => (cell_of (hw.2.own _ (List.mem_append_right _ (.tail _ (.head _))))).trans rfl) rfl ?_ | refine J.load1 Ty.a28 rfl (fun w hw => (cell_of (hw.2.own _ (List.mem_append_right _ (.tail _ (.tail _ (.head _)))))).trans rfl) rfl ?_ | refine J.load1 Ty.a28 rfl (fun w hw => (cell_of (hw.2.own _ (List.mem_append_right _ (.tail _ (.tail _ (.tail _ (.head _))))))).trans rfl) rfl ?_ | refine J.load1 Ty.a28 rfl (fun w hw => (cell_of (hw.2.own _ (List.mem_append_right _ (.tail _ (.tail _ (.tail _ (.tail _ (.head _)))))))).trans rfl) rfl ?_)
        refine J.nil (JX.fin rfl (fun w hw => ⟨rfl, (by rw [hw.1]; exact Below.refl _ _)⟩))
      · skip
        refine Fin.cons (fun v23_6 => ?_)
        refine Fin.nil ?_
        refine J.prE (fun h => ?_); subst h
        refine J.toStr (m := 64 * N) (bs := B) Ty.el28 Ty.u5 Ty.u9 rfl (fun w' hw => hv.row (l := [(d, dkO s N (p) (k)), (s, dkS (B)), (r, rfO (.slice (some ⟨q, 0, none⟩) (64 * N) (64 * N)) (-1) (k))]) (hw.2.perm (by (refine perm_cnt (fun _ => ?_)); simp only [cntB_append, cntB_cons, cntB_nil, Nat.add_zero, Nat.zero_add]; try ac_rfl))) hB rfl ?_
        refine J.nil (JX.fin rfl (fun w hw => ⟨rfl, (by rw [hw.1]; exact Below.refl _ _)⟩))
      · skip
        refine Fin.cons (fun v23_2 => ?_)
        refine Fin.cons (fun v23_7 => ?_)
        refine Fin.nil ?_
        refine J.prE (fun h => ?_); subst h
        refine J.prE (fun h => ?_); subst h
        refine J.strEq rfl rfl rfl ?_
        refine J.name 99 rfl (show Value.bool _ = .bool true by simp) ?_
        refine J.nil (JX.fin rfl (fun w hw => ⟨rfl, (by rw [hw.1]; exact Below.refl _ _)⟩))
    case htail =>
      refine Fin.cons (fun v23_0 => ?_)
      refine Fin.cons (fun v23_1 => ?_)
      refine Fin.cons (fun v23_2 => ?_)
      refine Fin.cons (fun v23_3 => ?_)
      refine Fin.cons (fun v23_4 => ?_)
      refine Fin.cons (fun v23_5 => ?_)
      refine Fin.cons (fun v23_6 => ?_)
      refine Fin.cons (fun v23_7 => ?_)
      refine Fin.cons (fun v23_8 => ?_)
      refine Fin.nil ?_
      refine J.prE (fun h => ?_); subst h
      refine J.prE (fun h => ?_); subst h
      refine J.prE (fun h => ?_); subst h
      refine J.prE (fun h => ?_); subst h
      refine J.prE (fun h => ?_); subst h
      refine J.prE (fun h => ?_); subst h
      refine J.prE (fun h => ?_); subst h
      refine J.drop ?_
      refine J.prE (fun h => ?_); subst h
      refine J.assign rfl rfl ?_
      refine J.nil ?_
      refine JX.thenN (hK35 _ _ ?_)
      refine JC.ret ?_
      refine JX.ret1 rfl rfl (fun w hw => ?_)
      exact ⟨rfl, hw.below⟩

end Go.Proofs.Ytlmbpfgiadbjaaa
