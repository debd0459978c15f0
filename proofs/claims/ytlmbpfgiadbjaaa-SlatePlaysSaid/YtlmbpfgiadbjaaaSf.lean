/-
  The document's Append.
-/
import Derived.Test.YtlmbpfgiadbjaaaSe
namespace Go.Proofs.Ytlmbpfgiadbjaaa
open Go.J Go.RowKit
set_option linter.unusedVariables false
set_option linter.unusedSimpArgs false
set_option maxRecDepth 8000
/-- eight bytes of a number, j of them laid, from the back -/
def hst (pre : List UInt8) (N j z : Nat) : List UInt8 := pre ++ (List.replicate (8 - j) 0 ++ ((be8 N).drop (8 - j) ++ List.replicate z 0))
theorem hst_length {pre : List UInt8} {N j z : Nat} (h : j ≤ 8) : (hst pre N j z).length = pre.length + 8 + z := by
  simp only [hst, List.length_append, List.length_replicate, List.length_drop, be8_length]; omega
theorem hst_zero {pre : List UInt8} {N z : Nat} : hst pre N 0 z = pre ++ List.replicate (8 + z) 0 := by
  rw [hst, List.drop_eq_nil_of_le (by rw [be8_length]; omega), List.nil_append, List.replicate_append_replicate]
theorem hst_all {pre : List UInt8} {N z : Nat} : hst pre N 8 z = (pre ++ be8 N) ++ List.replicate z 0 := by simp [hst]
theorem hst_set {pre : List UInt8} {N j z : Nat} (h : j < 8) : (hst pre N j z).set (pre.length + (7 - j)) ((be8 N)[7 - j]'(by rw [be8_length]; omega)) = hst pre N (j + 1) z := by
  have e1 : List.replicate (8 - j) (0 : UInt8) = List.replicate (7 - j) 0 ++ [0] := by
    rw [show 8 - j = (7 - j) + 1 by omega, List.replicate_succ']
  have e2 : (be8 N).drop (8 - (j + 1)) = (be8 N)[7 - j]'(by rw [be8_length]; omega) :: (be8 N).drop (8 - j) := by
    rw [show 8 - (j + 1) = 7 - j by omega, List.drop_eq_getElem_cons (by rw [be8_length]; omega)]
    congr 2; omega
  rw [hst, hst, e1, e2, show 8 - (j + 1) = 7 - j by omega]
  rw [List.set_append_right _ _ (by omega), Nat.add_sub_cancel_left, List.append_assoc, List.set_append_right _ _ (by simp), List.length_replicate, Nat.sub_self]
  rfl
theorem byte_hst (N j : Nat) (h : j < 8) : UInt8.ofNat (N / 256 ^ j % 256) = (be8 N)[7 - j]'(by rw [be8_length]; omega) := by
  rw [be8_get N (7 - j) (by omega), show 56 - 8 * (7 - j) = 8 * j by omega, Nat.pow_mul]
  apply UInt8.toNat_inj.1
  simp
theorem byte_u64 (N j : Nat) (h : j < 8) : Value.int .u8 (IntKind.u8.wrap ((N / 256 ^ j % 256 : Nat) : Int)) = u8 ((be8 N)[7 - j]'(by rw [be8_length]; omega)) := by
  rw [← byte_hst N j h, wrap_u8m]
  show Value.int .u8 _ = Value.int .u8 _
  congr 1 <;> simp
theorem div_pow (N j : Nat) : N / 256 ^ j / 256 = N / 256 ^ (j + 1) := by rw [Nat.div_div_eq_div_mul, Nat.pow_succ]
theorem flat3 (a b c : Nat) : (be8 a ++ be8 b) ++ be8 c = [a, b, c].flatMap be8 := by simp [List.append_assoc]

theorem rroom_spec (lb r n : Nat) (q : LogP) (down : Bool) (a0 : Option Addr) (c0 : Nat) (p k : Int) (w : World) {l : List (Nat × Obj)} (hw0 : Own w ((lb, rlO r q down) :: (r, rfO (.slice a0 (64 * n) c0) p k) :: l)) (hn : n ≤ 4096) (hu : q.used ≤ 4096) :
    Calls Try.prog 36 [.pointer (some ⟨lb, 0, none⟩)].toArray w fun ρ w' => ρ = .returned (.int .i64 ((n : Int) - 2 - ((q.used : Nat) : Int))) ∧ Below w.heap.size w w' := by
  refine calls_of_J (args := [.pointer (some ⟨lb, 0, none⟩)]) (e := [(0, .pointer (some ⟨lb, 0, none⟩))]) Try.func36 rfl rfl ⟨rfl, trivial⟩ (hw0.st) ?_
  refine JC.seq (fun K0 hK0 => ?_)
  refine JC.region ?_
  refine J.assign rfl rfl ?_
  refine J.nil ?_
  refine JX.thenN (hK0 _ _ ?_)
  refine JC.seq (fun K1 hK1 => ?_)
  apply JC.drawL 15 [Eqv _, Eqv _, Eqv _, Eqv _, Eqv _, Eqv _, Eqv _, Eqv _, Eqv _, Eqv _, Eqv _, Eqv _, Eqv _, Eqv _, Eqv _] Ty.mixed rfl rfl rfl (by kernel_rfl) rfl rfl (fun w w' hw hb => hw.step hb) ⟨fun _ _ _ h _ => h, fun _ _ _ h _ => h, fun _ _ _ h _ => h, fun _ _ _ h _ => h, fun _ _ _ h _ => h, fun _ _ _ h _ => h, fun _ _ _ h _ => h, fun _ _ _ h _ => h, fun _ _ _ h _ => h, fun _ _ _ h _ => h, fun _ _ _ h _ => h, fun _ _ _ h _ => h, fun _ _ _ h _ => h, fun _ _ _ h _ => h, fun _ _ _ h _ => h, trivial⟩ ?hstep ?htail
  case hstep =>
    refine ⟨fun wi => ?_, fun wi => ?_, fun wi => ?_, fun wi => ?_, fun wi => ?_, fun wi => ?_, fun wi => ?_, fun wi => ?_, fun wi => ?_, fun wi => ?_, fun wi => ?_, fun wi => ?_, fun wi => ?_, fun wi => ?_, fun wi => ?_, trivial⟩
    · skip
      refine Fin.nil ?_
      refine J.move rfl rfl ?_
      refine J.nil (JX.fin rfl (fun w hw => ⟨rfl, (by rw [hw.1]; exact Below.refl _ _)⟩))
    · skip
      refine Fin.cons (fun v1_0 => ?_)
      refine Fin.nil ?_
      refine J.prE (fun h => ?_); subst h
      refine J.nilCheck rfl rfl ?_
      refine J.nil (JX.fin rfl (fun w hw => ⟨rfl, (by rw [hw.1]; exact Below.refl _ _)⟩))
    · skip
      refine Fin.cons (fun v1_1 => ?_)
      refine Fin.nil ?_
      refine J.prE (fun h => ?_); subst h
      refine J.fieldAddr Ty.fd67_0 rfl rfl ?_
      refine J.nil (JX.fin rfl (fun w hw => ⟨rfl, (by rw [hw.1]; exact Below.refl _ _)⟩))
    · skip
      refine Fin.cons (fun v1_2 => ?_)
      refine Fin.nil ?_
      refine J.prE (fun h => ?_); subst h
      (first | refine J.load1 Ty.a25 rfl (fun w hw => (cell_of (hw.2.own _ (.head _))).trans rfl) rfl ?_ | refine J.load1 Ty.a25 rfl (fun w hw => (cell_of (hw.2.own _ (.tail _ (.head _)))).trans rfl) rfl ?_ | refine J.load1 Ty.a25 rfl (fun w hw => (cell_of (hw.2.own _ (.tail _ (.tail _ (.head _))))).trans rfl) rfl ?_ | refine J.load1 Ty.a25 rfl (fun w hw => (cell_of (hw.2.own _ (.tail _ (.tail _ (.tail _ (.head _)))))).trans rfl) rfl ?_ | refine J.load1 Ty.a25 rfl (fun w hw => (cell_of (hw.2.own _ (.tail _ (.tail _ (.tail _ (.tail _ (.head _))))))).trans rfl) rfl ?_ | refine J.load1 Ty.a25 rfl (fun w hw => (cell_of (hw.2.own _ (List.mem_append_right _ (.head _)))).trans rfl) rfl ?_ | refine J.load1 Ty.a25 rfl (fun w hw => (cell_of (hw.2.own _ (List.mem_append_right _ (.tail _ (.head _))))).trans rfl) rfl ?_ | refine J.load1 Ty.a25 rfl (fun w hw => (cell_of (hw.2.own _ (List.mem_append_right _ (.tail _ (.tail _ (.head _)))))).trans rfl) rfl ?_ | refine J.load1 Ty.a25 rfl (fun w hw => (cell_of (hw.2.own _ (List.mem_append_right _ (.tail _ (.tail _ (.tail _ (.head _))))))).trans rfl) rfl ?_ | refine J.load1 Ty.a25 rfl (fun w hw => (cell_of (hw.2.own _ (List.mem_append_right _ (.tail _ (.tail _ (.tail _ (.tail _ (.head _)))))))).trans rfl) rfl ?_)
      refine J.nil (JX.fin rfl (fun w hw => ⟨rfl, (by rw [hw.1]; exact Below.refl _ _)⟩))
    · skip
      refine Fin.cons (fun v1_3 => ?_)
      refine Fin.nil ?_
      refine J.prE (fun h => ?_); subst h
      refine J.nilCheck rfl rfl ?_
      refine J.nil (JX.fin rfl (fun w hw => ⟨rfl, (by rw [hw.1]; exact Below.refl _ _)⟩))
    · skip
      refine Fin.cons (fun v1_4 => ?_)
      refine Fin.nil ?_
      refine J.prE (fun h => ?_); subst h
      refine J.fieldAddr Ty.fd35_0 rfl rfl ?_
      refine J.nil (JX.fin rfl (fun w hw => ⟨rfl, (by rw [hw.1]; exact Below.refl _ _)⟩))
    · skip
      refine Fin.cons (fun v1_5 => ?_)
      refine Fin.nil ?_
      refine J.prE (fun h => ?_); subst h
      (first | refine J.load1 Ty.a28 rfl (fun w hw => (cell_of (hw.2.own _ (.head _))).trans rfl) rfl ?_ | refine J.load1 Ty.a28 rfl (fun w hw => (cell_of (hw.2.own _ (.tail _ (.head _)))).trans rfl) rfl ?_ | refine J.load1 Ty.a28 rfl (fun w hw => (cell_of (hw.2.own _ (.tail _ (.tail _ (.head _))))).trans rfl) rfl ?_ | refine J.load1 Ty.a28 rfl (fun w hw => (cell_of (hw.2.own _ (.tail _ (.tail _ (.tail _ (.head _)))))).trans rfl) rfl ?_ | refine J.load1 Ty.a28 rfl (fun w hw => (cell_of (hw.2.own _ (.tail _ (.tail _ (.tail _ (.tail _ (.head _))))))).trans rfl) rfl ?_ | refine J.load1 Ty.a28 rfl (fun w hw => (cell_of (hw.2.own _ (List.mem_append_right _ (.head _)))).trans rfl) rfl ?_ | refine J.load1 Ty.a28 rfl (fun w hw => (cell_of (hw.2.own _ (List.mem_append_right _ (.tail _ (.head _))))).trans rfl) rfl ?_ | refine J.load1 Ty.a28 rfl (fun w hw => (cell_of (hw.2.own _ (List.mem_append_right _ (.tail _ (.tail _ (.head _)))))).trans rfl) rfl ?_ | refine J.load1 Ty.a28 rfl (fun w hw => (cell_of (hw.2.own _ (List.mem_append_right _ (.tail _ (.tail _ (.tail _ (.head _))))))).trans rfl) rfl ?_ | refine J.load1 Ty.a28 rfl (fun w hw => (cell_of (hw.2.own _ (List.mem_append_right _ (.tail _ (.tail _ (.tail _ (.tail _ (.head _)))))))).trans rfl) rfl ?_)
      refine J.nil (JX.fin rfl (fun w hw => ⟨rfl, (by rw [hw.1]; exact Below.refl _ _)⟩))
    · skip
      refine Fin.cons (fun v1_6 => ?_)
      refine Fin.nil ?_
      refine J.prE (fun h => ?_); subst h
      refine J.lenS rfl Ty.u28 rfl rfl ?_
      refine J.nil (JX.fin rfl (fun w hw => ⟨rfl, (by rw [hw.1]; exact Below.refl _ _)⟩))
    · skip
      refine Fin.cons (fun v1_7 => ?_)
      refine Fin.nil ?_
      refine J.prE (fun h => ?_); subst h
      refine J.quoN rfl rfl (by omega) (by omega) (by omega) rfl ?_
      refine J.name 11 rfl (congrArg (Value.int .i64) (show ((64 * n : Nat) : Int) / 64 = (n : Int) by omega)) ?_
      refine J.nil (JX.fin rfl (fun w hw => ⟨rfl, (by rw [hw.1]; exact Below.refl _ _)⟩))
    · skip
      refine Fin.cons (fun v1_8 => ?_)
      refine Fin.nil ?_
      refine J.prE (fun h => ?_); subst h
      refine J.subN rfl rfl (by omega) (by omega) rfl ?_
      refine J.nil (JX.fin rfl (fun w hw => ⟨rfl, (by rw [hw.1]; exact Below.refl _ _)⟩))
    · skip
      refine Fin.nil ?_
      refine J.move rfl rfl ?_
      refine J.nil (JX.fin rfl (fun w hw => ⟨rfl, (by rw [hw.1]; exact Below.refl _ _)⟩))
    · skip
      refine Fin.cons (fun v1_10 => ?_)
      refine Fin.nil ?_
      refine J.prE (fun h => ?_); subst h
      refine J.nilCheck rfl rfl ?_
      refine J.nil (JX.fin rfl (fun w hw => ⟨rfl, (by rw [hw.1]; exact Below.refl _ _)⟩))
    · skip
      refine Fin.cons (fun v1_11 => ?_)
      refine Fin.nil ?_
      refine J.prE (fun h => ?_); subst h
      refine J.fieldAddr Ty.fd67_2 rfl rfl ?_
      refine J.nil (JX.fin rfl (fun w hw => ⟨rfl, (by rw [hw.1]; exact Below.refl _ _)⟩))
    · skip
      refine Fin.cons (fun v1_12 => ?_)
      refine Fin.nil ?_
      refine J.prE (fun h => ?_); subst h
      (first | refine J.load1 Ty.a3 rfl (fun w hw => (cell_of (hw.2.own _ (.head _))).trans rfl) rfl ?_ | refine J.load1 Ty.a3 rfl (fun w hw => (cell_of (hw.2.own _ (.tail _ (.head _)))).trans rfl) rfl ?_ | refine J.load1 Ty.a3 rfl (fun w hw => (cell_of (hw.2.own _ (.tail _ (.tail _ (.head _))))).trans rfl) rfl ?_ | refine J.load1 Ty.a3 rfl (fun w hw => (cell_of (hw.2.own _ (.tail _ (.tail _ (.tail _ (.head _)))))).trans rfl) rfl ?_ | refine J.load1 Ty.a3 rfl (fun w hw => (cell_of (hw.2.own _ (.tail _ (.tail _ (.tail _ (.tail _ (.head _))))))).trans rfl) rfl ?_ | refine J.load1 Ty.a3 rfl (fun w hw => (cell_of (hw.2.own _ (List.mem_append_right _ (.head _)))).trans rfl) rfl ?_ | refine J.load1 Ty.a3 rfl (fun w hw => (cell_of (hw.2.own _ (List.mem_append_right _ (.tail _ (.head _))))).trans rfl) rfl ?_ | refine J.load1 Ty.a3 rfl (fun w hw => (cell_of (hw.2.own _ (List.mem_append_right _ (.tail _ (.tail _ (.head _)))))).trans rfl) rfl ?_ | refine J.load1 Ty.a3 rfl (fun w hw => (cell_of (hw.2.own _ (List.mem_append_right _ (.tail _ (.tail _ (.tail _ (.head _))))))).trans rfl) rfl ?_ | refine J.load1 Ty.a3 rfl (fun w hw => (cell_of (hw.2.own _ (List.mem_append_right _ (.tail _ (.tail _ (.tail _ (.tail _ (.head _)))))))).trans rfl) rfl ?_)
      refine J.nil (JX.fin rfl (fun w hw => ⟨rfl, (by rw [hw.1]; exact Below.refl _ _)⟩))
    · skip
      refine Fin.cons (fun v1_9 => ?_)
      refine Fin.cons (fun v1_13 => ?_)
      refine Fin.nil ?_
      refine J.prE (fun h => ?_); subst h
      refine J.prE (fun h => ?_); subst h
      refine J.subN rfl rfl (by omega) (by omega) rfl ?_
      refine J.nil (JX.fin rfl (fun w hw => ⟨rfl, (by rw [hw.1]; exact Below.refl _ _)⟩))
  case htail =>
    refine Fin.cons (fun v1_0 => ?_)
    refine Fin.cons (fun v1_1 => ?_)
    refine Fin.cons (fun v1_2 => ?_)
    refine Fin.cons (fun v1_3 => ?_)
    refine Fin.cons (fun v1_4 => ?_)
    refine Fin.cons (fun v1_5 => ?_)
    refine Fin.cons (fun v1_6 => ?_)
    refine Fin.cons (fun v1_7 => ?_)
    refine Fin.cons (fun v1_8 => ?_)
    refine Fin.cons (fun v1_9 => ?_)
    refine Fin.cons (fun v1_10 => ?_)
    refine Fin.cons (fun v1_11 => ?_)
    refine Fin.cons (fun v1_12 => ?_)
    refine Fin.cons (fun v1_13 => ?_)
    refine Fin.cons (fun v1_14 => ?_)
    refine Fin.nil ?_
    refine J.prE (fun h => ?_); subst h
    refine J.prE (fun h => ?_); subst h
    refine J.prE (fun h => ?_); subst h
    refine J.prE (fun h => ?_); subst h
    refine J.prE (fun h => ?_); subst h
    refine J.prE (fun h => ?_); subst h
    refine J.prE (fun h => ?_); subst h
    refine J.prE (fun h => ?_); subst h
    refine J.prE (fun h => ?_); subst h
    refine J.prE (fun h => ?_); subst h
    refine J.prE (fun h => ?_); subst h
    refine J.prE (fun h => ?_); subst h
    refine J.prE (fun h => ?_); subst h
    refine J.prE (fun h => ?_); subst h
    refine J.prE (fun h => ?_); subst h
    refine J.assign rfl rfl ?_
    refine J.nil ?_
    refine JX.thenN (hK1 _ _ ?_)
    refine JC.ret ?_
    refine JX.ret1 rfl rfl (fun w1 hw => ?_)
    exact ⟨rfl, hw.same hw0 (fun p hp => hp)⟩

theorem lo_byte' (m : Nat) : Value.int .u8 (IntKind.u8.wrap ((m : Nat) : Int)) = u8 (UInt8.ofNat m) := by
  rw [wrap_u8m]
  show Value.int .u8 _ = Value.int .u8 _
  congr 1
theorem Up.app {l l' L : List (Nat × Obj)} {b : Nat} {o o' : Obj} (h : Up l b o o' l') : Up (L ++ l) b o o' (L ++ l') := by
  induction L with
  | nil => exact h
  | cons x L ih => exact .there ih
theorem if_neg_add {c41 q : Nat} {a41 : Option Addr} : (if c41 - q = 0 then (if c41 = q then a41 else a41.map (·.add (q * 1))) else (if c41 = q then a41 else a41.map (·.add (q * 1))).map (·.add (0 * 1))) = (if c41 = q then a41 else a41.map (·.add (q * 1))) := by
  have h0 : ∀ x : Addr, x.add (0 * 1) = x := by intro x; simp [Addr.add]
  split
  · rfl
  · generalize (if c41 = q then a41 else a41.map (·.add (q * 1))) = y
    cases y with
    | none => rfl
    | some y => rw [Option.map_some, h0]

theorem rappend_spec (lb r n : Nat) (q : LogP) (down : Bool) (v : Value) (lp : List (Nat × Obj)) (B rec_ : List UInt8) (p k : Int) (a : Option Addr) (m c : Nat) (w : World) (hw0 : Own w ((lb, rlO r q down) :: (r, rfO v p k) :: lp)) (hv : Vec 5 1 v (64 * n) (B.map u8) lp) (hB : B.length = 64 * n) (hn : n ≤ 4096) (hn3 : 3 ≤ n) (hg : q.gen < 9223372036854775808) (hu : q.used ≤ n - 2) (hcn : q.cnt ≤ q.used) (hk : 0 ≤ k) (hk2 : k < 4611686018427380000) (hp : p < 9223372036854775808) (hml : rec_.length = m) (hm47 : m ≤ 140737488351232) (hr : Row w (.slice a m c) m (rec_.map u8)) (hoff : Off (lb :: r :: lp.map (·.1)) (.slice a m c) (rec_.map u8)) :
    Calls Try.prog 37 [.pointer (some ⟨lb, 0, none⟩), .slice a m c].toArray w fun ρ w' => match appendP n q down ⟨B, p, k⟩ rec_ with
      | (e, q', down', σ') => ∃ lp', ρ = .returned (.int .i64 e) ∧ Vec 5 1 v (64 * n) (σ'.B.map u8) lp' ∧ St w (lb :: r :: lp.map (·.1)) ((lb, rlO r q' down') :: (r, rfO v σ'.p σ'.k) :: lp') w' := by
  obtain ⟨gen, used, cnt_, recs⟩ := q
  simp only at hg hu hcn
  subst hml
  obtain ⟨a0, c0, rfl, hc0⟩ := hv.form
  refine calls_of_J (args := [.pointer (some ⟨lb, 0, none⟩), .slice a rec_.length c]) (e := [(0, .pointer (some ⟨lb, 0, none⟩)), (1, .slice a rec_.length c)]) Try.func37 rfl rfl ⟨rfl, rfl, trivial⟩ (show St w (lb :: r :: lp.map (·.1)) ((lb, cb [.pointer (some ⟨r, 0, none⟩), .int .u64 ((gen : Nat) : Int), .int .i64 ((used : Nat) : Int), .int .i64 ((cnt_ : Nat) : Int), .bool down] 67) :: (r, rfO (.slice a0 (64 * n) c0) (p) (k)) :: lp) w from hw0.st) ?_
  refine JC.seq (fun K0 hK0 => ?_)
  refine JC.region ?_
  refine J.assign rfl rfl ?_
  refine J.nil ?_
  refine JX.thenN (hK0 _ _ ?_)
  refine JC.seq (fun K1 hK1 => ?_)
  refine JC.seq (fun K2 hK2 => ?_)
  refine JC.region ?_
  refine J.move rfl rfl ?_
  refine J.nilCheck rfl rfl ?_
  refine J.fieldAddr Ty.fd67_4 rfl rfl ?_
  (first | refine J.loadO Ty.a4 rfl (.head _) rfl rfl ?_ | refine J.loadO Ty.a4 rfl (.tail _ (.head _)) rfl rfl ?_ | refine J.loadO Ty.a4 rfl (.tail _ (.tail _ (.head _))) rfl rfl ?_ | refine J.loadO Ty.a4 rfl (.tail _ (.tail _ (.tail _ (.head _)))) rfl rfl ?_ | refine J.loadO Ty.a4 rfl (.tail _ (.tail _ (.tail _ (.tail _ (.head _))))) rfl rfl ?_ | refine J.loadO Ty.a4 rfl (List.mem_append_right _ (.head _)) rfl rfl ?_ | refine J.loadO Ty.a4 rfl (List.mem_append_right _ (.tail _ (.head _))) rfl rfl ?_ | refine J.loadO Ty.a4 rfl (List.mem_append_right _ (.tail _ (.tail _ (.head _)))) rfl rfl ?_ | refine J.loadO Ty.a4 rfl (List.mem_append_right _ (.tail _ (.tail _ (.tail _ (.head _))))) rfl rfl ?_ | refine J.loadO Ty.a4 rfl (List.mem_append_right _ (.tail _ (.tail _ (.tail _ (.tail _ (.head _)))))) rfl rfl ?_)
  refine J.nil ?_
  refine JX.thenN (hK2 _ _ ?_)
  refine JC.cond rfl (fun h0 => ?_) (fun h0 => ?_)
  · skip
    have happ := @appendP_down n ⟨gen, used, cnt_, recs⟩ ⟨B, p, k⟩ rec_
    subst h0
    refine JC.seq (fun K3 hK3 => ?_)
    refine JC.region ?_
    refine J.assign rfl rfl ?_
    refine J.nil ?_
    refine JX.thenN (hK3 _ _ ?_)
    refine JC.ret ?_
    refine JX.thenR ?_
    refine JX.ret1 rfl rfl (fun w1 hw => ?_)
    rw [happ]
    first
    | exact ⟨lp, rfl, hv, hw⟩
    | exact ⟨lp1, rfl, hv1, hw.drop (.cons_cons _ (.cons_cons _ (List.sublist_append_left _ _)))⟩
    | exact ⟨lp2, rfl, hv2, hw.drop (.cons_cons _ (.cons_cons _ (List.sublist_append_left _ _)))⟩
  · skip
    subst h0
    refine JC.skip ?_
    refine JX.thenN (hK1 _ _ ?_)
    refine JC.seq (fun K4 hK4 => ?_)
    refine JC.seq (fun K5 hK5 => ?_)
    refine JC.region ?_
    refine J.move rfl rfl ?_
    refine J.lenS rfl Ty.u28 rfl rfl ?_
    refine J.bin rfl rfl rfl rfl ?_
    refine J.nil ?_
    refine JX.thenN (hK5 _ _ ?_)
    refine JC.cond rfl (fun h1 => ?_) (fun h1 => ?_)
    · skip
      have happ := appendP_long (n := n) (q := ⟨gen, used, cnt_, recs⟩) (σ := ⟨B, p, k⟩) (rec_ := rec_) (by simp at h1; omega)
      refine JC.seq (fun K6 hK6 => ?_)
      refine JC.region ?_
      refine J.assign rfl rfl ?_
      refine J.nil ?_
      refine JX.thenN (hK6 _ _ ?_)
      refine JC.ret ?_
      refine JX.thenR ?_
      refine JX.ret1 rfl rfl (fun w1 hw => ?_)
      rw [happ]
      first
      | exact ⟨lp, rfl, hv, hw⟩
      | exact ⟨lp1, rfl, hv1, hw.drop (.cons_cons _ (.cons_cons _ (List.sublist_append_left _ _)))⟩
      | exact ⟨lp2, rfl, hv2, hw.drop (.cons_cons _ (.cons_cons _ (List.sublist_append_left _ _)))⟩
    · skip
      have hlong : ¬ 1024 < rec_.length := by simp at h1; omega
      have hnd : 1 ≤ needN rec_.length ∧ needN rec_.length ≤ 18 := by unfold needN; omega
      have hpl := payload_length rec_
      refine JC.skip ?_
      refine JX.thenN (hK4 _ _ ?_)
      refine JC.seq (fun K7 hK7 => ?_)
      refine JC.region ?_
      refine J.move rfl rfl ?_
      refine J.callB (fun w1 w2 hw hb => hw.step hb) Ty.bd42 rfl rfl (fun w1 hw => rsectors_spec a rec_.length c w1 (by omega)) ?_
      refine J.assign rfl rfl ?_
      refine J.nil ?_
      refine JX.thenN (hK7 _ _ ?_)
      refine JC.seq (fun K8 hK8 => ?_)
      refine JC.seq (fun K9 hK9 => ?_)
      refine JC.region ?_
      refine J.move rfl rfl ?_
      refine J.move rfl rfl ?_
      refine J.callB (fun w1 w2 hw hb => hw.step hb) Ty.bd36 rfl rfl (fun w1 hw => rroom_spec lb r n ⟨gen, used, cnt_, recs⟩ false a0 c0 p k w1 hw.owns' hn (by simp only; omega)) ?_
      refine J.bin rfl rfl rfl rfl ?_
      refine J.nil ?_
      refine JX.thenN (hK9 _ _ ?_)
      refine JC.cond rfl (fun h2 => ?_) (fun h2 => ?_)
      · skip
        have happ := appendP_full (n := n) (q := ⟨gen, used, cnt_, recs⟩) (σ := ⟨B, p, k⟩) (rec_ := rec_) hlong (by simp at h2 ⊢; omega)
        refine JC.seq (fun K10 hK10 => ?_)
        refine JC.region ?_
        refine J.assign rfl rfl ?_
        refine J.nil ?_
        refine JX.thenN (hK10 _ _ ?_)
        refine JC.ret ?_
        refine JX.thenR ?_
        refine JX.ret1 rfl rfl (fun w1 hw => ?_)
        rw [happ]
        first
        | exact ⟨lp, rfl, hv, hw⟩
        | exact ⟨lp1, rfl, hv1, hw.drop (.cons_cons _ (.cons_cons _ (List.sublist_append_left _ _)))⟩
        | exact ⟨lp2, rfl, hv2, hw.drop (.cons_cons _ (.cons_cons _ (List.sublist_append_left _ _)))⟩
      · skip
        have hfull : ¬ n - 2 - used < needN rec_.length := by simp at h2; omega
        refine JC.skip ?_
        refine JX.thenN (hK8 _ _ ?_)
        refine JC.seq (fun K11 hK11 => ?_)
        refine JC.region ?_
        refine J.move rfl rfl ?_
        refine J.lenS rfl Ty.u28 rfl rfl ?_
        refine J.quoN rfl rfl (by omega) (by omega) (by omega) rfl ?_
        refine J.convInt Ty.u3 Ty.u5 rfl rfl ?_
        refine J.name 34 rfl (show _ = u8 (UInt8.ofNat (rec_.length / 256)) from lo_byte' _) ?_
        refine J.move rfl rfl ?_
        refine J.lenS rfl Ty.u28 rfl rfl ?_
        refine J.remN rfl rfl (by omega) (by omega) rfl ?_
        refine J.convInt Ty.u3 Ty.u5 rfl rfl ?_
        refine J.name 38 rfl (show _ = u8 (UInt8.ofNat (rec_.length % 256)) from lo_byte' _) ?_
        refine J.buildSl Ty.el28 Ty.s5 Ty.z5 rfl rfl rfl rfl rfl rfl rfl (fun b39 => ?_)
        refine J.move rfl rfl ?_
        refine J.append (lp := [(b39, cb [u8 (UInt8.ofNat (rec_.length / 256)), u8 (UInt8.ofNat (rec_.length % 256))] 5)]) (xs := [u8 (UInt8.ofNat (rec_.length / 256)), u8 (UInt8.ofNat (rec_.length % 256))]) (ys := rec_.map u8) (k := 2) (m := rec_.length) Ty.el28 Ty.s5 Ty.b5 Ty.z5 rfl (.inl ⟨5, Ty.u28⟩) rfl rfl ⟨rfl, .inr ⟨b39, 2, [], rfl, rfl, rfl, Nat.le_refl _⟩⟩ (fun w1 hw => .inl (hr.st hoff hw)) (by simp) (one_u8 _) (by omega) (by omega) rfl (fun v41 lp41 hv41 => ?_)
        obtain ⟨a41, c41, rfl, hc41⟩ := hv41.form
        have hv41 : Vec 5 1 (.slice a41 (2 + rec_.length) c41) (2 + rec_.length) ((payload rec_).map u8) lp41 := hv41
        refine J.perm ((lb, cb [.pointer (some ⟨r, 0, none⟩), .int .u64 ((gen : Nat) : Int), .int .i64 ((used : Nat) : Int), .int .i64 ((cnt_ : Nat) : Int), .bool false] 67) :: (r, rfO (.slice a0 (64 * n) c0) (p) (k)) :: (lp ++ lp41)) (by (refine perm_cnt (fun _ => ?_)); simp only [cntB_append, cntB_cons, cntB_nil, Nat.add_zero, Nat.zero_add]; try ac_rfl) ?_
        refine J.assign rfl rfl ?_
        refine J.nil ?_
        refine JX.thenN (hK11 _ _ ?_)
        refine JC.seq (fun K12 hK12 => ?_)
        refine JC.seq (fun K13 hK13 => ?_)
        refine JC.region ?_
        refine J.assign rfl rfl ?_
        refine J.nil ?_
        refine JX.thenN (hK13 _ _ ?_)
        refine JC.block ?_
        refine JC.conseq (JC.cov (f := (fun st => [(0, .pointer (some ⟨lb, 0, none⟩)), (1, .slice a rec_.length c), (5, .int .i64 ((needN rec_.length : Nat) : Int)), (6, .slice a41 (2 + rec_.length) c41), (7, .int .i64 ((st.1 : Nat) : Int))]) ((0, B, p, k, lp) : Nat × List UInt8 × Int × Int × List (Nat × Obj))) ⟨rfl, rfl, rfl, rfl, rfl, trivial⟩ (JC.loop (α := Nat × List UInt8 × Int × Int × List (Nat × Obj)) (fun st => [(0, .pointer (some ⟨lb, 0, none⟩)), (1, .slice a rec_.length c), (5, .int .i64 ((needN rec_.length : Nat) : Int)), (6, .slice a41 (2 + rec_.length) c41), (7, .int .i64 ((st.1 : Nat) : Int))]) (fun st w' => (st.1 ≤ needN rec_.length ∧ st.2.1.length = 64 * n ∧ 0 ≤ st.2.2.2.1 ∧ st.2.2.2.1 ≤ k + st.1 ∧ st.2.2.1 < 9223372036854775808 ∧ Vec 5 1 (.slice a0 (64 * n) c0) (64 * n) (st.2.1.map u8) st.2.2.2.2 ∧ dws ⟨B, p, k⟩ (planP gen used cnt_ rec_) = dws ⟨st.2.1, st.2.2.1, st.2.2.2.1⟩ ((planP gen used cnt_ rec_).drop st.1)) ∧ St w (lb :: r :: lp.map (·.1)) ((lb, cb [.pointer (some ⟨r, 0, none⟩), .int .u64 ((gen : Nat) : Int), .int .i64 ((used : Nat) : Int), .int .i64 ((cnt_ : Nat) : Int), .bool false] 67) :: (r, rfO (.slice a0 (64 * n) c0) (st.2.2.1) (st.2.2.2.1)) :: (st.2.2.2.2 ++ lp41)) w') (fun st => needN rec_.length - st.1) ((0, B, p, k, lp) : Nat × List UInt8 × Int × Int × List (Nat × Obj)) (fun st => ?_))) (fun w hw => ⟨⟨Nat.zero_le _, hB, hk, by simp, hp, hv, rfl⟩, hw⟩)
        obtain ⟨i, B1, p1, k1, lp1⟩ := st
        refine JC.pr (fun hx => ?_)
        obtain ⟨hi, hB1, hk10, hk11, hp1, hv1, hdw⟩ := hx
        simp only at hi hB1 hk10 hk11 hp1 hv1 hdw ⊢
        refine JC.seq (fun K14 hK14 => ?_)
        refine JC.seq (fun K15 hK15 => ?_)
        refine JC.region ?_
        refine J.move rfl rfl ?_
        refine J.move rfl rfl ?_
        refine J.bin rfl rfl rfl rfl ?_
        refine J.nil ?_
        refine JX.thenN (hK15 _ _ ?_)
        refine JC.cond rfl (fun h3 => ?_) (fun h3 => ?_)
        · skip
          have hlt : i < needN rec_.length := by simp at h3; omega
          have hlt64 : 64 * i < 2 + rec_.length := by unfold needN at hlt; omega
          refine JC.skip ?_
          refine JX.thenN (hK14 _ _ ?_)
          refine JC.seq (fun K16 hK16 => ?_)
          refine JC.block ?_
          refine JC.seq (fun K17 hK17 => ?_)
          refine JC.region ?_
          refine J.move rfl rfl ?_
          refine J.move rfl rfl ?_
          refine J.mulN rfl rfl (by omega) (by omega) rfl ?_
          refine J.sliceS (i := 64 * i) (j := 2 + rec_.length) Ty.el28 Ty.s5 rfl rfl rfl (by simp only [bnd]; rw [if_pos (by omega)]; congr 1 <;> omega) rfl (by omega) (by omega) (by omega) rfl ?_
          refine J.assign rfl rfl ?_
          refine J.nil ?_
          refine JX.thenN (hK17 _ _ ?_)
          refine JC.seqCut (α := Unit) (fun _ => [(0, .pointer (some ⟨lb, 0, none⟩)), (1, .slice a rec_.length c), (5, .int .i64 ((needN rec_.length : Nat) : Int)), (6, .slice a41 (2 + rec_.length) c41), (7, .int .i64 ((i : Nat) : Int)), (8, .slice (if c41 = 64 * i then a41 else a41.map (·.add (64 * i * 1))) (min (64 * (i + 1)) (2 + rec_.length) - 64 * i) (c41 - 64 * i))]) (fun _ w' => St w (lb :: r :: lp.map (·.1)) ((lb, cb [.pointer (some ⟨r, 0, none⟩), .int .u64 ((gen : Nat) : Int), .int .i64 ((used : Nat) : Int), .int .i64 ((cnt_ : Nat) : Int), .bool false] 67) :: (r, rfO (.slice a0 (64 * n) c0) (p1) (k1)) :: (lp1 ++ lp41)) w') (fun _ => ?_) (fun K18 hK18 => ?_)
          · skip
            refine JC.seq (fun K19 hK19 => ?_)
            by_cases hp0 : p1 = 0
            · skip
              subst hp0
              have happ := appendP_torn (n := n) (q := ⟨gen, used, cnt_, recs⟩) (σ := ⟨B, p, k⟩) hlong hfull (hdw.trans (by rw [plan_at hlt]; exact dws_cons_torn))
              apply JC.drawL 12 [Eqv _, Eqv _, Eqv _, Eqv _, Eqv _, Eqv _, Eqv _, Eqv _, Eqv _, Eqv _, Eqv _, Eqv _] Ty.mixed rfl rfl rfl (by kernel_rfl) rfl rfl (fun w w' hw hb => hw.step hb) ⟨fun _ _ _ h _ => h, fun _ _ _ h _ => h, fun _ _ _ h _ => h, fun _ _ _ h _ => h, fun _ _ _ h _ => h, fun _ _ _ h _ => h, fun _ _ _ h _ => h, fun _ _ _ h _ => h, fun _ _ _ h _ => h, fun _ _ _ h _ => h, fun _ _ _ h _ => h, fun _ _ _ h _ => h, trivial⟩ ?hstep ?htail
              case hstep =>
                refine ⟨fun wi => ?_, fun wi => ?_, fun wi => ?_, fun wi => ?_, fun wi => ?_, fun wi => ?_, fun wi => ?_, fun wi => ?_, fun wi => ?_, fun wi => ?_, fun wi => ?_, fun wi => ?_, trivial⟩
                · skip
                  refine Fin.nil ?_
                  refine J.move rfl rfl ?_
                  refine J.nil (JX.fin rfl (fun w hw => ⟨rfl, (by rw [hw.1]; exact Below.refl _ _)⟩))
                · skip
                  refine Fin.cons (fun v15_0 => ?_)
                  refine Fin.nil ?_
                  refine J.prE (fun h => ?_); subst h
                  refine J.nilCheck rfl rfl ?_
                  refine J.nil (JX.fin rfl (fun w hw => ⟨rfl, (by rw [hw.1]; exact Below.refl _ _)⟩))
                · skip
                  refine Fin.cons (fun v15_1 => ?_)
                  refine Fin.nil ?_
                  refine J.prE (fun h => ?_); subst h
                  refine J.fieldAddr Ty.fd67_0 rfl rfl ?_
                  refine J.nil (JX.fin rfl (fun w hw => ⟨rfl, (by rw [hw.1]; exact Below.refl _ _)⟩))
                · skip
                  refine Fin.cons (fun v15_2 => ?_)
                  refine Fin.nil ?_
                  refine J.prE (fun h => ?_); subst h
                  (first | refine J.load1 Ty.a25 rfl (fun w hw => (cell_of (hw.2.own _ (.head _))).trans rfl) rfl ?_ | refine J.load1 Ty.a25 rfl (fun w hw => (cell_of (hw.2.own _ (.tail _ (.head _)))).trans rfl) rfl ?_ | refine J.load1 Ty.a25 rfl (fun w hw => (cell_of (hw.2.own _ (.tail _ (.tail _ (.head _))))).trans rfl) rfl ?_ | refine J.load1 Ty.a25 rfl (fun w hw => (cell_of (hw.2.own _ (.tail _ (.tail _ (.tail _ (.head _)))))).trans rfl) rfl ?_ | refine J.load1 Ty.a25 rfl (fun w hw => (cell_of (hw.2.own _ (.tail _ (.tail _ (.tail _ (.tail _ (.head _))))))).trans rfl) rfl ?_ | refine J.load1 Ty.a25 rfl (fun w hw => (cell_of (hw.2.own _ (List.mem_append_right _ (.head _)))).trans rfl) rfl ?_ | refine J.load1 Ty.a25 rfl (fun w hw => (cell_of (hw.2.own _ (List.mem_append_right _ (.tail _ (.head _))))).trans rfl) rfl ?_ | refine J.load1 Ty.a25 rfl (fun w hw => (cell_of (hw.2.own _ (List.mem_append_right _ (.tail _ (.tail _ (.head _)))))).trans rfl) rfl ?_ | refine J.load1 Ty.a25 rfl (fun w hw => (cell_of (hw.2.own _ (List.mem_append_right _ (.tail _ (.tail _ (.tail _ (.head _))))))).trans rfl) rfl ?_ | refine J.load1 Ty.a25 rfl (fun w hw => (cell_of (hw.2.own _ (List.mem_append_right _ (.tail _ (.tail _ (.tail _ (.tail _ (.head _)))))))).trans rfl) rfl ?_)
                  refine J.nil (JX.fin rfl (fun w hw => ⟨rfl, (by rw [hw.1]; exact Below.refl _ _)⟩))
                · skip
                  refine Fin.nil ?_
                  refine J.move rfl rfl ?_
                  refine J.nil (JX.fin rfl (fun w hw => ⟨rfl, (by rw [hw.1]; exact Below.refl _ _)⟩))
                · skip
                  refine Fin.cons (fun v15_4 => ?_)
                  refine Fin.nil ?_
                  refine J.prE (fun h => ?_); subst h
                  refine J.nilCheck rfl rfl ?_
                  refine J.nil (JX.fin rfl (fun w hw => ⟨rfl, (by rw [hw.1]; exact Below.refl _ _)⟩))
                · skip
                  refine Fin.cons (fun v15_5 => ?_)
                  refine Fin.nil ?_
                  refine J.prE (fun h => ?_); subst h
                  refine J.fieldAddr Ty.fd67_2 rfl rfl ?_
                  refine J.nil (JX.fin rfl (fun w hw => ⟨rfl, (by rw [hw.1]; exact Below.refl _ _)⟩))
                · skip
                  refine Fin.cons (fun v15_6 => ?_)
                  refine Fin.nil ?_
                  refine J.prE (fun h => ?_); subst h
                  (first | refine J.load1 Ty.a3 rfl (fun w hw => (cell_of (hw.2.own _ (.head _))).trans rfl) rfl ?_ | refine J.load1 Ty.a3 rfl (fun w hw => (cell_of (hw.2.own _ (.tail _ (.head _)))).trans rfl) rfl ?_ | refine J.load1 Ty.a3 rfl (fun w hw => (cell_of (hw.2.own _ (.tail _ (.tail _ (.head _))))).trans rfl) rfl ?_ | refine J.load1 Ty.a3 rfl (fun w hw => (cell_of (hw.2.own _ (.tail _ (.tail _ (.tail _ (.head _)))))).trans rfl) rfl ?_ | refine J.load1 Ty.a3 rfl (fun w hw => (cell_of (hw.2.own _ (.tail _ (.tail _ (.tail _ (.tail _ (.head _))))))).trans rfl) rfl ?_ | refine J.load1 Ty.a3 rfl (fun w hw => (cell_of (hw.2.own _ (List.mem_append_right _ (.head _)))).trans rfl) rfl ?_ | refine J.load1 Ty.a3 rfl (fun w hw => (cell_of (hw.2.own _ (List.mem_append_right _ (.tail _ (.head _))))).trans rfl) rfl ?_ | refine J.load1 Ty.a3 rfl (fun w hw => (cell_of (hw.2.own _ (List.mem_append_right _ (.tail _ (.tail _ (.head _)))))).trans rfl) rfl ?_ | refine J.load1 Ty.a3 rfl (fun w hw => (cell_of (hw.2.own _ (List.mem_append_right _ (.tail _ (.tail _ (.tail _ (.head _))))))).trans rfl) rfl ?_ | refine J.load1 Ty.a3 rfl (fun w hw => (cell_of (hw.2.own _ (List.mem_append_right _ (.tail _ (.tail _ (.tail _ (.tail _ (.head _)))))))).trans rfl) rfl ?_)
                  refine J.nil (JX.fin rfl (fun w hw => ⟨rfl, (by rw [hw.1]; exact Below.refl _ _)⟩))
                · skip
                  refine Fin.cons (fun v15_7 => ?_)
                  refine Fin.nil ?_
                  refine J.prE (fun h => ?_); subst h
                  refine J.addN rfl rfl (by omega) (by omega) rfl ?_
                  refine J.nil (JX.fin rfl (fun w hw => ⟨rfl, (by rw [hw.1]; exact Below.refl _ _)⟩))
                · skip
                  refine Fin.nil ?_
                  refine J.move rfl rfl ?_
                  refine J.nil (JX.fin rfl (fun w hw => ⟨rfl, (by rw [hw.1]; exact Below.refl _ _)⟩))
                · skip
                  refine Fin.cons (fun v15_8 => ?_)
                  refine Fin.cons (fun v15_9 => ?_)
                  refine Fin.nil ?_
                  refine J.prE (fun h => ?_); subst h
                  refine J.prE (fun h => ?_); subst h
                  refine J.addN rfl rfl (by omega) (by omega) rfl ?_
                  refine J.name 66 rfl (show Value.int .i64 _ = .int .i64 ((2 + used + i : Nat) : Int) by congr 1) ?_
                  refine J.nil (JX.fin rfl (fun w hw => ⟨rfl, (by rw [hw.1]; exact Below.refl _ _)⟩))
                · skip
                  refine Fin.nil ?_
                  refine J.move rfl rfl ?_
                  refine J.nil (JX.fin rfl (fun w hw => ⟨rfl, (by rw [hw.1]; exact Below.refl _ _)⟩))
              case htail =>
                refine Fin.cons (fun v15_0 => ?_)
                refine Fin.cons (fun v15_1 => ?_)
                refine Fin.cons (fun v15_2 => ?_)
                refine Fin.cons (fun v15_3 => ?_)
                refine Fin.cons (fun v15_4 => ?_)
                refine Fin.cons (fun v15_5 => ?_)
                refine Fin.cons (fun v15_6 => ?_)
                refine Fin.cons (fun v15_7 => ?_)
                refine Fin.cons (fun v15_8 => ?_)
                refine Fin.cons (fun v15_9 => ?_)
                refine Fin.cons (fun v15_10 => ?_)
                refine Fin.cons (fun v15_11 => ?_)
                refine Fin.nil ?_
                refine J.prE (fun h => ?_); subst h
                refine J.prE (fun h => ?_); subst h
                refine J.prE (fun h => ?_); subst h
                refine J.prE (fun h => ?_); subst h
                refine J.prE (fun h => ?_); subst h
                refine J.prE (fun h => ?_); subst h
                refine J.prE (fun h => ?_); subst h
                refine J.prE (fun h => ?_); subst h
                refine J.prE (fun h => ?_); subst h
                refine J.prE (fun h => ?_); subst h
                refine J.prE (fun h => ?_); subst h
                refine J.prE (fun h => ?_); subst h
                refine J.perm ((r, rfO (.slice a0 (64 * n) c0) (0) (k1)) :: (lp1 ++ ((lb, cb [.pointer (some ⟨r, 0, none⟩), .int .u64 ((gen : Nat) : Int), .int .i64 ((used : Nat) : Int), .int .i64 ((cnt_ : Nat) : Int), .bool false] 67) :: lp41))) (by (refine perm_cnt (fun _ => ?_)); simp only [cntB_append, cntB_cons, cntB_nil, Nat.add_zero, Nat.zero_add]; try ac_rfl) ?_
                refine J.callB (fun w1 w2 hw hb => hw.step hb) Ty.bd18 rfl rfl (fun w1 hw => rwrite_down r n _ lp1 B1 k1 w1 (St.owns (l1 := (r, rfO (.slice a0 (64 * n) c0) (0) (k1)) :: lp1) hw) hv1 hn ((2 + used + i : Nat) : Int) _ (min (64 * (i + 1)) (2 + rec_.length) - 64 * i) (c41 - 64 * i) (by omega) (by omega) (by omega)) ?_
                refine J.perm ((lb, cb [.pointer (some ⟨r, 0, none⟩), .int .u64 ((gen : Nat) : Int), .int .i64 ((used : Nat) : Int), .int .i64 ((cnt_ : Nat) : Int), .bool false] 67) :: (r, rfO (.slice a0 (64 * n) c0) (0) (k1)) :: (lp1 ++ lp41)) (by (refine perm_cnt (fun _ => ?_)); simp only [cntB_append, cntB_cons, cntB_nil, Nat.add_zero, Nat.zero_add]; try ac_rfl) ?_
                refine J.assign rfl rfl ?_
                refine J.nil ?_
                refine JX.thenN (hK19 _ _ ?_)
                refine JC.seq (fun K20 hK20 => ?_)
                refine JC.region ?_
                refine J.move rfl rfl ?_
                refine J.bin rfl rfl rfl rfl ?_
                refine J.nil ?_
                refine JX.thenN (hK20 _ _ ?_)
                first | refine JC.condT rfl ?_ | refine JC.cond rfl (fun _ => ?_) (fun h => by first | (exfalso; simp at h; omega) | (simp at h))
                refine JC.seq (fun K21 hK21 => ?_)
                refine JC.region ?_
                refine J.move rfl rfl ?_
                refine J.nilCheck rfl rfl ?_
                refine J.fieldAddr Ty.fd67_4 rfl rfl ?_
                (first | refine J.storeO Ty.s4 rfl rfl rfl rfl (by simp [Value.oneCell']) .here (by simp) ?_ | refine J.storeO Ty.s4 rfl rfl rfl rfl (by simp [Value.oneCell']) (.there .here) (by simp) ?_ | refine J.storeO Ty.s4 rfl rfl rfl rfl (by simp [Value.oneCell']) (.there (.there .here)) (by simp) ?_ | refine J.storeO Ty.s4 rfl rfl rfl rfl (by simp [Value.oneCell']) (.there (.there (.there .here))) (by simp) ?_)
                refine J.nil ?_
                refine JX.thenN (hK21 _ _ ?_)
                refine JC.seq (fun K22 hK22 => ?_)
                refine JC.region ?_
                refine J.move rfl rfl ?_
                refine J.assign rfl rfl ?_
                refine J.nil ?_
                refine JX.thenN (hK22 _ _ ?_)
                refine JC.ret ?_
                refine JX.blockR ?_
                refine JX.thenR ?_
                refine JX.thenR ?_
                refine JX.blockR ?_
                refine JX.thenR ?_
                refine JX.ret1 rfl rfl (fun w1 hw => ?_)
                rw [happ]
                first
                | exact ⟨lp, rfl, hv, hw⟩
                | exact ⟨lp1, rfl, hv1, hw.drop (.cons_cons _ (.cons_cons _ (List.sublist_append_left _ _)))⟩
                | exact ⟨lp2, rfl, hv2, hw.drop (.cons_cons _ (.cons_cons _ (List.sublist_append_left _ _)))⟩
            · skip
              apply JC.drawL 12 [Eqv _, Eqv _, Eqv _, Eqv _, Eqv _, Eqv _, Eqv _, Eqv _, Eqv _, Eqv _, Eqv _, Eqv _] Ty.mixed rfl rfl rfl (by kernel_rfl) rfl rfl (fun w w' hw hb => hw.step hb) ⟨fun _ _ _ h _ => h, fun _ _ _ h _ => h, fun _ _ _ h _ => h, fun _ _ _ h _ => h, fun _ _ _ h _ => h, fun _ _ _ h _ => h, fun _ _ _ h _ => h, fun _ _ _ h _ => h, fun _ _ _ h _ => h, fun _ _ _ h _ => h, fun _ _ _ h _ => h, fun _ _ _ h _ => h, trivial⟩ ?hstep ?htail
              case hstep =>
                refine ⟨fun wi => ?_, fun wi => ?_, fun wi => ?_, fun wi => ?_, fun wi => ?_, fun wi => ?_, fun wi => ?_, fun wi => ?_, fun wi => ?_, fun wi => ?_, fun wi => ?_, fun wi => ?_, trivial⟩
                · skip
                  refine Fin.nil ?_
                  refine J.move rfl rfl ?_
                  refine J.nil (JX.fin rfl (fun w hw => ⟨rfl, (by rw [hw.1]; exact Below.refl _ _)⟩))
                · skip
                  refine Fin.cons (fun v15_0 => ?_)
                  refine Fin.nil ?_
                  refine J.prE (fun h => ?_); subst h
                  refine J.nilCheck rfl rfl ?_
                  refine J.nil (JX.fin rfl (fun w hw => ⟨rfl, (by rw [hw.1]; exact Below.refl _ _)⟩))
                · skip
                  refine Fin.cons (fun v15_1 => ?_)
                  refine Fin.nil ?_
                  refine J.prE (fun h => ?_); subst h
                  refine J.fieldAddr Ty.fd67_0 rfl rfl ?_
                  refine J.nil (JX.fin rfl (fun w hw => ⟨rfl, (by rw [hw.1]; exact Below.refl _ _)⟩))
                · skip
                  refine Fin.cons (fun v15_2 => ?_)
                  refine Fin.nil ?_
                  refine J.prE (fun h => ?_); subst h
                  (first | refine J.load1 Ty.a25 rfl (fun w hw => (cell_of (hw.2.own _ (.head _))).trans rfl) rfl ?_ | refine J.load1 Ty.a25 rfl (fun w hw => (cell_of (hw.2.own _ (.tail _ (.head _)))).trans rfl) rfl ?_ | refine J.load1 Ty.a25 rfl (fun w hw => (cell_of (hw.2.own _ (.tail _ (.tail _ (.head _))))).trans rfl) rfl ?_ | refine J.load1 Ty.a25 rfl (fun w hw => (cell_of (hw.2.own _ (.tail _ (.tail _ (.tail _ (.head _)))))).trans rfl) rfl ?_ | refine J.load1 Ty.a25 rfl (fun w hw => (cell_of (hw.2.own _ (.tail _ (.tail _ (.tail _ (.tail _ (.head _))))))).trans rfl) rfl ?_ | refine J.load1 Ty.a25 rfl (fun w hw => (cell_of (hw.2.own _ (List.mem_append_right _ (.head _)))).trans rfl) rfl ?_ | refine J.load1 Ty.a25 rfl (fun w hw => (cell_of (hw.2.own _ (List.mem_append_right _ (.tail _ (.head _))))).trans rfl) rfl ?_ | refine J.load1 Ty.a25 rfl (fun w hw => (cell_of (hw.2.own _ (List.mem_append_right _ (.tail _ (.tail _ (.head _)))))).trans rfl) rfl ?_ | refine J.load1 Ty.a25 rfl (fun w hw => (cell_of (hw.2.own _ (List.mem_append_right _ (.tail _ (.tail _ (.tail _ (.head _))))))).trans rfl) rfl ?_ | refine J.load1 Ty.a25 rfl (fun w hw => (cell_of (hw.2.own _ (List.mem_append_right _ (.tail _ (.tail _ (.tail _ (.tail _ (.head _)))))))).trans rfl) rfl ?_)
                  refine J.nil (JX.fin rfl (fun w hw => ⟨rfl, (by rw [hw.1]; exact Below.refl _ _)⟩))
                · skip
                  refine Fin.nil ?_
                  refine J.move rfl rfl ?_
                  refine J.nil (JX.fin rfl (fun w hw => ⟨rfl, (by rw [hw.1]; exact Below.refl _ _)⟩))
                · skip
                  refine Fin.cons (fun v15_4 => ?_)
                  refine Fin.nil ?_
                  refine J.prE (fun h => ?_); subst h
                  refine J.nilCheck rfl rfl ?_
                  refine J.nil (JX.fin rfl (fun w hw => ⟨rfl, (by rw [hw.1]; exact Below.refl _ _)⟩))
                · skip
                  refine Fin.cons (fun v15_5 => ?_)
                  refine Fin.nil ?_
                  refine J.prE (fun h => ?_); subst h
                  refine J.fieldAddr Ty.fd67_2 rfl rfl ?_
                  refine J.nil (JX.fin rfl (fun w hw => ⟨rfl, (by rw [hw.1]; exact Below.refl _ _)⟩))
                · skip
                  refine Fin.cons (fun v15_6 => ?_)
                  refine Fin.nil ?_
                  refine J.prE (fun h => ?_); subst h
                  (first | refine J.load1 Ty.a3 rfl (fun w hw => (cell_of (hw.2.own _ (.head _))).trans rfl) rfl ?_ | refine J.load1 Ty.a3 rfl (fun w hw => (cell_of (hw.2.own _ (.tail _ (.head _)))).trans rfl) rfl ?_ | refine J.load1 Ty.a3 rfl (fun w hw => (cell_of (hw.2.own _ (.tail _ (.tail _ (.head _))))).trans rfl) rfl ?_ | refine J.load1 Ty.a3 rfl (fun w hw => (cell_of (hw.2.own _ (.tail _ (.tail _ (.tail _ (.head _)))))).trans rfl) rfl ?_ | refine J.load1 Ty.a3 rfl (fun w hw => (cell_of (hw.2.own _ (.tail _ (.tail _ (.tail _ (.tail _ (.head _))))))).trans rfl) rfl ?_ | refine J.load1 Ty.a3 rfl (fun w hw => (cell_of (hw.2.own _ (List.mem_append_right _ (.head _)))).trans rfl) rfl ?_ | refine J.load1 Ty.a3 rfl (fun w hw => (cell_of (hw.2.own _ (List.mem_append_right _ (.tail _ (.head _))))).trans rfl) rfl ?_ | refine J.load1 Ty.a3 rfl (fun w hw => (cell_of (hw.2.own _ (List.mem_append_right _ (.tail _ (.tail _ (.head _)))))).trans rfl) rfl ?_ | refine J.load1 Ty.a3 rfl (fun w hw => (cell_of (hw.2.own _ (List.mem_append_right _ (.tail _ (.tail _ (.tail _ (.head _))))))).trans rfl) rfl ?_ | refine J.load1 Ty.a3 rfl (fun w hw => (cell_of (hw.2.own _ (List.mem_append_right _ (.tail _ (.tail _ (.tail _ (.tail _ (.head _)))))))).trans rfl) rfl ?_)
                  refine J.nil (JX.fin rfl (fun w hw => ⟨rfl, (by rw [hw.1]; exact Below.refl _ _)⟩))
                · skip
                  refine Fin.cons (fun v15_7 => ?_)
                  refine Fin.nil ?_
                  refine J.prE (fun h => ?_); subst h
                  refine J.addN rfl rfl (by omega) (by omega) rfl ?_
                  refine J.nil (JX.fin rfl (fun w hw => ⟨rfl, (by rw [hw.1]; exact Below.refl _ _)⟩))
                · skip
                  refine Fin.nil ?_
                  refine J.move rfl rfl ?_
                  refine J.nil (JX.fin rfl (fun w hw => ⟨rfl, (by rw [hw.1]; exact Below.refl _ _)⟩))
                · skip
                  refine Fin.cons (fun v15_8 => ?_)
                  refine Fin.cons (fun v15_9 => ?_)
                  refine Fin.nil ?_
                  refine J.prE (fun h => ?_); subst h
                  refine J.prE (fun h => ?_); subst h
                  refine J.addN rfl rfl (by omega) (by omega) rfl ?_
                  refine J.name 66 rfl (show Value.int .i64 _ = .int .i64 ((2 + used + i : Nat) : Int) by congr 1) ?_
                  refine J.nil (JX.fin rfl (fun w hw => ⟨rfl, (by rw [hw.1]; exact Below.refl _ _)⟩))
                · skip
                  refine Fin.nil ?_
                  refine J.move rfl rfl ?_
                  refine J.nil (JX.fin rfl (fun w hw => ⟨rfl, (by rw [hw.1]; exact Below.refl _ _)⟩))
              case htail =>
                refine Fin.cons (fun v15_0 => ?_)
                refine Fin.cons (fun v15_1 => ?_)
                refine Fin.cons (fun v15_2 => ?_)
                refine Fin.cons (fun v15_3 => ?_)
                refine Fin.cons (fun v15_4 => ?_)
                refine Fin.cons (fun v15_5 => ?_)
                refine Fin.cons (fun v15_6 => ?_)
                refine Fin.cons (fun v15_7 => ?_)
                refine Fin.cons (fun v15_8 => ?_)
                refine Fin.cons (fun v15_9 => ?_)
                refine Fin.cons (fun v15_10 => ?_)
                refine Fin.cons (fun v15_11 => ?_)
                refine Fin.nil ?_
                refine J.prE (fun h => ?_); subst h
                refine J.prE (fun h => ?_); subst h
                refine J.prE (fun h => ?_); subst h
                refine J.prE (fun h => ?_); subst h
                refine J.prE (fun h => ?_); subst h
                refine J.prE (fun h => ?_); subst h
                refine J.prE (fun h => ?_); subst h
                refine J.prE (fun h => ?_); subst h
                refine J.prE (fun h => ?_); subst h
                refine J.prE (fun h => ?_); subst h
                refine J.prE (fun h => ?_); subst h
                refine J.prE (fun h => ?_); subst h
                refine J.perm (((r, rfO (.slice a0 (64 * n) c0) (p1) (k1)) :: lp1) ++ ((lb, cb [.pointer (some ⟨r, 0, none⟩), .int .u64 ((gen : Nat) : Int), .int .i64 ((used : Nat) : Int), .int .i64 ((cnt_ : Nat) : Int), .bool false] 67) :: lp41)) (by (refine perm_cnt (fun _ => ?_)); simp only [cntB_append, cntB_cons, cntB_nil, Nat.add_zero, Nat.zero_add]; try ac_rfl) ?_
                refine J.callS (α := List (Nat × Obj)) (V := fun _ => .int .i64 0) (Pr := fun x => Vec 5 1 (.slice a0 (64 * n) c0) (64 * n) ((put B1 (2 + used + i) (piece (payload rec_) i)).map u8) x) (L := fun x => (r, rfO (.slice a0 (64 * n) c0) (if 0 < p1 then p1 - 1 else p1) (k1 + 1)) :: x) (l1 := (r, rfO (.slice a0 (64 * n) c0) (p1) (k1)) :: lp1) Ty.bd18 rfl rfl
                  (fun w1 hw => rwrite_done r n _ lp1 B1 (piece (payload rec_) i) p1 k1 (2 + used + i) (if c41 = 64 * i then a41 else a41.map (·.add (64 * i * 1))) (min (64 * (i + 1)) (2 + rec_.length) - 64 * i) (c41 - 64 * i) w1 hw.owns hv1 hn hB1 hk10 (by omega) (by omega) (by omega) (by rw [piece_length, payload_length]) (by
                    have h1 := (hv41.row (l := ((lb, cb [.pointer (some ⟨r, 0, none⟩), .int .u64 ((gen : Nat) : Int), .int .i64 ((used : Nat) : Int), .int .i64 ((cnt_ : Nat) : Int), .bool false] 67) :: (r, rfO (.slice a0 (64 * n) c0) (p1) (k1)) :: lp1)) (hw.perm (by (refine perm_cnt (fun _ => ?_)); simp only [cntB_append, cntB_cons, cntB_nil, Nat.add_zero, Nat.zero_add]; try ac_rfl))).slice (sz := 1) (i := 64 * i) (j := min (64 * (i + 1)) (2 + rec_.length)) (by rw [List.length_map, payload_length, Nat.mul_one]) (by omega) (by omega)
                    have h2 : ((payload rec_).drop (64 * i)).take (min (64 * (i + 1)) (2 + rec_.length) - 64 * i) = piece (payload rec_) i := by
                      have h3 : (payload rec_).length = 2 + rec_.length := payload_length rec_
                      rw [piece]
                      by_cases h4 : 64 * (i + 1) ≤ 2 + rec_.length
                      · congr 1; omega
                      · rw [List.take_of_length_le (by simp; omega), List.take_of_length_le (by simp; omega)]
                    have h5 : List.take ((min (64 * (i + 1)) (2 + rec_.length) - 64 * i) * 1) (List.drop (64 * i * 1) ((payload rec_).map u8)) = (piece (payload rec_) i).map u8 := by
                      rw [Nat.mul_one, Nat.mul_one, ← List.map_drop, ← List.map_take, h2]
                    rw [h5] at h1
                    exact h1) (vec_off (l1 := (r, rfO (.slice a0 (64 * n) c0) (p1) (k1)) :: lp1) (l := [(lb, cb [.pointer (some ⟨r, 0, none⟩), .int .u64 ((gen : Nat) : Int), .int .i64 ((used : Nat) : Int), .int .i64 ((cnt_ : Nat) : Int), .bool false] 67)]) hv41 (hw.perm (by (refine perm_cnt (fun _ => ?_)); simp only [cntB_append, cntB_cons, cntB_nil, Nat.add_zero, Nat.zero_add]; try ac_rfl)) _ _ _ _) hp1 hp0) (fun lp2 hv2 => ?_)
                refine J.perm ((lb, cb [.pointer (some ⟨r, 0, none⟩), .int .u64 ((gen : Nat) : Int), .int .i64 ((used : Nat) : Int), .int .i64 ((cnt_ : Nat) : Int), .bool false] 67) :: (r, rfO (.slice a0 (64 * n) c0) (if 0 < p1 then p1 - 1 else p1) (k1 + 1)) :: (lp2 ++ lp41)) (by (refine perm_cnt (fun _ => ?_)); simp only [cntB_append, cntB_cons, cntB_nil, Nat.add_zero, Nat.zero_add]; try ac_rfl) ?_
                refine J.assign rfl rfl ?_
                refine J.nil ?_
                refine JX.thenN (hK19 _ _ ?_)
                refine JC.seq (fun K23 hK23 => ?_)
                refine JC.region ?_
                refine J.move rfl rfl ?_
                refine J.bin rfl rfl rfl rfl ?_
                refine J.nil ?_
                refine JX.thenN (hK23 _ _ ?_)
                first | refine JC.condF rfl ?_ | refine JC.cond rfl (fun h => by first | (exfalso; simp at h; omega) | (simp at h)) (fun _ => ?_)
                refine JC.skip ?_
                refine JX.blockN ?_
                refine JX.thenN (hK16 _ _ ?_)
                refine JC.region ?_
                refine J.move rfl rfl ?_
                (first | refine J.addN rfl rfl (by omega) (by omega) rfl ?_ | refine J.bin rfl rfl rfl rfl ?_)
                refine J.assign rfl rfl ?_
                refine J.nil ?_
                refine JX.thenN ?_
                refine JX.again (i + 1, put B1 (2 + used + i) (piece (payload rec_) i), if 0 < p1 then p1 - 1 else p1, k1 + 1, lp2) ?_ ?_ ?_
                · simp only; omega
                · exact ⟨rfl, rfl, rfl, rfl, rfl, trivial⟩
                · exact fun w1 hw => ⟨⟨hlt, put_length hB1 (by omega) (by rw [piece_length]; omega), by simp only; omega, by simp only; omega, by simp only; split <;> omega, hv2, by simp only; rw [hdw, plan_at hlt, dws_cons hp0]; rfl⟩, hw⟩
          · skip
            refine JC.seq (fun K24 hK24 => ?_)
            refine JC.region ?_
            refine J.move rfl rfl ?_
            refine J.lenS rfl Ty.u28 rfl rfl ?_
            refine J.bin rfl rfl rfl rfl ?_
            refine J.nil ?_
            refine JX.thenN (hK24 _ _ ?_)
            refine JC.cond rfl (fun h4 => ?_) (fun h4 => ?_)
            · skip
              try simp only [decide_eq_true_eq, decide_eq_false_iff_not, beq_iff_eq, bne_iff_ne, bne_eq_false_iff_eq, ne_eq, beq_eq_false_iff_ne, Bool.not_eq_true, Bool.not_eq_false, Int.not_lt, Int.not_le] at h4
              refine JC.region ?_
              refine J.move rfl rfl ?_
              refine J.sliceS (i := 0) (j := 64) Ty.el28 Ty.s5 rfl rfl rfl rfl (by simp [bnd]) (by omega) (by first | omega | (simp at h4; omega)) (by omega) rfl ?_
              refine J.assign rfl rfl ?_
              refine J.nil ?_
              refine JX.thenN ?_
              exact JX.cut (hK18 ()) ⟨rfl, rfl, rfl, rfl, rfl, congrArg some (show Value.slice _ _ _ = Value.slice _ _ _ by
                rw [show min (64 * (i + 1)) (2 + rec_.length) - 64 * i = 64 by first | omega | (simp at h4; omega), if_neg_add]; rfl), trivial⟩ (fun w1 hw => hw)
            · skip
              try simp only [decide_eq_true_eq, decide_eq_false_iff_not, beq_iff_eq, bne_iff_ne, bne_eq_false_iff_eq, ne_eq, beq_eq_false_iff_ne, Bool.not_eq_true, Bool.not_eq_false, Int.not_lt, Int.not_le] at h4
              refine JC.skip ?_
              refine JX.thenN ?_
              exact JX.cut (hK18 ()) ⟨rfl, rfl, rfl, rfl, rfl, congrArg some (show Value.slice _ _ _ = Value.slice _ _ _ by
                rw [show min (64 * (i + 1)) (2 + rec_.length) - 64 * i = 2 + rec_.length - 64 * i by first | omega | (simp at h4; omega)]), trivial⟩ (fun w1 hw => hw)
        · skip
          obtain rfl : i = needN rec_.length := by simp at h3; omega
          refine JC.exit ?_
          refine JX.thenE ?_
          refine JX.thenE ?_
          refine JX.blockE ?_
          refine JX.thenN (hK12 _ _ ?_)
          refine JC.seq (fun K25 hK25 => ?_)
          refine JC.region ?_
          refine J.make Ty.el28 Ty.s5 Ty.b5 Ty.z5 rfl rfl rfl rfl (by omega) (by omega) (by omega) rfl (fun b75 => ?_)
          refine J.perm ((b75, cb ((hst ([] : List UInt8) ((gen + 1)) 0 16).map u8) 5) :: (lb, cb [.pointer (some ⟨r, 0, none⟩), .int .u64 ((gen : Nat) : Int), .int .i64 ((used : Nat) : Int), .int .i64 ((cnt_ : Nat) : Int), .bool false] 67) :: (r, rfO (.slice a0 (64 * n) c0) (p1) (k1)) :: (lp1 ++ lp41)) (by rw [hst_zero]; exact .refl _) ?_
          refine J.perm ((lb, cb [.pointer (some ⟨r, 0, none⟩), .int .u64 ((gen : Nat) : Int), .int .i64 ((used : Nat) : Int), .int .i64 ((cnt_ : Nat) : Int), .bool false] 67) :: (r, rfO (.slice a0 (64 * n) c0) (p1) (k1)) :: (lp1 ++ (lp41 ++ [(b75, cb ((hst ([] : List UInt8) ((gen + 1)) 0 16).map u8) 5)]))) (by (refine perm_cnt (fun _ => ?_)); simp only [cntB_append, cntB_cons, cntB_nil, Nat.add_zero, Nat.zero_add]; try ac_rfl) ?_
          refine J.assign rfl rfl ?_
          refine J.nil ?_
          refine JX.thenN (hK25 _ _ ?_)
          refine JC.seq (fun K26 hK26 => ?_)
          refine JC.seq (fun K27 hK27 => ?_)
          apply JC.drawL 7 [Eqv _, Eqv _, Eqv _, Eqv _, Eqv _, Eqv _, Eqv _] Ty.mixed rfl rfl rfl (by kernel_rfl) rfl rfl (fun w w' hw hb => hw.step hb) ⟨fun _ _ _ h _ => h, fun _ _ _ h _ => h, fun _ _ _ h _ => h, fun _ _ _ h _ => h, fun _ _ _ h _ => h, fun _ _ _ h _ => h, fun _ _ _ h _ => h, trivial⟩ ?hstep ?htail
          case hstep =>
            refine ⟨fun wi => ?_, fun wi => ?_, fun wi => ?_, fun wi => ?_, fun wi => ?_, fun wi => ?_, fun wi => ?_, trivial⟩
            · skip
              refine Fin.nil ?_
              refine J.move rfl rfl ?_
              refine J.nil (JX.fin rfl (fun w hw => ⟨rfl, (by rw [hw.1]; exact Below.refl _ _)⟩))
            · skip
              refine Fin.cons (fun v20_0 => ?_)
              refine Fin.nil ?_
              refine J.prE (fun h => ?_); subst h
              refine J.nilCheck rfl rfl ?_
              refine J.nil (JX.fin rfl (fun w hw => ⟨rfl, (by rw [hw.1]; exact Below.refl _ _)⟩))
            · skip
              refine Fin.cons (fun v20_1 => ?_)
              refine Fin.nil ?_
              refine J.prE (fun h => ?_); subst h
              refine J.fieldAddr Ty.fd67_1 rfl rfl ?_
              refine J.nil (JX.fin rfl (fun w hw => ⟨rfl, (by rw [hw.1]; exact Below.refl _ _)⟩))
            · skip
              refine Fin.cons (fun v20_2 => ?_)
              refine Fin.nil ?_
              refine J.prE (fun h => ?_); subst h
              (first | refine J.load1 Ty.a65 rfl (fun w hw => (cell_of (hw.2.own _ (.head _))).trans rfl) rfl ?_ | refine J.load1 Ty.a65 rfl (fun w hw => (cell_of (hw.2.own _ (.tail _ (.head _)))).trans rfl) rfl ?_ | refine J.load1 Ty.a65 rfl (fun w hw => (cell_of (hw.2.own _ (.tail _ (.tail _ (.head _))))).trans rfl) rfl ?_ | refine J.load1 Ty.a65 rfl (fun w hw => (cell_of (hw.2.own _ (.tail _ (.tail _ (.tail _ (.head _)))))).trans rfl) rfl ?_ | refine J.load1 Ty.a65 rfl (fun w hw => (cell_of (hw.2.own _ (.tail _ (.tail _ (.tail _ (.tail _ (.head _))))))).trans rfl) rfl ?_ | refine J.load1 Ty.a65 rfl (fun w hw => (cell_of (hw.2.own _ (List.mem_append_right _ (.head _)))).trans rfl) rfl ?_ | refine J.load1 Ty.a65 rfl (fun w hw => (cell_of (hw.2.own _ (List.mem_append_right _ (.tail _ (.head _))))).trans rfl) rfl ?_ | refine J.load1 Ty.a65 rfl (fun w hw => (cell_of (hw.2.own _ (List.mem_append_right _ (.tail _ (.tail _ (.head _)))))).trans rfl) rfl ?_ | refine J.load1 Ty.a65 rfl (fun w hw => (cell_of (hw.2.own _ (List.mem_append_right _ (.tail _ (.tail _ (.tail _ (.head _))))))).trans rfl) rfl ?_ | refine J.load1 Ty.a65 rfl (fun w hw => (cell_of (hw.2.own _ (List.mem_append_right _ (.tail _ (.tail _ (.tail _ (.tail _ (.head _)))))))).trans rfl) rfl ?_)
              refine J.nil (JX.fin rfl (fun w hw => ⟨rfl, (by rw [hw.1]; exact Below.refl _ _)⟩))
            · skip
              refine Fin.cons (fun v20_3 => ?_)
              refine Fin.nil ?_
              refine J.prE (fun h => ?_); subst h
              refine J.bin rfl rfl rfl rfl ?_
              refine J.name 80 rfl (congrArg (Value.int .u64) (show _ = ((gen + 1 : Nat) : Int) from wrap_u64 (by omega) (by omega))) ?_
              refine J.nil (JX.fin rfl (fun w hw => ⟨rfl, (by rw [hw.1]; exact Below.refl _ _)⟩))
            · skip
              refine Fin.nil ?_
              refine J.assign rfl rfl ?_
              refine J.nil (JX.fin rfl (fun w hw => ⟨rfl, (by rw [hw.1]; exact Below.refl _ _)⟩))
            · skip
              refine Fin.cons (fun v20_4 => ?_)
              refine Fin.cons (fun v20_5 => ?_)
              refine Fin.cons (fun v20_0 => ?_)
              refine Fin.cons (fun v20_1 => ?_)
              refine Fin.cons (fun v20_2 => ?_)
              refine Fin.cons (fun v20_3 => ?_)
              refine Fin.cons (fun v20_4 => ?_)
              refine Fin.cons (fun v20_5 => ?_)
              refine Fin.nil ?_
              refine J.prE (fun h => ?_); subst h
              refine J.prE (fun h => ?_); subst h
              refine J.prE (fun h => ?_); subst h
              refine J.prE (fun h => ?_); subst h
              refine J.prE (fun h => ?_); subst h
              refine J.prE (fun h => ?_); subst h
              refine J.prE (fun h => ?_); subst h
              refine J.prE (fun h => ?_); subst h
              refine J.assign rfl rfl ?_
              refine J.nil (JX.fin rfl (fun w hw => ⟨rfl, (by rw [hw.1]; exact Below.refl _ _)⟩))
          case htail =>
            refine Fin.cons (fun v20_0 => ?_)
            refine Fin.cons (fun v20_1 => ?_)
            refine Fin.cons (fun v20_2 => ?_)
            refine Fin.cons (fun v20_3 => ?_)
            refine Fin.cons (fun v20_4 => ?_)
            refine Fin.cons (fun v20_5 => ?_)
            refine Fin.cons (fun v20_6 => ?_)
            refine Fin.nil ?_
            refine J.prE (fun h => ?_); subst h
            refine J.prE (fun h => ?_); subst h
            refine J.prE (fun h => ?_); subst h
            refine J.prE (fun h => ?_); subst h
            refine J.prE (fun h => ?_); subst h
            refine J.prE (fun h => ?_); subst h
            refine J.prE (fun h => ?_); subst h
            refine J.nil ?_
            refine JX.thenN (hK27 _ _ ?_)
            refine JC.block ?_
            refine JC.conseq (JC.cov (f := (fun j => [(0, .pointer (some ⟨lb, 0, none⟩)), (1, .slice a rec_.length c), (5, .int .i64 ((needN rec_.length : Nat) : Int)), (10, .slice (some ⟨b75, 0, none⟩) 24 24), (11, .int .i64 ((j : Nat) : Int)), (12, .int .u64 (((gen + 1) / 256 ^ j : Nat) : Int))]) 0) ⟨rfl, rfl, rfl, rfl, rfl, congrArg some (congrArg (Value.int .u64) (by rw [Nat.pow_zero, Nat.div_one]; try rfl)), trivial⟩ (JC.loop (α := Nat) (fun j => [(0, .pointer (some ⟨lb, 0, none⟩)), (1, .slice a rec_.length c), (5, .int .i64 ((needN rec_.length : Nat) : Int)), (10, .slice (some ⟨b75, 0, none⟩) 24 24), (11, .int .i64 ((j : Nat) : Int)), (12, .int .u64 (((gen + 1) / 256 ^ j : Nat) : Int))]) (fun j w' => j ≤ 8 ∧ St w (lb :: r :: lp.map (·.1)) ((lb, cb [.pointer (some ⟨r, 0, none⟩), .int .u64 ((gen : Nat) : Int), .int .i64 ((used : Nat) : Int), .int .i64 ((cnt_ : Nat) : Int), .bool false] 67) :: (r, rfO (.slice a0 (64 * n) c0) (p1) (k1)) :: (lp1 ++ (lp41 ++ [(b75, cb ((hst (([] : List UInt8)) ((gen + 1)) j 16).map u8) 5)]))) w') (fun j => 8 - j) 0 (fun j => ?_))) (fun w hw => ⟨Nat.zero_le _, hw⟩)
            refine JC.pr (fun hj => ?_)
            refine JC.seq (fun K28 hK28 => ?_)
            refine JC.seq (fun K29 hK29 => ?_)
            refine JC.region ?_
            refine J.move rfl rfl ?_
            refine J.bin rfl rfl rfl rfl ?_
            refine J.nil ?_
            refine JX.thenN (hK29 _ _ ?_)
            refine JC.cond rfl (fun h6 => ?_) (fun h6 => ?_)
            · skip
              have hltj : j < 8 := by simp at h6; omega
              refine JC.skip ?_
              refine JX.thenN (hK28 _ _ ?_)
              refine JC.seq (fun K30 hK30 => ?_)
              refine JC.block ?_
              refine JC.region ?_
              refine J.move rfl rfl ?_
              refine J.move rfl rfl ?_
              refine J.subN rfl rfl (by omega) (by omega) rfl ?_
              refine J.move rfl rfl ?_
              refine J.bin rfl rfl rfl rfl ?_
              refine J.name 91 rfl (congrArg (Value.int .u64) (show _ = (((gen + 1) / 256 ^ j % 256 : Nat) : Int) from by first | rfl | (rw [Int.tmod_eq_emod_of_nonneg (Int.natCast_nonneg _)]; rfl))) ?_
              refine J.convInt Ty.u65 Ty.u5 rfl rfl ?_
              refine J.name 92 rfl (byte_u64 ((gen + 1)) j hltj) ?_
              refine J.indexAddrS Ty.el28 Ty.s5 rfl rfl (by omega) (by omega) rfl ?_
              refine J.storeO (cs := (hst (([] : List UInt8)) ((gen + 1)) j 16).map u8) (vs := [u8 ((be8 ((gen + 1)))[7 - j]'(by rw [be8_length]; omega))]) Ty.s5 rfl rfl rfl rfl (by simp [Value.oneCell']) (.there (.there (Up.app (Up.app .here)))) (by rw [List.length_map, hst_length (by omega)]; simp only [List.length_append, List.length_nil, be8_length]; omega) ?_
              refine J.conseq (I' := St w (lb :: r :: lp.map (·.1)) ((lb, cb [.pointer (some ⟨r, 0, none⟩), .int .u64 ((gen : Nat) : Int), .int .i64 ((used : Nat) : Int), .int .i64 ((cnt_ : Nat) : Int), .bool false] 67) :: (r, rfO (.slice a0 (64 * n) c0) (p1) (k1)) :: (lp1 ++ (lp41 ++ [(b75, cb ((hst (([] : List UInt8)) ((gen + 1)) (j + 1) 16).map u8) 5)])))) ?_ (fun w1 hw => by
                have e : setMany ((hst (([] : List UInt8)) ((gen + 1)) j 16).map u8) (0 + ((7 : Int) - (j : Int)).toNat * 1) [u8 ((be8 ((gen + 1)))[7 - j]'(by rw [be8_length]; omega))] = (hst (([] : List UInt8)) ((gen + 1)) (j + 1) 16).map u8 := by
                  rw [← hst_set hltj, show 0 + ((7 : Int) - (j : Int)).toNat * 1 = (([] : List UInt8) : List UInt8).length + (7 - j) by simp only [List.length_append, List.length_nil, be8_length]; omega]
                  simp only [setMany, List.map_set]
                rw [e] at hw
                exact hw)
              refine J.nil ?_
              refine JX.blockN ?_
              refine JX.thenN (hK30 _ _ ?_)
              refine JC.region ?_
              refine J.move rfl rfl ?_
              (first | refine J.addN rfl rfl (by omega) (by omega) rfl ?_ | refine J.bin rfl rfl rfl rfl ?_)
              refine J.move rfl rfl ?_
              refine J.bin rfl rfl rfl rfl ?_
              refine J.name 86 rfl (congrArg (Value.int .u64) (show _ = (((gen + 1) / 256 ^ (j + 1) : Nat) : Int) from by rw [← div_pow]; exact wrap_u64 (n := (((gen + 1) / 256 ^ j / 256 : Nat) : Int)) (Int.natCast_nonneg _) (by have := Nat.div_le_self ((gen + 1) / 256 ^ j) 256; have := Nat.div_le_self ((gen + 1)) (256 ^ j); omega))) ?_
              refine J.assign rfl rfl ?_
              refine J.assign rfl rfl ?_
              refine J.nil ?_
              refine JX.thenN ?_
              refine JX.again (j + 1) ?_ ?_ ?_
              · omega
              · exact ⟨rfl, rfl, rfl, rfl, rfl, rfl, trivial⟩
              · exact fun w1 hw => ⟨hltj, hw⟩
            · skip
              obtain rfl : j = 8 := by simp at h6; omega
              rw [hst_all, ← hst_zero (N := (used + needN rec_.length)) (z := 8)]
              refine JC.exit ?_
              refine JX.thenE ?_
              refine JX.thenE ?_
              refine JX.blockE ?_
              refine JX.thenN (hK26 _ _ ?_)
              refine JC.seq (fun K31 hK31 => ?_)
              refine JC.seq (fun K32 hK32 => ?_)
              apply JC.drawL 8 [Eqv _, Eqv _, Eqv _, Eqv _, Eqv _, Eqv _, Eqv _, Eqv _] Ty.mixed rfl rfl rfl (by kernel_rfl) rfl rfl (fun w w' hw hb => hw.step hb) ⟨fun _ _ _ h _ => h, fun _ _ _ h _ => h, fun _ _ _ h _ => h, fun _ _ _ h _ => h, fun _ _ _ h _ => h, fun _ _ _ h _ => h, fun _ _ _ h _ => h, fun _ _ _ h _ => h, trivial⟩ ?hstep ?htail
              case hstep =>
                refine ⟨fun wi => ?_, fun wi => ?_, fun wi => ?_, fun wi => ?_, fun wi => ?_, fun wi => ?_, fun wi => ?_, fun wi => ?_, trivial⟩
                · skip
                  refine Fin.nil ?_
                  refine J.move rfl rfl ?_
                  refine J.nil (JX.fin rfl (fun w hw => ⟨rfl, (by rw [hw.1]; exact Below.refl _ _)⟩))
                · skip
                  refine Fin.cons (fun v24_0 => ?_)
                  refine Fin.nil ?_
                  refine J.prE (fun h => ?_); subst h
                  refine J.nilCheck rfl rfl ?_
                  refine J.nil (JX.fin rfl (fun w hw => ⟨rfl, (by rw [hw.1]; exact Below.refl _ _)⟩))
                · skip
                  refine Fin.cons (fun v24_1 => ?_)
                  refine Fin.nil ?_
                  refine J.prE (fun h => ?_); subst h
                  refine J.fieldAddr Ty.fd67_2 rfl rfl ?_
                  refine J.nil (JX.fin rfl (fun w hw => ⟨rfl, (by rw [hw.1]; exact Below.refl _ _)⟩))
                · skip
                  refine Fin.cons (fun v24_2 => ?_)
                  refine Fin.nil ?_
                  refine J.prE (fun h => ?_); subst h
                  (first | refine J.load1 Ty.a3 rfl (fun w hw => (cell_of (hw.2.own _ (.head _))).trans rfl) rfl ?_ | refine J.load1 Ty.a3 rfl (fun w hw => (cell_of (hw.2.own _ (.tail _ (.head _)))).trans rfl) rfl ?_ | refine J.load1 Ty.a3 rfl (fun w hw => (cell_of (hw.2.own _ (.tail _ (.tail _ (.head _))))).trans rfl) rfl ?_ | refine J.load1 Ty.a3 rfl (fun w hw => (cell_of (hw.2.own _ (.tail _ (.tail _ (.tail _ (.head _)))))).trans rfl) rfl ?_ | refine J.load1 Ty.a3 rfl (fun w hw => (cell_of (hw.2.own _ (.tail _ (.tail _ (.tail _ (.tail _ (.head _))))))).trans rfl) rfl ?_ | refine J.load1 Ty.a3 rfl (fun w hw => (cell_of (hw.2.own _ (List.mem_append_right _ (.head _)))).trans rfl) rfl ?_ | refine J.load1 Ty.a3 rfl (fun w hw => (cell_of (hw.2.own _ (List.mem_append_right _ (.tail _ (.head _))))).trans rfl) rfl ?_ | refine J.load1 Ty.a3 rfl (fun w hw => (cell_of (hw.2.own _ (List.mem_append_right _ (.tail _ (.tail _ (.head _)))))).trans rfl) rfl ?_ | refine J.load1 Ty.a3 rfl (fun w hw => (cell_of (hw.2.own _ (List.mem_append_right _ (.tail _ (.tail _ (.tail _ (.head _))))))).trans rfl) rfl ?_ | refine J.load1 Ty.a3 rfl (fun w hw => (cell_of (hw.2.own _ (List.mem_append_right _ (.tail _ (.tail _ (.tail _ (.tail _ (.head _)))))))).trans rfl) rfl ?_)
                  refine J.nil (JX.fin rfl (fun w hw => ⟨rfl, (by rw [hw.1]; exact Below.refl _ _)⟩))
                · skip
                  refine Fin.nil ?_
                  refine J.move rfl rfl ?_
                  refine J.nil (JX.fin rfl (fun w hw => ⟨rfl, (by rw [hw.1]; exact Below.refl _ _)⟩))
                · skip
                  refine Fin.cons (fun v24_3 => ?_)
                  refine Fin.cons (fun v24_4 => ?_)
                  refine Fin.nil ?_
                  refine J.prE (fun h => ?_); subst h
                  refine J.prE (fun h => ?_); subst h
                  refine J.addN rfl rfl (by omega) (by omega) rfl ?_
                  refine J.nil (JX.fin rfl (fun w hw => ⟨rfl, (by rw [hw.1]; exact Below.refl _ _)⟩))
                · skip
                  refine Fin.nil ?_
                  refine J.assign rfl rfl ?_
                  refine J.nil (JX.fin rfl (fun w hw => ⟨rfl, (by rw [hw.1]; exact Below.refl _ _)⟩))
                · skip
                  refine Fin.cons (fun v24_5 => ?_)
                  refine Fin.cons (fun v24_6 => ?_)
                  refine Fin.cons (fun v24_0 => ?_)
                  refine Fin.cons (fun v24_1 => ?_)
                  refine Fin.cons (fun v24_2 => ?_)
                  refine Fin.cons (fun v24_3 => ?_)
                  refine Fin.cons (fun v24_4 => ?_)
                  refine Fin.cons (fun v24_5 => ?_)
                  refine Fin.cons (fun v24_6 => ?_)
                  refine Fin.nil ?_
                  refine J.prE (fun h => ?_); subst h
                  refine J.prE (fun h => ?_); subst h
                  refine J.prE (fun h => ?_); subst h
                  refine J.prE (fun h => ?_); subst h
                  refine J.prE (fun h => ?_); subst h
                  refine J.prE (fun h => ?_); subst h
                  refine J.prE (fun h => ?_); subst h
                  refine J.prE (fun h => ?_); subst h
                  refine J.prE (fun h => ?_); subst h
                  refine J.assign rfl rfl ?_
                  refine J.nil (JX.fin rfl (fun w hw => ⟨rfl, (by rw [hw.1]; exact Below.refl _ _)⟩))
              case htail =>
                refine Fin.cons (fun v24_0 => ?_)
                refine Fin.cons (fun v24_1 => ?_)
                refine Fin.cons (fun v24_2 => ?_)
                refine Fin.cons (fun v24_3 => ?_)
                refine Fin.cons (fun v24_4 => ?_)
                refine Fin.cons (fun v24_5 => ?_)
                refine Fin.cons (fun v24_6 => ?_)
                refine Fin.cons (fun v24_7 => ?_)
                refine Fin.nil ?_
                refine J.prE (fun h => ?_); subst h
                refine J.prE (fun h => ?_); subst h
                refine J.prE (fun h => ?_); subst h
                refine J.prE (fun h => ?_); subst h
                refine J.prE (fun h => ?_); subst h
                refine J.prE (fun h => ?_); subst h
                refine J.prE (fun h => ?_); subst h
                refine J.prE (fun h => ?_); subst h
                refine J.nil ?_
                refine JX.thenN (hK32 _ _ ?_)
                refine JC.block ?_
                refine JC.conseq (JC.cov (f := (fun j => [(0, .pointer (some ⟨lb, 0, none⟩)), (1, .slice a rec_.length c), (5, .int .i64 ((needN rec_.length : Nat) : Int)), (10, .slice (some ⟨b75, 0, none⟩) 24 24), (13, .int .i64 ((j : Nat) : Int)), (14, .int .i64 (((used + needN rec_.length) / 256 ^ j : Nat) : Int))]) 0) ⟨rfl, rfl, rfl, rfl, rfl, congrArg some (congrArg (Value.int .i64) (by rw [Nat.pow_zero, Nat.div_one]; try rfl)), trivial⟩ (JC.loop (α := Nat) (fun j => [(0, .pointer (some ⟨lb, 0, none⟩)), (1, .slice a rec_.length c), (5, .int .i64 ((needN rec_.length : Nat) : Int)), (10, .slice (some ⟨b75, 0, none⟩) 24 24), (13, .int .i64 ((j : Nat) : Int)), (14, .int .i64 (((used + needN rec_.length) / 256 ^ j : Nat) : Int))]) (fun j w' => j ≤ 8 ∧ St w (lb :: r :: lp.map (·.1)) ((lb, cb [.pointer (some ⟨r, 0, none⟩), .int .u64 ((gen : Nat) : Int), .int .i64 ((used : Nat) : Int), .int .i64 ((cnt_ : Nat) : Int), .bool false] 67) :: (r, rfO (.slice a0 (64 * n) c0) (p1) (k1)) :: (lp1 ++ (lp41 ++ [(b75, cb ((hst ((([] : List UInt8) ++ be8 ((gen + 1)))) ((used + needN rec_.length)) j 8).map u8) 5)]))) w') (fun j => 8 - j) 0 (fun j => ?_))) (fun w hw => ⟨Nat.zero_le _, hw⟩)
                refine JC.pr (fun hj => ?_)
                refine JC.seq (fun K33 hK33 => ?_)
                refine JC.seq (fun K34 hK34 => ?_)
                refine JC.region ?_
                refine J.move rfl rfl ?_
                refine J.bin rfl rfl rfl rfl ?_
                refine J.nil ?_
                refine JX.thenN (hK34 _ _ ?_)
                refine JC.cond rfl (fun h7 => ?_) (fun h7 => ?_)
                · skip
                  have hltj : j < 8 := by simp at h7; omega
                  refine JC.skip ?_
                  refine JX.thenN (hK33 _ _ ?_)
                  refine JC.seq (fun K35 hK35 => ?_)
                  refine JC.block ?_
                  refine JC.region ?_
                  refine J.move rfl rfl ?_
                  refine J.move rfl rfl ?_
                  refine J.subN rfl rfl (by omega) (by omega) rfl ?_
                  refine J.move rfl rfl ?_
                  refine J.remN rfl rfl (Int.natCast_nonneg _) (by omega) rfl ?_
                  refine J.name 110 rfl (congrArg (Value.int .i64) (show _ = (((used + needN rec_.length) / 256 ^ j % 256 : Nat) : Int) from by first | rfl | (rw [Int.tmod_eq_emod_of_nonneg (Int.natCast_nonneg _)]; rfl))) ?_
                  refine J.convInt Ty.u3 Ty.u5 rfl rfl ?_
                  refine J.name 111 rfl (byte_u64 ((used + needN rec_.length)) j hltj) ?_
                  refine J.indexAddrS Ty.el28 Ty.s5 rfl rfl (by omega) (by omega) rfl ?_
                  refine J.storeO (cs := (hst ((([] : List UInt8) ++ be8 ((gen + 1)))) ((used + needN rec_.length)) j 8).map u8) (vs := [u8 ((be8 ((used + needN rec_.length)))[7 - j]'(by rw [be8_length]; omega))]) Ty.s5 rfl rfl rfl rfl (by simp [Value.oneCell']) (.there (.there (Up.app (Up.app .here)))) (by rw [List.length_map, hst_length (by omega)]; simp only [List.length_append, List.length_nil, be8_length]; omega) ?_
                  refine J.conseq (I' := St w (lb :: r :: lp.map (·.1)) ((lb, cb [.pointer (some ⟨r, 0, none⟩), .int .u64 ((gen : Nat) : Int), .int .i64 ((used : Nat) : Int), .int .i64 ((cnt_ : Nat) : Int), .bool false] 67) :: (r, rfO (.slice a0 (64 * n) c0) (p1) (k1)) :: (lp1 ++ (lp41 ++ [(b75, cb ((hst ((([] : List UInt8) ++ be8 ((gen + 1)))) ((used + needN rec_.length)) (j + 1) 8).map u8) 5)])))) ?_ (fun w1 hw => by
                    have e : setMany ((hst ((([] : List UInt8) ++ be8 ((gen + 1)))) ((used + needN rec_.length)) j 8).map u8) (0 + ((15 : Int) - (j : Int)).toNat * 1) [u8 ((be8 ((used + needN rec_.length)))[7 - j]'(by rw [be8_length]; omega))] = (hst ((([] : List UInt8) ++ be8 ((gen + 1)))) ((used + needN rec_.length)) (j + 1) 8).map u8 := by
                      rw [← hst_set hltj, show 0 + ((15 : Int) - (j : Int)).toNat * 1 = ((([] : List UInt8) ++ be8 ((gen + 1))) : List UInt8).length + (7 - j) by simp only [List.length_append, List.length_nil, be8_length]; omega]
                      simp only [setMany, List.map_set]
                    rw [e] at hw
                    exact hw)
                  refine J.nil ?_
                  refine JX.blockN ?_
                  refine JX.thenN (hK35 _ _ ?_)
                  refine JC.region ?_
                  refine J.move rfl rfl ?_
                  (first | refine J.addN rfl rfl (by omega) (by omega) rfl ?_ | refine J.bin rfl rfl rfl rfl ?_)
                  refine J.move rfl rfl ?_
                  refine J.quoN rfl rfl (Int.natCast_nonneg _) (by have := Nat.div_le_self ((used + needN rec_.length)) (256 ^ j); omega) (by omega) rfl ?_
                  refine J.name 105 rfl (congrArg (Value.int .i64) (show _ = (((used + needN rec_.length) / 256 ^ (j + 1) : Nat) : Int) from by rw [← div_pow]; rfl)) ?_
                  refine J.assign rfl rfl ?_
                  refine J.assign rfl rfl ?_
                  refine J.nil ?_
                  refine JX.thenN ?_
                  refine JX.again (j + 1) ?_ ?_ ?_
                  · omega
                  · exact ⟨rfl, rfl, rfl, rfl, rfl, rfl, trivial⟩
                  · exact fun w1 hw => ⟨hltj, hw⟩
                · skip
                  obtain rfl : j = 8 := by simp at h7; omega
                  rw [hst_all, ← hst_zero (N := (cnt_ + 1)) (z := 0)]
                  refine JC.exit ?_
                  refine JX.thenE ?_
                  refine JX.thenE ?_
                  refine JX.blockE ?_
                  refine JX.thenN (hK31 _ _ ?_)
                  refine JC.seq (fun K36 hK36 => ?_)
                  refine JC.seq (fun K37 hK37 => ?_)
                  apply JC.drawL 7 [Eqv _, Eqv _, Eqv _, Eqv _, Eqv _, Eqv _, Eqv _] Ty.mixed rfl rfl rfl (by kernel_rfl) rfl rfl (fun w w' hw hb => hw.step hb) ⟨fun _ _ _ h _ => h, fun _ _ _ h _ => h, fun _ _ _ h _ => h, fun _ _ _ h _ => h, fun _ _ _ h _ => h, fun _ _ _ h _ => h, fun _ _ _ h _ => h, trivial⟩ ?hstep ?htail
                  case hstep =>
                    refine ⟨fun wi => ?_, fun wi => ?_, fun wi => ?_, fun wi => ?_, fun wi => ?_, fun wi => ?_, fun wi => ?_, trivial⟩
                    · skip
                      refine Fin.nil ?_
                      refine J.move rfl rfl ?_
                      refine J.nil (JX.fin rfl (fun w hw => ⟨rfl, (by rw [hw.1]; exact Below.refl _ _)⟩))
                    · skip
                      refine Fin.cons (fun v28_0 => ?_)
                      refine Fin.nil ?_
                      refine J.prE (fun h => ?_); subst h
                      refine J.nilCheck rfl rfl ?_
                      refine J.nil (JX.fin rfl (fun w hw => ⟨rfl, (by rw [hw.1]; exact Below.refl _ _)⟩))
                    · skip
                      refine Fin.cons (fun v28_1 => ?_)
                      refine Fin.nil ?_
                      refine J.prE (fun h => ?_); subst h
                      refine J.fieldAddr Ty.fd67_3 rfl rfl ?_
                      refine J.nil (JX.fin rfl (fun w hw => ⟨rfl, (by rw [hw.1]; exact Below.refl _ _)⟩))
                    · skip
                      refine Fin.cons (fun v28_2 => ?_)
                      refine Fin.nil ?_
                      refine J.prE (fun h => ?_); subst h
                      (first | refine J.load1 Ty.a3 rfl (fun w hw => (cell_of (hw.2.own _ (.head _))).trans rfl) rfl ?_ | refine J.load1 Ty.a3 rfl (fun w hw => (cell_of (hw.2.own _ (.tail _ (.head _)))).trans rfl) rfl ?_ | refine J.load1 Ty.a3 rfl (fun w hw => (cell_of (hw.2.own _ (.tail _ (.tail _ (.head _))))).trans rfl) rfl ?_ | refine J.load1 Ty.a3 rfl (fun w hw => (cell_of (hw.2.own _ (.tail _ (.tail _ (.tail _ (.head _)))))).trans rfl) rfl ?_ | refine J.load1 Ty.a3 rfl (fun w hw => (cell_of (hw.2.own _ (.tail _ (.tail _ (.tail _ (.tail _ (.head _))))))).trans rfl) rfl ?_ | refine J.load1 Ty.a3 rfl (fun w hw => (cell_of (hw.2.own _ (List.mem_append_right _ (.head _)))).trans rfl) rfl ?_ | refine J.load1 Ty.a3 rfl (fun w hw => (cell_of (hw.2.own _ (List.mem_append_right _ (.tail _ (.head _))))).trans rfl) rfl ?_ | refine J.load1 Ty.a3 rfl (fun w hw => (cell_of (hw.2.own _ (List.mem_append_right _ (.tail _ (.tail _ (.head _)))))).trans rfl) rfl ?_ | refine J.load1 Ty.a3 rfl (fun w hw => (cell_of (hw.2.own _ (List.mem_append_right _ (.tail _ (.tail _ (.tail _ (.head _))))))).trans rfl) rfl ?_ | refine J.load1 Ty.a3 rfl (fun w hw => (cell_of (hw.2.own _ (List.mem_append_right _ (.tail _ (.tail _ (.tail _ (.tail _ (.head _)))))))).trans rfl) rfl ?_)
                      refine J.nil (JX.fin rfl (fun w hw => ⟨rfl, (by rw [hw.1]; exact Below.refl _ _)⟩))
                    · skip
                      refine Fin.cons (fun v28_3 => ?_)
                      refine Fin.nil ?_
                      refine J.prE (fun h => ?_); subst h
                      refine J.addN rfl rfl (by omega) (by omega) rfl ?_
                      refine J.nil (JX.fin rfl (fun w hw => ⟨rfl, (by rw [hw.1]; exact Below.refl _ _)⟩))
                    · skip
                      refine Fin.nil ?_
                      refine J.assign rfl rfl ?_
                      refine J.nil (JX.fin rfl (fun w hw => ⟨rfl, (by rw [hw.1]; exact Below.refl _ _)⟩))
                    · skip
                      refine Fin.cons (fun v28_4 => ?_)
                      refine Fin.cons (fun v28_5 => ?_)
                      refine Fin.cons (fun v28_0 => ?_)
                      refine Fin.cons (fun v28_1 => ?_)
                      refine Fin.cons (fun v28_2 => ?_)
                      refine Fin.cons (fun v28_3 => ?_)
                      refine Fin.cons (fun v28_4 => ?_)
                      refine Fin.cons (fun v28_5 => ?_)
                      refine Fin.nil ?_
                      refine J.prE (fun h => ?_); subst h
                      refine J.prE (fun h => ?_); subst h
                      refine J.prE (fun h => ?_); subst h
                      refine J.prE (fun h => ?_); subst h
                      refine J.prE (fun h => ?_); subst h
                      refine J.prE (fun h => ?_); subst h
                      refine J.prE (fun h => ?_); subst h
                      refine J.prE (fun h => ?_); subst h
                      refine J.assign rfl rfl ?_
                      refine J.nil (JX.fin rfl (fun w hw => ⟨rfl, (by rw [hw.1]; exact Below.refl _ _)⟩))
                  case htail =>
                    refine Fin.cons (fun v28_0 => ?_)
                    refine Fin.cons (fun v28_1 => ?_)
                    refine Fin.cons (fun v28_2 => ?_)
                    refine Fin.cons (fun v28_3 => ?_)
                    refine Fin.cons (fun v28_4 => ?_)
                    refine Fin.cons (fun v28_5 => ?_)
                    refine Fin.cons (fun v28_6 => ?_)
                    refine Fin.nil ?_
                    refine J.prE (fun h => ?_); subst h
                    refine J.prE (fun h => ?_); subst h
                    refine J.prE (fun h => ?_); subst h
                    refine J.prE (fun h => ?_); subst h
                    refine J.prE (fun h => ?_); subst h
                    refine J.prE (fun h => ?_); subst h
                    refine J.prE (fun h => ?_); subst h
                    refine J.nil ?_
                    refine JX.thenN (hK37 _ _ ?_)
                    refine JC.block ?_
                    refine JC.conseq (JC.cov (f := (fun j => [(0, .pointer (some ⟨lb, 0, none⟩)), (1, .slice a rec_.length c), (5, .int .i64 ((needN rec_.length : Nat) : Int)), (10, .slice (some ⟨b75, 0, none⟩) 24 24), (15, .int .i64 ((j : Nat) : Int)), (16, .int .i64 (((cnt_ + 1) / 256 ^ j : Nat) : Int))]) 0) ⟨rfl, rfl, rfl, rfl, rfl, congrArg some (congrArg (Value.int .i64) (by rw [Nat.pow_zero, Nat.div_one]; try rfl)), trivial⟩ (JC.loop (α := Nat) (fun j => [(0, .pointer (some ⟨lb, 0, none⟩)), (1, .slice a rec_.length c), (5, .int .i64 ((needN rec_.length : Nat) : Int)), (10, .slice (some ⟨b75, 0, none⟩) 24 24), (15, .int .i64 ((j : Nat) : Int)), (16, .int .i64 (((cnt_ + 1) / 256 ^ j : Nat) : Int))]) (fun j w' => j ≤ 8 ∧ St w (lb :: r :: lp.map (·.1)) ((lb, cb [.pointer (some ⟨r, 0, none⟩), .int .u64 ((gen : Nat) : Int), .int .i64 ((used : Nat) : Int), .int .i64 ((cnt_ : Nat) : Int), .bool false] 67) :: (r, rfO (.slice a0 (64 * n) c0) (p1) (k1)) :: (lp1 ++ (lp41 ++ [(b75, cb ((hst (((([] : List UInt8) ++ be8 ((gen + 1))) ++ be8 ((used + needN rec_.length)))) ((cnt_ + 1)) j 0).map u8) 5)]))) w') (fun j => 8 - j) 0 (fun j => ?_))) (fun w hw => ⟨Nat.zero_le _, hw⟩)
                    refine JC.pr (fun hj => ?_)
                    refine JC.seq (fun K38 hK38 => ?_)
                    refine JC.seq (fun K39 hK39 => ?_)
                    refine JC.region ?_
                    refine J.move rfl rfl ?_
                    refine J.bin rfl rfl rfl rfl ?_
                    refine J.nil ?_
                    refine JX.thenN (hK39 _ _ ?_)
                    refine JC.cond rfl (fun h8 => ?_) (fun h8 => ?_)
                    · skip
                      have hltj : j < 8 := by simp at h8; omega
                      refine JC.skip ?_
                      refine JX.thenN (hK38 _ _ ?_)
                      refine JC.seq (fun K40 hK40 => ?_)
                      refine JC.block ?_
                      refine JC.region ?_
                      refine J.move rfl rfl ?_
                      refine J.move rfl rfl ?_
                      refine J.subN rfl rfl (by omega) (by omega) rfl ?_
                      refine J.move rfl rfl ?_
                      refine J.remN rfl rfl (Int.natCast_nonneg _) (by omega) rfl ?_
                      refine J.name 128 rfl (congrArg (Value.int .i64) (show _ = (((cnt_ + 1) / 256 ^ j % 256 : Nat) : Int) from by first | rfl | (rw [Int.tmod_eq_emod_of_nonneg (Int.natCast_nonneg _)]; rfl))) ?_
                      refine J.convInt Ty.u3 Ty.u5 rfl rfl ?_
                      refine J.name 129 rfl (byte_u64 ((cnt_ + 1)) j hltj) ?_
                      refine J.indexAddrS Ty.el28 Ty.s5 rfl rfl (by omega) (by omega) rfl ?_
                      refine J.storeO (cs := (hst (((([] : List UInt8) ++ be8 ((gen + 1))) ++ be8 ((used + needN rec_.length)))) ((cnt_ + 1)) j 0).map u8) (vs := [u8 ((be8 ((cnt_ + 1)))[7 - j]'(by rw [be8_length]; omega))]) Ty.s5 rfl rfl rfl rfl (by simp [Value.oneCell']) (.there (.there (Up.app (Up.app .here)))) (by rw [List.length_map, hst_length (by omega)]; simp only [List.length_append, List.length_nil, be8_length]; omega) ?_
                      refine J.conseq (I' := St w (lb :: r :: lp.map (·.1)) ((lb, cb [.pointer (some ⟨r, 0, none⟩), .int .u64 ((gen : Nat) : Int), .int .i64 ((used : Nat) : Int), .int .i64 ((cnt_ : Nat) : Int), .bool false] 67) :: (r, rfO (.slice a0 (64 * n) c0) (p1) (k1)) :: (lp1 ++ (lp41 ++ [(b75, cb ((hst (((([] : List UInt8) ++ be8 ((gen + 1))) ++ be8 ((used + needN rec_.length)))) ((cnt_ + 1)) (j + 1) 0).map u8) 5)])))) ?_ (fun w1 hw => by
                        have e : setMany ((hst (((([] : List UInt8) ++ be8 ((gen + 1))) ++ be8 ((used + needN rec_.length)))) ((cnt_ + 1)) j 0).map u8) (0 + ((23 : Int) - (j : Int)).toNat * 1) [u8 ((be8 ((cnt_ + 1)))[7 - j]'(by rw [be8_length]; omega))] = (hst (((([] : List UInt8) ++ be8 ((gen + 1))) ++ be8 ((used + needN rec_.length)))) ((cnt_ + 1)) (j + 1) 0).map u8 := by
                          rw [← hst_set hltj, show 0 + ((23 : Int) - (j : Int)).toNat * 1 = (((([] : List UInt8) ++ be8 ((gen + 1))) ++ be8 ((used + needN rec_.length))) : List UInt8).length + (7 - j) by simp only [List.length_append, List.length_nil, be8_length]; omega]
                          simp only [setMany, List.map_set]
                        rw [e] at hw
                        exact hw)
                      refine J.nil ?_
                      refine JX.blockN ?_
                      refine JX.thenN (hK40 _ _ ?_)
                      refine JC.region ?_
                      refine J.move rfl rfl ?_
                      (first | refine J.addN rfl rfl (by omega) (by omega) rfl ?_ | refine J.bin rfl rfl rfl rfl ?_)
                      refine J.move rfl rfl ?_
                      refine J.quoN rfl rfl (Int.natCast_nonneg _) (by have := Nat.div_le_self ((cnt_ + 1)) (256 ^ j); omega) (by omega) rfl ?_
                      refine J.name 123 rfl (congrArg (Value.int .i64) (show _ = (((cnt_ + 1) / 256 ^ (j + 1) : Nat) : Int) from by rw [← div_pow]; rfl)) ?_
                      refine J.assign rfl rfl ?_
                      refine J.assign rfl rfl ?_
                      refine J.nil ?_
                      refine JX.thenN ?_
                      refine JX.again (j + 1) ?_ ?_ ?_
                      · omega
                      · exact ⟨rfl, rfl, rfl, rfl, rfl, rfl, trivial⟩
                      · exact fun w1 hw => ⟨hltj, hw⟩
                    · skip
                      obtain rfl : j = 8 := by simp at h8; omega
                      rw [hst_all, List.replicate_zero, List.append_nil, List.nil_append, flat3]
                      refine JC.exit ?_
                      refine JX.thenE ?_
                      refine JX.thenE ?_
                      refine JX.blockE ?_
                      refine JX.thenN (hK36 _ _ ?_)
                      refine JC.seq (fun K41 hK41 => ?_)
                      refine JC.seq (fun K42 hK42 => ?_)
                      by_cases hp0 : p1 = 0
                      · skip
                        subst hp0
                        have happ := appendP_torn (n := n) (q := ⟨gen, used, cnt_, recs⟩) (σ := ⟨B, p, k⟩) hlong hfull (hdw.trans (by rw [plan_last]; exact dws_cons_torn))
                        apply JC.drawL 12 [Eqv _, Eqv _, Eqv _, Eqv _, Eqv _, Eqv _, Eqv _, Eqv _, Eqv _, Eqv _, Eqv _, Eqv _] Ty.mixed rfl rfl rfl (by kernel_rfl) rfl rfl (fun w w' hw hb => hw.step hb) ⟨fun _ _ _ h _ => h, fun _ _ _ h _ => h, fun _ _ _ h _ => h, fun _ _ _ h _ => h, fun _ _ _ h _ => h, fun _ _ _ h _ => h, fun _ _ _ h _ => h, fun _ _ _ h _ => h, fun _ _ _ h _ => h, fun _ _ _ h _ => h, fun _ _ _ h _ => h, fun _ _ _ h _ => h, trivial⟩ ?hstep ?htail
                        case hstep =>
                          refine ⟨fun wi => ?_, fun wi => ?_, fun wi => ?_, fun wi => ?_, fun wi => ?_, fun wi => ?_, fun wi => ?_, fun wi => ?_, fun wi => ?_, fun wi => ?_, fun wi => ?_, fun wi => ?_, trivial⟩
                          · skip
                            refine Fin.nil ?_
                            refine J.move rfl rfl ?_
                            refine J.nil (JX.fin rfl (fun w hw => ⟨rfl, (by rw [hw.1]; exact Below.refl _ _)⟩))
                          · skip
                            refine Fin.cons (fun v32_0 => ?_)
                            refine Fin.nil ?_
                            refine J.prE (fun h => ?_); subst h
                            refine J.nilCheck rfl rfl ?_
                            refine J.nil (JX.fin rfl (fun w hw => ⟨rfl, (by rw [hw.1]; exact Below.refl _ _)⟩))
                          · skip
                            refine Fin.cons (fun v32_1 => ?_)
                            refine Fin.nil ?_
                            refine J.prE (fun h => ?_); subst h
                            refine J.fieldAddr Ty.fd67_0 rfl rfl ?_
                            refine J.nil (JX.fin rfl (fun w hw => ⟨rfl, (by rw [hw.1]; exact Below.refl _ _)⟩))
                          · skip
                            refine Fin.cons (fun v32_2 => ?_)
                            refine Fin.nil ?_
                            refine J.prE (fun h => ?_); subst h
                            (first | refine J.load1 Ty.a25 rfl (fun w hw => (cell_of (hw.2.own _ (.head _))).trans rfl) rfl ?_ | refine J.load1 Ty.a25 rfl (fun w hw => (cell_of (hw.2.own _ (.tail _ (.head _)))).trans rfl) rfl ?_ | refine J.load1 Ty.a25 rfl (fun w hw => (cell_of (hw.2.own _ (.tail _ (.tail _ (.head _))))).trans rfl) rfl ?_ | refine J.load1 Ty.a25 rfl (fun w hw => (cell_of (hw.2.own _ (.tail _ (.tail _ (.tail _ (.head _)))))).trans rfl) rfl ?_ | refine J.load1 Ty.a25 rfl (fun w hw => (cell_of (hw.2.own _ (.tail _ (.tail _ (.tail _ (.tail _ (.head _))))))).trans rfl) rfl ?_ | refine J.load1 Ty.a25 rfl (fun w hw => (cell_of (hw.2.own _ (List.mem_append_right _ (.head _)))).trans rfl) rfl ?_ | refine J.load1 Ty.a25 rfl (fun w hw => (cell_of (hw.2.own _ (List.mem_append_right _ (.tail _ (.head _))))).trans rfl) rfl ?_ | refine J.load1 Ty.a25 rfl (fun w hw => (cell_of (hw.2.own _ (List.mem_append_right _ (.tail _ (.tail _ (.head _)))))).trans rfl) rfl ?_ | refine J.load1 Ty.a25 rfl (fun w hw => (cell_of (hw.2.own _ (List.mem_append_right _ (.tail _ (.tail _ (.tail _ (.head _))))))).trans rfl) rfl ?_ | refine J.load1 Ty.a25 rfl (fun w hw => (cell_of (hw.2.own _ (List.mem_append_right _ (.tail _ (.tail _ (.tail _ (.tail _ (.head _)))))))).trans rfl) rfl ?_)
                            refine J.nil (JX.fin rfl (fun w hw => ⟨rfl, (by rw [hw.1]; exact Below.refl _ _)⟩))
                          · skip
                            refine Fin.nil ?_
                            refine J.move rfl rfl ?_
                            refine J.nil (JX.fin rfl (fun w hw => ⟨rfl, (by rw [hw.1]; exact Below.refl _ _)⟩))
                          · skip
                            refine Fin.cons (fun v32_4 => ?_)
                            refine Fin.nil ?_
                            refine J.prE (fun h => ?_); subst h
                            refine J.nilCheck rfl rfl ?_
                            refine J.nil (JX.fin rfl (fun w hw => ⟨rfl, (by rw [hw.1]; exact Below.refl _ _)⟩))
                          · skip
                            refine Fin.cons (fun v32_5 => ?_)
                            refine Fin.nil ?_
                            refine J.prE (fun h => ?_); subst h
                            refine J.fieldAddr Ty.fd67_1 rfl rfl ?_
                            refine J.nil (JX.fin rfl (fun w hw => ⟨rfl, (by rw [hw.1]; exact Below.refl _ _)⟩))
                          · skip
                            refine Fin.cons (fun v32_6 => ?_)
                            refine Fin.nil ?_
                            refine J.prE (fun h => ?_); subst h
                            (first | refine J.load1 Ty.a65 rfl (fun w hw => (cell_of (hw.2.own _ (.head _))).trans rfl) rfl ?_ | refine J.load1 Ty.a65 rfl (fun w hw => (cell_of (hw.2.own _ (.tail _ (.head _)))).trans rfl) rfl ?_ | refine J.load1 Ty.a65 rfl (fun w hw => (cell_of (hw.2.own _ (.tail _ (.tail _ (.head _))))).trans rfl) rfl ?_ | refine J.load1 Ty.a65 rfl (fun w hw => (cell_of (hw.2.own _ (.tail _ (.tail _ (.tail _ (.head _)))))).trans rfl) rfl ?_ | refine J.load1 Ty.a65 rfl (fun w hw => (cell_of (hw.2.own _ (.tail _ (.tail _ (.tail _ (.tail _ (.head _))))))).trans rfl) rfl ?_ | refine J.load1 Ty.a65 rfl (fun w hw => (cell_of (hw.2.own _ (List.mem_append_right _ (.head _)))).trans rfl) rfl ?_ | refine J.load1 Ty.a65 rfl (fun w hw => (cell_of (hw.2.own _ (List.mem_append_right _ (.tail _ (.head _))))).trans rfl) rfl ?_ | refine J.load1 Ty.a65 rfl (fun w hw => (cell_of (hw.2.own _ (List.mem_append_right _ (.tail _ (.tail _ (.head _)))))).trans rfl) rfl ?_ | refine J.load1 Ty.a65 rfl (fun w hw => (cell_of (hw.2.own _ (List.mem_append_right _ (.tail _ (.tail _ (.tail _ (.head _))))))).trans rfl) rfl ?_ | refine J.load1 Ty.a65 rfl (fun w hw => (cell_of (hw.2.own _ (List.mem_append_right _ (.tail _ (.tail _ (.tail _ (.tail _ (.head _)))))))).trans rfl) rfl ?_)
                            refine J.nil (JX.fin rfl (fun w hw => ⟨rfl, (by rw [hw.1]; exact Below.refl _ _)⟩))
                          · skip
                            refine Fin.cons (fun v32_7 => ?_)
                            refine Fin.nil ?_
                            refine J.prE (fun h => ?_); subst h
                            refine J.bin rfl rfl rfl rfl ?_
                            refine J.name 139 rfl (congrArg (Value.int .u64) (show _ = ((gen + 1 : Nat) : Int) from wrap_u64 (by omega) (by omega))) ?_
                            refine J.nil (JX.fin rfl (fun w hw => ⟨rfl, (by rw [hw.1]; exact Below.refl _ _)⟩))
                          · skip
                            refine Fin.cons (fun v32_8 => ?_)
                            refine Fin.nil ?_
                            refine J.prE (fun h => ?_); subst h
                            refine J.bin rfl rfl rfl rfl ?_
                            refine J.name 140 rfl (congrArg (Value.int .u64) (show _ = (((gen + 1) % 2 : Nat) : Int) from rfl)) ?_
                            refine J.nil (JX.fin rfl (fun w hw => ⟨rfl, (by rw [hw.1]; exact Below.refl _ _)⟩))
                          · skip
                            refine Fin.cons (fun v32_9 => ?_)
                            refine Fin.nil ?_
                            refine J.prE (fun h => ?_); subst h
                            refine J.convInt Ty.u65 Ty.u3 rfl rfl ?_
                            refine J.name 141 rfl (congrArg (Value.int .i64) (show _ = (((gen + 1) % 2 : Nat) : Int) from wrap_i64 (by omega) (by omega))) ?_
                            refine J.nil (JX.fin rfl (fun w hw => ⟨rfl, (by rw [hw.1]; exact Below.refl _ _)⟩))
                          · skip
                            refine Fin.nil ?_
                            refine J.move rfl rfl ?_
                            refine J.nil (JX.fin rfl (fun w hw => ⟨rfl, (by rw [hw.1]; exact Below.refl _ _)⟩))
                        case htail =>
                          refine Fin.cons (fun v32_0 => ?_)
                          refine Fin.cons (fun v32_1 => ?_)
                          refine Fin.cons (fun v32_2 => ?_)
                          refine Fin.cons (fun v32_3 => ?_)
                          refine Fin.cons (fun v32_4 => ?_)
                          refine Fin.cons (fun v32_5 => ?_)
                          refine Fin.cons (fun v32_6 => ?_)
                          refine Fin.cons (fun v32_7 => ?_)
                          refine Fin.cons (fun v32_8 => ?_)
                          refine Fin.cons (fun v32_9 => ?_)
                          refine Fin.cons (fun v32_10 => ?_)
                          refine Fin.cons (fun v32_11 => ?_)
                          refine Fin.nil ?_
                          refine J.prE (fun h => ?_); subst h
                          refine J.prE (fun h => ?_); subst h
                          refine J.prE (fun h => ?_); subst h
                          refine J.prE (fun h => ?_); subst h
                          refine J.prE (fun h => ?_); subst h
                          refine J.prE (fun h => ?_); subst h
                          refine J.prE (fun h => ?_); subst h
                          refine J.prE (fun h => ?_); subst h
                          refine J.prE (fun h => ?_); subst h
                          refine J.prE (fun h => ?_); subst h
                          refine J.prE (fun h => ?_); subst h
                          refine J.prE (fun h => ?_); subst h
                          refine J.perm ((r, rfO (.slice a0 (64 * n) c0) (0) (k1)) :: (lp1 ++ ((lb, cb [.pointer (some ⟨r, 0, none⟩), .int .u64 ((gen : Nat) : Int), .int .i64 ((used : Nat) : Int), .int .i64 ((cnt_ : Nat) : Int), .bool false] 67) :: (lp41 ++ [(b75, cb (([gen + 1, used + needN rec_.length, cnt_ + 1].flatMap be8).map u8) 5)])))) (by (refine perm_cnt (fun _ => ?_)); simp only [cntB_append, cntB_cons, cntB_nil, Nat.add_zero, Nat.zero_add]; try ac_rfl) ?_
                          refine J.callB (fun w1 w2 hw hb => hw.step hb) Ty.bd18 rfl rfl (fun w1 hw => rwrite_down r n _ lp1 B1 k1 w1 (St.owns (l1 := (r, rfO (.slice a0 (64 * n) c0) (0) (k1)) :: lp1) hw) hv1 hn (((gen + 1) % 2 : Nat) : Int) _ 24 24 (by omega) (by omega) (by omega)) ?_
                          refine J.perm ((lb, cb [.pointer (some ⟨r, 0, none⟩), .int .u64 ((gen : Nat) : Int), .int .i64 ((used : Nat) : Int), .int .i64 ((cnt_ : Nat) : Int), .bool false] 67) :: (r, rfO (.slice a0 (64 * n) c0) (0) (k1)) :: (lp1 ++ (lp41 ++ [(b75, cb (([gen + 1, used + needN rec_.length, cnt_ + 1].flatMap be8).map u8) 5)]))) (by (refine perm_cnt (fun _ => ?_)); simp only [cntB_append, cntB_cons, cntB_nil, Nat.add_zero, Nat.zero_add]; try ac_rfl) ?_
                          refine J.assign rfl rfl ?_
                          refine J.nil ?_
                          refine JX.thenN (hK42 _ _ ?_)
                          refine JC.seq (fun K43 hK43 => ?_)
                          refine JC.region ?_
                          refine J.move rfl rfl ?_
                          refine J.bin rfl rfl rfl rfl ?_
                          refine J.nil ?_
                          refine JX.thenN (hK43 _ _ ?_)
                          first | refine JC.condT rfl ?_ | refine JC.cond rfl (fun _ => ?_) (fun h => by first | (exfalso; simp at h; omega) | (simp at h))
                          refine JC.seq (fun K44 hK44 => ?_)
                          refine JC.region ?_
                          refine J.move rfl rfl ?_
                          refine J.nilCheck rfl rfl ?_
                          refine J.fieldAddr Ty.fd67_4 rfl rfl ?_
                          (first | refine J.storeO Ty.s4 rfl rfl rfl rfl (by simp [Value.oneCell']) .here (by simp) ?_ | refine J.storeO Ty.s4 rfl rfl rfl rfl (by simp [Value.oneCell']) (.there .here) (by simp) ?_ | refine J.storeO Ty.s4 rfl rfl rfl rfl (by simp [Value.oneCell']) (.there (.there .here)) (by simp) ?_ | refine J.storeO Ty.s4 rfl rfl rfl rfl (by simp [Value.oneCell']) (.there (.there (.there .here))) (by simp) ?_)
                          refine J.nil ?_
                          refine JX.thenN (hK44 _ _ ?_)
                          refine JC.seq (fun K45 hK45 => ?_)
                          refine JC.region ?_
                          refine J.move rfl rfl ?_
                          refine J.assign rfl rfl ?_
                          refine J.nil ?_
                          refine JX.thenN (hK45 _ _ ?_)
                          refine JC.ret ?_
                          refine JX.thenR ?_
                          refine JX.ret1 rfl rfl (fun w1 hw => ?_)
                          rw [happ]
                          first
                          | exact ⟨lp, rfl, hv, hw⟩
                          | exact ⟨lp1, rfl, hv1, hw.drop (.cons_cons _ (.cons_cons _ (List.sublist_append_left _ _)))⟩
                          | exact ⟨lp2, rfl, hv2, hw.drop (.cons_cons _ (.cons_cons _ (List.sublist_append_left _ _)))⟩
                      · skip
                        have happ := appendP_ok (n := n) (q := ⟨gen, used, cnt_, recs⟩) (σ := ⟨B, p, k⟩) hlong hfull (hdw.trans (by rw [plan_last, dws_cons hp0]; exact dws_nil))
                        apply JC.drawL 12 [Eqv _, Eqv _, Eqv _, Eqv _, Eqv _, Eqv _, Eqv _, Eqv _, Eqv _, Eqv _, Eqv _, Eqv _] Ty.mixed rfl rfl rfl (by kernel_rfl) rfl rfl (fun w w' hw hb => hw.step hb) ⟨fun _ _ _ h _ => h, fun _ _ _ h _ => h, fun _ _ _ h _ => h, fun _ _ _ h _ => h, fun _ _ _ h _ => h, fun _ _ _ h _ => h, fun _ _ _ h _ => h, fun _ _ _ h _ => h, fun _ _ _ h _ => h, fun _ _ _ h _ => h, fun _ _ _ h _ => h, fun _ _ _ h _ => h, trivial⟩ ?hstep ?htail
                        case hstep =>
                          refine ⟨fun wi => ?_, fun wi => ?_, fun wi => ?_, fun wi => ?_, fun wi => ?_, fun wi => ?_, fun wi => ?_, fun wi => ?_, fun wi => ?_, fun wi => ?_, fun wi => ?_, fun wi => ?_, trivial⟩
                          · skip
                            refine Fin.nil ?_
                            refine J.move rfl rfl ?_
                            refine J.nil (JX.fin rfl (fun w hw => ⟨rfl, (by rw [hw.1]; exact Below.refl _ _)⟩))
                          · skip
                            refine Fin.cons (fun v32_0 => ?_)
                            refine Fin.nil ?_
                            refine J.prE (fun h => ?_); subst h
                            refine J.nilCheck rfl rfl ?_
                            refine J.nil (JX.fin rfl (fun w hw => ⟨rfl, (by rw [hw.1]; exact Below.refl _ _)⟩))
                          · skip
                            refine Fin.cons (fun v32_1 => ?_)
                            refine Fin.nil ?_
                            refine J.prE (fun h => ?_); subst h
                            refine J.fieldAddr Ty.fd67_0 rfl rfl ?_
                            refine J.nil (JX.fin rfl (fun w hw => ⟨rfl, (by rw [hw.1]; exact Below.refl _ _)⟩))
                          · skip
                            refine Fin.cons (fun v32_2 => ?_)
                            refine Fin.nil ?_
                            refine J.prE (fun h => ?_); subst h
                            (first | refine J.load1 Ty.a25 rfl (fun w hw => (cell_of (hw.2.own _ (.head _))).trans rfl) rfl ?_ | refine J.load1 Ty.a25 rfl (fun w hw => (cell_of (hw.2.own _ (.tail _ (.head _)))).trans rfl) rfl ?_ | refine J.load1 Ty.a25 rfl (fun w hw => (cell_of (hw.2.own _ (.tail _ (.tail _ (.head _))))).trans rfl) rfl ?_ | refine J.load1 Ty.a25 rfl (fun w hw => (cell_of (hw.2.own _ (.tail _ (.tail _ (.tail _ (.head _)))))).trans rfl) rfl ?_ | refine J.load1 Ty.a25 rfl (fun w hw => (cell_of (hw.2.own _ (.tail _ (.tail _ (.tail _ (.tail _ (.head _))))))).trans rfl) rfl ?_ | refine J.load1 Ty.a25 rfl (fun w hw => (cell_of (hw.2.own _ (List.mem_append_right _ (.head _)))).trans rfl) rfl ?_ | refine J.load1 Ty.a25 rfl (fun w hw => (cell_of (hw.2.own _ (List.mem_append_right _ (.tail _ (.head _))))).trans rfl) rfl ?_ | refine J.load1 Ty.a25 rfl (fun w hw => (cell_of (hw.2.own _ (List.mem_append_right _ (.tail _ (.tail _ (.head _)))))).trans rfl) rfl ?_ | refine J.load1 Ty.a25 rfl (fun w hw => (cell_of (hw.2.own _ (List.mem_append_right _ (.tail _ (.tail _ (.tail _ (.head _))))))).trans rfl) rfl ?_ | refine J.load1 Ty.a25 rfl (fun w hw => (cell_of (hw.2.own _ (List.mem_append_right _ (.tail _ (.tail _ (.tail _ (.tail _ (.head _)))))))).trans rfl) rfl ?_)
                            refine J.nil (JX.fin rfl (fun w hw => ⟨rfl, (by rw [hw.1]; exact Below.refl _ _)⟩))
                          · skip
                            refine Fin.nil ?_
                            refine J.move rfl rfl ?_
                            refine J.nil (JX.fin rfl (fun w hw => ⟨rfl, (by rw [hw.1]; exact Below.refl _ _)⟩))
                          · skip
                            refine Fin.cons (fun v32_4 => ?_)
                            refine Fin.nil ?_
                            refine J.prE (fun h => ?_); subst h
                            refine J.nilCheck rfl rfl ?_
                            refine J.nil (JX.fin rfl (fun w hw => ⟨rfl, (by rw [hw.1]; exact Below.refl _ _)⟩))
                          · skip
                            refine Fin.cons (fun v32_5 => ?_)
                            refine Fin.nil ?_
                            refine J.prE (fun h => ?_); subst h
                            refine J.fieldAddr Ty.fd67_1 rfl rfl ?_
                            refine J.nil (JX.fin rfl (fun w hw => ⟨rfl, (by rw [hw.1]; exact Below.refl _ _)⟩))
                          · skip
                            refine Fin.cons (fun v32_6 => ?_)
                            refine Fin.nil ?_
                            refine J.prE (fun h => ?_); subst h
                            (first | refine J.load1 Ty.a65 rfl (fun w hw => (cell_of (hw.2.own _ (.head _))).trans rfl) rfl ?_ | refine J.load1 Ty.a65 rfl (fun w hw => (cell_of (hw.2.own _ (.tail _ (.head _)))).trans rfl) rfl ?_ | refine J.load1 Ty.a65 rfl (fun w hw => (cell_of (hw.2.own _ (.tail _ (.tail _ (.head _))))).trans rfl) rfl ?_ | refine J.load1 Ty.a65 rfl (fun w hw => (cell_of (hw.2.own _ (.tail _ (.tail _ (.tail _ (.head _)))))).trans rfl) rfl ?_ | refine J.load1 Ty.a65 rfl (fun w hw => (cell_of (hw.2.own _ (.tail _ (.tail _ (.tail _ (.tail _ (.head _))))))).trans rfl) rfl ?_ | refine J.load1 Ty.a65 rfl (fun w hw => (cell_of (hw.2.own _ (List.mem_append_right _ (.head _)))).trans rfl) rfl ?_ | refine J.load1 Ty.a65 rfl (fun w hw => (cell_of (hw.2.own _ (List.mem_append_right _ (.tail _ (.head _))))).trans rfl) rfl ?_ | refine J.load1 Ty.a65 rfl (fun w hw => (cell_of (hw.2.own _ (List.mem_append_right _ (.tail _ (.tail _ (.head _)))))).trans rfl) rfl ?_ | refine J.load1 Ty.a65 rfl (fun w hw => (cell_of (hw.2.own _ (List.mem_append_right _ (.tail _ (.tail _ (.tail _ (.head _))))))).trans rfl) rfl ?_ | refine J.load1 Ty.a65 rfl (fun w hw => (cell_of (hw.2.own _ (List.mem_append_right _ (.tail _ (.tail _ (.tail _ (.tail _ (.head _)))))))).trans rfl) rfl ?_)
                            refine J.nil (JX.fin rfl (fun w hw => ⟨rfl, (by rw [hw.1]; exact Below.refl _ _)⟩))
                          · skip
                            refine Fin.cons (fun v32_7 => ?_)
                            refine Fin.nil ?_
                            refine J.prE (fun h => ?_); subst h
                            refine J.bin rfl rfl rfl rfl ?_
                            refine J.name 139 rfl (congrArg (Value.int .u64) (show _ = ((gen + 1 : Nat) : Int) from wrap_u64 (by omega) (by omega))) ?_
                            refine J.nil (JX.fin rfl (fun w hw => ⟨rfl, (by rw [hw.1]; exact Below.refl _ _)⟩))
                          · skip
                            refine Fin.cons (fun v32_8 => ?_)
                            refine Fin.nil ?_
                            refine J.prE (fun h => ?_); subst h
                            refine J.bin rfl rfl rfl rfl ?_
                            refine J.name 140 rfl (congrArg (Value.int .u64) (show _ = (((gen + 1) % 2 : Nat) : Int) from rfl)) ?_
                            refine J.nil (JX.fin rfl (fun w hw => ⟨rfl, (by rw [hw.1]; exact Below.refl _ _)⟩))
                          · skip
                            refine Fin.cons (fun v32_9 => ?_)
                            refine Fin.nil ?_
                            refine J.prE (fun h => ?_); subst h
                            refine J.convInt Ty.u65 Ty.u3 rfl rfl ?_
                            refine J.name 141 rfl (congrArg (Value.int .i64) (show _ = (((gen + 1) % 2 : Nat) : Int) from wrap_i64 (by omega) (by omega))) ?_
                            refine J.nil (JX.fin rfl (fun w hw => ⟨rfl, (by rw [hw.1]; exact Below.refl _ _)⟩))
                          · skip
                            refine Fin.nil ?_
                            refine J.move rfl rfl ?_
                            refine J.nil (JX.fin rfl (fun w hw => ⟨rfl, (by rw [hw.1]; exact Below.refl _ _)⟩))
                        case htail =>
                          refine Fin.cons (fun v32_0 => ?_)
                          refine Fin.cons (fun v32_1 => ?_)
                          refine Fin.cons (fun v32_2 => ?_)
                          refine Fin.cons (fun v32_3 => ?_)
                          refine Fin.cons (fun v32_4 => ?_)
                          refine Fin.cons (fun v32_5 => ?_)
                          refine Fin.cons (fun v32_6 => ?_)
                          refine Fin.cons (fun v32_7 => ?_)
                          refine Fin.cons (fun v32_8 => ?_)
                          refine Fin.cons (fun v32_9 => ?_)
                          refine Fin.cons (fun v32_10 => ?_)
                          refine Fin.cons (fun v32_11 => ?_)
                          refine Fin.nil ?_
                          refine J.prE (fun h => ?_); subst h
                          refine J.prE (fun h => ?_); subst h
                          refine J.prE (fun h => ?_); subst h
                          refine J.prE (fun h => ?_); subst h
                          refine J.prE (fun h => ?_); subst h
                          refine J.prE (fun h => ?_); subst h
                          refine J.prE (fun h => ?_); subst h
                          refine J.prE (fun h => ?_); subst h
                          refine J.prE (fun h => ?_); subst h
                          refine J.prE (fun h => ?_); subst h
                          refine J.prE (fun h => ?_); subst h
                          refine J.prE (fun h => ?_); subst h
                          refine J.perm (((r, rfO (.slice a0 (64 * n) c0) (p1) (k1)) :: lp1) ++ ((lb, cb [.pointer (some ⟨r, 0, none⟩), .int .u64 ((gen : Nat) : Int), .int .i64 ((used : Nat) : Int), .int .i64 ((cnt_ : Nat) : Int), .bool false] 67) :: (lp41 ++ [(b75, cb (([gen + 1, used + needN rec_.length, cnt_ + 1].flatMap be8).map u8) 5)]))) (by (refine perm_cnt (fun _ => ?_)); simp only [cntB_append, cntB_cons, cntB_nil, Nat.add_zero, Nat.zero_add]; try ac_rfl) ?_
                          refine J.callS (α := List (Nat × Obj)) (V := fun _ => .int .i64 0) (Pr := fun x => Vec 5 1 (.slice a0 (64 * n) c0) (64 * n) ((put B1 ((gen + 1) % 2) ([gen + 1, used + needN rec_.length, cnt_ + 1].flatMap be8)).map u8) x) (L := fun x => (r, rfO (.slice a0 (64 * n) c0) (if 0 < p1 then p1 - 1 else p1) (k1 + 1)) :: x) (l1 := (r, rfO (.slice a0 (64 * n) c0) (p1) (k1)) :: lp1) Ty.bd18 rfl rfl
                            (fun w1 hw => rwrite_done r n _ lp1 B1 ([gen + 1, used + needN rec_.length, cnt_ + 1].flatMap be8) p1 k1 ((gen + 1) % 2) (some ⟨b75, 0, none⟩) 24 24 w1 hw.owns hv1 hn hB1 hk10 (by omega) (by omega) (by omega) (by rw [flat_length]; rfl) (Row.own (cs := ([gen + 1, used + needN rec_.length, cnt_ + 1].flatMap be8).map u8) (tb := 5) (fr := (0, 0)) hw (List.mem_append_right _ (.tail _ (List.mem_append_right _ (.head _)))) (List.take_of_length_le (Nat.le_refl _)) (Nat.le_refl _)) (Off.mk (hw.off (.tail _ (List.mem_append_right _ (.head _))))) hp1 hp0) (fun lp2 hv2 => ?_)
                          refine J.perm ((lb, cb [.pointer (some ⟨r, 0, none⟩), .int .u64 ((gen : Nat) : Int), .int .i64 ((used : Nat) : Int), .int .i64 ((cnt_ : Nat) : Int), .bool false] 67) :: (r, rfO (.slice a0 (64 * n) c0) (if 0 < p1 then p1 - 1 else p1) (k1 + 1)) :: (lp2 ++ (lp41 ++ [(b75, cb (([gen + 1, used + needN rec_.length, cnt_ + 1].flatMap be8).map u8) 5)]))) (by (refine perm_cnt (fun _ => ?_)); simp only [cntB_append, cntB_cons, cntB_nil, Nat.add_zero, Nat.zero_add]; try ac_rfl) ?_
                          refine J.assign rfl rfl ?_
                          refine J.nil ?_
                          refine JX.thenN (hK42 _ _ ?_)
                          refine JC.seq (fun K46 hK46 => ?_)
                          refine JC.region ?_
                          refine J.move rfl rfl ?_
                          refine J.bin rfl rfl rfl rfl ?_
                          refine J.nil ?_
                          refine JX.thenN (hK46 _ _ ?_)
                          first | refine JC.condF rfl ?_ | refine JC.cond rfl (fun h => by first | (exfalso; simp at h; omega) | (simp at h)) (fun _ => ?_)
                          refine JC.skip ?_
                          refine JX.thenN (hK41 _ _ ?_)
                          refine JC.seq (fun K47 hK47 => ?_)
                          refine JC.region ?_
                          refine J.move rfl rfl ?_
                          refine J.nilCheck rfl rfl ?_
                          refine J.fieldAddr Ty.fd67_1 rfl rfl ?_
                          (first | refine J.loadO Ty.a65 rfl (.head _) rfl rfl ?_ | refine J.loadO Ty.a65 rfl (.tail _ (.head _)) rfl rfl ?_ | refine J.loadO Ty.a65 rfl (.tail _ (.tail _ (.head _))) rfl rfl ?_ | refine J.loadO Ty.a65 rfl (.tail _ (.tail _ (.tail _ (.head _)))) rfl rfl ?_ | refine J.loadO Ty.a65 rfl (.tail _ (.tail _ (.tail _ (.tail _ (.head _))))) rfl rfl ?_ | refine J.loadO Ty.a65 rfl (List.mem_append_right _ (.head _)) rfl rfl ?_ | refine J.loadO Ty.a65 rfl (List.mem_append_right _ (.tail _ (.head _))) rfl rfl ?_ | refine J.loadO Ty.a65 rfl (List.mem_append_right _ (.tail _ (.tail _ (.head _)))) rfl rfl ?_ | refine J.loadO Ty.a65 rfl (List.mem_append_right _ (.tail _ (.tail _ (.tail _ (.head _))))) rfl rfl ?_ | refine J.loadO Ty.a65 rfl (List.mem_append_right _ (.tail _ (.tail _ (.tail _ (.tail _ (.head _)))))) rfl rfl ?_)
                          refine J.bin rfl rfl rfl rfl ?_
                          refine J.name 154 rfl (congrArg (Value.int .u64) (show _ = ((gen + 1 : Nat) : Int) from wrap_u64 (by omega) (by omega))) ?_
                          refine J.nilCheck rfl rfl ?_
                          refine J.fieldAddr Ty.fd67_1 rfl rfl ?_
                          (first | refine J.storeO Ty.s65 rfl rfl rfl rfl (by simp [Value.oneCell']) .here (by simp) ?_ | refine J.storeO Ty.s65 rfl rfl rfl rfl (by simp [Value.oneCell']) (.there .here) (by simp) ?_ | refine J.storeO Ty.s65 rfl rfl rfl rfl (by simp [Value.oneCell']) (.there (.there .here)) (by simp) ?_ | refine J.storeO Ty.s65 rfl rfl rfl rfl (by simp [Value.oneCell']) (.there (.there (.there .here))) (by simp) ?_)
                          refine J.nil ?_
                          refine JX.thenN (hK47 _ _ ?_)
                          refine JC.seq (fun K48 hK48 => ?_)
                          refine JC.region ?_
                          refine J.move rfl rfl ?_
                          refine J.nilCheck rfl rfl ?_
                          refine J.fieldAddr Ty.fd67_2 rfl rfl ?_
                          (first | refine J.loadO Ty.a3 rfl (.head _) rfl rfl ?_ | refine J.loadO Ty.a3 rfl (.tail _ (.head _)) rfl rfl ?_ | refine J.loadO Ty.a3 rfl (.tail _ (.tail _ (.head _))) rfl rfl ?_ | refine J.loadO Ty.a3 rfl (.tail _ (.tail _ (.tail _ (.head _)))) rfl rfl ?_ | refine J.loadO Ty.a3 rfl (.tail _ (.tail _ (.tail _ (.tail _ (.head _))))) rfl rfl ?_ | refine J.loadO Ty.a3 rfl (List.mem_append_right _ (.head _)) rfl rfl ?_ | refine J.loadO Ty.a3 rfl (List.mem_append_right _ (.tail _ (.head _))) rfl rfl ?_ | refine J.loadO Ty.a3 rfl (List.mem_append_right _ (.tail _ (.tail _ (.head _)))) rfl rfl ?_ | refine J.loadO Ty.a3 rfl (List.mem_append_right _ (.tail _ (.tail _ (.tail _ (.head _))))) rfl rfl ?_ | refine J.loadO Ty.a3 rfl (List.mem_append_right _ (.tail _ (.tail _ (.tail _ (.tail _ (.head _)))))) rfl rfl ?_)
                          refine J.move rfl rfl ?_
                          (first | refine J.addN rfl rfl (by omega) (by omega) rfl ?_ | refine J.bin rfl rfl rfl rfl ?_)
                          refine J.nilCheck rfl rfl ?_
                          refine J.fieldAddr Ty.fd67_2 rfl rfl ?_
                          (first | refine J.storeO Ty.s3 rfl rfl rfl rfl (by simp [Value.oneCell']) .here (by simp) ?_ | refine J.storeO Ty.s3 rfl rfl rfl rfl (by simp [Value.oneCell']) (.there .here) (by simp) ?_ | refine J.storeO Ty.s3 rfl rfl rfl rfl (by simp [Value.oneCell']) (.there (.there .here)) (by simp) ?_ | refine J.storeO Ty.s3 rfl rfl rfl rfl (by simp [Value.oneCell']) (.there (.there (.there .here))) (by simp) ?_)
                          refine J.nil ?_
                          refine JX.thenN (hK48 _ _ ?_)
                          refine JC.seq (fun K49 hK49 => ?_)
                          refine JC.region ?_
                          refine J.move rfl rfl ?_
                          refine J.nilCheck rfl rfl ?_
                          refine J.fieldAddr Ty.fd67_3 rfl rfl ?_
                          (first | refine J.loadO Ty.a3 rfl (.head _) rfl rfl ?_ | refine J.loadO Ty.a3 rfl (.tail _ (.head _)) rfl rfl ?_ | refine J.loadO Ty.a3 rfl (.tail _ (.tail _ (.head _))) rfl rfl ?_ | refine J.loadO Ty.a3 rfl (.tail _ (.tail _ (.tail _ (.head _)))) rfl rfl ?_ | refine J.loadO Ty.a3 rfl (.tail _ (.tail _ (.tail _ (.tail _ (.head _))))) rfl rfl ?_ | refine J.loadO Ty.a3 rfl (List.mem_append_right _ (.head _)) rfl rfl ?_ | refine J.loadO Ty.a3 rfl (List.mem_append_right _ (.tail _ (.head _))) rfl rfl ?_ | refine J.loadO Ty.a3 rfl (List.mem_append_right _ (.tail _ (.tail _ (.head _)))) rfl rfl ?_ | refine J.loadO Ty.a3 rfl (List.mem_append_right _ (.tail _ (.tail _ (.tail _ (.head _))))) rfl rfl ?_ | refine J.loadO Ty.a3 rfl (List.mem_append_right _ (.tail _ (.tail _ (.tail _ (.tail _ (.head _)))))) rfl rfl ?_)
                          (first | refine J.addN rfl rfl (by omega) (by omega) rfl ?_ | refine J.bin rfl rfl rfl rfl ?_)
                          refine J.nilCheck rfl rfl ?_
                          refine J.fieldAddr Ty.fd67_3 rfl rfl ?_
                          (first | refine J.storeO Ty.s3 rfl rfl rfl rfl (by simp [Value.oneCell']) .here (by simp) ?_ | refine J.storeO Ty.s3 rfl rfl rfl rfl (by simp [Value.oneCell']) (.there .here) (by simp) ?_ | refine J.storeO Ty.s3 rfl rfl rfl rfl (by simp [Value.oneCell']) (.there (.there .here)) (by simp) ?_ | refine J.storeO Ty.s3 rfl rfl rfl rfl (by simp [Value.oneCell']) (.there (.there (.there .here))) (by simp) ?_)
                          refine J.nil ?_
                          refine JX.thenN (hK49 _ _ ?_)
                          refine JC.seq (fun K50 hK50 => ?_)
                          refine JC.region ?_
                          refine J.assign rfl rfl ?_
                          refine J.nil ?_
                          refine JX.thenN (hK50 _ _ ?_)
                          refine JC.ret ?_
                          refine JX.ret1 rfl rfl (fun w1 hw => ?_)
                          rw [happ]
                          first
                          | exact ⟨lp, rfl, hv, hw⟩
                          | exact ⟨lp1, rfl, hv1, hw.drop (.cons_cons _ (.cons_cons _ (List.sublist_append_left _ _)))⟩
                          | exact ⟨lp2, rfl, hv2, hw.drop (.cons_cons _ (.cons_cons _ (List.sublist_append_left _ _)))⟩

end Go.Proofs.Ytlmbpfgiadbjaaa
