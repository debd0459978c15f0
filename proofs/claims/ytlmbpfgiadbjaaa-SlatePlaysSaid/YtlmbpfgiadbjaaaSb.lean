/-
  What the functions of package slate do, and the document's: contracts, second part.
-/
import Derived.Test.YtlmbpfgiadbjaaaSa
namespace Go.Proofs.Ytlmbpfgiadbjaaa
open Go.J Go.RowKit
set_option linter.unusedVariables false
set_option linter.unusedSimpArgs false
set_option maxRecDepth 4000
def be8 (n : Nat) : List UInt8 := (List.range 8).map fun i => UInt8.ofNat (n / 2 ^ (56 - 8 * i))
theorem be8_length (n : Nat) : (be8 n).length = 8 := by simp [be8]
theorem be8_get (n i : Nat) (h : i < 8) : (be8 n)[i]'(by rw [be8_length]; exact h) = UInt8.ofNat (n / 2 ^ (56 - 8 * i)) := by simp [be8]
theorem num_be8 (n : Nat) (h : n < 18446744073709551616) : num (be8 n) = n := by
  simp only [num, be8, List.range, List.range.loop, List.map_cons, List.map_nil, List.foldl_cons, List.foldl_nil, UInt8.toNat_ofNat', Nat.reduceMul, Nat.reduceSub, Nat.reducePow]
  omega
theorem byte_be8 (n i : Nat) (h : i < 8) {q : Int} (hq : q = 56 - 8 * (i : Int)) : Value.int .u8 (IntKind.u8.wrap (Int.fdiv ((n : Nat) : Int) (2 ^ (min q.toNat IntKind.u64.bits)))) = u8 ((be8 n)[i]'(by rw [be8_length]; exact h)) := by
  rw [be8_get n i h]
  have e1 : min q.toNat IntKind.u64.bits = 56 - 8 * i := by
    have : IntKind.u64.bits = 64 := rfl
    omega
  have e2 : ((2 : Int) ^ (56 - 8 * i)) = ((2 ^ (56 - 8 * i) : Nat) : Int) := by simp
  rw [e1, wrap_u8m, e2, Int.fdiv_eq_ediv_of_nonneg _ (Int.natCast_nonneg _)]
  show Value.int .u8 _ = Value.int .u8 _
  congr 1 <;> simp
theorem beq_u8 (x : UInt8) : ((x.toNat : Int) == 0) = (x == 0) := by
  by_cases h : x = 0
  · subst h; rfl
  · have : x.toNat ≠ 0 := fun e => h (UInt8.toNat_inj.1 (by simpa using e))
    rw [beq_eq_false_iff_ne.2 h, beq_eq_false_iff_ne.2 (by omega)]
theorem flat_succ {ns : List Nat} {k : Nat} (h : k < ns.length) : (ns.take (k + 1)).flatMap be8 = (ns.take k).flatMap be8 ++ be8 ns[k] := by
  rw [take_add_one h, List.flatMap_append]; simp
theorem flat_length (ns : List Nat) : (ns.flatMap be8).length = 8 * ns.length := by
  induction ns with
  | nil => rfl
  | cons n ns ih => rw [List.flatMap_cons, List.length_append, ih, be8_length, List.length_cons]; omega

theorem laid_spec (v : Value) (ns : List Nat) (w : World) (hr : Row w v ns.length (ns.map fun n => .int .u64 ((n : Nat) : Int))) (hn : ns.length ≤ 1000) :
    Calls Try.prog 40 [v].toArray w fun r w' => ∃ x : Value × List (Nat × Obj), r = .returned x.1 ∧ Vec 5 1 x.1 (8 * ns.length) ((ns.flatMap be8).map u8) x.2 ∧ St w [] x.2 w' := by
  obtain ⟨a, c, rfl, hc, hra⟩ := hr
  refine calls_of_J (args := [.slice a ns.length c]) (e := [(0, .slice a ns.length c)]) Try.func40 rfl rfl ⟨rfl, trivial⟩ (St.start w) ?_
  refine JC.seq (fun K0 hK0 => ?_)
  refine JC.region ?_
  refine J.assign rfl rfl ?_
  refine J.nil ?_
  refine JX.thenN (hK0 _ _ ?_)
  refine JC.seq (fun K1 hK1 => ?_)
  refine JC.region ?_
  refine J.assign rfl rfl ?_
  refine J.nil ?_
  refine JX.thenN (hK1 _ _ ?_)
  refine JC.seq (fun K2 hK2 => ?_)
  refine JC.seq (fun K3 hK3 => ?_)
  refine JC.region ?_
  refine J.move rfl rfl ?_
  refine J.lenS rfl Ty.u84 rfl rfl ?_
  refine J.move rfl rfl ?_
  refine J.nil ?_
  refine JX.thenN (hK3 _ _ ?_)
  refine JC.block ?_
  refine JC.conseq (JC.cov (f := (fun st => [(7, .slice a ns.length c), (8, .int .i64 ((ns.length : Nat) : Int)), (9, .int .i64 ((st.1 : Nat) : Int)), (3, st.2.1)]) ((0, .slice none 0 0, []) : Nat × Value × List (Nat × Obj))) ⟨rfl, rfl, rfl, rfl, trivial⟩ (JC.loop (α := Nat × Value × List (Nat × Obj)) (fun st => [(7, .slice a ns.length c), (8, .int .i64 ((ns.length : Nat) : Int)), (9, .int .i64 ((st.1 : Nat) : Int)), (3, st.2.1)]) (fun st w' => (st.1 ≤ ns.length ∧ Vec 5 1 st.2.1 (8 * st.1) (((ns.take st.1).flatMap be8).map u8) st.2.2) ∧ St w [] st.2.2 w') (fun st => ns.length - st.1) ((0, .slice none 0 0, []) : Nat × Value × List (Nat × Obj)) (fun st => ?_))) (fun w hw => ⟨⟨Nat.zero_le _, Vec.nil _ _⟩, hw⟩)
  obtain ⟨k, v3, lp⟩ := st
  refine JC.pr (fun hx => ?_)
  obtain ⟨hk, hv⟩ := hx
  simp only at hk hv ⊢
  refine JC.seq (fun K4 hK4 => ?_)
  refine JC.region ?_
  refine J.bin rfl rfl rfl rfl ?_
  refine J.nil ?_
  refine JX.thenN (hK4 _ _ ?_)
  refine JC.seq (fun K5 hK5 => ?_)
  refine JC.cond rfl (fun h0 => ?_) (fun h0 => ?_)
  · skip
    have hlt : k < ns.length := by simp at h0; omega
    obtain ⟨nk, hnk⟩ : ∃ nk, nk = ns[k] := ⟨_, rfl⟩
    obtain ⟨b, o, rfl, hcl⟩ : ∃ b o, a = some ⟨b, o, none⟩ ∧ Cells w b o (ns.map fun n => .int .u64 ((n : Nat) : Int)) := by
      rcases hra with h | h
      · have h2 := congrArg List.length h; simp at h2; rw [h2] at hlt; simp at hlt
      · exact h
    have hcell : w.cell? ⟨b, o + (k : Int).toNat * 1, none⟩ = some (.int .u64 ((nk : Nat) : Int)) := by
      have := hcl k (by simpa using hlt)
      rw [show o + (k : Int).toNat * 1 = o + k by simp, this]; simp [List.getElem?_eq_getElem hlt, hnk]
    refine JC.skip ?_
    refine JX.thenN (hK5 _ _ ?_)
    refine JC.seq (fun K6 hK6 => ?_)
    refine JC.block ?_
    refine JC.seq (fun K7 hK7 => ?_)
    refine JC.region ?_
    refine J.indexAddrS Ty.el84 Ty.s65 rfl rfl (by omega) (by omega) rfl ?_
    refine J.loadR Ty.a65 rfl hcell (by simp) rfl ?_
    refine J.assign rfl rfl ?_
    refine J.nil ?_
    refine JX.thenN (hK7 _ _ ?_)
    refine JC.seq (fun K8 hK8 => ?_)
    refine JC.region ?_
    refine J.move rfl rfl ?_
    refine J.nil ?_
    refine JX.thenN (hK8 _ _ ?_)
    refine JC.block ?_
    refine JC.conseq (JC.cov (f := (fun st => [(7, .slice (some ⟨b, o, none⟩) ns.length c), (8, .int .i64 ((ns.length : Nat) : Int)), (9, .int .i64 ((k : Nat) : Int)), (5, .int .u64 ((nk : Nat) : Int)), (13, .int .i64 ((st.1 : Nat) : Int)), (3, st.2.1)]) ((0, v3, lp) : Nat × Value × List (Nat × Obj))) ⟨rfl, rfl, rfl, rfl, rfl, rfl, trivial⟩ (JC.loop (α := Nat × Value × List (Nat × Obj)) (fun st => [(7, .slice (some ⟨b, o, none⟩) ns.length c), (8, .int .i64 ((ns.length : Nat) : Int)), (9, .int .i64 ((k : Nat) : Int)), (5, .int .u64 ((nk : Nat) : Int)), (13, .int .i64 ((st.1 : Nat) : Int)), (3, st.2.1)]) (fun st w' => (st.1 ≤ 8 ∧ Vec 5 1 st.2.1 (8 * k + st.1) (((ns.take k).flatMap be8 ++ (be8 nk).take st.1).map u8) st.2.2) ∧ St w [] st.2.2 w') (fun st => 8 - st.1) ((0, v3, lp) : Nat × Value × List (Nat × Obj)) (fun st => ?_))) (fun w hw => ⟨⟨Nat.zero_le _, by simpa using hv⟩, hw⟩)
    obtain ⟨i, v4, lp4⟩ := st
    refine JC.pr (fun hx => ?_)
    obtain ⟨hi, hv4⟩ := hx
    simp only at hi hv4 ⊢
    refine JC.seq (fun K9 hK9 => ?_)
    refine JC.region ?_
    refine J.bin rfl rfl rfl rfl ?_
    refine J.nil ?_
    refine JX.thenN (hK9 _ _ ?_)
    refine JC.seq (fun K10 hK10 => ?_)
    refine JC.cond rfl (fun h1 => ?_) (fun h1 => ?_)
    · skip
      have hlt2 : i < 8 := by simp at h1; omega
      refine JC.skip ?_
      refine JX.thenN (hK10 _ _ ?_)
      refine JC.seq (fun K11 hK11 => ?_)
      refine JC.block ?_
      refine JC.seq (fun K12 hK12 => ?_)
      refine JC.region ?_
      refine J.move rfl rfl ?_
      refine J.assign rfl rfl ?_
      refine J.nil ?_
      refine JX.thenN (hK12 _ _ ?_)
      refine JC.region ?_
      refine J.move rfl rfl ?_
      refine J.move rfl rfl ?_
      refine J.move rfl rfl ?_
      (first | refine J.mulN rfl rfl (by omega) (by omega) rfl ?_ | refine J.bin rfl rfl rfl rfl ?_)
      (first | refine J.subN rfl rfl (by omega) (by omega) rfl ?_ | refine J.bin rfl rfl rfl rfl ?_)
      refine J.shrN rfl rfl (by omega) rfl ?_
      refine J.convInt Ty.u65 Ty.u5 rfl rfl ?_
      refine J.name 22 rfl (byte_be8 nk i hlt2 rfl) ?_
      refine J.buildSl Ty.el28 Ty.s5 Ty.z5 rfl rfl rfl rfl rfl rfl rfl (fun b23 => ?_)
      refine J.perm (lp4 ++ [(b23, cb [u8 ((be8 nk)[i]'(by rw [be8_length]; exact hlt2))] 5)]) (by (refine perm_cnt (fun _ => ?_)); simp only [cntB_append, cntB_cons, cntB_nil, Nat.add_zero, Nat.zero_add]; try ac_rfl) ?_
      refine J.append (lp := lp4) (ys := [u8 ((be8 nk)[i]'(by rw [be8_length]; exact hlt2))]) (m := 1) Ty.el28 Ty.s5 Ty.b5 Ty.z5 rfl (.inl ⟨5, Ty.u28⟩) rfl rfl hv4 (fun w' hw => .inl (Row.own (cs := [u8 ((be8 nk)[i]'(by rw [be8_length]; exact hlt2))]) (tb := 5) (fr := (0, 0)) hw (List.mem_append_right _ (.head _)) rfl (Nat.le_refl _))) rfl (by simp [Value.oneCell']) (by omega) (by omega) rfl (fun v24 lp24 hv24 => ?_)
      refine J.assign rfl rfl ?_
      refine J.nil ?_
      refine JX.blockN ?_
      refine JX.thenN (hK11 _ _ ?_)
      refine JC.region ?_
      (first | refine J.addN rfl rfl (by omega) (by omega) rfl ?_ | refine J.bin rfl rfl rfl rfl ?_)
      refine J.move rfl rfl ?_
      refine J.nil ?_
      refine JX.thenN ?_
      refine JX.again (i + 1, v24, lp24) ?_ ?_ ?_
      · simp only; omega
      · exact ⟨rfl, rfl, rfl, rfl, rfl, rfl, trivial⟩
      · exact fun w1 hw => ⟨⟨hlt2, by simp only; rw [take_add_one (by rw [be8_length]; exact hlt2), ← List.append_assoc, List.map_append (l₂ := [_])]; exact hv24⟩, hw.drop (List.sublist_append_left _ _)⟩
    · skip
      obtain rfl : i = 8 := by simp at h1; omega
      rw [List.take_of_length_le (l := be8 nk) (by rw [be8_length]; omega)] at hv4
      refine JC.exit ?_
      refine JX.thenE ?_
      refine JX.thenE ?_
      refine JX.blockE ?_
      refine JX.blockN ?_
      refine JX.thenN (hK6 _ _ ?_)
      refine JC.region ?_
      (first | refine J.addN rfl rfl (by omega) (by omega) rfl ?_ | refine J.bin rfl rfl rfl rfl ?_)
      refine J.move rfl rfl ?_
      refine J.nil ?_
      refine JX.thenN ?_
      refine JX.again (k + 1, v4, lp4) ?_ ?_ ?_
      · simp only; omega
      · exact ⟨rfl, rfl, rfl, rfl, trivial⟩
      · exact fun w1 hw => ⟨⟨hlt, by simp only; rw [flat_succ hlt, ← hnk]; exact hv4⟩, hw⟩
  · skip
    obtain rfl : k = ns.length := by simp at h0; omega
    refine JC.exit ?_
    refine JX.thenE ?_
    refine JX.thenE ?_
    refine JX.blockE ?_
    refine JX.thenN (hK2 _ _ ?_)
    refine JC.seq (fun K13 hK13 => ?_)
    refine JC.region ?_
    refine J.move rfl rfl ?_
    refine J.assign rfl rfl ?_
    refine J.nil ?_
    refine JX.thenN (hK13 _ _ ?_)
    refine JC.ret ?_
    refine JX.ret1 rfl rfl (fun w hw => ?_)
    rw [List.take_of_length_le (Nat.le_refl _)] at hv
    exact ⟨(v3, lp), rfl, hv, hw⟩


def bestP (B : List UInt8) : Nat → Nat × Nat × Nat
  | 0 => (0, 0, 0)
  | k + 1 => if (bestP B k).1 < (headP (sec B k)).1 then headP (sec B k) else bestP B k
def okB (s : List UInt8) (i : Nat) : Bool := ((s.drop 24).take (i - 24)).all (· == 0)
theorem okB_succ {s : List UInt8} {i : Nat} (h1 : 24 ≤ i) (h2 : i < s.length) : okB s (i + 1) = (okB s i && s[i] == 0) := by
  unfold okB
  rw [show i + 1 - 24 = (i - 24) + 1 by omega, take_add_one (by simp; omega), List.all_append]
  simp [show 24 + (i - 24) = i by omega]
theorem okB_all {s : List UInt8} (h : s.length = 64) : okB s 64 = (s.drop 24).all (· == 0) := by
  unfold okB; rw [List.take_of_length_le (by simp; omega)]
theorem sec_len64 {B : List UInt8} {k : Nat} (h : 64 * k + 64 ≤ B.length) : (sec B k).length = 64 := by simp [sec]; omega

theorem rhead_spec (v : Value) (m : Nat) (B : List UInt8) (w : World) (hr : Row w v m (B.map u8)) (hl : B.length = m) (hm : 128 ≤ m) :
    Calls Try.prog 41 [v].toArray w fun r w' => r = .returned (.tuple #[.int .u64 (((bestP B 2).1 : Nat) : Int), .int .u64 (((bestP B 2).2.1 : Nat) : Int), .int .u64 (((bestP B 2).2.2 : Nat) : Int)]) ∧ Below w.heap.size w w' := by
  have hr0 := hr
  obtain ⟨b, o, c, rfl, hc, hcl⟩ := Row.some hr0 (by simp; omega)
  refine calls_of_J (args := [.slice (some ⟨b, o, none⟩) m c]) (e := [(0, .slice (some ⟨b, o, none⟩) m c)]) Try.func41 rfl rfl ⟨rfl, trivial⟩ (St.start w) ?_
  refine JC.seq (fun K0 hK0 => ?_)
  refine JC.region ?_
  refine J.assign rfl rfl ?_
  refine J.assign rfl rfl ?_
  refine J.assign rfl rfl ?_
  refine J.nil ?_
  refine JX.thenN (hK0 _ _ ?_)
  refine JC.seq (fun K1 hK1 => ?_)
  refine JC.region ?_
  refine J.alloc Ty.z85 rfl rfl (fun b5 => ?_)
  refine J.nil ?_
  refine JX.thenN (hK1 _ _ ?_)
  refine JC.seq (fun K2 hK2 => ?_)
  refine JC.seq (fun K3 hK3 => ?_)
  refine JC.region ?_
  refine J.assign rfl rfl ?_
  refine J.nil ?_
  refine JX.thenN (hK3 _ _ ?_)
  refine JC.block ?_
  refine JC.conseq (JC.cov (f := (fun k => [(0, .slice (some ⟨b, o, none⟩) m c), (5, .pointer (some ⟨b5, 0, none⟩)), (6, .int .i64 ((k : Nat) : Int))]) 0) ⟨rfl, rfl, rfl, trivial⟩ (JC.loop (α := Nat) (fun k => [(0, .slice (some ⟨b, o, none⟩) m c), (5, .pointer (some ⟨b5, 0, none⟩)), (6, .int .i64 ((k : Nat) : Int))]) (fun k w' => k ≤ 2 ∧ St w [] [(b5, cb [.int .u64 (((bestP B k).1 : Nat) : Int), .int .u64 (((bestP B k).2.1 : Nat) : Int), .int .u64 (((bestP B k).2.2 : Nat) : Int)] 85)] w') (fun k => 2 - k) 0 (fun k => ?_))) (fun w hw => ⟨Nat.zero_le _, hw⟩)
  refine JC.pr (fun hk => ?_)
  refine JC.seq (fun K4 hK4 => ?_)
  refine JC.seq (fun K5 hK5 => ?_)
  refine JC.region ?_
  refine J.move rfl rfl ?_
  refine J.bin rfl rfl rfl rfl ?_
  refine J.nil ?_
  refine JX.thenN (hK5 _ _ ?_)
  refine JC.cond rfl (fun h0 => ?_) (fun h0 => ?_)
  · skip
    have hlt : k < 2 := by simp at h0; omega
    have hsl := sec_len64 (B := B) (k := k) (by omega)
    have hrs : Row w (.slice (some ⟨b, o + 64 * k, none⟩) 64 (c - 64 * k)) 64 ((sec B k).map u8) := by
      have h1 := hr0.slice (sz := 1) (i := 64 * k) (j := 64 * k + 64) (by simp [hl]) (by omega) (by omega)
      rw [if_neg (by omega), Option.map_some, addr_add] at h1
      rw [show 64 * k + 64 - 64 * k = 64 by omega, Nat.mul_one, Nat.mul_one, ← List.map_drop, ← List.map_take] at h1
      exact h1
    obtain ⟨b', o', c', he, _, hscl⟩ := Row.some hrs (by simp [hsl])
    simp only [Value.slice.injEq, Option.some.injEq, Addr.mk.injEq] at he
    obtain ⟨⟨rfl, rfl, _⟩, _, _⟩ := he
    refine JC.skip ?_
    refine JX.thenN (hK4 _ _ ?_)
    refine JC.seq (fun K6 hK6 => ?_)
    refine JC.block ?_
    refine JC.seq (fun K7 hK7 => ?_)
    refine JC.region ?_
    refine J.move rfl rfl ?_
    refine J.move rfl rfl ?_
    (first | refine J.mulN rfl rfl (by omega) (by omega) rfl ?_ | refine J.bin rfl rfl rfl rfl ?_)
    refine J.move rfl rfl ?_
    (first | refine J.mulN rfl rfl (by omega) (by omega) rfl ?_ | refine J.bin rfl rfl rfl rfl ?_)
    (first | refine J.addN rfl rfl (by omega) (by omega) rfl ?_ | refine J.bin rfl rfl rfl rfl ?_)
    refine J.sliceS (i := 64 * k) (j := 64 * k + 64) Ty.el28 Ty.s5 rfl rfl rfl (by simp only [bnd]; rw [if_pos (by omega)]; congr 1 <;> omega) (by simp only [bnd]; rw [if_pos (by omega)]; congr 1 <;> omega) (by omega) (by omega) (by omega) rfl ?_
    refine J.name 20 rfl (show _ = Value.slice (some ⟨b, o + 64 * k, none⟩) 64 (c - 64 * k) by rw [if_neg (by omega), Option.map_some, addr_add, Nat.mul_one, show 64 * k + 64 - 64 * k = 64 by omega]) ?_
    refine J.assign rfl rfl ?_
    refine J.nil ?_
    refine JX.thenN (hK7 _ _ ?_)
    refine JC.seq (fun K8 hK8 => ?_)
    refine JC.region ?_
    refine J.assign rfl rfl ?_
    refine J.name 8 rfl (show Value.bool true = .bool (okB (sec B k) 24) by simp [okB]) ?_
    refine J.nil ?_
    refine JX.thenN (hK8 _ _ ?_)
    refine JC.seq (fun K9 hK9 => ?_)
    refine JC.seq (fun K10 hK10 => ?_)
    refine JC.region ?_
    refine J.assign rfl rfl ?_
    refine J.nil ?_
    refine JX.thenN (hK10 _ _ ?_)
    refine JC.block ?_
    refine JC.conseq (JC.cov (f := (fun i => [(0, .slice (some ⟨b, o, none⟩) m c), (5, .pointer (some ⟨b5, 0, none⟩)), (6, .int .i64 ((k : Nat) : Int)), (7, .slice (some ⟨b, o + 64 * k, none⟩) 64 (c - 64 * k)), (8, .bool (okB (sec B k) i)), (9, .int .i64 ((i : Nat) : Int))]) 24) ⟨rfl, rfl, rfl, rfl, rfl, rfl, trivial⟩ (JC.loop (α := Nat) (fun i => [(0, .slice (some ⟨b, o, none⟩) m c), (5, .pointer (some ⟨b5, 0, none⟩)), (6, .int .i64 ((k : Nat) : Int)), (7, .slice (some ⟨b, o + 64 * k, none⟩) 64 (c - 64 * k)), (8, .bool (okB (sec B k) i)), (9, .int .i64 ((i : Nat) : Int))]) (fun i w' => (24 ≤ i ∧ i ≤ 64) ∧ St w [] [(b5, cb [.int .u64 (((bestP B k).1 : Nat) : Int), .int .u64 (((bestP B k).2.1 : Nat) : Int), .int .u64 (((bestP B k).2.2 : Nat) : Int)] 85)] w') (fun i => 64 - i) 24 (fun i => ?_))) (fun w hw => ⟨⟨by omega, by omega⟩, hw⟩)
    refine JC.pr (fun hi => ?_)
    refine JC.seq (fun K11 hK11 => ?_)
    refine JC.seq (fun K12 hK12 => ?_)
    refine JC.region ?_
    refine J.move rfl rfl ?_
    refine J.bin rfl rfl rfl rfl ?_
    refine J.nil ?_
    refine JX.thenN (hK12 _ _ ?_)
    refine JC.cond rfl (fun h1 => ?_) (fun h1 => ?_)
    · skip
      have hlt2 : i < 64 := by simp at h1; omega
      refine JC.skip ?_
      refine JX.thenN (hK11 _ _ ?_)
      refine JC.seq (fun K13 hK13 => ?_)
      refine JC.block ?_
      refine JC.region ?_
      refine J.move rfl rfl ?_
      refine J.move rfl rfl ?_
      refine J.split 26 rfl (fun hs26 => ?_) (fun hs26 => ?_)
      · skip
        try simp only [decide_eq_true_eq, decide_eq_false_iff_not, beq_iff_eq, bne_iff_ne, bne_eq_false_iff_eq, ne_eq, beq_eq_false_iff_ne, Bool.not_eq_true, Bool.not_eq_false, Int.not_lt, Int.not_le] at hs26
        first
          | (refine J.skip rfl rfl rfl rfl rfl ?_)
          | (refine J.skipU rfl rfl rfl rfl ?_)
          | (refine J.unguard rfl rfl rfl ?_; refine J.move rfl rfl ?_)
        first
          | (refine J.skip rfl rfl rfl rfl rfl ?_)
          | (refine J.skipU rfl rfl rfl rfl ?_)
          | (refine J.unguard rfl rfl rfl ?_; refine J.move rfl rfl ?_)
        first
          | (refine J.skip rfl rfl rfl rfl rfl ?_)
          | (refine J.skipU rfl rfl rfl rfl ?_)
          | (refine J.unguard rfl rfl rfl ?_; refine J.indexAddrS Ty.el28 Ty.s5 rfl rfl (by omega) (by omega) rfl ?_)
        first
        | (refine J.skip rfl rfl rfl rfl rfl ?_)
        | (refine J.unguard rfl rfl rfl ?_; refine J.loadR (v := u8 ((sec B k)[i]'(by omega))) Ty.a5 rfl (hscl.at_u8 (by omega) (by simp)) (by simp) rfl ?_)
        first
          | (refine J.skip rfl rfl rfl rfl rfl ?_)
          | (refine J.skipU rfl rfl rfl rfl ?_)
          | (refine J.unguard rfl rfl rfl ?_; refine J.bin rfl rfl rfl rfl ?_)
        (first | refine J.pickT rfl rfl rfl ?_ | refine J.pickF rfl rfl rfl ?_)
        refine J.name 32 rfl (show Value.bool _ = .bool (okB (sec B k) (i + 1)) by
          rw [okB_succ (by omega) (by omega), hs26]
          first | rfl | (simp only [Bool.true_and]; exact congrArg Value.bool (beq_u8 _))) ?_
        refine J.assign rfl rfl ?_
        refine J.nil ?_
        refine JX.blockN ?_
        refine JX.thenN (hK13 _ _ ?_)
        refine JC.region ?_
        refine J.move rfl rfl ?_
        (first | refine J.addN rfl rfl (by omega) (by omega) rfl ?_ | refine J.bin rfl rfl rfl rfl ?_)
        refine J.assign rfl rfl ?_
        refine J.nil ?_
        refine JX.thenN ?_
        refine JX.again (i + 1) ?_ ?_ ?_
        · omega
        · exact ⟨rfl, rfl, rfl, rfl, rfl, rfl, trivial⟩
        · exact fun w1 hw => ⟨⟨by omega, by omega⟩, hw⟩
      · skip
        try simp only [decide_eq_true_eq, decide_eq_false_iff_not, beq_iff_eq, bne_iff_ne, bne_eq_false_iff_eq, ne_eq, beq_eq_false_iff_ne, Bool.not_eq_true, Bool.not_eq_false, Int.not_lt, Int.not_le] at hs26
        first
          | (refine J.skip rfl rfl rfl rfl rfl ?_)
          | (refine J.skipU rfl rfl rfl rfl ?_)
          | (refine J.unguard rfl rfl rfl ?_; refine J.move rfl rfl ?_)
        first
          | (refine J.skip rfl rfl rfl rfl rfl ?_)
          | (refine J.skipU rfl rfl rfl rfl ?_)
          | (refine J.unguard rfl rfl rfl ?_; refine J.move rfl rfl ?_)
        first
          | (refine J.skip rfl rfl rfl rfl rfl ?_)
          | (refine J.skipU rfl rfl rfl rfl ?_)
          | (refine J.unguard rfl rfl rfl ?_; refine J.indexAddrS Ty.el28 Ty.s5 rfl rfl (by omega) (by omega) rfl ?_)
        first
        | (refine J.skip rfl rfl rfl rfl rfl ?_)
        | (refine J.unguard rfl rfl rfl ?_; refine J.loadR (v := u8 ((sec B k)[i]'(by omega))) Ty.a5 rfl (hscl.at_u8 (by omega) (by simp)) (by simp) rfl ?_)
        first
          | (refine J.skip rfl rfl rfl rfl rfl ?_)
          | (refine J.skipU rfl rfl rfl rfl ?_)
          | (refine J.unguard rfl rfl rfl ?_; refine J.bin rfl rfl rfl rfl ?_)
        (first | refine J.pickT rfl rfl rfl ?_ | refine J.pickF rfl rfl rfl ?_)
        refine J.name 32 rfl (show Value.bool _ = .bool (okB (sec B k) (i + 1)) by
          rw [okB_succ (by omega) (by omega), hs26]
          first | rfl | (simp only [Bool.true_and]; exact congrArg Value.bool (beq_u8 _))) ?_
        refine J.assign rfl rfl ?_
        refine J.nil ?_
        refine JX.blockN ?_
        refine JX.thenN (hK13 _ _ ?_)
        refine JC.region ?_
        refine J.move rfl rfl ?_
        (first | refine J.addN rfl rfl (by omega) (by omega) rfl ?_ | refine J.bin rfl rfl rfl rfl ?_)
        refine J.assign rfl rfl ?_
        refine J.nil ?_
        refine JX.thenN ?_
        refine JX.again (i + 1) ?_ ?_ ?_
        · omega
        · exact ⟨rfl, rfl, rfl, rfl, rfl, rfl, trivial⟩
        · exact fun w1 hw => ⟨⟨by omega, by omega⟩, hw⟩
    · skip
      obtain rfl : i = 64 := by simp at h1; omega
      refine JC.exit ?_
      refine JX.thenE ?_
      refine JX.thenE ?_
      refine JX.blockE ?_
      refine JX.thenN (hK9 _ _ ?_)
      refine JC.seq (fun K14 hK14 => ?_)
      have hok64 := okB_all (s := sec B k) hsl
      by_cases hok : okB (sec B k) 64 = true
      rotate_left
      · skip
        have hok2 : okB (sec B k) 64 = false := by simpa using hok
        have hh : headP (sec B k) = (0, 0, 0) := by unfold headP; rw [← hok64, hok2]; rfl
        rw [hok2]
        apply JC.drawL 8 [Eqv _, Eqv _, Eqv _, Eqv _, Eqv _, Eqv _, Eqv _, Eqv _] Ty.mixed rfl rfl rfl (by kernel_rfl) rfl rfl (fun w w' hw hb => hw.step hb) ⟨fun _ _ _ h _ => h, fun _ _ _ h _ => h, fun _ _ _ h _ => h, fun _ _ _ h _ => h, fun _ _ _ h _ => h, fun _ _ _ h _ => h, fun _ _ _ h _ => h, fun _ _ _ h _ => h, trivial⟩ ?hstep ?htail
        case hstep =>
          refine ⟨fun wi => ?_, fun wi => ?_, fun wi => ?_, fun wi => ?_, fun wi => ?_, fun wi => ?_, fun wi => ?_, fun wi => ?_, trivial⟩
          · skip
            refine Fin.nil ?_
            refine J.move rfl rfl ?_
            refine J.nil (JX.fin rfl (fun w hw => ⟨rfl, (by rw [hw.1]; exact Below.refl _ _)⟩))
          · skip
            refine Fin.cons (fun v11_0 => ?_)
            refine Fin.nil ?_
            refine J.prE (fun h => ?_); subst h
            refine J.move rfl rfl ?_
            refine J.nil (JX.fin rfl (fun w hw => ⟨rfl, (by rw [hw.1]; exact Below.refl _ _)⟩))
          · skip
            refine Fin.cons (fun v11_1 => ?_)
            refine Fin.nil ?_
            refine J.prE (fun h => ?_); subst h
            first
              | (refine J.skip rfl rfl rfl rfl rfl ?_)
              | (refine J.skipU rfl rfl rfl rfl ?_)
              | (refine J.unguard rfl rfl rfl ?_; refine J.move rfl rfl ?_)
            refine J.nil (JX.fin rfl (fun w hw => ⟨rfl, (by rw [hw.1]; exact Below.refl _ _)⟩))
          · skip
            refine Fin.cons (fun v11_2 => ?_)
            refine Fin.cons (fun v11_1 => ?_)
            refine Fin.cons (fun v11_1 => ?_)
            refine Fin.nil ?_
            refine J.prE (fun h => ?_); subst h
            refine J.prE (fun h => ?_); subst h
            refine J.prE (fun h => ?_); subst h
            refine J.skip rfl rfl rfl rfl rfl ?_
            refine J.nil (JX.fin rfl (fun w hw => ⟨rfl, (by rw [hw.1]; exact Below.refl _ _)⟩))
          · skip
            refine Fin.cons (fun v11_1 => ?_)
            refine Fin.nil ?_
            refine J.prE (fun h => ?_); subst h
            first
              | (refine J.skip rfl rfl rfl rfl rfl ?_)
              | (refine J.skipU rfl rfl rfl rfl ?_)
              | (refine J.unguard rfl rfl rfl ?_; refine J.indexAddrA Ty.ar85 Ty.s65 rfl rfl (by omega) (by omega) rfl ?_)
            refine J.nil (JX.fin rfl (fun w hw => ⟨rfl, (by rw [hw.1]; exact Below.refl _ _)⟩))
          · skip
            refine Fin.cons (fun v11_4 => ?_)
            refine Fin.cons (fun v11_1 => ?_)
            refine Fin.nil ?_
            refine J.prE (fun h => ?_); subst h
            refine J.prE (fun h => ?_); subst h
            first
              | (refine J.skip rfl rfl rfl rfl rfl ?_)
              | (refine J.skipU rfl rfl rfl rfl ?_)
              | (refine J.unguard rfl rfl rfl ?_; (first | refine J.load1 Ty.a65 rfl (fun w hw => (cell_of (hw.2.own _ (.head _))).trans rfl) rfl ?_ | refine J.load1 Ty.a65 rfl (fun w hw => (cell_of (hw.2.own _ (.tail _ (.head _)))).trans rfl) rfl ?_ | refine J.load1 Ty.a65 rfl (fun w hw => (cell_of (hw.2.own _ (.tail _ (.tail _ (.head _))))).trans rfl) rfl ?_ | refine J.load1 Ty.a65 rfl (fun w hw => (cell_of (hw.2.own _ (.tail _ (.tail _ (.tail _ (.head _)))))).trans rfl) rfl ?_ | refine J.load1 Ty.a65 rfl (fun w hw => (cell_of (hw.2.own _ (.tail _ (.tail _ (.tail _ (.tail _ (.head _))))))).trans rfl) rfl ?_ | refine J.load1 Ty.a65 rfl (fun w hw => (cell_of (hw.2.own _ (List.mem_append_right _ (.head _)))).trans rfl) rfl ?_ | refine J.load1 Ty.a65 rfl (fun w hw => (cell_of (hw.2.own _ (List.mem_append_right _ (.tail _ (.head _))))).trans rfl) rfl ?_ | refine J.load1 Ty.a65 rfl (fun w hw => (cell_of (hw.2.own _ (List.mem_append_right _ (.tail _ (.tail _ (.head _)))))).trans rfl) rfl ?_ | refine J.load1 Ty.a65 rfl (fun w hw => (cell_of (hw.2.own _ (List.mem_append_right _ (.tail _ (.tail _ (.tail _ (.head _))))))).trans rfl) rfl ?_ | refine J.load1 Ty.a65 rfl (fun w hw => (cell_of (hw.2.own _ (List.mem_append_right _ (.tail _ (.tail _ (.tail _ (.tail _ (.head _)))))))).trans rfl) rfl ?_))
            refine J.nil (JX.fin rfl (fun w hw => ⟨rfl, (by rw [hw.1]; exact Below.refl _ _)⟩))
          · skip
            refine Fin.cons (fun v11_3 => ?_)
            refine Fin.cons (fun v11_5 => ?_)
            refine Fin.cons (fun v11_1 => ?_)
            refine Fin.nil ?_
            refine J.prE (fun h => ?_); subst h
            refine J.prE (fun h => ?_); subst h
            refine J.prE (fun h => ?_); subst h
            first
              | (refine J.skip rfl rfl rfl rfl rfl ?_)
              | (refine J.skipU rfl rfl rfl rfl ?_)
              | (refine J.unguard rfl rfl rfl ?_; refine J.bin rfl rfl rfl rfl ?_)
            refine J.nil (JX.fin rfl (fun w hw => ⟨rfl, (by rw [hw.1]; exact Below.refl _ _)⟩))
          · skip
            refine Fin.cons (fun v11_1 => ?_)
            refine Fin.cons (fun v11_6 => ?_)
            refine Fin.nil ?_
            refine J.prE (fun h => ?_); subst h
            refine J.prE (fun h => ?_); subst h
            (first | refine J.pickT rfl rfl rfl ?_ | refine J.pickF rfl rfl rfl ?_)
            refine J.nil (JX.fin rfl (fun w hw => ⟨rfl, (by rw [hw.1]; exact Below.refl _ _)⟩))
        case htail =>
          refine Fin.cons (fun v11_0 => ?_)
          refine Fin.cons (fun v11_1 => ?_)
          refine Fin.cons (fun v11_2 => ?_)
          refine Fin.cons (fun v11_3 => ?_)
          refine Fin.cons (fun v11_4 => ?_)
          refine Fin.cons (fun v11_5 => ?_)
          refine Fin.cons (fun v11_6 => ?_)
          refine Fin.cons (fun v11_7 => ?_)
          refine Fin.nil ?_
          refine J.prE (fun h => ?_); subst h
          refine J.prE (fun h => ?_); subst h
          refine J.prE (fun h => ?_); subst h
          refine J.prE (fun h => ?_); subst h
          refine J.prE (fun h => ?_); subst h
          refine J.prE (fun h => ?_); subst h
          refine J.prE (fun h => ?_); subst h
          refine J.prE (fun h => ?_); subst h
          refine J.nil ?_
          refine JX.thenN (hK14 _ _ ?_)
          first | refine JC.condF rfl ?_ | refine JC.cond rfl (fun h => by first | (exfalso; simp at h; omega) | (simp at h)) (fun _ => ?_)
          refine JC.skip ?_
          refine JX.blockN ?_
          refine JX.thenN (hK6 _ _ ?_)
          refine JC.region ?_
          refine J.move rfl rfl ?_
          (first | refine J.addN rfl rfl (by omega) (by omega) rfl ?_ | refine J.bin rfl rfl rfl rfl ?_)
          refine J.assign rfl rfl ?_
          refine J.nil ?_
          refine JX.thenN ?_
          refine JX.again (k + 1) ?_ ?_ ?_
          · omega
          · exact ⟨rfl, rfl, rfl, trivial⟩
          · exact fun w1 hw => ⟨hlt, by simp only [bestP, hh, show ¬ (bestP B k).1 < 0 by omega, if_false]; exact hw⟩
      · skip
        have hh : headP (sec B k) = (num ((sec B k).take 8), num (((sec B k).drop 8).take 8), num (((sec B k).drop 16).take 8)) := by unfold headP; rw [← hok64, hok]; rfl
        rw [hok]
        by_cases hm : (bestP B k).1 < num ((sec B k).take 8)
        rotate_left
        · skip
          apply JC.drawL 8 [Eqv _, Eqv _, Eqv _, Eqv _, Eqv _, Eqv _, Eqv _, Eqv _] Ty.mixed rfl rfl rfl (by kernel_rfl) rfl rfl (fun w w' hw hb => hw.step hb) ⟨fun _ _ _ h _ => h, fun _ _ _ h _ => h, fun _ _ _ h _ => h, fun _ _ _ h _ => h, fun _ _ _ h _ => h, fun _ _ _ h _ => h, fun _ _ _ h _ => h, fun _ _ _ h _ => h, trivial⟩ ?hstep ?htail
          case hstep =>
            refine ⟨fun wi => ?_, fun wi => ?_, fun wi => ?_, fun wi => ?_, fun wi => ?_, fun wi => ?_, fun wi => ?_, fun wi => ?_, trivial⟩
            · skip
              refine Fin.nil ?_
              refine J.move rfl rfl ?_
              refine J.nil (JX.fin rfl (fun w hw => ⟨rfl, (by rw [hw.1]; exact Below.refl _ _)⟩))
            · skip
              refine Fin.cons (fun v11_0 => ?_)
              refine Fin.nil ?_
              refine J.prE (fun h => ?_); subst h
              refine J.move rfl rfl ?_
              refine J.nil (JX.fin rfl (fun w hw => ⟨rfl, (by rw [hw.1]; exact Below.refl _ _)⟩))
            · skip
              refine Fin.cons (fun v11_1 => ?_)
              refine Fin.nil ?_
              refine J.prE (fun h => ?_); subst h
              first
                | (refine J.skip rfl rfl rfl rfl rfl ?_)
                | (refine J.skipU rfl rfl rfl rfl ?_)
                | (refine J.unguard rfl rfl rfl ?_; refine J.move rfl rfl ?_)
              refine J.nil (JX.fin rfl (fun w hw => ⟨rfl, (by rw [hw.1]; exact Below.refl _ _)⟩))
            · skip
              refine Fin.cons (fun v11_2 => ?_)
              refine Fin.cons (fun v11_1 => ?_)
              refine Fin.cons (fun v11_1 => ?_)
              refine Fin.nil ?_
              refine J.prE (fun h => ?_); subst h
              refine J.prE (fun h => ?_); subst h
              refine J.prE (fun h => ?_); subst h
              refine J.unguard rfl rfl rfl ?_
              refine J.callD Ty.bd44 rfl rfl (fun w' hw => rnumber_spec _ 64 (sec B k) w' (hrs.st (.inr (by simp)) hw) hsl (by omega)) ?_
              refine J.nil (JX.fin rfl (fun w hw => ⟨rfl, hw⟩))
            · skip
              refine Fin.cons (fun v11_1 => ?_)
              refine Fin.nil ?_
              refine J.prE (fun h => ?_); subst h
              first
                | (refine J.skip rfl rfl rfl rfl rfl ?_)
                | (refine J.skipU rfl rfl rfl rfl ?_)
                | (refine J.unguard rfl rfl rfl ?_; refine J.indexAddrA Ty.ar85 Ty.s65 rfl rfl (by omega) (by omega) rfl ?_)
              refine J.nil (JX.fin rfl (fun w hw => ⟨rfl, (by rw [hw.1]; exact Below.refl _ _)⟩))
            · skip
              refine Fin.cons (fun v11_4 => ?_)
              refine Fin.cons (fun v11_1 => ?_)
              refine Fin.nil ?_
              refine J.prE (fun h => ?_); subst h
              refine J.prE (fun h => ?_); subst h
              first
                | (refine J.skip rfl rfl rfl rfl rfl ?_)
                | (refine J.skipU rfl rfl rfl rfl ?_)
                | (refine J.unguard rfl rfl rfl ?_; (first | refine J.load1 Ty.a65 rfl (fun w hw => (cell_of (hw.2.own _ (.head _))).trans rfl) rfl ?_ | refine J.load1 Ty.a65 rfl (fun w hw => (cell_of (hw.2.own _ (.tail _ (.head _)))).trans rfl) rfl ?_ | refine J.load1 Ty.a65 rfl (fun w hw => (cell_of (hw.2.own _ (.tail _ (.tail _ (.head _))))).trans rfl) rfl ?_ | refine J.load1 Ty.a65 rfl (fun w hw => (cell_of (hw.2.own _ (.tail _ (.tail _ (.tail _ (.head _)))))).trans rfl) rfl ?_ | refine J.load1 Ty.a65 rfl (fun w hw => (cell_of (hw.2.own _ (.tail _ (.tail _ (.tail _ (.tail _ (.head _))))))).trans rfl) rfl ?_ | refine J.load1 Ty.a65 rfl (fun w hw => (cell_of (hw.2.own _ (List.mem_append_right _ (.head _)))).trans rfl) rfl ?_ | refine J.load1 Ty.a65 rfl (fun w hw => (cell_of (hw.2.own _ (List.mem_append_right _ (.tail _ (.head _))))).trans rfl) rfl ?_ | refine J.load1 Ty.a65 rfl (fun w hw => (cell_of (hw.2.own _ (List.mem_append_right _ (.tail _ (.tail _ (.head _)))))).trans rfl) rfl ?_ | refine J.load1 Ty.a65 rfl (fun w hw => (cell_of (hw.2.own _ (List.mem_append_right _ (.tail _ (.tail _ (.tail _ (.head _))))))).trans rfl) rfl ?_ | refine J.load1 Ty.a65 rfl (fun w hw => (cell_of (hw.2.own _ (List.mem_append_right _ (.tail _ (.tail _ (.tail _ (.tail _ (.head _)))))))).trans rfl) rfl ?_))
              refine J.nil (JX.fin rfl (fun w hw => ⟨rfl, (by rw [hw.1]; exact Below.refl _ _)⟩))
            · skip
              refine Fin.cons (fun v11_3 => ?_)
              refine Fin.cons (fun v11_5 => ?_)
              refine Fin.cons (fun v11_1 => ?_)
              refine Fin.nil ?_
              refine J.prE (fun h => ?_); subst h
              refine J.prE (fun h => ?_); subst h
              refine J.prE (fun h => ?_); subst h
              refine J.unguard rfl rfl rfl ?_
              refine J.bin rfl rfl rfl rfl ?_
              refine J.name 39 rfl (show Value.bool _ = .bool false by simp <;> omega) ?_
              refine J.nil (JX.fin rfl (fun w hw => ⟨rfl, (by rw [hw.1]; exact Below.refl _ _)⟩))
            · skip
              refine Fin.cons (fun v11_1 => ?_)
              refine Fin.cons (fun v11_6 => ?_)
              refine Fin.nil ?_
              refine J.prE (fun h => ?_); subst h
              refine J.prE (fun h => ?_); subst h
              (first | refine J.pickT rfl rfl rfl ?_ | refine J.pickF rfl rfl rfl ?_)
              refine J.nil (JX.fin rfl (fun w hw => ⟨rfl, (by rw [hw.1]; exact Below.refl _ _)⟩))
          case htail =>
            refine Fin.cons (fun v11_0 => ?_)
            refine Fin.cons (fun v11_1 => ?_)
            refine Fin.cons (fun v11_2 => ?_)
            refine Fin.cons (fun v11_3 => ?_)
            refine Fin.cons (fun v11_4 => ?_)
            refine Fin.cons (fun v11_5 => ?_)
            refine Fin.cons (fun v11_6 => ?_)
            refine Fin.cons (fun v11_7 => ?_)
            refine Fin.nil ?_
            refine J.prE (fun h => ?_); subst h
            refine J.prE (fun h => ?_); subst h
            refine J.prE (fun h => ?_); subst h
            refine J.prE (fun h => ?_); subst h
            refine J.prE (fun h => ?_); subst h
            refine J.prE (fun h => ?_); subst h
            refine J.prE (fun h => ?_); subst h
            refine J.prE (fun h => ?_); subst h
            refine J.nil ?_
            refine JX.thenN (hK14 _ _ ?_)
            first | refine JC.condF rfl ?_ | refine JC.cond rfl (fun h => by first | (exfalso; simp at h; omega) | (simp at h)) (fun _ => ?_)
            refine JC.skip ?_
            refine JX.blockN ?_
            refine JX.thenN (hK6 _ _ ?_)
            refine JC.region ?_
            refine J.move rfl rfl ?_
            (first | refine J.addN rfl rfl (by omega) (by omega) rfl ?_ | refine J.bin rfl rfl rfl rfl ?_)
            refine J.assign rfl rfl ?_
            refine J.nil ?_
            refine JX.thenN ?_
            refine JX.again (k + 1) ?_ ?_ ?_
            · omega
            · exact ⟨rfl, rfl, rfl, trivial⟩
            · exact fun w1 hw => ⟨hlt, by simp only [bestP, hh, hm, if_false]; exact hw⟩
        · skip
          apply JC.drawL 8 [Eqv _, Eqv _, Eqv _, Eqv _, Eqv _, Eqv _, Eqv _, Eqv _] Ty.mixed rfl rfl rfl (by kernel_rfl) rfl rfl (fun w w' hw hb => hw.step hb) ⟨fun _ _ _ h _ => h, fun _ _ _ h _ => h, fun _ _ _ h _ => h, fun _ _ _ h _ => h, fun _ _ _ h _ => h, fun _ _ _ h _ => h, fun _ _ _ h _ => h, fun _ _ _ h _ => h, trivial⟩ ?hstep ?htail
          case hstep =>
            refine ⟨fun wi => ?_, fun wi => ?_, fun wi => ?_, fun wi => ?_, fun wi => ?_, fun wi => ?_, fun wi => ?_, fun wi => ?_, trivial⟩
            · skip
              refine Fin.nil ?_
              refine J.move rfl rfl ?_
              refine J.nil (JX.fin rfl (fun w hw => ⟨rfl, (by rw [hw.1]; exact Below.refl _ _)⟩))
            · skip
              refine Fin.cons (fun v11_0 => ?_)
              refine Fin.nil ?_
              refine J.prE (fun h => ?_); subst h
              refine J.move rfl rfl ?_
              refine J.nil (JX.fin rfl (fun w hw => ⟨rfl, (by rw [hw.1]; exact Below.refl _ _)⟩))
            · skip
              refine Fin.cons (fun v11_1 => ?_)
              refine Fin.nil ?_
              refine J.prE (fun h => ?_); subst h
              first
                | (refine J.skip rfl rfl rfl rfl rfl ?_)
                | (refine J.skipU rfl rfl rfl rfl ?_)
                | (refine J.unguard rfl rfl rfl ?_; refine J.move rfl rfl ?_)
              refine J.nil (JX.fin rfl (fun w hw => ⟨rfl, (by rw [hw.1]; exact Below.refl _ _)⟩))
            · skip
              refine Fin.cons (fun v11_2 => ?_)
              refine Fin.cons (fun v11_1 => ?_)
              refine Fin.cons (fun v11_1 => ?_)
              refine Fin.nil ?_
              refine J.prE (fun h => ?_); subst h
              refine J.prE (fun h => ?_); subst h
              refine J.prE (fun h => ?_); subst h
              refine J.unguard rfl rfl rfl ?_
              refine J.callD Ty.bd44 rfl rfl (fun w' hw => rnumber_spec _ 64 (sec B k) w' (hrs.st (.inr (by simp)) hw) hsl (by omega)) ?_
              refine J.nil (JX.fin rfl (fun w hw => ⟨rfl, hw⟩))
            · skip
              refine Fin.cons (fun v11_1 => ?_)
              refine Fin.nil ?_
              refine J.prE (fun h => ?_); subst h
              first
                | (refine J.skip rfl rfl rfl rfl rfl ?_)
                | (refine J.skipU rfl rfl rfl rfl ?_)
                | (refine J.unguard rfl rfl rfl ?_; refine J.indexAddrA Ty.ar85 Ty.s65 rfl rfl (by omega) (by omega) rfl ?_)
              refine J.nil (JX.fin rfl (fun w hw => ⟨rfl, (by rw [hw.1]; exact Below.refl _ _)⟩))
            · skip
              refine Fin.cons (fun v11_4 => ?_)
              refine Fin.cons (fun v11_1 => ?_)
              refine Fin.nil ?_
              refine J.prE (fun h => ?_); subst h
              refine J.prE (fun h => ?_); subst h
              first
                | (refine J.skip rfl rfl rfl rfl rfl ?_)
                | (refine J.skipU rfl rfl rfl rfl ?_)
                | (refine J.unguard rfl rfl rfl ?_; (first | refine J.load1 Ty.a65 rfl (fun w hw => (cell_of (hw.2.own _ (.head _))).trans rfl) rfl ?_ | refine J.load1 Ty.a65 rfl (fun w hw => (cell_of (hw.2.own _ (.tail _ (.head _)))).trans rfl) rfl ?_ | refine J.load1 Ty.a65 rfl (fun w hw => (cell_of (hw.2.own _ (.tail _ (.tail _ (.head _))))).trans rfl) rfl ?_ | refine J.load1 Ty.a65 rfl (fun w hw => (cell_of (hw.2.own _ (.tail _ (.tail _ (.tail _ (.head _)))))).trans rfl) rfl ?_ | refine J.load1 Ty.a65 rfl (fun w hw => (cell_of (hw.2.own _ (.tail _ (.tail _ (.tail _ (.tail _ (.head _))))))).trans rfl) rfl ?_ | refine J.load1 Ty.a65 rfl (fun w hw => (cell_of (hw.2.own _ (List.mem_append_right _ (.head _)))).trans rfl) rfl ?_ | refine J.load1 Ty.a65 rfl (fun w hw => (cell_of (hw.2.own _ (List.mem_append_right _ (.tail _ (.head _))))).trans rfl) rfl ?_ | refine J.load1 Ty.a65 rfl (fun w hw => (cell_of (hw.2.own _ (List.mem_append_right _ (.tail _ (.tail _ (.head _)))))).trans rfl) rfl ?_ | refine J.load1 Ty.a65 rfl (fun w hw => (cell_of (hw.2.own _ (List.mem_append_right _ (.tail _ (.tail _ (.tail _ (.head _))))))).trans rfl) rfl ?_ | refine J.load1 Ty.a65 rfl (fun w hw => (cell_of (hw.2.own _ (List.mem_append_right _ (.tail _ (.tail _ (.tail _ (.tail _ (.head _)))))))).trans rfl) rfl ?_))
              refine J.nil (JX.fin rfl (fun w hw => ⟨rfl, (by rw [hw.1]; exact Below.refl _ _)⟩))
            · skip
              refine Fin.cons (fun v11_3 => ?_)
              refine Fin.cons (fun v11_5 => ?_)
              refine Fin.cons (fun v11_1 => ?_)
              refine Fin.nil ?_
              refine J.prE (fun h => ?_); subst h
              refine J.prE (fun h => ?_); subst h
              refine J.prE (fun h => ?_); subst h
              refine J.unguard rfl rfl rfl ?_
              refine J.bin rfl rfl rfl rfl ?_
              refine J.name 39 rfl (show Value.bool _ = .bool true by simp <;> omega) ?_
              refine J.nil (JX.fin rfl (fun w hw => ⟨rfl, (by rw [hw.1]; exact Below.refl _ _)⟩))
            · skip
              refine Fin.cons (fun v11_1 => ?_)
              refine Fin.cons (fun v11_6 => ?_)
              refine Fin.nil ?_
              refine J.prE (fun h => ?_); subst h
              refine J.prE (fun h => ?_); subst h
              (first | refine J.pickT rfl rfl rfl ?_ | refine J.pickF rfl rfl rfl ?_)
              refine J.nil (JX.fin rfl (fun w hw => ⟨rfl, (by rw [hw.1]; exact Below.refl _ _)⟩))
          case htail =>
            refine Fin.cons (fun v11_0 => ?_)
            refine Fin.cons (fun v11_1 => ?_)
            refine Fin.cons (fun v11_2 => ?_)
            refine Fin.cons (fun v11_3 => ?_)
            refine Fin.cons (fun v11_4 => ?_)
            refine Fin.cons (fun v11_5 => ?_)
            refine Fin.cons (fun v11_6 => ?_)
            refine Fin.cons (fun v11_7 => ?_)
            refine Fin.nil ?_
            refine J.prE (fun h => ?_); subst h
            refine J.prE (fun h => ?_); subst h
            refine J.prE (fun h => ?_); subst h
            refine J.prE (fun h => ?_); subst h
            refine J.prE (fun h => ?_); subst h
            refine J.prE (fun h => ?_); subst h
            refine J.prE (fun h => ?_); subst h
            refine J.prE (fun h => ?_); subst h
            refine J.nil ?_
            refine JX.thenN (hK14 _ _ ?_)
            first | refine JC.condT rfl ?_ | refine JC.cond rfl (fun _ => ?_) (fun h => by first | (exfalso; simp at h; omega) | (simp at h))
            apply JC.drawL 9 [Eqv _, Eqv _, Eqv _, Eqv _, Eqv _, Eqv _, Eqv _, Eqv _, Eqv _] Ty.mixed rfl rfl rfl (by kernel_rfl) rfl rfl (fun w w' hw hb => hw.step hb) ⟨fun _ _ _ h _ => h, fun _ _ _ h _ => h, fun _ _ _ h _ => h, fun _ _ _ h _ => h, fun _ _ _ h _ => h, fun _ _ _ h _ => h, fun _ _ _ h _ => h, fun _ _ _ h _ => h, fun _ _ _ h _ => h, trivial⟩ ?hstep ?htail
            case hstep =>
              refine ⟨fun wi => ?_, fun wi => ?_, fun wi => ?_, fun wi => ?_, fun wi => ?_, fun wi => ?_, fun wi => ?_, fun wi => ?_, fun wi => ?_, trivial⟩
              · skip
                refine Fin.nil ?_
                refine J.move rfl rfl ?_
                refine J.nil (JX.fin rfl (fun w hw => ⟨rfl, (by rw [hw.1]; exact Below.refl _ _)⟩))
              · skip
                refine Fin.cons (fun v12_0 => ?_)
                refine Fin.nil ?_
                refine J.prE (fun h => ?_); subst h
                refine J.callD Ty.bd44 rfl rfl (fun w' hw => rnumber_spec _ 64 (sec B k) w' (hrs.st (.inr (by simp)) hw) hsl (by omega)) ?_
                refine J.nil (JX.fin rfl (fun w hw => ⟨rfl, hw⟩))
              · skip
                refine Fin.nil ?_
                refine J.move rfl rfl ?_
                refine J.nil (JX.fin rfl (fun w hw => ⟨rfl, (by rw [hw.1]; exact Below.refl _ _)⟩))
              · skip
                refine Fin.cons (fun v12_2 => ?_)
                refine Fin.nil ?_
                refine J.prE (fun h => ?_); subst h
                refine J.sliceS (i := 8) (j := 64) Ty.el28 Ty.s5 rfl rfl rfl (by simp [bnd]) rfl (by omega) (by omega) (by omega) rfl ?_
                refine J.nil (JX.fin rfl (fun w hw => ⟨rfl, (by rw [hw.1]; exact Below.refl _ _)⟩))
              · skip
                refine Fin.cons (fun v12_3 => ?_)
                refine Fin.cons (fun v12_1 => ?_)
                refine Fin.nil ?_
                refine J.prE (fun h => ?_); subst h
                refine J.prE (fun h => ?_); subst h
                refine J.callD Ty.bd44 rfl rfl (fun w' hw => rnumber_spec _ (64 - 8) ((sec B k).drop 8) w' (by
                  have h1 := (hrs.st (.inr (by simp)) hw).slice (sz := 1) (i := 8) (j := 64) (by simp [hsl]) (by omega) (by omega)
                  rw [show (((sec B k).map u8).drop (8 * 1)).take ((64 - 8) * 1) = ((sec B k).drop 8).map u8 from by rw [Nat.mul_one, Nat.mul_one, List.take_of_length_le (by simp; omega), List.map_drop]] at h1
                  exact h1) (by simp [hsl]) (by omega)) ?_
                refine J.nil (JX.fin rfl (fun w hw => ⟨rfl, hw⟩))
              · skip
                refine Fin.nil ?_
                refine J.move rfl rfl ?_
                refine J.nil (JX.fin rfl (fun w hw => ⟨rfl, (by rw [hw.1]; exact Below.refl _ _)⟩))
              · skip
                refine Fin.cons (fun v12_5 => ?_)
                refine Fin.nil ?_
                refine J.prE (fun h => ?_); subst h
                refine J.sliceS (i := 16) (j := 64) Ty.el28 Ty.s5 rfl rfl rfl (by simp [bnd]) rfl (by omega) (by omega) (by omega) rfl ?_
                refine J.nil (JX.fin rfl (fun w hw => ⟨rfl, (by rw [hw.1]; exact Below.refl _ _)⟩))
              · skip
                refine Fin.cons (fun v12_6 => ?_)
                refine Fin.cons (fun v12_4 => ?_)
                refine Fin.nil ?_
                refine J.prE (fun h => ?_); subst h
                refine J.prE (fun h => ?_); subst h
                refine J.callD Ty.bd44 rfl rfl (fun w' hw => rnumber_spec _ (64 - 16) ((sec B k).drop 16) w' (by
                  have h1 := (hrs.st (.inr (by simp)) hw).slice (sz := 1) (i := 16) (j := 64) (by simp [hsl]) (by omega) (by omega)
                  rw [show (((sec B k).map u8).drop (16 * 1)).take ((64 - 16) * 1) = ((sec B k).drop 16).map u8 from by rw [Nat.mul_one, Nat.mul_one, List.take_of_length_le (by simp; omega), List.map_drop]] at h1
                  exact h1) (by simp [hsl]) (by omega)) ?_
                refine J.nil (JX.fin rfl (fun w hw => ⟨rfl, hw⟩))
              · skip
                refine Fin.cons (fun v12_1 => ?_)
                refine Fin.cons (fun v12_4 => ?_)
                refine Fin.cons (fun v12_7 => ?_)
                refine Fin.nil ?_
                refine J.prE (fun h => ?_); subst h
                refine J.prE (fun h => ?_); subst h
                refine J.prE (fun h => ?_); subst h
                refine J.buildA Ty.ar85 Ty.s65 Ty.z85 rfl rfl rfl ?_
                refine J.nil (JX.fin rfl (fun w hw => ⟨rfl, (by rw [hw.1]; exact Below.refl _ _)⟩))
            case htail =>
              refine Fin.cons (fun v12_0 => ?_)
              refine Fin.cons (fun v12_1 => ?_)
              refine Fin.cons (fun v12_2 => ?_)
              refine Fin.cons (fun v12_3 => ?_)
              refine Fin.cons (fun v12_4 => ?_)
              refine Fin.cons (fun v12_5 => ?_)
              refine Fin.cons (fun v12_6 => ?_)
              refine Fin.cons (fun v12_7 => ?_)
              refine Fin.cons (fun v12_8 => ?_)
              refine Fin.nil ?_
              refine J.prE (fun h => ?_); subst h
              refine J.prE (fun h => ?_); subst h
              refine J.prE (fun h => ?_); subst h
              refine J.prE (fun h => ?_); subst h
              refine J.prE (fun h => ?_); subst h
              refine J.prE (fun h => ?_); subst h
              refine J.prE (fun h => ?_); subst h
              refine J.prE (fun h => ?_); subst h
              refine J.prE (fun h => ?_); subst h
              refine J.storeO (vs := [.int .u64 _, .int .u64 _, .int .u64 _]) Ty.s85 rfl rfl rfl rfl (by simp [Value.oneCell']) .here (by simp) ?_
              refine J.nil ?_
              refine JX.blockN ?_
              refine JX.thenN (hK6 _ _ ?_)
              refine JC.region ?_
              refine J.move rfl rfl ?_
              (first | refine J.addN rfl rfl (by omega) (by omega) rfl ?_ | refine J.bin rfl rfl rfl rfl ?_)
              refine J.assign rfl rfl ?_
              refine J.nil ?_
              refine JX.thenN ?_
              refine JX.again (k + 1) ?_ ?_ ?_
              · omega
              · exact ⟨rfl, rfl, rfl, trivial⟩
              · exact fun w1 hw => ⟨hlt, by simp only [bestP, hh, hm, if_true]; exact hw⟩
  · skip
    obtain rfl : k = 2 := by simp at h0; omega
    refine JC.exit ?_
    refine JX.thenE ?_
    refine JX.thenE ?_
    refine JX.blockE ?_
    refine JX.thenN (hK2 _ _ ?_)
    refine JC.seq (fun K15 hK15 => ?_)
    refine JC.cov (f := [(5, .pointer (some ⟨b5, 0, none⟩))]) ⟨rfl, trivial⟩ ?_
    apply JC.drawL 9 [Eqv _, Eqv _, Eqv _, Eqv _, Eqv _, Eqv _, Eqv _, Eqv _, Eqv _] Ty.mixed rfl rfl rfl (by kernel_rfl) rfl rfl (fun w w' hw hb => hw.step hb) ⟨fun _ _ _ h _ => h, fun _ _ _ h _ => h, fun _ _ _ h _ => h, fun _ _ _ h _ => h, fun _ _ _ h _ => h, fun _ _ _ h _ => h, fun _ _ _ h _ => h, fun _ _ _ h _ => h, fun _ _ _ h _ => h, trivial⟩ ?hstep ?htail
    case hstep =>
      refine ⟨fun wi => ?_, fun wi => ?_, fun wi => ?_, fun wi => ?_, fun wi => ?_, fun wi => ?_, fun wi => ?_, fun wi => ?_, fun wi => ?_, trivial⟩
      · skip
        refine Fin.nil ?_
        refine J.indexAddrA Ty.ar85 Ty.s65 rfl rfl (by omega) (by omega) rfl ?_
        refine J.nil (JX.fin rfl (fun w hw => ⟨rfl, (by rw [hw.1]; exact Below.refl _ _)⟩))
      · skip
        refine Fin.cons (fun v13_0 => ?_)
        refine Fin.nil ?_
        refine J.prE (fun h => ?_); subst h
        (first | refine J.load1 Ty.a65 rfl (fun w hw => (cell_of (hw.2.own _ (.head _))).trans rfl) rfl ?_ | refine J.load1 Ty.a65 rfl (fun w hw => (cell_of (hw.2.own _ (.tail _ (.head _)))).trans rfl) rfl ?_ | refine J.load1 Ty.a65 rfl (fun w hw => (cell_of (hw.2.own _ (.tail _ (.tail _ (.head _))))).trans rfl) rfl ?_ | refine J.load1 Ty.a65 rfl (fun w hw => (cell_of (hw.2.own _ (.tail _ (.tail _ (.tail _ (.head _)))))).trans rfl) rfl ?_ | refine J.load1 Ty.a65 rfl (fun w hw => (cell_of (hw.2.own _ (.tail _ (.tail _ (.tail _ (.tail _ (.head _))))))).trans rfl) rfl ?_ | refine J.load1 Ty.a65 rfl (fun w hw => (cell_of (hw.2.own _ (List.mem_append_right _ (.head _)))).trans rfl) rfl ?_ | refine J.load1 Ty.a65 rfl (fun w hw => (cell_of (hw.2.own _ (List.mem_append_right _ (.tail _ (.head _))))).trans rfl) rfl ?_ | refine J.load1 Ty.a65 rfl (fun w hw => (cell_of (hw.2.own _ (List.mem_append_right _ (.tail _ (.tail _ (.head _)))))).trans rfl) rfl ?_ | refine J.load1 Ty.a65 rfl (fun w hw => (cell_of (hw.2.own _ (List.mem_append_right _ (.tail _ (.tail _ (.tail _ (.head _))))))).trans rfl) rfl ?_ | refine J.load1 Ty.a65 rfl (fun w hw => (cell_of (hw.2.own _ (List.mem_append_right _ (.tail _ (.tail _ (.tail _ (.tail _ (.head _)))))))).trans rfl) rfl ?_)
        refine J.nil (JX.fin rfl (fun w hw => ⟨rfl, (by rw [hw.1]; exact Below.refl _ _)⟩))
      · skip
        refine Fin.nil ?_
        refine J.indexAddrA Ty.ar85 Ty.s65 rfl rfl (by omega) (by omega) rfl ?_
        refine J.nil (JX.fin rfl (fun w hw => ⟨rfl, (by rw [hw.1]; exact Below.refl _ _)⟩))
      · skip
        refine Fin.cons (fun v13_2 => ?_)
        refine Fin.nil ?_
        refine J.prE (fun h => ?_); subst h
        (first | refine J.load1 Ty.a65 rfl (fun w hw => (cell_of (hw.2.own _ (.head _))).trans rfl) rfl ?_ | refine J.load1 Ty.a65 rfl (fun w hw => (cell_of (hw.2.own _ (.tail _ (.head _)))).trans rfl) rfl ?_ | refine J.load1 Ty.a65 rfl (fun w hw => (cell_of (hw.2.own _ (.tail _ (.tail _ (.head _))))).trans rfl) rfl ?_ | refine J.load1 Ty.a65 rfl (fun w hw => (cell_of (hw.2.own _ (.tail _ (.tail _ (.tail _ (.head _)))))).trans rfl) rfl ?_ | refine J.load1 Ty.a65 rfl (fun w hw => (cell_of (hw.2.own _ (.tail _ (.tail _ (.tail _ (.tail _ (.head _))))))).trans rfl) rfl ?_ | refine J.load1 Ty.a65 rfl (fun w hw => (cell_of (hw.2.own _ (List.mem_append_right _ (.head _)))).trans rfl) rfl ?_ | refine J.load1 Ty.a65 rfl (fun w hw => (cell_of (hw.2.own _ (List.mem_append_right _ (.tail _ (.head _))))).trans rfl) rfl ?_ | refine J.load1 Ty.a65 rfl (fun w hw => (cell_of (hw.2.own _ (List.mem_append_right _ (.tail _ (.tail _ (.head _)))))).trans rfl) rfl ?_ | refine J.load1 Ty.a65 rfl (fun w hw => (cell_of (hw.2.own _ (List.mem_append_right _ (.tail _ (.tail _ (.tail _ (.head _))))))).trans rfl) rfl ?_ | refine J.load1 Ty.a65 rfl (fun w hw => (cell_of (hw.2.own _ (List.mem_append_right _ (.tail _ (.tail _ (.tail _ (.tail _ (.head _)))))))).trans rfl) rfl ?_)
        refine J.nil (JX.fin rfl (fun w hw => ⟨rfl, (by rw [hw.1]; exact Below.refl _ _)⟩))
      · skip
        refine Fin.nil ?_
        refine J.indexAddrA Ty.ar85 Ty.s65 rfl rfl (by omega) (by omega) rfl ?_
        refine J.nil (JX.fin rfl (fun w hw => ⟨rfl, (by rw [hw.1]; exact Below.refl _ _)⟩))
      · skip
        refine Fin.cons (fun v13_4 => ?_)
        refine Fin.nil ?_
        refine J.prE (fun h => ?_); subst h
        (first | refine J.load1 Ty.a65 rfl (fun w hw => (cell_of (hw.2.own _ (.head _))).trans rfl) rfl ?_ | refine J.load1 Ty.a65 rfl (fun w hw => (cell_of (hw.2.own _ (.tail _ (.head _)))).trans rfl) rfl ?_ | refine J.load1 Ty.a65 rfl (fun w hw => (cell_of (hw.2.own _ (.tail _ (.tail _ (.head _))))).trans rfl) rfl ?_ | refine J.load1 Ty.a65 rfl (fun w hw => (cell_of (hw.2.own _ (.tail _ (.tail _ (.tail _ (.head _)))))).trans rfl) rfl ?_ | refine J.load1 Ty.a65 rfl (fun w hw => (cell_of (hw.2.own _ (.tail _ (.tail _ (.tail _ (.tail _ (.head _))))))).trans rfl) rfl ?_ | refine J.load1 Ty.a65 rfl (fun w hw => (cell_of (hw.2.own _ (List.mem_append_right _ (.head _)))).trans rfl) rfl ?_ | refine J.load1 Ty.a65 rfl (fun w hw => (cell_of (hw.2.own _ (List.mem_append_right _ (.tail _ (.head _))))).trans rfl) rfl ?_ | refine J.load1 Ty.a65 rfl (fun w hw => (cell_of (hw.2.own _ (List.mem_append_right _ (.tail _ (.tail _ (.head _)))))).trans rfl) rfl ?_ | refine J.load1 Ty.a65 rfl (fun w hw => (cell_of (hw.2.own _ (List.mem_append_right _ (.tail _ (.tail _ (.tail _ (.head _))))))).trans rfl) rfl ?_ | refine J.load1 Ty.a65 rfl (fun w hw => (cell_of (hw.2.own _ (List.mem_append_right _ (.tail _ (.tail _ (.tail _ (.tail _ (.head _)))))))).trans rfl) rfl ?_)
        refine J.nil (JX.fin rfl (fun w hw => ⟨rfl, (by rw [hw.1]; exact Below.refl _ _)⟩))
      · skip
        refine Fin.cons (fun v13_1 => ?_)
        refine Fin.cons (fun v13_0 => ?_)
        refine Fin.cons (fun v13_1 => ?_)
        refine Fin.nil ?_
        refine J.prE (fun h => ?_); subst h
        refine J.prE (fun h => ?_); subst h
        refine J.prE (fun h => ?_); subst h
        refine J.assign rfl rfl ?_
        refine J.nil (JX.fin rfl (fun w hw => ⟨rfl, (by rw [hw.1]; exact Below.refl _ _)⟩))
      · skip
        refine Fin.cons (fun v13_3 => ?_)
        refine Fin.cons (fun v13_6 => ?_)
        refine Fin.cons (fun v13_0 => ?_)
        refine Fin.cons (fun v13_1 => ?_)
        refine Fin.cons (fun v13_2 => ?_)
        refine Fin.cons (fun v13_3 => ?_)
        refine Fin.cons (fun v13_6 => ?_)
        refine Fin.nil ?_
        refine J.prE (fun h => ?_); subst h
        refine J.prE (fun h => ?_); subst h
        refine J.prE (fun h => ?_); subst h
        refine J.prE (fun h => ?_); subst h
        refine J.prE (fun h => ?_); subst h
        refine J.prE (fun h => ?_); subst h
        refine J.prE (fun h => ?_); subst h
        refine J.assign rfl rfl ?_
        refine J.nil (JX.fin rfl (fun w hw => ⟨rfl, (by rw [hw.1]; exact Below.refl _ _)⟩))
      · skip
        refine Fin.cons (fun v13_5 => ?_)
        refine Fin.cons (fun v13_7 => ?_)
        refine Fin.cons (fun v13_0 => ?_)
        refine Fin.cons (fun v13_1 => ?_)
        refine Fin.cons (fun v13_2 => ?_)
        refine Fin.cons (fun v13_3 => ?_)
        refine Fin.cons (fun v13_4 => ?_)
        refine Fin.cons (fun v13_5 => ?_)
        refine Fin.cons (fun v13_6 => ?_)
        refine Fin.cons (fun v13_7 => ?_)
        refine Fin.nil ?_
        refine J.prE (fun h => ?_); subst h
        refine J.prE (fun h => ?_); subst h
        refine J.prE (fun h => ?_); subst h
        refine J.prE (fun h => ?_); subst h
        refine J.prE (fun h => ?_); subst h
        refine J.prE (fun h => ?_); subst h
        refine J.prE (fun h => ?_); subst h
        refine J.prE (fun h => ?_); subst h
        refine J.prE (fun h => ?_); subst h
        refine J.prE (fun h => ?_); subst h
        refine J.assign rfl rfl ?_
        refine J.nil (JX.fin rfl (fun w hw => ⟨rfl, (by rw [hw.1]; exact Below.refl _ _)⟩))
    case htail =>
      refine Fin.cons (fun v13_0 => ?_)
      refine Fin.cons (fun v13_1 => ?_)
      refine Fin.cons (fun v13_2 => ?_)
      refine Fin.cons (fun v13_3 => ?_)
      refine Fin.cons (fun v13_4 => ?_)
      refine Fin.cons (fun v13_5 => ?_)
      refine Fin.cons (fun v13_6 => ?_)
      refine Fin.cons (fun v13_7 => ?_)
      refine Fin.cons (fun v13_8 => ?_)
      refine Fin.nil ?_
      refine J.prE (fun h => ?_); subst h
      refine J.prE (fun h => ?_); subst h
      refine J.prE (fun h => ?_); subst h
      refine J.prE (fun h => ?_); subst h
      refine J.prE (fun h => ?_); subst h
      refine J.prE (fun h => ?_); subst h
      refine J.prE (fun h => ?_); subst h
      refine J.prE (fun h => ?_); subst h
      refine J.prE (fun h => ?_); subst h
      refine J.nil ?_
      refine JX.thenN (hK15 _ _ ?_)
      refine JC.ret ?_
      refine JX.ret3 rfl rfl rfl rfl (fun w hw => ?_)
      exact ⟨rfl, hw.below⟩

end Go.Proofs.Ytlmbpfgiadbjaaa
