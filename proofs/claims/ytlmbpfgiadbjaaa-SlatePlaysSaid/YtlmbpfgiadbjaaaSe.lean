/-
  A record is appended: what that does, in plain words; and slate's Append.
-/
import Derived.Test.YtlmbpfgiadbjaaaSd
namespace Go.Proofs.Ytlmbpfgiadbjaaa
open Go.J Go.RowKit
set_option linter.unusedVariables false
set_option linter.unusedSimpArgs false
set_option maxRecDepth 8000
/-- a disk's bytes, power and count -/
structure DS where
  B : List UInt8
  p : Int
  k : Int
def dw (σ : DS) (i : Nat) (bs : List UInt8) : DS := ⟨put σ.B i bs, if 0 < σ.p then σ.p - 1 else σ.p, σ.k + 1⟩
def dws (σ : DS) : List (Nat × List UInt8) → DS × Bool
  | [] => (σ, true)
  | x :: xs => if σ.p = 0 then (σ, false) else dws (dw σ x.1 x.2) xs
def payload (rec_ : List UInt8) : List UInt8 := [UInt8.ofNat (rec_.length / 256), UInt8.ofNat (rec_.length % 256)] ++ rec_
def piece (pay : List UInt8) (i : Nat) : List UInt8 := (pay.drop (64 * i)).take 64
def planP (gen used cnt_ : Nat) (rec_ : List UInt8) : List (Nat × List UInt8) :=
  (List.range (needN rec_.length)).map (fun i => (2 + used + i, piece (payload rec_) i)) ++ [((gen + 1) % 2, [gen + 1, used + needN rec_.length, cnt_ + 1].flatMap be8)]
/-- what appending does -/
def appendP (n : Nat) (q : LogP) (down : Bool) (σ : DS) (rec_ : List UInt8) : Int × LogP × Bool × DS :=
  if down then (8, q, true, σ) else
  if 1024 < rec_.length then (4, q, false, σ) else
  if n - 2 - q.used < needN rec_.length then (5, q, false, σ) else
  match dws σ (planP q.gen q.used q.cnt rec_) with
  | (σ', true) => (0, ⟨q.gen + 1, q.used + needN rec_.length, q.cnt + 1, q.recs ++ [rec_]⟩, false, σ')
  | (σ', false) => (8, q, true, σ')
theorem appendP_down {n : Nat} {q : LogP} {σ : DS} {rec_ : List UInt8} : appendP n q true σ rec_ = (8, q, true, σ) := rfl
theorem appendP_long {n : Nat} {q : LogP} {σ : DS} {rec_ : List UInt8} (h : 1024 < rec_.length) : appendP n q false σ rec_ = (4, q, false, σ) := by
  rw [appendP, if_neg (by simp), if_pos h]
theorem appendP_full {n : Nat} {q : LogP} {σ : DS} {rec_ : List UInt8} (h : ¬ 1024 < rec_.length) (h2 : n - 2 - q.used < needN rec_.length) : appendP n q false σ rec_ = (5, q, false, σ) := by
  rw [appendP, if_neg (by simp), if_neg h, if_pos h2]
theorem appendP_torn {n : Nat} {q : LogP} {σ σ' : DS} {rec_ : List UInt8} (h : ¬ 1024 < rec_.length) (h2 : ¬ n - 2 - q.used < needN rec_.length) (hd : dws σ (planP q.gen q.used q.cnt rec_) = (σ', false)) : appendP n q false σ rec_ = (8, q, true, σ') := by
  rw [appendP, if_neg (by simp), if_neg h, if_neg h2, hd]
theorem appendP_ok {n : Nat} {q : LogP} {σ σ' : DS} {rec_ : List UInt8} (h : ¬ 1024 < rec_.length) (h2 : ¬ n - 2 - q.used < needN rec_.length) (hd : dws σ (planP q.gen q.used q.cnt rec_) = (σ', true)) :
    appendP n q false σ rec_ = (0, ⟨q.gen + 1, q.used + needN rec_.length, q.cnt + 1, q.recs ++ [rec_]⟩, false, σ') := by
  rw [appendP, if_neg (by simp), if_neg h, if_neg h2, hd]
theorem payload_length (rec_ : List UInt8) : (payload rec_).length = 2 + rec_.length := by simp [payload]; omega
theorem piece_length (pay : List UInt8) (i : Nat) : (piece pay i).length = min (64 * (i + 1)) pay.length - 64 * i := by simp [piece]; omega
theorem plan_at {gen used cnt_ : Nat} {rec_ : List UInt8} {i : Nat} (h : i < needN rec_.length) :
    (planP gen used cnt_ rec_).drop i = (2 + used + i, piece (payload rec_) i) :: (planP gen used cnt_ rec_).drop (i + 1) := by
  have hl : i < (planP gen used cnt_ rec_).length := by simp [planP]; omega
  rw [List.drop_eq_getElem_cons hl]
  congr 1
  simp [planP, List.getElem_append, h]
theorem plan_last {gen used cnt_ : Nat} {rec_ : List UInt8} : (planP gen used cnt_ rec_).drop (needN rec_.length) = [((gen + 1) % 2, [gen + 1, used + needN rec_.length, cnt_ + 1].flatMap be8)] := by
  rw [planP, List.drop_left' (by simp)]
theorem dws_cons_torn {B : List UInt8} {k : Int} {x : Nat × List UInt8} {xs : List (Nat × List UInt8)} : dws ⟨B, 0, k⟩ (x :: xs) = (⟨B, 0, k⟩, false) := by simp [dws]
theorem dws_cons {σ : DS} {x : Nat × List UInt8} {xs : List (Nat × List UInt8)} (h : σ.p ≠ 0) : dws σ (x :: xs) = dws (dw σ x.1 x.2) xs := by simp [dws, h]
theorem dws_nil {σ : DS} : dws σ [] = (σ, true) := rfl
/-- a write that is done -/
theorem write_done (d s n : Nat) (B bs : List UInt8) (p k : Int) (i : Nat) (a : Option Addr) (m c : Nat) (w : World) (hw0 : Own w [(d, dkO s n p k), (s, dkS B)]) (hB : B.length = 64 * n) (hk : 0 ≤ k) (hk2 : k < 4611686018427387904) (hi : i < n) (hm : m ≤ 64) (hbl : bs.length = m) (hbv : Row w (.slice a m c) m (bs.map u8)) (hoff : Off [d, s] (.slice a m c) (bs.map u8)) (hp : p < 9223372036854775808) (hp0 : p ≠ 0) :
    Calls Try.prog 17 [.pointer (some ⟨d, 0, none⟩), .int .i64 ((i : Nat) : Int), .slice a m c].toArray w fun r w' => r = .returned (.int .i64 0) ∧ St w [d, s] [(d, dkO s n (if 0 < p then p - 1 else p) (k + 1)), (s, dkS (put B i bs))] w' := by
  by_cases h5 : 0 < p
  · rw [if_pos h5]
    exact write_power d s n B bs p k i a m c w hw0 hB (by omega) (by omega) hk hk2 hm hbl hbv hoff h5 hp
  · rw [if_neg h5]
    exact write_endless d s n B bs p k i a m c w hw0 hB (by omega) (by omega) hk hk2 hm hbl hbv hoff (by omega)
theorem rwrite_done (r n : Nat) (v : Value) (lp : List (Nat × Obj)) (B bs : List UInt8) (p k : Int) (i : Nat) (a : Option Addr) (m c : Nat) (w : World) (hw0 : Own w ((r, rfO v p k) :: lp)) (hv : Vec 5 1 v (64 * n) (B.map u8) lp) (hn : n ≤ 4096) (hB : B.length = 64 * n) (hk : 0 ≤ k) (hk2 : k < 4611686018427387904) (hi : i < n) (hm : m ≤ 64)
    (hbl : bs.length = m) (hbv : Row w (.slice a m c) m (bs.map u8)) (hoff : Off (r :: lp.map (·.1)) (.slice a m c) (bs.map u8)) (hp : p < 9223372036854775808) (hp0 : p ≠ 0) :
    Calls Try.prog 18 [.pointer (some ⟨r, 0, none⟩), .int .i64 ((i : Nat) : Int), .slice a m c].toArray w fun ρ w' => ∃ lp', ρ = .returned (.int .i64 0) ∧ Vec 5 1 v (64 * n) ((put B i bs).map u8) lp' ∧ St w (r :: lp.map (·.1)) ((r, rfO v (if 0 < p then p - 1 else p) (k + 1)) :: lp') w' := by
  by_cases h5 : 0 < p
  · rw [if_pos h5]
    exact (rwrite_power r n v lp B p k w hw0 hv hn bs i a m c hB (by omega) (by omega) hk hk2 hm hbl hbv hoff h5 hp).mono fun _ _ ⟨h1, lp', h2, h3⟩ => ⟨lp', h1, h2, h3⟩
  · rw [if_neg h5]
    exact (rwrite_endless r n v lp B p k w hw0 hv hn bs i a m c hB (by omega) (by omega) hk hk2 hm hbl hbv hoff (by omega)).mono fun _ _ ⟨h1, lp', h2, h3⟩ => ⟨lp', h1, h2, h3⟩
theorem vec_off {w0 w : World} {S : List Nat} {l1 l lp : List (Nat × Obj)} {t sz k c : Nat} {a : Option Addr} {xs ys : List Value} (h : Vec t sz (.slice a k c) k xs lp) (hw : St w0 S (l1 ++ (lp ++ l)) w) (j q k' c' : Nat) :
    Off (l1.map (·.1)) (.slice (if c = j then a else a.map (·.add q)) k' c') ys := by
  obtain ⟨_, h⟩ := h
  rcases h with ⟨he, _, _⟩ | ⟨b, c1, sp, he, rfl, _, _⟩
  · simp only [Value.slice.injEq] at he
    obtain ⟨rfl, _, _⟩ := he
    exact .inr fun b o k c he => by simp at he
  · simp only [Value.slice.injEq, true_and] at he
    obtain ⟨rfl, rfl⟩ := he
    have hb := hw.off (l1 := l1) (List.mem_append_left _ (.head _) : (b, cb (xs ++ sp) t) ∈ _)
    by_cases hc : c = j
    · rw [if_pos hc]; exact Off.mk hb
    · rw [if_neg hc, Option.map_some, addr_add]; exact Off.mk hb


theorem hi_byte (m : Nat) : Value.int .u8 (IntKind.u8.wrap (Int.fdiv ((m : Nat) : Int) (2 ^ (min (8 : Int).toNat IntKind.i64.bits)))) = u8 (UInt8.ofNat (m / 256)) := by
  have e : ((2 : Int) ^ (min (8 : Int).toNat IntKind.i64.bits)) = ((256 : Nat) : Int) := by decide
  rw [e, Int.fdiv_eq_ediv_of_nonneg _ (Int.natCast_nonneg _), wrap_u8m]
  show Value.int .u8 _ = Value.int .u8 _
  congr 1 <;> simp
theorem lo_byte (m : Nat) : Value.int .u8 (IntKind.u8.wrap ((m : Nat) : Int)) = u8 (UInt8.ofNat (m % 256)) := by
  rw [wrap_u8m]
  show Value.int .u8 _ = Value.int .u8 _
  congr 1
  simp

theorem append_spec (lb d s n : Nat) (q : LogP) (down : Bool) (B rec_ : List UInt8) (p k : Int) (a : Option Addr) (m c : Nat) (w : World) (hw0 : Own w [(lb, lgO d q down), (d, dkO s n p k), (s, dkS B)]) (hB : B.length = 64 * n) (hn : n ≤ 4096) (hn3 : 3 ≤ n) (hg : q.gen < 9223372036854775808) (hu : q.used ≤ n - 2) (hcn : q.cnt ≤ q.used) (hk : 0 ≤ k) (hk2 : k < 4611686018427380000) (hp : p < 9223372036854775808) (hml : rec_.length = m) (hm47 : m ≤ 140737488351232) (hr : Row w (.slice a m c) m (rec_.map u8)) (hoff : Off [lb, d, s] (.slice a m c) (rec_.map u8)) :
    Calls Try.prog 28 [.pointer (some ⟨lb, 0, none⟩), .slice a m c].toArray w fun r w' => match appendP n q down ⟨B, p, k⟩ rec_ with
      | (e, q', down', σ') => r = .returned (.int .i64 e) ∧ St w [lb, d, s] [(lb, lgO d q' down'), (d, dkO s n σ'.p σ'.k), (s, dkS σ'.B)] w' := by
  obtain ⟨gen, used, cnt_, recs⟩ := q
  simp only at hg hu hcn
  subst hml
  refine calls_of_J (args := [.pointer (some ⟨lb, 0, none⟩), .slice a rec_.length c]) (e := [(0, .pointer (some ⟨lb, 0, none⟩)), (1, .slice a rec_.length c)]) Try.func28 rfl rfl ⟨rfl, rfl, trivial⟩ (show St w [lb, d, s] [(lb, cb [.pointer (some ⟨d, 0, none⟩), .int .u64 ((gen : Nat) : Int), .int .i64 ((used : Nat) : Int), .int .i64 ((cnt_ : Nat) : Int), .bool down] 80), (d, dkO s n (p) (k)), (s, dkS (B))] w from hw0.st) ?_
  refine JC.seq (fun K0 hK0 => ?_)
  refine JC.region ?_
  refine J.assign rfl rfl ?_
  refine J.nil ?_
  refine JX.thenN (hK0 _ _ ?_)
  refine JC.seq (fun K1 hK1 => ?_)
  refine JC.block ?_
  refine JC.seq (fun K2 hK2 => ?_)
  refine JC.region ?_
  refine J.move rfl rfl ?_
  refine J.eqNil Ty.u48 rfl rfl rfl ?_
  refine J.assign rfl rfl ?_
  refine J.nil ?_
  refine JX.thenN (hK2 _ _ ?_)
  first | refine JC.condF rfl ?_ | refine JC.cond rfl (fun h => by first | (exfalso; simp at h; omega) | (simp at h)) (fun _ => ?_)
  refine JC.seq (fun K3 hK3 => ?_)
  refine JC.region ?_
  refine J.move rfl rfl ?_
  refine J.nilCheck rfl rfl ?_
  refine J.fieldAddr Ty.fd80_4 rfl rfl ?_
  (first | refine J.loadO Ty.a4 rfl (.head _) rfl rfl ?_ | refine J.loadO Ty.a4 rfl (.tail _ (.head _)) rfl rfl ?_ | refine J.loadO Ty.a4 rfl (.tail _ (.tail _ (.head _))) rfl rfl ?_ | refine J.loadO Ty.a4 rfl (.tail _ (.tail _ (.tail _ (.head _)))) rfl rfl ?_ | refine J.loadO Ty.a4 rfl (.tail _ (.tail _ (.tail _ (.tail _ (.head _))))) rfl rfl ?_ | refine J.loadO Ty.a4 rfl (List.mem_append_right _ (.head _)) rfl rfl ?_ | refine J.loadO Ty.a4 rfl (List.mem_append_right _ (.tail _ (.head _))) rfl rfl ?_ | refine J.loadO Ty.a4 rfl (List.mem_append_right _ (.tail _ (.tail _ (.head _)))) rfl rfl ?_ | refine J.loadO Ty.a4 rfl (List.mem_append_right _ (.tail _ (.tail _ (.tail _ (.head _))))) rfl rfl ?_ | refine J.loadO Ty.a4 rfl (List.mem_append_right _ (.tail _ (.tail _ (.tail _ (.tail _ (.head _)))))) rfl rfl ?_)
  refine J.assign rfl rfl ?_
  refine J.nil ?_
  refine JX.thenN (hK3 _ _ ?_)
  refine JC.cond rfl (fun h1 => ?_) (fun h1 => ?_)
  · skip
    have happ := @appendP_down n ⟨gen, used, cnt_, recs⟩ ⟨B, p, k⟩ rec_
    subst h1
    refine JC.seq (fun K4 hK4 => ?_)
    refine JC.region ?_
    refine J.assign rfl rfl ?_
    refine J.nil ?_
    refine JX.thenN (hK4 _ _ ?_)
    refine JC.ret ?_
    refine JX.blockR ?_
    refine JX.thenR ?_
    refine JX.ret1 rfl rfl (fun w1 hw => ?_)
    rw [happ]
    first
    | exact ⟨rfl, hw⟩
    | exact ⟨rfl, hw.drop (.cons_cons _ (.cons_cons _ (.cons_cons _ (List.nil_sublist _))))⟩
  · skip
    subst h1
    refine JC.seq (fun K5 hK5 => ?_)
    refine JC.region ?_
    refine J.move rfl rfl ?_
    refine J.lenS rfl Ty.u28 rfl rfl ?_
    refine J.bin rfl rfl rfl rfl ?_
    refine J.assign rfl rfl ?_
    refine J.nil ?_
    refine JX.thenN (hK5 _ _ ?_)
    refine JC.cond rfl (fun h2 => ?_) (fun h2 => ?_)
    · skip
      have happ := appendP_long (n := n) (q := ⟨gen, used, cnt_, recs⟩) (σ := ⟨B, p, k⟩) (rec_ := rec_) (by simp at h2; omega)
      refine JC.seq (fun K6 hK6 => ?_)
      refine JC.region ?_
      refine J.assign rfl rfl ?_
      refine J.nil ?_
      refine JX.thenN (hK6 _ _ ?_)
      refine JC.ret ?_
      refine JX.blockR ?_
      refine JX.thenR ?_
      refine JX.ret1 rfl rfl (fun w1 hw => ?_)
      rw [happ]
      first
      | exact ⟨rfl, hw⟩
      | exact ⟨rfl, hw.drop (.cons_cons _ (.cons_cons _ (.cons_cons _ (List.nil_sublist _))))⟩
    · skip
      have hlong : ¬ 1024 < rec_.length := by simp at h2; omega
      have hnd : 1 ≤ needN rec_.length ∧ needN rec_.length ≤ 18 := by unfold needN; omega
      have hpl := payload_length rec_
      refine JC.seq (fun K7 hK7 => ?_)
      by_cases hfull : n - 2 - used < needN rec_.length
      · skip
        have happ := appendP_full (n := n) (q := ⟨gen, used, cnt_, recs⟩) (σ := ⟨B, p, k⟩) hlong hfull
        apply JC.drawL 15 [Eqv _, Eqv _, Eqv _, Eqv _, Eqv _, Eqv _, Eqv _, Eqv _, Eqv _, Eqv _, Eqv _, Eqv _, Eqv _, Eqv _, Eqv _] Ty.mixed rfl rfl rfl (by kernel_rfl) rfl rfl (fun w w' hw hb => hw.step hb) ⟨fun _ _ _ h _ => h, fun _ _ _ h _ => h, fun _ _ _ h _ => h, fun _ _ _ h _ => h, fun _ _ _ h _ => h, fun _ _ _ h _ => h, fun _ _ _ h _ => h, fun _ _ _ h _ => h, fun _ _ _ h _ => h, fun _ _ _ h _ => h, fun _ _ _ h _ => h, fun _ _ _ h _ => h, fun _ _ _ h _ => h, fun _ _ _ h _ => h, fun _ _ _ h _ => h, trivial⟩ ?hstep ?htail
        case hstep =>
          refine ⟨fun wi => ?_, fun wi => ?_, fun wi => ?_, fun wi => ?_, fun wi => ?_, fun wi => ?_, fun wi => ?_, fun wi => ?_, fun wi => ?_, fun wi => ?_, fun wi => ?_, fun wi => ?_, fun wi => ?_, fun wi => ?_, fun wi => ?_, trivial⟩
          · skip
            refine Fin.nil ?_
            refine J.move rfl rfl ?_
            refine J.nil (JX.fin rfl (fun w hw => ⟨rfl, (by rw [hw.1]; exact Below.refl _ _)⟩))
          · skip
            refine Fin.cons (fun v7_0 => ?_)
            refine Fin.nil ?_
            refine J.prE (fun h => ?_); subst h
            refine J.lenS rfl Ty.u28 rfl rfl ?_
            refine J.nil (JX.fin rfl (fun w hw => ⟨rfl, (by rw [hw.1]; exact Below.refl _ _)⟩))
          · skip
            refine Fin.cons (fun v7_1 => ?_)
            refine Fin.nil ?_
            refine J.prE (fun h => ?_); subst h
            refine J.callD Ty.bd39 rfl rfl (fun w1 hw => need_spec rec_.length w1 (by omega)) ?_
            refine J.nil (JX.fin rfl (fun w hw => ⟨rfl, hw⟩))
          · skip
            refine Fin.nil ?_
            refine J.move rfl rfl ?_
            refine J.nil (JX.fin rfl (fun w hw => ⟨rfl, (by rw [hw.1]; exact Below.refl _ _)⟩))
          · skip
            refine Fin.cons (fun v7_3 => ?_)
            refine Fin.nil ?_
            refine J.prE (fun h => ?_); subst h
            refine J.nilCheck rfl rfl ?_
            refine J.nil (JX.fin rfl (fun w hw => ⟨rfl, (by rw [hw.1]; exact Below.refl _ _)⟩))
          · skip
            refine Fin.cons (fun v7_4 => ?_)
            refine Fin.nil ?_
            refine J.prE (fun h => ?_); subst h
            refine J.fieldAddr Ty.fd80_0 rfl rfl ?_
            refine J.nil (JX.fin rfl (fun w hw => ⟨rfl, (by rw [hw.1]; exact Below.refl _ _)⟩))
          · skip
            refine Fin.cons (fun v7_5 => ?_)
            refine Fin.nil ?_
            refine J.prE (fun h => ?_); subst h
            (first | refine J.load1 Ty.a23 rfl (fun w hw => (cell_of (hw.2.own _ (.head _))).trans rfl) rfl ?_ | refine J.load1 Ty.a23 rfl (fun w hw => (cell_of (hw.2.own _ (.tail _ (.head _)))).trans rfl) rfl ?_ | refine J.load1 Ty.a23 rfl (fun w hw => (cell_of (hw.2.own _ (.tail _ (.tail _ (.head _))))).trans rfl) rfl ?_ | refine J.load1 Ty.a23 rfl (fun w hw => (cell_of (hw.2.own _ (.tail _ (.tail _ (.tail _ (.head _)))))).trans rfl) rfl ?_ | refine J.load1 Ty.a23 rfl (fun w hw => (cell_of (hw.2.own _ (.tail _ (.tail _ (.tail _ (.tail _ (.head _))))))).trans rfl) rfl ?_ | refine J.load1 Ty.a23 rfl (fun w hw => (cell_of (hw.2.own _ (List.mem_append_right _ (.head _)))).trans rfl) rfl ?_ | refine J.load1 Ty.a23 rfl (fun w hw => (cell_of (hw.2.own _ (List.mem_append_right _ (.tail _ (.head _))))).trans rfl) rfl ?_ | refine J.load1 Ty.a23 rfl (fun w hw => (cell_of (hw.2.own _ (List.mem_append_right _ (.tail _ (.tail _ (.head _)))))).trans rfl) rfl ?_ | refine J.load1 Ty.a23 rfl (fun w hw => (cell_of (hw.2.own _ (List.mem_append_right _ (.tail _ (.tail _ (.tail _ (.head _))))))).trans rfl) rfl ?_ | refine J.load1 Ty.a23 rfl (fun w hw => (cell_of (hw.2.own _ (List.mem_append_right _ (.tail _ (.tail _ (.tail _ (.tail _ (.head _)))))))).trans rfl) rfl ?_)
            refine J.nil (JX.fin rfl (fun w hw => ⟨rfl, (by rw [hw.1]; exact Below.refl _ _)⟩))
          · skip
            refine Fin.cons (fun v7_6 => ?_)
            refine Fin.cons (fun v7_2 => ?_)
            refine Fin.nil ?_
            refine J.prE (fun h => ?_); subst h
            refine J.prE (fun h => ?_); subst h
            refine J.callD Ty.bd23 rfl rfl (fun w1 hw => size_spec d s n p k w1 (St.owns (l1 := [(d, dkO s n (p) (k)), (s, dkS (B))]) (l := [(lb, cb [.pointer (some ⟨d, 0, none⟩), .int .u64 ((gen : Nat) : Int), .int .i64 ((used : Nat) : Int), .int .i64 ((cnt_ : Nat) : Int), .bool false] 80)]) (hw.perm (by (refine perm_cnt (fun _ => ?_)); simp only [cntB_append, cntB_cons, cntB_nil, Nat.add_zero, Nat.zero_add]; try ac_rfl)))) ?_
            refine J.nil (JX.fin rfl (fun w hw => ⟨rfl, hw⟩))
          · skip
            refine Fin.cons (fun v7_7 => ?_)
            refine Fin.nil ?_
            refine J.prE (fun h => ?_); subst h
            (first | refine J.subN rfl rfl (by omega) (by omega) rfl ?_ | refine J.bin rfl rfl rfl rfl ?_)
            refine J.nil (JX.fin rfl (fun w hw => ⟨rfl, (by rw [hw.1]; exact Below.refl _ _)⟩))
          · skip
            refine Fin.nil ?_
            refine J.move rfl rfl ?_
            refine J.nil (JX.fin rfl (fun w hw => ⟨rfl, (by rw [hw.1]; exact Below.refl _ _)⟩))
          · skip
            refine Fin.cons (fun v7_9 => ?_)
            refine Fin.nil ?_
            refine J.prE (fun h => ?_); subst h
            refine J.nilCheck rfl rfl ?_
            refine J.nil (JX.fin rfl (fun w hw => ⟨rfl, (by rw [hw.1]; exact Below.refl _ _)⟩))
          · skip
            refine Fin.cons (fun v7_10 => ?_)
            refine Fin.nil ?_
            refine J.prE (fun h => ?_); subst h
            refine J.fieldAddr Ty.fd80_2 rfl rfl ?_
            refine J.nil (JX.fin rfl (fun w hw => ⟨rfl, (by rw [hw.1]; exact Below.refl _ _)⟩))
          · skip
            refine Fin.cons (fun v7_11 => ?_)
            refine Fin.nil ?_
            refine J.prE (fun h => ?_); subst h
            (first | refine J.load1 Ty.a3 rfl (fun w hw => (cell_of (hw.2.own _ (.head _))).trans rfl) rfl ?_ | refine J.load1 Ty.a3 rfl (fun w hw => (cell_of (hw.2.own _ (.tail _ (.head _)))).trans rfl) rfl ?_ | refine J.load1 Ty.a3 rfl (fun w hw => (cell_of (hw.2.own _ (.tail _ (.tail _ (.head _))))).trans rfl) rfl ?_ | refine J.load1 Ty.a3 rfl (fun w hw => (cell_of (hw.2.own _ (.tail _ (.tail _ (.tail _ (.head _)))))).trans rfl) rfl ?_ | refine J.load1 Ty.a3 rfl (fun w hw => (cell_of (hw.2.own _ (.tail _ (.tail _ (.tail _ (.tail _ (.head _))))))).trans rfl) rfl ?_ | refine J.load1 Ty.a3 rfl (fun w hw => (cell_of (hw.2.own _ (List.mem_append_right _ (.head _)))).trans rfl) rfl ?_ | refine J.load1 Ty.a3 rfl (fun w hw => (cell_of (hw.2.own _ (List.mem_append_right _ (.tail _ (.head _))))).trans rfl) rfl ?_ | refine J.load1 Ty.a3 rfl (fun w hw => (cell_of (hw.2.own _ (List.mem_append_right _ (.tail _ (.tail _ (.head _)))))).trans rfl) rfl ?_ | refine J.load1 Ty.a3 rfl (fun w hw => (cell_of (hw.2.own _ (List.mem_append_right _ (.tail _ (.tail _ (.tail _ (.head _))))))).trans rfl) rfl ?_ | refine J.load1 Ty.a3 rfl (fun w hw => (cell_of (hw.2.own _ (List.mem_append_right _ (.tail _ (.tail _ (.tail _ (.tail _ (.head _)))))))).trans rfl) rfl ?_)
            refine J.nil (JX.fin rfl (fun w hw => ⟨rfl, (by rw [hw.1]; exact Below.refl _ _)⟩))
          · skip
            refine Fin.cons (fun v7_8 => ?_)
            refine Fin.cons (fun v7_12 => ?_)
            refine Fin.nil ?_
            refine J.prE (fun h => ?_); subst h
            refine J.prE (fun h => ?_); subst h
            (first | refine J.subN rfl rfl (by omega) (by omega) rfl ?_ | refine J.bin rfl rfl rfl rfl ?_)
            refine J.nil (JX.fin rfl (fun w hw => ⟨rfl, (by rw [hw.1]; exact Below.refl _ _)⟩))
          · skip
            refine Fin.cons (fun v7_2 => ?_)
            refine Fin.cons (fun v7_13 => ?_)
            refine Fin.nil ?_
            refine J.prE (fun h => ?_); subst h
            refine J.prE (fun h => ?_); subst h
            refine J.bin rfl rfl rfl rfl ?_
            refine J.name 38 rfl (show Value.bool _ = .bool true by simp <;> omega) ?_
            refine J.nil (JX.fin rfl (fun w hw => ⟨rfl, (by rw [hw.1]; exact Below.refl _ _)⟩))
        case htail =>
          refine Fin.cons (fun v7_0 => ?_)
          refine Fin.cons (fun v7_1 => ?_)
          refine Fin.cons (fun v7_2 => ?_)
          refine Fin.cons (fun v7_3 => ?_)
          refine Fin.cons (fun v7_4 => ?_)
          refine Fin.cons (fun v7_5 => ?_)
          refine Fin.cons (fun v7_6 => ?_)
          refine Fin.cons (fun v7_7 => ?_)
          refine Fin.cons (fun v7_8 => ?_)
          refine Fin.cons (fun v7_9 => ?_)
          refine Fin.cons (fun v7_10 => ?_)
          refine Fin.cons (fun v7_11 => ?_)
          refine Fin.cons (fun v7_12 => ?_)
          refine Fin.cons (fun v7_13 => ?_)
          refine Fin.cons (fun v7_14 => ?_)
          refine Fin.nil ?_
          refine J.prE (fun h => ?_); subst h
          refine J.prE (fun h => ?_); subst h
          refine J.prE (fun h => ?_); subst h
          refine J.prE (fun h => ?_); subst h
          refine J.prE (fun h => ?_); subst h
          refine J.prE (fun h => ?_); subst h
          refine J.prE (fun h => ?_); subst h
          refine J.prE (fun h => ?_); subst h
          refine J.prE (fun h => ?_); subst h
          refine J.prE (fun h => ?_); subst h
          refine J.prE (fun h => ?_); subst h
          refine J.prE (fun h => ?_); subst h
          refine J.prE (fun h => ?_); subst h
          refine J.prE (fun h => ?_); subst h
          refine J.prE (fun h => ?_); subst h
          refine J.assign rfl rfl ?_
          refine J.nil ?_
          refine JX.thenN (hK7 _ _ ?_)
          first | refine JC.condT rfl ?_ | refine JC.cond rfl (fun _ => ?_) (fun h => by first | (exfalso; simp at h; omega) | (simp at h))
          refine JC.seq (fun K8 hK8 => ?_)
          refine JC.region ?_
          refine J.assign rfl rfl ?_
          refine J.nil ?_
          refine JX.thenN (hK8 _ _ ?_)
          refine JC.ret ?_
          refine JX.blockR ?_
          refine JX.thenR ?_
          refine JX.ret1 rfl rfl (fun w1 hw => ?_)
          rw [happ]
          first
          | exact ⟨rfl, hw⟩
          | exact ⟨rfl, hw.drop (.cons_cons _ (.cons_cons _ (.cons_cons _ (List.nil_sublist _))))⟩
      · skip
        apply JC.drawL 15 [Eqv _, Eqv _, Eqv _, Eqv _, Eqv _, Eqv _, Eqv _, Eqv _, Eqv _, Eqv _, Eqv _, Eqv _, Eqv _, Eqv _, Eqv _] Ty.mixed rfl rfl rfl (by kernel_rfl) rfl rfl (fun w w' hw hb => hw.step hb) ⟨fun _ _ _ h _ => h, fun _ _ _ h _ => h, fun _ _ _ h _ => h, fun _ _ _ h _ => h, fun _ _ _ h _ => h, fun _ _ _ h _ => h, fun _ _ _ h _ => h, fun _ _ _ h _ => h, fun _ _ _ h _ => h, fun _ _ _ h _ => h, fun _ _ _ h _ => h, fun _ _ _ h _ => h, fun _ _ _ h _ => h, fun _ _ _ h _ => h, fun _ _ _ h _ => h, trivial⟩ ?hstep ?htail
        case hstep =>
          refine ⟨fun wi => ?_, fun wi => ?_, fun wi => ?_, fun wi => ?_, fun wi => ?_, fun wi => ?_, fun wi => ?_, fun wi => ?_, fun wi => ?_, fun wi => ?_, fun wi => ?_, fun wi => ?_, fun wi => ?_, fun wi => ?_, fun wi => ?_, trivial⟩
          · skip
            refine Fin.nil ?_
            refine J.move rfl rfl ?_
            refine J.nil (JX.fin rfl (fun w hw => ⟨rfl, (by rw [hw.1]; exact Below.refl _ _)⟩))
          · skip
            refine Fin.cons (fun v7_0 => ?_)
            refine Fin.nil ?_
            refine J.prE (fun h => ?_); subst h
            refine J.lenS rfl Ty.u28 rfl rfl ?_
            refine J.nil (JX.fin rfl (fun w hw => ⟨rfl, (by rw [hw.1]; exact Below.refl _ _)⟩))
          · skip
            refine Fin.cons (fun v7_1 => ?_)
            refine Fin.nil ?_
            refine J.prE (fun h => ?_); subst h
            refine J.callD Ty.bd39 rfl rfl (fun w1 hw => need_spec rec_.length w1 (by omega)) ?_
            refine J.nil (JX.fin rfl (fun w hw => ⟨rfl, hw⟩))
          · skip
            refine Fin.nil ?_
            refine J.move rfl rfl ?_
            refine J.nil (JX.fin rfl (fun w hw => ⟨rfl, (by rw [hw.1]; exact Below.refl _ _)⟩))
          · skip
            refine Fin.cons (fun v7_3 => ?_)
            refine Fin.nil ?_
            refine J.prE (fun h => ?_); subst h
            refine J.nilCheck rfl rfl ?_
            refine J.nil (JX.fin rfl (fun w hw => ⟨rfl, (by rw [hw.1]; exact Below.refl _ _)⟩))
          · skip
            refine Fin.cons (fun v7_4 => ?_)
            refine Fin.nil ?_
            refine J.prE (fun h => ?_); subst h
            refine J.fieldAddr Ty.fd80_0 rfl rfl ?_
            refine J.nil (JX.fin rfl (fun w hw => ⟨rfl, (by rw [hw.1]; exact Below.refl _ _)⟩))
          · skip
            refine Fin.cons (fun v7_5 => ?_)
            refine Fin.nil ?_
            refine J.prE (fun h => ?_); subst h
            (first | refine J.load1 Ty.a23 rfl (fun w hw => (cell_of (hw.2.own _ (.head _))).trans rfl) rfl ?_ | refine J.load1 Ty.a23 rfl (fun w hw => (cell_of (hw.2.own _ (.tail _ (.head _)))).trans rfl) rfl ?_ | refine J.load1 Ty.a23 rfl (fun w hw => (cell_of (hw.2.own _ (.tail _ (.tail _ (.head _))))).trans rfl) rfl ?_ | refine J.load1 Ty.a23 rfl (fun w hw => (cell_of (hw.2.own _ (.tail _ (.tail _ (.tail _ (.head _)))))).trans rfl) rfl ?_ | refine J.load1 Ty.a23 rfl (fun w hw => (cell_of (hw.2.own _ (.tail _ (.tail _ (.tail _ (.tail _ (.head _))))))).trans rfl) rfl ?_ | refine J.load1 Ty.a23 rfl (fun w hw => (cell_of (hw.2.own _ (List.mem_append_right _ (.head _)))).trans rfl) rfl ?_ | refine J.load1 Ty.a23 rfl (fun w hw => (cell_of (hw.2.own _ (List.mem_append_right _ (.tail _ (.head _))))).trans rfl) rfl ?_ | refine J.load1 Ty.a23 rfl (fun w hw => (cell_of (hw.2.own _ (List.mem_append_right _ (.tail _ (.tail _ (.head _)))))).trans rfl) rfl ?_ | refine J.load1 Ty.a23 rfl (fun w hw => (cell_of (hw.2.own _ (List.mem_append_right _ (.tail _ (.tail _ (.tail _ (.head _))))))).trans rfl) rfl ?_ | refine J.load1 Ty.a23 rfl (fun w hw => (cell_of (hw.2.own _ (List.mem_append_right _ (.tail _ (.tail _ (.tail _ (.tail _ (.head _)))))))).trans rfl) rfl ?_)
            refine J.nil (JX.fin rfl (fun w hw => ⟨rfl, (by rw [hw.1]; exact Below.refl _ _)⟩))
          · skip
            refine Fin.cons (fun v7_6 => ?_)
            refine Fin.cons (fun v7_2 => ?_)
            refine Fin.nil ?_
            refine J.prE (fun h => ?_); subst h
            refine J.prE (fun h => ?_); subst h
            refine J.callD Ty.bd23 rfl rfl (fun w1 hw => size_spec d s n p k w1 (St.owns (l1 := [(d, dkO s n (p) (k)), (s, dkS (B))]) (l := [(lb, cb [.pointer (some ⟨d, 0, none⟩), .int .u64 ((gen : Nat) : Int), .int .i64 ((used : Nat) : Int), .int .i64 ((cnt_ : Nat) : Int), .bool false] 80)]) (hw.perm (by (refine perm_cnt (fun _ => ?_)); simp only [cntB_append, cntB_cons, cntB_nil, Nat.add_zero, Nat.zero_add]; try ac_rfl)))) ?_
            refine J.nil (JX.fin rfl (fun w hw => ⟨rfl, hw⟩))
          · skip
            refine Fin.cons (fun v7_7 => ?_)
            refine Fin.nil ?_
            refine J.prE (fun h => ?_); subst h
            (first | refine J.subN rfl rfl (by omega) (by omega) rfl ?_ | refine J.bin rfl rfl rfl rfl ?_)
            refine J.nil (JX.fin rfl (fun w hw => ⟨rfl, (by rw [hw.1]; exact Below.refl _ _)⟩))
          · skip
            refine Fin.nil ?_
            refine J.move rfl rfl ?_
            refine J.nil (JX.fin rfl (fun w hw => ⟨rfl, (by rw [hw.1]; exact Below.refl _ _)⟩))
          · skip
            refine Fin.cons (fun v7_9 => ?_)
            refine Fin.nil ?_
            refine J.prE (fun h => ?_); subst h
            refine J.nilCheck rfl rfl ?_
            refine J.nil (JX.fin rfl (fun w hw => ⟨rfl, (by rw [hw.1]; exact Below.refl _ _)⟩))
          · skip
            refine Fin.cons (fun v7_10 => ?_)
            refine Fin.nil ?_
            refine J.prE (fun h => ?_); subst h
            refine J.fieldAddr Ty.fd80_2 rfl rfl ?_
            refine J.nil (JX.fin rfl (fun w hw => ⟨rfl, (by rw [hw.1]; exact Below.refl _ _)⟩))
          · skip
            refine Fin.cons (fun v7_11 => ?_)
            refine Fin.nil ?_
            refine J.prE (fun h => ?_); subst h
            (first | refine J.load1 Ty.a3 rfl (fun w hw => (cell_of (hw.2.own _ (.head _))).trans rfl) rfl ?_ | refine J.load1 Ty.a3 rfl (fun w hw => (cell_of (hw.2.own _ (.tail _ (.head _)))).trans rfl) rfl ?_ | refine J.load1 Ty.a3 rfl (fun w hw => (cell_of (hw.2.own _ (.tail _ (.tail _ (.head _))))).trans rfl) rfl ?_ | refine J.load1 Ty.a3 rfl (fun w hw => (cell_of (hw.2.own _ (.tail _ (.tail _ (.tail _ (.head _)))))).trans rfl) rfl ?_ | refine J.load1 Ty.a3 rfl (fun w hw => (cell_of (hw.2.own _ (.tail _ (.tail _ (.tail _ (.tail _ (.head _))))))).trans rfl) rfl ?_ | refine J.load1 Ty.a3 rfl (fun w hw => (cell_of (hw.2.own _ (List.mem_append_right _ (.head _)))).trans rfl) rfl ?_ | refine J.load1 Ty.a3 rfl (fun w hw => (cell_of (hw.2.own _ (List.mem_append_right _ (.tail _ (.head _))))).trans rfl) rfl ?_ | refine J.load1 Ty.a3 rfl (fun w hw => (cell_of (hw.2.own _ (List.mem_append_right _ (.tail _ (.tail _ (.head _)))))).trans rfl) rfl ?_ | refine J.load1 Ty.a3 rfl (fun w hw => (cell_of (hw.2.own _ (List.mem_append_right _ (.tail _ (.tail _ (.tail _ (.head _))))))).trans rfl) rfl ?_ | refine J.load1 Ty.a3 rfl (fun w hw => (cell_of (hw.2.own _ (List.mem_append_right _ (.tail _ (.tail _ (.tail _ (.tail _ (.head _)))))))).trans rfl) rfl ?_)
            refine J.nil (JX.fin rfl (fun w hw => ⟨rfl, (by rw [hw.1]; exact Below.refl _ _)⟩))
          · skip
            refine Fin.cons (fun v7_8 => ?_)
            refine Fin.cons (fun v7_12 => ?_)
            refine Fin.nil ?_
            refine J.prE (fun h => ?_); subst h
            refine J.prE (fun h => ?_); subst h
            (first | refine J.subN rfl rfl (by omega) (by omega) rfl ?_ | refine J.bin rfl rfl rfl rfl ?_)
            refine J.nil (JX.fin rfl (fun w hw => ⟨rfl, (by rw [hw.1]; exact Below.refl _ _)⟩))
          · skip
            refine Fin.cons (fun v7_2 => ?_)
            refine Fin.cons (fun v7_13 => ?_)
            refine Fin.nil ?_
            refine J.prE (fun h => ?_); subst h
            refine J.prE (fun h => ?_); subst h
            refine J.bin rfl rfl rfl rfl ?_
            refine J.name 38 rfl (show Value.bool _ = .bool false by simp <;> omega) ?_
            refine J.nil (JX.fin rfl (fun w hw => ⟨rfl, (by rw [hw.1]; exact Below.refl _ _)⟩))
        case htail =>
          refine Fin.cons (fun v7_0 => ?_)
          refine Fin.cons (fun v7_1 => ?_)
          refine Fin.cons (fun v7_2 => ?_)
          refine Fin.cons (fun v7_3 => ?_)
          refine Fin.cons (fun v7_4 => ?_)
          refine Fin.cons (fun v7_5 => ?_)
          refine Fin.cons (fun v7_6 => ?_)
          refine Fin.cons (fun v7_7 => ?_)
          refine Fin.cons (fun v7_8 => ?_)
          refine Fin.cons (fun v7_9 => ?_)
          refine Fin.cons (fun v7_10 => ?_)
          refine Fin.cons (fun v7_11 => ?_)
          refine Fin.cons (fun v7_12 => ?_)
          refine Fin.cons (fun v7_13 => ?_)
          refine Fin.cons (fun v7_14 => ?_)
          refine Fin.nil ?_
          refine J.prE (fun h => ?_); subst h
          refine J.prE (fun h => ?_); subst h
          refine J.prE (fun h => ?_); subst h
          refine J.prE (fun h => ?_); subst h
          refine J.prE (fun h => ?_); subst h
          refine J.prE (fun h => ?_); subst h
          refine J.prE (fun h => ?_); subst h
          refine J.prE (fun h => ?_); subst h
          refine J.prE (fun h => ?_); subst h
          refine J.prE (fun h => ?_); subst h
          refine J.prE (fun h => ?_); subst h
          refine J.prE (fun h => ?_); subst h
          refine J.prE (fun h => ?_); subst h
          refine J.prE (fun h => ?_); subst h
          refine J.prE (fun h => ?_); subst h
          refine J.assign rfl rfl ?_
          refine J.nil ?_
          refine JX.thenN (hK7 _ _ ?_)
          first | refine JC.condF rfl ?_ | refine JC.cond rfl (fun h => by first | (exfalso; simp at h; omega) | (simp at h)) (fun _ => ?_)
          refine JC.skip ?_
          refine JX.blockN ?_
          refine JX.thenN (hK1 _ _ ?_)
          refine JC.seq (fun K9 hK9 => ?_)
          refine JC.region ?_
          refine J.move rfl rfl ?_
          refine J.lenS rfl Ty.u28 rfl rfl ?_
          refine J.bin rfl rfl rfl rfl ?_
          refine J.convInt Ty.u3 Ty.u5 rfl rfl ?_
          refine J.name 42 rfl (hi_byte rec_.length) ?_
          refine J.move rfl rfl ?_
          refine J.lenS rfl Ty.u28 rfl rfl ?_
          refine J.convInt Ty.u3 Ty.u5 rfl rfl ?_
          refine J.name 45 rfl (lo_byte rec_.length) ?_
          refine J.buildSl Ty.el28 Ty.s5 Ty.z5 rfl rfl rfl rfl rfl rfl rfl (fun b46 => ?_)
          refine J.move rfl rfl ?_
          refine J.append (lp := [(b46, cb [u8 (UInt8.ofNat (rec_.length / 256)), u8 (UInt8.ofNat (rec_.length % 256))] 5)]) (xs := [u8 (UInt8.ofNat (rec_.length / 256)), u8 (UInt8.ofNat (rec_.length % 256))]) (ys := rec_.map u8) (k := 2) (m := rec_.length) Ty.el28 Ty.s5 Ty.b5 Ty.z5 rfl (.inl ⟨5, Ty.u28⟩) rfl rfl ⟨rfl, .inr ⟨b46, 2, [], rfl, rfl, rfl, Nat.le_refl _⟩⟩ (fun w1 hw => .inl (hr.st hoff hw)) (by simp) (one_u8 _) (by omega) (by omega) rfl (fun v48 lp48 hv48 => ?_)
          obtain ⟨a48, c48, rfl, hc48⟩ := hv48.form
          have hv48 : Vec 5 1 (.slice a48 (2 + rec_.length) c48) (2 + rec_.length) ((payload rec_).map u8) lp48 := hv48
          refine J.perm ((lb, cb [.pointer (some ⟨d, 0, none⟩), .int .u64 ((gen : Nat) : Int), .int .i64 ((used : Nat) : Int), .int .i64 ((cnt_ : Nat) : Int), .bool false] 80) :: (d, dkO s n (p) (k)) :: (s, dkS (B)) :: lp48) (by (refine perm_cnt (fun _ => ?_)); simp only [cntB_append, cntB_cons, cntB_nil, Nat.add_zero, Nat.zero_add]; try ac_rfl) ?_
          refine J.assign rfl rfl ?_
          refine J.nil ?_
          refine JX.thenN (hK9 _ _ ?_)
          refine JC.seq (fun K10 hK10 => ?_)
          refine JC.seq (fun K11 hK11 => ?_)
          refine JC.region ?_
          refine J.move rfl rfl ?_
          refine J.lenS rfl Ty.u28 rfl rfl ?_
          refine J.callB (fun w1 w2 hw hb => hw.step hb) Ty.bd39 rfl rfl (fun w1 hw => need_spec rec_.length w1 (by omega)) ?_
          refine J.move rfl rfl ?_
          refine J.nil ?_
          refine JX.thenN (hK11 _ _ ?_)
          refine JC.block ?_
          refine JC.conseq (JC.cov (f := (fun st => [(0, .pointer (some ⟨lb, 0, none⟩)), (1, .slice a rec_.length c), (5, .slice a48 (2 + rec_.length) c48), (51, .int .i64 ((needN rec_.length : Nat) : Int)), (52, .int .i64 ((st.1 : Nat) : Int))]) ((0, B, p, k) : Nat × List UInt8 × Int × Int)) ⟨rfl, rfl, rfl, rfl, rfl, trivial⟩ (JC.loop (α := Nat × List UInt8 × Int × Int) (fun st => [(0, .pointer (some ⟨lb, 0, none⟩)), (1, .slice a rec_.length c), (5, .slice a48 (2 + rec_.length) c48), (51, .int .i64 ((needN rec_.length : Nat) : Int)), (52, .int .i64 ((st.1 : Nat) : Int))]) (fun st w' => (st.1 ≤ needN rec_.length ∧ st.2.1.length = 64 * n ∧ 0 ≤ st.2.2.2 ∧ st.2.2.2 ≤ k + st.1 ∧ st.2.2.1 < 9223372036854775808 ∧ dws ⟨B, p, k⟩ (planP gen used cnt_ rec_) = dws ⟨st.2.1, st.2.2.1, st.2.2.2⟩ ((planP gen used cnt_ rec_).drop st.1)) ∧ St w [lb, d, s] ((lb, cb [.pointer (some ⟨d, 0, none⟩), .int .u64 ((gen : Nat) : Int), .int .i64 ((used : Nat) : Int), .int .i64 ((cnt_ : Nat) : Int), .bool false] 80) :: (d, dkO s n (st.2.2.1) (st.2.2.2)) :: (s, dkS (st.2.1)) :: lp48) w') (fun st => needN rec_.length - st.1) ((0, B, p, k) : Nat × List UInt8 × Int × Int) (fun st => ?_))) (fun w hw => ⟨⟨Nat.zero_le _, hB, hk, by simp, hp, rfl⟩, hw⟩)
          obtain ⟨i, B1, p1, k1⟩ := st
          refine JC.pr (fun hx => ?_)
          obtain ⟨hi, hB1, hk10, hk11, hp1, hdw⟩ := hx
          simp only at hi hB1 hk10 hk11 hp1 hdw ⊢
          refine JC.seq (fun K12 hK12 => ?_)
          refine JC.region ?_
          refine J.bin rfl rfl rfl rfl ?_
          refine J.nil ?_
          refine JX.thenN (hK12 _ _ ?_)
          refine JC.seq (fun K13 hK13 => ?_)
          refine JC.cond rfl (fun h4 => ?_) (fun h4 => ?_)
          · skip
            have hlt : i < needN rec_.length := by simp at h4; omega
            have hlt64 : 64 * i < 2 + rec_.length := by unfold needN at hlt; omega
            refine JC.skip ?_
            refine JX.thenN (hK13 _ _ ?_)
            refine JC.seq (fun K14 hK14 => ?_)
            refine JC.block ?_
            refine JC.seq (fun K15 hK15 => ?_)
            refine JC.region ?_
            refine J.move rfl rfl ?_
            refine J.assign rfl rfl ?_
            refine J.nil ?_
            refine JX.thenN (hK15 _ _ ?_)
            refine JC.seq (fun K16 hK16 => ?_)
            refine JC.region ?_
            refine J.move rfl rfl ?_
            refine J.move rfl rfl ?_
            (first | refine J.mulN rfl rfl (by omega) (by omega) rfl ?_ | refine J.bin rfl rfl rfl rfl ?_)
            refine J.move rfl rfl ?_
            (first | refine J.addN rfl rfl (by omega) (by omega) rfl ?_ | refine J.bin rfl rfl rfl rfl ?_)
            refine J.mulN rfl rfl (by omega) (by omega) rfl ?_
            refine J.move rfl rfl ?_
            refine J.lenS rfl Ty.u28 rfl rfl ?_
            refine J.min2 rfl rfl rfl ?_
            refine J.sliceS (i := 64 * i) (j := min (64 * (i + 1)) (2 + rec_.length)) Ty.el28 Ty.s5 rfl rfl rfl (by simp only [bnd]; rw [if_pos (by omega)]; congr 1 <;> omega) (by simp only [bnd]; rw [if_pos (by omega)]; congr 1 <;> omega) (by omega) (by omega) (by omega) rfl ?_
            refine J.assign rfl rfl ?_
            refine J.nil ?_
            refine JX.thenN (hK16 _ _ ?_)
            refine JC.seq (fun K17 hK17 => ?_)
            by_cases hp0 : p1 = 0
            · skip
              subst hp0
              have happ := appendP_torn (n := n) (q := ⟨gen, used, cnt_, recs⟩) (σ := ⟨B, p, k⟩) hlong hfull (hdw.trans (by rw [plan_at hlt]; exact dws_cons_torn))
              apply JC.drawL 12 [Eqv _, Eqv _, Eqv _, Eqv _, Eqv _, Eqv _, Eqv _, Eqv _, Eqv _, Eqv _, Eqv _, Eqv _] Ty.mixed rfl rfl rfl (by kernel_rfl) rfl rfl (fun w w' hw hb => hw.step hb) ⟨fun _ _ _ h _ => h, fun _ _ _ h _ => h, fun _ _ _ h _ => h, fun _ _ _ h _ => h, fun _ _ _ h _ => h, fun _ _ _ h _ => h, fun _ _ _ h _ => h, fun _ _ _ h _ => h, fun _ _ _ h _ => h, fun _ _ _ h _ => h, fun _ _ _ h _ => h, fun _ _ _ h _ => h, trivial⟩ ?hstep ?htail
              case hstep =>
                refine ⟨fun wi => ?_, fun wi => ?_, fun wi => ?_, fun wi => ?_, fun wi => ?_, fun wi => ?_, fun wi => ?_, fun wi => ?_, fun wi => ?_, fun wi => ?_, fun wi => ?_, fun wi => ?_, trivial⟩
                · skip
                  refine Fin.nil ?_
                  refine J.move rfl rfl ?_
                  refine J.nil (JX.fin rfl (fun w hw => ⟨rfl, (by rw [hw.1]; exact Below.refl _ _)⟩))
                · skip
                  refine Fin.cons (fun v14_0 => ?_)
                  refine Fin.nil ?_
                  refine J.prE (fun h => ?_); subst h
                  refine J.nilCheck rfl rfl ?_
                  refine J.nil (JX.fin rfl (fun w hw => ⟨rfl, (by rw [hw.1]; exact Below.refl _ _)⟩))
                · skip
                  refine Fin.cons (fun v14_1 => ?_)
                  refine Fin.nil ?_
                  refine J.prE (fun h => ?_); subst h
                  refine J.fieldAddr Ty.fd80_0 rfl rfl ?_
                  refine J.nil (JX.fin rfl (fun w hw => ⟨rfl, (by rw [hw.1]; exact Below.refl _ _)⟩))
                · skip
                  refine Fin.cons (fun v14_2 => ?_)
                  refine Fin.nil ?_
                  refine J.prE (fun h => ?_); subst h
                  (first | refine J.load1 Ty.a23 rfl (fun w hw => (cell_of (hw.2.own _ (.head _))).trans rfl) rfl ?_ | refine J.load1 Ty.a23 rfl (fun w hw => (cell_of (hw.2.own _ (.tail _ (.head _)))).trans rfl) rfl ?_ | refine J.load1 Ty.a23 rfl (fun w hw => (cell_of (hw.2.own _ (.tail _ (.tail _ (.head _))))).trans rfl) rfl ?_ | refine J.load1 Ty.a23 rfl (fun w hw => (cell_of (hw.2.own _ (.tail _ (.tail _ (.tail _ (.head _)))))).trans rfl) rfl ?_ | refine J.load1 Ty.a23 rfl (fun w hw => (cell_of (hw.2.own _ (.tail _ (.tail _ (.tail _ (.tail _ (.head _))))))).trans rfl) rfl ?_ | refine J.load1 Ty.a23 rfl (fun w hw => (cell_of (hw.2.own _ (List.mem_append_right _ (.head _)))).trans rfl) rfl ?_ | refine J.load1 Ty.a23 rfl (fun w hw => (cell_of (hw.2.own _ (List.mem_append_right _ (.tail _ (.head _))))).trans rfl) rfl ?_ | refine J.load1 Ty.a23 rfl (fun w hw => (cell_of (hw.2.own _ (List.mem_append_right _ (.tail _ (.tail _ (.head _)))))).trans rfl) rfl ?_ | refine J.load1 Ty.a23 rfl (fun w hw => (cell_of (hw.2.own _ (List.mem_append_right _ (.tail _ (.tail _ (.tail _ (.head _))))))).trans rfl) rfl ?_ | refine J.load1 Ty.a23 rfl (fun w hw => (cell_of (hw.2.own _ (List.mem_append_right _ (.tail _ (.tail _ (.tail _ (.tail _ (.head _)))))))).trans rfl) rfl ?_)
                  refine J.nil (JX.fin rfl (fun w hw => ⟨rfl, (by rw [hw.1]; exact Below.refl _ _)⟩))
                · skip
                  refine Fin.nil ?_
                  refine J.move rfl rfl ?_
                  refine J.nil (JX.fin rfl (fun w hw => ⟨rfl, (by rw [hw.1]; exact Below.refl _ _)⟩))
                · skip
                  refine Fin.cons (fun v14_4 => ?_)
                  refine Fin.nil ?_
                  refine J.prE (fun h => ?_); subst h
                  refine J.nilCheck rfl rfl ?_
                  refine J.nil (JX.fin rfl (fun w hw => ⟨rfl, (by rw [hw.1]; exact Below.refl _ _)⟩))
                · skip
                  refine Fin.cons (fun v14_5 => ?_)
                  refine Fin.nil ?_
                  refine J.prE (fun h => ?_); subst h
                  refine J.fieldAddr Ty.fd80_2 rfl rfl ?_
                  refine J.nil (JX.fin rfl (fun w hw => ⟨rfl, (by rw [hw.1]; exact Below.refl _ _)⟩))
                · skip
                  refine Fin.cons (fun v14_6 => ?_)
                  refine Fin.nil ?_
                  refine J.prE (fun h => ?_); subst h
                  (first | refine J.load1 Ty.a3 rfl (fun w hw => (cell_of (hw.2.own _ (.head _))).trans rfl) rfl ?_ | refine J.load1 Ty.a3 rfl (fun w hw => (cell_of (hw.2.own _ (.tail _ (.head _)))).trans rfl) rfl ?_ | refine J.load1 Ty.a3 rfl (fun w hw => (cell_of (hw.2.own _ (.tail _ (.tail _ (.head _))))).trans rfl) rfl ?_ | refine J.load1 Ty.a3 rfl (fun w hw => (cell_of (hw.2.own _ (.tail _ (.tail _ (.tail _ (.head _)))))).trans rfl) rfl ?_ | refine J.load1 Ty.a3 rfl (fun w hw => (cell_of (hw.2.own _ (.tail _ (.tail _ (.tail _ (.tail _ (.head _))))))).trans rfl) rfl ?_ | refine J.load1 Ty.a3 rfl (fun w hw => (cell_of (hw.2.own _ (List.mem_append_right _ (.head _)))).trans rfl) rfl ?_ | refine J.load1 Ty.a3 rfl (fun w hw => (cell_of (hw.2.own _ (List.mem_append_right _ (.tail _ (.head _))))).trans rfl) rfl ?_ | refine J.load1 Ty.a3 rfl (fun w hw => (cell_of (hw.2.own _ (List.mem_append_right _ (.tail _ (.tail _ (.head _)))))).trans rfl) rfl ?_ | refine J.load1 Ty.a3 rfl (fun w hw => (cell_of (hw.2.own _ (List.mem_append_right _ (.tail _ (.tail _ (.tail _ (.head _))))))).trans rfl) rfl ?_ | refine J.load1 Ty.a3 rfl (fun w hw => (cell_of (hw.2.own _ (List.mem_append_right _ (.tail _ (.tail _ (.tail _ (.tail _ (.head _)))))))).trans rfl) rfl ?_)
                  refine J.nil (JX.fin rfl (fun w hw => ⟨rfl, (by rw [hw.1]; exact Below.refl _ _)⟩))
                · skip
                  refine Fin.cons (fun v14_7 => ?_)
                  refine Fin.nil ?_
                  refine J.prE (fun h => ?_); subst h
                  refine J.addN rfl rfl (by omega) (by omega) rfl ?_
                  refine J.nil (JX.fin rfl (fun w hw => ⟨rfl, (by rw [hw.1]; exact Below.refl _ _)⟩))
                · skip
                  refine Fin.nil ?_
                  refine J.move rfl rfl ?_
                  refine J.nil (JX.fin rfl (fun w hw => ⟨rfl, (by rw [hw.1]; exact Below.refl _ _)⟩))
                · skip
                  refine Fin.cons (fun v14_8 => ?_)
                  refine Fin.cons (fun v14_9 => ?_)
                  refine Fin.nil ?_
                  refine J.prE (fun h => ?_); subst h
                  refine J.prE (fun h => ?_); subst h
                  refine J.addN rfl rfl (by omega) (by omega) rfl ?_
                  refine J.name 75 rfl (show Value.int .i64 _ = .int .i64 ((2 + used + i : Nat) : Int) by congr 1) ?_
                  refine J.nil (JX.fin rfl (fun w hw => ⟨rfl, (by rw [hw.1]; exact Below.refl _ _)⟩))
                · skip
                  refine Fin.nil ?_
                  refine J.move rfl rfl ?_
                  refine J.nil (JX.fin rfl (fun w hw => ⟨rfl, (by rw [hw.1]; exact Below.refl _ _)⟩))
              case htail =>
                refine Fin.cons (fun v14_0 => ?_)
                refine Fin.cons (fun v14_1 => ?_)
                refine Fin.cons (fun v14_2 => ?_)
                refine Fin.cons (fun v14_3 => ?_)
                refine Fin.cons (fun v14_4 => ?_)
                refine Fin.cons (fun v14_5 => ?_)
                refine Fin.cons (fun v14_6 => ?_)
                refine Fin.cons (fun v14_7 => ?_)
                refine Fin.cons (fun v14_8 => ?_)
                refine Fin.cons (fun v14_9 => ?_)
                refine Fin.cons (fun v14_10 => ?_)
                refine Fin.cons (fun v14_11 => ?_)
                refine Fin.nil ?_
                refine J.prE (fun h => ?_); subst h
                refine J.prE (fun h => ?_); subst h
                refine J.prE (fun h => ?_); subst h
                refine J.prE (fun h => ?_); subst h
                refine J.prE (fun h => ?_); subst h
                refine J.prE (fun h => ?_); subst h
                refine J.prE (fun h => ?_); subst h
                refine J.prE (fun h => ?_); subst h
                refine J.prE (fun h => ?_); subst h
                refine J.prE (fun h => ?_); subst h
                refine J.prE (fun h => ?_); subst h
                refine J.prE (fun h => ?_); subst h
                refine J.perm ([(d, dkO s n (0) (k1)), (s, dkS (B1))] ++ ((lb, cb [.pointer (some ⟨d, 0, none⟩), .int .u64 ((gen : Nat) : Int), .int .i64 ((used : Nat) : Int), .int .i64 ((cnt_ : Nat) : Int), .bool false] 80) :: lp48)) (by (refine perm_cnt (fun _ => ?_)); simp only [cntB_append, cntB_cons, cntB_nil, Nat.add_zero, Nat.zero_add]; try ac_rfl) ?_
                refine J.callB (fun w1 w2 hw hb => hw.step hb) Ty.bd17 rfl rfl (fun w1 hw => write_down d s n k1 w1 (St.owns (l1 := [(d, dkO s n (0) (k1)), (s, dkS (B1))]) hw) ((2 + used + i : Nat) : Int) _ (min (64 * (i + 1)) (2 + rec_.length) - 64 * i) (c48 - 64 * i) (by omega) (by omega) (by omega)) ?_
                refine J.perm ((lb, cb [.pointer (some ⟨d, 0, none⟩), .int .u64 ((gen : Nat) : Int), .int .i64 ((used : Nat) : Int), .int .i64 ((cnt_ : Nat) : Int), .bool false] 80) :: (d, dkO s n (0) (k1)) :: (s, dkS (B1)) :: lp48) (by (refine perm_cnt (fun _ => ?_)); simp only [cntB_append, cntB_cons, cntB_nil, Nat.add_zero, Nat.zero_add]; try ac_rfl) ?_
                refine J.assign rfl rfl ?_
                refine J.nil ?_
                refine JX.thenN (hK17 _ _ ?_)
                refine JC.seq (fun K18 hK18 => ?_)
                refine JC.region ?_
                refine J.move rfl rfl ?_
                refine J.bin rfl rfl rfl rfl ?_
                refine J.nil ?_
                refine JX.thenN (hK18 _ _ ?_)
                first | refine JC.condT rfl ?_ | refine JC.cond rfl (fun _ => ?_) (fun h => by first | (exfalso; simp at h; omega) | (simp at h))
                refine JC.seq (fun K19 hK19 => ?_)
                refine JC.region ?_
                refine J.move rfl rfl ?_
                refine J.nilCheck rfl rfl ?_
                refine J.fieldAddr Ty.fd80_4 rfl rfl ?_
                (first | refine J.storeO Ty.s4 rfl rfl rfl rfl (by simp [Value.oneCell']) .here (by simp) ?_ | refine J.storeO Ty.s4 rfl rfl rfl rfl (by simp [Value.oneCell']) (.there .here) (by simp) ?_ | refine J.storeO Ty.s4 rfl rfl rfl rfl (by simp [Value.oneCell']) (.there (.there .here)) (by simp) ?_ | refine J.storeO Ty.s4 rfl rfl rfl rfl (by simp [Value.oneCell']) (.there (.there (.there .here))) (by simp) ?_)
                refine J.nil ?_
                refine JX.thenN (hK19 _ _ ?_)
                refine JC.seq (fun K20 hK20 => ?_)
                refine JC.region ?_
                refine J.move rfl rfl ?_
                refine J.assign rfl rfl ?_
                refine J.nil ?_
                refine JX.thenN (hK20 _ _ ?_)
                refine JC.ret ?_
                refine JX.blockR ?_
                refine JX.thenR ?_
                refine JX.thenR ?_
                refine JX.blockR ?_
                refine JX.thenR ?_
                refine JX.ret1 rfl rfl (fun w1 hw => ?_)
                rw [happ]
                first
                | exact ⟨rfl, hw⟩
                | exact ⟨rfl, hw.drop (.cons_cons _ (.cons_cons _ (.cons_cons _ (List.nil_sublist _))))⟩
            · skip
              apply JC.drawL 12 [Eqv _, Eqv _, Eqv _, Eqv _, Eqv _, Eqv _, Eqv _, Eqv _, Eqv _, Eqv _, Eqv _, Eqv _] Ty.mixed rfl rfl rfl (by kernel_rfl) rfl rfl (fun w w' hw hb => hw.step hb) ⟨fun _ _ _ h _ => h, fun _ _ _ h _ => h, fun _ _ _ h _ => h, fun _ _ _ h _ => h, fun _ _ _ h _ => h, fun _ _ _ h _ => h, fun _ _ _ h _ => h, fun _ _ _ h _ => h, fun _ _ _ h _ => h, fun _ _ _ h _ => h, fun _ _ _ h _ => h, fun _ _ _ h _ => h, trivial⟩ ?hstep ?htail
              case hstep =>
                refine ⟨fun wi => ?_, fun wi => ?_, fun wi => ?_, fun wi => ?_, fun wi => ?_, fun wi => ?_, fun wi => ?_, fun wi => ?_, fun wi => ?_, fun wi => ?_, fun wi => ?_, fun wi => ?_, trivial⟩
                · skip
                  refine Fin.nil ?_
                  refine J.move rfl rfl ?_
                  refine J.nil (JX.fin rfl (fun w hw => ⟨rfl, (by rw [hw.1]; exact Below.refl _ _)⟩))
                · skip
                  refine Fin.cons (fun v14_0 => ?_)
                  refine Fin.nil ?_
                  refine J.prE (fun h => ?_); subst h
                  refine J.nilCheck rfl rfl ?_
                  refine J.nil (JX.fin rfl (fun w hw => ⟨rfl, (by rw [hw.1]; exact Below.refl _ _)⟩))
                · skip
                  refine Fin.cons (fun v14_1 => ?_)
                  refine Fin.nil ?_
                  refine J.prE (fun h => ?_); subst h
                  refine J.fieldAddr Ty.fd80_0 rfl rfl ?_
                  refine J.nil (JX.fin rfl (fun w hw => ⟨rfl, (by rw [hw.1]; exact Below.refl _ _)⟩))
                · skip
                  refine Fin.cons (fun v14_2 => ?_)
                  refine Fin.nil ?_
                  refine J.prE (fun h => ?_); subst h
                  (first | refine J.load1 Ty.a23 rfl (fun w hw => (cell_of (hw.2.own _ (.head _))).trans rfl) rfl ?_ | refine J.load1 Ty.a23 rfl (fun w hw => (cell_of (hw.2.own _ (.tail _ (.head _)))).trans rfl) rfl ?_ | refine J.load1 Ty.a23 rfl (fun w hw => (cell_of (hw.2.own _ (.tail _ (.tail _ (.head _))))).trans rfl) rfl ?_ | refine J.load1 Ty.a23 rfl (fun w hw => (cell_of (hw.2.own _ (.tail _ (.tail _ (.tail _ (.head _)))))).trans rfl) rfl ?_ | refine J.load1 Ty.a23 rfl (fun w hw => (cell_of (hw.2.own _ (.tail _ (.tail _ (.tail _ (.tail _ (.head _))))))).trans rfl) rfl ?_ | refine J.load1 Ty.a23 rfl (fun w hw => (cell_of (hw.2.own _ (List.mem_append_right _ (.head _)))).trans rfl) rfl ?_ | refine J.load1 Ty.a23 rfl (fun w hw => (cell_of (hw.2.own _ (List.mem_append_right _ (.tail _ (.head _))))).trans rfl) rfl ?_ | refine J.load1 Ty.a23 rfl (fun w hw => (cell_of (hw.2.own _ (List.mem_append_right _ (.tail _ (.tail _ (.head _)))))).trans rfl) rfl ?_ | refine J.load1 Ty.a23 rfl (fun w hw => (cell_of (hw.2.own _ (List.mem_append_right _ (.tail _ (.tail _ (.tail _ (.head _))))))).trans rfl) rfl ?_ | refine J.load1 Ty.a23 rfl (fun w hw => (cell_of (hw.2.own _ (List.mem_append_right _ (.tail _ (.tail _ (.tail _ (.tail _ (.head _)))))))).trans rfl) rfl ?_)
                  refine J.nil (JX.fin rfl (fun w hw => ⟨rfl, (by rw [hw.1]; exact Below.refl _ _)⟩))
                · skip
                  refine Fin.nil ?_
                  refine J.move rfl rfl ?_
                  refine J.nil (JX.fin rfl (fun w hw => ⟨rfl, (by rw [hw.1]; exact Below.refl _ _)⟩))
                · skip
                  refine Fin.cons (fun v14_4 => ?_)
                  refine Fin.nil ?_
                  refine J.prE (fun h => ?_); subst h
                  refine J.nilCheck rfl rfl ?_
                  refine J.nil (JX.fin rfl (fun w hw => ⟨rfl, (by rw [hw.1]; exact Below.refl _ _)⟩))
                · skip
                  refine Fin.cons (fun v14_5 => ?_)
                  refine Fin.nil ?_
                  refine J.prE (fun h => ?_); subst h
                  refine J.fieldAddr Ty.fd80_2 rfl rfl ?_
                  refine J.nil (JX.fin rfl (fun w hw => ⟨rfl, (by rw [hw.1]; exact Below.refl _ _)⟩))
                · skip
                  refine Fin.cons (fun v14_6 => ?_)
                  refine Fin.nil ?_
                  refine J.prE (fun h => ?_); subst h
                  (first | refine J.load1 Ty.a3 rfl (fun w hw => (cell_of (hw.2.own _ (.head _))).trans rfl) rfl ?_ | refine J.load1 Ty.a3 rfl (fun w hw => (cell_of (hw.2.own _ (.tail _ (.head _)))).trans rfl) rfl ?_ | refine J.load1 Ty.a3 rfl (fun w hw => (cell_of (hw.2.own _ (.tail _ (.tail _ (.head _))))).trans rfl) rfl ?_ | refine J.load1 Ty.a3 rfl (fun w hw => (cell_of (hw.2.own _ (.tail _ (.tail _ (.tail _ (.head _)))))).trans rfl) rfl ?_ | refine J.load1 Ty.a3 rfl (fun w hw => (cell_of (hw.2.own _ (.tail _ (.tail _ (.tail _ (.tail _ (.head _))))))).trans rfl) rfl ?_ | refine J.load1 Ty.a3 rfl (fun w hw => (cell_of (hw.2.own _ (List.mem_append_right _ (.head _)))).trans rfl) rfl ?_ | refine J.load1 Ty.a3 rfl (fun w hw => (cell_of (hw.2.own _ (List.mem_append_right _ (.tail _ (.head _))))).trans rfl) rfl ?_ | refine J.load1 Ty.a3 rfl (fun w hw => (cell_of (hw.2.own _ (List.mem_append_right _ (.tail _ (.tail _ (.head _)))))).trans rfl) rfl ?_ | refine J.load1 Ty.a3 rfl (fun w hw => (cell_of (hw.2.own _ (List.mem_append_right _ (.tail _ (.tail _ (.tail _ (.head _))))))).trans rfl) rfl ?_ | refine J.load1 Ty.a3 rfl (fun w hw => (cell_of (hw.2.own _ (List.mem_append_right _ (.tail _ (.tail _ (.tail _ (.tail _ (.head _)))))))).trans rfl) rfl ?_)
                  refine J.nil (JX.fin rfl (fun w hw => ⟨rfl, (by rw [hw.1]; exact Below.refl _ _)⟩))
                · skip
                  refine Fin.cons (fun v14_7 => ?_)
                  refine Fin.nil ?_
                  refine J.prE (fun h => ?_); subst h
                  refine J.addN rfl rfl (by omega) (by omega) rfl ?_
                  refine J.nil (JX.fin rfl (fun w hw => ⟨rfl, (by rw [hw.1]; exact Below.refl _ _)⟩))
                · skip
                  refine Fin.nil ?_
                  refine J.move rfl rfl ?_
                  refine J.nil (JX.fin rfl (fun w hw => ⟨rfl, (by rw [hw.1]; exact Below.refl _ _)⟩))
                · skip
                  refine Fin.cons (fun v14_8 => ?_)
                  refine Fin.cons (fun v14_9 => ?_)
                  refine Fin.nil ?_
                  refine J.prE (fun h => ?_); subst h
                  refine J.prE (fun h => ?_); subst h
                  refine J.addN rfl rfl (by omega) (by omega) rfl ?_
                  refine J.name 75 rfl (show Value.int .i64 _ = .int .i64 ((2 + used + i : Nat) : Int) by congr 1) ?_
                  refine J.nil (JX.fin rfl (fun w hw => ⟨rfl, (by rw [hw.1]; exact Below.refl _ _)⟩))
                · skip
                  refine Fin.nil ?_
                  refine J.move rfl rfl ?_
                  refine J.nil (JX.fin rfl (fun w hw => ⟨rfl, (by rw [hw.1]; exact Below.refl _ _)⟩))
              case htail =>
                refine Fin.cons (fun v14_0 => ?_)
                refine Fin.cons (fun v14_1 => ?_)
                refine Fin.cons (fun v14_2 => ?_)
                refine Fin.cons (fun v14_3 => ?_)
                refine Fin.cons (fun v14_4 => ?_)
                refine Fin.cons (fun v14_5 => ?_)
                refine Fin.cons (fun v14_6 => ?_)
                refine Fin.cons (fun v14_7 => ?_)
                refine Fin.cons (fun v14_8 => ?_)
                refine Fin.cons (fun v14_9 => ?_)
                refine Fin.cons (fun v14_10 => ?_)
                refine Fin.cons (fun v14_11 => ?_)
                refine Fin.nil ?_
                refine J.prE (fun h => ?_); subst h
                refine J.prE (fun h => ?_); subst h
                refine J.prE (fun h => ?_); subst h
                refine J.prE (fun h => ?_); subst h
                refine J.prE (fun h => ?_); subst h
                refine J.prE (fun h => ?_); subst h
                refine J.prE (fun h => ?_); subst h
                refine J.prE (fun h => ?_); subst h
                refine J.prE (fun h => ?_); subst h
                refine J.prE (fun h => ?_); subst h
                refine J.prE (fun h => ?_); subst h
                refine J.prE (fun h => ?_); subst h
                refine J.perm ([(d, dkO s n (p1) (k1)), (s, dkS (B1))] ++ ((lb, cb [.pointer (some ⟨d, 0, none⟩), .int .u64 ((gen : Nat) : Int), .int .i64 ((used : Nat) : Int), .int .i64 ((cnt_ : Nat) : Int), .bool false] 80) :: lp48)) (by (refine perm_cnt (fun _ => ?_)); simp only [cntB_append, cntB_cons, cntB_nil, Nat.add_zero, Nat.zero_add]; try ac_rfl) ?_
                refine J.callT (l1 := [(d, dkO s n (p1) (k1)), (s, dkS (B1))]) (L := [(d, dkO s n (if 0 < p1 then p1 - 1 else p1) (k1 + 1)), (s, dkS (put B1 (2 + used + i) (piece (payload rec_) i)))]) Ty.bd17 rfl rfl (fun w1 hw => write_done d s n B1 (piece (payload rec_) i) p1 k1 (2 + used + i) (if c48 = 64 * i then a48 else a48.map (·.add (64 * i * 1))) (min (64 * (i + 1)) (2 + rec_.length) - 64 * i) (c48 - 64 * i) w1 hw.owns hB1 hk10 (by omega) (by omega) (by omega) (by rw [piece_length, payload_length]) (by
                    have h1 := (hv48.row (l := [(lb, cb [.pointer (some ⟨d, 0, none⟩), .int .u64 ((gen : Nat) : Int), .int .i64 ((used : Nat) : Int), .int .i64 ((cnt_ : Nat) : Int), .bool false] 80), (d, dkO s n (p1) (k1)), (s, dkS (B1))]) (hw.perm (by (refine perm_cnt (fun _ => ?_)); simp only [cntB_append, cntB_cons, cntB_nil, Nat.add_zero, Nat.zero_add]; try ac_rfl))).slice (sz := 1) (i := 64 * i) (j := min (64 * (i + 1)) (2 + rec_.length)) (by rw [List.length_map, payload_length, Nat.mul_one]) (by omega) (by omega)
                    have h2 : ((payload rec_).drop (64 * i)).take (min (64 * (i + 1)) (2 + rec_.length) - 64 * i) = piece (payload rec_) i := by
                      have h3 : (payload rec_).length = 2 + rec_.length := payload_length rec_
                      rw [piece]
                      by_cases h4 : 64 * (i + 1) ≤ 2 + rec_.length
                      · congr 1; omega
                      · rw [List.take_of_length_le (by simp; omega), List.take_of_length_le (by simp; omega)]
                    have h5 : List.take ((min (64 * (i + 1)) (2 + rec_.length) - 64 * i) * 1) (List.drop (64 * i * 1) ((payload rec_).map u8)) = (piece (payload rec_) i).map u8 := by
                      rw [Nat.mul_one, Nat.mul_one, ← List.map_drop, ← List.map_take, h2]
                    rw [h5] at h1
                    exact h1) (vec_off (l1 := [(d, dkO s n (p1) (k1)), (s, dkS (B1))]) (l := [(lb, cb [.pointer (some ⟨d, 0, none⟩), .int .u64 ((gen : Nat) : Int), .int .i64 ((used : Nat) : Int), .int .i64 ((cnt_ : Nat) : Int), .bool false] 80)]) hv48 (hw.perm (by (refine perm_cnt (fun _ => ?_)); simp only [cntB_append, cntB_cons, cntB_nil, Nat.add_zero, Nat.zero_add]; try ac_rfl)) _ _ _ _) hp1 hp0) ?_
                refine J.perm ((lb, cb [.pointer (some ⟨d, 0, none⟩), .int .u64 ((gen : Nat) : Int), .int .i64 ((used : Nat) : Int), .int .i64 ((cnt_ : Nat) : Int), .bool false] 80) :: (d, dkO s n (if 0 < p1 then p1 - 1 else p1) (k1 + 1)) :: (s, dkS (put B1 (2 + used + i) (piece (payload rec_) i))) :: lp48) (by (refine perm_cnt (fun _ => ?_)); simp only [cntB_append, cntB_cons, cntB_nil, Nat.add_zero, Nat.zero_add]; try ac_rfl) ?_
                refine J.assign rfl rfl ?_
                refine J.nil ?_
                refine JX.thenN (hK17 _ _ ?_)
                refine JC.seq (fun K21 hK21 => ?_)
                refine JC.region ?_
                refine J.move rfl rfl ?_
                refine J.bin rfl rfl rfl rfl ?_
                refine J.nil ?_
                refine JX.thenN (hK21 _ _ ?_)
                first | refine JC.condF rfl ?_ | refine JC.cond rfl (fun h => by first | (exfalso; simp at h; omega) | (simp at h)) (fun _ => ?_)
                refine JC.skip ?_
                refine JX.blockN ?_
                refine JX.thenN (hK14 _ _ ?_)
                refine JC.region ?_
                (first | refine J.addN rfl rfl (by omega) (by omega) rfl ?_ | refine J.bin rfl rfl rfl rfl ?_)
                refine J.move rfl rfl ?_
                refine J.nil ?_
                refine JX.thenN ?_
                refine JX.again (i + 1, put B1 (2 + used + i) (piece (payload rec_) i), if 0 < p1 then p1 - 1 else p1, k1 + 1) ?_ ?_ ?_
                · simp only; omega
                · exact ⟨rfl, rfl, rfl, rfl, rfl, trivial⟩
                · exact fun w1 hw => ⟨⟨hlt, put_length hB1 (by omega) (by rw [piece_length]; omega), by simp only; omega, by simp only; omega, by simp only; split <;> omega, by simp only; rw [hdw, plan_at hlt, dws_cons hp0]; rfl⟩, hw⟩
          · skip
            obtain rfl : i = needN rec_.length := by simp at h4; omega
            refine JC.exit ?_
            refine JX.thenE ?_
            refine JX.thenE ?_
            refine JX.blockE ?_
            refine JX.thenN (hK10 _ _ ?_)
            refine JC.seq (fun K22 hK22 => ?_)
            apply JC.drawL 20 [Eqv _, Eqv _, Eqv _, Eqv _, Eqv _, Eqv _, Eqv _, Eqv _, Eqv _, Eqv _, Eqv _, Eqv _, Eqv _, Eqv _, Eqv _, Eqv _, Eqv _, Eqv _, Eqv _, Eqv _] Ty.mixed rfl rfl rfl (by kernel_rfl) rfl rfl (fun w w' hw hb => hw.step hb) ⟨fun _ _ _ h _ => h, fun _ _ _ h _ => h, fun _ _ _ h _ => h, fun _ _ _ h _ => h, fun _ _ _ h _ => h, fun _ _ _ h _ => h, fun _ _ _ h _ => h, fun _ _ _ h _ => h, fun _ _ _ h _ => h, fun _ _ _ h _ => h, fun _ _ _ h _ => h, fun _ _ _ h _ => h, fun _ _ _ h _ => h, fun _ _ _ h _ => h, fun _ _ _ h _ => h, fun _ _ _ h _ => h, fun _ _ _ h _ => h, fun _ _ _ h _ => h, fun _ _ _ h _ => h, fun _ _ _ h _ => h, trivial⟩ ?hstep ?htail
            case hstep =>
              refine ⟨fun wi => ?_, fun wi => ?_, fun wi => ?_, fun wi => ?_, fun wi => ?_, fun wi => ?_, fun wi => ?_, fun wi => ?_, fun wi => ?_, fun wi => ?_, fun wi => ?_, fun wi => ?_, fun wi => ?_, fun wi => ?_, fun wi => ?_, fun wi => ?_, fun wi => ?_, fun wi => ?_, fun wi => ?_, fun wi => ?_, trivial⟩
              · skip
                refine Fin.nil ?_
                refine J.move rfl rfl ?_
                refine J.nil (JX.fin rfl (fun w hw => ⟨rfl, (by rw [hw.1]; exact Below.refl _ _)⟩))
              · skip
                refine Fin.cons (fun v19_0 => ?_)
                refine Fin.nil ?_
                refine J.prE (fun h => ?_); subst h
                refine J.nilCheck rfl rfl ?_
                refine J.nil (JX.fin rfl (fun w hw => ⟨rfl, (by rw [hw.1]; exact Below.refl _ _)⟩))
              · skip
                refine Fin.cons (fun v19_1 => ?_)
                refine Fin.nil ?_
                refine J.prE (fun h => ?_); subst h
                refine J.fieldAddr Ty.fd80_1 rfl rfl ?_
                refine J.nil (JX.fin rfl (fun w hw => ⟨rfl, (by rw [hw.1]; exact Below.refl _ _)⟩))
              · skip
                refine Fin.cons (fun v19_2 => ?_)
                refine Fin.nil ?_
                refine J.prE (fun h => ?_); subst h
                (first | refine J.load1 Ty.a65 rfl (fun w hw => (cell_of (hw.2.own _ (.head _))).trans rfl) rfl ?_ | refine J.load1 Ty.a65 rfl (fun w hw => (cell_of (hw.2.own _ (.tail _ (.head _)))).trans rfl) rfl ?_ | refine J.load1 Ty.a65 rfl (fun w hw => (cell_of (hw.2.own _ (.tail _ (.tail _ (.head _))))).trans rfl) rfl ?_ | refine J.load1 Ty.a65 rfl (fun w hw => (cell_of (hw.2.own _ (.tail _ (.tail _ (.tail _ (.head _)))))).trans rfl) rfl ?_ | refine J.load1 Ty.a65 rfl (fun w hw => (cell_of (hw.2.own _ (.tail _ (.tail _ (.tail _ (.tail _ (.head _))))))).trans rfl) rfl ?_ | refine J.load1 Ty.a65 rfl (fun w hw => (cell_of (hw.2.own _ (List.mem_append_right _ (.head _)))).trans rfl) rfl ?_ | refine J.load1 Ty.a65 rfl (fun w hw => (cell_of (hw.2.own _ (List.mem_append_right _ (.tail _ (.head _))))).trans rfl) rfl ?_ | refine J.load1 Ty.a65 rfl (fun w hw => (cell_of (hw.2.own _ (List.mem_append_right _ (.tail _ (.tail _ (.head _)))))).trans rfl) rfl ?_ | refine J.load1 Ty.a65 rfl (fun w hw => (cell_of (hw.2.own _ (List.mem_append_right _ (.tail _ (.tail _ (.tail _ (.head _))))))).trans rfl) rfl ?_ | refine J.load1 Ty.a65 rfl (fun w hw => (cell_of (hw.2.own _ (List.mem_append_right _ (.tail _ (.tail _ (.tail _ (.tail _ (.head _)))))))).trans rfl) rfl ?_)
                refine J.nil (JX.fin rfl (fun w hw => ⟨rfl, (by rw [hw.1]; exact Below.refl _ _)⟩))
              · skip
                refine Fin.cons (fun v19_3 => ?_)
                refine Fin.nil ?_
                refine J.prE (fun h => ?_); subst h
                refine J.bin rfl rfl rfl rfl ?_
                refine J.name 89 rfl (congrArg (Value.int .u64) (show _ = ((gen + 1 : Nat) : Int) from wrap_u64 (by omega) (by omega))) ?_
                refine J.nil (JX.fin rfl (fun w hw => ⟨rfl, (by rw [hw.1]; exact Below.refl _ _)⟩))
              · skip
                refine Fin.nil ?_
                refine J.move rfl rfl ?_
                refine J.nil (JX.fin rfl (fun w hw => ⟨rfl, (by rw [hw.1]; exact Below.refl _ _)⟩))
              · skip
                refine Fin.cons (fun v19_5 => ?_)
                refine Fin.nil ?_
                refine J.prE (fun h => ?_); subst h
                refine J.nilCheck rfl rfl ?_
                refine J.nil (JX.fin rfl (fun w hw => ⟨rfl, (by rw [hw.1]; exact Below.refl _ _)⟩))
              · skip
                refine Fin.cons (fun v19_6 => ?_)
                refine Fin.nil ?_
                refine J.prE (fun h => ?_); subst h
                refine J.fieldAddr Ty.fd80_2 rfl rfl ?_
                refine J.nil (JX.fin rfl (fun w hw => ⟨rfl, (by rw [hw.1]; exact Below.refl _ _)⟩))
              · skip
                refine Fin.cons (fun v19_7 => ?_)
                refine Fin.nil ?_
                refine J.prE (fun h => ?_); subst h
                (first | refine J.load1 Ty.a3 rfl (fun w hw => (cell_of (hw.2.own _ (.head _))).trans rfl) rfl ?_ | refine J.load1 Ty.a3 rfl (fun w hw => (cell_of (hw.2.own _ (.tail _ (.head _)))).trans rfl) rfl ?_ | refine J.load1 Ty.a3 rfl (fun w hw => (cell_of (hw.2.own _ (.tail _ (.tail _ (.head _))))).trans rfl) rfl ?_ | refine J.load1 Ty.a3 rfl (fun w hw => (cell_of (hw.2.own _ (.tail _ (.tail _ (.tail _ (.head _)))))).trans rfl) rfl ?_ | refine J.load1 Ty.a3 rfl (fun w hw => (cell_of (hw.2.own _ (.tail _ (.tail _ (.tail _ (.tail _ (.head _))))))).trans rfl) rfl ?_ | refine J.load1 Ty.a3 rfl (fun w hw => (cell_of (hw.2.own _ (List.mem_append_right _ (.head _)))).trans rfl) rfl ?_ | refine J.load1 Ty.a3 rfl (fun w hw => (cell_of (hw.2.own _ (List.mem_append_right _ (.tail _ (.head _))))).trans rfl) rfl ?_ | refine J.load1 Ty.a3 rfl (fun w hw => (cell_of (hw.2.own _ (List.mem_append_right _ (.tail _ (.tail _ (.head _)))))).trans rfl) rfl ?_ | refine J.load1 Ty.a3 rfl (fun w hw => (cell_of (hw.2.own _ (List.mem_append_right _ (.tail _ (.tail _ (.tail _ (.head _))))))).trans rfl) rfl ?_ | refine J.load1 Ty.a3 rfl (fun w hw => (cell_of (hw.2.own _ (List.mem_append_right _ (.tail _ (.tail _ (.tail _ (.tail _ (.head _)))))))).trans rfl) rfl ?_)
                refine J.nil (JX.fin rfl (fun w hw => ⟨rfl, (by rw [hw.1]; exact Below.refl _ _)⟩))
              · skip
                refine Fin.nil ?_
                refine J.move rfl rfl ?_
                refine J.nil (JX.fin rfl (fun w hw => ⟨rfl, (by rw [hw.1]; exact Below.refl _ _)⟩))
              · skip
                refine Fin.cons (fun v19_9 => ?_)
                refine Fin.nil ?_
                refine J.prE (fun h => ?_); subst h
                refine J.lenS rfl Ty.u28 rfl rfl ?_
                refine J.nil (JX.fin rfl (fun w hw => ⟨rfl, (by rw [hw.1]; exact Below.refl _ _)⟩))
              · skip
                refine Fin.cons (fun v19_10 => ?_)
                refine Fin.nil ?_
                refine J.prE (fun h => ?_); subst h
                refine J.callD Ty.bd39 rfl rfl (fun w1 hw => need_spec rec_.length w1 (by omega)) ?_
                refine J.nil (JX.fin rfl (fun w hw => ⟨rfl, hw⟩))
              · skip
                refine Fin.cons (fun v19_8 => ?_)
                refine Fin.cons (fun v19_11 => ?_)
                refine Fin.nil ?_
                refine J.prE (fun h => ?_); subst h
                refine J.prE (fun h => ?_); subst h
                (first | refine J.addN rfl rfl (by omega) (by omega) rfl ?_ | refine J.bin rfl rfl rfl rfl ?_)
                refine J.nil (JX.fin rfl (fun w hw => ⟨rfl, (by rw [hw.1]; exact Below.refl _ _)⟩))
              · skip
                refine Fin.cons (fun v19_12 => ?_)
                refine Fin.nil ?_
                refine J.prE (fun h => ?_); subst h
                refine J.convInt Ty.u3 Ty.u65 rfl rfl ?_
                refine J.name 98 rfl (congrArg (Value.int .u64) (show _ = ((used + needN rec_.length : Nat) : Int) from wrap_u64 (by omega) (by omega))) ?_
                refine J.nil (JX.fin rfl (fun w hw => ⟨rfl, (by rw [hw.1]; exact Below.refl _ _)⟩))
              · skip
                refine Fin.nil ?_
                refine J.move rfl rfl ?_
                refine J.nil (JX.fin rfl (fun w hw => ⟨rfl, (by rw [hw.1]; exact Below.refl _ _)⟩))
              · skip
                refine Fin.cons (fun v19_14 => ?_)
                refine Fin.nil ?_
                refine J.prE (fun h => ?_); subst h
                refine J.nilCheck rfl rfl ?_
                refine J.nil (JX.fin rfl (fun w hw => ⟨rfl, (by rw [hw.1]; exact Below.refl _ _)⟩))
              · skip
                refine Fin.cons (fun v19_15 => ?_)
                refine Fin.nil ?_
                refine J.prE (fun h => ?_); subst h
                refine J.fieldAddr Ty.fd80_3 rfl rfl ?_
                refine J.nil (JX.fin rfl (fun w hw => ⟨rfl, (by rw [hw.1]; exact Below.refl _ _)⟩))
              · skip
                refine Fin.cons (fun v19_16 => ?_)
                refine Fin.nil ?_
                refine J.prE (fun h => ?_); subst h
                (first | refine J.load1 Ty.a3 rfl (fun w hw => (cell_of (hw.2.own _ (.head _))).trans rfl) rfl ?_ | refine J.load1 Ty.a3 rfl (fun w hw => (cell_of (hw.2.own _ (.tail _ (.head _)))).trans rfl) rfl ?_ | refine J.load1 Ty.a3 rfl (fun w hw => (cell_of (hw.2.own _ (.tail _ (.tail _ (.head _))))).trans rfl) rfl ?_ | refine J.load1 Ty.a3 rfl (fun w hw => (cell_of (hw.2.own _ (.tail _ (.tail _ (.tail _ (.head _)))))).trans rfl) rfl ?_ | refine J.load1 Ty.a3 rfl (fun w hw => (cell_of (hw.2.own _ (.tail _ (.tail _ (.tail _ (.tail _ (.head _))))))).trans rfl) rfl ?_ | refine J.load1 Ty.a3 rfl (fun w hw => (cell_of (hw.2.own _ (List.mem_append_right _ (.head _)))).trans rfl) rfl ?_ | refine J.load1 Ty.a3 rfl (fun w hw => (cell_of (hw.2.own _ (List.mem_append_right _ (.tail _ (.head _))))).trans rfl) rfl ?_ | refine J.load1 Ty.a3 rfl (fun w hw => (cell_of (hw.2.own _ (List.mem_append_right _ (.tail _ (.tail _ (.head _)))))).trans rfl) rfl ?_ | refine J.load1 Ty.a3 rfl (fun w hw => (cell_of (hw.2.own _ (List.mem_append_right _ (.tail _ (.tail _ (.tail _ (.head _))))))).trans rfl) rfl ?_ | refine J.load1 Ty.a3 rfl (fun w hw => (cell_of (hw.2.own _ (List.mem_append_right _ (.tail _ (.tail _ (.tail _ (.tail _ (.head _)))))))).trans rfl) rfl ?_)
                refine J.nil (JX.fin rfl (fun w hw => ⟨rfl, (by rw [hw.1]; exact Below.refl _ _)⟩))
              · skip
                refine Fin.cons (fun v19_17 => ?_)
                refine Fin.nil ?_
                refine J.prE (fun h => ?_); subst h
                (first | refine J.addN rfl rfl (by omega) (by omega) rfl ?_ | refine J.bin rfl rfl rfl rfl ?_)
                refine J.nil (JX.fin rfl (fun w hw => ⟨rfl, (by rw [hw.1]; exact Below.refl _ _)⟩))
              · skip
                refine Fin.cons (fun v19_18 => ?_)
                refine Fin.nil ?_
                refine J.prE (fun h => ?_); subst h
                refine J.convInt Ty.u3 Ty.u65 rfl rfl ?_
                refine J.name 104 rfl (congrArg (Value.int .u64) (show _ = ((cnt_ + 1 : Nat) : Int) from wrap_u64 (by omega) (by omega))) ?_
                refine J.nil (JX.fin rfl (fun w hw => ⟨rfl, (by rw [hw.1]; exact Below.refl _ _)⟩))
            case htail =>
              refine Fin.cons (fun v19_0 => ?_)
              refine Fin.cons (fun v19_1 => ?_)
              refine Fin.cons (fun v19_2 => ?_)
              refine Fin.cons (fun v19_3 => ?_)
              refine Fin.cons (fun v19_4 => ?_)
              refine Fin.cons (fun v19_5 => ?_)
              refine Fin.cons (fun v19_6 => ?_)
              refine Fin.cons (fun v19_7 => ?_)
              refine Fin.cons (fun v19_8 => ?_)
              refine Fin.cons (fun v19_9 => ?_)
              refine Fin.cons (fun v19_10 => ?_)
              refine Fin.cons (fun v19_11 => ?_)
              refine Fin.cons (fun v19_12 => ?_)
              refine Fin.cons (fun v19_13 => ?_)
              refine Fin.cons (fun v19_14 => ?_)
              refine Fin.cons (fun v19_15 => ?_)
              refine Fin.cons (fun v19_16 => ?_)
              refine Fin.cons (fun v19_17 => ?_)
              refine Fin.cons (fun v19_18 => ?_)
              refine Fin.cons (fun v19_19 => ?_)
              refine Fin.nil ?_
              refine J.prE (fun h => ?_); subst h
              refine J.prE (fun h => ?_); subst h
              refine J.prE (fun h => ?_); subst h
              refine J.prE (fun h => ?_); subst h
              refine J.prE (fun h => ?_); subst h
              refine J.prE (fun h => ?_); subst h
              refine J.prE (fun h => ?_); subst h
              refine J.prE (fun h => ?_); subst h
              refine J.prE (fun h => ?_); subst h
              refine J.prE (fun h => ?_); subst h
              refine J.prE (fun h => ?_); subst h
              refine J.prE (fun h => ?_); subst h
              refine J.prE (fun h => ?_); subst h
              refine J.prE (fun h => ?_); subst h
              refine J.prE (fun h => ?_); subst h
              refine J.prE (fun h => ?_); subst h
              refine J.prE (fun h => ?_); subst h
              refine J.prE (fun h => ?_); subst h
              refine J.prE (fun h => ?_); subst h
              refine J.prE (fun h => ?_); subst h
              refine J.buildSl Ty.el84 Ty.s65 Ty.z65 rfl rfl rfl rfl rfl rfl rfl (fun b105 => ?_)
              refine J.perm ([] ++ ((b105, cb [.int .u64 ((gen + 1 : Nat) : Int), .int .u64 ((used + needN rec_.length : Nat) : Int), .int .u64 ((cnt_ + 1 : Nat) : Int)] 65) :: (lb, cb [.pointer (some ⟨d, 0, none⟩), .int .u64 ((gen : Nat) : Int), .int .i64 ((used : Nat) : Int), .int .i64 ((cnt_ : Nat) : Int), .bool false] 80) :: (d, dkO s n (p1) (k1)) :: (s, dkS (B1)) :: lp48)) (.refl _) ?_
              refine J.callS (l1 := []) (l := (b105, cb [.int .u64 ((gen + 1 : Nat) : Int), .int .u64 ((used + needN rec_.length : Nat) : Int), .int .u64 ((cnt_ + 1 : Nat) : Int)] 65) :: (lb, cb [.pointer (some ⟨d, 0, none⟩), .int .u64 ((gen : Nat) : Int), .int .i64 ((used : Nat) : Int), .int .i64 ((cnt_ : Nat) : Int), .bool false] 80) :: (d, dkO s n (p1) (k1)) :: (s, dkS (B1)) :: lp48) Ty.bd40 rfl rfl (fun w1 hw => laid_spec _ [gen + 1, used + needN rec_.length, cnt_ + 1] w1 (Row.own (cs := [.int .u64 ((gen + 1 : Nat) : Int), .int .u64 ((used + needN rec_.length : Nat) : Int), .int .u64 ((cnt_ + 1 : Nat) : Int)]) (tb := 65) (fr := (0, 0)) hw (.head _) rfl (Nat.le_refl _)) (by simp)) (fun x hv106 => ?_)
              obtain ⟨v106, lp106⟩ := x
              simp only at hv106 ⊢
              obtain ⟨a106, c106, rfl, hc106⟩ := hv106.form
              refine J.perm ((lb, cb [.pointer (some ⟨d, 0, none⟩), .int .u64 ((gen : Nat) : Int), .int .i64 ((used : Nat) : Int), .int .i64 ((cnt_ : Nat) : Int), .bool false] 80) :: (d, dkO s n (p1) (k1)) :: (s, dkS (B1)) :: (lp106 ++ (b105, cb [.int .u64 ((gen + 1 : Nat) : Int), .int .u64 ((used + needN rec_.length : Nat) : Int), .int .u64 ((cnt_ + 1 : Nat) : Int)] 65) :: lp48)) (by (refine perm_cnt (fun _ => ?_)); simp only [cntB_append, cntB_cons, cntB_nil, Nat.add_zero, Nat.zero_add]; try ac_rfl) ?_
              refine J.assign rfl rfl ?_
              refine J.nil ?_
              refine JX.thenN (hK22 _ _ ?_)
              refine JC.seq (fun K23 hK23 => ?_)
              refine JC.seq (fun K24 hK24 => ?_)
              by_cases hp0 : p1 = 0
              · skip
                subst hp0
                have happ := appendP_torn (n := n) (q := ⟨gen, used, cnt_, recs⟩) (σ := ⟨B, p, k⟩) hlong hfull (hdw.trans (by rw [plan_last]; exact dws_cons_torn))
                apply JC.drawL 12 [Eqv _, Eqv _, Eqv _, Eqv _, Eqv _, Eqv _, Eqv _, Eqv _, Eqv _, Eqv _, Eqv _, Eqv _] Ty.mixed rfl rfl rfl (by kernel_rfl) rfl rfl (fun w w' hw hb => hw.step hb) ⟨fun _ _ _ h _ => h, fun _ _ _ h _ => h, fun _ _ _ h _ => h, fun _ _ _ h _ => h, fun _ _ _ h _ => h, fun _ _ _ h _ => h, fun _ _ _ h _ => h, fun _ _ _ h _ => h, fun _ _ _ h _ => h, fun _ _ _ h _ => h, fun _ _ _ h _ => h, fun _ _ _ h _ => h, trivial⟩ ?hstep ?htail
                case hstep =>
                  refine ⟨fun wi => ?_, fun wi => ?_, fun wi => ?_, fun wi => ?_, fun wi => ?_, fun wi => ?_, fun wi => ?_, fun wi => ?_, fun wi => ?_, fun wi => ?_, fun wi => ?_, fun wi => ?_, trivial⟩
                  · skip
                    refine Fin.nil ?_
                    refine J.move rfl rfl ?_
                    refine J.nil (JX.fin rfl (fun w hw => ⟨rfl, (by rw [hw.1]; exact Below.refl _ _)⟩))
                  · skip
                    refine Fin.cons (fun v20_0 => ?_)
                    refine Fin.nil ?_
                    refine J.prE (fun h => ?_); subst h
                    refine J.nilCheck rfl rfl ?_
                    refine J.nil (JX.fin rfl (fun w hw => ⟨rfl, (by rw [hw.1]; exact Below.refl _ _)⟩))
                  · skip
                    refine Fin.cons (fun v20_1 => ?_)
                    refine Fin.nil ?_
                    refine J.prE (fun h => ?_); subst h
                    refine J.fieldAddr Ty.fd80_0 rfl rfl ?_
                    refine J.nil (JX.fin rfl (fun w hw => ⟨rfl, (by rw [hw.1]; exact Below.refl _ _)⟩))
                  · skip
                    refine Fin.cons (fun v20_2 => ?_)
                    refine Fin.nil ?_
                    refine J.prE (fun h => ?_); subst h
                    (first | refine J.load1 Ty.a23 rfl (fun w hw => (cell_of (hw.2.own _ (.head _))).trans rfl) rfl ?_ | refine J.load1 Ty.a23 rfl (fun w hw => (cell_of (hw.2.own _ (.tail _ (.head _)))).trans rfl) rfl ?_ | refine J.load1 Ty.a23 rfl (fun w hw => (cell_of (hw.2.own _ (.tail _ (.tail _ (.head _))))).trans rfl) rfl ?_ | refine J.load1 Ty.a23 rfl (fun w hw => (cell_of (hw.2.own _ (.tail _ (.tail _ (.tail _ (.head _)))))).trans rfl) rfl ?_ | refine J.load1 Ty.a23 rfl (fun w hw => (cell_of (hw.2.own _ (.tail _ (.tail _ (.tail _ (.tail _ (.head _))))))).trans rfl) rfl ?_ | refine J.load1 Ty.a23 rfl (fun w hw => (cell_of (hw.2.own _ (List.mem_append_right _ (.head _)))).trans rfl) rfl ?_ | refine J.load1 Ty.a23 rfl (fun w hw => (cell_of (hw.2.own _ (List.mem_append_right _ (.tail _ (.head _))))).trans rfl) rfl ?_ | refine J.load1 Ty.a23 rfl (fun w hw => (cell_of (hw.2.own _ (List.mem_append_right _ (.tail _ (.tail _ (.head _)))))).trans rfl) rfl ?_ | refine J.load1 Ty.a23 rfl (fun w hw => (cell_of (hw.2.own _ (List.mem_append_right _ (.tail _ (.tail _ (.tail _ (.head _))))))).trans rfl) rfl ?_ | refine J.load1 Ty.a23 rfl (fun w hw => (cell_of (hw.2.own _ (List.mem_append_right _ (.tail _ (.tail _ (.tail _ (.tail _ (.head _)))))))).trans rfl) rfl ?_)
                    refine J.nil (JX.fin rfl (fun w hw => ⟨rfl, (by rw [hw.1]; exact Below.refl _ _)⟩))
                  · skip
                    refine Fin.nil ?_
                    refine J.move rfl rfl ?_
                    refine J.nil (JX.fin rfl (fun w hw => ⟨rfl, (by rw [hw.1]; exact Below.refl _ _)⟩))
                  · skip
                    refine Fin.cons (fun v20_4 => ?_)
                    refine Fin.nil ?_
                    refine J.prE (fun h => ?_); subst h
                    refine J.nilCheck rfl rfl ?_
                    refine J.nil (JX.fin rfl (fun w hw => ⟨rfl, (by rw [hw.1]; exact Below.refl _ _)⟩))
                  · skip
                    refine Fin.cons (fun v20_5 => ?_)
                    refine Fin.nil ?_
                    refine J.prE (fun h => ?_); subst h
                    refine J.fieldAddr Ty.fd80_1 rfl rfl ?_
                    refine J.nil (JX.fin rfl (fun w hw => ⟨rfl, (by rw [hw.1]; exact Below.refl _ _)⟩))
                  · skip
                    refine Fin.cons (fun v20_6 => ?_)
                    refine Fin.nil ?_
                    refine J.prE (fun h => ?_); subst h
                    (first | refine J.load1 Ty.a65 rfl (fun w hw => (cell_of (hw.2.own _ (.head _))).trans rfl) rfl ?_ | refine J.load1 Ty.a65 rfl (fun w hw => (cell_of (hw.2.own _ (.tail _ (.head _)))).trans rfl) rfl ?_ | refine J.load1 Ty.a65 rfl (fun w hw => (cell_of (hw.2.own _ (.tail _ (.tail _ (.head _))))).trans rfl) rfl ?_ | refine J.load1 Ty.a65 rfl (fun w hw => (cell_of (hw.2.own _ (.tail _ (.tail _ (.tail _ (.head _)))))).trans rfl) rfl ?_ | refine J.load1 Ty.a65 rfl (fun w hw => (cell_of (hw.2.own _ (.tail _ (.tail _ (.tail _ (.tail _ (.head _))))))).trans rfl) rfl ?_ | refine J.load1 Ty.a65 rfl (fun w hw => (cell_of (hw.2.own _ (List.mem_append_right _ (.head _)))).trans rfl) rfl ?_ | refine J.load1 Ty.a65 rfl (fun w hw => (cell_of (hw.2.own _ (List.mem_append_right _ (.tail _ (.head _))))).trans rfl) rfl ?_ | refine J.load1 Ty.a65 rfl (fun w hw => (cell_of (hw.2.own _ (List.mem_append_right _ (.tail _ (.tail _ (.head _)))))).trans rfl) rfl ?_ | refine J.load1 Ty.a65 rfl (fun w hw => (cell_of (hw.2.own _ (List.mem_append_right _ (.tail _ (.tail _ (.tail _ (.head _))))))).trans rfl) rfl ?_ | refine J.load1 Ty.a65 rfl (fun w hw => (cell_of (hw.2.own _ (List.mem_append_right _ (.tail _ (.tail _ (.tail _ (.tail _ (.head _)))))))).trans rfl) rfl ?_)
                    refine J.nil (JX.fin rfl (fun w hw => ⟨rfl, (by rw [hw.1]; exact Below.refl _ _)⟩))
                  · skip
                    refine Fin.cons (fun v20_7 => ?_)
                    refine Fin.nil ?_
                    refine J.prE (fun h => ?_); subst h
                    refine J.bin rfl rfl rfl rfl ?_
                    refine J.name 115 rfl (congrArg (Value.int .u64) (show _ = ((gen + 1 : Nat) : Int) from wrap_u64 (by omega) (by omega))) ?_
                    refine J.nil (JX.fin rfl (fun w hw => ⟨rfl, (by rw [hw.1]; exact Below.refl _ _)⟩))
                  · skip
                    refine Fin.cons (fun v20_8 => ?_)
                    refine Fin.nil ?_
                    refine J.prE (fun h => ?_); subst h
                    refine J.bin rfl rfl rfl rfl ?_
                    refine J.name 116 rfl (congrArg (Value.int .u64) (show _ = (((gen + 1) % 2 : Nat) : Int) from rfl)) ?_
                    refine J.nil (JX.fin rfl (fun w hw => ⟨rfl, (by rw [hw.1]; exact Below.refl _ _)⟩))
                  · skip
                    refine Fin.cons (fun v20_9 => ?_)
                    refine Fin.nil ?_
                    refine J.prE (fun h => ?_); subst h
                    refine J.convInt Ty.u65 Ty.u3 rfl rfl ?_
                    refine J.name 117 rfl (congrArg (Value.int .i64) (show _ = (((gen + 1) % 2 : Nat) : Int) from wrap_i64 (by omega) (by omega))) ?_
                    refine J.nil (JX.fin rfl (fun w hw => ⟨rfl, (by rw [hw.1]; exact Below.refl _ _)⟩))
                  · skip
                    refine Fin.nil ?_
                    refine J.move rfl rfl ?_
                    refine J.nil (JX.fin rfl (fun w hw => ⟨rfl, (by rw [hw.1]; exact Below.refl _ _)⟩))
                case htail =>
                  refine Fin.cons (fun v20_0 => ?_)
                  refine Fin.cons (fun v20_1 => ?_)
                  refine Fin.cons (fun v20_2 => ?_)
                  refine Fin.cons (fun v20_3 => ?_)
                  refine Fin.cons (fun v20_4 => ?_)
                  refine Fin.cons (fun v20_5 => ?_)
                  refine Fin.cons (fun v20_6 => ?_)
                  refine Fin.cons (fun v20_7 => ?_)
                  refine Fin.cons (fun v20_8 => ?_)
                  refine Fin.cons (fun v20_9 => ?_)
                  refine Fin.cons (fun v20_10 => ?_)
                  refine Fin.cons (fun v20_11 => ?_)
                  refine Fin.nil ?_
                  refine J.prE (fun h => ?_); subst h
                  refine J.prE (fun h => ?_); subst h
                  refine J.prE (fun h => ?_); subst h
                  refine J.prE (fun h => ?_); subst h
                  refine J.prE (fun h => ?_); subst h
                  refine J.prE (fun h => ?_); subst h
                  refine J.prE (fun h => ?_); subst h
                  refine J.prE (fun h => ?_); subst h
                  refine J.prE (fun h => ?_); subst h
                  refine J.prE (fun h => ?_); subst h
                  refine J.prE (fun h => ?_); subst h
                  refine J.prE (fun h => ?_); subst h
                  refine J.perm ([(d, dkO s n (0) (k1)), (s, dkS (B1))] ++ ((lb, cb [.pointer (some ⟨d, 0, none⟩), .int .u64 ((gen : Nat) : Int), .int .i64 ((used : Nat) : Int), .int .i64 ((cnt_ : Nat) : Int), .bool false] 80) :: (lp106 ++ (b105, cb [.int .u64 ((gen + 1 : Nat) : Int), .int .u64 ((used + needN rec_.length : Nat) : Int), .int .u64 ((cnt_ + 1 : Nat) : Int)] 65) :: lp48))) (by (refine perm_cnt (fun _ => ?_)); simp only [cntB_append, cntB_cons, cntB_nil, Nat.add_zero, Nat.zero_add]; try ac_rfl) ?_
                  refine J.callB (fun w1 w2 hw hb => hw.step hb) Ty.bd17 rfl rfl (fun w1 hw => write_down d s n k1 w1 (St.owns (l1 := [(d, dkO s n (0) (k1)), (s, dkS (B1))]) hw) (((gen + 1) % 2 : Nat) : Int) _ 24 c106 (by omega) (by omega) (by omega)) ?_
                  refine J.perm ((lb, cb [.pointer (some ⟨d, 0, none⟩), .int .u64 ((gen : Nat) : Int), .int .i64 ((used : Nat) : Int), .int .i64 ((cnt_ : Nat) : Int), .bool false] 80) :: (d, dkO s n (0) (k1)) :: (s, dkS (B1)) :: (lp106 ++ (b105, cb [.int .u64 ((gen + 1 : Nat) : Int), .int .u64 ((used + needN rec_.length : Nat) : Int), .int .u64 ((cnt_ + 1 : Nat) : Int)] 65) :: lp48)) (by (refine perm_cnt (fun _ => ?_)); simp only [cntB_append, cntB_cons, cntB_nil, Nat.add_zero, Nat.zero_add]; try ac_rfl) ?_
                  refine J.assign rfl rfl ?_
                  refine J.nil ?_
                  refine JX.thenN (hK24 _ _ ?_)
                  refine JC.seq (fun K25 hK25 => ?_)
                  refine JC.region ?_
                  refine J.move rfl rfl ?_
                  refine J.bin rfl rfl rfl rfl ?_
                  refine J.nil ?_
                  refine JX.thenN (hK25 _ _ ?_)
                  first | refine JC.condT rfl ?_ | refine JC.cond rfl (fun _ => ?_) (fun h => by first | (exfalso; simp at h; omega) | (simp at h))
                  refine JC.seq (fun K26 hK26 => ?_)
                  refine JC.region ?_
                  refine J.move rfl rfl ?_
                  refine J.nilCheck rfl rfl ?_
                  refine J.fieldAddr Ty.fd80_4 rfl rfl ?_
                  (first | refine J.storeO Ty.s4 rfl rfl rfl rfl (by simp [Value.oneCell']) .here (by simp) ?_ | refine J.storeO Ty.s4 rfl rfl rfl rfl (by simp [Value.oneCell']) (.there .here) (by simp) ?_ | refine J.storeO Ty.s4 rfl rfl rfl rfl (by simp [Value.oneCell']) (.there (.there .here)) (by simp) ?_ | refine J.storeO Ty.s4 rfl rfl rfl rfl (by simp [Value.oneCell']) (.there (.there (.there .here))) (by simp) ?_)
                  refine J.nil ?_
                  refine JX.thenN (hK26 _ _ ?_)
                  refine JC.seq (fun K27 hK27 => ?_)
                  refine JC.region ?_
                  refine J.move rfl rfl ?_
                  refine J.assign rfl rfl ?_
                  refine J.nil ?_
                  refine JX.thenN (hK27 _ _ ?_)
                  refine JC.ret ?_
                  refine JX.thenR ?_
                  refine JX.ret1 rfl rfl (fun w1 hw => ?_)
                  rw [happ]
                  first
                  | exact ⟨rfl, hw⟩
                  | exact ⟨rfl, hw.drop (.cons_cons _ (.cons_cons _ (.cons_cons _ (List.nil_sublist _))))⟩
              · skip
                have happ := appendP_ok (n := n) (q := ⟨gen, used, cnt_, recs⟩) (σ := ⟨B, p, k⟩) hlong hfull (hdw.trans (by rw [plan_last, dws_cons hp0]; exact dws_nil))
                apply JC.drawL 12 [Eqv _, Eqv _, Eqv _, Eqv _, Eqv _, Eqv _, Eqv _, Eqv _, Eqv _, Eqv _, Eqv _, Eqv _] Ty.mixed rfl rfl rfl (by kernel_rfl) rfl rfl (fun w w' hw hb => hw.step hb) ⟨fun _ _ _ h _ => h, fun _ _ _ h _ => h, fun _ _ _ h _ => h, fun _ _ _ h _ => h, fun _ _ _ h _ => h, fun _ _ _ h _ => h, fun _ _ _ h _ => h, fun _ _ _ h _ => h, fun _ _ _ h _ => h, fun _ _ _ h _ => h, fun _ _ _ h _ => h, fun _ _ _ h _ => h, trivial⟩ ?hstep ?htail
                case hstep =>
                  refine ⟨fun wi => ?_, fun wi => ?_, fun wi => ?_, fun wi => ?_, fun wi => ?_, fun wi => ?_, fun wi => ?_, fun wi => ?_, fun wi => ?_, fun wi => ?_, fun wi => ?_, fun wi => ?_, trivial⟩
                  · skip
                    refine Fin.nil ?_
                    refine J.move rfl rfl ?_
                    refine J.nil (JX.fin rfl (fun w hw => ⟨rfl, (by rw [hw.1]; exact Below.refl _ _)⟩))
                  · skip
                    refine Fin.cons (fun v20_0 => ?_)
                    refine Fin.nil ?_
                    refine J.prE (fun h => ?_); subst h
                    refine J.nilCheck rfl rfl ?_
                    refine J.nil (JX.fin rfl (fun w hw => ⟨rfl, (by rw [hw.1]; exact Below.refl _ _)⟩))
                  · skip
                    refine Fin.cons (fun v20_1 => ?_)
                    refine Fin.nil ?_
                    refine J.prE (fun h => ?_); subst h
                    refine J.fieldAddr Ty.fd80_0 rfl rfl ?_
                    refine J.nil (JX.fin rfl (fun w hw => ⟨rfl, (by rw [hw.1]; exact Below.refl _ _)⟩))
                  · skip
                    refine Fin.cons (fun v20_2 => ?_)
                    refine Fin.nil ?_
                    refine J.prE (fun h => ?_); subst h
                    (first | refine J.load1 Ty.a23 rfl (fun w hw => (cell_of (hw.2.own _ (.head _))).trans rfl) rfl ?_ | refine J.load1 Ty.a23 rfl (fun w hw => (cell_of (hw.2.own _ (.tail _ (.head _)))).trans rfl) rfl ?_ | refine J.load1 Ty.a23 rfl (fun w hw => (cell_of (hw.2.own _ (.tail _ (.tail _ (.head _))))).trans rfl) rfl ?_ | refine J.load1 Ty.a23 rfl (fun w hw => (cell_of (hw.2.own _ (.tail _ (.tail _ (.tail _ (.head _)))))).trans rfl) rfl ?_ | refine J.load1 Ty.a23 rfl (fun w hw => (cell_of (hw.2.own _ (.tail _ (.tail _ (.tail _ (.tail _ (.head _))))))).trans rfl) rfl ?_ | refine J.load1 Ty.a23 rfl (fun w hw => (cell_of (hw.2.own _ (List.mem_append_right _ (.head _)))).trans rfl) rfl ?_ | refine J.load1 Ty.a23 rfl (fun w hw => (cell_of (hw.2.own _ (List.mem_append_right _ (.tail _ (.head _))))).trans rfl) rfl ?_ | refine J.load1 Ty.a23 rfl (fun w hw => (cell_of (hw.2.own _ (List.mem_append_right _ (.tail _ (.tail _ (.head _)))))).trans rfl) rfl ?_ | refine J.load1 Ty.a23 rfl (fun w hw => (cell_of (hw.2.own _ (List.mem_append_right _ (.tail _ (.tail _ (.tail _ (.head _))))))).trans rfl) rfl ?_ | refine J.load1 Ty.a23 rfl (fun w hw => (cell_of (hw.2.own _ (List.mem_append_right _ (.tail _ (.tail _ (.tail _ (.tail _ (.head _)))))))).trans rfl) rfl ?_)
                    refine J.nil (JX.fin rfl (fun w hw => ⟨rfl, (by rw [hw.1]; exact Below.refl _ _)⟩))
                  · skip
                    refine Fin.nil ?_
                    refine J.move rfl rfl ?_
                    refine J.nil (JX.fin rfl (fun w hw => ⟨rfl, (by rw [hw.1]; exact Below.refl _ _)⟩))
                  · skip
                    refine Fin.cons (fun v20_4 => ?_)
                    refine Fin.nil ?_
                    refine J.prE (fun h => ?_); subst h
                    refine J.nilCheck rfl rfl ?_
                    refine J.nil (JX.fin rfl (fun w hw => ⟨rfl, (by rw [hw.1]; exact Below.refl _ _)⟩))
                  · skip
                    refine Fin.cons (fun v20_5 => ?_)
                    refine Fin.nil ?_
                    refine J.prE (fun h => ?_); subst h
                    refine J.fieldAddr Ty.fd80_1 rfl rfl ?_
                    refine J.nil (JX.fin rfl (fun w hw => ⟨rfl, (by rw [hw.1]; exact Below.refl _ _)⟩))
                  · skip
                    refine Fin.cons (fun v20_6 => ?_)
                    refine Fin.nil ?_
                    refine J.prE (fun h => ?_); subst h
                    (first | refine J.load1 Ty.a65 rfl (fun w hw => (cell_of (hw.2.own _ (.head _))).trans rfl) rfl ?_ | refine J.load1 Ty.a65 rfl (fun w hw => (cell_of (hw.2.own _ (.tail _ (.head _)))).trans rfl) rfl ?_ | refine J.load1 Ty.a65 rfl (fun w hw => (cell_of (hw.2.own _ (.tail _ (.tail _ (.head _))))).trans rfl) rfl ?_ | refine J.load1 Ty.a65 rfl (fun w hw => (cell_of (hw.2.own _ (.tail _ (.tail _ (.tail _ (.head _)))))).trans rfl) rfl ?_ | refine J.load1 Ty.a65 rfl (fun w hw => (cell_of (hw.2.own _ (.tail _ (.tail _ (.tail _ (.tail _ (.head _))))))).trans rfl) rfl ?_ | refine J.load1 Ty.a65 rfl (fun w hw => (cell_of (hw.2.own _ (List.mem_append_right _ (.head _)))).trans rfl) rfl ?_ | refine J.load1 Ty.a65 rfl (fun w hw => (cell_of (hw.2.own _ (List.mem_append_right _ (.tail _ (.head _))))).trans rfl) rfl ?_ | refine J.load1 Ty.a65 rfl (fun w hw => (cell_of (hw.2.own _ (List.mem_append_right _ (.tail _ (.tail _ (.head _)))))).trans rfl) rfl ?_ | refine J.load1 Ty.a65 rfl (fun w hw => (cell_of (hw.2.own _ (List.mem_append_right _ (.tail _ (.tail _ (.tail _ (.head _))))))).trans rfl) rfl ?_ | refine J.load1 Ty.a65 rfl (fun w hw => (cell_of (hw.2.own _ (List.mem_append_right _ (.tail _ (.tail _ (.tail _ (.tail _ (.head _)))))))).trans rfl) rfl ?_)
                    refine J.nil (JX.fin rfl (fun w hw => ⟨rfl, (by rw [hw.1]; exact Below.refl _ _)⟩))
                  · skip
                    refine Fin.cons (fun v20_7 => ?_)
                    refine Fin.nil ?_
                    refine J.prE (fun h => ?_); subst h
                    refine J.bin rfl rfl rfl rfl ?_
                    refine J.name 115 rfl (congrArg (Value.int .u64) (show _ = ((gen + 1 : Nat) : Int) from wrap_u64 (by omega) (by omega))) ?_
                    refine J.nil (JX.fin rfl (fun w hw => ⟨rfl, (by rw [hw.1]; exact Below.refl _ _)⟩))
                  · skip
                    refine Fin.cons (fun v20_8 => ?_)
                    refine Fin.nil ?_
                    refine J.prE (fun h => ?_); subst h
                    refine J.bin rfl rfl rfl rfl ?_
                    refine J.name 116 rfl (congrArg (Value.int .u64) (show _ = (((gen + 1) % 2 : Nat) : Int) from rfl)) ?_
                    refine J.nil (JX.fin rfl (fun w hw => ⟨rfl, (by rw [hw.1]; exact Below.refl _ _)⟩))
                  · skip
                    refine Fin.cons (fun v20_9 => ?_)
                    refine Fin.nil ?_
                    refine J.prE (fun h => ?_); subst h
                    refine J.convInt Ty.u65 Ty.u3 rfl rfl ?_
                    refine J.name 117 rfl (congrArg (Value.int .i64) (show _ = (((gen + 1) % 2 : Nat) : Int) from wrap_i64 (by omega) (by omega))) ?_
                    refine J.nil (JX.fin rfl (fun w hw => ⟨rfl, (by rw [hw.1]; exact Below.refl _ _)⟩))
                  · skip
                    refine Fin.nil ?_
                    refine J.move rfl rfl ?_
                    refine J.nil (JX.fin rfl (fun w hw => ⟨rfl, (by rw [hw.1]; exact Below.refl _ _)⟩))
                case htail =>
                  refine Fin.cons (fun v20_0 => ?_)
                  refine Fin.cons (fun v20_1 => ?_)
                  refine Fin.cons (fun v20_2 => ?_)
                  refine Fin.cons (fun v20_3 => ?_)
                  refine Fin.cons (fun v20_4 => ?_)
                  refine Fin.cons (fun v20_5 => ?_)
                  refine Fin.cons (fun v20_6 => ?_)
                  refine Fin.cons (fun v20_7 => ?_)
                  refine Fin.cons (fun v20_8 => ?_)
                  refine Fin.cons (fun v20_9 => ?_)
                  refine Fin.cons (fun v20_10 => ?_)
                  refine Fin.cons (fun v20_11 => ?_)
                  refine Fin.nil ?_
                  refine J.prE (fun h => ?_); subst h
                  refine J.prE (fun h => ?_); subst h
                  refine J.prE (fun h => ?_); subst h
                  refine J.prE (fun h => ?_); subst h
                  refine J.prE (fun h => ?_); subst h
                  refine J.prE (fun h => ?_); subst h
                  refine J.prE (fun h => ?_); subst h
                  refine J.prE (fun h => ?_); subst h
                  refine J.prE (fun h => ?_); subst h
                  refine J.prE (fun h => ?_); subst h
                  refine J.prE (fun h => ?_); subst h
                  refine J.prE (fun h => ?_); subst h
                  refine J.perm ([(d, dkO s n (p1) (k1)), (s, dkS (B1))] ++ ((lb, cb [.pointer (some ⟨d, 0, none⟩), .int .u64 ((gen : Nat) : Int), .int .i64 ((used : Nat) : Int), .int .i64 ((cnt_ : Nat) : Int), .bool false] 80) :: (lp106 ++ (b105, cb [.int .u64 ((gen + 1 : Nat) : Int), .int .u64 ((used + needN rec_.length : Nat) : Int), .int .u64 ((cnt_ + 1 : Nat) : Int)] 65) :: lp48))) (by (refine perm_cnt (fun _ => ?_)); simp only [cntB_append, cntB_cons, cntB_nil, Nat.add_zero, Nat.zero_add]; try ac_rfl) ?_
                  refine J.callT (l1 := [(d, dkO s n (p1) (k1)), (s, dkS (B1))]) (L := [(d, dkO s n (if 0 < p1 then p1 - 1 else p1) (k1 + 1)), (s, dkS (put B1 ((gen + 1) % 2) ([gen + 1, used + needN rec_.length, cnt_ + 1].flatMap be8)))]) Ty.bd17 rfl rfl (fun w1 hw => write_done d s n B1 ([gen + 1, used + needN rec_.length, cnt_ + 1].flatMap be8) p1 k1 ((gen + 1) % 2) a106 24 c106 w1 hw.owns hB1 hk10 (by omega) (by omega) (by omega) (by rw [flat_length]; rfl) (hv106.row (l := (d, dkO s n (p1) (k1)) :: (s, dkS (B1)) :: (lb, cb [.pointer (some ⟨d, 0, none⟩), .int .u64 ((gen : Nat) : Int), .int .i64 ((used : Nat) : Int), .int .i64 ((cnt_ : Nat) : Int), .bool false] 80) :: (b105, cb [.int .u64 ((gen + 1 : Nat) : Int), .int .u64 ((used + needN rec_.length : Nat) : Int), .int .u64 ((cnt_ + 1 : Nat) : Int)] 65) :: lp48) (hw.perm (by (refine perm_cnt (fun _ => ?_)); simp only [cntB_append, cntB_cons, cntB_nil, Nat.add_zero, Nat.zero_add]; try ac_rfl))) (hv106.off (l1 := [(d, dkO s n (p1) (k1)), (s, dkS (B1))]) (l := (lb, cb [.pointer (some ⟨d, 0, none⟩), .int .u64 ((gen : Nat) : Int), .int .i64 ((used : Nat) : Int), .int .i64 ((cnt_ : Nat) : Int), .bool false] 80) :: (b105, cb [.int .u64 ((gen + 1 : Nat) : Int), .int .u64 ((used + needN rec_.length : Nat) : Int), .int .u64 ((cnt_ + 1 : Nat) : Int)] 65) :: lp48) (hw.perm (by (refine perm_cnt (fun _ => ?_)); simp only [cntB_append, cntB_cons, cntB_nil, Nat.add_zero, Nat.zero_add]; try ac_rfl))) hp1 hp0) ?_
                  refine J.perm ((lb, cb [.pointer (some ⟨d, 0, none⟩), .int .u64 ((gen : Nat) : Int), .int .i64 ((used : Nat) : Int), .int .i64 ((cnt_ : Nat) : Int), .bool false] 80) :: (d, dkO s n (if 0 < p1 then p1 - 1 else p1) (k1 + 1)) :: (s, dkS (put B1 ((gen + 1) % 2) ([gen + 1, used + needN rec_.length, cnt_ + 1].flatMap be8))) :: (lp106 ++ (b105, cb [.int .u64 ((gen + 1 : Nat) : Int), .int .u64 ((used + needN rec_.length : Nat) : Int), .int .u64 ((cnt_ + 1 : Nat) : Int)] 65) :: lp48)) (by (refine perm_cnt (fun _ => ?_)); simp only [cntB_append, cntB_cons, cntB_nil, Nat.add_zero, Nat.zero_add]; try ac_rfl) ?_
                  refine J.assign rfl rfl ?_
                  refine J.nil ?_
                  refine JX.thenN (hK24 _ _ ?_)
                  refine JC.seq (fun K28 hK28 => ?_)
                  refine JC.region ?_
                  refine J.move rfl rfl ?_
                  refine J.bin rfl rfl rfl rfl ?_
                  refine J.nil ?_
                  refine JX.thenN (hK28 _ _ ?_)
                  first | refine JC.condF rfl ?_ | refine JC.cond rfl (fun h => by first | (exfalso; simp at h; omega) | (simp at h)) (fun _ => ?_)
                  refine JC.skip ?_
                  refine JX.thenN (hK23 _ _ ?_)
                  refine JC.seq (fun K29 hK29 => ?_)
                  refine JC.region ?_
                  refine J.move rfl rfl ?_
                  refine J.nilCheck rfl rfl ?_
                  refine J.fieldAddr Ty.fd80_1 rfl rfl ?_
                  (first | refine J.loadO Ty.a65 rfl (.head _) rfl rfl ?_ | refine J.loadO Ty.a65 rfl (.tail _ (.head _)) rfl rfl ?_ | refine J.loadO Ty.a65 rfl (.tail _ (.tail _ (.head _))) rfl rfl ?_ | refine J.loadO Ty.a65 rfl (.tail _ (.tail _ (.tail _ (.head _)))) rfl rfl ?_ | refine J.loadO Ty.a65 rfl (.tail _ (.tail _ (.tail _ (.tail _ (.head _))))) rfl rfl ?_ | refine J.loadO Ty.a65 rfl (List.mem_append_right _ (.head _)) rfl rfl ?_ | refine J.loadO Ty.a65 rfl (List.mem_append_right _ (.tail _ (.head _))) rfl rfl ?_ | refine J.loadO Ty.a65 rfl (List.mem_append_right _ (.tail _ (.tail _ (.head _)))) rfl rfl ?_ | refine J.loadO Ty.a65 rfl (List.mem_append_right _ (.tail _ (.tail _ (.tail _ (.head _))))) rfl rfl ?_ | refine J.loadO Ty.a65 rfl (List.mem_append_right _ (.tail _ (.tail _ (.tail _ (.tail _ (.head _)))))) rfl rfl ?_)
                  refine J.bin rfl rfl rfl rfl ?_
                  refine J.name 130 rfl (congrArg (Value.int .u64) (show _ = ((gen + 1 : Nat) : Int) from wrap_u64 (by omega) (by omega))) ?_
                  refine J.nilCheck rfl rfl ?_
                  refine J.fieldAddr Ty.fd80_1 rfl rfl ?_
                  (first | refine J.storeO Ty.s65 rfl rfl rfl rfl (by simp [Value.oneCell']) .here (by simp) ?_ | refine J.storeO Ty.s65 rfl rfl rfl rfl (by simp [Value.oneCell']) (.there .here) (by simp) ?_ | refine J.storeO Ty.s65 rfl rfl rfl rfl (by simp [Value.oneCell']) (.there (.there .here)) (by simp) ?_ | refine J.storeO Ty.s65 rfl rfl rfl rfl (by simp [Value.oneCell']) (.there (.there (.there .here))) (by simp) ?_)
                  refine J.nil ?_
                  refine JX.thenN (hK29 _ _ ?_)
                  refine JC.seq (fun K30 hK30 => ?_)
                  apply JC.drawL 8 [Eqv _, Eqv _, Eqv _, Eqv _, Eqv _, Eqv _, Eqv _, Eqv _] Ty.mixed rfl rfl rfl (by kernel_rfl) rfl rfl (fun w w' hw hb => hw.step hb) ⟨fun _ _ _ h _ => h, fun _ _ _ h _ => h, fun _ _ _ h _ => h, fun _ _ _ h _ => h, fun _ _ _ h _ => h, fun _ _ _ h _ => h, fun _ _ _ h _ => h, fun _ _ _ h _ => h, trivial⟩ ?hstep ?htail
                  case hstep =>
                    refine ⟨fun wi => ?_, fun wi => ?_, fun wi => ?_, fun wi => ?_, fun wi => ?_, fun wi => ?_, fun wi => ?_, fun wi => ?_, trivial⟩
                    · skip
                      refine Fin.nil ?_
                      refine J.move rfl rfl ?_
                      refine J.nil (JX.fin rfl (fun w hw => ⟨rfl, (by rw [hw.1]; exact Below.refl _ _)⟩))
                    · skip
                      refine Fin.cons (fun v25_0 => ?_)
                      refine Fin.nil ?_
                      refine J.prE (fun h => ?_); subst h
                      refine J.nilCheck rfl rfl ?_
                      refine J.nil (JX.fin rfl (fun w hw => ⟨rfl, (by rw [hw.1]; exact Below.refl _ _)⟩))
                    · skip
                      refine Fin.cons (fun v25_1 => ?_)
                      refine Fin.nil ?_
                      refine J.prE (fun h => ?_); subst h
                      refine J.fieldAddr Ty.fd80_2 rfl rfl ?_
                      refine J.nil (JX.fin rfl (fun w hw => ⟨rfl, (by rw [hw.1]; exact Below.refl _ _)⟩))
                    · skip
                      refine Fin.cons (fun v25_2 => ?_)
                      refine Fin.nil ?_
                      refine J.prE (fun h => ?_); subst h
                      (first | refine J.load1 Ty.a3 rfl (fun w hw => (cell_of (hw.2.own _ (.head _))).trans rfl) rfl ?_ | refine J.load1 Ty.a3 rfl (fun w hw => (cell_of (hw.2.own _ (.tail _ (.head _)))).trans rfl) rfl ?_ | refine J.load1 Ty.a3 rfl (fun w hw => (cell_of (hw.2.own _ (.tail _ (.tail _ (.head _))))).trans rfl) rfl ?_ | refine J.load1 Ty.a3 rfl (fun w hw => (cell_of (hw.2.own _ (.tail _ (.tail _ (.tail _ (.head _)))))).trans rfl) rfl ?_ | refine J.load1 Ty.a3 rfl (fun w hw => (cell_of (hw.2.own _ (.tail _ (.tail _ (.tail _ (.tail _ (.head _))))))).trans rfl) rfl ?_ | refine J.load1 Ty.a3 rfl (fun w hw => (cell_of (hw.2.own _ (List.mem_append_right _ (.head _)))).trans rfl) rfl ?_ | refine J.load1 Ty.a3 rfl (fun w hw => (cell_of (hw.2.own _ (List.mem_append_right _ (.tail _ (.head _))))).trans rfl) rfl ?_ | refine J.load1 Ty.a3 rfl (fun w hw => (cell_of (hw.2.own _ (List.mem_append_right _ (.tail _ (.tail _ (.head _)))))).trans rfl) rfl ?_ | refine J.load1 Ty.a3 rfl (fun w hw => (cell_of (hw.2.own _ (List.mem_append_right _ (.tail _ (.tail _ (.tail _ (.head _))))))).trans rfl) rfl ?_ | refine J.load1 Ty.a3 rfl (fun w hw => (cell_of (hw.2.own _ (List.mem_append_right _ (.tail _ (.tail _ (.tail _ (.tail _ (.head _)))))))).trans rfl) rfl ?_)
                      refine J.nil (JX.fin rfl (fun w hw => ⟨rfl, (by rw [hw.1]; exact Below.refl _ _)⟩))
                    · skip
                      refine Fin.nil ?_
                      refine J.move rfl rfl ?_
                      refine J.nil (JX.fin rfl (fun w hw => ⟨rfl, (by rw [hw.1]; exact Below.refl _ _)⟩))
                    · skip
                      refine Fin.cons (fun v25_4 => ?_)
                      refine Fin.nil ?_
                      refine J.prE (fun h => ?_); subst h
                      refine J.lenS rfl Ty.u28 rfl rfl ?_
                      refine J.nil (JX.fin rfl (fun w hw => ⟨rfl, (by rw [hw.1]; exact Below.refl _ _)⟩))
                    · skip
                      refine Fin.cons (fun v25_5 => ?_)
                      refine Fin.nil ?_
                      refine J.prE (fun h => ?_); subst h
                      refine J.callD Ty.bd39 rfl rfl (fun w1 hw => need_spec rec_.length w1 (by omega)) ?_
                      refine J.nil (JX.fin rfl (fun w hw => ⟨rfl, hw⟩))
                    · skip
                      refine Fin.cons (fun v25_3 => ?_)
                      refine Fin.cons (fun v25_6 => ?_)
                      refine Fin.nil ?_
                      refine J.prE (fun h => ?_); subst h
                      refine J.prE (fun h => ?_); subst h
                      refine J.addN rfl rfl (by omega) (by omega) rfl ?_
                      refine J.nil (JX.fin rfl (fun w hw => ⟨rfl, (by rw [hw.1]; exact Below.refl _ _)⟩))
                  case htail =>
                    refine Fin.cons (fun v25_0 => ?_)
                    refine Fin.cons (fun v25_1 => ?_)
                    refine Fin.cons (fun v25_2 => ?_)
                    refine Fin.cons (fun v25_3 => ?_)
                    refine Fin.cons (fun v25_4 => ?_)
                    refine Fin.cons (fun v25_5 => ?_)
                    refine Fin.cons (fun v25_6 => ?_)
                    refine Fin.cons (fun v25_7 => ?_)
                    refine Fin.nil ?_
                    refine J.prE (fun h => ?_); subst h
                    refine J.prE (fun h => ?_); subst h
                    refine J.prE (fun h => ?_); subst h
                    refine J.prE (fun h => ?_); subst h
                    refine J.prE (fun h => ?_); subst h
                    refine J.prE (fun h => ?_); subst h
                    refine J.prE (fun h => ?_); subst h
                    refine J.prE (fun h => ?_); subst h
                    refine J.nilCheck rfl rfl ?_
                    refine J.fieldAddr Ty.fd80_2 rfl rfl ?_
                    (first | refine J.storeO Ty.s3 rfl rfl rfl rfl (by simp [Value.oneCell']) .here (by simp) ?_ | refine J.storeO Ty.s3 rfl rfl rfl rfl (by simp [Value.oneCell']) (.there .here) (by simp) ?_ | refine J.storeO Ty.s3 rfl rfl rfl rfl (by simp [Value.oneCell']) (.there (.there .here)) (by simp) ?_ | refine J.storeO Ty.s3 rfl rfl rfl rfl (by simp [Value.oneCell']) (.there (.there (.there .here))) (by simp) ?_)
                    refine J.nil ?_
                    refine JX.thenN (hK30 _ _ ?_)
                    refine JC.seq (fun K31 hK31 => ?_)
                    refine JC.region ?_
                    refine J.move rfl rfl ?_
                    refine J.nilCheck rfl rfl ?_
                    refine J.fieldAddr Ty.fd80_3 rfl rfl ?_
                    (first | refine J.loadO Ty.a3 rfl (.head _) rfl rfl ?_ | refine J.loadO Ty.a3 rfl (.tail _ (.head _)) rfl rfl ?_ | refine J.loadO Ty.a3 rfl (.tail _ (.tail _ (.head _))) rfl rfl ?_ | refine J.loadO Ty.a3 rfl (.tail _ (.tail _ (.tail _ (.head _)))) rfl rfl ?_ | refine J.loadO Ty.a3 rfl (.tail _ (.tail _ (.tail _ (.tail _ (.head _))))) rfl rfl ?_ | refine J.loadO Ty.a3 rfl (List.mem_append_right _ (.head _)) rfl rfl ?_ | refine J.loadO Ty.a3 rfl (List.mem_append_right _ (.tail _ (.head _))) rfl rfl ?_ | refine J.loadO Ty.a3 rfl (List.mem_append_right _ (.tail _ (.tail _ (.head _)))) rfl rfl ?_ | refine J.loadO Ty.a3 rfl (List.mem_append_right _ (.tail _ (.tail _ (.tail _ (.head _))))) rfl rfl ?_ | refine J.loadO Ty.a3 rfl (List.mem_append_right _ (.tail _ (.tail _ (.tail _ (.tail _ (.head _)))))) rfl rfl ?_)
                    (first | refine J.addN rfl rfl (by omega) (by omega) rfl ?_ | refine J.bin rfl rfl rfl rfl ?_)
                    refine J.nilCheck rfl rfl ?_
                    refine J.fieldAddr Ty.fd80_3 rfl rfl ?_
                    (first | refine J.storeO Ty.s3 rfl rfl rfl rfl (by simp [Value.oneCell']) .here (by simp) ?_ | refine J.storeO Ty.s3 rfl rfl rfl rfl (by simp [Value.oneCell']) (.there .here) (by simp) ?_ | refine J.storeO Ty.s3 rfl rfl rfl rfl (by simp [Value.oneCell']) (.there (.there .here)) (by simp) ?_ | refine J.storeO Ty.s3 rfl rfl rfl rfl (by simp [Value.oneCell']) (.there (.there (.there .here))) (by simp) ?_)
                    refine J.nil ?_
                    refine JX.thenN (hK31 _ _ ?_)
                    refine JC.seq (fun K32 hK32 => ?_)
                    refine JC.region ?_
                    refine J.assign rfl rfl ?_
                    refine J.nil ?_
                    refine JX.thenN (hK32 _ _ ?_)
                    refine JC.ret ?_
                    refine JX.ret1 rfl rfl (fun w1 hw => ?_)
                    rw [happ]
                    first
                    | exact ⟨rfl, hw⟩
                    | exact ⟨rfl, hw.drop (.cons_cons _ (.cons_cons _ (.cons_cons _ (List.nil_sublist _))))⟩

end Go.Proofs.Ytlmbpfgiadbjaaa
