/-
  VaultForms: texts that its proof needs, part 4.
-/
import Derived.Test.YtoaenmlhehcjfaaZVaultFormsc
/-
  Plain laws: a record that is laid is read again; appending with power; what a vault's log holds.
-/
namespace Go.Proofs.Ytoaenmlhehcjfaa
open Go.J Go.RowKit
set_option linter.unusedVariables false
set_option linter.unusedSimpArgs false
set_option maxRecDepth 8000
theorem div_pow256 (n a b : Nat) (h : b ≤ a) : n / 256 ^ a = n / 256 ^ b / 256 ^ (a - b) := by
  rw [Nat.div_div_eq_div_mul, ← Nat.pow_add]
  congr 2; omega
def beB (n : Nat) : List UInt8 := (List.range (wid n)).map (fun i => UInt8.ofNat (n / 2 ^ (8 * (wid n - 1 - i))))
theorem beB_len (n : Nat) : (beB n).length = wid n := by simp [beB]
theorem beB_at {n i : Nat} (h : i < (beB n).length) : (beB n)[i] = UInt8.ofNat (n / 256 ^ (wid n - 1 - i)) := by
  simp only [beB, List.getElem_map, List.getElem_range]
  rw [Nat.pow_mul]
theorem numB_eq (n : Nat) : numB n = UInt8.ofNat (wid n) :: beB n := rfl
theorem beB_num {n : Nat} (hn : n < 18446744073709551616) : ∀ j, j ≤ wid n → num ((beB n).take j) = n / 256 ^ (wid n - j) := by
  intro j
  induction j with
  | zero =>
    intro _
    rw [List.take_zero, Nat.sub_zero, Nat.div_eq_of_lt (wid_ub hn)]; rfl
  | succ j ih =>
    intro h
    have hl : j < (beB n).length := by rw [beB_len]; omega
    rw [num_succ hl, ih (by omega), beB_at hl, div_pow256 n (wid n - j) (wid n - (j + 1)) (by omega), show wid n - j - (wid n - (j + 1)) = 1 by omega, show wid n - 1 - j = wid n - (j + 1) by omega, Nat.pow_one, UInt8.toNat_ofNat']
    omega
theorem beB_all {n : Nat} (hn : n < 18446744073709551616) : num (beB n) = n := by
  have h := beB_num hn (wid n) (Nat.le_refl _)
  rwa [List.take_of_length_le (by rw [beB_len]; exact Nat.le_refl _), Nat.sub_self, Nat.pow_zero, Nat.div_one] at h
theorem wid8 (n : Nat) : (UInt8.ofNat (wid n)).toNat = wid n := by
  have := wid_le n
  rw [UInt8.toNat_ofNat']
  omega
theorem getD_mid (a b : List UInt8) (x : UInt8) : (a ++ x :: b).getD a.length 0 = x := by
  rw [List.getD_eq_getElem?_getD, List.getElem?_append_right (Nat.le_refl _), Nat.sub_self]; rfl
theorem getN_put {n : Nat} (hn : n < 18446744073709551616) (a b : List UInt8) : getN (a ++ (numB n ++ b)) a.length = (n, a.length + (numB n).length, 0) := by
  have hw := wid_le n
  have hd : (a ++ (numB n ++ b)).getD a.length 0 = UInt8.ofNat (wid n) := by rw [numB_eq, List.cons_append]; exact getD_mid _ _ _
  have hk : ((a ++ (numB n ++ b)).getD a.length 0).toNat = wid n := by rw [hd, wid8]
  have hl : (a ++ (numB n ++ b)).length = a.length + (1 + wid n) + b.length := by rw [List.length_append, List.length_append, numB_len]; omega
  have hdr : ((a ++ (numB n ++ b)).drop (a.length + 1)).take (wid n) = beB n := by
    rw [← List.drop_drop, List.drop_left, numB_eq, List.cons_append, List.drop_succ_cons, List.drop_zero, ← beB_len n, List.take_left]
  unfold getN
  rw [if_neg (by omega), if_neg (by omega), hk, if_neg (by omega), if_neg (by omega), if_neg ?_, hdr, beB_all hn, numB_len]
  · congr 2; omega
  · rintro ⟨h1, h2⟩
    have e : (a ++ (numB n ++ b)).getD (a.length + 1) 0 = (beB n)[0]'(by rw [beB_len]; exact h1) := by
      rw [List.getD_eq_getElem?_getD, List.getElem?_append_right (by omega), numB_eq, List.cons_append, show a.length + 1 - a.length = 0 + 1 by omega, List.getElem?_cons_succ, List.getElem?_append_left (by rw [beB_len]; exact h1), List.getElem?_eq_getElem (by rw [beB_len]; exact h1)]
      rfl
    rw [e, beB_at, UInt8.toNat_ofNat', Nat.sub_zero] at h2
    have h3 := (wid_lt (n := n) (k := wid n - 1) (by omega)).1 (by omega)
    rw [Nat.pow_mul] at h3
    have h4 := wid_ub hn
    have h5 : n / 256 ^ (wid n - 1) < 256 := by
      rw [Nat.div_lt_iff_lt_mul (Nat.pow_pos (by omega)), ← Nat.pow_succ']
      rw [show (wid n - 1).succ = wid n by omega]
      exact h4
    have h6 : (2 : Nat) ^ 8 = 256 := by decide
    rw [h6] at h3
    omega
theorem getI_put (k : IDV) (a b : List UInt8) : getI (a ++ (bI k ++ b)) a.length = (k, a.length + 16, 0) := by
  have hl : (a ++ (bI k ++ b)).length = a.length + 16 + b.length := by rw [List.length_append, List.length_append, bI_len]; omega
  unfold getI
  rw [if_neg (by omega), if_neg (by omega), List.drop_left, show (bI k ++ b).take 16 = bI k from List.take_left (l₁ := bI k), idB_bI]
theorem getT_put {t : List UInt8} {most : Nat} (ht : t.length ≤ most) (hm : most < 18446744073709551616) (a b : List UInt8) : getT (a ++ (textB t ++ b)) a.length most = (t, a.length + (textB t).length, 0) := by
  have hN : getN (a ++ (textB t ++ b)) a.length = (t.length, a.length + (numB t.length).length, 0) := by
    unfold textB
    rw [List.append_assoc]
    exact getN_put (by omega) a (t ++ b)
  have hl : (a ++ (textB t ++ b)).length = a.length + (numB t.length).length + t.length + b.length := by
    unfold textB
    simp only [List.length_append]; omega
  unfold getT
  rw [hN]
  simp only
  rw [if_neg (by simp), if_neg (by omega), if_neg (by omega)]
  have hd : ((a ++ (textB t ++ b)).drop (a.length + (numB t.length).length)).take t.length = t := by
    unfold textB
    rw [← List.drop_drop, List.drop_left, List.append_assoc, List.drop_left, List.take_left]
  rw [hd]
  have e : (textB t).length = (numB t.length).length + t.length := by unfold textB; rw [List.length_append]
  rw [e, Nat.add_assoc]
theorem readP_incB {inc m : Nat} (h1 : inc < m) (h2 : m ≤ 1048576) : readP inc (incB m) = some (.inl m) := by
  have hN0 : getN (incB m) 0 = (1, (numB 1).length, 0) := by
    have := getN_put (n := 1) (by omega) [] (numB m)
    rw [List.nil_append, List.length_nil, Nat.zero_add] at this
    exact this
  have hN1 : getN (incB m) (numB 1).length = (m, (numB 1).length + (numB m).length, 0) := by
    have := getN_put (n := m) (by omega) (numB 1) []
    rw [List.append_nil] at this
    exact this
  exact readP_inc hN0 hN1 rfl (by unfold incB; rw [List.length_append]; omega) (by omega) (by omega)
/-- an item that may be kept -/
def okIt (x : ItV) : Prop := 1 ≤ x.ver.n ∧ x.ver.n < 4611686018427387904 ∧ x.bs.length ≤ 64
theorem readP_formB {inc : Nat} {x : ItV} (h : okIt x) : readP inc (formB x) = some (.inr x) := by
  obtain ⟨key, ⟨vn, who⟩, bs⟩ := x
  obtain ⟨h1, h2, h3⟩ := h
  simp only at h1 h2 h3
  obtain ⟨v, rfl⟩ : ∃ v : Nat, vn = (v : Int) := ⟨vn.toNat, by omega⟩
  have hv : ((v : Nat) : Int).toNat = v := Int.toNat_natCast v
  have e : formB ⟨key, ⟨(v : Int), who⟩, bs⟩ = numB 2 ++ (bI key ++ (numB v ++ (bI who ++ (textB bs ++ [])))) := by
    unfold formB
    simp only [hv, List.append_assoc, List.append_nil]
  rw [e]
  have hN0 : getN (numB 2 ++ (bI key ++ (numB v ++ (bI who ++ (textB bs ++ []))))) 0 = (2, (numB 2).length, 0) := by
    have := getN_put (n := 2) (by omega) [] (bI key ++ (numB v ++ (bI who ++ (textB bs ++ []))))
    rw [List.nil_append, List.length_nil, Nat.zero_add] at this
    exact this
  have hK1 := getI_put key (numB 2) (numB v ++ (bI who ++ (textB bs ++ [])))
  have hN2 := getN_put (n := v) (by omega) (numB 2 ++ bI key) (bI who ++ (textB bs ++ []))
  rw [List.append_assoc, List.length_append, bI_len] at hN2
  have hK3 := getI_put who (numB 2 ++ (bI key ++ numB v)) (textB bs ++ [])
  have hT4 := getT_put h3 (by omega) (numB 2 ++ (bI key ++ (numB v ++ bI who))) []
  simp only [List.append_assoc, List.length_append, bI_len, Nat.add_assoc] at hK1 hN2 hK3 hT4 ⊢
  exact readP_item hN0 hK1 rfl hN2 (by omega) (by omega) hK3 rfl hT4 rfl (by simp only [List.length_append, bI_len, List.length_nil]; omega)
/-- with endless power all is written -/
theorem dws_endless : ∀ (xs : List (Nat × List UInt8)) (σ : DS), σ.p < 0 → ∃ σ', dws σ xs = (σ', true) ∧ σ'.p = σ.p
  | [], σ, _ => ⟨σ, rfl, rfl⟩
  | x :: xs, σ, h => by
    have h1 : (dw σ x.1 x.2).p = σ.p := by
      show (if 0 < σ.p then σ.p - 1 else σ.p) = σ.p
      rw [if_neg (by omega)]
    obtain ⟨σ', h2, h3⟩ := dws_endless xs (dw σ x.1 x.2) (by rw [h1]; exact h)
    exact ⟨σ', by rw [dws_cons (by omega)]; exact h2, by rw [h3, h1]⟩
theorem append_ok {n : Nat} {q : LogP} {σ : DS} {rec_ : List UInt8} (hp : σ.p < 0) (hl : rec_.length ≤ 1024) (hr : needN rec_.length ≤ n - 2 - q.used) :
    ∃ σ', appendP n q false σ rec_ = (0, ⟨q.gen + 1, q.used + needN rec_.length, q.cnt + 1, q.recs ++ [rec_]⟩, false, σ') ∧ σ'.p = σ.p := by
  obtain ⟨σ', h1, h2⟩ := dws_endless (planP q.gen q.used q.cnt rec_) σ hp
  exact ⟨σ', appendP_ok (by omega) (by omega) h1, h2⟩
/-- what holds between a vault's log, its disk, and its items -/
structure VaI (n : Nat) (q : LogP) (σ : DS) (inc : Nat) (L : List ItV) : Prop where
  log : LogI n q σ
  held : heldV q.recs = some (inc, L)
  inc : inc ≤ 1048576
theorem needN_1 {k : Nat} (h : k ≤ 62) : needN k = 1 := by unfold needN; omega
theorem incB_len (m : Nat) : (incB m).length ≤ 18 := by
  unfold incB
  have h1 := numB_le 1
  have h2 := numB_le m
  rw [List.length_append]; omega

end Go.Proofs.Ytoaenmlhehcjfaa
/-
  The chapter's example of layer 18: contract.
-/
namespace Go.Proofs.Ytoaenmlhehcjfaa
open Go.J Go.RowKit
set_option linter.unusedVariables false
set_option linter.unusedSimpArgs false
set_option maxRecDepth 8000
def nI (k : UInt8) : IDV := fun i => if i = 15 then k else 0
theorem vopen_ok {n inc : Nat} {q : LogP} {σ : DS} {L : List ItV} (hn : n ≤ 4096) (hI : LogI n q σ) (hh : heldV q.recs = some (inc, L)) (hi : inc < 1048576) (hp : σ.p < 0) (hg : q.gen + 1 < 9223372036854775808) (hr : 1 ≤ n - 2 - q.used) :
    ∃ σ', vopenP n σ = (0, some (⟨q.gen + 1, q.used + 1, q.cnt + 1, q.recs ++ [incB (inc + 1)]⟩, inc + 1, L), σ') ∧ LogI n ⟨q.gen + 1, q.used + 1, q.cnt + 1, q.recs ++ [incB (inc + 1)]⟩ σ' ∧ σ'.p = σ.p ∧ σ.k ≤ σ'.k ∧ σ'.k ≤ σ.k + 19 := by
  have hl := incB_len (inc + 1)
  have hn1 : needN (incB (inc + 1)).length = 1 := needN_1 (by omega)
  obtain ⟨σ', h1, h2⟩ := append_ok (n := n) (q := q) (σ := σ) (rec_ := incB (inc + 1)) hp (by omega) (by rw [hn1]; exact hr)
  rw [hn1] at h1
  obtain ⟨e, q', dn, σ2, h3, h4, h5, h6, _⟩ := append_law (down := false) (rec_ := incB (inc + 1)) hn hI hg
  rw [h1] at h3
  simp only [Prod.mk.injEq] at h3
  obtain ⟨rfl, rfl, rfl, rfl⟩ := h3
  exact ⟨σ', vopenP_ok hI.open_ hh (by omega) h1 rfl, h4, h2, h5, h6⟩
theorem put_ok {n : Nat} {q : LogP} {σ : DS} {x : ItV} (hn : n ≤ 4096) (hI : LogI n q σ) (hx : x.bs.length ≤ 64) (hp : σ.p < 0) (hg : q.gen + 1 < 9223372036854775808) (hr : needN (formB x).length ≤ n - 2 - q.used) :
    ∃ σ', appendP n q false σ (formB x) = (0, ⟨q.gen + 1, q.used + needN (formB x).length, q.cnt + 1, q.recs ++ [formB x]⟩, false, σ') ∧ LogI n ⟨q.gen + 1, q.used + needN (formB x).length, q.cnt + 1, q.recs ++ [formB x]⟩ σ' ∧ σ'.p = σ.p ∧ σ.k ≤ σ'.k ∧ σ'.k ≤ σ.k + 19 := by
  have hl := formB_le x
  obtain ⟨σ', h1, h2⟩ := append_ok (n := n) (q := q) (σ := σ) (rec_ := formB x) hp (by omega) hr
  obtain ⟨e, q', dn, σ2, h3, h4, h5, h6, _⟩ := append_law (down := false) (rec_ := formB x) hn hI hg
  rw [h1] at h3
  simp only [Prod.mk.injEq] at h3
  obtain ⟨rfl, rfl, rfl, rfl⟩ := h3
  exact ⟨σ', h1, h4, h2, h5, h6⟩
theorem held_inc {rs : List (List UInt8)} {inc : Nat} {L : List ItV} (h : heldV rs = some (inc, L)) (hi : inc < 1048576) : heldV (rs ++ [incB (inc + 1)]) = some (inc + 1, L) := by
  rw [heldV_snoc, h]
  simp only [Option.bind_some, stepV, readP_incB (show inc < inc + 1 by omega) (show inc + 1 ≤ 1048576 by omega)]
theorem held_item {rs : List (List UInt8)} {inc : Nat} {L : List ItV} {x : ItV} (h : heldV rs = some (inc, L)) (hx : okIt x) : heldV (rs ++ [formB x]) = some (inc, takeV L x) := by
  rw [heldV_snoc, h]
  simp only [Option.bind_some, stepV, readP_formB hx]
def itF : ItV := ⟨nI 3, ⟨1, nI 7⟩, [97]⟩
def QF1 : LogP := ⟨1, 1, 1, [incB 1]⟩
def QF2 : LogP := ⟨2, 2, 2, [incB 1, formB itF]⟩
def QF3 : LogP := ⟨3, 3, 3, [incB 1, formB itF, incB 2]⟩
theorem itF_need : needN (formB itF).length = 1 := by decide +kernel
theorem itG_need : needN (formB ⟨nI 3, ⟨1, nI 8⟩, []⟩).length = 1 := by decide +kernel
theorem logI_zero {n : Nat} (h : 3 ≤ n) (hn : n ≤ 4096) (p k : Int) (hp : p < 9223372036854775808) : LogI n ⟨0, 0, 0, []⟩ ⟨List.replicate (64 * n) 0, p, k⟩ := ⟨by simp, openP_zero h hn, hp⟩
theorem fx_all : ∃ σ1 σ2 σ3 : DS, ∃ q4 σ4, (vopenP 20 ⟨List.replicate (64 * 20) 0, -1, 0⟩ = (0, some (QF1, 1, []), σ1) ∧ LogI 20 QF1 σ1 ∧ 0 ≤ σ1.k ∧ σ1.k ≤ 100) ∧
    (vputP 20 QF1 false σ1 [] (nI 3) [97] (nI 7) = (0, some itF, QF2, false, σ2) ∧ LogI 20 QF2 σ2 ∧ 0 ≤ σ2.k ∧ σ2.k ≤ 200) ∧
    (vopenP 20 σ2 = (0, some (QF3, 2, [itF]), σ3) ∧ LogI 20 QF3 σ3 ∧ 0 ≤ σ3.k ∧ σ3.k ≤ 300) ∧
    vmergeP 20 QF3 false σ3 [itF] ⟨nI 3, ⟨1, nI 6⟩, []⟩ = (false, 0, QF3, false, σ3) ∧
    vmergeP 20 QF3 false σ3 [itF] ⟨nI 3, ⟨1, nI 8⟩, []⟩ = (true, 0, q4, false, σ4) := by
  have h0 : heldV [] = some (0, []) := rfl
  have hh1 : heldV [incB 1] = some (1, []) := held_inc (rs := []) h0 (by omega)
  have hh2 : heldV [incB 1, formB itF] = some (1, [itF]) := held_item (rs := [incB 1]) hh1 ⟨by decide, by decide, by decide⟩
  obtain ⟨σ1, a1, a2, a3, a4, a5⟩ := vopen_ok (n := 20) (q := ⟨0, 0, 0, []⟩) (σ := ⟨List.replicate (64 * 20) 0, -1, 0⟩) (by omega) (logI_zero (by omega) (by omega) _ _ (by omega)) h0 (by omega) (by show (-1 : Int) < 0; omega) (by simp) (by simp)
  simp only at a3 a4 a5
  obtain ⟨σ2, b1, b2, b3, b4, b5⟩ := put_ok (n := 20) (q := QF1) (σ := σ1) (x := itF) (by omega) a2 (by decide) (by omega) (by decide) (by rw [itF_need]; decide)
  rw [itF_need] at b1 b2
  obtain ⟨σ3, c1, c2, c3, c4, c5⟩ := vopen_ok (n := 20) (q := QF2) (σ := σ2) (by omega) b2 hh2 (by omega) (by omega) (by decide) (by decide)
  obtain ⟨σ4, d1, _⟩ := put_ok (n := 20) (q := QF3) (σ := σ3) (x := ⟨nI 3, ⟨1, nI 8⟩, []⟩) (by omega) c2 (by decide) (by omega) (by decide) (by rw [itG_need]; decide)
  obtain ⟨q4, d2⟩ : ∃ q, appendP 20 QF3 false σ3 (formB ⟨nI 3, ⟨1, nI 8⟩, []⟩) = (0, q, false, σ4) := ⟨_, d1⟩
  refine ⟨σ1, σ2, σ3, q4, σ4, ⟨a1, a2, by omega, by omega⟩, ⟨?_, b2, by omega, by omega⟩, ⟨c1, c2, by omega, by omega⟩, ?_, ?_⟩
  · unfold vputP
    rw [if_neg (by decide), if_neg (by decide +kernel), show (⟨nI 3, ⟨verN [] (nI 3) + 1, nI 7⟩, [97]⟩ : ItV) = itF by decide +kernel, b1]
    rfl
  · unfold vmergeP
    rw [if_neg (by decide), if_neg (by decide), if_pos (by decide +kernel)]
  · unfold vmergeP
    rw [if_neg (by decide), if_neg (by decide), if_neg (by decide +kernel), d2]
    rfl

theorem n18_spec (k : UInt8) (w : World) :
    Calls Try.prog 38 [u8 k].toArray w fun r w' => r = .returned (.agg (cI (nI k)).toArray) ∧ Bel w w' := by
  refine calls_of_J (args := [u8 k]) (e := [(0, u8 k)]) Try.func38 rfl rfl ⟨rfl, trivial⟩ (St.start w) ?_
  refine JC.seq (fun K0 hK0 => ?_)
  refine JC.region ?_
  refine J.alloc Ty.zID rfl rfl (fun b2 => ?_)
  refine J.nil ?_
  refine JX.thenN (hK0 _ _ ?_)
  refine JC.seq (fun K1 hK1 => ?_)
  refine JC.region ?_
  refine J.move rfl rfl ?_
  refine J.buildA (cs := cI (nI k)) Ty.ar23 Ty.s5 Ty.z23 rfl (by kernel_rfl) rfl ?_
  refine J.storeW (cs := cI zI) (vs := cI (nI k)) Ty.s23 rfl rfl rfl rfl rfl (one_cI _) .here ?_
  refine J.nil ?_
  refine JX.thenN (hK1 _ _ ?_)
  refine JC.ret ?_
  refine JX.retC rfl rfl Ty.a23 Ty.s23 (vs := cI (nI k)) rfl (fun w1 hw => Cells.of_block (hw.own _ (.head _)) rfl) (fun w1 hw => ?_)
  exact ⟨rfl, (hw.drop (List.nil_sublist _)).below⟩

set_option maxHeartbeats 2000000 in
theorem fixed18_spec (w : World) :
    Calls Try.prog 10 [].toArray w fun r w' => r = .returned (.bool true) ∧ Bel w w' := by
  obtain ⟨σ1, σ2, σ3, q4, σ4, ⟨hO1, hI1, hk1, hkb1⟩, ⟨hO2, hI2, hk2, hkb2⟩, ⟨hO3, hI3, hk3, hkb3⟩, hM6, hM8⟩ := fx_all
  refine calls_of_J (args := []) (e := []) Try.func10 rfl rfl trivial (St.start w) ?_
  refine JC.seq (fun K0 hK0 => ?_)
  refine JC.region ?_
  refine J.assign rfl rfl ?_
  refine J.nil ?_
  refine JX.thenN (hK0 _ _ ?_)
  refine JC.seq (fun K1 hK1 => ?_)
  refine JC.region ?_
  refine J.callS (α := Nat × Nat) (l1 := []) (L := fun x => [(x.1, dkO x.2 (min (max (20 : Int) 0) 4096).toNat (-1) 0), (x.2, dkS (List.replicate (64 * (min (max (20 : Int) 0) 4096).toNat) 0))]) (V := fun x => .pointer (some ⟨x.1, 0, none⟩)) (Pr := fun _ => True) Ty.bd15 rfl rfl (fun w1 hw => new_spec 20 w1) (fun x _ => ?_)
  obtain ⟨d, s⟩ := x
  have hN : (min (max (20 : Int) 0) 4096).toNat = 20 := by decide
  simp only [hN, List.append_nil]
  refine J.assign rfl rfl ?_
  refine J.nil ?_
  refine JX.thenN (hK1 _ _ ?_)
  refine JC.seq (fun K2 hK2 => ?_)
  refine JC.region ?_
  refine J.move rfl rfl ?_
  refine J.perm ([(d, dkO s 20 (-1) 0), (s, dkS (List.replicate (64 * 20) 0))] ++ []) (.refl _) ?_
  refine J.callS (α := VO) (V := VO.val) (Pr := fun z => z.Pr 20 (⟨(List.replicate (64 * 20) 0), -1, 0⟩ : DS)) (L := fun z => z.lst d s 20) Ty.bd17 rfl rfl (fun w1 hw => vopen_spec d s 20 (List.replicate (64 * 20) 0) (-1) 0 w1 (St.owns hw) (by simp) (by omega) (by omega) (by omega) (by omega)) (fun z hz => ?_)
  rcases z with ⟨ez, sz⟩ | ⟨v1, m1, l1, q1, inc1, L1, es1, ck1, sz⟩
  · exact absurd (congrArg (fun x => x.1) (hz.1.symm.trans hO1)) hz.2
  obtain ⟨hz1, hT1, hV1⟩ := hz
  rw [hO1] at hz1
  simp only [Prod.mk.injEq, Option.some.injEq, true_and] at hz1
  obtain ⟨⟨rfl, rfl, hL1⟩, rfl⟩ := hz1
  obtain rfl := List.map_eq_nil_iff.1 hL1.symm
  refine J.name 16 rfl (show _ = Value.tuple #[.pointer (some ⟨v1, 0, none⟩), .int .i64 0] from rfl) ?_
  refine J.perm ((v1, vaO (.pointer (some ⟨l1, 0, none⟩)) m1 ((1 : Nat) : Int)) :: (m1, .map es1 ck1) :: (l1, lgO d QF1 false) :: (d, dkO s 20 σ1.p σ1.k) :: (s, dkS σ1.B) :: []) (by simp only [VO.lst, lpsH, List.flatMap_nil, List.append_nil]; exact (by (refine perm_cnt (fun _ => ?_)); simp only [cntB_append, cntB_cons, cntB_nil, Nat.add_zero, Nat.zero_add]; try ac_rfl)) ?_
  refine J.move rfl rfl ?_
  refine J.extract rfl rfl rfl ?_
  refine J.extract rfl rfl rfl ?_
  refine J.assign rfl rfl ?_
  refine J.assign rfl rfl ?_
  refine J.nil ?_
  refine JX.thenN (hK2 _ _ ?_)
  refine JC.seq (fun K3 hK3 => ?_)
  refine JC.seq (fun K4 hK4 => ?_)
  refine JC.region ?_
  refine J.move rfl rfl ?_
  refine J.eqNil Ty.u34 rfl rfl rfl ?_
  refine J.move rfl rfl ?_
  first | refine J.skip rfl rfl rfl rfl rfl ?_ | refine J.skipU rfl rfl rfl rfl ?_ | (refine J.unguard rfl rfl rfl ?_; refine J.move rfl rfl ?_)
  first | refine J.skip rfl rfl rfl rfl rfl ?_ | refine J.skipU rfl rfl rfl rfl ?_ | (refine J.unguard rfl rfl rfl ?_; refine J.eqNil Ty.u38 rfl rfl rfl ?_)
  (first | refine J.pickT rfl rfl rfl ?_ | refine J.pickF rfl rfl rfl ?_)
  refine J.move rfl rfl ?_
  first | refine J.skip rfl rfl rfl rfl rfl ?_ | refine J.skipU rfl rfl rfl rfl ?_ | (refine J.unguard rfl rfl rfl ?_; refine J.move rfl rfl ?_)
  refine J.unguard rfl rfl rfl ?_
  refine J.bin rfl rfl rfl rfl ?_
  refine J.name 27 rfl (show _ = Value.bool false by simp) ?_
  (first | refine J.pickT rfl rfl rfl ?_ | refine J.pickF rfl rfl rfl ?_)
  refine J.move rfl rfl ?_
  first | refine J.skip rfl rfl rfl rfl rfl ?_ | refine J.skipU rfl rfl rfl rfl ?_ | (refine J.unguard rfl rfl rfl ?_; refine J.move rfl rfl ?_)
  refine J.unguard rfl rfl rfl ?_
  refine J.callB (v := .int .i64 1) (fun w1 w2 hw hb => hw.step hb) Ty.bd18 rfl rfl (fun w1 hw => inc_spec v1 m1 _ 1 w1 (St.owns' hw)) ?_
  refine J.unguard rfl rfl rfl ?_
  refine J.bin rfl rfl rfl rfl ?_
  refine J.name 32 rfl (show _ = Value.bool false by simp) ?_
  (first | refine J.pickT rfl rfl rfl ?_ | refine J.pickF rfl rfl rfl ?_)
  refine J.nil ?_
  refine JX.thenN (hK4 _ _ ?_)
  first | refine JC.condF rfl ?_ | refine JC.cond rfl (fun h => by first | (exfalso; simp at h; omega) | (simp at h)) (fun _ => ?_)
  refine JC.skip ?_
  refine JX.thenN (hK3 _ _ ?_)
  refine JC.seq (fun K5 hK5 => ?_)
  refine JC.region ?_
  refine J.move rfl rfl ?_
  refine J.callB (v := .agg (cI (nI 3)).toArray) (fun w1 w2 hw hb => hw.step hb) Ty.bd38 rfl rfl (fun w1 hw => n18_spec 3 w1) ?_
  refine J.buildSl (cs := ([97].map u8 : List Value)) Ty.el26 Ty.s5 Ty.z5 rfl rfl rfl rfl rfl rfl rfl (fun b37 => ?_)
  refine J.convBytes Ty.u26 Ty.u5 rfl .here rfl ?_
  refine J.perm ((b37, Obj.cells (([97].map u8) : List Value).toArray 5 (1, 2)) :: (v1, vaO (.pointer (some ⟨l1, 0, none⟩)) m1 ((1 : Nat) : Int)) :: (m1, .map es1 ck1) :: (l1, lgO d QF1 false) :: (d, dkO s 20 σ1.p σ1.k) :: (s, dkS σ1.B) :: []) (.refl _) ?_
  refine J.callB (v := .agg (cI (nI 7)).toArray) (fun w1 w2 hw hb => hw.step hb) Ty.bd38 rfl rfl (fun w1 hw => n18_spec 7 w1) ?_
  refine J.perm (vltB v1 m1 l1 d s 20 QF1 false 1 es1 ck1 ⟨σ1.B, σ1.p, σ1.k⟩ ++ [(b37, Obj.cells (([97].map u8) : List Value).toArray 5 (1, 2))]) (by (refine perm_cnt (fun _ => ?_)); simp only [cntB_append, cntB_cons, cntB_nil, Nat.add_zero, Nat.zero_add]; try ac_rfl) ?_
  refine J.callS (α := PutR) (V := PutR.val) (Pr := fun z => z.Pr 20 QF1 false σ1 [] (nI 3) [97] (nI 7)) (L := fun z => z.lst v1 m1 l1 d s 20 1 es1 ck1) Ty.bd24 rfl rfl (fun w1 hw => vput_spec v1 m1 l1 d s 20 1 QF1 false σ1.B σ1.p σ1.k [] es1 ck1 hT1 hV1 hI1 (by omega) hk1 (by omega) (nI 3) (nI 7) [97] (.slice (some ⟨b37, 0, none⟩) 1 1) w1 (St.owns hw) (Row.own (cs := [97].map u8) (tb := 5) (fr := (1, 2)) hw (List.mem_append_right _ (.head _)) rfl (Nat.le_refl _)) (.inr fun b o k c e => by
    simp only [Value.slice.injEq, Option.some.injEq, Addr.mk.injEq] at e
    rw [← e.1.1]
    exact St.off (l1 := vltB v1 m1 l1 d s 20 QF1 false 1 es1 ck1 ⟨σ1.B, σ1.p, σ1.k⟩) hw (o := (b37, Obj.cells (([97].map u8) : List Value).toArray 5 (1, 2)).2) (.head _)) (by decide)) (fun z hz => ?_)
  rcases z with ⟨ez, qz, dz, sz⟩ | ⟨hp9, y, ly, es2, ck2, qz, dz, sz⟩
  · exact absurd (congrArg (fun x => x.1) (hz.1.symm.trans hO2)) hz.2
  obtain ⟨hz1, hz2, hy, hT2⟩ := hz
  have hz3 := hO2.symm.trans hz1
  simp only [Prod.mk.injEq, Option.some.injEq, true_and] at hz3
  obtain ⟨hit, rfl, rfl, rfl⟩ := hz3
  obtain ⟨kh, vh, bh, sh, lh⟩ := hp9
  simp only [HI.it, itF, ItV.mk.injEq] at hit
  obtain ⟨rfl, rfl, rfl⟩ := hit
  simp only at hy
  obtain ⟨ay, cy, rfl, hcy⟩ := hy.form
  refine J.name 40 rfl (show _ = Value.tuple #[.agg (cT (nI 3) ⟨1, nI 7⟩ (.slice ay 1 cy)).toArray, .int .i64 0] from rfl) ?_
  refine J.perm ((v1, vaO (.pointer (some ⟨l1, 0, none⟩)) m1 ((1 : Nat) : Int)) :: (m1, .map es2 ck2) :: (l1, lgO d QF2 false) :: (d, dkO s 20 σ2.p σ2.k) :: (s, dkS σ2.B) :: (lh ++ (ly ++ [(b37, Obj.cells (([97].map u8) : List Value).toArray 5 (1, 2))]))) (by simp only [PutR.lst]; exact (by (refine perm_cnt (fun _ => ?_)); simp only [cntB_append, cntB_cons, cntB_nil, Nat.add_zero, Nat.zero_add]; try ac_rfl)) ?_
  refine J.move rfl rfl ?_
  refine J.extract rfl rfl rfl ?_
  refine J.extract rfl rfl rfl ?_
  refine J.alloc Ty.zIt rfl rfl (fun b4 => ?_)
  refine J.storeW (cs := cH zH) (vs := cT (nI 3) ⟨1, nI 7⟩ (.slice ay 1 cy)) Ty.s28 rfl rfl rfl rfl rfl one_cT .here ?_
  refine J.assign rfl rfl ?_
  refine J.nil ?_
  refine JX.thenN (hK5 _ _ ?_)
  refine JC.seq (fun K6 hK6 => ?_)
  refine JC.region ?_
  refine J.move rfl rfl ?_
  refine J.perm ([(d, dkO s 20 σ2.p σ2.k), (s, dkS σ2.B)] ++ ((v1, vaO (.pointer (some ⟨l1, 0, none⟩)) m1 ((1 : Nat) : Int)) :: (m1, .map es2 ck2) :: (l1, lgO d QF2 false) :: (lh ++ (ly ++ [(b4, cb (cT (nI 3) ⟨1, nI 7⟩ (.slice ay 1 cy)) 28), (b37, Obj.cells (([97].map u8) : List Value).toArray 5 (1, 2))])))) (by (refine perm_cnt (fun _ => ?_)); simp only [cntB_append, cntB_cons, cntB_nil, Nat.add_zero, Nat.zero_add]; try ac_rfl) ?_
  refine J.callS (α := VO) (V := VO.val) (Pr := fun z => z.Pr 20 σ2) (L := fun z => z.lst d s 20) Ty.bd17 rfl rfl (fun w1 hw => vopen_spec d s 20 σ2.B σ2.p σ2.k w1 (St.owns hw) hI2.len (by omega) hk2 (by omega) hI2.p) (fun z hz => ?_)
  rcases z with ⟨ez, sz⟩ | ⟨v2, m2, l2, q1, inc1, L3, es3, ck3, sz⟩
  · exact absurd (congrArg (fun x => x.1) (hz.1.symm.trans hO3)) hz.2
  obtain ⟨hz1, hT3, hV3⟩ := hz
  rw [hO3] at hz1
  simp only [Prod.mk.injEq, Option.some.injEq, true_and] at hz1
  obtain ⟨⟨rfl, rfl, hL3⟩, rfl⟩ := hz1
  obtain ⟨h2, rfl, hit2⟩ := List.map_eq_singleton_iff.1 hL3.symm
  obtain ⟨kh2, vh2, bh2, sv2, lp2⟩ := h2
  simp only [HI.it, itF, ItV.mk.injEq] at hit2
  obtain ⟨rfl, rfl, rfl⟩ := hit2
  refine J.name 45 rfl (show _ = Value.tuple #[.pointer (some ⟨v2, 0, none⟩), .int .i64 0] from rfl) ?_
  refine J.perm ((v2, vaO (.pointer (some ⟨l2, 0, none⟩)) m2 ((2 : Nat) : Int)) :: (m2, .map es3 ck3) :: (l2, lgO d QF3 false) :: (d, dkO s 20 σ3.p σ3.k) :: (s, dkS σ3.B) :: (lp2 ++ ((v1, vaO (.pointer (some ⟨l1, 0, none⟩)) m1 ((1 : Nat) : Int)) :: (m1, .map es2 ck2) :: (l1, lgO d QF2 false) :: (lh ++ (ly ++ [(b4, cb (cT (nI 3) ⟨1, nI 7⟩ (.slice ay 1 cy)) 28), (b37, Obj.cells (([97].map u8) : List Value).toArray 5 (1, 2))]))))) (by simp only [VO.lst, lpsH, List.flatMap_cons, List.flatMap_nil, List.append_nil]; exact (by (refine perm_cnt (fun _ => ?_)); simp only [cntB_append, cntB_cons, cntB_nil, Nat.add_zero, Nat.zero_add]; try ac_rfl)) ?_
  refine J.move rfl rfl ?_
  refine J.extract rfl rfl rfl ?_
  refine J.extract rfl rfl rfl ?_
  refine J.assign rfl rfl ?_
  refine J.assign rfl rfl ?_
  refine J.nil ?_
  refine JX.thenN (hK6 _ _ ?_)
  refine JC.seq (fun K7 hK7 => ?_)
  refine JC.seq (fun K8 hK8 => ?_)
  apply JC.drawX (α := Nat × Unit) 22 (fun x => match x with | ⟨xu, uu⟩ => [.int .i64 0, .bool false, .bool false, .int .i64 0, .bool false, .bool false, .bool false, .pointer (some ⟨v2, 0, none⟩), .bool false, .bool false, .bool false, .pointer (some ⟨v2, 0, none⟩), .int .i64 2, .bool false, .bool false, .bool false, .pointer (some ⟨b4, 0 + 16, none⟩), .agg (cV (⟨1, nI 7⟩ : WV)).toArray, .agg (cI (nI 7)).toArray, .agg (cV (⟨1, nI 7⟩ : WV)).toArray, .bool false, .bool false]) (fun m x => match x with | ⟨xu, uu⟩ => fun w1 => (True) ∧ St w [] ((v2, vaO (.pointer (some ⟨l2, 0, none⟩)) m2 ((2 : Nat) : Int)) :: (m2, .map es3 ck3) :: (l2, lgO d QF3 false) :: (d, dkO s 20 σ3.p σ3.k) :: (s, dkS σ3.B) :: (lp2 ++ ((v1, vaO (.pointer (some ⟨l1, 0, none⟩)) m1 ((1 : Nat) : Int)) :: (m1, .map es2 ck2) :: (l1, lgO d QF2 false) :: (lh ++ (ly ++ [(b4, cb (cT (nI 3) ⟨1, nI 7⟩ (.slice ay 1 cy)) 28), (b37, Obj.cells (([97].map u8) : List Value).toArray 5 (1, 2))]))))) w1) Ty.mixed rfl rfl rfl (by kernel_rfl) rfl rfl ?hinit ?hstep ?htail
  case hinit => exact fun w1 hw => ⟨(0, ()), trivial, hw.drew⟩
  case hstep =>
    refine ⟨fun m x hm hp => ?_, fun m x hm hp => ?_, fun m x hm hp => ?_, fun m x hm hp => ?_, fun m x hm hp => ?_, fun m x hm hp => ?_, fun m x hm hp => ?_, fun m x hm hp => ?_, fun m x hm hp => ?_, fun m x hm hp => ?_, fun m x hm hp => ?_, fun m x hm hp => ?_, fun m x hm hp => ?_, fun m x hm hp => ?_, fun m x hm hp => ?_, fun m x hm hp => ?_, fun m x hm hp => ?_, fun m x hm hp => ?_, fun m x hm hp => ?_, fun m x hm hp => ?_, fun m x hm hp => ?_, fun m x hm hp => ?_, trivial⟩
    · skip
      obtain ⟨xu, uu⟩ := x
      show J _ _ _ _ _ (_) _
      refine J.pr (fun hF => ?_)
      refine J.move rfl rfl ?_
      exact J.finX rfl (fun _ hw => ⟨⟨xu, uu⟩, rfl, fun _ _ _ => rfl, hF, hw⟩)
    · skip
      obtain ⟨xu, uu⟩ := x
      show J _ _ _ _ _ ((48, .int .i64 0) :: _) _
      refine J.pr (fun hF => ?_)
      refine J.bin rfl rfl rfl rfl ?_
      exact J.finX rfl (fun _ hw => ⟨⟨xu, uu⟩, rfl, fun _ _ _ => rfl, hF, hw⟩)
    · skip
      obtain ⟨xu, uu⟩ := x
      show J _ _ _ _ _ ((49, .bool false) :: _) _
      refine J.pr (fun hF => ?_)
      refine J.move rfl rfl ?_
      exact J.finX rfl (fun _ hw => ⟨⟨xu, uu⟩, rfl, fun _ _ _ => rfl, hF, hw⟩)
    · skip
      obtain ⟨xu, uu⟩ := x
      show J _ _ _ _ _ ((50, .bool false) :: _) _
      refine J.pr (fun hF => ?_)
      first | refine J.skip rfl rfl rfl rfl rfl ?_ | refine J.skipU rfl rfl rfl rfl ?_ | (refine J.unguard rfl rfl rfl ?_; refine J.move rfl rfl ?_)
      exact J.finX rfl (fun _ hw => ⟨⟨xu, uu⟩, rfl, fun _ _ _ => rfl, hF, hw⟩)
    · skip
      obtain ⟨xu, uu⟩ := x
      show J _ _ _ _ _ ((50, .bool false) :: (51, .int .i64 0) :: _) _
      refine J.pr (fun hF => ?_)
      first | refine J.skip rfl rfl rfl rfl rfl ?_ | refine J.skipU rfl rfl rfl rfl ?_ | (refine J.unguard rfl rfl rfl ?_; refine J.bin rfl rfl rfl rfl ?_)
      exact J.finX rfl (fun _ hw => ⟨⟨xu, uu⟩, rfl, fun _ _ _ => rfl, hF, hw⟩)
    · skip
      obtain ⟨xu, uu⟩ := x
      show J _ _ _ _ _ ((52, .bool false) :: (50, .bool false) :: _) _
      refine J.pr (fun hF => ?_)
      (first | refine J.pickT rfl rfl rfl ?_ | refine J.pickF rfl rfl rfl ?_)
      exact J.finX rfl (fun _ hw => ⟨⟨xu, uu⟩, rfl, fun _ _ _ => rfl, hF, hw⟩)
    · skip
      obtain ⟨xu, uu⟩ := x
      show J _ _ _ _ _ ((50, .bool false) :: (53, .bool false) :: _) _
      refine J.pr (fun hF => ?_)
      refine J.move rfl rfl ?_
      exact J.finX rfl (fun _ hw => ⟨⟨xu, uu⟩, rfl, fun _ _ _ => rfl, hF, hw⟩)
    · skip
      obtain ⟨xu, uu⟩ := x
      show J _ _ _ _ _ ((54, .bool false) :: _) _
      refine J.pr (fun hF => ?_)
      first | refine J.skip rfl rfl rfl rfl rfl ?_ | refine J.skipU rfl rfl rfl rfl ?_ | (refine J.unguard rfl rfl rfl ?_; refine J.move rfl rfl ?_)
      exact J.finX rfl (fun _ hw => ⟨⟨xu, uu⟩, rfl, fun _ _ _ => rfl, hF, hw⟩)
    · skip
      obtain ⟨xu, uu⟩ := x
      show J _ _ _ _ _ ((54, .bool false) :: (55, .pointer (some ⟨v2, 0, none⟩)) :: _) _
      refine J.pr (fun hF => ?_)
      first | refine J.skip rfl rfl rfl rfl rfl ?_ | refine J.skipU rfl rfl rfl rfl ?_ | (refine J.unguard rfl rfl rfl ?_; refine J.eqNil Ty.u38 rfl rfl rfl ?_)
      exact J.finX rfl (fun _ hw => ⟨⟨xu, uu⟩, rfl, fun _ _ _ => rfl, hF, hw⟩)
    · skip
      obtain ⟨xu, uu⟩ := x
      show J _ _ _ _ _ ((56, .bool false) :: (54, .bool false) :: _) _
      refine J.pr (fun hF => ?_)
      (first | refine J.pickT rfl rfl rfl ?_ | refine J.pickF rfl rfl rfl ?_)
      exact J.finX rfl (fun _ hw => ⟨⟨xu, uu⟩, rfl, fun _ _ _ => rfl, hF, hw⟩)
    · skip
      obtain ⟨xu, uu⟩ := x
      show J _ _ _ _ _ ((54, .bool false) :: (57, .bool false) :: _) _
      refine J.pr (fun hF => ?_)
      refine J.move rfl rfl ?_
      exact J.finX rfl (fun _ hw => ⟨⟨xu, uu⟩, rfl, fun _ _ _ => rfl, hF, hw⟩)
    · skip
      obtain ⟨xu, uu⟩ := x
      show J _ _ _ _ _ ((58, .bool false) :: _) _
      refine J.pr (fun hF => ?_)
      first | refine J.skip rfl rfl rfl rfl rfl ?_ | refine J.skipU rfl rfl rfl rfl ?_ | (refine J.unguard rfl rfl rfl ?_; refine J.move rfl rfl ?_)
      exact J.finX rfl (fun _ hw => ⟨⟨xu, uu⟩, rfl, fun _ _ _ => rfl, hF, hw⟩)
    · skip
      obtain ⟨xu, uu⟩ := x
      show J _ _ _ _ _ ((58, .bool false) :: (58, .bool false) :: (59, .pointer (some ⟨v2, 0, none⟩)) :: _) _
      refine J.pr (fun hF => ?_)
      refine J.unguard rfl rfl rfl ?_
      refine J.callB (v := .int .i64 2) (fun w1 w2 hw hb => hw.step hb) Ty.bd18 rfl rfl (fun w1 hw => inc_spec v2 m2 _ 2 w1 (St.owns' hw)) ?_
      exact J.finX rfl (fun _ hw => ⟨⟨xu, uu⟩, rfl, fun _ _ _ => rfl, hF, hw⟩)
    · skip
      obtain ⟨xu, uu⟩ := x
      show J _ _ _ _ _ ((58, .bool false) :: (60, .int .i64 2) :: _) _
      refine J.pr (fun hF => ?_)
      first | refine J.skip rfl rfl rfl rfl rfl ?_ | refine J.skipU rfl rfl rfl rfl ?_ | (refine J.unguard rfl rfl rfl ?_; refine J.bin rfl rfl rfl rfl ?_)
      exact J.finX rfl (fun _ hw => ⟨⟨xu, uu⟩, rfl, fun _ _ _ => rfl, hF, hw⟩)
    · skip
      obtain ⟨xu, uu⟩ := x
      show J _ _ _ _ _ ((61, .bool false) :: (58, .bool false) :: _) _
      refine J.pr (fun hF => ?_)
      (first | refine J.pickT rfl rfl rfl ?_ | refine J.pickF rfl rfl rfl ?_)
      exact J.finX rfl (fun _ hw => ⟨⟨xu, uu⟩, rfl, fun _ _ _ => rfl, hF, hw⟩)
    · skip
      obtain ⟨xu, uu⟩ := x
      show J _ _ _ _ _ ((60, .int .i64 2) :: (62, .bool false) :: _) _
      refine J.pr (fun hF => ?_)
      refine J.move rfl rfl ?_
      exact J.finX rfl (fun _ hw => ⟨⟨xu, uu⟩, rfl, fun _ _ _ => rfl, hF, hw⟩)
    · skip
      obtain ⟨xu, uu⟩ := x
      show J _ _ _ _ _ ((63, .bool false) :: _) _
      refine J.pr (fun hF => ?_)
      first | refine J.skip rfl rfl rfl rfl rfl ?_ | refine J.skipU rfl rfl rfl rfl ?_ | (refine J.unguard rfl rfl rfl ?_; refine J.fieldAddr Ty.fd28_1 rfl rfl ?_)
      exact J.finX rfl (fun _ hw => ⟨⟨xu, uu⟩, rfl, fun _ _ _ => rfl, hF, hw⟩)
    · skip
      obtain ⟨xu, uu⟩ := x
      show J _ _ _ _ _ ((63, .bool false) :: (64, .pointer (some ⟨b4, 0 + 16, none⟩)) :: _) _
      refine J.pr (fun hF => ?_)
      refine J.unguard rfl rfl rfl ?_
      refine J.loadA (vs := cV ⟨1, nI 7⟩) Ty.a25 Ty.s25 rfl rfl (fun w1 hw => Cells.of_block (hw.own ((b4, cb (cT (nI 3) ⟨1, nI 7⟩ (.slice ay 1 cy)) 28)) (by repeat first | exact .head _ | apply List.Mem.tail | apply List.mem_append_right)) rfl) rfl ?_
      exact J.finX rfl (fun _ hw => ⟨⟨xu, uu⟩, rfl, fun _ _ _ => rfl, hF, hw⟩)
    · skip
      obtain ⟨xu, uu⟩ := x
      show J _ _ _ _ _ ((63, .bool false) :: (63, .bool false) :: _) _
      refine J.pr (fun hF => ?_)
      refine J.unguard rfl rfl rfl ?_
      refine J.callB (v := .agg (cI (nI 7)).toArray) (fun w1 w2 hw hb => hw.step hb) Ty.bd38 rfl rfl (fun w1 hw => n18_spec 7 w1) ?_
      exact J.finX rfl (fun _ hw => ⟨⟨xu, uu⟩, rfl, fun _ _ _ => rfl, hF, hw⟩)
    · skip
      obtain ⟨xu, uu⟩ := x
      show J _ _ _ _ _ ((63, .bool false) :: (66, .agg (cI (nI 7)).toArray) :: _) _
      refine J.pr (fun hF => ?_)
      refine J.unguard rfl rfl rfl ?_
      refine J.buildS (cs := cV ⟨1, nI 7⟩) Ty.pl25 Ty.zVr rfl (by kernel_rfl) rfl ?_
      exact J.finX rfl (fun _ hw => ⟨⟨xu, uu⟩, rfl, fun _ _ _ => rfl, hF, hw⟩)
    · skip
      obtain ⟨xu, uu⟩ := x
      show J _ _ _ _ _ ((63, .bool false) :: (67, .agg (cV (⟨1, nI 7⟩ : WV)).toArray) :: (65, .agg (cV (⟨1, nI 7⟩ : WV)).toArray) :: _) _
      refine J.pr (fun hF => ?_)
      refine J.unguard rfl rfl rfl ?_
      refine J.neV rfl rfl (by decide) (by decide) rfl ?_
      refine J.name 68 rfl (show _ = Value.bool false by simp) ?_
      exact J.finX rfl (fun _ hw => ⟨⟨xu, uu⟩, rfl, fun _ _ _ => rfl, hF, hw⟩)
    · skip
      obtain ⟨xu, uu⟩ := x
      show J _ _ _ _ _ ((68, .bool false) :: (63, .bool false) :: _) _
      refine J.pr (fun hF => ?_)
      (first | refine J.pickT rfl rfl rfl ?_ | refine J.pickF rfl rfl rfl ?_)
      exact J.finX rfl (fun _ hw => ⟨⟨xu, uu⟩, rfl, fun _ _ _ => rfl, hF, hw⟩)
  case htail =>
    intro x
    obtain ⟨xu, uu⟩ := x
    show J _ _ _ _ _ ((69, .bool false) :: (68, .bool false) :: (67, .agg (cV (⟨1, nI 7⟩ : WV)).toArray) :: (66, .agg (cI (nI 7)).toArray) :: (65, .agg (cV (⟨1, nI 7⟩ : WV)).toArray) :: (64, .pointer (some ⟨b4, 0 + 16, none⟩)) :: (63, .bool false) :: (62, .bool false) :: (61, .bool false) :: (60, .int .i64 2) :: (59, .pointer (some ⟨v2, 0, none⟩)) :: (58, .bool false) :: (57, .bool false) :: (56, .bool false) :: (55, .pointer (some ⟨v2, 0, none⟩)) :: (54, .bool false) :: (53, .bool false) :: (52, .bool false) :: (51, .int .i64 0) :: (50, .bool false) :: (49, .bool false) :: (48, .int .i64 0) :: _) (fun w1 => (True) ∧ St w [] ((v2, vaO (.pointer (some ⟨l2, 0, none⟩)) m2 ((2 : Nat) : Int)) :: (m2, .map es3 ck3) :: (l2, lgO d QF3 false) :: (d, dkO s 20 σ3.p σ3.k) :: (s, dkS σ3.B) :: (lp2 ++ ((v1, vaO (.pointer (some ⟨l1, 0, none⟩)) m1 ((1 : Nat) : Int)) :: (m1, .map es2 ck2) :: (l1, lgO d QF2 false) :: (lh ++ (ly ++ [(b4, cb (cT (nI 3) ⟨1, nI 7⟩ (.slice ay 1 cy)) 28), (b37, Obj.cells (([97].map u8) : List Value).toArray 5 (1, 2))]))))) w1)
    refine J.pr (fun hF => ?_)
    refine J.nil ?_
    refine JX.thenN (hK8 _ _ ?_)
    first | refine JC.condF rfl ?_ | refine JC.cond rfl (fun h => by first | (exfalso; simp at h; omega) | (simp at h)) (fun _ => ?_)
    refine JC.skip ?_
    refine JX.thenN (hK7 _ _ ?_)
    refine JC.seq (fun K9 hK9 => ?_)
    refine JC.region ?_
    refine J.move rfl rfl ?_
    refine J.callB (v := .agg (cI (nI 3)).toArray) (fun w1 w2 hw hb => hw.step hb) Ty.bd38 rfl rfl (fun w1 hw => n18_spec 3 w1) ?_
    have hv3 := (hV3 _ (.head _)).2
    simp only at hv3
    refine J.perm ([(v2, vaO (.pointer (some ⟨l2, 0, none⟩)) m2 ((2 : Nat) : Int)), (m2, .map es3 ck3)] ++ ((l2, lgO d QF3 false) :: (d, dkO s 20 σ3.p σ3.k) :: (s, dkS σ3.B) :: (lp2 ++ ((v1, vaO (.pointer (some ⟨l1, 0, none⟩)) m1 ((1 : Nat) : Int)) :: (m1, .map es2 ck2) :: (l1, lgO d QF2 false) :: (lh ++ (ly ++ [(b4, cb (cT (nI 3) ⟨1, nI 7⟩ (.slice ay 1 cy)) 28), (b37, Obj.cells (([97].map u8) : List Value).toArray 5 (1, 2))])))))) (by (refine perm_cnt (fun _ => ?_)); simp only [cntB_append, cntB_cons, cntB_nil, Nat.add_zero, Nat.zero_add]; try ac_rfl) ?_
    refine J.callS (α := Value × List (Nat × Obj)) (V := fun y => .tuple #[.agg (cT (nI 3) ⟨1, nI 7⟩ y.1).toArray, .bool true]) (Pr := fun y => Vec 5 1 y.1 ([97]).length (([97]).map u8) y.2) (L := fun y => y.2 ++ [(v2, vaO (.pointer (some ⟨l2, 0, none⟩)) m2 ((2 : Nat) : Int)), (m2, .map es3 ck3)]) Ty.bd22 rfl rfl (fun w1 hw => vget_spec v2 m2 _ _ _ es3 ck3 hT3 hV3 (nI 3) ⟨nI 3, ⟨1, nI 7⟩, [97], sv2, lp2⟩ true w1 (St.owns hw) (by simp [hget]) (by simp [hget]) (vec_rowM hv3 hw (fun q hq => by simp [hq])) (vec_offM hv3 (fun p0 hp0 => St.off (l1 := [(v2, vaO (.pointer (some ⟨l2, 0, none⟩)) m2 ((2 : Nat) : Int)), (m2, .map es3 ck3)]) hw (o := p0.2) (by simp [hp0]))) (by show 1 ≤ 140737488351232; omega)) (fun y hyg => ?_)
    obtain ⟨vg, lg⟩ := y
    try simp only at hyg ⊢
    obtain ⟨ag, cg, rfl, hcg⟩ := hyg.form
    refine J.move rfl rfl ?_
    refine J.extract rfl rfl rfl ?_
    refine J.extract rfl rfl rfl ?_
    refine J.alloc Ty.zIt rfl rfl (fun b7 => ?_)
    refine J.storeW (cs := cH zH) (vs := cT (nI 3) ⟨1, nI 7⟩ (.slice ag 1 cg)) Ty.s28 rfl rfl rfl rfl rfl one_cT .here ?_
    refine J.perm ((b7, cb (cT (nI 3) ⟨1, nI 7⟩ (.slice ag 1 cg)) 28) :: (lg ++ ((v2, vaO (.pointer (some ⟨l2, 0, none⟩)) m2 ((2 : Nat) : Int)) :: (m2, .map es3 ck3) :: (l2, lgO d QF3 false) :: (d, dkO s 20 σ3.p σ3.k) :: (s, dkS σ3.B) :: (lp2 ++ ((v1, vaO (.pointer (some ⟨l1, 0, none⟩)) m1 ((1 : Nat) : Int)) :: (m1, .map es2 ck2) :: (l1, lgO d QF2 false) :: (lh ++ (ly ++ [(b4, cb (cT (nI 3) ⟨1, nI 7⟩ (.slice ay 1 cy)) 28), (b37, Obj.cells (([97].map u8) : List Value).toArray 5 (1, 2))]))))))) (by (refine perm_cnt (fun _ => ?_)); simp only [cntB_append, cntB_cons, cntB_nil, Nat.add_zero, Nat.zero_add]; try ac_rfl) ?_
    refine J.assign rfl rfl ?_
    refine J.nil ?_
    refine JX.thenN (hK9 _ _ ?_)
    refine JC.seq (fun K10 hK10 => ?_)
    refine JC.region ?_
    refine J.move rfl rfl ?_
    refine J.callB (v := .agg (cI (nI 3)).toArray) (fun w1 w2 hw hb => hw.step hb) Ty.bd38 rfl rfl (fun w1 hw => n18_spec 3 w1) ?_
    refine J.callB (v := .agg (cI (nI 6)).toArray) (fun w1 w2 hw hb => hw.step hb) Ty.bd38 rfl rfl (fun w1 hw => n18_spec 6 w1) ?_
    refine J.buildS (cs := cV ⟨1, nI 6⟩) Ty.pl25 Ty.zVr rfl (by kernel_rfl) rfl ?_
    refine J.buildS (cs := cT (nI 3) ⟨1, nI 6⟩ (.slice none 0 0)) Ty.pl28 Ty.zIt rfl (by kernel_rfl) rfl ?_
    refine J.perm (vltB v2 m2 l2 d s 20 QF3 false 2 es3 ck3 ⟨σ3.B, σ3.p, σ3.k⟩ ++ ((b7, cb (cT (nI 3) ⟨1, nI 7⟩ (.slice ag 1 cg)) 28) :: (lg ++ (lp2 ++ ((v1, vaO (.pointer (some ⟨l1, 0, none⟩)) m1 ((1 : Nat) : Int)) :: (m1, .map es2 ck2) :: (l1, lgO d QF2 false) :: (lh ++ (ly ++ [(b4, cb (cT (nI 3) ⟨1, nI 7⟩ (.slice ay 1 cy)) 28), (b37, Obj.cells (([97].map u8) : List Value).toArray 5 (1, 2))]))))))) (by (refine perm_cnt (fun _ => ?_)); simp only [cntB_append, cntB_cons, cntB_nil, Nat.add_zero, Nat.zero_add]; try ac_rfl) ?_
    refine J.callS (α := MerR) (V := MerR.val) (Pr := fun z => z.Pr 20 QF3 false σ3 [⟨nI 3, ⟨1, nI 7⟩, [97], sv2, lp2⟩] ⟨nI 3, ⟨1, nI 6⟩, []⟩) (L := fun z => z.lst v2 m2 l2 d s 20 2 es3 ck3) Ty.bd19 rfl rfl (fun w1 hw => vmerge_spec v2 m2 l2 d s 20 2 QF3 false σ3.B σ3.p σ3.k _ es3 ck3 hT3 hV3 hI3 (by omega) hk3 (by omega) (cT (nI 3) ⟨1, nI 6⟩ (.slice none 0 0)) (nI 3) ⟨1, nI 6⟩ [] (.slice none 0 0) w1 rfl (St.owns hw) ⟨none, 0, rfl, Nat.le_refl _, .inl rfl⟩ (.inl rfl) (by decide)) (fun z hz => ?_)
    rcases z with ⟨ez, qz, dz, sz⟩ | ⟨hz9, esz, ckz, qz, dz, sz⟩
    rotate_left
    · exact absurd (congrArg (fun x => x.1) (hM6.symm.trans hz.1)) (by simp)
    have hz1 := hM6.symm.trans hz
    simp only [Prod.mk.injEq, true_and] at hz1
    obtain ⟨rfl, rfl, rfl, rfl⟩ := hz1
    refine J.name 82 rfl (show _ = Value.tuple #[.bool false, .int .i64 0] from rfl) ?_
    refine J.perm ((b7, cb (cT (nI 3) ⟨1, nI 7⟩ (.slice ag 1 cg)) 28) :: (lg ++ ((v2, vaO (.pointer (some ⟨l2, 0, none⟩)) m2 ((2 : Nat) : Int)) :: (m2, .map es3 ck3) :: (l2, lgO d QF3 false) :: (d, dkO s 20 σ3.p σ3.k) :: (s, dkS σ3.B) :: (lp2 ++ ((v1, vaO (.pointer (some ⟨l1, 0, none⟩)) m1 ((1 : Nat) : Int)) :: (m1, .map es2 ck2) :: (l1, lgO d QF2 false) :: (lh ++ (ly ++ [(b4, cb (cT (nI 3) ⟨1, nI 7⟩ (.slice ay 1 cy)) 28), (b37, Obj.cells (([97].map u8) : List Value).toArray 5 (1, 2))]))))))) (by simp only [MerR.lst]; exact (by (refine perm_cnt (fun _ => ?_)); simp only [cntB_append, cntB_cons, cntB_nil, Nat.add_zero, Nat.zero_add]; try ac_rfl)) ?_
    refine J.move rfl rfl ?_
    refine J.extract rfl rfl rfl ?_
    refine J.extract rfl rfl rfl ?_
    refine J.assign rfl rfl ?_
    refine J.assign rfl rfl ?_
    refine J.nil ?_
    refine JX.thenN (hK10 _ _ ?_)
    refine JC.seq (fun K11 hK11 => ?_)
    refine JC.region ?_
    refine J.move rfl rfl ?_
    refine J.callB (v := .agg (cI (nI 3)).toArray) (fun w1 w2 hw hb => hw.step hb) Ty.bd38 rfl rfl (fun w1 hw => n18_spec 3 w1) ?_
    refine J.callB (v := .agg (cI (nI 8)).toArray) (fun w1 w2 hw hb => hw.step hb) Ty.bd38 rfl rfl (fun w1 hw => n18_spec 8 w1) ?_
    refine J.buildS (cs := cV ⟨1, nI 8⟩) Ty.pl25 Ty.zVr rfl (by kernel_rfl) rfl ?_
    refine J.buildS (cs := cT (nI 3) ⟨1, nI 8⟩ (.slice none 0 0)) Ty.pl28 Ty.zIt rfl (by kernel_rfl) rfl ?_
    refine J.perm (vltB v2 m2 l2 d s 20 QF3 false 2 es3 ck3 ⟨σ3.B, σ3.p, σ3.k⟩ ++ ((b7, cb (cT (nI 3) ⟨1, nI 7⟩ (.slice ag 1 cg)) 28) :: (lg ++ (lp2 ++ ((v1, vaO (.pointer (some ⟨l1, 0, none⟩)) m1 ((1 : Nat) : Int)) :: (m1, .map es2 ck2) :: (l1, lgO d QF2 false) :: (lh ++ (ly ++ [(b4, cb (cT (nI 3) ⟨1, nI 7⟩ (.slice ay 1 cy)) 28), (b37, Obj.cells (([97].map u8) : List Value).toArray 5 (1, 2))]))))))) (by (refine perm_cnt (fun _ => ?_)); simp only [cntB_append, cntB_cons, cntB_nil, Nat.add_zero, Nat.zero_add]; try ac_rfl) ?_
    refine J.callS (α := MerR) (V := MerR.val) (Pr := fun z => z.Pr 20 QF3 false σ3 [⟨nI 3, ⟨1, nI 7⟩, [97], sv2, lp2⟩] ⟨nI 3, ⟨1, nI 8⟩, []⟩) (L := fun z => z.lst v2 m2 l2 d s 20 2 es3 ck3) Ty.bd19 rfl rfl (fun w1 hw => vmerge_spec v2 m2 l2 d s 20 2 QF3 false σ3.B σ3.p σ3.k _ es3 ck3 hT3 hV3 hI3 (by omega) hk3 (by omega) (cT (nI 3) ⟨1, nI 8⟩ (.slice none 0 0)) (nI 3) ⟨1, nI 8⟩ [] (.slice none 0 0) w1 rfl (St.owns hw) ⟨none, 0, rfl, Nat.le_refl _, .inl rfl⟩ (.inl rfl) (by decide)) (fun z hz => ?_)
    rcases z with ⟨ez, qz, dz, sz⟩ | ⟨hz9, esz, ckz, qz, dz, sz⟩
    · exact absurd (congrArg (fun x => x.1) (hM8.symm.trans hz)) (by simp)
    obtain ⟨hz1, -, -, -⟩ := hz
    have hz2 := hM8.symm.trans hz1
    simp only [Prod.mk.injEq, true_and] at hz2
    obtain ⟨rfl, rfl, rfl⟩ := hz2
    refine J.name 91 rfl (show _ = Value.tuple #[.bool true, .int .i64 0] from rfl) ?_
    refine J.perm ((v2, vaO (.pointer (some ⟨l2, 0, none⟩)) m2 ((2 : Nat) : Int)) :: (m2, .map esz ckz) :: (l2, lgO d q4 false) :: (d, dkO s 20 σ4.p σ4.k) :: (s, dkS σ4.B) :: (b7, cb (cT (nI 3) ⟨1, nI 7⟩ (.slice ag 1 cg)) 28) :: (hz9.lp ++ (lg ++ (lp2 ++ ((v1, vaO (.pointer (some ⟨l1, 0, none⟩)) m1 ((1 : Nat) : Int)) :: (m1, .map es2 ck2) :: (l1, lgO d QF2 false) :: (lh ++ (ly ++ [(b4, cb (cT (nI 3) ⟨1, nI 7⟩ (.slice ay 1 cy)) 28), (b37, Obj.cells (([97].map u8) : List Value).toArray 5 (1, 2))]))))))) (by simp only [MerR.lst]; exact (by (refine perm_cnt (fun _ => ?_)); simp only [cntB_append, cntB_cons, cntB_nil, Nat.add_zero, Nat.zero_add]; try ac_rfl)) ?_
    refine J.move rfl rfl ?_
    refine J.extract rfl rfl rfl ?_
    refine J.extract rfl rfl rfl ?_
    refine J.assign rfl rfl ?_
    refine J.assign rfl rfl ?_
    refine J.nil ?_
    refine JX.thenN (hK11 _ _ ?_)
    refine JC.seq (fun K12 hK12 => ?_)
    refine JC.region ?_
    refine J.move rfl rfl ?_
    refine J.move rfl rfl ?_
    first | refine J.skip rfl rfl rfl rfl rfl ?_ | refine J.skipU rfl rfl rfl rfl ?_ | (refine J.unguard rfl rfl rfl ?_; refine J.fieldAddr Ty.fd28_2 rfl rfl ?_)
    refine J.unguard rfl rfl rfl ?_
    refine J.load1 (v := .slice ag 1 cg) Ty.a26 rfl (fun w1 hw => by rw [cell_of (hw.own ((b7, cb (cT (nI 3) ⟨1, nI 7⟩ (.slice ag 1 cg)) 28)) (by repeat first | exact .head _ | apply List.Mem.tail | apply List.mem_append_right))]; rfl) rfl ?_
    refine J.unguard rfl rfl rfl ?_
    refine J.toStr (m := 1) (bs := [97]) Ty.el26 Ty.u5 Ty.u9 rfl (fun w1 hw => vec_rowM hyg hw (fun q hq => by simp [hq])) rfl rfl ?_
    refine J.unguard rfl rfl rfl ?_
    refine J.strEq (xs := [97]) (ys := [97]) rfl rfl rfl ?_
    refine J.name 99 rfl (show _ = Value.bool true from rfl) ?_
    (first | refine J.pickT rfl rfl rfl ?_ | refine J.pickF rfl rfl rfl ?_)
    refine J.move rfl rfl ?_
    first | refine J.skip rfl rfl rfl rfl rfl ?_ | refine J.skipU rfl rfl rfl rfl ?_ | (refine J.unguard rfl rfl rfl ?_; refine J.move rfl rfl ?_)
    first | refine J.skip rfl rfl rfl rfl rfl ?_ | refine J.skipU rfl rfl rfl rfl ?_ | (refine J.unguard rfl rfl rfl ?_; refine J.not rfl rfl ?_)
    (first | refine J.pickT rfl rfl rfl ?_ | refine J.pickF rfl rfl rfl ?_)
    refine J.move rfl rfl ?_
    first | refine J.skip rfl rfl rfl rfl rfl ?_ | refine J.skipU rfl rfl rfl rfl ?_ | (refine J.unguard rfl rfl rfl ?_; refine J.move rfl rfl ?_)
    (first | refine J.pickT rfl rfl rfl ?_ | refine J.pickF rfl rfl rfl ?_)
    refine J.move rfl rfl ?_
    first | refine J.skip rfl rfl rfl rfl rfl ?_ | refine J.skipU rfl rfl rfl rfl ?_ | (refine J.unguard rfl rfl rfl ?_; refine J.move rfl rfl ?_)
    refine J.unguard rfl rfl rfl ?_
    refine J.callB (v := .bool false) (fun w1 w2 hw hb => hw.step hb) Ty.bd25 rfl rfl (fun w1 hw => vdown_spec v2 m2 l2 d q4 false _ w1 (l := []) (St.owns (l1 := [_, _]) (hw.perm (by (refine perm_cnt (fun _ => ?_)); simp only [cntB_append, cntB_cons, cntB_nil, Nat.add_zero, Nat.zero_add]; try ac_rfl : List.Perm _ ([(v2, vaO (.pointer (some ⟨l2, 0, none⟩)) m2 ((2 : Nat) : Int)), (l2, lgO d q4 false)] ++ ((m2, .map esz ckz) :: (d, dkO s 20 σ4.p σ4.k) :: (s, dkS σ4.B) :: (b7, cb (cT (nI 3) ⟨1, nI 7⟩ (.slice ag 1 cg)) 28) :: (hz9.lp ++ (lg ++ (lp2 ++ ((v1, vaO (.pointer (some ⟨l1, 0, none⟩)) m1 ((1 : Nat) : Int)) :: (m1, .map es2 ck2) :: (l1, lgO d QF2 false) :: (lh ++ (ly ++ [(b4, cb (cT (nI 3) ⟨1, nI 7⟩ (.slice ay 1 cy)) 28), (b37, Obj.cells (([97].map u8) : List Value).toArray 5 (1, 2))])))))))))))) ?_
    first | refine J.skip rfl rfl rfl rfl rfl ?_ | refine J.skipU rfl rfl rfl rfl ?_ | (refine J.unguard rfl rfl rfl ?_; refine J.not rfl rfl ?_)
    (first | refine J.pickT rfl rfl rfl ?_ | refine J.pickF rfl rfl rfl ?_)
    refine J.assign rfl rfl ?_
    refine J.nil ?_
    refine JX.thenN (hK12 _ _ ?_)
    refine JC.ret ?_
    refine JX.ret1 rfl rfl (fun w hw => ?_)
    exact ⟨rfl, (hw.drop (List.nil_sublist _)).below⟩

end Go.Proofs.Ytoaenmlhehcjfaa
/-
  Arguments: arrays of what can be decoded. Proved over any program.
-/
namespace Go.J
open Go.ChangeShapes Go.WideShapes Go.ChangeAt Go.RowKit
set_option linter.unusedVariables false
set_option linter.unusedSimpArgs false
def RArr {α : Type} (k sz : Nat) (R : World → List Value → α → Prop) : World → List Value → List α → Prop := fun w cs xs =>
  cs.length = k * sz ∧ xs.length = k ∧ ∀ i x, xs[i]? = some x → R w ((cs.drop (i * sz)).take sz) x
/-- an array of two -/
theorem RArr.two {α : Type} {sz : Nat} {R : World → List Value → α → Prop} {w : World} {cs : List Value} {xs : List α} (h : RArr 2 sz R w cs xs) : ∃ a b c1 c2, cs = c1 ++ c2 ∧ R w c1 a ∧ R w c2 b := by
  obtain ⟨h1, h2, h3⟩ := h
  match xs, h2 with
  | [a, b], _ =>
    refine ⟨a, b, cs.take sz, cs.drop sz, (List.take_append_drop _ _).symm, ?_, ?_⟩
    · have := h3 0 a rfl
      simpa using this
    · have := h3 1 b rfl
      rw [Nat.one_mul, List.take_of_length_le (by rw [List.length_drop]; omega)] at this
      exact this
end Go.J
/-
  The calculus: slices whose capacity may end ahead of their block; s[lo:hi:max]; rows of anything. Proved over any program.
-/
namespace Go.J
open Go.RowKit
set_option linter.unusedVariables false
set_option linter.unusedSimpArgs false
/-- a slice of the call's own of which the block may hold more than its capacity -/
def VecW (t sz : Nat) (v : Value) (k : Nat) (xs : List Value) (lp : List (Nat × Obj)) : Prop :=
  xs.length = k * sz ∧ ((v = .slice none 0 0 ∧ k = 0 ∧ lp = []) ∨ ∃ b c sp, v = .slice (some ⟨b, 0, none⟩) k c ∧ lp = [(b, cb (xs ++ sp) t)] ∧ c * sz ≤ (xs ++ sp).length ∧ k ≤ c)
theorem Vec.weak {t sz : Nat} {v : Value} {k : Nat} {xs : List Value} {lp : List (Nat × Obj)} (h : Vec t sz v k xs lp) : VecW t sz v k xs lp := by
  refine ⟨h.1, ?_⟩
  rcases h.2 with h | ⟨b, c, sp, h1, h2, h3, h4⟩
  · exact .inl h
  · exact .inr ⟨b, c, sp, h1, h2, Nat.le_of_eq h3.symm, h4⟩
theorem VecW.nil (t sz : Nat) : VecW t sz (.slice none 0 0) 0 [] [] := (Vec.nil t sz).weak
theorem VecW.row {w0 w : World} {S : List Nat} {l lp : List (Nat × Obj)} {t sz : Nat} {v : Value} {k : Nat} {xs : List Value} (h : VecW t sz v k xs lp) (hw : St w0 S (lp ++ l) w) : Row w v k xs := by
  obtain ⟨hl, h⟩ := h
  rcases h with ⟨rfl, rfl, rfl⟩ | ⟨b, c, sp, rfl, rfl, _, hk⟩
  · exact ⟨none, 0, rfl, Nat.le_refl _, .inl (List.eq_nil_of_length_eq_zero (by simpa using hl))⟩
  · exact Row.own (cs := xs ++ sp) (tb := t) (fr := (0, 0)) hw (.head _) (by simp) hk
theorem VecW.form {t sz : Nat} {v : Value} {k : Nat} {xs : List Value} {lp : List (Nat × Obj)} (h : VecW t sz v k xs lp) : ∃ a c, v = .slice a k c ∧ k ≤ c := by
  rcases h.2 with ⟨rfl, rfl, rfl⟩ | ⟨b, c, sp, rfl, rfl, _, hk⟩
  · exact ⟨none, 0, rfl, Nat.le_refl _⟩
  · exact ⟨_, c, rfl, hk⟩
/-- its first j elements, with no more room than that -/
theorem VecW.cut {t sz : Nat} {a : Option Addr} {k c j : Nat} {xs : List Value} {lp : List (Nat × Obj)} (h : VecW t sz (.slice a k c) k xs lp) (hj : j ≤ k) : VecW t sz (.slice a j j) j (xs.take (j * sz)) lp := by
  have hl := h.1
  have hle : j * sz ≤ xs.length := by rw [hl]; exact Nat.mul_le_mul_right _ hj
  refine ⟨by rw [List.length_take]; omega, ?_⟩
  rcases h.2 with ⟨h1, h2, h3⟩ | ⟨b, c', sp, h1, h2, h3, h4⟩
  · simp only [Value.slice.injEq] at h1
    obtain ⟨rfl, _, _⟩ := h1
    obtain rfl : j = 0 := by omega
    exact .inl ⟨rfl, rfl, h3⟩
  · simp only [Value.slice.injEq] at h1
    obtain ⟨rfl, _, _⟩ := h1
    refine .inr ⟨b, j, xs.drop (j * sz) ++ sp, rfl, ?_, ?_, Nat.le_refl _⟩
    · rw [h2, ← List.append_assoc, List.take_append_drop]
    · rw [← List.append_assoc, List.take_append_drop, List.length_append]; omega
section
variable {P : Program} {ops : Array Oper} {Q : Exit → Act → World → Prop} {n : Nat} {e : Env} {I I' : World → Prop} {rest : List Oper}
variable {d t : Nat} {p : String} {af : Array Edge} {x y z : Operand} {v v1 v2 : Value} {w0 : World} {S : List Nat} {l l' lp : List (Nat × Obj)}
end
end Go.J
/-
  Arguments: slices of what has fixed cells, as rows. Proved over any program.
-/
namespace Go.J
open Go.ChangeShapes Go.WideShapes Go.ChangeAt Go.RowKit
set_option linter.unusedVariables false
set_option linter.unusedSimpArgs false
end Go.J
/-
  A nil vault; items that come in; VaultNil: the walk.
-/
namespace Go.Proofs.Ytoaenmlhehcjfaa
open Go.J Go.RowKit
set_option linter.unusedVariables false
set_option linter.unusedSimpArgs false
set_option maxRecDepth 8000
def RId : World → List Value → IDV → Prop := fun _ cs a => cs = cI a
theorem dec_id : Decodes Try.prog 23 RId := by
  intro H enc w fuel cs x h hn
  obtain ⟨bs, hl, rfl⟩ := dec_bytes Ty.ar23 Ty.u5 Ty.s5 Ty.s23 H enc w fuel cs x h hn
  exact ⟨idB bs, (cI_idB hl).symm⟩
/-- an item that comes in -/
structure ItX where
  key : IDV
  ver : WV
  v : Sl UInt8
def RVr : World → List Value → WV → Prop := fun _ cs x => cs = cV x ∧ okN x.n
def RIt : World → List Value → ItX → Prop := fun W cs x => cs = cT x.key x.ver x.v.v ∧ okN x.ver.n ∧ RSl 1 1 RU8 W [x.v.v] x.v
theorem fsVx : fieldsT Try.prog 25 = some [(2, 0, 1), (23, 1, 16)] := by kernel_rfl
theorem fsIx : fieldsT Try.prog 28 = some [(23, 0, 16), (25, 16, 17), (26, 33, 1)] := by kernel_rfl
theorem split2s {cs a b : List Value} {k m : Nat} (h1 : (cs.drop 0).take k = a) (h2 : (cs.drop k).take m = b) (hl : cs.length = k + m) : cs = a ++ b := by
  rw [List.drop_zero] at h1
  have h3 : (cs.drop k).take m = cs.drop k := List.take_of_length_le (by rw [List.length_drop]; omega)
  rw [← h1, ← h2, h3, List.take_append_drop]
theorem dec_ver : Decodes Try.prog 25 RVr := by
  intro H enc w fuel cs x h hn
  have hl := dec_len Ty.a25 Ty.s25 h
  obtain ⟨n, hi, wi⟩ := dec_field fsVx h hn 0 _ rfl (dec_int Ty.u2)
  obtain ⟨a, ha⟩ := dec_field fsVx h hn 1 _ rfl dec_id
  exact ⟨⟨n, a⟩, split2s (k := 1) (m := 16) hi ha hl, wi⟩
theorem dec_itx : Decodes Try.prog 28 RIt := by
  intro H enc w fuel cs x h hn
  have hl := dec_len Ty.a28 Ty.s28 h
  obtain ⟨a, ha⟩ := dec_field fsIx h hn 0 _ rfl dec_id
  obtain ⟨v, hv, wv⟩ := dec_field fsIx h hn 1 _ rfl dec_ver
  obtain ⟨s, hs⟩ := dec_field fsIx h hn 2 _ rfl (dec_slice Ty.el26 Ty.s5 Ty.b5 (by omega) (dec_u8 Ty.u5))
  have hd : ∀ (k j : Nat), (cs.drop k).drop j = cs.drop (k + j) := fun k j => by rw [List.drop_drop]
  have e1 : (cs.drop 33).take 1 = [s.v] := hs.1
  have q1 : cs.drop 16 = cV v ++ [s.v] := split2s (k := 17) (m := 1) (by simpa using hv) (by rw [hd]; exact e1) (by simp; omega)
  have q0 : cs = cI a ++ cs.drop 16 := split2s (k := 16) (m := 18) ha (List.take_of_length_le (by simp; omega)) hl
  refine ⟨⟨a, v, s⟩, ?_, wv, ?_⟩
  · show cs = cI a ++ cV v ++ [s.v]
    rw [q0, q1, List.append_assoc]
  · have := hs; rw [show ((cs.drop (_ : Nat)).take _) = [s.v] from e1] at this; exact this
theorem reach_len1 {W : World} {s : Sl UInt8} {cs : List Value} (h : RSl 1 1 RU8 W cs s) : s.xs.length ≤ 140737488351232 := by
  have h1 := h.2.1
  have h2 := h.2.2.1
  have h3 : reachBytes = 140737488351232 := rfl
  omega

end Go.Proofs.Ytoaenmlhehcjfaa
/-
  The document's Num, Text, Newer, Form: contracts; VaultForms: the walk.
-/
namespace Go.Proofs.Ytoaenmlhehcjfaa
open Go.J Go.RowKit
set_option linter.unusedVariables false
set_option linter.unusedSimpArgs false
set_option maxRecDepth 8000
section
variable {P : Program} {ops : Array Oper} {Q : Exit → Act → World → Prop} {n : Nat} {e : Env} {I I' : World → Prop} {rest : List Oper}
variable {d t yt : Nat} {p : String} {af : Array Edge} {x y z : Operand}
theorem J.quoU {ty : TypeId} {a b : Int} (hx : ev e x = some (.int .u64 a)) (hy : ev e y = some (.int .u64 b)) (h1 : 0 ≤ a) (h2 : a < 18446744073709551616) (h3 : 0 < b) (hd : Nat.blt d n = true)
    (h : J P ops Q n rest ((d, .int .u64 (a / b)) :: e) I) : J P ops Q n (⟨some d, .binOp .quo ty x y yt, t, p, af, none⟩ :: rest) e I := by
  refine J.bin (v := .int .u64 (IntKind.u64.wrap (a.tdiv b))) hx hy ?_ hd ?_
  · simp only [binI, if_true]
    rw [if_neg (by omega)]
  · rw [Int.tdiv_eq_ediv_of_nonneg h1]
    have h4 : 0 ≤ a / b := Int.ediv_nonneg h1 (by omega)
    have h5 : a / b ≤ a := Int.ediv_le_self b h1
    rw [wrap_u64 (by omega) (by omega)]
    exact h
theorem J.remU {ty : TypeId} {a b : Int} (hx : ev e x = some (.int .u64 a)) (hy : ev e y = some (.int .u64 b)) (h1 : 0 ≤ a) (h3 : 0 < b) (hd : Nat.blt d n = true)
    (h : J P ops Q n rest ((d, .int .u64 (a % b)) :: e) I) : J P ops Q n (⟨some d, .binOp .rem ty x y yt, t, p, af, none⟩ :: rest) e I := by
  refine J.bin (v := .int .u64 (a.tmod b)) hx hy ?_ hd ?_
  · simp only [binI, if_true]
    rw [if_neg (by omega)]
  · rw [Int.tmod_eq_emod_of_nonneg h1]; exact h
end
structure ByM where
  i : Nat
  m : Nat
  v : Value
  lp : List (Nat × Obj)
/-- a number's bytes, the lowest first -/
def lowB (n k : Nat) : List UInt8 := (List.range k).map (fun i => UInt8.ofNat (n / 256 ^ i))
theorem lowB_len (n k : Nat) : (lowB n k).length = k := by simp [lowB]
theorem lowB_snoc (n k : Nat) : lowB n (k + 1) = lowB n k ++ [UInt8.ofNat (n / 256 ^ k)] := by
  unfold lowB
  rw [List.range_succ, List.map_append]; rfl
theorem lowB_at (n k j : Nat) (h : j < k) : (lowB n k)[j]'(by rw [lowB_len]; exact h) = UInt8.ofNat (n / 256 ^ j) := by simp [lowB]
theorem wid_at {n k : Nat} (hn : n < 18446744073709551616) (h : k ≤ wid n) : 0 < n / 256 ^ k ↔ k < wid n := by
  rcases Nat.lt_or_ge k (wid n) with h1 | h1
  · have h2 := wid_le n
    have h3 := wid_lt (n := n) (k := k) (by omega)
    rw [Nat.pow_mul] at h3
    have h6 : (2 : Nat) ^ 8 = 256 := by decide
    rw [h6] at h3
    exact h3.symm
  · have : k = wid n := by omega
    subst this
    rw [Nat.div_eq_of_lt (wid_ub hn)]
    omega
theorem byte_low (m : Nat) : Value.int .u8 (IntKind.u8.wrap (((m : Nat) : Int) % 256)) = u8 (UInt8.ofNat m) := by
  rw [show ((m : Nat) : Int) % 256 = ((m % 256 : Nat) : Int) by omega, conv_u8]
  congr 1
  apply UInt8.toNat_inj.1
  simp

theorem numB_step {n q : Nat} (h : q + 1 ≤ wid n) : (numB n).take (1 + (wid n - (q + 1))) ++ [UInt8.ofNat (n / 256 ^ q)] = (numB n).take (1 + (wid n - q)) := by
  have h1 := numB_snoc (n := n) (i := wid n - (q + 1)) (by omega)
  rw [show wid n - (q + 1) + 1 = wid n - q by omega, show wid n - 1 - (wid n - (q + 1)) = q by omega, Nat.pow_mul] at h1
  exact h1.symm

theorem rnum_spec (n : Nat) (w : World) (hn : n < 18446744073709551616) :
    Calls Try.prog 41 [.int .u64 ((n : Nat) : Int)].toArray w fun r w' => ∃ x : Value × List (Nat × Obj), r = .returned x.1 ∧ Vec 5 1 x.1 (numB n).length ((numB n).map u8) x.2 ∧ St w [] x.2 w' := by
  refine calls_of_J (args := [.int .u64 ((n : Nat) : Int)]) (e := [(0, .int .u64 ((n : Nat) : Int))]) Try.func41 rfl rfl ⟨rfl, trivial⟩ (St.start w) ?_
  refine JC.seq (fun K0 hK0 => ?_)
  refine JC.region ?_
  refine J.assign rfl rfl ?_
  refine J.nil ?_
  refine JX.thenN (hK0 _ _ ?_)
  refine JC.seq (fun K1 hK1 => ?_)
  refine JC.region ?_
  refine J.assign rfl rfl ?_
  refine J.nil ?_
  refine JX.thenN (hK1 _ _ ?_)
  refine JC.seq (fun K2 hK2 => ?_)
  refine JC.block ?_
  refine JC.conseq (JC.cov (f := (fun st => [(0, .int .u64 ((st.m : Nat) : Int)), (3, st.v)]) (⟨0, n, .slice none 0 0, []⟩ : ByM)) ⟨rfl, rfl, trivial⟩ (JC.loop (α := ByM) (fun st => [(0, .int .u64 ((st.m : Nat) : Int)), (3, st.v)]) (fun st w' => (st.i ≤ wid n ∧ st.m = n / 256 ^ st.i ∧ Vec 5 1 st.v (lowB n st.i).length ((lowB n st.i).map u8) st.lp) ∧ St w [] st.lp w') (fun st => wid n - st.i) (⟨0, n, .slice none 0 0, []⟩ : ByM) (fun st => ?_))) (fun w hw => ⟨⟨Nat.zero_le _, by simp, Vec.nil _ _⟩, hw⟩)
  obtain ⟨k, nk, v3, l3⟩ := st
  refine JC.pr (fun hI => ?_)
  obtain ⟨hk, hnk, hv3⟩ := hI
  try simp only at hk hnk hv3 ⊢
  have hw8 := wid_le n
  have hll := lowB_len n k
  have hle : nk ≤ n := by rw [hnk]; exact Nat.div_le_self _ _
  have hwa := wid_at hn hk
  rw [← hnk] at hwa
  refine JC.seq (fun K3 hK3 => ?_)
  refine JC.seq (fun K4 hK4 => ?_)
  refine JC.region ?_
  refine J.move rfl rfl ?_
  refine J.bin rfl rfl rfl rfl ?_
  refine J.nil ?_
  refine JX.thenN (hK4 _ _ ?_)
  refine JC.cond rfl (fun h0 => ?_) (fun h0 => ?_)
  · skip
    have hlt : k < wid n := hwa.1 (by simp at h0; omega)
    refine JC.skip ?_
    refine JX.thenN (hK3 _ _ ?_)
    refine JC.seq (fun K5 hK5 => ?_)
    refine JC.block ?_
    refine JC.region ?_
    refine J.move rfl rfl ?_
    refine J.move rfl rfl ?_
    refine J.remU rfl rfl (by omega) (by omega) rfl ?_
    refine J.convInt Ty.u81 Ty.u5 rfl rfl ?_
    refine J.name 13 rfl (byte_low nk) ?_
    refine J.buildSl Ty.el26 Ty.s5 Ty.z5 rfl rfl rfl rfl rfl rfl rfl (fun b14 => ?_)
    refine J.perm (l3 ++ ((b14, cb ([UInt8.ofNat nk].map u8) 5) :: [])) (by (refine perm_cnt (fun _ => ?_)); simp only [cntB_append, cntB_cons, cntB_nil, Nat.add_zero, Nat.zero_add]; try ac_rfl) ?_
    refine J.append (lp := l3) (xs := (lowB n k).map u8) (ys := ([UInt8.ofNat nk]).map u8) (k := (lowB n k).length) (m := ([UInt8.ofNat nk]).length) Ty.el26 Ty.s5 Ty.b5 Ty.z5 rfl (.inl ⟨5, Ty.u26⟩) rfl rfl hv3 (fun w1 hw => .inl (Row.own (cs := ([UInt8.ofNat nk]).map u8) (tb := 5) (fr := (0, 0)) hw (List.mem_append_right _ (.head _)) (List.take_of_length_le (Nat.le_refl _)) (Nat.le_refl _))) (by rw [List.length_map, Nat.mul_one]) (one_u8 _) (by simp only [List.length_singleton]; omega) (by simp only [List.length_singleton]; omega) rfl (fun v15 l15 hv15 => ?_)
    rw [← List.map_append, ← List.length_append] at hv15
    rw [hnk, ← lowB_snoc] at hv15
    refine J.assign rfl rfl ?_
    refine J.nil ?_
    refine JX.blockN ?_
    refine JX.thenN (hK5 _ _ ?_)
    refine JC.region ?_
    refine J.move rfl rfl ?_
    refine J.quoU rfl rfl (by omega) (by omega) (by omega) rfl ?_
    refine J.name 9 rfl (show _ = Value.int .u64 ((nk / 256 : Nat) : Int) from congrArg (Value.int .u64) (by omega)) ?_
    refine J.assign rfl rfl ?_
    refine J.nil ?_
    refine JX.thenN ?_
    refine JX.again (⟨k + 1, nk / 256, v15, l15⟩ : ByM) ?_ ?_ ?_
    · simp only; omega
    · exact ⟨rfl, rfl, trivial⟩
    · exact fun w1 hw => ⟨⟨hlt, by simp only; rw [hnk, Nat.pow_succ, Nat.div_div_eq_div_mul], hv15⟩, hw.drop (List.sublist_append_left _ _)⟩
  · skip
    have hke : k = wid n := by
      rcases Nat.lt_or_ge k (wid n) with h9 | h9
      · have := hwa.2 h9
        simp at h0; omega
      · omega
    subst hke
    obtain ⟨a3, c3, rfl, hc3⟩ := hv3.form
    have hw9 : (lowB n (wid n)).length = wid n := lowB_len n _
    refine JC.exit ?_
    refine JX.thenE ?_
    refine JX.thenE ?_
    refine JX.blockE ?_
    refine JX.thenN (hK2 _ _ ?_)
    refine JC.seq (fun K6 hK6 => ?_)
    refine JC.region ?_
    refine J.move rfl rfl ?_
    refine J.lenS rfl Ty.u26 rfl rfl ?_
    refine J.convInt Ty.u3 Ty.u5 rfl rfl ?_
    refine J.name 18 rfl (show _ = u8 (UInt8.ofNat (wid n)) by rw [conv_u8, hw9]) ?_
    refine J.buildSl (cs := [UInt8.ofNat (wid n)].map u8) Ty.el26 Ty.s5 Ty.z5 rfl rfl rfl rfl rfl rfl rfl (fun b19 => ?_)
    refine J.assign rfl rfl ?_
    refine J.nil ?_
    refine JX.thenN (hK6 _ _ ?_)
    refine JC.seq (fun K7 hK7 => ?_)
    refine JC.seq (fun K8 hK8 => ?_)
    refine JC.region ?_
    refine J.move rfl rfl ?_
    refine J.lenS rfl Ty.u26 rfl rfl ?_
    refine J.subN rfl rfl (by omega) (by omega) rfl ?_
    refine J.name 22 rfl (show _ = Value.int .i64 (((wid n : Nat) : Int) - 1) from congrArg (Value.int .i64) (by omega)) ?_
    refine J.assign rfl rfl ?_
    refine J.nil ?_
    refine JX.thenN (hK8 _ _ ?_)
    refine JC.block ?_
    refine JC.conseq (JC.cov (f := (fun st => [(3, .slice a3 (lowB n (wid n)).length c3), (4, st.v), (5, .int .i64 (((st.i : Nat) : Int) - 1))]) (⟨wid n, .slice (some ⟨b19, 0, none⟩) 1 1, [(b19, cb ([UInt8.ofNat (wid n)].map u8) 5)]⟩ : ByS)) ⟨rfl, rfl, rfl, trivial⟩ (JC.loop (α := ByS) (fun st => [(3, .slice a3 (lowB n (wid n)).length c3), (4, st.v), (5, .int .i64 (((st.i : Nat) : Int) - 1))]) (fun st w' => (st.i ≤ wid n ∧ Vec 5 1 st.v (((numB n).take (1 + (wid n - st.i)))).length ((((numB n).take (1 + (wid n - st.i)))).map u8) st.lp) ∧ St w [] (st.lp ++ l3) w') (fun st => st.i) (⟨wid n, .slice (some ⟨b19, 0, none⟩) 1 1, [(b19, cb ([UInt8.ofNat (wid n)].map u8) 5)]⟩ : ByS) (fun st => ?_))) (fun w hw => ⟨⟨Nat.le_refl _, by simp only; rw [Nat.sub_self]; exact ⟨rfl, .inr ⟨b19, 1, [], rfl, rfl, rfl, Nat.le_refl _⟩⟩⟩, hw⟩)
    obtain ⟨j, v4, l4⟩ := st
    refine JC.pr (fun hI => ?_)
    obtain ⟨hj, hv4⟩ := hI
    try simp only at hj hv4 ⊢
    have hnl := numB_len n
    refine JC.seq (fun K9 hK9 => ?_)
    refine JC.seq (fun K10 hK10 => ?_)
    refine JC.region ?_
    refine J.move rfl rfl ?_
    refine J.bin rfl rfl rfl rfl ?_
    refine J.nil ?_
    refine JX.thenN (hK10 _ _ ?_)
    refine JC.cond rfl (fun h1 => ?_) (fun h1 => ?_)
    · skip
      obtain ⟨q, rfl⟩ : ∃ q, j = q + 1 := ⟨j - 1, by simp at h1; omega⟩
      obtain ⟨q3, sp3, rfl, rfl, hq3⟩ : ∃ b sp, a3 = some ⟨b, 0, none⟩ ∧ l3 = [(b, cb ((lowB n (wid n)).map u8 ++ sp) 5)] ∧ (lowB n (wid n)).length ≤ c3 := by
        rcases hv3.2 with ⟨_, h9, _⟩ | ⟨b, c, sp, h9, h10, _, h11⟩
        · omega
        · simp only [Value.slice.injEq] at h9
          obtain ⟨h9, -, rfl⟩ := h9
          exact ⟨b, sp, h9, h10, h11⟩
      refine JC.skip ?_
      refine JX.thenN (hK9 _ _ ?_)
      refine JC.seq (fun K11 hK11 => ?_)
      refine JC.block ?_
      refine JC.region ?_
      refine J.move rfl rfl ?_
      refine J.move rfl rfl ?_
      refine J.move rfl rfl ?_
      refine J.name 29 rfl (show _ = Value.int .i64 ((q : Nat) : Int) from congrArg (Value.int .i64) (by omega)) ?_
      refine J.indexAddrS Ty.el26 Ty.s5 rfl rfl (by omega) (by omega) rfl ?_
      refine J.load1 (v := u8 (UInt8.ofNat (n / 256 ^ q))) Ty.a5 rfl (fun w1 hw => (cell_of (hw.own (q3, cb ((lowB n (wid n)).map u8 ++ sp3) 5) (by repeat first | exact .head _ | apply List.Mem.tail | apply List.mem_append_right))).trans (by rw [at_u8 (by omega), lowB_at n _ q (by omega)])) rfl ?_
      refine J.buildSl (cs := [UInt8.ofNat (n / 256 ^ q)].map u8) Ty.el26 Ty.s5 Ty.z5 rfl rfl rfl rfl rfl rfl rfl (fun b32 => ?_)
      refine J.perm (l4 ++ ((b32, cb (([UInt8.ofNat (n / 256 ^ q)]).map u8) 5) :: [(q3, cb ((lowB n (wid n)).map u8 ++ sp3) 5)])) (by (refine perm_cnt (fun _ => ?_)); simp only [cntB_append, cntB_cons, cntB_nil, Nat.add_zero, Nat.zero_add]; try ac_rfl) ?_
      refine J.append (lp := l4) (xs := (((numB n).take (1 + (wid n - (q + 1))))).map u8) (ys := ([UInt8.ofNat (n / 256 ^ q)]).map u8) (k := (((numB n).take (1 + (wid n - (q + 1))))).length) (m := ([UInt8.ofNat (n / 256 ^ q)]).length) Ty.el26 Ty.s5 Ty.b5 Ty.z5 rfl (.inl ⟨5, Ty.u26⟩) rfl rfl hv4 (fun w1 hw => .inl (Row.own (cs := ([UInt8.ofNat (n / 256 ^ q)]).map u8) (tb := 5) (fr := (0, 0)) hw (List.mem_append_right _ (.head _)) (List.take_of_length_le (Nat.le_refl _)) (Nat.le_refl _))) (by rw [List.length_map, Nat.mul_one]) (one_u8 _) (by simp only [List.length_singleton, List.length_take]; omega) (by simp only [List.length_singleton, List.length_take]; omega) rfl (fun v33 l33 hv33 => ?_)
      rw [← List.map_append, ← List.length_append] at hv33
      rw [numB_step hj] at hv33
      refine J.assign rfl rfl ?_
      refine J.nil ?_
      refine JX.blockN ?_
      refine JX.thenN (hK11 _ _ ?_)
      refine JC.region ?_
      refine J.move rfl rfl ?_
      refine J.subN rfl rfl (by omega) (by omega) rfl ?_
      refine J.name 26 rfl (show _ = Value.int .i64 (((q : Nat) : Int) - 1) from congrArg (Value.int .i64) (by omega)) ?_
      refine J.assign rfl rfl ?_
      refine J.nil ?_
      refine JX.thenN ?_
      refine JX.again (⟨q, v33, l33⟩ : ByS) ?_ ?_ ?_
      · simp only; omega
      · exact ⟨rfl, rfl, rfl, trivial⟩
      · exact fun w1 hw => ⟨⟨by simp only; omega, hv33⟩, (hw.perm (by (refine perm_cnt (fun _ => ?_)); simp only [cntB_append, cntB_cons, cntB_nil, Nat.add_zero, Nat.zero_add]; try ac_rfl : List.Perm _ ((b32, cb ([UInt8.ofNat (n / 256 ^ q)].map u8) 5) :: (l33 ++ [(q3, cb ((lowB n (wid n)).map u8 ++ sp3) 5)])))).drop (List.sublist_cons_self _ _)⟩
    · skip
      have hj0 : j = 0 := by simp at h1; omega
      subst hj0
      rw [Nat.sub_zero, List.take_of_length_le (by rw [hnl]; exact Nat.le_refl _)] at hv4
      refine JC.exit ?_
      refine JX.thenE ?_
      refine JX.thenE ?_
      refine JX.blockE ?_
      refine JX.thenN (hK7 _ _ ?_)
      refine JC.seq (fun K12 hK12 => ?_)
      refine JC.region ?_
      refine J.move rfl rfl ?_
      refine J.assign rfl rfl ?_
      refine J.nil ?_
      refine JX.thenN (hK12 _ _ ?_)
      refine JC.ret ?_
      refine JX.ret1 rfl rfl (fun w hw => ?_)
      exact ⟨(v4, l4), rfl, hv4, hw.drop (List.sublist_append_left _ _)⟩

theorem rtext_spec (v : Value) (bs : List UInt8) (w : World) (hr : Row w v bs.length (bs.map u8)) (hl : bs.length ≤ 140737488351232) :
    Calls Try.prog 42 [v].toArray w fun r w' => ∃ x : Value × List (Nat × Obj), r = .returned x.1 ∧ Vec 5 1 x.1 (textB bs).length ((textB bs).map u8) x.2 ∧ St w [] x.2 w' := by
  obtain ⟨a, c, rfl, hc, _⟩ := id hr
  refine calls_of_J (args := [.slice a bs.length c]) (e := [(0, .slice a bs.length c)]) Try.func42 rfl rfl ⟨rfl, trivial⟩ (St.start w) ?_
  refine JC.seq (fun K0 hK0 => ?_)
  refine JC.region ?_
  refine J.assign rfl rfl ?_
  refine J.nil ?_
  refine JX.thenN (hK0 _ _ ?_)
  refine JC.seq (fun K1 hK1 => ?_)
  refine JC.region ?_
  refine J.move rfl rfl ?_
  refine J.lenS rfl Ty.u26 rfl rfl ?_
  refine J.convInt Ty.u3 Ty.u81 rfl rfl ?_
  refine J.name 5 rfl (show _ = Value.int .u64 ((bs.length : Nat) : Int) from congrArg (Value.int .u64) (wrap_u64 (by omega) (by omega))) ?_
  refine J.perm ([] ++ ([])) (.refl _) ?_
  refine J.callS (α := Value × List (Nat × Obj)) (V := (·.1)) (Pr := fun x => Vec 5 1 x.1 (numB bs.length).length ((numB bs.length).map u8) x.2) (L := (·.2)) (l1 := []) Ty.bd41 rfl rfl (fun w1 hw => rnum_spec bs.length w1 (by omega)) (fun x hv6 => ?_)
  obtain ⟨v6, l6⟩ := x
  simp only at hv6 ⊢
  have hn9 := numB_le bs.length
  refine J.move rfl rfl ?_
  refine J.perm (l6 ++ ([])) (by (refine perm_cnt (fun _ => ?_)); simp only [cntB_append, cntB_cons, cntB_nil, Nat.add_zero, Nat.zero_add]; try ac_rfl) ?_
  refine J.append (lp := l6) (xs := (numB bs.length).map u8) (ys := (bs).map u8) (k := (numB bs.length).length) (m := (bs).length) Ty.el26 Ty.s5 Ty.b5 Ty.z5 rfl (.inl ⟨5, Ty.u26⟩) rfl rfl hv6 (fun w1 hw => .inl (hr.below (hw.drop (List.nil_sublist _)).below)) (by rw [List.length_map, Nat.mul_one]) (one_u8 _) (by omega) (by omega) rfl (fun v8 l8 hv8 => ?_)
  rw [← List.map_append, ← List.length_append] at hv8
  
  refine J.assign rfl rfl ?_
  refine J.nil ?_
  refine JX.thenN (hK1 _ _ ?_)
  refine JC.ret ?_
  refine JX.ret1 rfl rfl (fun w hw => ?_)
  exact ⟨(v8, l8), rfl, hv8, by simpa using hw⟩

theorem newB_ne {a b : WV} (h : a.n ≠ b.n) : newB a b = decide (b.n < a.n) := by
  unfold newB
  rw [decide_eq_false h, Bool.false_and, Bool.or_false]
theorem newB_eq {a b : WV} (h : a.n = b.n) : newB a b = decide (valI b.who < valI a.who) := by
  unfold newB
  rw [decide_eq_true h, Bool.true_and, decide_eq_false (by omega), Bool.false_or]
theorem newB_cases (a b : WV) : (newB a b = true ∧ newB b a = false ∧ a ≠ b) ∨ (newB a b = false ∧ newB b a = true ∧ a ≠ b) ∨ (newB a b = false ∧ newB b a = false ∧ a = b) := by
  by_cases h : a.n = b.n
  · rw [newB_eq h, newB_eq h.symm]
    rcases Nat.lt_trichotomy (valI a.who) (valI b.who) with h1 | h1 | h1
    · exact .inr (.inl ⟨decide_eq_false (by omega), decide_eq_true h1, fun e => by rw [e] at h1; omega⟩)
    · refine .inr (.inr ⟨decide_eq_false (by omega), decide_eq_false (by omega), ?_⟩)
      obtain ⟨n, x⟩ := a
      obtain ⟨m, y⟩ := b
      simp only at h h1
      rw [h, valI_inj h1]
    · exact .inl ⟨decide_eq_true h1, decide_eq_false (by omega), fun e => by rw [e] at h1; omega⟩
  · rw [newB_ne h, newB_ne (fun e => h e.symm)]
    rcases Int.lt_trichotomy a.n b.n with h1 | h1 | h1
    · exact .inr (.inl ⟨decide_eq_false (by omega), decide_eq_true h1, fun e => h (by rw [e])⟩)
    · exact absurd h1 h
    · exact .inl ⟨decide_eq_true h1, decide_eq_false (by omega), fun e => h (by rw [e])⟩

theorem rnewer_spec (a b : WV) (w : World) :
    Calls Try.prog 14 [.agg (cV a).toArray, .agg (cV b).toArray].toArray w fun r w' => r = .returned (.bool (newB a b)) ∧ Bel w w' := by
  refine calls_of_J (args := [.agg (cV a).toArray, .agg (cV b).toArray]) (e := [(0, .agg (cV a).toArray), (1, .agg (cV b).toArray)]) Try.func14 rfl rfl ⟨rfl, rfl, trivial⟩ (St.start w) ?_
  refine JC.seq (fun K0 hK0 => ?_)
  refine JC.region ?_
  refine J.box rfl rfl rfl (fun b2 => ?_)
  refine J.box rfl rfl rfl (fun b3 => ?_)
  refine J.assign rfl rfl ?_
  refine J.nil ?_
  refine JX.thenN (hK0 _ _ ?_)
  refine JC.seq (fun K1 hK1 => ?_)
  refine JC.seq (fun K2 hK2 => ?_)
  refine JC.region ?_
  refine J.fieldAddr Ty.fd25_0 rfl rfl ?_
  refine J.load1 (v := .int .i64 a.n) Ty.a2 rfl (fun w1 hw => by rw [cell_of (hw.own ((b2, cb (cV a) 25)) (by repeat first | exact .head _ | apply List.Mem.tail | apply List.mem_append_right))]; rfl) rfl ?_
  refine J.fieldAddr Ty.fd25_0 rfl rfl ?_
  refine J.load1 (v := .int .i64 b.n) Ty.a2 rfl (fun w1 hw => by rw [cell_of (hw.own ((b3, cb (cV b) 25)) (by repeat first | exact .head _ | apply List.Mem.tail | apply List.mem_append_right))]; rfl) rfl ?_
  refine J.bin rfl rfl rfl rfl ?_
  refine J.nil ?_
  refine JX.thenN (hK2 _ _ ?_)
  refine JC.cond rfl (fun h0 => ?_) (fun h0 => ?_)
  · skip
    have hne : a.n ≠ b.n := by simpa using h0
    refine JC.seq (fun K3 hK3 => ?_)
    refine JC.region ?_
    refine J.fieldAddr Ty.fd25_0 rfl rfl ?_
    refine J.load1 (v := .int .i64 a.n) Ty.a2 rfl (fun w1 hw => by rw [cell_of (hw.own ((b2, cb (cV a) 25)) (by repeat first | exact .head _ | apply List.Mem.tail | apply List.mem_append_right))]; rfl) rfl ?_
    refine J.fieldAddr Ty.fd25_0 rfl rfl ?_
    refine J.load1 (v := .int .i64 b.n) Ty.a2 rfl (fun w1 hw => by rw [cell_of (hw.own ((b3, cb (cV b) 25)) (by repeat first | exact .head _ | apply List.Mem.tail | apply List.mem_append_right))]; rfl) rfl ?_
    refine J.bin rfl rfl rfl rfl ?_
    refine J.name 14 rfl (show _ = Value.bool (newB a b) from congrArg Value.bool (by rw [newB_ne hne])) ?_
    refine J.assign rfl rfl ?_
    refine J.nil ?_
    refine JX.thenN (hK3 _ _ ?_)
    refine JC.ret ?_
    refine JX.thenR ?_
    refine JX.ret1 rfl rfl (fun w hw => ?_)
    exact ⟨rfl, (hw.drop (List.nil_sublist _)).below⟩
  · skip
    have heq : a.n = b.n := by simpa using h0
    refine JC.skip ?_
    refine JX.thenN (hK1 _ _ ?_)
    refine JC.seq (fun K4 hK4 => ?_)
    refine JC.region ?_
    refine J.fieldAddr Ty.fd25_1 rfl rfl ?_
    refine J.loadA (vs := cI b.who) Ty.a23 Ty.s23 rfl rfl (fun w1 hw => Cells.of_block (hw.own ((b3, cb (cV b) 25)) (by repeat first | exact .head _ | apply List.Mem.tail | apply List.mem_append_right)) rfl) rfl ?_
    refine J.fieldAddr Ty.fd25_1 rfl rfl ?_
    refine J.loadA (vs := cI a.who) Ty.a23 Ty.s23 rfl rfl (fun w1 hw => Cells.of_block (hw.own ((b2, cb (cV a) 25)) (by repeat first | exact .head _ | apply List.Mem.tail | apply List.mem_append_right)) rfl) rfl ?_
    refine J.callB (v := .bool (newB a b)) (fun w1 w2 hw hb => hw.step hb) Ty.bd21 rfl rfl (fun w1 hw => by rw [newB_eq heq]; exact less_spec b.who a.who w1) ?_
    refine J.assign rfl rfl ?_
    refine J.nil ?_
    refine JX.thenN (hK4 _ _ ?_)
    refine JC.ret ?_
    refine JX.ret1 rfl rfl (fun w hw => ?_)
    exact ⟨rfl, (hw.drop (List.nil_sublist _)).below⟩

theorem rform_spec (xc : List Value) (key : IDV) (ver : WV) (bs : List UInt8) (sv : Value) (w : World) (hxc : xc = cT key ver sv) (hb : Row w sv bs.length (bs.map u8)) (hl : bs.length ≤ 140737488351232) (hn0 : 0 ≤ ver.n) (hn9 : ver.n < 9223372036854775808) :
    Calls Try.prog 12 [.agg xc.toArray].toArray w fun r w' => ∃ x : Value × List (Nat × Obj), r = .returned x.1 ∧ Vec 5 1 x.1 (formB ⟨key, ver, bs⟩).length ((formB ⟨key, ver, bs⟩).map u8) x.2 ∧ St w [] x.2 w' := by
  obtain ⟨a, c, rfl, hc, _⟩ := id hb
  refine calls_of_J (args := [.agg xc.toArray]) (e := [(0, .agg xc.toArray)]) Try.func12 rfl rfl ⟨rfl, trivial⟩ (St.start w) ?_
  refine JC.seq (fun K0 hK0 => ?_)
  refine JC.region ?_
  refine J.box rfl rfl rfl (fun b1 => ?_)
  refine J.assign rfl rfl ?_
  refine J.nil ?_
  refine JX.thenN (hK0 _ _ ?_)
  refine JC.seq (fun K1 hK1 => ?_)
  refine JC.region ?_
  subst hxc
  refine J.perm ([] ++ ((b1, cb (cT key ver (.slice a bs.length c)) 28) :: [])) (.refl _) ?_
  refine J.callS (α := Value × List (Nat × Obj)) (V := (·.1)) (Pr := fun x => Vec 5 1 x.1 (numB 2).length ((numB 2).map u8) x.2) (L := (·.2)) (l1 := []) Ty.bd41 rfl rfl (fun w1 hw => rnum_spec 2 w1 (by omega)) (fun x hv4 => ?_)
  obtain ⟨v4, l4⟩ := x
  simp only at hv4 ⊢
  have hn4 := numB_le 2
  refine J.assign rfl rfl ?_
  refine J.nil ?_
  refine JX.thenN (hK1 _ _ ?_)
  refine JC.seq (fun K2 hK2 => ?_)
  refine JC.region ?_
  refine J.move rfl rfl ?_
  refine J.fieldAddr Ty.fd28_0 rfl rfl ?_
  refine J.sliceAll Ty.ar23 (by rw [Ty.s5]; rfl) rfl rfl ?_
  refine J.perm (l4 ++ ((b1, cb (cT key ver (.slice a bs.length c)) 28) :: [])) (by (refine perm_cnt (fun _ => ?_)); simp only [cntB_append, cntB_cons, cntB_nil, Nat.add_zero, Nat.zero_add]; try ac_rfl) ?_
  refine J.append (lp := l4) (xs := ((numB 2)).map u8) (ys := (bI key).map u8) (k := ((numB 2)).length) (m := (bI key).length) Ty.el26 Ty.s5 Ty.b5 Ty.z5 rfl (.inl ⟨5, Ty.u26⟩) rfl rfl hv4 (fun w1 hw => .inl (Row.own (o := 0) (cs := (cT key ver (.slice a bs.length c))) (tb := 28) (fr := (0, 0)) hw (by repeat first | exact .head _ | apply List.Mem.tail | apply List.mem_append_right) rfl (Nat.le_refl _))) (by rw [List.length_map, Nat.mul_one]) (one_u8 _) (by simp only [List.length_append, bI_len]; omega) (by simp only [List.length_append, bI_len]; omega) rfl (fun v8 l8 hv8 => ?_)
  rw [← List.map_append, ← List.length_append] at hv8
  
  refine J.assign rfl rfl ?_
  refine J.nil ?_
  refine JX.thenN (hK2 _ _ ?_)
  refine JC.seq (fun K3 hK3 => ?_)
  refine JC.region ?_
  refine J.move rfl rfl ?_
  refine J.fieldAddr Ty.fd28_1 rfl rfl ?_
  refine J.fieldAddr Ty.fd25_0 rfl rfl ?_
  refine J.load1 (v := .int .i64 ver.n) Ty.a2 rfl (fun w1 hw => by rw [cell_of (hw.own ((b1, cb (cT key ver (.slice a bs.length c)) 28)) (by repeat first | exact .head _ | apply List.Mem.tail | apply List.mem_append_right))]; rfl) rfl ?_
  refine J.convInt Ty.u2 Ty.u81 rfl rfl ?_
  refine J.name 13 rfl (show _ = Value.int .u64 ((ver.n.toNat : Nat) : Int) from congrArg (Value.int .u64) ((wrap_u64 hn0 (by omega)).trans (by omega))) ?_
  refine J.perm ([] ++ (l8 ++ [(b1, cb (cT key ver (.slice a bs.length c)) 28)])) (.refl _) ?_
  refine J.callS (α := Value × List (Nat × Obj)) (V := (·.1)) (Pr := fun x => Vec 5 1 x.1 (numB ver.n.toNat).length ((numB ver.n.toNat).map u8) x.2) (L := (·.2)) (l1 := []) Ty.bd41 rfl rfl (fun w1 hw => rnum_spec ver.n.toNat w1 (by omega)) (fun x hv14 => ?_)
  obtain ⟨v14, l14⟩ := x
  simp only at hv14 ⊢
  have hn14 := numB_le ver.n.toNat
  refine J.perm (l8 ++ (l14 ++ [(b1, cb (cT key ver (.slice a bs.length c)) 28)])) (by (refine perm_cnt (fun _ => ?_)); simp only [cntB_append, cntB_cons, cntB_nil, Nat.add_zero, Nat.zero_add]; try ac_rfl) ?_
  refine J.append (lp := l8) (xs := ((numB 2 ++ bI key)).map u8) (ys := (numB ver.n.toNat).map u8) (k := ((numB 2 ++ bI key)).length) (m := (numB ver.n.toNat).length) Ty.el26 Ty.s5 Ty.b5 Ty.z5 rfl (.inl ⟨5, Ty.u26⟩) rfl rfl hv8 (fun w1 hw => .inl (hv14.row (l := l8 ++ [(b1, cb (cT key ver (.slice a bs.length c)) 28)]) (hw.perm (by (refine perm_cnt (fun _ => ?_)); simp only [cntB_append, cntB_cons, cntB_nil, Nat.add_zero, Nat.zero_add]; try ac_rfl)))) (by rw [List.length_map, Nat.mul_one]) (one_u8 _) (by simp only [List.length_append, bI_len]; omega) (by simp only [List.length_append, bI_len]; omega) rfl (fun v15 l15 hv15 => ?_)
  rw [← List.map_append, ← List.length_append] at hv15
  refine J.perm (l14 ++ (l15 ++ [(b1, cb (cT key ver (.slice a bs.length c)) 28)])) (by (refine perm_cnt (fun _ => ?_)); simp only [cntB_append, cntB_cons, cntB_nil, Nat.add_zero, Nat.zero_add]; try ac_rfl) ?_
  refine J.sub (List.sublist_append_right _ _) ?_
  refine J.assign rfl rfl ?_
  refine J.nil ?_
  refine JX.thenN (hK3 _ _ ?_)
  refine JC.seq (fun K4 hK4 => ?_)
  refine JC.region ?_
  refine J.move rfl rfl ?_
  refine J.fieldAddr Ty.fd28_1 rfl rfl ?_
  refine J.fieldAddr Ty.fd25_1 rfl rfl ?_
  refine J.sliceAll Ty.ar23 (by rw [Ty.s5]; rfl) rfl rfl ?_
  refine J.perm (l15 ++ ((b1, cb (cT key ver (.slice a bs.length c)) 28) :: [])) (by (refine perm_cnt (fun _ => ?_)); simp only [cntB_append, cntB_cons, cntB_nil, Nat.add_zero, Nat.zero_add]; try ac_rfl) ?_
  refine J.append (lp := l15) (xs := ((numB 2 ++ bI key ++ numB ver.n.toNat)).map u8) (ys := (bI ver.who).map u8) (k := ((numB 2 ++ bI key ++ numB ver.n.toNat)).length) (m := (bI ver.who).length) Ty.el26 Ty.s5 Ty.b5 Ty.z5 rfl (.inl ⟨5, Ty.u26⟩) rfl rfl hv15 (fun w1 hw => .inl (Row.own (o := 17) (cs := (cT key ver (.slice a bs.length c))) (tb := 28) (fr := (0, 0)) hw (by repeat first | exact .head _ | apply List.Mem.tail | apply List.mem_append_right) rfl (Nat.le_refl _))) (by rw [List.length_map, Nat.mul_one]) (one_u8 _) (by simp only [List.length_append, bI_len]; omega) (by simp only [List.length_append, bI_len]; omega) rfl (fun v20 l20 hv20 => ?_)
  rw [← List.map_append, ← List.length_append] at hv20
  
  refine J.assign rfl rfl ?_
  refine J.nil ?_
  refine JX.thenN (hK4 _ _ ?_)
  refine JC.seq (fun K5 hK5 => ?_)
  refine JC.region ?_
  refine J.move rfl rfl ?_
  refine J.fieldAddr Ty.fd28_2 rfl rfl ?_
  refine J.load1 (v := .slice a bs.length c) Ty.a26 rfl (fun w1 hw => by rw [cell_of (hw.own ((b1, cb (cT key ver (.slice a bs.length c)) 28)) (by repeat first | exact .head _ | apply List.Mem.tail | apply List.mem_append_right))]; rfl) rfl ?_
  refine J.perm ([] ++ (l20 ++ [(b1, cb (cT key ver (.slice a bs.length c)) 28)])) (.refl _) ?_
  refine J.callS (α := Value × List (Nat × Obj)) (V := (·.1)) (Pr := fun x => Vec 5 1 x.1 (textB bs).length ((textB bs).map u8) x.2) (L := (·.2)) (l1 := []) Ty.bd42 rfl rfl (fun w1 hw => rtext_spec (.slice a bs.length c) bs w1 (hb.below (hw.drop (List.nil_sublist _)).below) hl) (fun x hv24 => ?_)
  obtain ⟨v24, l24⟩ := x
  simp only at hv24 ⊢
  have htl := textB_le bs
  refine J.perm (l20 ++ (l24 ++ [(b1, cb (cT key ver (.slice a bs.length c)) 28)])) (by (refine perm_cnt (fun _ => ?_)); simp only [cntB_append, cntB_cons, cntB_nil, Nat.add_zero, Nat.zero_add]; try ac_rfl) ?_
  refine J.append (lp := l20) (xs := ((numB 2 ++ bI key ++ numB ver.n.toNat ++ bI ver.who)).map u8) (ys := (textB bs).map u8) (k := ((numB 2 ++ bI key ++ numB ver.n.toNat ++ bI ver.who)).length) (m := (textB bs).length) Ty.el26 Ty.s5 Ty.b5 Ty.z5 rfl (.inl ⟨5, Ty.u26⟩) rfl rfl hv20 (fun w1 hw => .inl (hv24.row (l := l20 ++ [(b1, cb (cT key ver (.slice a bs.length c)) 28)]) (hw.perm (by (refine perm_cnt (fun _ => ?_)); simp only [cntB_append, cntB_cons, cntB_nil, Nat.add_zero, Nat.zero_add]; try ac_rfl)))) (by rw [List.length_map, Nat.mul_one]) (one_u8 _) (by simp only [List.length_append, bI_len]; omega) (by simp only [List.length_append, bI_len]; omega) rfl (fun v25 l25 hv25 => ?_)
  rw [← List.map_append, ← List.length_append] at hv25
  
  refine J.assign rfl rfl ?_
  refine J.nil ?_
  refine JX.thenN (hK5 _ _ ?_)
  refine JC.ret ?_
  refine JX.ret1 rfl rfl (fun w hw => ?_)
  exact ⟨(v25, l25), rfl, hv25, hw.drop (List.sublist_append_left _ _)⟩

theorem okN_lt {n : Int} (h : okN n) : -9223372036854775808 ≤ n ∧ n < 9223372036854775808 := by
  have h0 : (Lit.int .i64 n).wf = true := h
  simp only [Lit.wf] at h0
  rw [Bool.and_eq_true] at h0
  have h1 : IntKind.i64.min = -9223372036854775808 := by decide
  have h2 : IntKind.i64.max = 9223372036854775807 := by decide
  have h3 := of_decide_eq_true h0.1
  have h4 := of_decide_eq_true h0.2
  omega

set_option maxHeartbeats 2000000 in
theorem vaultFormsL_spec (xc : List Value) (key : IDV) (ver : WV) (bs : List UInt8) (sv : Value) (va vc : WV) (w : World) (hxc : xc = cT key ver sv) (hb : Row w sv bs.length (bs.map u8)) (hlb : bs.length ≤ 140737488351232) (hvn : okN ver.n) (hoa : okN va.n) (hob : okN vc.n) :
    Calls Try.prog 3 [.agg xc.toArray, .agg (cV va).toArray, .agg (cV vc).toArray].toArray w fun r w' => r = .returned (.bool true) ∧ Bel w w' := by
  obtain ⟨a, c, rfl, hc, _⟩ := id hb
  refine calls_of_J (args := [.agg xc.toArray, .agg (cV va).toArray, .agg (cV vc).toArray]) (e := [(0, .agg xc.toArray), (1, .agg (cV va).toArray), (2, .agg (cV vc).toArray)]) Try.func3 rfl rfl ⟨rfl, rfl, rfl, trivial⟩ (St.start w) ?_
  refine JC.seq (fun K0 hK0 => ?_)
  refine JC.region ?_
  refine J.box rfl rfl rfl (fun b3 => ?_)
  refine J.box rfl rfl rfl (fun b4 => ?_)
  refine J.box rfl rfl rfl (fun b5 => ?_)
  subst hxc
  refine J.assign rfl rfl ?_
  refine J.nil ?_
  refine JX.thenN (hK0 _ _ ?_)
  refine JC.seqCut (α := WV) (fun vz => [(3, .pointer (some ⟨b3, 0, none⟩)), (4, .pointer (some ⟨b4, 0, none⟩)), (5, .pointer (some ⟨b5, 0, none⟩))]) (fun vz w' => (0 ≤ vz.n ∧ vz.n < 9223372036854775808) ∧ St w [] ((b3, cb (cT key vz (.slice a bs.length c)) 28) :: (b4, cb (cV va) 25) :: (b5, cb (cV vc) 25) :: []) w') (fun vz => ?_) (fun K1 hK1 => ?_)
  · skip
    refine JC.pr (fun hz => ?_)
    obtain ⟨hz0, hz9⟩ := hz
    obtain ⟨P, hP⟩ : ∃ b, newB va vc = b := ⟨_, rfl⟩
    obtain ⟨Q, hQ⟩ : ∃ b, newB vc va = b := ⟨_, rfl⟩
    have hcs := newB_cases va vc
    rw [hP, hQ] at hcs
    refine JC.seq (fun K2 hK2 => ?_)
    rcases hcs with ⟨rfl, rfl, hab⟩ | ⟨rfl, rfl, hab⟩ | ⟨rfl, rfl, hab⟩
    · skip
      apply JC.drawX (α := Value × List (Nat × Obj) × Value × List (Nat × Obj)) 45 (fun x => match x with | ⟨v16, l16, v19, l19⟩ => [.bool true, .bool true, .agg (cT key vz (.slice a bs.length c)).toArray, v16, .string (str (formB ⟨key, vz, bs⟩)), .agg (cT key vz (.slice a bs.length c)).toArray, v19, .string (str (formB ⟨key, vz, bs⟩)), .bool true, .bool true, .bool true, .agg (cV va).toArray, .agg (cV vc).toArray, .bool true, .agg (cV va).toArray, .agg (cV vc).toArray, .bool true, .bool true, .bool true, .bool true, .agg (cV va).toArray, .agg (cV vc).toArray, .bool true, .bool true, .agg (cV vc).toArray, .agg (cV va).toArray, .bool false, .bool false, .bool true, .bool true, .bool true, .agg (cV va).toArray, .agg (cV vc).toArray, .bool false, .bool false, .agg (cV va).toArray, .agg (cV vc).toArray, .bool true, .bool true, .bool true, undef, undef, undef, .bool true, .bool true]) (fun m x => match x with | ⟨v16, l16, v19, l19⟩ => fun w1 => ((m 3 = true → Vec 5 1 v16 (formB ⟨key, vz, bs⟩).length ((formB ⟨key, vz, bs⟩).map u8) l16) ∧ (m 6 = true → Vec 5 1 v19 (formB ⟨key, vz, bs⟩).length ((formB ⟨key, vz, bs⟩).map u8) l19) ∧ (m 6 = true → m 3 = true)) ∧ St w [] ((bif m 3 then l16 else []) ++ ((bif m 6 then l19 else []) ++ ((b3, cb (cT key vz (.slice a bs.length c)) 28) :: (b4, cb (cV va) 25) :: (b5, cb (cV vc) 25) :: []))) w1) Ty.mixed rfl rfl rfl (by kernel_rfl) rfl rfl ?hinit ?hstep ?htail
      case hinit => exact fun w1 hw => ⟨(.bool false, [], .bool false, []), ⟨fun h => (by cases h), fun h => (by cases h), fun h => (by cases h)⟩, hw.drew⟩
      case hstep =>
        refine ⟨fun m x hm hp => ?_, fun m x hm hp => ?_, fun m x hm hp => ?_, fun m x hm hp => ?_, fun m x hm hp => ?_, fun m x hm hp => ?_, fun m x hm hp => ?_, fun m x hm hp => ?_, fun m x hm hp => ?_, fun m x hm hp => ?_, fun m x hm hp => ?_, fun m x hm hp => ?_, fun m x hm hp => ?_, fun m x hm hp => ?_, fun m x hm hp => ?_, fun m x hm hp => ?_, fun m x hm hp => ?_, fun m x hm hp => ?_, fun m x hm hp => ?_, fun m x hm hp => ?_, fun m x hm hp => ?_, fun m x hm hp => ?_, fun m x hm hp => ?_, fun m x hm hp => ?_, fun m x hm hp => ?_, fun m x hm hp => ?_, fun m x hm hp => ?_, fun m x hm hp => ?_, fun m x hm hp => ?_, fun m x hm hp => ?_, fun m x hm hp => ?_, fun m x hm hp => ?_, fun m x hm hp => ?_, fun m x hm hp => ?_, fun m x hm hp => ?_, fun m x hm hp => ?_, fun m x hm hp => ?_, fun m x hm hp => ?_, fun m x hm hp => ?_, fun m x hm hp => ?_, fun m x hm hp => ?_, fun m x hm hp => ?_, fun m x hm hp => ?_, fun m x hm hp => ?_, fun m x hm hp => ?_, trivial⟩
        · skip
          obtain ⟨v16, l16, v19, l19⟩ := x
          show J _ _ _ _ _ (_) _
          refine J.pr (fun hF => ?_)
          refine J.callB (v := .bool true) (fun w1 w2 hw hb => hw.step hb) Ty.bd10 rfl rfl (fun w1 hw => fixed18_spec w1) ?_
          exact J.finX rfl (fun _ hw => ⟨⟨v16, l16, v19, l19⟩, rfl, fun _ _ _ => rfl, hF, hw⟩)
        · skip
          obtain ⟨v16, l16, v19, l19⟩ := x
          show J _ _ _ _ _ ((13, .bool true) :: (13, .bool true) :: _) _
          refine J.pr (fun hF => ?_)
          refine J.move rfl rfl ?_
          exact J.finX rfl (fun _ hw => ⟨⟨v16, l16, v19, l19⟩, rfl, fun _ _ _ => rfl, hF, hw⟩)
        · skip
          obtain ⟨v16, l16, v19, l19⟩ := x
          show J _ _ _ _ _ ((14, .bool true) :: _) _
          refine J.pr (fun hF => ?_)
          refine J.unguard rfl rfl rfl ?_
          refine J.loadA (vs := cT key vz (.slice a bs.length c)) Ty.a28 Ty.s28 rfl rfl (fun w1 hw => Cells.of_block (hw.own ((b3, cb (cT key vz (.slice a bs.length c)) 28)) (by repeat first | exact .head _ | apply List.Mem.tail | apply List.mem_append_right)) rfl) rfl ?_
          exact J.finX rfl (fun _ hw => ⟨⟨v16, l16, v19, l19⟩, rfl, fun _ _ _ => rfl, hF, hw⟩)
        · skip
          obtain ⟨v16, l16, v19, l19⟩ := x
          show J _ _ _ _ _ ((14, .bool true) :: (14, .bool true) :: (15, .agg (cT key vz (.slice a bs.length c)).toArray) :: _) _
          refine J.pr (fun hF => ?_)
          have h6 : m 6 = false := by cases h : m 6 with
            | false => rfl
            | true => rw [hF.2.2 h] at hm; cases hm
          refine J.conseq (I' := St w [] ((b3, cb (cT key vz (.slice a bs.length c)) 28) :: (b4, cb (cV va) 25) :: (b5, cb (cV vc) 25) :: [])) ?_ (fun w1 hw => by simp only [hm, h6, cond_true, cond_false, List.nil_append] at hw; exact hw)
          refine J.unguard rfl rfl rfl ?_
          refine J.perm ([] ++ ((b3, cb (cT key vz (.slice a bs.length c)) 28) :: (b4, cb (cV va) 25) :: (b5, cb (cV vc) 25) :: [])) (.refl _) ?_
          refine J.callS (α := Value × List (Nat × Obj)) (V := (·.1)) (Pr := fun xo => Vec 5 1 xo.1 (formB ⟨key, vz, bs⟩).length ((formB ⟨key, vz, bs⟩).map u8) xo.2) (L := (·.2)) (l1 := []) Ty.bd11 rfl rfl (fun w1 hw => form_spec (cT key vz (.slice a bs.length c)) key vz bs _ w1 rfl (hb.below (hw.drop (List.nil_sublist _)).below) hlb hz0 hz9) (fun xo hvn => ?_)
          obtain ⟨vn, ln⟩ := xo
          try simp only at hvn ⊢
          refine J.nil (JX.finB rfl (fun w1 hw => ⟨⟨⟨vn, ln, v19, l19⟩, rfl, fun j h1 h2 => ?_, ?_⟩, trivial⟩))
          · match j, h1 with
            | 0, _ => (first | rfl | trivial)
            | 1, _ => (first | rfl | trivial)
            | 2, _ => (first | rfl | trivial)
            | 3, _ => exact absurd (h2.symm.trans hm) (by decide)
            | 4, _ => (first | rfl | trivial)
            | 5, _ => (first | rfl | trivial)
            | 6, _ => (first | rfl | trivial)
            | 7, _ => (first | rfl | trivial)
            | 8, _ => (first | rfl | trivial)
            | 9, _ => (first | rfl | trivial)
            | 10, _ => (first | rfl | trivial)
            | 11, _ => (first | rfl | trivial)
            | 12, _ => (first | rfl | trivial)
            | 13, _ => (first | rfl | trivial)
            | 14, _ => (first | rfl | trivial)
            | 15, _ => (first | rfl | trivial)
            | 16, _ => (first | rfl | trivial)
            | 17, _ => (first | rfl | trivial)
            | 18, _ => (first | rfl | trivial)
            | 19, _ => (first | rfl | trivial)
            | 20, _ => (first | rfl | trivial)
            | 21, _ => (first | rfl | trivial)
            | 22, _ => (first | rfl | trivial)
            | 23, _ => (first | rfl | trivial)
            | 24, _ => (first | rfl | trivial)
            | 25, _ => (first | rfl | trivial)
            | 26, _ => (first | rfl | trivial)
            | 27, _ => (first | rfl | trivial)
            | 28, _ => (first | rfl | trivial)
            | 29, _ => (first | rfl | trivial)
            | 30, _ => (first | rfl | trivial)
            | 31, _ => (first | rfl | trivial)
            | 32, _ => (first | rfl | trivial)
            | 33, _ => (first | rfl | trivial)
            | 34, _ => (first | rfl | trivial)
            | 35, _ => (first | rfl | trivial)
            | 36, _ => (first | rfl | trivial)
            | 37, _ => (first | rfl | trivial)
            | 38, _ => (first | rfl | trivial)
            | 39, _ => (first | rfl | trivial)
            | 40, _ => (first | rfl | trivial)
            | 41, _ => (first | rfl | trivial)
            | 42, _ => (first | rfl | trivial)
            | 43, _ => (first | rfl | trivial)
            | 44, _ => (first | rfl | trivial)
            | j + 45, h1 => omega
          show ((true = true → Vec 5 1 vn (formB ⟨key, vz, bs⟩).length ((formB ⟨key, vz, bs⟩).map u8) ln) ∧ (m 6 = true → Vec 5 1 v19 (formB ⟨key, vz, bs⟩).length ((formB ⟨key, vz, bs⟩).map u8) l19) ∧ (m 6 = true → true = true)) ∧ St w [] ((bif true then ln else []) ++ ((bif m 6 then l19 else []) ++ ((b3, cb (cT key vz (.slice a bs.length c)) 28) :: (b4, cb (cV va) 25) :: (b5, cb (cV vc) 25) :: []))) w1
          simp only [hm, h6, cond_true, cond_false, List.nil_append] at hw ⊢
          exact ⟨⟨fun _ => hvn, fun h => (by cases h), fun h => (by cases h)⟩, hw.perm (by (refine perm_cnt (fun _ => ?_)); simp only [cntB_append, cntB_cons, cntB_nil, Nat.add_zero, Nat.zero_add]; try ac_rfl)⟩
        · skip
          obtain ⟨v16, l16, v19, l19⟩ := x
          show J _ _ _ _ _ ((14, .bool true) :: (16, v16) :: _) _
          have hp3 : m 3 = true := predsT hp (by kernel_rfl)
          refine J.pr (fun hF => ?_)
          refine J.unguard rfl rfl rfl ?_
          refine J.toStr (m := (formB ⟨key, vz, bs⟩).length) (bs := formB ⟨key, vz, bs⟩) Ty.el26 Ty.u5 Ty.u9 rfl (fun w1 hw => vec_rowM (hF.1 hp3) hw (fun q hq => by simp [hp3, hq])) rfl rfl ?_
          exact J.finX rfl (fun _ hw => ⟨⟨v16, l16, v19, l19⟩, rfl, fun _ _ _ => rfl, hF, hw⟩)
        · skip
          obtain ⟨v16, l16, v19, l19⟩ := x
          show J _ _ _ _ _ ((14, .bool true) :: _) _
          refine J.pr (fun hF => ?_)
          refine J.unguard rfl rfl rfl ?_
          refine J.loadA (vs := cT key vz (.slice a bs.length c)) Ty.a28 Ty.s28 rfl rfl (fun w1 hw => Cells.of_block (hw.own ((b3, cb (cT key vz (.slice a bs.length c)) 28)) (by repeat first | exact .head _ | apply List.Mem.tail | apply List.mem_append_right)) rfl) rfl ?_
          exact J.finX rfl (fun _ hw => ⟨⟨v16, l16, v19, l19⟩, rfl, fun _ _ _ => rfl, hF, hw⟩)
        · skip
          obtain ⟨v16, l16, v19, l19⟩ := x
          show J _ _ _ _ _ ((14, .bool true) :: (16, v16) :: (18, .agg (cT key vz (.slice a bs.length c)).toArray) :: _) _
          have hp3 : m 3 = true := predsT hp (by kernel_rfl)
          refine J.pr (fun hF => ?_)
          refine J.conseq (I' := St w [] (l16 ++ ((b3, cb (cT key vz (.slice a bs.length c)) 28) :: (b4, cb (cV va) 25) :: (b5, cb (cV vc) 25) :: []))) ?_ (fun w1 hw => by simp only [hm, hp3, cond_true, cond_false, List.nil_append] at hw; exact hw)
          refine J.unguard rfl rfl rfl ?_
          refine J.perm ([] ++ (l16 ++ ((b3, cb (cT key vz (.slice a bs.length c)) 28) :: (b4, cb (cV va) 25) :: (b5, cb (cV vc) 25) :: []))) (.refl _) ?_
          refine J.callS (α := Value × List (Nat × Obj)) (V := (·.1)) (Pr := fun xo => Vec 5 1 xo.1 (formB ⟨key, vz, bs⟩).length ((formB ⟨key, vz, bs⟩).map u8) xo.2) (L := (·.2)) (l1 := []) Ty.bd12 rfl rfl (fun w1 hw => rform_spec (cT key vz (.slice a bs.length c)) key vz bs _ w1 rfl (hb.below (hw.drop (List.nil_sublist _)).below) hlb hz0 hz9) (fun xo hvn => ?_)
          obtain ⟨vn, ln⟩ := xo
          try simp only at hvn ⊢
          refine J.nil (JX.finB rfl (fun w1 hw => ⟨⟨⟨v16, l16, vn, ln⟩, rfl, fun j h1 h2 => ?_, ?_⟩, trivial⟩))
          · match j, h1 with
            | 0, _ => (first | rfl | trivial)
            | 1, _ => (first | rfl | trivial)
            | 2, _ => (first | rfl | trivial)
            | 3, _ => (first | rfl | trivial)
            | 4, _ => (first | rfl | trivial)
            | 5, _ => (first | rfl | trivial)
            | 6, _ => exact absurd (h2.symm.trans hm) (by decide)
            | 7, _ => (first | rfl | trivial)
            | 8, _ => (first | rfl | trivial)
            | 9, _ => (first | rfl | trivial)
            | 10, _ => (first | rfl | trivial)
            | 11, _ => (first | rfl | trivial)
            | 12, _ => (first | rfl | trivial)
            | 13, _ => (first | rfl | trivial)
            | 14, _ => (first | rfl | trivial)
            | 15, _ => (first | rfl | trivial)
            | 16, _ => (first | rfl | trivial)
            | 17, _ => (first | rfl | trivial)
            | 18, _ => (first | rfl | trivial)
            | 19, _ => (first | rfl | trivial)
            | 20, _ => (first | rfl | trivial)
            | 21, _ => (first | rfl | trivial)
            | 22, _ => (first | rfl | trivial)
            | 23, _ => (first | rfl | trivial)
            | 24, _ => (first | rfl | trivial)
            | 25, _ => (first | rfl | trivial)
            | 26, _ => (first | rfl | trivial)
            | 27, _ => (first | rfl | trivial)
            | 28, _ => (first | rfl | trivial)
            | 29, _ => (first | rfl | trivial)
            | 30, _ => (first | rfl | trivial)
            | 31, _ => (first | rfl | trivial)
            | 32, _ => (first | rfl | trivial)
            | 33, _ => (first | rfl | trivial)
            | 34, _ => (first | rfl | trivial)
            | 35, _ => (first | rfl | trivial)
            | 36, _ => (first | rfl | trivial)
            | 37, _ => (first | rfl | trivial)
            | 38, _ => (first | rfl | trivial)
            | 39, _ => (first | rfl | trivial)
            | 40, _ => (first | rfl | trivial)
            | 41, _ => (first | rfl | trivial)
            | 42, _ => (first | rfl | trivial)
            | 43, _ => (first | rfl | trivial)
            | 44, _ => (first | rfl | trivial)
            | j + 45, h1 => omega
          show ((m 3 = true → Vec 5 1 v16 (formB ⟨key, vz, bs⟩).length ((formB ⟨key, vz, bs⟩).map u8) l16) ∧ (true = true → Vec 5 1 vn (formB ⟨key, vz, bs⟩).length ((formB ⟨key, vz, bs⟩).map u8) ln) ∧ (true = true → m 3 = true)) ∧ St w [] ((bif m 3 then l16 else []) ++ ((bif true then ln else []) ++ ((b3, cb (cT key vz (.slice a bs.length c)) 28) :: (b4, cb (cV va) 25) :: (b5, cb (cV vc) 25) :: []))) w1
          simp only [hm, hp3, cond_true, cond_false] at hw ⊢
          exact ⟨⟨fun _ => hF.1 hp3, fun _ => hvn, fun _ => (by first | trivial | rfl)⟩, hw.perm (by (refine perm_cnt (fun _ => ?_)); simp only [cntB_append, cntB_cons, cntB_nil, Nat.add_zero, Nat.zero_add]; try ac_rfl)⟩
        · skip
          obtain ⟨v16, l16, v19, l19⟩ := x
          show J _ _ _ _ _ ((14, .bool true) :: (19, v19) :: _) _
          have hp6 : m 6 = true := predsT hp (by kernel_rfl)
          refine J.pr (fun hF => ?_)
          refine J.unguard rfl rfl rfl ?_
          refine J.toStr (m := (formB ⟨key, vz, bs⟩).length) (bs := formB ⟨key, vz, bs⟩) Ty.el26 Ty.u5 Ty.u9 rfl (fun w1 hw => vec_rowM (hF.2.1 hp6) hw (fun q hq => by simp [hp6, hq])) rfl rfl ?_
          exact J.finX rfl (fun _ hw => ⟨⟨v16, l16, v19, l19⟩, rfl, fun _ _ _ => rfl, hF, hw⟩)
        · skip
          obtain ⟨v16, l16, v19, l19⟩ := x
          show J _ _ _ _ _ ((14, .bool true) :: (20, .string (str (formB ⟨key, vz, bs⟩))) :: (17, .string (str (formB ⟨key, vz, bs⟩))) :: _) _
          refine J.pr (fun hF => ?_)
          refine J.unguard rfl rfl rfl ?_
          refine J.strEq (xs := formB ⟨key, vz, bs⟩) (ys := formB ⟨key, vz, bs⟩) rfl rfl rfl ?_
          refine J.name 21 rfl (show _ = Value.bool true by simp) ?_
          exact J.finX rfl (fun _ hw => ⟨⟨v16, l16, v19, l19⟩, rfl, fun _ _ _ => rfl, hF, hw⟩)
        · skip
          obtain ⟨v16, l16, v19, l19⟩ := x
          show J _ _ _ _ _ ((21, .bool true) :: (14, .bool true) :: _) _
          refine J.pr (fun hF => ?_)
          (first | refine J.pickT rfl rfl rfl ?_ | refine J.pickF rfl rfl rfl ?_)
          exact J.finX rfl (fun _ hw => ⟨⟨v16, l16, v19, l19⟩, rfl, fun _ _ _ => rfl, hF, hw⟩)
        · skip
          obtain ⟨v16, l16, v19, l19⟩ := x
          show J _ _ _ _ _ ((19, v19) :: (22, .bool true) :: _) _
          have hp6 : m 6 = true := predsT hp (by kernel_rfl)
          refine J.pr (fun hF => ?_)
          refine J.move rfl rfl ?_
          exact J.finX rfl (fun _ hw => ⟨⟨v16, l16, v19, l19⟩, rfl, fun _ _ _ => rfl, hF, hw⟩)
        · skip
          obtain ⟨v16, l16, v19, l19⟩ := x
          show J _ _ _ _ _ ((23, .bool true) :: _) _
          refine J.pr (fun hF => ?_)
          refine J.unguard rfl rfl rfl ?_
          refine J.loadA (vs := cV va) Ty.a25 Ty.s25 rfl rfl (fun w1 hw => Cells.of_block (hw.own ((b4, cb (cV va) 25)) (by repeat first | exact .head _ | apply List.Mem.tail | apply List.mem_append_right)) rfl) rfl ?_
          exact J.finX rfl (fun _ hw => ⟨⟨v16, l16, v19, l19⟩, rfl, fun _ _ _ => rfl, hF, hw⟩)
        · skip
          obtain ⟨v16, l16, v19, l19⟩ := x
          show J _ _ _ _ _ ((23, .bool true) :: _) _
          refine J.pr (fun hF => ?_)
          refine J.unguard rfl rfl rfl ?_
          refine J.loadA (vs := cV vc) Ty.a25 Ty.s25 rfl rfl (fun w1 hw => Cells.of_block (hw.own ((b5, cb (cV vc) 25)) (by repeat first | exact .head _ | apply List.Mem.tail | apply List.mem_append_right)) rfl) rfl ?_
          exact J.finX rfl (fun _ hw => ⟨⟨v16, l16, v19, l19⟩, rfl, fun _ _ _ => rfl, hF, hw⟩)
        · skip
          obtain ⟨v16, l16, v19, l19⟩ := x
          show J _ _ _ _ _ ((23, .bool true) :: (23, .bool true) :: (25, .agg (cV vc).toArray) :: (24, .agg (cV va).toArray) :: _) _
          refine J.pr (fun hF => ?_)
          refine J.unguard rfl rfl rfl ?_
          refine J.callB (v := .bool true) (fun w1 w2 hw hb => hw.step hb) Ty.bd13 rfl rfl (fun w1 hw => by have h9 := newer_spec va vc w1; rw [hP] at h9; exact h9) ?_
          exact J.finX rfl (fun _ hw => ⟨⟨v16, l16, v19, l19⟩, rfl, fun _ _ _ => rfl, hF, hw⟩)
        · skip
          obtain ⟨v16, l16, v19, l19⟩ := x
          show J _ _ _ _ _ ((23, .bool true) :: _) _
          refine J.pr (fun hF => ?_)
          refine J.unguard rfl rfl rfl ?_
          refine J.loadA (vs := cV va) Ty.a25 Ty.s25 rfl rfl (fun w1 hw => Cells.of_block (hw.own ((b4, cb (cV va) 25)) (by repeat first | exact .head _ | apply List.Mem.tail | apply List.mem_append_right)) rfl) rfl ?_
          exact J.finX rfl (fun _ hw => ⟨⟨v16, l16, v19, l19⟩, rfl, fun _ _ _ => rfl, hF, hw⟩)
        · skip
          obtain ⟨v16, l16, v19, l19⟩ := x
          show J _ _ _ _ _ ((23, .bool true) :: _) _
          refine J.pr (fun hF => ?_)
          refine J.unguard rfl rfl rfl ?_
          refine J.loadA (vs := cV vc) Ty.a25 Ty.s25 rfl rfl (fun w1 hw => Cells.of_block (hw.own ((b5, cb (cV vc) 25)) (by repeat first | exact .head _ | apply List.Mem.tail | apply List.mem_append_right)) rfl) rfl ?_
          exact J.finX rfl (fun _ hw => ⟨⟨v16, l16, v19, l19⟩, rfl, fun _ _ _ => rfl, hF, hw⟩)
        · skip
          obtain ⟨v16, l16, v19, l19⟩ := x
          show J _ _ _ _ _ ((23, .bool true) :: (26, .bool true) :: (28, .agg (cV vc).toArray) :: (27, .agg (cV va).toArray) :: _) _
          refine J.pr (fun hF => ?_)
          refine J.unguard rfl rfl rfl ?_
          refine J.callB (v := .bool true) (fun w1 w2 hw hb => hw.step hb) Ty.bd14 rfl rfl (fun w1 hw => by have h9 := rnewer_spec va vc w1; rw [hP] at h9; exact h9) ?_
          exact J.finX rfl (fun _ hw => ⟨⟨v16, l16, v19, l19⟩, rfl, fun _ _ _ => rfl, hF, hw⟩)
        · skip
          obtain ⟨v16, l16, v19, l19⟩ := x
          show J _ _ _ _ _ ((23, .bool true) :: (29, .bool true) :: (26, .bool true) :: _) _
          refine J.pr (fun hF => ?_)
          refine J.unguard rfl rfl rfl ?_
          refine J.eqBool (.inl rfl) Ty.u4 rfl rfl rfl ?_
          refine J.name 30 rfl (show _ = Value.bool true from rfl) ?_
          exact J.finX rfl (fun _ hw => ⟨⟨v16, l16, v19, l19⟩, rfl, fun _ _ _ => rfl, hF, hw⟩)
        · skip
          obtain ⟨v16, l16, v19, l19⟩ := x
          show J _ _ _ _ _ ((30, .bool true) :: (23, .bool true) :: _) _
          refine J.pr (fun hF => ?_)
          (first | refine J.pickT rfl rfl rfl ?_ | refine J.pickF rfl rfl rfl ?_)
          exact J.finX rfl (fun _ hw => ⟨⟨v16, l16, v19, l19⟩, rfl, fun _ _ _ => rfl, hF, hw⟩)
        · skip
          obtain ⟨v16, l16, v19, l19⟩ := x
          show J _ _ _ _ _ ((29, .bool true) :: (31, .bool true) :: _) _
          refine J.pr (fun hF => ?_)
          refine J.move rfl rfl ?_
          exact J.finX rfl (fun _ hw => ⟨⟨v16, l16, v19, l19⟩, rfl, fun _ _ _ => rfl, hF, hw⟩)
        · skip
          obtain ⟨v16, l16, v19, l19⟩ := x
          show J _ _ _ _ _ ((32, .bool true) :: _) _
          refine J.pr (fun hF => ?_)
          refine J.unguard rfl rfl rfl ?_
          refine J.loadA (vs := cV va) Ty.a25 Ty.s25 rfl rfl (fun w1 hw => Cells.of_block (hw.own ((b4, cb (cV va) 25)) (by repeat first | exact .head _ | apply List.Mem.tail | apply List.mem_append_right)) rfl) rfl ?_
          exact J.finX rfl (fun _ hw => ⟨⟨v16, l16, v19, l19⟩, rfl, fun _ _ _ => rfl, hF, hw⟩)
        · skip
          obtain ⟨v16, l16, v19, l19⟩ := x
          show J _ _ _ _ _ ((32, .bool true) :: _) _
          refine J.pr (fun hF => ?_)
          refine J.unguard rfl rfl rfl ?_
          refine J.loadA (vs := cV vc) Ty.a25 Ty.s25 rfl rfl (fun w1 hw => Cells.of_block (hw.own ((b5, cb (cV vc) 25)) (by repeat first | exact .head _ | apply List.Mem.tail | apply List.mem_append_right)) rfl) rfl ?_
          exact J.finX rfl (fun _ hw => ⟨⟨v16, l16, v19, l19⟩, rfl, fun _ _ _ => rfl, hF, hw⟩)
        · skip
          obtain ⟨v16, l16, v19, l19⟩ := x
          show J _ _ _ _ _ ((32, .bool true) :: (32, .bool true) :: (34, .agg (cV vc).toArray) :: (33, .agg (cV va).toArray) :: _) _
          refine J.pr (fun hF => ?_)
          refine J.unguard rfl rfl rfl ?_
          refine J.callB (v := .bool true) (fun w1 w2 hw hb => hw.step hb) Ty.bd13 rfl rfl (fun w1 hw => by have h9 := newer_spec va vc w1; rw [hP] at h9; exact h9) ?_
          exact J.finX rfl (fun _ hw => ⟨⟨v16, l16, v19, l19⟩, rfl, fun _ _ _ => rfl, hF, hw⟩)
        · skip
          obtain ⟨v16, l16, v19, l19⟩ := x
          show J _ _ _ _ _ ((32, .bool true) :: (35, .bool true) :: (35, .bool true) :: _) _
          refine J.pr (fun hF => ?_)
          first | refine J.skip rfl rfl rfl rfl rfl ?_ | refine J.skipU rfl rfl rfl rfl ?_ | (refine J.unguard rfl rfl rfl ?_; refine J.move rfl rfl ?_)
          exact J.finX rfl (fun _ hw => ⟨⟨v16, l16, v19, l19⟩, rfl, fun _ _ _ => rfl, hF, hw⟩)
        · skip
          obtain ⟨v16, l16, v19, l19⟩ := x
          show J _ _ _ _ _ ((36, .bool true) :: _) _
          refine J.pr (fun hF => ?_)
          refine J.unguard rfl rfl rfl ?_
          refine J.loadA (vs := cV vc) Ty.a25 Ty.s25 rfl rfl (fun w1 hw => Cells.of_block (hw.own ((b5, cb (cV vc) 25)) (by repeat first | exact .head _ | apply List.Mem.tail | apply List.mem_append_right)) rfl) rfl ?_
          exact J.finX rfl (fun _ hw => ⟨⟨v16, l16, v19, l19⟩, rfl, fun _ _ _ => rfl, hF, hw⟩)
        · skip
          obtain ⟨v16, l16, v19, l19⟩ := x
          show J _ _ _ _ _ ((36, .bool true) :: _) _
          refine J.pr (fun hF => ?_)
          refine J.unguard rfl rfl rfl ?_
          refine J.loadA (vs := cV va) Ty.a25 Ty.s25 rfl rfl (fun w1 hw => Cells.of_block (hw.own ((b4, cb (cV va) 25)) (by repeat first | exact .head _ | apply List.Mem.tail | apply List.mem_append_right)) rfl) rfl ?_
          exact J.finX rfl (fun _ hw => ⟨⟨v16, l16, v19, l19⟩, rfl, fun _ _ _ => rfl, hF, hw⟩)
        · skip
          obtain ⟨v16, l16, v19, l19⟩ := x
          show J _ _ _ _ _ ((36, .bool true) :: (36, .bool true) :: (38, .agg (cV va).toArray) :: (37, .agg (cV vc).toArray) :: _) _
          refine J.pr (fun hF => ?_)
          refine J.unguard rfl rfl rfl ?_
          refine J.callB (v := .bool false) (fun w1 w2 hw hb => hw.step hb) Ty.bd13 rfl rfl (fun w1 hw => by have h9 := newer_spec vc va w1; rw [hQ] at h9; exact h9) ?_
          exact J.finX rfl (fun _ hw => ⟨⟨v16, l16, v19, l19⟩, rfl, fun _ _ _ => rfl, hF, hw⟩)
        · skip
          obtain ⟨v16, l16, v19, l19⟩ := x
          show J _ _ _ _ _ ((32, .bool true) :: (39, .bool false) :: (36, .bool true) :: _) _
          refine J.pr (fun hF => ?_)
          first | refine J.skip rfl rfl rfl rfl rfl ?_ | refine J.skipU rfl rfl rfl rfl ?_ | (refine J.unguard rfl rfl rfl ?_; (first | refine J.pickT rfl rfl rfl ?_ | refine J.pickF rfl rfl rfl ?_))
          exact J.finX rfl (fun _ hw => ⟨⟨v16, l16, v19, l19⟩, rfl, fun _ _ _ => rfl, hF, hw⟩)
        · skip
          obtain ⟨v16, l16, v19, l19⟩ := x
          show J _ _ _ _ _ ((32, .bool true) :: (40, .bool false) :: _) _
          refine J.pr (fun hF => ?_)
          first | refine J.skip rfl rfl rfl rfl rfl ?_ | refine J.skipU rfl rfl rfl rfl ?_ | (refine J.unguard rfl rfl rfl ?_; refine J.not rfl rfl ?_)
          exact J.finX rfl (fun _ hw => ⟨⟨v16, l16, v19, l19⟩, rfl, fun _ _ _ => rfl, hF, hw⟩)
        · skip
          obtain ⟨v16, l16, v19, l19⟩ := x
          show J _ _ _ _ _ ((41, .bool true) :: (32, .bool true) :: _) _
          refine J.pr (fun hF => ?_)
          (first | refine J.pickT rfl rfl rfl ?_ | refine J.pickF rfl rfl rfl ?_)
          exact J.finX rfl (fun _ hw => ⟨⟨v16, l16, v19, l19⟩, rfl, fun _ _ _ => rfl, hF, hw⟩)
        · skip
          obtain ⟨v16, l16, v19, l19⟩ := x
          show J _ _ _ _ _ ((39, .bool false) :: (42, .bool true) :: _) _
          refine J.pr (fun hF => ?_)
          refine J.move rfl rfl ?_
          exact J.finX rfl (fun _ hw => ⟨⟨v16, l16, v19, l19⟩, rfl, fun _ _ _ => rfl, hF, hw⟩)
        · skip
          obtain ⟨v16, l16, v19, l19⟩ := x
          show J _ _ _ _ _ ((43, .bool true) :: _) _
          refine J.pr (fun hF => ?_)
          refine J.unguard rfl rfl rfl ?_
          refine J.loadA (vs := cV va) Ty.a25 Ty.s25 rfl rfl (fun w1 hw => Cells.of_block (hw.own ((b4, cb (cV va) 25)) (by repeat first | exact .head _ | apply List.Mem.tail | apply List.mem_append_right)) rfl) rfl ?_
          exact J.finX rfl (fun _ hw => ⟨⟨v16, l16, v19, l19⟩, rfl, fun _ _ _ => rfl, hF, hw⟩)
        · skip
          obtain ⟨v16, l16, v19, l19⟩ := x
          show J _ _ _ _ _ ((43, .bool true) :: _) _
          refine J.pr (fun hF => ?_)
          refine J.unguard rfl rfl rfl ?_
          refine J.loadA (vs := cV vc) Ty.a25 Ty.s25 rfl rfl (fun w1 hw => Cells.of_block (hw.own ((b5, cb (cV vc) 25)) (by repeat first | exact .head _ | apply List.Mem.tail | apply List.mem_append_right)) rfl) rfl ?_
          exact J.finX rfl (fun _ hw => ⟨⟨v16, l16, v19, l19⟩, rfl, fun _ _ _ => rfl, hF, hw⟩)
        · skip
          obtain ⟨v16, l16, v19, l19⟩ := x
          show J _ _ _ _ _ ((43, .bool true) :: (45, .agg (cV vc).toArray) :: (44, .agg (cV va).toArray) :: _) _
          refine J.pr (fun hF => ?_)
          refine J.unguard rfl rfl rfl ?_
          refine J.eqV rfl rfl hoa hob rfl ?_
          refine J.name 46 rfl (show _ = Value.bool false by simp [hab]) ?_
          exact J.finX rfl (fun _ hw => ⟨⟨v16, l16, v19, l19⟩, rfl, fun _ _ _ => rfl, hF, hw⟩)
        · skip
          obtain ⟨v16, l16, v19, l19⟩ := x
          show J _ _ _ _ _ ((43, .bool true) :: (43, .bool true) :: (46, .bool false) :: _) _
          refine J.pr (fun hF => ?_)
          first | refine J.skip rfl rfl rfl rfl rfl ?_ | refine J.skipU rfl rfl rfl rfl ?_ | (refine J.unguard rfl rfl rfl ?_; refine J.move rfl rfl ?_)
          exact J.finX rfl (fun _ hw => ⟨⟨v16, l16, v19, l19⟩, rfl, fun _ _ _ => rfl, hF, hw⟩)
        · skip
          obtain ⟨v16, l16, v19, l19⟩ := x
          show J _ _ _ _ _ ((47, .bool false) :: _) _
          refine J.pr (fun hF => ?_)
          refine J.unguard rfl rfl rfl ?_
          refine J.loadA (vs := cV va) Ty.a25 Ty.s25 rfl rfl (fun w1 hw => Cells.of_block (hw.own ((b4, cb (cV va) 25)) (by repeat first | exact .head _ | apply List.Mem.tail | apply List.mem_append_right)) rfl) rfl ?_
          exact J.finX rfl (fun _ hw => ⟨⟨v16, l16, v19, l19⟩, rfl, fun _ _ _ => rfl, hF, hw⟩)
        · skip
          obtain ⟨v16, l16, v19, l19⟩ := x
          show J _ _ _ _ _ ((47, .bool false) :: _) _
          refine J.pr (fun hF => ?_)
          refine J.unguard rfl rfl rfl ?_
          refine J.loadA (vs := cV vc) Ty.a25 Ty.s25 rfl rfl (fun w1 hw => Cells.of_block (hw.own ((b5, cb (cV vc) 25)) (by repeat first | exact .head _ | apply List.Mem.tail | apply List.mem_append_right)) rfl) rfl ?_
          exact J.finX rfl (fun _ hw => ⟨⟨v16, l16, v19, l19⟩, rfl, fun _ _ _ => rfl, hF, hw⟩)
        · skip
          obtain ⟨v16, l16, v19, l19⟩ := x
          show J _ _ _ _ _ ((47, .bool false) :: (47, .bool false) :: (49, .agg (cV vc).toArray) :: (48, .agg (cV va).toArray) :: _) _
          refine J.pr (fun hF => ?_)
          refine J.unguard rfl rfl rfl ?_
          refine J.callB (v := .bool true) (fun w1 w2 hw hb => hw.step hb) Ty.bd13 rfl rfl (fun w1 hw => by have h9 := newer_spec va vc w1; rw [hP] at h9; exact h9) ?_
          exact J.finX rfl (fun _ hw => ⟨⟨v16, l16, v19, l19⟩, rfl, fun _ _ _ => rfl, hF, hw⟩)
        · skip
          obtain ⟨v16, l16, v19, l19⟩ := x
          show J _ _ _ _ _ ((43, .bool true) :: (50, .bool true) :: (47, .bool false) :: _) _
          refine J.pr (fun hF => ?_)
          first | refine J.skip rfl rfl rfl rfl rfl ?_ | refine J.skipU rfl rfl rfl rfl ?_ | (refine J.unguard rfl rfl rfl ?_; (first | refine J.pickT rfl rfl rfl ?_ | refine J.pickF rfl rfl rfl ?_))
          exact J.finX rfl (fun _ hw => ⟨⟨v16, l16, v19, l19⟩, rfl, fun _ _ _ => rfl, hF, hw⟩)
        · skip
          obtain ⟨v16, l16, v19, l19⟩ := x
          show J _ _ _ _ _ ((43, .bool true) :: (50, .bool true) :: (51, .bool true) :: _) _
          refine J.pr (fun hF => ?_)
          first | refine J.skip rfl rfl rfl rfl rfl ?_ | refine J.skipU rfl rfl rfl rfl ?_ | (refine J.unguard rfl rfl rfl ?_; refine J.move rfl rfl ?_)
          exact J.finX rfl (fun _ hw => ⟨⟨v16, l16, v19, l19⟩, rfl, fun _ _ _ => rfl, hF, hw⟩)
        · skip
          obtain ⟨v16, l16, v19, l19⟩ := x
          show J _ _ _ _ _ ((52, .bool true) :: _) _
          refine J.pr (fun hF => ?_)
          first | refine J.skip rfl rfl rfl rfl rfl ?_ | refine J.skipU rfl rfl rfl rfl ?_ | (refine J.unguard rfl rfl rfl ?_; refine J.loadOA Ty.a25 Ty.s25 rfl (by repeat first | exact .head _ | apply List.Mem.tail | apply List.mem_append_right) (by exact rfl) rfl rfl ?_)
          exact J.finX rfl (fun _ hw => ⟨⟨v16, l16, v19, l19⟩, rfl, fun _ _ _ => rfl, hF, hw⟩)
        · skip
          obtain ⟨v16, l16, v19, l19⟩ := x
          show J _ _ _ _ _ ((52, .bool true) :: _) _
          refine J.pr (fun hF => ?_)
          first | refine J.skip rfl rfl rfl rfl rfl ?_ | refine J.skipU rfl rfl rfl rfl ?_ | (refine J.unguard rfl rfl rfl ?_; refine J.loadOA Ty.a25 Ty.s25 rfl (by repeat first | exact .head _ | apply List.Mem.tail | apply List.mem_append_right) (by exact rfl) rfl rfl ?_)
          exact J.finX rfl (fun _ hw => ⟨⟨v16, l16, v19, l19⟩, rfl, fun _ _ _ => rfl, hF, hw⟩)
        · skip
          obtain ⟨v16, l16, v19, l19⟩ := x
          show J _ _ _ _ _ ((52, .bool true) :: (52, .bool true) :: (54, undef) :: (53, undef) :: _) _
          refine J.pr (fun hF => ?_)
          first | refine J.skip rfl rfl rfl rfl rfl ?_ | refine J.skipU rfl rfl rfl rfl ?_ | (refine J.unguard rfl rfl rfl ?_; fail)
          exact J.finX rfl (fun _ hw => ⟨⟨v16, l16, v19, l19⟩, rfl, fun _ _ _ => rfl, hF, hw⟩)
        · skip
          obtain ⟨v16, l16, v19, l19⟩ := x
          show J _ _ _ _ _ ((43, .bool true) :: (55, undef) :: (52, .bool true) :: _) _
          refine J.pr (fun hF => ?_)
          first | refine J.skip rfl rfl rfl rfl rfl ?_ | refine J.skipU rfl rfl rfl rfl ?_ | (refine J.unguard rfl rfl rfl ?_; (first | refine J.pickT rfl rfl rfl ?_ | refine J.pickF rfl rfl rfl ?_))
          exact J.finX rfl (fun _ hw => ⟨⟨v16, l16, v19, l19⟩, rfl, fun _ _ _ => rfl, hF, hw⟩)
        · skip
          obtain ⟨v16, l16, v19, l19⟩ := x
          show J _ _ _ _ _ ((56, .bool true) :: (43, .bool true) :: _) _
          refine J.pr (fun hF => ?_)
          (first | refine J.pickT rfl rfl rfl ?_ | refine J.pickF rfl rfl rfl ?_)
          exact J.finX rfl (fun _ hw => ⟨⟨v16, l16, v19, l19⟩, rfl, fun _ _ _ => rfl, hF, hw⟩)
      case htail =>
        intro x
        obtain ⟨v16, l16, v19, l19⟩ := x
        show J _ _ _ _ _ ((57, .bool true) :: (56, .bool true) :: (55, undef) :: (54, undef) :: (53, undef) :: (52, .bool true) :: (51, .bool true) :: (50, .bool true) :: (49, .agg (cV vc).toArray) :: (48, .agg (cV va).toArray) :: (47, .bool false) :: (46, .bool false) :: (45, .agg (cV vc).toArray) :: (44, .agg (cV va).toArray) :: (43, .bool true) :: (42, .bool true) :: (41, .bool true) :: (40, .bool false) :: (39, .bool false) :: (38, .agg (cV va).toArray) :: (37, .agg (cV vc).toArray) :: (36, .bool true) :: (35, .bool true) :: (34, .agg (cV vc).toArray) :: (33, .agg (cV va).toArray) :: (32, .bool true) :: (31, .bool true) :: (30, .bool true) :: (29, .bool true) :: (28, .agg (cV vc).toArray) :: (27, .agg (cV va).toArray) :: (26, .bool true) :: (25, .agg (cV vc).toArray) :: (24, .agg (cV va).toArray) :: (23, .bool true) :: (22, .bool true) :: (21, .bool true) :: (20, .string (str (formB ⟨key, vz, bs⟩))) :: (19, v19) :: (18, .agg (cT key vz (.slice a bs.length c)).toArray) :: (17, .string (str (formB ⟨key, vz, bs⟩))) :: (16, v16) :: (15, .agg (cT key vz (.slice a bs.length c)).toArray) :: (14, .bool true) :: (13, .bool true) :: _) (fun w1 => ((true = true → Vec 5 1 v16 (formB ⟨key, vz, bs⟩).length ((formB ⟨key, vz, bs⟩).map u8) l16) ∧ (true = true → Vec 5 1 v19 (formB ⟨key, vz, bs⟩).length ((formB ⟨key, vz, bs⟩).map u8) l19) ∧ (true = true → true = true)) ∧ St w [] ((bif true then l16 else []) ++ ((bif true then l19 else []) ++ ((b3, cb (cT key vz (.slice a bs.length c)) 28) :: (b4, cb (cV va) 25) :: (b5, cb (cV vc) 25) :: []))) w1)
        refine J.pr (fun hF => ?_)
        refine J.assign rfl rfl ?_
        refine J.nil ?_
        refine JX.thenN (hK2 _ _ ?_)
        refine JC.ret ?_
        refine JX.ret1 rfl rfl (fun w hw => ?_)
        exact ⟨rfl, (hw.drop (List.nil_sublist _)).below⟩
    · skip
      apply JC.drawX (α := Value × List (Nat × Obj) × Value × List (Nat × Obj)) 45 (fun x => match x with | ⟨v16, l16, v19, l19⟩ => [.bool true, .bool true, .agg (cT key vz (.slice a bs.length c)).toArray, v16, .string (str (formB ⟨key, vz, bs⟩)), .agg (cT key vz (.slice a bs.length c)).toArray, v19, .string (str (formB ⟨key, vz, bs⟩)), .bool true, .bool true, .bool true, .agg (cV va).toArray, .agg (cV vc).toArray, .bool false, .agg (cV va).toArray, .agg (cV vc).toArray, .bool false, .bool true, .bool true, .bool true, .agg (cV va).toArray, .agg (cV vc).toArray, .bool false, .bool false, undef, undef, undef, .bool false, .bool true, .bool true, .bool true, .agg (cV va).toArray, .agg (cV vc).toArray, .bool false, .bool false, .agg (cV va).toArray, .agg (cV vc).toArray, .bool false, .bool false, .bool false, .agg (cV vc).toArray, .agg (cV va).toArray, .bool true, .bool true, .bool true]) (fun m x => match x with | ⟨v16, l16, v19, l19⟩ => fun w1 => ((m 3 = true → Vec 5 1 v16 (formB ⟨key, vz, bs⟩).length ((formB ⟨key, vz, bs⟩).map u8) l16) ∧ (m 6 = true → Vec 5 1 v19 (formB ⟨key, vz, bs⟩).length ((formB ⟨key, vz, bs⟩).map u8) l19) ∧ (m 6 = true → m 3 = true)) ∧ St w [] ((bif m 3 then l16 else []) ++ ((bif m 6 then l19 else []) ++ ((b3, cb (cT key vz (.slice a bs.length c)) 28) :: (b4, cb (cV va) 25) :: (b5, cb (cV vc) 25) :: []))) w1) Ty.mixed rfl rfl rfl (by kernel_rfl) rfl rfl ?hinit ?hstep ?htail
      case hinit => exact fun w1 hw => ⟨(.bool false, [], .bool false, []), ⟨fun h => (by cases h), fun h => (by cases h), fun h => (by cases h)⟩, hw.drew⟩
      case hstep =>
        refine ⟨fun m x hm hp => ?_, fun m x hm hp => ?_, fun m x hm hp => ?_, fun m x hm hp => ?_, fun m x hm hp => ?_, fun m x hm hp => ?_, fun m x hm hp => ?_, fun m x hm hp => ?_, fun m x hm hp => ?_, fun m x hm hp => ?_, fun m x hm hp => ?_, fun m x hm hp => ?_, fun m x hm hp => ?_, fun m x hm hp => ?_, fun m x hm hp => ?_, fun m x hm hp => ?_, fun m x hm hp => ?_, fun m x hm hp => ?_, fun m x hm hp => ?_, fun m x hm hp => ?_, fun m x hm hp => ?_, fun m x hm hp => ?_, fun m x hm hp => ?_, fun m x hm hp => ?_, fun m x hm hp => ?_, fun m x hm hp => ?_, fun m x hm hp => ?_, fun m x hm hp => ?_, fun m x hm hp => ?_, fun m x hm hp => ?_, fun m x hm hp => ?_, fun m x hm hp => ?_, fun m x hm hp => ?_, fun m x hm hp => ?_, fun m x hm hp => ?_, fun m x hm hp => ?_, fun m x hm hp => ?_, fun m x hm hp => ?_, fun m x hm hp => ?_, fun m x hm hp => ?_, fun m x hm hp => ?_, fun m x hm hp => ?_, fun m x hm hp => ?_, fun m x hm hp => ?_, fun m x hm hp => ?_, trivial⟩
        · skip
          obtain ⟨v16, l16, v19, l19⟩ := x
          show J _ _ _ _ _ (_) _
          refine J.pr (fun hF => ?_)
          refine J.callB (v := .bool true) (fun w1 w2 hw hb => hw.step hb) Ty.bd10 rfl rfl (fun w1 hw => fixed18_spec w1) ?_
          exact J.finX rfl (fun _ hw => ⟨⟨v16, l16, v19, l19⟩, rfl, fun _ _ _ => rfl, hF, hw⟩)
        · skip
          obtain ⟨v16, l16, v19, l19⟩ := x
          show J _ _ _ _ _ ((13, .bool true) :: (13, .bool true) :: _) _
          refine J.pr (fun hF => ?_)
          refine J.move rfl rfl ?_
          exact J.finX rfl (fun _ hw => ⟨⟨v16, l16, v19, l19⟩, rfl, fun _ _ _ => rfl, hF, hw⟩)
        · skip
          obtain ⟨v16, l16, v19, l19⟩ := x
          show J _ _ _ _ _ ((14, .bool true) :: _) _
          refine J.pr (fun hF => ?_)
          refine J.unguard rfl rfl rfl ?_
          refine J.loadA (vs := cT key vz (.slice a bs.length c)) Ty.a28 Ty.s28 rfl rfl (fun w1 hw => Cells.of_block (hw.own ((b3, cb (cT key vz (.slice a bs.length c)) 28)) (by repeat first | exact .head _ | apply List.Mem.tail | apply List.mem_append_right)) rfl) rfl ?_
          exact J.finX rfl (fun _ hw => ⟨⟨v16, l16, v19, l19⟩, rfl, fun _ _ _ => rfl, hF, hw⟩)
        · skip
          obtain ⟨v16, l16, v19, l19⟩ := x
          show J _ _ _ _ _ ((14, .bool true) :: (14, .bool true) :: (15, .agg (cT key vz (.slice a bs.length c)).toArray) :: _) _
          refine J.pr (fun hF => ?_)
          have h6 : m 6 = false := by cases h : m 6 with
            | false => rfl
            | true => rw [hF.2.2 h] at hm; cases hm
          refine J.conseq (I' := St w [] ((b3, cb (cT key vz (.slice a bs.length c)) 28) :: (b4, cb (cV va) 25) :: (b5, cb (cV vc) 25) :: [])) ?_ (fun w1 hw => by simp only [hm, h6, cond_true, cond_false, List.nil_append] at hw; exact hw)
          refine J.unguard rfl rfl rfl ?_
          refine J.perm ([] ++ ((b3, cb (cT key vz (.slice a bs.length c)) 28) :: (b4, cb (cV va) 25) :: (b5, cb (cV vc) 25) :: [])) (.refl _) ?_
          refine J.callS (α := Value × List (Nat × Obj)) (V := (·.1)) (Pr := fun xo => Vec 5 1 xo.1 (formB ⟨key, vz, bs⟩).length ((formB ⟨key, vz, bs⟩).map u8) xo.2) (L := (·.2)) (l1 := []) Ty.bd11 rfl rfl (fun w1 hw => form_spec (cT key vz (.slice a bs.length c)) key vz bs _ w1 rfl (hb.below (hw.drop (List.nil_sublist _)).below) hlb hz0 hz9) (fun xo hvn => ?_)
          obtain ⟨vn, ln⟩ := xo
          try simp only at hvn ⊢
          refine J.nil (JX.finB rfl (fun w1 hw => ⟨⟨⟨vn, ln, v19, l19⟩, rfl, fun j h1 h2 => ?_, ?_⟩, trivial⟩))
          · match j, h1 with
            | 0, _ => (first | rfl | trivial)
            | 1, _ => (first | rfl | trivial)
            | 2, _ => (first | rfl | trivial)
            | 3, _ => exact absurd (h2.symm.trans hm) (by decide)
            | 4, _ => (first | rfl | trivial)
            | 5, _ => (first | rfl | trivial)
            | 6, _ => (first | rfl | trivial)
            | 7, _ => (first | rfl | trivial)
            | 8, _ => (first | rfl | trivial)
            | 9, _ => (first | rfl | trivial)
            | 10, _ => (first | rfl | trivial)
            | 11, _ => (first | rfl | trivial)
            | 12, _ => (first | rfl | trivial)
            | 13, _ => (first | rfl | trivial)
            | 14, _ => (first | rfl | trivial)
            | 15, _ => (first | rfl | trivial)
            | 16, _ => (first | rfl | trivial)
            | 17, _ => (first | rfl | trivial)
            | 18, _ => (first | rfl | trivial)
            | 19, _ => (first | rfl | trivial)
            | 20, _ => (first | rfl | trivial)
            | 21, _ => (first | rfl | trivial)
            | 22, _ => (first | rfl | trivial)
            | 23, _ => (first | rfl | trivial)
            | 24, _ => (first | rfl | trivial)
            | 25, _ => (first | rfl | trivial)
            | 26, _ => (first | rfl | trivial)
            | 27, _ => (first | rfl | trivial)
            | 28, _ => (first | rfl | trivial)
            | 29, _ => (first | rfl | trivial)
            | 30, _ => (first | rfl | trivial)
            | 31, _ => (first | rfl | trivial)
            | 32, _ => (first | rfl | trivial)
            | 33, _ => (first | rfl | trivial)
            | 34, _ => (first | rfl | trivial)
            | 35, _ => (first | rfl | trivial)
            | 36, _ => (first | rfl | trivial)
            | 37, _ => (first | rfl | trivial)
            | 38, _ => (first | rfl | trivial)
            | 39, _ => (first | rfl | trivial)
            | 40, _ => (first | rfl | trivial)
            | 41, _ => (first | rfl | trivial)
            | 42, _ => (first | rfl | trivial)
            | 43, _ => (first | rfl | trivial)
            | 44, _ => (first | rfl | trivial)
            | j + 45, h1 => omega
          show ((true = true → Vec 5 1 vn (formB ⟨key, vz, bs⟩).length ((formB ⟨key, vz, bs⟩).map u8) ln) ∧ (m 6 = true → Vec 5 1 v19 (formB ⟨key, vz, bs⟩).length ((formB ⟨key, vz, bs⟩).map u8) l19) ∧ (m 6 = true → true = true)) ∧ St w [] ((bif true then ln else []) ++ ((bif m 6 then l19 else []) ++ ((b3, cb (cT key vz (.slice a bs.length c)) 28) :: (b4, cb (cV va) 25) :: (b5, cb (cV vc) 25) :: []))) w1
          simp only [hm, h6, cond_true, cond_false, List.nil_append] at hw ⊢
          exact ⟨⟨fun _ => hvn, fun h => (by cases h), fun h => (by cases h)⟩, hw.perm (by (refine perm_cnt (fun _ => ?_)); simp only [cntB_append, cntB_cons, cntB_nil, Nat.add_zero, Nat.zero_add]; try ac_rfl)⟩
        · skip
          obtain ⟨v16, l16, v19, l19⟩ := x
          show J _ _ _ _ _ ((14, .bool true) :: (16, v16) :: _) _
          have hp3 : m 3 = true := predsT hp (by kernel_rfl)
          refine J.pr (fun hF => ?_)
          refine J.unguard rfl rfl rfl ?_
          refine J.toStr (m := (formB ⟨key, vz, bs⟩).length) (bs := formB ⟨key, vz, bs⟩) Ty.el26 Ty.u5 Ty.u9 rfl (fun w1 hw => vec_rowM (hF.1 hp3) hw (fun q hq => by simp [hp3, hq])) rfl rfl ?_
          exact J.finX rfl (fun _ hw => ⟨⟨v16, l16, v19, l19⟩, rfl, fun _ _ _ => rfl, hF, hw⟩)
        · skip
          obtain ⟨v16, l16, v19, l19⟩ := x
          show J _ _ _ _ _ ((14, .bool true) :: _) _
          refine J.pr (fun hF => ?_)
          refine J.unguard rfl rfl rfl ?_
          refine J.loadA (vs := cT key vz (.slice a bs.length c)) Ty.a28 Ty.s28 rfl rfl (fun w1 hw => Cells.of_block (hw.own ((b3, cb (cT key vz (.slice a bs.length c)) 28)) (by repeat first | exact .head _ | apply List.Mem.tail | apply List.mem_append_right)) rfl) rfl ?_
          exact J.finX rfl (fun _ hw => ⟨⟨v16, l16, v19, l19⟩, rfl, fun _ _ _ => rfl, hF, hw⟩)
        · skip
          obtain ⟨v16, l16, v19, l19⟩ := x
          show J _ _ _ _ _ ((14, .bool true) :: (16, v16) :: (18, .agg (cT key vz (.slice a bs.length c)).toArray) :: _) _
          have hp3 : m 3 = true := predsT hp (by kernel_rfl)
          refine J.pr (fun hF => ?_)
          refine J.conseq (I' := St w [] (l16 ++ ((b3, cb (cT key vz (.slice a bs.length c)) 28) :: (b4, cb (cV va) 25) :: (b5, cb (cV vc) 25) :: []))) ?_ (fun w1 hw => by simp only [hm, hp3, cond_true, cond_false, List.nil_append] at hw; exact hw)
          refine J.unguard rfl rfl rfl ?_
          refine J.perm ([] ++ (l16 ++ ((b3, cb (cT key vz (.slice a bs.length c)) 28) :: (b4, cb (cV va) 25) :: (b5, cb (cV vc) 25) :: []))) (.refl _) ?_
          refine J.callS (α := Value × List (Nat × Obj)) (V := (·.1)) (Pr := fun xo => Vec 5 1 xo.1 (formB ⟨key, vz, bs⟩).length ((formB ⟨key, vz, bs⟩).map u8) xo.2) (L := (·.2)) (l1 := []) Ty.bd12 rfl rfl (fun w1 hw => rform_spec (cT key vz (.slice a bs.length c)) key vz bs _ w1 rfl (hb.below (hw.drop (List.nil_sublist _)).below) hlb hz0 hz9) (fun xo hvn => ?_)
          obtain ⟨vn, ln⟩ := xo
          try simp only at hvn ⊢
          refine J.nil (JX.finB rfl (fun w1 hw => ⟨⟨⟨v16, l16, vn, ln⟩, rfl, fun j h1 h2 => ?_, ?_⟩, trivial⟩))
          · match j, h1 with
            | 0, _ => (first | rfl | trivial)
            | 1, _ => (first | rfl | trivial)
            | 2, _ => (first | rfl | trivial)
            | 3, _ => (first | rfl | trivial)
            | 4, _ => (first | rfl | trivial)
            | 5, _ => (first | rfl | trivial)
            | 6, _ => exact absurd (h2.symm.trans hm) (by decide)
            | 7, _ => (first | rfl | trivial)
            | 8, _ => (first | rfl | trivial)
            | 9, _ => (first | rfl | trivial)
            | 10, _ => (first | rfl | trivial)
            | 11, _ => (first | rfl | trivial)
            | 12, _ => (first | rfl | trivial)
            | 13, _ => (first | rfl | trivial)
            | 14, _ => (first | rfl | trivial)
            | 15, _ => (first | rfl | trivial)
            | 16, _ => (first | rfl | trivial)
            | 17, _ => (first | rfl | trivial)
            | 18, _ => (first | rfl | trivial)
            | 19, _ => (first | rfl | trivial)
            | 20, _ => (first | rfl | trivial)
            | 21, _ => (first | rfl | trivial)
            | 22, _ => (first | rfl | trivial)
            | 23, _ => (first | rfl | trivial)
            | 24, _ => (first | rfl | trivial)
            | 25, _ => (first | rfl | trivial)
            | 26, _ => (first | rfl | trivial)
            | 27, _ => (first | rfl | trivial)
            | 28, _ => (first | rfl | trivial)
            | 29, _ => (first | rfl | trivial)
            | 30, _ => (first | rfl | trivial)
            | 31, _ => (first | rfl | trivial)
            | 32, _ => (first | rfl | trivial)
            | 33, _ => (first | rfl | trivial)
            | 34, _ => (first | rfl | trivial)
            | 35, _ => (first | rfl | trivial)
            | 36, _ => (first | rfl | trivial)
            | 37, _ => (first | rfl | trivial)
            | 38, _ => (first | rfl | trivial)
            | 39, _ => (first | rfl | trivial)
            | 40, _ => (first | rfl | trivial)
            | 41, _ => (first | rfl | trivial)
            | 42, _ => (first | rfl | trivial)
            | 43, _ => (first | rfl | trivial)
            | 44, _ => (first | rfl | trivial)
            | j + 45, h1 => omega
          show ((m 3 = true → Vec 5 1 v16 (formB ⟨key, vz, bs⟩).length ((formB ⟨key, vz, bs⟩).map u8) l16) ∧ (true = true → Vec 5 1 vn (formB ⟨key, vz, bs⟩).length ((formB ⟨key, vz, bs⟩).map u8) ln) ∧ (true = true → m 3 = true)) ∧ St w [] ((bif m 3 then l16 else []) ++ ((bif true then ln else []) ++ ((b3, cb (cT key vz (.slice a bs.length c)) 28) :: (b4, cb (cV va) 25) :: (b5, cb (cV vc) 25) :: []))) w1
          simp only [hm, hp3, cond_true, cond_false] at hw ⊢
          exact ⟨⟨fun _ => hF.1 hp3, fun _ => hvn, fun _ => (by first | trivial | rfl)⟩, hw.perm (by (refine perm_cnt (fun _ => ?_)); simp only [cntB_append, cntB_cons, cntB_nil, Nat.add_zero, Nat.zero_add]; try ac_rfl)⟩
        · skip
          obtain ⟨v16, l16, v19, l19⟩ := x
          show J _ _ _ _ _ ((14, .bool true) :: (19, v19) :: _) _
          have hp6 : m 6 = true := predsT hp (by kernel_rfl)
          refine J.pr (fun hF => ?_)
          refine J.unguard rfl rfl rfl ?_
          refine J.toStr (m := (formB ⟨key, vz, bs⟩).length) (bs := formB ⟨key, vz, bs⟩) Ty.el26 Ty.u5 Ty.u9 rfl (fun w1 hw => vec_rowM (hF.2.1 hp6) hw (fun q hq => by simp [hp6, hq])) rfl rfl ?_
          exact J.finX rfl (fun _ hw => ⟨⟨v16, l16, v19, l19⟩, rfl, fun _ _ _ => rfl, hF, hw⟩)
        · skip
          obtain ⟨v16, l16, v19, l19⟩ := x
          show J _ _ _ _ _ ((14, .bool true) :: (20, .string (str (formB ⟨key, vz, bs⟩))) :: (17, .string (str (formB ⟨key, vz, bs⟩))) :: _) _
          refine J.pr (fun hF => ?_)
          refine J.unguard rfl rfl rfl ?_
          refine J.strEq (xs := formB ⟨key, vz, bs⟩) (ys := formB ⟨key, vz, bs⟩) rfl rfl rfl ?_
          refine J.name 21 rfl (show _ = Value.bool true by simp) ?_
          exact J.finX rfl (fun _ hw => ⟨⟨v16, l16, v19, l19⟩, rfl, fun _ _ _ => rfl, hF, hw⟩)
        · skip
          obtain ⟨v16, l16, v19, l19⟩ := x
          show J _ _ _ _ _ ((21, .bool true) :: (14, .bool true) :: _) _
          refine J.pr (fun hF => ?_)
          (first | refine J.pickT rfl rfl rfl ?_ | refine J.pickF rfl rfl rfl ?_)
          exact J.finX rfl (fun _ hw => ⟨⟨v16, l16, v19, l19⟩, rfl, fun _ _ _ => rfl, hF, hw⟩)
        · skip
          obtain ⟨v16, l16, v19, l19⟩ := x
          show J _ _ _ _ _ ((19, v19) :: (22, .bool true) :: _) _
          have hp6 : m 6 = true := predsT hp (by kernel_rfl)
          refine J.pr (fun hF => ?_)
          refine J.move rfl rfl ?_
          exact J.finX rfl (fun _ hw => ⟨⟨v16, l16, v19, l19⟩, rfl, fun _ _ _ => rfl, hF, hw⟩)
        · skip
          obtain ⟨v16, l16, v19, l19⟩ := x
          show J _ _ _ _ _ ((23, .bool true) :: _) _
          refine J.pr (fun hF => ?_)
          refine J.unguard rfl rfl rfl ?_
          refine J.loadA (vs := cV va) Ty.a25 Ty.s25 rfl rfl (fun w1 hw => Cells.of_block (hw.own ((b4, cb (cV va) 25)) (by repeat first | exact .head _ | apply List.Mem.tail | apply List.mem_append_right)) rfl) rfl ?_
          exact J.finX rfl (fun _ hw => ⟨⟨v16, l16, v19, l19⟩, rfl, fun _ _ _ => rfl, hF, hw⟩)
        · skip
          obtain ⟨v16, l16, v19, l19⟩ := x
          show J _ _ _ _ _ ((23, .bool true) :: _) _
          refine J.pr (fun hF => ?_)
          refine J.unguard rfl rfl rfl ?_
          refine J.loadA (vs := cV vc) Ty.a25 Ty.s25 rfl rfl (fun w1 hw => Cells.of_block (hw.own ((b5, cb (cV vc) 25)) (by repeat first | exact .head _ | apply List.Mem.tail | apply List.mem_append_right)) rfl) rfl ?_
          exact J.finX rfl (fun _ hw => ⟨⟨v16, l16, v19, l19⟩, rfl, fun _ _ _ => rfl, hF, hw⟩)
        · skip
          obtain ⟨v16, l16, v19, l19⟩ := x
          show J _ _ _ _ _ ((23, .bool true) :: (23, .bool true) :: (25, .agg (cV vc).toArray) :: (24, .agg (cV va).toArray) :: _) _
          refine J.pr (fun hF => ?_)
          refine J.unguard rfl rfl rfl ?_
          refine J.callB (v := .bool false) (fun w1 w2 hw hb => hw.step hb) Ty.bd13 rfl rfl (fun w1 hw => by have h9 := newer_spec va vc w1; rw [hP] at h9; exact h9) ?_
          exact J.finX rfl (fun _ hw => ⟨⟨v16, l16, v19, l19⟩, rfl, fun _ _ _ => rfl, hF, hw⟩)
        · skip
          obtain ⟨v16, l16, v19, l19⟩ := x
          show J _ _ _ _ _ ((23, .bool true) :: _) _
          refine J.pr (fun hF => ?_)
          refine J.unguard rfl rfl rfl ?_
          refine J.loadA (vs := cV va) Ty.a25 Ty.s25 rfl rfl (fun w1 hw => Cells.of_block (hw.own ((b4, cb (cV va) 25)) (by repeat first | exact .head _ | apply List.Mem.tail | apply List.mem_append_right)) rfl) rfl ?_
          exact J.finX rfl (fun _ hw => ⟨⟨v16, l16, v19, l19⟩, rfl, fun _ _ _ => rfl, hF, hw⟩)
        · skip
          obtain ⟨v16, l16, v19, l19⟩ := x
          show J _ _ _ _ _ ((23, .bool true) :: _) _
          refine J.pr (fun hF => ?_)
          refine J.unguard rfl rfl rfl ?_
          refine J.loadA (vs := cV vc) Ty.a25 Ty.s25 rfl rfl (fun w1 hw => Cells.of_block (hw.own ((b5, cb (cV vc) 25)) (by repeat first | exact .head _ | apply List.Mem.tail | apply List.mem_append_right)) rfl) rfl ?_
          exact J.finX rfl (fun _ hw => ⟨⟨v16, l16, v19, l19⟩, rfl, fun _ _ _ => rfl, hF, hw⟩)
        · skip
          obtain ⟨v16, l16, v19, l19⟩ := x
          show J _ _ _ _ _ ((23, .bool true) :: (26, .bool false) :: (28, .agg (cV vc).toArray) :: (27, .agg (cV va).toArray) :: _) _
          refine J.pr (fun hF => ?_)
          refine J.unguard rfl rfl rfl ?_
          refine J.callB (v := .bool false) (fun w1 w2 hw hb => hw.step hb) Ty.bd14 rfl rfl (fun w1 hw => by have h9 := rnewer_spec va vc w1; rw [hP] at h9; exact h9) ?_
          exact J.finX rfl (fun _ hw => ⟨⟨v16, l16, v19, l19⟩, rfl, fun _ _ _ => rfl, hF, hw⟩)
        · skip
          obtain ⟨v16, l16, v19, l19⟩ := x
          show J _ _ _ _ _ ((23, .bool true) :: (29, .bool false) :: (26, .bool false) :: _) _
          refine J.pr (fun hF => ?_)
          refine J.unguard rfl rfl rfl ?_
          refine J.eqBool (.inl rfl) Ty.u4 rfl rfl rfl ?_
          refine J.name 30 rfl (show _ = Value.bool true from rfl) ?_
          exact J.finX rfl (fun _ hw => ⟨⟨v16, l16, v19, l19⟩, rfl, fun _ _ _ => rfl, hF, hw⟩)
        · skip
          obtain ⟨v16, l16, v19, l19⟩ := x
          show J _ _ _ _ _ ((30, .bool true) :: (23, .bool true) :: _) _
          refine J.pr (fun hF => ?_)
          (first | refine J.pickT rfl rfl rfl ?_ | refine J.pickF rfl rfl rfl ?_)
          exact J.finX rfl (fun _ hw => ⟨⟨v16, l16, v19, l19⟩, rfl, fun _ _ _ => rfl, hF, hw⟩)
        · skip
          obtain ⟨v16, l16, v19, l19⟩ := x
          show J _ _ _ _ _ ((29, .bool false) :: (31, .bool true) :: _) _
          refine J.pr (fun hF => ?_)
          refine J.move rfl rfl ?_
          exact J.finX rfl (fun _ hw => ⟨⟨v16, l16, v19, l19⟩, rfl, fun _ _ _ => rfl, hF, hw⟩)
        · skip
          obtain ⟨v16, l16, v19, l19⟩ := x
          show J _ _ _ _ _ ((32, .bool true) :: _) _
          refine J.pr (fun hF => ?_)
          refine J.unguard rfl rfl rfl ?_
          refine J.loadA (vs := cV va) Ty.a25 Ty.s25 rfl rfl (fun w1 hw => Cells.of_block (hw.own ((b4, cb (cV va) 25)) (by repeat first | exact .head _ | apply List.Mem.tail | apply List.mem_append_right)) rfl) rfl ?_
          exact J.finX rfl (fun _ hw => ⟨⟨v16, l16, v19, l19⟩, rfl, fun _ _ _ => rfl, hF, hw⟩)
        · skip
          obtain ⟨v16, l16, v19, l19⟩ := x
          show J _ _ _ _ _ ((32, .bool true) :: _) _
          refine J.pr (fun hF => ?_)
          refine J.unguard rfl rfl rfl ?_
          refine J.loadA (vs := cV vc) Ty.a25 Ty.s25 rfl rfl (fun w1 hw => Cells.of_block (hw.own ((b5, cb (cV vc) 25)) (by repeat first | exact .head _ | apply List.Mem.tail | apply List.mem_append_right)) rfl) rfl ?_
          exact J.finX rfl (fun _ hw => ⟨⟨v16, l16, v19, l19⟩, rfl, fun _ _ _ => rfl, hF, hw⟩)
        · skip
          obtain ⟨v16, l16, v19, l19⟩ := x
          show J _ _ _ _ _ ((32, .bool true) :: (32, .bool true) :: (34, .agg (cV vc).toArray) :: (33, .agg (cV va).toArray) :: _) _
          refine J.pr (fun hF => ?_)
          refine J.unguard rfl rfl rfl ?_
          refine J.callB (v := .bool false) (fun w1 w2 hw hb => hw.step hb) Ty.bd13 rfl rfl (fun w1 hw => by have h9 := newer_spec va vc w1; rw [hP] at h9; exact h9) ?_
          exact J.finX rfl (fun _ hw => ⟨⟨v16, l16, v19, l19⟩, rfl, fun _ _ _ => rfl, hF, hw⟩)
        · skip
          obtain ⟨v16, l16, v19, l19⟩ := x
          show J _ _ _ _ _ ((32, .bool true) :: (35, .bool false) :: (35, .bool false) :: _) _
          refine J.pr (fun hF => ?_)
          first | refine J.skip rfl rfl rfl rfl rfl ?_ | refine J.skipU rfl rfl rfl rfl ?_ | (refine J.unguard rfl rfl rfl ?_; refine J.move rfl rfl ?_)
          exact J.finX rfl (fun _ hw => ⟨⟨v16, l16, v19, l19⟩, rfl, fun _ _ _ => rfl, hF, hw⟩)
        · skip
          obtain ⟨v16, l16, v19, l19⟩ := x
          show J _ _ _ _ _ ((36, .bool false) :: _) _
          refine J.pr (fun hF => ?_)
          first | refine J.skip rfl rfl rfl rfl rfl ?_ | refine J.skipU rfl rfl rfl rfl ?_ | (refine J.unguard rfl rfl rfl ?_; refine J.loadOA Ty.a25 Ty.s25 rfl (by repeat first | exact .head _ | apply List.Mem.tail | apply List.mem_append_right) (by exact rfl) rfl rfl ?_)
          exact J.finX rfl (fun _ hw => ⟨⟨v16, l16, v19, l19⟩, rfl, fun _ _ _ => rfl, hF, hw⟩)
        · skip
          obtain ⟨v16, l16, v19, l19⟩ := x
          show J _ _ _ _ _ ((36, .bool false) :: _) _
          refine J.pr (fun hF => ?_)
          first | refine J.skip rfl rfl rfl rfl rfl ?_ | refine J.skipU rfl rfl rfl rfl ?_ | (refine J.unguard rfl rfl rfl ?_; refine J.loadOA Ty.a25 Ty.s25 rfl (by repeat first | exact .head _ | apply List.Mem.tail | apply List.mem_append_right) (by exact rfl) rfl rfl ?_)
          exact J.finX rfl (fun _ hw => ⟨⟨v16, l16, v19, l19⟩, rfl, fun _ _ _ => rfl, hF, hw⟩)
        · skip
          obtain ⟨v16, l16, v19, l19⟩ := x
          show J _ _ _ _ _ ((36, .bool false) :: (36, .bool false) :: (38, undef) :: (37, undef) :: _) _
          refine J.pr (fun hF => ?_)
          first | refine J.skip rfl rfl rfl rfl rfl ?_ | refine J.skipU rfl rfl rfl rfl ?_ | (refine J.unguard rfl rfl rfl ?_; fail)
          exact J.finX rfl (fun _ hw => ⟨⟨v16, l16, v19, l19⟩, rfl, fun _ _ _ => rfl, hF, hw⟩)
        · skip
          obtain ⟨v16, l16, v19, l19⟩ := x
          show J _ _ _ _ _ ((32, .bool true) :: (39, undef) :: (36, .bool false) :: _) _
          refine J.pr (fun hF => ?_)
          first | refine J.skip rfl rfl rfl rfl rfl ?_ | refine J.skipU rfl rfl rfl rfl ?_ | (refine J.unguard rfl rfl rfl ?_; (first | refine J.pickT rfl rfl rfl ?_ | refine J.pickF rfl rfl rfl ?_))
          exact J.finX rfl (fun _ hw => ⟨⟨v16, l16, v19, l19⟩, rfl, fun _ _ _ => rfl, hF, hw⟩)
        · skip
          obtain ⟨v16, l16, v19, l19⟩ := x
          show J _ _ _ _ _ ((32, .bool true) :: (40, .bool false) :: _) _
          refine J.pr (fun hF => ?_)
          first | refine J.skip rfl rfl rfl rfl rfl ?_ | refine J.skipU rfl rfl rfl rfl ?_ | (refine J.unguard rfl rfl rfl ?_; refine J.not rfl rfl ?_)
          exact J.finX rfl (fun _ hw => ⟨⟨v16, l16, v19, l19⟩, rfl, fun _ _ _ => rfl, hF, hw⟩)
        · skip
          obtain ⟨v16, l16, v19, l19⟩ := x
          show J _ _ _ _ _ ((41, .bool true) :: (32, .bool true) :: _) _
          refine J.pr (fun hF => ?_)
          (first | refine J.pickT rfl rfl rfl ?_ | refine J.pickF rfl rfl rfl ?_)
          exact J.finX rfl (fun _ hw => ⟨⟨v16, l16, v19, l19⟩, rfl, fun _ _ _ => rfl, hF, hw⟩)
        · skip
          obtain ⟨v16, l16, v19, l19⟩ := x
          show J _ _ _ _ _ ((39, undef) :: (42, .bool true) :: _) _
          refine J.pr (fun hF => ?_)
          refine J.move rfl rfl ?_
          exact J.finX rfl (fun _ hw => ⟨⟨v16, l16, v19, l19⟩, rfl, fun _ _ _ => rfl, hF, hw⟩)
        · skip
          obtain ⟨v16, l16, v19, l19⟩ := x
          show J _ _ _ _ _ ((43, .bool true) :: _) _
          refine J.pr (fun hF => ?_)
          refine J.unguard rfl rfl rfl ?_
          refine J.loadA (vs := cV va) Ty.a25 Ty.s25 rfl rfl (fun w1 hw => Cells.of_block (hw.own ((b4, cb (cV va) 25)) (by repeat first | exact .head _ | apply List.Mem.tail | apply List.mem_append_right)) rfl) rfl ?_
          exact J.finX rfl (fun _ hw => ⟨⟨v16, l16, v19, l19⟩, rfl, fun _ _ _ => rfl, hF, hw⟩)
        · skip
          obtain ⟨v16, l16, v19, l19⟩ := x
          show J _ _ _ _ _ ((43, .bool true) :: _) _
          refine J.pr (fun hF => ?_)
          refine J.unguard rfl rfl rfl ?_
          refine J.loadA (vs := cV vc) Ty.a25 Ty.s25 rfl rfl (fun w1 hw => Cells.of_block (hw.own ((b5, cb (cV vc) 25)) (by repeat first | exact .head _ | apply List.Mem.tail | apply List.mem_append_right)) rfl) rfl ?_
          exact J.finX rfl (fun _ hw => ⟨⟨v16, l16, v19, l19⟩, rfl, fun _ _ _ => rfl, hF, hw⟩)
        · skip
          obtain ⟨v16, l16, v19, l19⟩ := x
          show J _ _ _ _ _ ((43, .bool true) :: (45, .agg (cV vc).toArray) :: (44, .agg (cV va).toArray) :: _) _
          refine J.pr (fun hF => ?_)
          refine J.unguard rfl rfl rfl ?_
          refine J.eqV rfl rfl hoa hob rfl ?_
          refine J.name 46 rfl (show _ = Value.bool false by simp [hab]) ?_
          exact J.finX rfl (fun _ hw => ⟨⟨v16, l16, v19, l19⟩, rfl, fun _ _ _ => rfl, hF, hw⟩)
        · skip
          obtain ⟨v16, l16, v19, l19⟩ := x
          show J _ _ _ _ _ ((43, .bool true) :: (43, .bool true) :: (46, .bool false) :: _) _
          refine J.pr (fun hF => ?_)
          first | refine J.skip rfl rfl rfl rfl rfl ?_ | refine J.skipU rfl rfl rfl rfl ?_ | (refine J.unguard rfl rfl rfl ?_; refine J.move rfl rfl ?_)
          exact J.finX rfl (fun _ hw => ⟨⟨v16, l16, v19, l19⟩, rfl, fun _ _ _ => rfl, hF, hw⟩)
        · skip
          obtain ⟨v16, l16, v19, l19⟩ := x
          show J _ _ _ _ _ ((47, .bool false) :: _) _
          refine J.pr (fun hF => ?_)
          refine J.unguard rfl rfl rfl ?_
          refine J.loadA (vs := cV va) Ty.a25 Ty.s25 rfl rfl (fun w1 hw => Cells.of_block (hw.own ((b4, cb (cV va) 25)) (by repeat first | exact .head _ | apply List.Mem.tail | apply List.mem_append_right)) rfl) rfl ?_
          exact J.finX rfl (fun _ hw => ⟨⟨v16, l16, v19, l19⟩, rfl, fun _ _ _ => rfl, hF, hw⟩)
        · skip
          obtain ⟨v16, l16, v19, l19⟩ := x
          show J _ _ _ _ _ ((47, .bool false) :: _) _
          refine J.pr (fun hF => ?_)
          refine J.unguard rfl rfl rfl ?_
          refine J.loadA (vs := cV vc) Ty.a25 Ty.s25 rfl rfl (fun w1 hw => Cells.of_block (hw.own ((b5, cb (cV vc) 25)) (by repeat first | exact .head _ | apply List.Mem.tail | apply List.mem_append_right)) rfl) rfl ?_
          exact J.finX rfl (fun _ hw => ⟨⟨v16, l16, v19, l19⟩, rfl, fun _ _ _ => rfl, hF, hw⟩)
        · skip
          obtain ⟨v16, l16, v19, l19⟩ := x
          show J _ _ _ _ _ ((47, .bool false) :: (47, .bool false) :: (49, .agg (cV vc).toArray) :: (48, .agg (cV va).toArray) :: _) _
          refine J.pr (fun hF => ?_)
          refine J.unguard rfl rfl rfl ?_
          refine J.callB (v := .bool false) (fun w1 w2 hw hb => hw.step hb) Ty.bd13 rfl rfl (fun w1 hw => by have h9 := newer_spec va vc w1; rw [hP] at h9; exact h9) ?_
          exact J.finX rfl (fun _ hw => ⟨⟨v16, l16, v19, l19⟩, rfl, fun _ _ _ => rfl, hF, hw⟩)
        · skip
          obtain ⟨v16, l16, v19, l19⟩ := x
          show J _ _ _ _ _ ((43, .bool true) :: (50, .bool false) :: (47, .bool false) :: _) _
          refine J.pr (fun hF => ?_)
          first | refine J.skip rfl rfl rfl rfl rfl ?_ | refine J.skipU rfl rfl rfl rfl ?_ | (refine J.unguard rfl rfl rfl ?_; (first | refine J.pickT rfl rfl rfl ?_ | refine J.pickF rfl rfl rfl ?_))
          exact J.finX rfl (fun _ hw => ⟨⟨v16, l16, v19, l19⟩, rfl, fun _ _ _ => rfl, hF, hw⟩)
        · skip
          obtain ⟨v16, l16, v19, l19⟩ := x
          show J _ _ _ _ _ ((43, .bool true) :: (50, .bool false) :: (51, .bool false) :: _) _
          refine J.pr (fun hF => ?_)
          first | refine J.skip rfl rfl rfl rfl rfl ?_ | refine J.skipU rfl rfl rfl rfl ?_ | (refine J.unguard rfl rfl rfl ?_; refine J.move rfl rfl ?_)
          exact J.finX rfl (fun _ hw => ⟨⟨v16, l16, v19, l19⟩, rfl, fun _ _ _ => rfl, hF, hw⟩)
        · skip
          obtain ⟨v16, l16, v19, l19⟩ := x
          show J _ _ _ _ _ ((52, .bool false) :: _) _
          refine J.pr (fun hF => ?_)
          refine J.unguard rfl rfl rfl ?_
          refine J.loadA (vs := cV vc) Ty.a25 Ty.s25 rfl rfl (fun w1 hw => Cells.of_block (hw.own ((b5, cb (cV vc) 25)) (by repeat first | exact .head _ | apply List.Mem.tail | apply List.mem_append_right)) rfl) rfl ?_
          exact J.finX rfl (fun _ hw => ⟨⟨v16, l16, v19, l19⟩, rfl, fun _ _ _ => rfl, hF, hw⟩)
        · skip
          obtain ⟨v16, l16, v19, l19⟩ := x
          show J _ _ _ _ _ ((52, .bool false) :: _) _
          refine J.pr (fun hF => ?_)
          refine J.unguard rfl rfl rfl ?_
          refine J.loadA (vs := cV va) Ty.a25 Ty.s25 rfl rfl (fun w1 hw => Cells.of_block (hw.own ((b4, cb (cV va) 25)) (by repeat first | exact .head _ | apply List.Mem.tail | apply List.mem_append_right)) rfl) rfl ?_
          exact J.finX rfl (fun _ hw => ⟨⟨v16, l16, v19, l19⟩, rfl, fun _ _ _ => rfl, hF, hw⟩)
        · skip
          obtain ⟨v16, l16, v19, l19⟩ := x
          show J _ _ _ _ _ ((52, .bool false) :: (52, .bool false) :: (54, .agg (cV va).toArray) :: (53, .agg (cV vc).toArray) :: _) _
          refine J.pr (fun hF => ?_)
          refine J.unguard rfl rfl rfl ?_
          refine J.callB (v := .bool true) (fun w1 w2 hw hb => hw.step hb) Ty.bd13 rfl rfl (fun w1 hw => by have h9 := newer_spec vc va w1; rw [hQ] at h9; exact h9) ?_
          exact J.finX rfl (fun _ hw => ⟨⟨v16, l16, v19, l19⟩, rfl, fun _ _ _ => rfl, hF, hw⟩)
        · skip
          obtain ⟨v16, l16, v19, l19⟩ := x
          show J _ _ _ _ _ ((43, .bool true) :: (55, .bool true) :: (52, .bool false) :: _) _
          refine J.pr (fun hF => ?_)
          first | refine J.skip rfl rfl rfl rfl rfl ?_ | refine J.skipU rfl rfl rfl rfl ?_ | (refine J.unguard rfl rfl rfl ?_; (first | refine J.pickT rfl rfl rfl ?_ | refine J.pickF rfl rfl rfl ?_))
          exact J.finX rfl (fun _ hw => ⟨⟨v16, l16, v19, l19⟩, rfl, fun _ _ _ => rfl, hF, hw⟩)
        · skip
          obtain ⟨v16, l16, v19, l19⟩ := x
          show J _ _ _ _ _ ((56, .bool true) :: (43, .bool true) :: _) _
          refine J.pr (fun hF => ?_)
          (first | refine J.pickT rfl rfl rfl ?_ | refine J.pickF rfl rfl rfl ?_)
          exact J.finX rfl (fun _ hw => ⟨⟨v16, l16, v19, l19⟩, rfl, fun _ _ _ => rfl, hF, hw⟩)
      case htail =>
        intro x
        obtain ⟨v16, l16, v19, l19⟩ := x
        show J _ _ _ _ _ ((57, .bool true) :: (56, .bool true) :: (55, .bool true) :: (54, .agg (cV va).toArray) :: (53, .agg (cV vc).toArray) :: (52, .bool false) :: (51, .bool false) :: (50, .bool false) :: (49, .agg (cV vc).toArray) :: (48, .agg (cV va).toArray) :: (47, .bool false) :: (46, .bool false) :: (45, .agg (cV vc).toArray) :: (44, .agg (cV va).toArray) :: (43, .bool true) :: (42, .bool true) :: (41, .bool true) :: (40, .bool false) :: (39, undef) :: (38, undef) :: (37, undef) :: (36, .bool false) :: (35, .bool false) :: (34, .agg (cV vc).toArray) :: (33, .agg (cV va).toArray) :: (32, .bool true) :: (31, .bool true) :: (30, .bool true) :: (29, .bool false) :: (28, .agg (cV vc).toArray) :: (27, .agg (cV va).toArray) :: (26, .bool false) :: (25, .agg (cV vc).toArray) :: (24, .agg (cV va).toArray) :: (23, .bool true) :: (22, .bool true) :: (21, .bool true) :: (20, .string (str (formB ⟨key, vz, bs⟩))) :: (19, v19) :: (18, .agg (cT key vz (.slice a bs.length c)).toArray) :: (17, .string (str (formB ⟨key, vz, bs⟩))) :: (16, v16) :: (15, .agg (cT key vz (.slice a bs.length c)).toArray) :: (14, .bool true) :: (13, .bool true) :: _) (fun w1 => ((true = true → Vec 5 1 v16 (formB ⟨key, vz, bs⟩).length ((formB ⟨key, vz, bs⟩).map u8) l16) ∧ (true = true → Vec 5 1 v19 (formB ⟨key, vz, bs⟩).length ((formB ⟨key, vz, bs⟩).map u8) l19) ∧ (true = true → true = true)) ∧ St w [] ((bif true then l16 else []) ++ ((bif true then l19 else []) ++ ((b3, cb (cT key vz (.slice a bs.length c)) 28) :: (b4, cb (cV va) 25) :: (b5, cb (cV vc) 25) :: []))) w1)
        refine J.pr (fun hF => ?_)
        refine J.assign rfl rfl ?_
        refine J.nil ?_
        refine JX.thenN (hK2 _ _ ?_)
        refine JC.ret ?_
        refine JX.ret1 rfl rfl (fun w hw => ?_)
        exact ⟨rfl, (hw.drop (List.nil_sublist _)).below⟩
    · skip
      apply JC.drawX (α := Value × List (Nat × Obj) × Value × List (Nat × Obj)) 45 (fun x => match x with | ⟨v16, l16, v19, l19⟩ => [.bool true, .bool true, .agg (cT key vz (.slice a bs.length c)).toArray, v16, .string (str (formB ⟨key, vz, bs⟩)), .agg (cT key vz (.slice a bs.length c)).toArray, v19, .string (str (formB ⟨key, vz, bs⟩)), .bool true, .bool true, .bool true, .agg (cV va).toArray, .agg (cV vc).toArray, .bool false, .agg (cV va).toArray, .agg (cV vc).toArray, .bool false, .bool true, .bool true, .bool true, .agg (cV va).toArray, .agg (cV vc).toArray, .bool false, .bool false, undef, undef, undef, .bool false, .bool true, .bool true, .bool true, .agg (cV va).toArray, .agg (cV vc).toArray, .bool true, .bool true, undef, undef, undef, .bool true, .bool true, undef, undef, undef, .bool true, .bool true]) (fun m x => match x with | ⟨v16, l16, v19, l19⟩ => fun w1 => ((m 3 = true → Vec 5 1 v16 (formB ⟨key, vz, bs⟩).length ((formB ⟨key, vz, bs⟩).map u8) l16) ∧ (m 6 = true → Vec 5 1 v19 (formB ⟨key, vz, bs⟩).length ((formB ⟨key, vz, bs⟩).map u8) l19) ∧ (m 6 = true → m 3 = true)) ∧ St w [] ((bif m 3 then l16 else []) ++ ((bif m 6 then l19 else []) ++ ((b3, cb (cT key vz (.slice a bs.length c)) 28) :: (b4, cb (cV va) 25) :: (b5, cb (cV vc) 25) :: []))) w1) Ty.mixed rfl rfl rfl (by kernel_rfl) rfl rfl ?hinit ?hstep ?htail
      case hinit => exact fun w1 hw => ⟨(.bool false, [], .bool false, []), ⟨fun h => (by cases h), fun h => (by cases h), fun h => (by cases h)⟩, hw.drew⟩
      case hstep =>
        refine ⟨fun m x hm hp => ?_, fun m x hm hp => ?_, fun m x hm hp => ?_, fun m x hm hp => ?_, fun m x hm hp => ?_, fun m x hm hp => ?_, fun m x hm hp => ?_, fun m x hm hp => ?_, fun m x hm hp => ?_, fun m x hm hp => ?_, fun m x hm hp => ?_, fun m x hm hp => ?_, fun m x hm hp => ?_, fun m x hm hp => ?_, fun m x hm hp => ?_, fun m x hm hp => ?_, fun m x hm hp => ?_, fun m x hm hp => ?_, fun m x hm hp => ?_, fun m x hm hp => ?_, fun m x hm hp => ?_, fun m x hm hp => ?_, fun m x hm hp => ?_, fun m x hm hp => ?_, fun m x hm hp => ?_, fun m x hm hp => ?_, fun m x hm hp => ?_, fun m x hm hp => ?_, fun m x hm hp => ?_, fun m x hm hp => ?_, fun m x hm hp => ?_, fun m x hm hp => ?_, fun m x hm hp => ?_, fun m x hm hp => ?_, fun m x hm hp => ?_, fun m x hm hp => ?_, fun m x hm hp => ?_, fun m x hm hp => ?_, fun m x hm hp => ?_, fun m x hm hp => ?_, fun m x hm hp => ?_, fun m x hm hp => ?_, fun m x hm hp => ?_, fun m x hm hp => ?_, fun m x hm hp => ?_, trivial⟩
        · skip
          obtain ⟨v16, l16, v19, l19⟩ := x
          show J _ _ _ _ _ (_) _
          refine J.pr (fun hF => ?_)
          refine J.callB (v := .bool true) (fun w1 w2 hw hb => hw.step hb) Ty.bd10 rfl rfl (fun w1 hw => fixed18_spec w1) ?_
          exact J.finX rfl (fun _ hw => ⟨⟨v16, l16, v19, l19⟩, rfl, fun _ _ _ => rfl, hF, hw⟩)
        · skip
          obtain ⟨v16, l16, v19, l19⟩ := x
          show J _ _ _ _ _ ((13, .bool true) :: (13, .bool true) :: _) _
          refine J.pr (fun hF => ?_)
          refine J.move rfl rfl ?_
          exact J.finX rfl (fun _ hw => ⟨⟨v16, l16, v19, l19⟩, rfl, fun _ _ _ => rfl, hF, hw⟩)
        · skip
          obtain ⟨v16, l16, v19, l19⟩ := x
          show J _ _ _ _ _ ((14, .bool true) :: _) _
          refine J.pr (fun hF => ?_)
          refine J.unguard rfl rfl rfl ?_
          refine J.loadA (vs := cT key vz (.slice a bs.length c)) Ty.a28 Ty.s28 rfl rfl (fun w1 hw => Cells.of_block (hw.own ((b3, cb (cT key vz (.slice a bs.length c)) 28)) (by repeat first | exact .head _ | apply List.Mem.tail | apply List.mem_append_right)) rfl) rfl ?_
          exact J.finX rfl (fun _ hw => ⟨⟨v16, l16, v19, l19⟩, rfl, fun _ _ _ => rfl, hF, hw⟩)
        · skip
          obtain ⟨v16, l16, v19, l19⟩ := x
          show J _ _ _ _ _ ((14, .bool true) :: (14, .bool true) :: (15, .agg (cT key vz (.slice a bs.length c)).toArray) :: _) _
          refine J.pr (fun hF => ?_)
          have h6 : m 6 = false := by cases h : m 6 with
            | false => rfl
            | true => rw [hF.2.2 h] at hm; cases hm
          refine J.conseq (I' := St w [] ((b3, cb (cT key vz (.slice a bs.length c)) 28) :: (b4, cb (cV va) 25) :: (b5, cb (cV vc) 25) :: [])) ?_ (fun w1 hw => by simp only [hm, h6, cond_true, cond_false, List.nil_append] at hw; exact hw)
          refine J.unguard rfl rfl rfl ?_
          refine J.perm ([] ++ ((b3, cb (cT key vz (.slice a bs.length c)) 28) :: (b4, cb (cV va) 25) :: (b5, cb (cV vc) 25) :: [])) (.refl _) ?_
          refine J.callS (α := Value × List (Nat × Obj)) (V := (·.1)) (Pr := fun xo => Vec 5 1 xo.1 (formB ⟨key, vz, bs⟩).length ((formB ⟨key, vz, bs⟩).map u8) xo.2) (L := (·.2)) (l1 := []) Ty.bd11 rfl rfl (fun w1 hw => form_spec (cT key vz (.slice a bs.length c)) key vz bs _ w1 rfl (hb.below (hw.drop (List.nil_sublist _)).below) hlb hz0 hz9) (fun xo hvn => ?_)
          obtain ⟨vn, ln⟩ := xo
          try simp only at hvn ⊢
          refine J.nil (JX.finB rfl (fun w1 hw => ⟨⟨⟨vn, ln, v19, l19⟩, rfl, fun j h1 h2 => ?_, ?_⟩, trivial⟩))
          · match j, h1 with
            | 0, _ => (first | rfl | trivial)
            | 1, _ => (first | rfl | trivial)
            | 2, _ => (first | rfl | trivial)
            | 3, _ => exact absurd (h2.symm.trans hm) (by decide)
            | 4, _ => (first | rfl | trivial)
            | 5, _ => (first | rfl | trivial)
            | 6, _ => (first | rfl | trivial)
            | 7, _ => (first | rfl | trivial)
            | 8, _ => (first | rfl | trivial)
            | 9, _ => (first | rfl | trivial)
            | 10, _ => (first | rfl | trivial)
            | 11, _ => (first | rfl | trivial)
            | 12, _ => (first | rfl | trivial)
            | 13, _ => (first | rfl | trivial)
            | 14, _ => (first | rfl | trivial)
            | 15, _ => (first | rfl | trivial)
            | 16, _ => (first | rfl | trivial)
            | 17, _ => (first | rfl | trivial)
            | 18, _ => (first | rfl | trivial)
            | 19, _ => (first | rfl | trivial)
            | 20, _ => (first | rfl | trivial)
            | 21, _ => (first | rfl | trivial)
            | 22, _ => (first | rfl | trivial)
            | 23, _ => (first | rfl | trivial)
            | 24, _ => (first | rfl | trivial)
            | 25, _ => (first | rfl | trivial)
            | 26, _ => (first | rfl | trivial)
            | 27, _ => (first | rfl | trivial)
            | 28, _ => (first | rfl | trivial)
            | 29, _ => (first | rfl | trivial)
            | 30, _ => (first | rfl | trivial)
            | 31, _ => (first | rfl | trivial)
            | 32, _ => (first | rfl | trivial)
            | 33, _ => (first | rfl | trivial)
            | 34, _ => (first | rfl | trivial)
            | 35, _ => (first | rfl | trivial)
            | 36, _ => (first | rfl | trivial)
            | 37, _ => (first | rfl | trivial)
            | 38, _ => (first | rfl | trivial)
            | 39, _ => (first | rfl | trivial)
            | 40, _ => (first | rfl | trivial)
            | 41, _ => (first | rfl | trivial)
            | 42, _ => (first | rfl | trivial)
            | 43, _ => (first | rfl | trivial)
            | 44, _ => (first | rfl | trivial)
            | j + 45, h1 => omega
          show ((true = true → Vec 5 1 vn (formB ⟨key, vz, bs⟩).length ((formB ⟨key, vz, bs⟩).map u8) ln) ∧ (m 6 = true → Vec 5 1 v19 (formB ⟨key, vz, bs⟩).length ((formB ⟨key, vz, bs⟩).map u8) l19) ∧ (m 6 = true → true = true)) ∧ St w [] ((bif true then ln else []) ++ ((bif m 6 then l19 else []) ++ ((b3, cb (cT key vz (.slice a bs.length c)) 28) :: (b4, cb (cV va) 25) :: (b5, cb (cV vc) 25) :: []))) w1
          simp only [hm, h6, cond_true, cond_false, List.nil_append] at hw ⊢
          exact ⟨⟨fun _ => hvn, fun h => (by cases h), fun h => (by cases h)⟩, hw.perm (by (refine perm_cnt (fun _ => ?_)); simp only [cntB_append, cntB_cons, cntB_nil, Nat.add_zero, Nat.zero_add]; try ac_rfl)⟩
        · skip
          obtain ⟨v16, l16, v19, l19⟩ := x
          show J _ _ _ _ _ ((14, .bool true) :: (16, v16) :: _) _
          have hp3 : m 3 = true := predsT hp (by kernel_rfl)
          refine J.pr (fun hF => ?_)
          refine J.unguard rfl rfl rfl ?_
          refine J.toStr (m := (formB ⟨key, vz, bs⟩).length) (bs := formB ⟨key, vz, bs⟩) Ty.el26 Ty.u5 Ty.u9 rfl (fun w1 hw => vec_rowM (hF.1 hp3) hw (fun q hq => by simp [hp3, hq])) rfl rfl ?_
          exact J.finX rfl (fun _ hw => ⟨⟨v16, l16, v19, l19⟩, rfl, fun _ _ _ => rfl, hF, hw⟩)
        · skip
          obtain ⟨v16, l16, v19, l19⟩ := x
          show J _ _ _ _ _ ((14, .bool true) :: _) _
          refine J.pr (fun hF => ?_)
          refine J.unguard rfl rfl rfl ?_
          refine J.loadA (vs := cT key vz (.slice a bs.length c)) Ty.a28 Ty.s28 rfl rfl (fun w1 hw => Cells.of_block (hw.own ((b3, cb (cT key vz (.slice a bs.length c)) 28)) (by repeat first | exact .head _ | apply List.Mem.tail | apply List.mem_append_right)) rfl) rfl ?_
          exact J.finX rfl (fun _ hw => ⟨⟨v16, l16, v19, l19⟩, rfl, fun _ _ _ => rfl, hF, hw⟩)
        · skip
          obtain ⟨v16, l16, v19, l19⟩ := x
          show J _ _ _ _ _ ((14, .bool true) :: (16, v16) :: (18, .agg (cT key vz (.slice a bs.length c)).toArray) :: _) _
          have hp3 : m 3 = true := predsT hp (by kernel_rfl)
          refine J.pr (fun hF => ?_)
          refine J.conseq (I' := St w [] (l16 ++ ((b3, cb (cT key vz (.slice a bs.length c)) 28) :: (b4, cb (cV va) 25) :: (b5, cb (cV vc) 25) :: []))) ?_ (fun w1 hw => by simp only [hm, hp3, cond_true, cond_false, List.nil_append] at hw; exact hw)
          refine J.unguard rfl rfl rfl ?_
          refine J.perm ([] ++ (l16 ++ ((b3, cb (cT key vz (.slice a bs.length c)) 28) :: (b4, cb (cV va) 25) :: (b5, cb (cV vc) 25) :: []))) (.refl _) ?_
          refine J.callS (α := Value × List (Nat × Obj)) (V := (·.1)) (Pr := fun xo => Vec 5 1 xo.1 (formB ⟨key, vz, bs⟩).length ((formB ⟨key, vz, bs⟩).map u8) xo.2) (L := (·.2)) (l1 := []) Ty.bd12 rfl rfl (fun w1 hw => rform_spec (cT key vz (.slice a bs.length c)) key vz bs _ w1 rfl (hb.below (hw.drop (List.nil_sublist _)).below) hlb hz0 hz9) (fun xo hvn => ?_)
          obtain ⟨vn, ln⟩ := xo
          try simp only at hvn ⊢
          refine J.nil (JX.finB rfl (fun w1 hw => ⟨⟨⟨v16, l16, vn, ln⟩, rfl, fun j h1 h2 => ?_, ?_⟩, trivial⟩))
          · match j, h1 with
            | 0, _ => (first | rfl | trivial)
            | 1, _ => (first | rfl | trivial)
            | 2, _ => (first | rfl | trivial)
            | 3, _ => (first | rfl | trivial)
            | 4, _ => (first | rfl | trivial)
            | 5, _ => (first | rfl | trivial)
            | 6, _ => exact absurd (h2.symm.trans hm) (by decide)
            | 7, _ => (first | rfl | trivial)
            | 8, _ => (first | rfl | trivial)
            | 9, _ => (first | rfl | trivial)
            | 10, _ => (first | rfl | trivial)
            | 11, _ => (first | rfl | trivial)
            | 12, _ => (first | rfl | trivial)
            | 13, _ => (first | rfl | trivial)
            | 14, _ => (first | rfl | trivial)
            | 15, _ => (first | rfl | trivial)
            | 16, _ => (first | rfl | trivial)
            | 17, _ => (first | rfl | trivial)
            | 18, _ => (first | rfl | trivial)
            | 19, _ => (first | rfl | trivial)
            | 20, _ => (first | rfl | trivial)
            | 21, _ => (first | rfl | trivial)
            | 22, _ => (first | rfl | trivial)
            | 23, _ => (first | rfl | trivial)
            | 24, _ => (first | rfl | trivial)
            | 25, _ => (first | rfl | trivial)
            | 26, _ => (first | rfl | trivial)
            | 27, _ => (first | rfl | trivial)
            | 28, _ => (first | rfl | trivial)
            | 29, _ => (first | rfl | trivial)
            | 30, _ => (first | rfl | trivial)
            | 31, _ => (first | rfl | trivial)
            | 32, _ => (first | rfl | trivial)
            | 33, _ => (first | rfl | trivial)
            | 34, _ => (first | rfl | trivial)
            | 35, _ => (first | rfl | trivial)
            | 36, _ => (first | rfl | trivial)
            | 37, _ => (first | rfl | trivial)
            | 38, _ => (first | rfl | trivial)
            | 39, _ => (first | rfl | trivial)
            | 40, _ => (first | rfl | trivial)
            | 41, _ => (first | rfl | trivial)
            | 42, _ => (first | rfl | trivial)
            | 43, _ => (first | rfl | trivial)
            | 44, _ => (first | rfl | trivial)
            | j + 45, h1 => omega
          show ((m 3 = true → Vec 5 1 v16 (formB ⟨key, vz, bs⟩).length ((formB ⟨key, vz, bs⟩).map u8) l16) ∧ (true = true → Vec 5 1 vn (formB ⟨key, vz, bs⟩).length ((formB ⟨key, vz, bs⟩).map u8) ln) ∧ (true = true → m 3 = true)) ∧ St w [] ((bif m 3 then l16 else []) ++ ((bif true then ln else []) ++ ((b3, cb (cT key vz (.slice a bs.length c)) 28) :: (b4, cb (cV va) 25) :: (b5, cb (cV vc) 25) :: []))) w1
          simp only [hm, hp3, cond_true, cond_false] at hw ⊢
          exact ⟨⟨fun _ => hF.1 hp3, fun _ => hvn, fun _ => (by first | trivial | rfl)⟩, hw.perm (by (refine perm_cnt (fun _ => ?_)); simp only [cntB_append, cntB_cons, cntB_nil, Nat.add_zero, Nat.zero_add]; try ac_rfl)⟩
        · skip
          obtain ⟨v16, l16, v19, l19⟩ := x
          show J _ _ _ _ _ ((14, .bool true) :: (19, v19) :: _) _
          have hp6 : m 6 = true := predsT hp (by kernel_rfl)
          refine J.pr (fun hF => ?_)
          refine J.unguard rfl rfl rfl ?_
          refine J.toStr (m := (formB ⟨key, vz, bs⟩).length) (bs := formB ⟨key, vz, bs⟩) Ty.el26 Ty.u5 Ty.u9 rfl (fun w1 hw => vec_rowM (hF.2.1 hp6) hw (fun q hq => by simp [hp6, hq])) rfl rfl ?_
          exact J.finX rfl (fun _ hw => ⟨⟨v16, l16, v19, l19⟩, rfl, fun _ _ _ => rfl, hF, hw⟩)
        · skip
          obtain ⟨v16, l16, v19, l19⟩ := x
          show J _ _ _ _ _ ((14, .bool true) :: (20, .string (str (formB ⟨key, vz, bs⟩))) :: (17, .string (str (formB ⟨key, vz, bs⟩))) :: _) _
          refine J.pr (fun hF => ?_)
          refine J.unguard rfl rfl rfl ?_
          refine J.strEq (xs := formB ⟨key, vz, bs⟩) (ys := formB ⟨key, vz, bs⟩) rfl rfl rfl ?_
          refine J.name 21 rfl (show _ = Value.bool true by simp) ?_
          exact J.finX rfl (fun _ hw => ⟨⟨v16, l16, v19, l19⟩, rfl, fun _ _ _ => rfl, hF, hw⟩)
        · skip
          obtain ⟨v16, l16, v19, l19⟩ := x
          show J _ _ _ _ _ ((21, .bool true) :: (14, .bool true) :: _) _
          refine J.pr (fun hF => ?_)
          (first | refine J.pickT rfl rfl rfl ?_ | refine J.pickF rfl rfl rfl ?_)
          exact J.finX rfl (fun _ hw => ⟨⟨v16, l16, v19, l19⟩, rfl, fun _ _ _ => rfl, hF, hw⟩)
        · skip
          obtain ⟨v16, l16, v19, l19⟩ := x
          show J _ _ _ _ _ ((19, v19) :: (22, .bool true) :: _) _
          have hp6 : m 6 = true := predsT hp (by kernel_rfl)
          refine J.pr (fun hF => ?_)
          refine J.move rfl rfl ?_
          exact J.finX rfl (fun _ hw => ⟨⟨v16, l16, v19, l19⟩, rfl, fun _ _ _ => rfl, hF, hw⟩)
        · skip
          obtain ⟨v16, l16, v19, l19⟩ := x
          show J _ _ _ _ _ ((23, .bool true) :: _) _
          refine J.pr (fun hF => ?_)
          refine J.unguard rfl rfl rfl ?_
          refine J.loadA (vs := cV va) Ty.a25 Ty.s25 rfl rfl (fun w1 hw => Cells.of_block (hw.own ((b4, cb (cV va) 25)) (by repeat first | exact .head _ | apply List.Mem.tail | apply List.mem_append_right)) rfl) rfl ?_
          exact J.finX rfl (fun _ hw => ⟨⟨v16, l16, v19, l19⟩, rfl, fun _ _ _ => rfl, hF, hw⟩)
        · skip
          obtain ⟨v16, l16, v19, l19⟩ := x
          show J _ _ _ _ _ ((23, .bool true) :: _) _
          refine J.pr (fun hF => ?_)
          refine J.unguard rfl rfl rfl ?_
          refine J.loadA (vs := cV vc) Ty.a25 Ty.s25 rfl rfl (fun w1 hw => Cells.of_block (hw.own ((b5, cb (cV vc) 25)) (by repeat first | exact .head _ | apply List.Mem.tail | apply List.mem_append_right)) rfl) rfl ?_
          exact J.finX rfl (fun _ hw => ⟨⟨v16, l16, v19, l19⟩, rfl, fun _ _ _ => rfl, hF, hw⟩)
        · skip
          obtain ⟨v16, l16, v19, l19⟩ := x
          show J _ _ _ _ _ ((23, .bool true) :: (23, .bool true) :: (25, .agg (cV vc).toArray) :: (24, .agg (cV va).toArray) :: _) _
          refine J.pr (fun hF => ?_)
          refine J.unguard rfl rfl rfl ?_
          refine J.callB (v := .bool false) (fun w1 w2 hw hb => hw.step hb) Ty.bd13 rfl rfl (fun w1 hw => by have h9 := newer_spec va vc w1; rw [hP] at h9; exact h9) ?_
          exact J.finX rfl (fun _ hw => ⟨⟨v16, l16, v19, l19⟩, rfl, fun _ _ _ => rfl, hF, hw⟩)
        · skip
          obtain ⟨v16, l16, v19, l19⟩ := x
          show J _ _ _ _ _ ((23, .bool true) :: _) _
          refine J.pr (fun hF => ?_)
          refine J.unguard rfl rfl rfl ?_
          refine J.loadA (vs := cV va) Ty.a25 Ty.s25 rfl rfl (fun w1 hw => Cells.of_block (hw.own ((b4, cb (cV va) 25)) (by repeat first | exact .head _ | apply List.Mem.tail | apply List.mem_append_right)) rfl) rfl ?_
          exact J.finX rfl (fun _ hw => ⟨⟨v16, l16, v19, l19⟩, rfl, fun _ _ _ => rfl, hF, hw⟩)
        · skip
          obtain ⟨v16, l16, v19, l19⟩ := x
          show J _ _ _ _ _ ((23, .bool true) :: _) _
          refine J.pr (fun hF => ?_)
          refine J.unguard rfl rfl rfl ?_
          refine J.loadA (vs := cV vc) Ty.a25 Ty.s25 rfl rfl (fun w1 hw => Cells.of_block (hw.own ((b5, cb (cV vc) 25)) (by repeat first | exact .head _ | apply List.Mem.tail | apply List.mem_append_right)) rfl) rfl ?_
          exact J.finX rfl (fun _ hw => ⟨⟨v16, l16, v19, l19⟩, rfl, fun _ _ _ => rfl, hF, hw⟩)
        · skip
          obtain ⟨v16, l16, v19, l19⟩ := x
          show J _ _ _ _ _ ((23, .bool true) :: (26, .bool false) :: (28, .agg (cV vc).toArray) :: (27, .agg (cV va).toArray) :: _) _
          refine J.pr (fun hF => ?_)
          refine J.unguard rfl rfl rfl ?_
          refine J.callB (v := .bool false) (fun w1 w2 hw hb => hw.step hb) Ty.bd14 rfl rfl (fun w1 hw => by have h9 := rnewer_spec va vc w1; rw [hP] at h9; exact h9) ?_
          exact J.finX rfl (fun _ hw => ⟨⟨v16, l16, v19, l19⟩, rfl, fun _ _ _ => rfl, hF, hw⟩)
        · skip
          obtain ⟨v16, l16, v19, l19⟩ := x
          show J _ _ _ _ _ ((23, .bool true) :: (29, .bool false) :: (26, .bool false) :: _) _
          refine J.pr (fun hF => ?_)
          refine J.unguard rfl rfl rfl ?_
          refine J.eqBool (.inl rfl) Ty.u4 rfl rfl rfl ?_
          refine J.name 30 rfl (show _ = Value.bool true from rfl) ?_
          exact J.finX rfl (fun _ hw => ⟨⟨v16, l16, v19, l19⟩, rfl, fun _ _ _ => rfl, hF, hw⟩)
        · skip
          obtain ⟨v16, l16, v19, l19⟩ := x
          show J _ _ _ _ _ ((30, .bool true) :: (23, .bool true) :: _) _
          refine J.pr (fun hF => ?_)
          (first | refine J.pickT rfl rfl rfl ?_ | refine J.pickF rfl rfl rfl ?_)
          exact J.finX rfl (fun _ hw => ⟨⟨v16, l16, v19, l19⟩, rfl, fun _ _ _ => rfl, hF, hw⟩)
        · skip
          obtain ⟨v16, l16, v19, l19⟩ := x
          show J _ _ _ _ _ ((29, .bool false) :: (31, .bool true) :: _) _
          refine J.pr (fun hF => ?_)
          refine J.move rfl rfl ?_
          exact J.finX rfl (fun _ hw => ⟨⟨v16, l16, v19, l19⟩, rfl, fun _ _ _ => rfl, hF, hw⟩)
        · skip
          obtain ⟨v16, l16, v19, l19⟩ := x
          show J _ _ _ _ _ ((32, .bool true) :: _) _
          refine J.pr (fun hF => ?_)
          refine J.unguard rfl rfl rfl ?_
          refine J.loadA (vs := cV va) Ty.a25 Ty.s25 rfl rfl (fun w1 hw => Cells.of_block (hw.own ((b4, cb (cV va) 25)) (by repeat first | exact .head _ | apply List.Mem.tail | apply List.mem_append_right)) rfl) rfl ?_
          exact J.finX rfl (fun _ hw => ⟨⟨v16, l16, v19, l19⟩, rfl, fun _ _ _ => rfl, hF, hw⟩)
        · skip
          obtain ⟨v16, l16, v19, l19⟩ := x
          show J _ _ _ _ _ ((32, .bool true) :: _) _
          refine J.pr (fun hF => ?_)
          refine J.unguard rfl rfl rfl ?_
          refine J.loadA (vs := cV vc) Ty.a25 Ty.s25 rfl rfl (fun w1 hw => Cells.of_block (hw.own ((b5, cb (cV vc) 25)) (by repeat first | exact .head _ | apply List.Mem.tail | apply List.mem_append_right)) rfl) rfl ?_
          exact J.finX rfl (fun _ hw => ⟨⟨v16, l16, v19, l19⟩, rfl, fun _ _ _ => rfl, hF, hw⟩)
        · skip
          obtain ⟨v16, l16, v19, l19⟩ := x
          show J _ _ _ _ _ ((32, .bool true) :: (32, .bool true) :: (34, .agg (cV vc).toArray) :: (33, .agg (cV va).toArray) :: _) _
          refine J.pr (fun hF => ?_)
          refine J.unguard rfl rfl rfl ?_
          refine J.callB (v := .bool false) (fun w1 w2 hw hb => hw.step hb) Ty.bd13 rfl rfl (fun w1 hw => by have h9 := newer_spec va vc w1; rw [hP] at h9; exact h9) ?_
          exact J.finX rfl (fun _ hw => ⟨⟨v16, l16, v19, l19⟩, rfl, fun _ _ _ => rfl, hF, hw⟩)
        · skip
          obtain ⟨v16, l16, v19, l19⟩ := x
          show J _ _ _ _ _ ((32, .bool true) :: (35, .bool false) :: (35, .bool false) :: _) _
          refine J.pr (fun hF => ?_)
          first | refine J.skip rfl rfl rfl rfl rfl ?_ | refine J.skipU rfl rfl rfl rfl ?_ | (refine J.unguard rfl rfl rfl ?_; refine J.move rfl rfl ?_)
          exact J.finX rfl (fun _ hw => ⟨⟨v16, l16, v19, l19⟩, rfl, fun _ _ _ => rfl, hF, hw⟩)
        · skip
          obtain ⟨v16, l16, v19, l19⟩ := x
          show J _ _ _ _ _ ((36, .bool false) :: _) _
          refine J.pr (fun hF => ?_)
          first | refine J.skip rfl rfl rfl rfl rfl ?_ | refine J.skipU rfl rfl rfl rfl ?_ | (refine J.unguard rfl rfl rfl ?_; refine J.loadOA Ty.a25 Ty.s25 rfl (by repeat first | exact .head _ | apply List.Mem.tail | apply List.mem_append_right) (by exact rfl) rfl rfl ?_)
          exact J.finX rfl (fun _ hw => ⟨⟨v16, l16, v19, l19⟩, rfl, fun _ _ _ => rfl, hF, hw⟩)
        · skip
          obtain ⟨v16, l16, v19, l19⟩ := x
          show J _ _ _ _ _ ((36, .bool false) :: _) _
          refine J.pr (fun hF => ?_)
          first | refine J.skip rfl rfl rfl rfl rfl ?_ | refine J.skipU rfl rfl rfl rfl ?_ | (refine J.unguard rfl rfl rfl ?_; refine J.loadOA Ty.a25 Ty.s25 rfl (by repeat first | exact .head _ | apply List.Mem.tail | apply List.mem_append_right) (by exact rfl) rfl rfl ?_)
          exact J.finX rfl (fun _ hw => ⟨⟨v16, l16, v19, l19⟩, rfl, fun _ _ _ => rfl, hF, hw⟩)
        · skip
          obtain ⟨v16, l16, v19, l19⟩ := x
          show J _ _ _ _ _ ((36, .bool false) :: (36, .bool false) :: (38, undef) :: (37, undef) :: _) _
          refine J.pr (fun hF => ?_)
          first | refine J.skip rfl rfl rfl rfl rfl ?_ | refine J.skipU rfl rfl rfl rfl ?_ | (refine J.unguard rfl rfl rfl ?_; fail)
          exact J.finX rfl (fun _ hw => ⟨⟨v16, l16, v19, l19⟩, rfl, fun _ _ _ => rfl, hF, hw⟩)
        · skip
          obtain ⟨v16, l16, v19, l19⟩ := x
          show J _ _ _ _ _ ((32, .bool true) :: (39, undef) :: (36, .bool false) :: _) _
          refine J.pr (fun hF => ?_)
          first | refine J.skip rfl rfl rfl rfl rfl ?_ | refine J.skipU rfl rfl rfl rfl ?_ | (refine J.unguard rfl rfl rfl ?_; (first | refine J.pickT rfl rfl rfl ?_ | refine J.pickF rfl rfl rfl ?_))
          exact J.finX rfl (fun _ hw => ⟨⟨v16, l16, v19, l19⟩, rfl, fun _ _ _ => rfl, hF, hw⟩)
        · skip
          obtain ⟨v16, l16, v19, l19⟩ := x
          show J _ _ _ _ _ ((32, .bool true) :: (40, .bool false) :: _) _
          refine J.pr (fun hF => ?_)
          first | refine J.skip rfl rfl rfl rfl rfl ?_ | refine J.skipU rfl rfl rfl rfl ?_ | (refine J.unguard rfl rfl rfl ?_; refine J.not rfl rfl ?_)
          exact J.finX rfl (fun _ hw => ⟨⟨v16, l16, v19, l19⟩, rfl, fun _ _ _ => rfl, hF, hw⟩)
        · skip
          obtain ⟨v16, l16, v19, l19⟩ := x
          show J _ _ _ _ _ ((41, .bool true) :: (32, .bool true) :: _) _
          refine J.pr (fun hF => ?_)
          (first | refine J.pickT rfl rfl rfl ?_ | refine J.pickF rfl rfl rfl ?_)
          exact J.finX rfl (fun _ hw => ⟨⟨v16, l16, v19, l19⟩, rfl, fun _ _ _ => rfl, hF, hw⟩)
        · skip
          obtain ⟨v16, l16, v19, l19⟩ := x
          show J _ _ _ _ _ ((39, undef) :: (42, .bool true) :: _) _
          refine J.pr (fun hF => ?_)
          refine J.move rfl rfl ?_
          exact J.finX rfl (fun _ hw => ⟨⟨v16, l16, v19, l19⟩, rfl, fun _ _ _ => rfl, hF, hw⟩)
        · skip
          obtain ⟨v16, l16, v19, l19⟩ := x
          show J _ _ _ _ _ ((43, .bool true) :: _) _
          refine J.pr (fun hF => ?_)
          refine J.unguard rfl rfl rfl ?_
          refine J.loadA (vs := cV va) Ty.a25 Ty.s25 rfl rfl (fun w1 hw => Cells.of_block (hw.own ((b4, cb (cV va) 25)) (by repeat first | exact .head _ | apply List.Mem.tail | apply List.mem_append_right)) rfl) rfl ?_
          exact J.finX rfl (fun _ hw => ⟨⟨v16, l16, v19, l19⟩, rfl, fun _ _ _ => rfl, hF, hw⟩)
        · skip
          obtain ⟨v16, l16, v19, l19⟩ := x
          show J _ _ _ _ _ ((43, .bool true) :: _) _
          refine J.pr (fun hF => ?_)
          refine J.unguard rfl rfl rfl ?_
          refine J.loadA (vs := cV vc) Ty.a25 Ty.s25 rfl rfl (fun w1 hw => Cells.of_block (hw.own ((b5, cb (cV vc) 25)) (by repeat first | exact .head _ | apply List.Mem.tail | apply List.mem_append_right)) rfl) rfl ?_
          exact J.finX rfl (fun _ hw => ⟨⟨v16, l16, v19, l19⟩, rfl, fun _ _ _ => rfl, hF, hw⟩)
        · skip
          obtain ⟨v16, l16, v19, l19⟩ := x
          show J _ _ _ _ _ ((43, .bool true) :: (45, .agg (cV vc).toArray) :: (44, .agg (cV va).toArray) :: _) _
          refine J.pr (fun hF => ?_)
          refine J.unguard rfl rfl rfl ?_
          refine J.eqV rfl rfl hoa hob rfl ?_
          refine J.name 46 rfl (show _ = Value.bool true by simp [hab]) ?_
          exact J.finX rfl (fun _ hw => ⟨⟨v16, l16, v19, l19⟩, rfl, fun _ _ _ => rfl, hF, hw⟩)
        · skip
          obtain ⟨v16, l16, v19, l19⟩ := x
          show J _ _ _ _ _ ((43, .bool true) :: (43, .bool true) :: (46, .bool true) :: _) _
          refine J.pr (fun hF => ?_)
          first | refine J.skip rfl rfl rfl rfl rfl ?_ | refine J.skipU rfl rfl rfl rfl ?_ | (refine J.unguard rfl rfl rfl ?_; refine J.move rfl rfl ?_)
          exact J.finX rfl (fun _ hw => ⟨⟨v16, l16, v19, l19⟩, rfl, fun _ _ _ => rfl, hF, hw⟩)
        · skip
          obtain ⟨v16, l16, v19, l19⟩ := x
          show J _ _ _ _ _ ((47, .bool true) :: _) _
          refine J.pr (fun hF => ?_)
          first | refine J.skip rfl rfl rfl rfl rfl ?_ | refine J.skipU rfl rfl rfl rfl ?_ | (refine J.unguard rfl rfl rfl ?_; refine J.loadOA Ty.a25 Ty.s25 rfl (by repeat first | exact .head _ | apply List.Mem.tail | apply List.mem_append_right) (by exact rfl) rfl rfl ?_)
          exact J.finX rfl (fun _ hw => ⟨⟨v16, l16, v19, l19⟩, rfl, fun _ _ _ => rfl, hF, hw⟩)
        · skip
          obtain ⟨v16, l16, v19, l19⟩ := x
          show J _ _ _ _ _ ((47, .bool true) :: _) _
          refine J.pr (fun hF => ?_)
          first | refine J.skip rfl rfl rfl rfl rfl ?_ | refine J.skipU rfl rfl rfl rfl ?_ | (refine J.unguard rfl rfl rfl ?_; refine J.loadOA Ty.a25 Ty.s25 rfl (by repeat first | exact .head _ | apply List.Mem.tail | apply List.mem_append_right) (by exact rfl) rfl rfl ?_)
          exact J.finX rfl (fun _ hw => ⟨⟨v16, l16, v19, l19⟩, rfl, fun _ _ _ => rfl, hF, hw⟩)
        · skip
          obtain ⟨v16, l16, v19, l19⟩ := x
          show J _ _ _ _ _ ((47, .bool true) :: (47, .bool true) :: (49, undef) :: (48, undef) :: _) _
          refine J.pr (fun hF => ?_)
          first | refine J.skip rfl rfl rfl rfl rfl ?_ | refine J.skipU rfl rfl rfl rfl ?_ | (refine J.unguard rfl rfl rfl ?_; fail)
          exact J.finX rfl (fun _ hw => ⟨⟨v16, l16, v19, l19⟩, rfl, fun _ _ _ => rfl, hF, hw⟩)
        · skip
          obtain ⟨v16, l16, v19, l19⟩ := x
          show J _ _ _ _ _ ((43, .bool true) :: (50, undef) :: (47, .bool true) :: _) _
          refine J.pr (fun hF => ?_)
          first | refine J.skip rfl rfl rfl rfl rfl ?_ | refine J.skipU rfl rfl rfl rfl ?_ | (refine J.unguard rfl rfl rfl ?_; (first | refine J.pickT rfl rfl rfl ?_ | refine J.pickF rfl rfl rfl ?_))
          exact J.finX rfl (fun _ hw => ⟨⟨v16, l16, v19, l19⟩, rfl, fun _ _ _ => rfl, hF, hw⟩)
        · skip
          obtain ⟨v16, l16, v19, l19⟩ := x
          show J _ _ _ _ _ ((43, .bool true) :: (50, undef) :: (51, .bool true) :: _) _
          refine J.pr (fun hF => ?_)
          first | refine J.skip rfl rfl rfl rfl rfl ?_ | refine J.skipU rfl rfl rfl rfl ?_ | (refine J.unguard rfl rfl rfl ?_; refine J.move rfl rfl ?_)
          exact J.finX rfl (fun _ hw => ⟨⟨v16, l16, v19, l19⟩, rfl, fun _ _ _ => rfl, hF, hw⟩)
        · skip
          obtain ⟨v16, l16, v19, l19⟩ := x
          show J _ _ _ _ _ ((52, .bool true) :: _) _
          refine J.pr (fun hF => ?_)
          first | refine J.skip rfl rfl rfl rfl rfl ?_ | refine J.skipU rfl rfl rfl rfl ?_ | (refine J.unguard rfl rfl rfl ?_; refine J.loadOA Ty.a25 Ty.s25 rfl (by repeat first | exact .head _ | apply List.Mem.tail | apply List.mem_append_right) (by exact rfl) rfl rfl ?_)
          exact J.finX rfl (fun _ hw => ⟨⟨v16, l16, v19, l19⟩, rfl, fun _ _ _ => rfl, hF, hw⟩)
        · skip
          obtain ⟨v16, l16, v19, l19⟩ := x
          show J _ _ _ _ _ ((52, .bool true) :: _) _
          refine J.pr (fun hF => ?_)
          first | refine J.skip rfl rfl rfl rfl rfl ?_ | refine J.skipU rfl rfl rfl rfl ?_ | (refine J.unguard rfl rfl rfl ?_; refine J.loadOA Ty.a25 Ty.s25 rfl (by repeat first | exact .head _ | apply List.Mem.tail | apply List.mem_append_right) (by exact rfl) rfl rfl ?_)
          exact J.finX rfl (fun _ hw => ⟨⟨v16, l16, v19, l19⟩, rfl, fun _ _ _ => rfl, hF, hw⟩)
        · skip
          obtain ⟨v16, l16, v19, l19⟩ := x
          show J _ _ _ _ _ ((52, .bool true) :: (52, .bool true) :: (54, undef) :: (53, undef) :: _) _
          refine J.pr (fun hF => ?_)
          first | refine J.skip rfl rfl rfl rfl rfl ?_ | refine J.skipU rfl rfl rfl rfl ?_ | (refine J.unguard rfl rfl rfl ?_; fail)
          exact J.finX rfl (fun _ hw => ⟨⟨v16, l16, v19, l19⟩, rfl, fun _ _ _ => rfl, hF, hw⟩)
        · skip
          obtain ⟨v16, l16, v19, l19⟩ := x
          show J _ _ _ _ _ ((43, .bool true) :: (55, undef) :: (52, .bool true) :: _) _
          refine J.pr (fun hF => ?_)
          first | refine J.skip rfl rfl rfl rfl rfl ?_ | refine J.skipU rfl rfl rfl rfl ?_ | (refine J.unguard rfl rfl rfl ?_; (first | refine J.pickT rfl rfl rfl ?_ | refine J.pickF rfl rfl rfl ?_))
          exact J.finX rfl (fun _ hw => ⟨⟨v16, l16, v19, l19⟩, rfl, fun _ _ _ => rfl, hF, hw⟩)
        · skip
          obtain ⟨v16, l16, v19, l19⟩ := x
          show J _ _ _ _ _ ((56, .bool true) :: (43, .bool true) :: _) _
          refine J.pr (fun hF => ?_)
          (first | refine J.pickT rfl rfl rfl ?_ | refine J.pickF rfl rfl rfl ?_)
          exact J.finX rfl (fun _ hw => ⟨⟨v16, l16, v19, l19⟩, rfl, fun _ _ _ => rfl, hF, hw⟩)
      case htail =>
        intro x
        obtain ⟨v16, l16, v19, l19⟩ := x
        show J _ _ _ _ _ ((57, .bool true) :: (56, .bool true) :: (55, undef) :: (54, undef) :: (53, undef) :: (52, .bool true) :: (51, .bool true) :: (50, undef) :: (49, undef) :: (48, undef) :: (47, .bool true) :: (46, .bool true) :: (45, .agg (cV vc).toArray) :: (44, .agg (cV va).toArray) :: (43, .bool true) :: (42, .bool true) :: (41, .bool true) :: (40, .bool false) :: (39, undef) :: (38, undef) :: (37, undef) :: (36, .bool false) :: (35, .bool false) :: (34, .agg (cV vc).toArray) :: (33, .agg (cV va).toArray) :: (32, .bool true) :: (31, .bool true) :: (30, .bool true) :: (29, .bool false) :: (28, .agg (cV vc).toArray) :: (27, .agg (cV va).toArray) :: (26, .bool false) :: (25, .agg (cV vc).toArray) :: (24, .agg (cV va).toArray) :: (23, .bool true) :: (22, .bool true) :: (21, .bool true) :: (20, .string (str (formB ⟨key, vz, bs⟩))) :: (19, v19) :: (18, .agg (cT key vz (.slice a bs.length c)).toArray) :: (17, .string (str (formB ⟨key, vz, bs⟩))) :: (16, v16) :: (15, .agg (cT key vz (.slice a bs.length c)).toArray) :: (14, .bool true) :: (13, .bool true) :: _) (fun w1 => ((true = true → Vec 5 1 v16 (formB ⟨key, vz, bs⟩).length ((formB ⟨key, vz, bs⟩).map u8) l16) ∧ (true = true → Vec 5 1 v19 (formB ⟨key, vz, bs⟩).length ((formB ⟨key, vz, bs⟩).map u8) l19) ∧ (true = true → true = true)) ∧ St w [] ((bif true then l16 else []) ++ ((bif true then l19 else []) ++ ((b3, cb (cT key vz (.slice a bs.length c)) 28) :: (b4, cb (cV va) 25) :: (b5, cb (cV vc) 25) :: []))) w1)
        refine J.pr (fun hF => ?_)
        refine J.assign rfl rfl ?_
        refine J.nil ?_
        refine JX.thenN (hK2 _ _ ?_)
        refine JC.ret ?_
        refine JX.ret1 rfl rfl (fun w hw => ?_)
        exact ⟨rfl, (hw.drop (List.nil_sublist _)).below⟩
  · skip
    refine JC.seq (fun K3 hK3 => ?_)
    refine JC.region ?_
    refine J.fieldAddr Ty.fd28_1 rfl rfl ?_
    refine J.fieldAddr Ty.fd25_0 rfl rfl ?_
    refine J.load1 (v := .int .i64 ver.n) Ty.a2 rfl (fun w1 hw => by rw [cell_of (hw.own ((b3, cb (cT key ver (.slice a bs.length c)) 28)) (by repeat first | exact .head _ | apply List.Mem.tail | apply List.mem_append_right))]; rfl) rfl ?_
    refine J.bin rfl rfl rfl rfl ?_
    refine J.nil ?_
    refine JX.thenN (hK3 _ _ ?_)
    refine JC.cond rfl (fun h0 => ?_) (fun h0 => ?_)
    · skip
      try simp only [decide_eq_true_eq, decide_eq_false_iff_not, beq_iff_eq, bne_iff_ne, bne_eq_false_iff_eq, ne_eq, beq_eq_false_iff_ne, Bool.not_eq_true, Bool.not_eq_false, Int.not_lt, Int.not_le] at h0
      refine JC.region ?_
      refine J.fieldAddr Ty.fd28_1 rfl rfl ?_
      refine J.fieldAddr Ty.fd25_0 rfl rfl ?_
      refine J.perm ((b3, cb (cT key ver (.slice a bs.length c)) 28) :: (b4, cb (cV va) 25) :: (b5, cb (cV vc) 25) :: []) (by (refine perm_cnt (fun _ => ?_)); simp only [cntB_append, cntB_cons, cntB_nil, Nat.add_zero, Nat.zero_add]; try ac_rfl) ?_
      refine J.storeO (cs := cT key ver (.slice a bs.length c)) (vs := [.int .i64 0]) (l' := (b3, cb (cT key ⟨0, ver.who⟩ (.slice a bs.length c)) 28) :: (b4, cb (cV va) 25) :: (b5, cb (cV vc) 25) :: []) Ty.s2 rfl rfl rfl rfl (fun v hv => by rw [List.mem_singleton.1 hv]; rfl) (by rw [show 0 + 16 + 0 = 16 from rfl, set_n]; exact .here) (by show _ ≤ 34; omega) ?_
      refine J.nil ?_
      refine JX.thenN ?_
      exact JX.cut (hK1 ⟨0, ver.who⟩) ⟨rfl, rfl, rfl, trivial⟩ (fun w1 hw => ⟨⟨by simp only; omega, by simp only; omega⟩, hw⟩)
    · skip
      try simp only [decide_eq_true_eq, decide_eq_false_iff_not, beq_iff_eq, bne_iff_ne, bne_eq_false_iff_eq, ne_eq, beq_eq_false_iff_ne, Bool.not_eq_true, Bool.not_eq_false, Int.not_lt, Int.not_le] at h0
      refine JC.skip ?_
      refine JX.thenN ?_
      exact JX.cut (hK1 ver) ⟨rfl, rfl, rfl, trivial⟩ (fun w1 hw => ⟨⟨by first | omega | (simp at h0; omega), by have := okN_lt hvn; omega⟩, hw.perm (by (refine perm_cnt (fun _ => ?_)); simp only [cntB_append, cntB_cons, cntB_nil, Nat.add_zero, Nat.zero_add]; try ac_rfl)⟩)

theorem vaultForms_walk (w : World) (xc : List Value) (x : ItX) (hx : RIt w xc x) (ac : List Value) (a : WV) (ha : RVr w ac a) (bc : List Value) (b : WV) (hb : RVr w bc b) :
    Calls Try.prog 3 [.agg xc.toArray, .agg ac.toArray, .agg bc.toArray].toArray w fun r w' => r = .returned (.bool true) ∧ Bel w w' := by
  rw [ha.1, hb.1]
  exact vaultFormsL_spec xc x.key x.ver x.v.xs x.v.v a b w hx.1 hx.2.2.row (reach_len1 hx.2.2) hx.2.1 ha.2 hb.2
end Go.Proofs.Ytoaenmlhehcjfaa
