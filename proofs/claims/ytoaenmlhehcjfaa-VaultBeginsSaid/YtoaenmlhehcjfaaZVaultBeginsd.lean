/-
  VaultBegins: texts that its proof needs, part 4.
-/
import Derived.Test.YtoaenmlhehcjfaaZVaultBeginsc
/-
  Plain laws: a record that is laid is read again; appending with power; what a vault's log holds.
-/
namespace Go.Proofs.Ytoaenmlhehcjfaa
open Go.J Go.RowKit
set_option linter.unusedVariables false
set_option linter.unusedSimpArgs false
set_option maxRecDepth 8000
theorem div_pow256 (n a b : Nat) (h : b ≤ a) : n / 256 ^ a = n / 256 ^ b / 256 ^ (a - b) := by
  rw [Nat.div_div_eq_div_mul, ← Nat.pow_add]
  congr 2; omega
def beB (n : Nat) : List UInt8 := (List.range (wid n)).map (fun i => UInt8.ofNat (n / 2 ^ (8 * (wid n - 1 - i))))
theorem beB_len (n : Nat) : (beB n).length = wid n := by simp [beB]
theorem beB_at {n i : Nat} (h : i < (beB n).length) : (beB n)[i] = UInt8.ofNat (n / 256 ^ (wid n - 1 - i)) := by
  simp only [beB, List.getElem_map, List.getElem_range]
  rw [Nat.pow_mul]
theorem numB_eq (n : Nat) : numB n = UInt8.ofNat (wid n) :: beB n := rfl
theorem beB_num {n : Nat} (hn : n < 18446744073709551616) : ∀ j, j ≤ wid n → num ((beB n).take j) = n / 256 ^ (wid n - j) := by
  intro j
  induction j with
  | zero =>
    intro _
    rw [List.take_zero, Nat.sub_zero, Nat.div_eq_of_lt (wid_ub hn)]; rfl
  | succ j ih =>
    intro h
    have hl : j < (beB n).length := by rw [beB_len]; omega
    rw [num_succ hl, ih (by omega), beB_at hl, div_pow256 n (wid n - j) (wid n - (j + 1)) (by omega), show wid n - j - (wid n - (j + 1)) = 1 by omega, show wid n - 1 - j = wid n - (j + 1) by omega, Nat.pow_one, UInt8.toNat_ofNat']
    omega
theorem beB_all {n : Nat} (hn : n < 18446744073709551616) : num (beB n) = n := by
  have h := beB_num hn (wid n) (Nat.le_refl _)
  rwa [List.take_of_length_le (by rw [beB_len]; exact Nat.le_refl _), Nat.sub_self, Nat.pow_zero, Nat.div_one] at h
theorem wid8 (n : Nat) : (UInt8.ofNat (wid n)).toNat = wid n := by
  have := wid_le n
  rw [UInt8.toNat_ofNat']
  omega
theorem getD_mid (a b : List UInt8) (x : UInt8) : (a ++ x :: b).getD a.length 0 = x := by
  rw [List.getD_eq_getElem?_getD, List.getElem?_append_right (Nat.le_refl _), Nat.sub_self]; rfl
theorem getN_put {n : Nat} (hn : n < 18446744073709551616) (a b : List UInt8) : getN (a ++ (numB n ++ b)) a.length = (n, a.length + (numB n).length, 0) := by
  have hw := wid_le n
  have hd : (a ++ (numB n ++ b)).getD a.length 0 = UInt8.ofNat (wid n) := by rw [numB_eq, List.cons_append]; exact getD_mid _ _ _
  have hk : ((a ++ (numB n ++ b)).getD a.length 0).toNat = wid n := by rw [hd, wid8]
  have hl : (a ++ (numB n ++ b)).length = a.length + (1 + wid n) + b.length := by rw [List.length_append, List.length_append, numB_len]; omega
  have hdr : ((a ++ (numB n ++ b)).drop (a.length + 1)).take (wid n) = beB n := by
    rw [← List.drop_drop, List.drop_left, numB_eq, List.cons_append, List.drop_succ_cons, List.drop_zero, ← beB_len n, List.take_left]
  unfold getN
  rw [if_neg (by omega), if_neg (by omega), hk, if_neg (by omega), if_neg (by omega), if_neg ?_, hdr, beB_all hn, numB_len]
  · congr 2; omega
  · rintro ⟨h1, h2⟩
    have e : (a ++ (numB n ++ b)).getD (a.length + 1) 0 = (beB n)[0]'(by rw [beB_len]; exact h1) := by
      rw [List.getD_eq_getElem?_getD, List.getElem?_append_right (by omega), numB_eq, List.cons_append, show a.length + 1 - a.length = 0 + 1 by omega, List.getElem?_cons_succ, List.getElem?_append_left (by rw [beB_len]; exact h1), List.getElem?_eq_getElem (by rw [beB_len]; exact h1)]
      rfl
    rw [e, beB_at, UInt8.toNat_ofNat', Nat.sub_zero] at h2
    have h3 := (wid_lt (n := n) (k := wid n - 1) (by omega)).1 (by omega)
    rw [Nat.pow_mul] at h3
    have h4 := wid_ub hn
    have h5 : n / 256 ^ (wid n - 1) < 256 := by
      rw [Nat.div_lt_iff_lt_mul (Nat.pow_pos (by omega)), ← Nat.pow_succ']
      rw [show (wid n - 1).succ = wid n by omega]
      exact h4
    have h6 : (2 : Nat) ^ 8 = 256 := by decide
    rw [h6] at h3
    omega
theorem getI_put (k : IDV) (a b : List UInt8) : getI (a ++ (bI k ++ b)) a.length = (k, a.length + 16, 0) := by
  have hl : (a ++ (bI k ++ b)).length = a.length + 16 + b.length := by rw [List.length_append, List.length_append, bI_len]; omega
  unfold getI
  rw [if_neg (by omega), if_neg (by omega), List.drop_left, show (bI k ++ b).take 16 = bI k from List.take_left (l₁ := bI k), idB_bI]
theorem getT_put {t : List UInt8} {most : Nat} (ht : t.length ≤ most) (hm : most < 18446744073709551616) (a b : List UInt8) : getT (a ++ (textB t ++ b)) a.length most = (t, a.length + (textB t).length, 0) := by
  have hN : getN (a ++ (textB t ++ b)) a.length = (t.length, a.length + (numB t.length).length, 0) := by
    unfold textB
    rw [List.append_assoc]
    exact getN_put (by omega) a (t ++ b)
  have hl : (a ++ (textB t ++ b)).length = a.length + (numB t.length).length + t.length + b.length := by
    unfold textB
    simp only [List.length_append]; omega
  unfold getT
  rw [hN]
  simp only
  rw [if_neg (by simp), if_neg (by omega), if_neg (by omega)]
  have hd : ((a ++ (textB t ++ b)).drop (a.length + (numB t.length).length)).take t.length = t := by
    unfold textB
    rw [← List.drop_drop, List.drop_left, List.append_assoc, List.drop_left, List.take_left]
  rw [hd]
  have e : (textB t).length = (numB t.length).length + t.length := by unfold textB; rw [List.length_append]
  rw [e, Nat.add_assoc]
theorem readP_incB {inc m : Nat} (h1 : inc < m) (h2 : m ≤ 1048576) : readP inc (incB m) = some (.inl m) := by
  have hN0 : getN (incB m) 0 = (1, (numB 1).length, 0) := by
    have := getN_put (n := 1) (by omega) [] (numB m)
    rw [List.nil_append, List.length_nil, Nat.zero_add] at this
    exact this
  have hN1 : getN (incB m) (numB 1).length = (m, (numB 1).length + (numB m).length, 0) := by
    have := getN_put (n := m) (by omega) (numB 1) []
    rw [List.append_nil] at this
    exact this
  exact readP_inc hN0 hN1 rfl (by unfold incB; rw [List.length_append]; omega) (by omega) (by omega)
/-- an item that may be kept -/
def okIt (x : ItV) : Prop := 1 ≤ x.ver.n ∧ x.ver.n < 4611686018427387904 ∧ x.bs.length ≤ 64
theorem readP_formB {inc : Nat} {x : ItV} (h : okIt x) : readP inc (formB x) = some (.inr x) := by
  obtain ⟨key, ⟨vn, who⟩, bs⟩ := x
  obtain ⟨h1, h2, h3⟩ := h
  simp only at h1 h2 h3
  obtain ⟨v, rfl⟩ : ∃ v : Nat, vn = (v : Int) := ⟨vn.toNat, by omega⟩
  have hv : ((v : Nat) : Int).toNat = v := Int.toNat_natCast v
  have e : formB ⟨key, ⟨(v : Int), who⟩, bs⟩ = numB 2 ++ (bI key ++ (numB v ++ (bI who ++ (textB bs ++ [])))) := by
    unfold formB
    simp only [hv, List.append_assoc, List.append_nil]
  rw [e]
  have hN0 : getN (numB 2 ++ (bI key ++ (numB v ++ (bI who ++ (textB bs ++ []))))) 0 = (2, (numB 2).length, 0) := by
    have := getN_put (n := 2) (by omega) [] (bI key ++ (numB v ++ (bI who ++ (textB bs ++ []))))
    rw [List.nil_append, List.length_nil, Nat.zero_add] at this
    exact this
  have hK1 := getI_put key (numB 2) (numB v ++ (bI who ++ (textB bs ++ [])))
  have hN2 := getN_put (n := v) (by omega) (numB 2 ++ bI key) (bI who ++ (textB bs ++ []))
  rw [List.append_assoc, List.length_append, bI_len] at hN2
  have hK3 := getI_put who (numB 2 ++ (bI key ++ numB v)) (textB bs ++ [])
  have hT4 := getT_put h3 (by omega) (numB 2 ++ (bI key ++ (numB v ++ bI who))) []
  simp only [List.append_assoc, List.length_append, bI_len, Nat.add_assoc] at hK1 hN2 hK3 hT4 ⊢
  exact readP_item hN0 hK1 rfl hN2 (by omega) (by omega) hK3 rfl hT4 rfl (by simp only [List.length_append, bI_len, List.length_nil]; omega)
/-- with endless power all is written -/
theorem dws_endless : ∀ (xs : List (Nat × List UInt8)) (σ : DS), σ.p < 0 → ∃ σ', dws σ xs = (σ', true) ∧ σ'.p = σ.p
  | [], σ, _ => ⟨σ, rfl, rfl⟩
  | x :: xs, σ, h => by
    have h1 : (dw σ x.1 x.2).p = σ.p := by
      show (if 0 < σ.p then σ.p - 1 else σ.p) = σ.p
      rw [if_neg (by omega)]
    obtain ⟨σ', h2, h3⟩ := dws_endless xs (dw σ x.1 x.2) (by rw [h1]; exact h)
    exact ⟨σ', by rw [dws_cons (by omega)]; exact h2, by rw [h3, h1]⟩
theorem append_ok {n : Nat} {q : LogP} {σ : DS} {rec_ : List UInt8} (hp : σ.p < 0) (hl : rec_.length ≤ 1024) (hr : needN rec_.length ≤ n - 2 - q.used) :
    ∃ σ', appendP n q false σ rec_ = (0, ⟨q.gen + 1, q.used + needN rec_.length, q.cnt + 1, q.recs ++ [rec_]⟩, false, σ') ∧ σ'.p = σ.p := by
  obtain ⟨σ', h1, h2⟩ := dws_endless (planP q.gen q.used q.cnt rec_) σ hp
  exact ⟨σ', appendP_ok (by omega) (by omega) h1, h2⟩
/-- a log that was appended to -/
theorem append_used {n : Nat} {q q' : LogP} {σ σ' : DS} {down dn : Bool} {rec_ : List UInt8} {e : Int} (h : appendP n q down σ rec_ = (e, q', dn, σ')) : (e = 0 ∧ q' = ⟨q.gen + 1, q.used + needN rec_.length, q.cnt + 1, q.recs ++ [rec_]⟩) ∨ (e ≠ 0 ∧ q' = q) := by
  unfold appendP at h
  split at h
  · cases h; exact .inr ⟨by decide, rfl⟩
  · split at h
    · cases h; exact .inr ⟨by decide, rfl⟩
    · split at h
      · cases h; exact .inr ⟨by decide, rfl⟩
      · split at h
        · cases h; exact .inl ⟨rfl, rfl⟩
        · cases h; exact .inr ⟨by decide, rfl⟩
/-- what holds between a vault's log, its disk, and its items -/
structure VaI (n : Nat) (q : LogP) (σ : DS) (inc : Nat) (L : List ItV) : Prop where
  log : LogI n q σ
  held : heldV q.recs = some (inc, L)
  inc : inc ≤ 1048576
theorem needN_1 {k : Nat} (h : k ≤ 62) : needN k = 1 := by unfold needN; omega
theorem incB_len (m : Nat) : (incB m).length ≤ 18 := by
  unfold incB
  have h1 := numB_le 1
  have h2 := numB_le m
  rw [List.length_append]; omega

end Go.Proofs.Ytoaenmlhehcjfaa
/-
  The chapter's example of layer 18: contract.
-/
namespace Go.Proofs.Ytoaenmlhehcjfaa
open Go.J Go.RowKit
set_option linter.unusedVariables false
set_option linter.unusedSimpArgs false
set_option maxRecDepth 8000
def nI (k : UInt8) : IDV := fun i => if i = 15 then k else 0
theorem vopen_ok {n inc : Nat} {q : LogP} {σ : DS} {L : List ItV} (hn : n ≤ 4096) (hI : LogI n q σ) (hh : heldV q.recs = some (inc, L)) (hi : inc < 1048576) (hp : σ.p < 0) (hg : q.gen + 1 < 9223372036854775808) (hr : 1 ≤ n - 2 - q.used) :
    ∃ σ', vopenP n σ = (0, some (⟨q.gen + 1, q.used + 1, q.cnt + 1, q.recs ++ [incB (inc + 1)]⟩, inc + 1, L), σ') ∧ LogI n ⟨q.gen + 1, q.used + 1, q.cnt + 1, q.recs ++ [incB (inc + 1)]⟩ σ' ∧ σ'.p = σ.p ∧ σ.k ≤ σ'.k ∧ σ'.k ≤ σ.k + 19 := by
  have hl := incB_len (inc + 1)
  have hn1 : needN (incB (inc + 1)).length = 1 := needN_1 (by omega)
  obtain ⟨σ', h1, h2⟩ := append_ok (n := n) (q := q) (σ := σ) (rec_ := incB (inc + 1)) hp (by omega) (by rw [hn1]; exact hr)
  rw [hn1] at h1
  obtain ⟨e, q', dn, σ2, h3, h4, h5, h6, _⟩ := append_law (down := false) (rec_ := incB (inc + 1)) hn hI hg
  rw [h1] at h3
  simp only [Prod.mk.injEq] at h3
  obtain ⟨rfl, rfl, rfl, rfl⟩ := h3
  exact ⟨σ', vopenP_ok hI.open_ hh (by omega) h1 rfl, h4, h2, h5, h6⟩
theorem put_ok {n : Nat} {q : LogP} {σ : DS} {x : ItV} (hn : n ≤ 4096) (hI : LogI n q σ) (hx : x.bs.length ≤ 64) (hp : σ.p < 0) (hg : q.gen + 1 < 9223372036854775808) (hr : needN (formB x).length ≤ n - 2 - q.used) :
    ∃ σ', appendP n q false σ (formB x) = (0, ⟨q.gen + 1, q.used + needN (formB x).length, q.cnt + 1, q.recs ++ [formB x]⟩, false, σ') ∧ LogI n ⟨q.gen + 1, q.used + needN (formB x).length, q.cnt + 1, q.recs ++ [formB x]⟩ σ' ∧ σ'.p = σ.p ∧ σ.k ≤ σ'.k ∧ σ'.k ≤ σ.k + 19 := by
  have hl := formB_le x
  obtain ⟨σ', h1, h2⟩ := append_ok (n := n) (q := q) (σ := σ) (rec_ := formB x) hp (by omega) hr
  obtain ⟨e, q', dn, σ2, h3, h4, h5, h6, _⟩ := append_law (down := false) (rec_ := formB x) hn hI hg
  rw [h1] at h3
  simp only [Prod.mk.injEq] at h3
  obtain ⟨rfl, rfl, rfl, rfl⟩ := h3
  exact ⟨σ', h1, h4, h2, h5, h6⟩
theorem held_inc {rs : List (List UInt8)} {inc : Nat} {L : List ItV} (h : heldV rs = some (inc, L)) (hi : inc < 1048576) : heldV (rs ++ [incB (inc + 1)]) = some (inc + 1, L) := by
  rw [heldV_snoc, h]
  simp only [Option.bind_some, stepV, readP_incB (show inc < inc + 1 by omega) (show inc + 1 ≤ 1048576 by omega)]
theorem held_item {rs : List (List UInt8)} {inc : Nat} {L : List ItV} {x : ItV} (h : heldV rs = some (inc, L)) (hx : okIt x) : heldV (rs ++ [formB x]) = some (inc, takeV L x) := by
  rw [heldV_snoc, h]
  simp only [Option.bind_some, stepV, readP_formB hx]
def itF : ItV := ⟨nI 3, ⟨1, nI 7⟩, [97]⟩
def QF1 : LogP := ⟨1, 1, 1, [incB 1]⟩
def QF2 : LogP := ⟨2, 2, 2, [incB 1, formB itF]⟩
def QF3 : LogP := ⟨3, 3, 3, [incB 1, formB itF, incB 2]⟩
theorem itF_need : needN (formB itF).length = 1 := by decide +kernel
theorem itG_need : needN (formB ⟨nI 3, ⟨1, nI 8⟩, []⟩).length = 1 := by decide +kernel
theorem logI_zero {n : Nat} (h : 3 ≤ n) (hn : n ≤ 4096) (p k : Int) (hp : p < 9223372036854775808) : LogI n ⟨0, 0, 0, []⟩ ⟨List.replicate (64 * n) 0, p, k⟩ := ⟨by simp, openP_zero h hn, hp⟩
theorem fx_all : ∃ σ1 σ2 σ3 : DS, ∃ q4 σ4, (vopenP 20 ⟨List.replicate (64 * 20) 0, -1, 0⟩ = (0, some (QF1, 1, []), σ1) ∧ LogI 20 QF1 σ1 ∧ 0 ≤ σ1.k ∧ σ1.k ≤ 100) ∧
    (vputP 20 QF1 false σ1 [] (nI 3) [97] (nI 7) = (0, some itF, QF2, false, σ2) ∧ LogI 20 QF2 σ2 ∧ 0 ≤ σ2.k ∧ σ2.k ≤ 200) ∧
    (vopenP 20 σ2 = (0, some (QF3, 2, [itF]), σ3) ∧ LogI 20 QF3 σ3 ∧ 0 ≤ σ3.k ∧ σ3.k ≤ 300) ∧
    vmergeP 20 QF3 false σ3 [itF] ⟨nI 3, ⟨1, nI 6⟩, []⟩ = (false, 0, QF3, false, σ3) ∧
    vmergeP 20 QF3 false σ3 [itF] ⟨nI 3, ⟨1, nI 8⟩, []⟩ = (true, 0, q4, false, σ4) := by
  have h0 : heldV [] = some (0, []) := rfl
  have hh1 : heldV [incB 1] = some (1, []) := held_inc (rs := []) h0 (by omega)
  have hh2 : heldV [incB 1, formB itF] = some (1, [itF]) := held_item (rs := [incB 1]) hh1 ⟨by decide, by decide, by decide⟩
  obtain ⟨σ1, a1, a2, a3, a4, a5⟩ := vopen_ok (n := 20) (q := ⟨0, 0, 0, []⟩) (σ := ⟨List.replicate (64 * 20) 0, -1, 0⟩) (by omega) (logI_zero (by omega) (by omega) _ _ (by omega)) h0 (by omega) (by show (-1 : Int) < 0; omega) (by simp) (by simp)
  simp only at a3 a4 a5
  obtain ⟨σ2, b1, b2, b3, b4, b5⟩ := put_ok (n := 20) (q := QF1) (σ := σ1) (x := itF) (by omega) a2 (by decide) (by omega) (by decide) (by rw [itF_need]; decide)
  rw [itF_need] at b1 b2
  obtain ⟨σ3, c1, c2, c3, c4, c5⟩ := vopen_ok (n := 20) (q := QF2) (σ := σ2) (by omega) b2 hh2 (by omega) (by omega) (by decide) (by decide)
  obtain ⟨σ4, d1, _⟩ := put_ok (n := 20) (q := QF3) (σ := σ3) (x := ⟨nI 3, ⟨1, nI 8⟩, []⟩) (by omega) c2 (by decide) (by omega) (by decide) (by rw [itG_need]; decide)
  obtain ⟨q4, d2⟩ : ∃ q, appendP 20 QF3 false σ3 (formB ⟨nI 3, ⟨1, nI 8⟩, []⟩) = (0, q, false, σ4) := ⟨_, d1⟩
  refine ⟨σ1, σ2, σ3, q4, σ4, ⟨a1, a2, by omega, by omega⟩, ⟨?_, b2, by omega, by omega⟩, ⟨c1, c2, by omega, by omega⟩, ?_, ?_⟩
  · unfold vputP
    rw [if_neg (by decide), if_neg (by decide +kernel), show (⟨nI 3, ⟨verN [] (nI 3) + 1, nI 7⟩, [97]⟩ : ItV) = itF by decide +kernel, b1]
    rfl
  · unfold vmergeP
    rw [if_neg (by decide), if_neg (by decide), if_pos (by decide +kernel)]
  · unfold vmergeP
    rw [if_neg (by decide), if_neg (by decide), if_neg (by decide +kernel), d2]
    rfl

theorem n18_spec (k : UInt8) (w : World) :
    Calls Try.prog 38 [u8 k].toArray w fun r w' => r = .returned (.agg (cI (nI k)).toArray) ∧ Bel w w' := by
  refine calls_of_J (args := [u8 k]) (e := [(0, u8 k)]) Try.func38 rfl rfl ⟨rfl, trivial⟩ (St.start w) ?_
  refine JC.seq (fun K0 hK0 => ?_)
  refine JC.region ?_
  refine J.alloc Ty.zID rfl rfl (fun b2 => ?_)
  refine J.nil ?_
  refine JX.thenN (hK0 _ _ ?_)
  refine JC.seq (fun K1 hK1 => ?_)
  refine JC.region ?_
  refine J.move rfl rfl ?_
  refine J.buildA (cs := cI (nI k)) Ty.ar23 Ty.s5 Ty.z23 rfl (by kernel_rfl) rfl ?_
  refine J.storeW (cs := cI zI) (vs := cI (nI k)) Ty.s23 rfl rfl rfl rfl rfl (one_cI _) .here ?_
  refine J.nil ?_
  refine JX.thenN (hK1 _ _ ?_)
  refine JC.ret ?_
  refine JX.retC rfl rfl Ty.a23 Ty.s23 (vs := cI (nI k)) rfl (fun w1 hw => Cells.of_block (hw.own _ (.head _)) rfl) (fun w1 hw => ?_)
  exact ⟨rfl, (hw.drop (List.nil_sublist _)).below⟩

set_option maxHeartbeats 2000000 in
theorem fixed18_spec (w : World) :
    Calls Try.prog 10 [].toArray w fun r w' => r = .returned (.bool true) ∧ Bel w w' := by
  obtain ⟨σ1, σ2, σ3, q4, σ4, ⟨hO1, hI1, hk1, hkb1⟩, ⟨hO2, hI2, hk2, hkb2⟩, ⟨hO3, hI3, hk3, hkb3⟩, hM6, hM8⟩ := fx_all
  refine calls_of_J (args := []) (e := []) Try.func10 rfl rfl trivial (St.start w) ?_
  refine JC.seq (fun K0 hK0 => ?_)
  refine JC.region ?_
  refine J.assign rfl rfl ?_
  refine J.nil ?_
  refine JX.thenN (hK0 _ _ ?_)
  refine JC.seq (fun K1 hK1 => ?_)
  refine JC.region ?_
  refine J.callS (α := Nat × Nat) (l1 := []) (L := fun x => [(x.1, dkO x.2 (min (max (20 : Int) 0) 4096).toNat (-1) 0), (x.2, dkS (List.replicate (64 * (min (max (20 : Int) 0) 4096).toNat) 0))]) (V := fun x => .pointer (some ⟨x.1, 0, none⟩)) (Pr := fun _ => True) Ty.bd15 rfl rfl (fun w1 hw => new_spec 20 w1) (fun x _ => ?_)
  obtain ⟨d, s⟩ := x
  have hN : (min (max (20 : Int) 0) 4096).toNat = 20 := by decide
  simp only [hN, List.append_nil]
  refine J.assign rfl rfl ?_
  refine J.nil ?_
  refine JX.thenN (hK1 _ _ ?_)
  refine JC.seq (fun K2 hK2 => ?_)
  refine JC.region ?_
  refine J.move rfl rfl ?_
  refine J.perm ([(d, dkO s 20 (-1) 0), (s, dkS (List.replicate (64 * 20) 0))] ++ []) (.refl _) ?_
  refine J.callS (α := VO) (V := VO.val) (Pr := fun z => z.Pr 20 (⟨(List.replicate (64 * 20) 0), -1, 0⟩ : DS)) (L := fun z => z.lst d s 20) Ty.bd17 rfl rfl (fun w1 hw => vopen_spec d s 20 (List.replicate (64 * 20) 0) (-1) 0 w1 (St.owns hw) (by simp) (by omega) (by omega) (by omega) (by omega)) (fun z hz => ?_)
  rcases z with ⟨ez, sz⟩ | ⟨v1, m1, l1, q1, inc1, L1, es1, ck1, sz⟩
  · exact absurd (congrArg (fun x => x.1) (hz.1.symm.trans hO1)) hz.2
  obtain ⟨hz1, hT1, hV1⟩ := hz
  rw [hO1] at hz1
  simp only [Prod.mk.injEq, Option.some.injEq, true_and] at hz1
  obtain ⟨⟨rfl, rfl, hL1⟩, rfl⟩ := hz1
  obtain rfl := List.map_eq_nil_iff.1 hL1.symm
  refine J.name 16 rfl (show _ = Value.tuple #[.pointer (some ⟨v1, 0, none⟩), .int .i64 0] from rfl) ?_
  refine J.perm ((v1, vaO (.pointer (some ⟨l1, 0, none⟩)) m1 ((1 : Nat) : Int)) :: (m1, .map es1 ck1) :: (l1, lgO d QF1 false) :: (d, dkO s 20 σ1.p σ1.k) :: (s, dkS σ1.B) :: []) (by simp only [VO.lst, lpsH, List.flatMap_nil, List.append_nil]; exact (by (refine perm_cnt (fun _ => ?_)); simp only [cntB_append, cntB_cons, cntB_nil, Nat.add_zero, Nat.zero_add]; try ac_rfl)) ?_
  refine J.move rfl rfl ?_
  refine J.extract rfl rfl rfl ?_
  refine J.extract rfl rfl rfl ?_
  refine J.assign rfl rfl ?_
  refine J.assign rfl rfl ?_
  refine J.nil ?_
  refine JX.thenN (hK2 _ _ ?_)
  refine JC.seq (fun K3 hK3 => ?_)
  refine JC.seq (fun K4 hK4 => ?_)
  refine JC.region ?_
  refine J.move rfl rfl ?_
  refine J.eqNil Ty.u34 rfl rfl rfl ?_
  refine J.move rfl rfl ?_
  first | refine J.skip rfl rfl rfl rfl rfl ?_ | refine J.skipU rfl rfl rfl rfl ?_ | (refine J.unguard rfl rfl rfl ?_; refine J.move rfl rfl ?_)
  first | refine J.skip rfl rfl rfl rfl rfl ?_ | refine J.skipU rfl rfl rfl rfl ?_ | (refine J.unguard rfl rfl rfl ?_; refine J.eqNil Ty.u38 rfl rfl rfl ?_)
  (first | refine J.pickT rfl rfl rfl ?_ | refine J.pickF rfl rfl rfl ?_)
  refine J.move rfl rfl ?_
  first | refine J.skip rfl rfl rfl rfl rfl ?_ | refine J.skipU rfl rfl rfl rfl ?_ | (refine J.unguard rfl rfl rfl ?_; refine J.move rfl rfl ?_)
  refine J.unguard rfl rfl rfl ?_
  refine J.bin rfl rfl rfl rfl ?_
  refine J.name 27 rfl (show _ = Value.bool false by simp) ?_
  (first | refine J.pickT rfl rfl rfl ?_ | refine J.pickF rfl rfl rfl ?_)
  refine J.move rfl rfl ?_
  first | refine J.skip rfl rfl rfl rfl rfl ?_ | refine J.skipU rfl rfl rfl rfl ?_ | (refine J.unguard rfl rfl rfl ?_; refine J.move rfl rfl ?_)
  refine J.unguard rfl rfl rfl ?_
  refine J.callB (v := .int .i64 1) (fun w1 w2 hw hb => hw.step hb) Ty.bd18 rfl rfl (fun w1 hw => inc_spec v1 m1 _ 1 w1 (St.owns' hw)) ?_
  refine J.unguard rfl rfl rfl ?_
  refine J.bin rfl rfl rfl rfl ?_
  refine J.name 32 rfl (show _ = Value.bool false by simp) ?_
  (first | refine J.pickT rfl rfl rfl ?_ | refine J.pickF rfl rfl rfl ?_)
  refine J.nil ?_
  refine JX.thenN (hK4 _ _ ?_)
  first | refine JC.condF rfl ?_ | refine JC.cond rfl (fun h => by first | (exfalso; simp at h; omega) | (simp at h)) (fun _ => ?_)
  refine JC.skip ?_
  refine JX.thenN (hK3 _ _ ?_)
  refine JC.seq (fun K5 hK5 => ?_)
  refine JC.region ?_
  refine J.move rfl rfl ?_
  refine J.callB (v := .agg (cI (nI 3)).toArray) (fun w1 w2 hw hb => hw.step hb) Ty.bd38 rfl rfl (fun w1 hw => n18_spec 3 w1) ?_
  refine J.buildSl (cs := ([97].map u8 : List Value)) Ty.el26 Ty.s5 Ty.z5 rfl rfl rfl rfl rfl rfl rfl (fun b37 => ?_)
  refine J.convBytes Ty.u26 Ty.u5 rfl .here rfl ?_
  refine J.perm ((b37, Obj.cells (([97].map u8) : List Value).toArray 5 (1, 2)) :: (v1, vaO (.pointer (some ⟨l1, 0, none⟩)) m1 ((1 : Nat) : Int)) :: (m1, .map es1 ck1) :: (l1, lgO d QF1 false) :: (d, dkO s 20 σ1.p σ1.k) :: (s, dkS σ1.B) :: []) (.refl _) ?_
  refine J.callB (v := .agg (cI (nI 7)).toArray) (fun w1 w2 hw hb => hw.step hb) Ty.bd38 rfl rfl (fun w1 hw => n18_spec 7 w1) ?_
  refine J.perm (vltB v1 m1 l1 d s 20 QF1 false 1 es1 ck1 ⟨σ1.B, σ1.p, σ1.k⟩ ++ [(b37, Obj.cells (([97].map u8) : List Value).toArray 5 (1, 2))]) (by (refine perm_cnt (fun _ => ?_)); simp only [cntB_append, cntB_cons, cntB_nil, Nat.add_zero, Nat.zero_add]; try ac_rfl) ?_
  refine J.callS (α := PutR) (V := PutR.val) (Pr := fun z => z.Pr 20 QF1 false σ1 [] (nI 3) [97] (nI 7)) (L := fun z => z.lst v1 m1 l1 d s 20 1 es1 ck1) Ty.bd24 rfl rfl (fun w1 hw => vput_spec v1 m1 l1 d s 20 1 QF1 false σ1.B σ1.p σ1.k [] es1 ck1 hT1 hV1 hI1 (by omega) hk1 (by omega) (nI 3) (nI 7) [97] (.slice (some ⟨b37, 0, none⟩) 1 1) w1 (St.owns hw) (Row.own (cs := [97].map u8) (tb := 5) (fr := (1, 2)) hw (List.mem_append_right _ (.head _)) rfl (Nat.le_refl _)) (.inr fun b o k c e => by
    simp only [Value.slice.injEq, Option.some.injEq, Addr.mk.injEq] at e
    rw [← e.1.1]
    exact St.off (l1 := vltB v1 m1 l1 d s 20 QF1 false 1 es1 ck1 ⟨σ1.B, σ1.p, σ1.k⟩) hw (o := (b37, Obj.cells (([97].map u8) : List Value).toArray 5 (1, 2)).2) (.head _)) (by decide)) (fun z hz => ?_)
  rcases z with ⟨ez, qz, dz, sz⟩ | ⟨hp9, y, ly, es2, ck2, qz, dz, sz⟩
  · exact absurd (congrArg (fun x => x.1) (hz.1.symm.trans hO2)) hz.2
  obtain ⟨hz1, hz2, hy, hT2⟩ := hz
  have hz3 := hO2.symm.trans hz1
  simp only [Prod.mk.injEq, Option.some.injEq, true_and] at hz3
  obtain ⟨hit, rfl, rfl, rfl⟩ := hz3
  obtain ⟨kh, vh, bh, sh, lh⟩ := hp9
  simp only [HI.it, itF, ItV.mk.injEq] at hit
  obtain ⟨rfl, rfl, rfl⟩ := hit
  simp only at hy
  obtain ⟨ay, cy, rfl, hcy⟩ := hy.form
  refine J.name 40 rfl (show _ = Value.tuple #[.agg (cT (nI 3) ⟨1, nI 7⟩ (.slice ay 1 cy)).toArray, .int .i64 0] from rfl) ?_
  refine J.perm ((v1, vaO (.pointer (some ⟨l1, 0, none⟩)) m1 ((1 : Nat) : Int)) :: (m1, .map es2 ck2) :: (l1, lgO d QF2 false) :: (d, dkO s 20 σ2.p σ2.k) :: (s, dkS σ2.B) :: (lh ++ (ly ++ [(b37, Obj.cells (([97].map u8) : List Value).toArray 5 (1, 2))]))) (by simp only [PutR.lst]; exact (by (refine perm_cnt (fun _ => ?_)); simp only [cntB_append, cntB_cons, cntB_nil, Nat.add_zero, Nat.zero_add]; try ac_rfl)) ?_
  refine J.move rfl rfl ?_
  refine J.extract rfl rfl rfl ?_
  refine J.extract rfl rfl rfl ?_
  refine J.alloc Ty.zIt rfl rfl (fun b4 => ?_)
  refine J.storeW (cs := cH zH) (vs := cT (nI 3) ⟨1, nI 7⟩ (.slice ay 1 cy)) Ty.s28 rfl rfl rfl rfl rfl one_cT .here ?_
  refine J.assign rfl rfl ?_
  refine J.nil ?_
  refine JX.thenN (hK5 _ _ ?_)
  refine JC.seq (fun K6 hK6 => ?_)
  refine JC.region ?_
  refine J.move rfl rfl ?_
  refine J.perm ([(d, dkO s 20 σ2.p σ2.k), (s, dkS σ2.B)] ++ ((v1, vaO (.pointer (some ⟨l1, 0, none⟩)) m1 ((1 : Nat) : Int)) :: (m1, .map es2 ck2) :: (l1, lgO d QF2 false) :: (lh ++ (ly ++ [(b4, cb (cT (nI 3) ⟨1, nI 7⟩ (.slice ay 1 cy)) 28), (b37, Obj.cells (([97].map u8) : List Value).toArray 5 (1, 2))])))) (by (refine perm_cnt (fun _ => ?_)); simp only [cntB_append, cntB_cons, cntB_nil, Nat.add_zero, Nat.zero_add]; try ac_rfl) ?_
  refine J.callS (α := VO) (V := VO.val) (Pr := fun z => z.Pr 20 σ2) (L := fun z => z.lst d s 20) Ty.bd17 rfl rfl (fun w1 hw => vopen_spec d s 20 σ2.B σ2.p σ2.k w1 (St.owns hw) hI2.len (by omega) hk2 (by omega) hI2.p) (fun z hz => ?_)
  rcases z with ⟨ez, sz⟩ | ⟨v2, m2, l2, q1, inc1, L3, es3, ck3, sz⟩
  · exact absurd (congrArg (fun x => x.1) (hz.1.symm.trans hO3)) hz.2
  obtain ⟨hz1, hT3, hV3⟩ := hz
  rw [hO3] at hz1
  simp only [Prod.mk.injEq, Option.some.injEq, true_and] at hz1
  obtain ⟨⟨rfl, rfl, hL3⟩, rfl⟩ := hz1
  obtain ⟨h2, rfl, hit2⟩ := List.map_eq_singleton_iff.1 hL3.symm
  obtain ⟨kh2, vh2, bh2, sv2, lp2⟩ := h2
  simp only [HI.it, itF, ItV.mk.injEq] at hit2
  obtain ⟨rfl, rfl, rfl⟩ := hit2
  refine J.name 45 rfl (show _ = Value.tuple #[.pointer (some ⟨v2, 0, none⟩), .int .i64 0] from rfl) ?_
  refine J.perm ((v2, vaO (.pointer (some ⟨l2, 0, none⟩)) m2 ((2 : Nat) : Int)) :: (m2, .map es3 ck3) :: (l2, lgO d QF3 false) :: (d, dkO s 20 σ3.p σ3.k) :: (s, dkS σ3.B) :: (lp2 ++ ((v1, vaO (.pointer (some ⟨l1, 0, none⟩)) m1 ((1 : Nat) : Int)) :: (m1, .map es2 ck2) :: (l1, lgO d QF2 false) :: (lh ++ (ly ++ [(b4, cb (cT (nI 3) ⟨1, nI 7⟩ (.slice ay 1 cy)) 28), (b37, Obj.cells (([97].map u8) : List Value).toArray 5 (1, 2))]))))) (by simp only [VO.lst, lpsH, List.flatMap_cons, List.flatMap_nil, List.append_nil]; exact (by (refine perm_cnt (fun _ => ?_)); simp only [cntB_append, cntB_cons, cntB_nil, Nat.add_zero, Nat.zero_add]; try ac_rfl)) ?_
  refine J.move rfl rfl ?_
  refine J.extract rfl rfl rfl ?_
  refine J.extract rfl rfl rfl ?_
  refine J.assign rfl rfl ?_
  refine J.assign rfl rfl ?_
  refine J.nil ?_
  refine JX.thenN (hK6 _ _ ?_)
  refine JC.seq (fun K7 hK7 => ?_)
  refine JC.seq (fun K8 hK8 => ?_)
  apply JC.drawX (α := Nat × Unit) 22 (fun x => match x with | ⟨xu, uu⟩ => [.int .i64 0, .bool false, .bool false, .int .i64 0, .bool false, .bool false, .bool false, .pointer (some ⟨v2, 0, none⟩), .bool false, .bool false, .bool false, .pointer (some ⟨v2, 0, none⟩), .int .i64 2, .bool false, .bool false, .bool false, .pointer (some ⟨b4, 0 + 16, none⟩), .agg (cV (⟨1, nI 7⟩ : WV)).toArray, .agg (cI (nI 7)).toArray, .agg (cV (⟨1, nI 7⟩ : WV)).toArray, .bool false, .bool false]) (fun m x => match x with | ⟨xu, uu⟩ => fun w1 => (True) ∧ St w [] ((v2, vaO (.pointer (some ⟨l2, 0, none⟩)) m2 ((2 : Nat) : Int)) :: (m2, .map es3 ck3) :: (l2, lgO d QF3 false) :: (d, dkO s 20 σ3.p σ3.k) :: (s, dkS σ3.B) :: (lp2 ++ ((v1, vaO (.pointer (some ⟨l1, 0, none⟩)) m1 ((1 : Nat) : Int)) :: (m1, .map es2 ck2) :: (l1, lgO d QF2 false) :: (lh ++ (ly ++ [(b4, cb (cT (nI 3) ⟨1, nI 7⟩ (.slice ay 1 cy)) 28), (b37, Obj.cells (([97].map u8) : List Value).toArray 5 (1, 2))]))))) w1) Ty.mixed rfl rfl rfl (by kernel_rfl) rfl rfl ?hinit ?hstep ?htail
  case hinit => exact fun w1 hw => ⟨(0, ()), trivial, hw.drew⟩
  case hstep =>
    refine ⟨fun m x hm hp => ?_, fun m x hm hp => ?_, fun m x hm hp => ?_, fun m x hm hp => ?_, fun m x hm hp => ?_, fun m x hm hp => ?_, fun m x hm hp => ?_, fun m x hm hp => ?_, fun m x hm hp => ?_, fun m x hm hp => ?_, fun m x hm hp => ?_, fun m x hm hp => ?_, fun m x hm hp => ?_, fun m x hm hp => ?_, fun m x hm hp => ?_, fun m x hm hp => ?_, fun m x hm hp => ?_, fun m x hm hp => ?_, fun m x hm hp => ?_, fun m x hm hp => ?_, fun m x hm hp => ?_, fun m x hm hp => ?_, trivial⟩
    · skip
      obtain ⟨xu, uu⟩ := x
      show J _ _ _ _ _ (_) _
      refine J.pr (fun hF => ?_)
      refine J.move rfl rfl ?_
      exact J.finX rfl (fun _ hw => ⟨⟨xu, uu⟩, rfl, fun _ _ _ => rfl, hF, hw⟩)
    · skip
      obtain ⟨xu, uu⟩ := x
      show J _ _ _ _ _ ((48, .int .i64 0) :: _) _
      refine J.pr (fun hF => ?_)
      refine J.bin rfl rfl rfl rfl ?_
      exact J.finX rfl (fun _ hw => ⟨⟨xu, uu⟩, rfl, fun _ _ _ => rfl, hF, hw⟩)
    · skip
      obtain ⟨xu, uu⟩ := x
      show J _ _ _ _ _ ((49, .bool false) :: _) _
      refine J.pr (fun hF => ?_)
      refine J.move rfl rfl ?_
      exact J.finX rfl (fun _ hw => ⟨⟨xu, uu⟩, rfl, fun _ _ _ => rfl, hF, hw⟩)
    · skip
      obtain ⟨xu, uu⟩ := x
      show J _ _ _ _ _ ((50, .bool false) :: _) _
      refine J.pr (fun hF => ?_)
      first | refine J.skip rfl rfl rfl rfl rfl ?_ | refine J.skipU rfl rfl rfl rfl ?_ | (refine J.unguard rfl rfl rfl ?_; refine J.move rfl rfl ?_)
      exact J.finX rfl (fun _ hw => ⟨⟨xu, uu⟩, rfl, fun _ _ _ => rfl, hF, hw⟩)
    · skip
      obtain ⟨xu, uu⟩ := x
      show J _ _ _ _ _ ((50, .bool false) :: (51, .int .i64 0) :: _) _
      refine J.pr (fun hF => ?_)
      first | refine J.skip rfl rfl rfl rfl rfl ?_ | refine J.skipU rfl rfl rfl rfl ?_ | (refine J.unguard rfl rfl rfl ?_; refine J.bin rfl rfl rfl rfl ?_)
      exact J.finX rfl (fun _ hw => ⟨⟨xu, uu⟩, rfl, fun _ _ _ => rfl, hF, hw⟩)
    · skip
      obtain ⟨xu, uu⟩ := x
      show J _ _ _ _ _ ((52, .bool false) :: (50, .bool false) :: _) _
      refine J.pr (fun hF => ?_)
      (first | refine J.pickT rfl rfl rfl ?_ | refine J.pickF rfl rfl rfl ?_)
      exact J.finX rfl (fun _ hw => ⟨⟨xu, uu⟩, rfl, fun _ _ _ => rfl, hF, hw⟩)
    · skip
      obtain ⟨xu, uu⟩ := x
      show J _ _ _ _ _ ((50, .bool false) :: (53, .bool false) :: _) _
      refine J.pr (fun hF => ?_)
      refine J.move rfl rfl ?_
      exact J.finX rfl (fun _ hw => ⟨⟨xu, uu⟩, rfl, fun _ _ _ => rfl, hF, hw⟩)
    · skip
      obtain ⟨xu, uu⟩ := x
      show J _ _ _ _ _ ((54, .bool false) :: _) _
      refine J.pr (fun hF => ?_)
      first | refine J.skip rfl rfl rfl rfl rfl ?_ | refine J.skipU rfl rfl rfl rfl ?_ | (refine J.unguard rfl rfl rfl ?_; refine J.move rfl rfl ?_)
      exact J.finX rfl (fun _ hw => ⟨⟨xu, uu⟩, rfl, fun _ _ _ => rfl, hF, hw⟩)
    · skip
      obtain ⟨xu, uu⟩ := x
      show J _ _ _ _ _ ((54, .bool false) :: (55, .pointer (some ⟨v2, 0, none⟩)) :: _) _
      refine J.pr (fun hF => ?_)
      first | refine J.skip rfl rfl rfl rfl rfl ?_ | refine J.skipU rfl rfl rfl rfl ?_ | (refine J.unguard rfl rfl rfl ?_; refine J.eqNil Ty.u38 rfl rfl rfl ?_)
      exact J.finX rfl (fun _ hw => ⟨⟨xu, uu⟩, rfl, fun _ _ _ => rfl, hF, hw⟩)
    · skip
      obtain ⟨xu, uu⟩ := x
      show J _ _ _ _ _ ((56, .bool false) :: (54, .bool false) :: _) _
      refine J.pr (fun hF => ?_)
      (first | refine J.pickT rfl rfl rfl ?_ | refine J.pickF rfl rfl rfl ?_)
      exact J.finX rfl (fun _ hw => ⟨⟨xu, uu⟩, rfl, fun _ _ _ => rfl, hF, hw⟩)
    · skip
      obtain ⟨xu, uu⟩ := x
      show J _ _ _ _ _ ((54, .bool false) :: (57, .bool false) :: _) _
      refine J.pr (fun hF => ?_)
      refine J.move rfl rfl ?_
      exact J.finX rfl (fun _ hw => ⟨⟨xu, uu⟩, rfl, fun _ _ _ => rfl, hF, hw⟩)
    · skip
      obtain ⟨xu, uu⟩ := x
      show J _ _ _ _ _ ((58, .bool false) :: _) _
      refine J.pr (fun hF => ?_)
      first | refine J.skip rfl rfl rfl rfl rfl ?_ | refine J.skipU rfl rfl rfl rfl ?_ | (refine J.unguard rfl rfl rfl ?_; refine J.move rfl rfl ?_)
      exact J.finX rfl (fun _ hw => ⟨⟨xu, uu⟩, rfl, fun _ _ _ => rfl, hF, hw⟩)
    · skip
      obtain ⟨xu, uu⟩ := x
      show J _ _ _ _ _ ((58, .bool false) :: (58, .bool false) :: (59, .pointer (some ⟨v2, 0, none⟩)) :: _) _
      refine J.pr (fun hF => ?_)
      refine J.unguard rfl rfl rfl ?_
      refine J.callB (v := .int .i64 2) (fun w1 w2 hw hb => hw.step hb) Ty.bd18 rfl rfl (fun w1 hw => inc_spec v2 m2 _ 2 w1 (St.owns' hw)) ?_
      exact J.finX rfl (fun _ hw => ⟨⟨xu, uu⟩, rfl, fun _ _ _ => rfl, hF, hw⟩)
    · skip
      obtain ⟨xu, uu⟩ := x
      show J _ _ _ _ _ ((58, .bool false) :: (60, .int .i64 2) :: _) _
      refine J.pr (fun hF => ?_)
      first | refine J.skip rfl rfl rfl rfl rfl ?_ | refine J.skipU rfl rfl rfl rfl ?_ | (refine J.unguard rfl rfl rfl ?_; refine J.bin rfl rfl rfl rfl ?_)
      exact J.finX rfl (fun _ hw => ⟨⟨xu, uu⟩, rfl, fun _ _ _ => rfl, hF, hw⟩)
    · skip
      obtain ⟨xu, uu⟩ := x
      show J _ _ _ _ _ ((61, .bool false) :: (58, .bool false) :: _) _
      refine J.pr (fun hF => ?_)
      (first | refine J.pickT rfl rfl rfl ?_ | refine J.pickF rfl rfl rfl ?_)
      exact J.finX rfl (fun _ hw => ⟨⟨xu, uu⟩, rfl, fun _ _ _ => rfl, hF, hw⟩)
    · skip
      obtain ⟨xu, uu⟩ := x
      show J _ _ _ _ _ ((60, .int .i64 2) :: (62, .bool false) :: _) _
      refine J.pr (fun hF => ?_)
      refine J.move rfl rfl ?_
      exact J.finX rfl (fun _ hw => ⟨⟨xu, uu⟩, rfl, fun _ _ _ => rfl, hF, hw⟩)
    · skip
      obtain ⟨xu, uu⟩ := x
      show J _ _ _ _ _ ((63, .bool false) :: _) _
      refine J.pr (fun hF => ?_)
      first | refine J.skip rfl rfl rfl rfl rfl ?_ | refine J.skipU rfl rfl rfl rfl ?_ | (refine J.unguard rfl rfl rfl ?_; refine J.fieldAddr Ty.fd28_1 rfl rfl ?_)
      exact J.finX rfl (fun _ hw => ⟨⟨xu, uu⟩, rfl, fun _ _ _ => rfl, hF, hw⟩)
    · skip
      obtain ⟨xu, uu⟩ := x
      show J _ _ _ _ _ ((63, .bool false) :: (64, .pointer (some ⟨b4, 0 + 16, none⟩)) :: _) _
      refine J.pr (fun hF => ?_)
      refine J.unguard rfl rfl rfl ?_
      refine J.loadA (vs := cV ⟨1, nI 7⟩) Ty.a25 Ty.s25 rfl rfl (fun w1 hw => Cells.of_block (hw.own ((b4, cb (cT (nI 3) ⟨1, nI 7⟩ (.slice ay 1 cy)) 28)) (by repeat first | exact .head _ | apply List.Mem.tail | apply List.mem_append_right)) rfl) rfl ?_
      exact J.finX rfl (fun _ hw => ⟨⟨xu, uu⟩, rfl, fun _ _ _ => rfl, hF, hw⟩)
    · skip
      obtain ⟨xu, uu⟩ := x
      show J _ _ _ _ _ ((63, .bool false) :: (63, .bool false) :: _) _
      refine J.pr (fun hF => ?_)
      refine J.unguard rfl rfl rfl ?_
      refine J.callB (v := .agg (cI (nI 7)).toArray) (fun w1 w2 hw hb => hw.step hb) Ty.bd38 rfl rfl (fun w1 hw => n18_spec 7 w1) ?_
      exact J.finX rfl (fun _ hw => ⟨⟨xu, uu⟩, rfl, fun _ _ _ => rfl, hF, hw⟩)
    · skip
      obtain ⟨xu, uu⟩ := x
      show J _ _ _ _ _ ((63, .bool false) :: (66, .agg (cI (nI 7)).toArray) :: _) _
      refine J.pr (fun hF => ?_)
      refine J.unguard rfl rfl rfl ?_
      refine J.buildS (cs := cV ⟨1, nI 7⟩) Ty.pl25 Ty.zVr rfl (by kernel_rfl) rfl ?_
      exact J.finX rfl (fun _ hw => ⟨⟨xu, uu⟩, rfl, fun _ _ _ => rfl, hF, hw⟩)
    · skip
      obtain ⟨xu, uu⟩ := x
      show J _ _ _ _ _ ((63, .bool false) :: (67, .agg (cV (⟨1, nI 7⟩ : WV)).toArray) :: (65, .agg (cV (⟨1, nI 7⟩ : WV)).toArray) :: _) _
      refine J.pr (fun hF => ?_)
      refine J.unguard rfl rfl rfl ?_
      refine J.neV rfl rfl (by decide) (by decide) rfl ?_
      refine J.name 68 rfl (show _ = Value.bool false by simp) ?_
      exact J.finX rfl (fun _ hw => ⟨⟨xu, uu⟩, rfl, fun _ _ _ => rfl, hF, hw⟩)
    · skip
      obtain ⟨xu, uu⟩ := x
      show J _ _ _ _ _ ((68, .bool false) :: (63, .bool false) :: _) _
      refine J.pr (fun hF => ?_)
      (first | refine J.pickT rfl rfl rfl ?_ | refine J.pickF rfl rfl rfl ?_)
      exact J.finX rfl (fun _ hw => ⟨⟨xu, uu⟩, rfl, fun _ _ _ => rfl, hF, hw⟩)
  case htail =>
    intro x
    obtain ⟨xu, uu⟩ := x
    show J _ _ _ _ _ ((69, .bool false) :: (68, .bool false) :: (67, .agg (cV (⟨1, nI 7⟩ : WV)).toArray) :: (66, .agg (cI (nI 7)).toArray) :: (65, .agg (cV (⟨1, nI 7⟩ : WV)).toArray) :: (64, .pointer (some ⟨b4, 0 + 16, none⟩)) :: (63, .bool false) :: (62, .bool false) :: (61, .bool false) :: (60, .int .i64 2) :: (59, .pointer (some ⟨v2, 0, none⟩)) :: (58, .bool false) :: (57, .bool false) :: (56, .bool false) :: (55, .pointer (some ⟨v2, 0, none⟩)) :: (54, .bool false) :: (53, .bool false) :: (52, .bool false) :: (51, .int .i64 0) :: (50, .bool false) :: (49, .bool false) :: (48, .int .i64 0) :: _) (fun w1 => (True) ∧ St w [] ((v2, vaO (.pointer (some ⟨l2, 0, none⟩)) m2 ((2 : Nat) : Int)) :: (m2, .map es3 ck3) :: (l2, lgO d QF3 false) :: (d, dkO s 20 σ3.p σ3.k) :: (s, dkS σ3.B) :: (lp2 ++ ((v1, vaO (.pointer (some ⟨l1, 0, none⟩)) m1 ((1 : Nat) : Int)) :: (m1, .map es2 ck2) :: (l1, lgO d QF2 false) :: (lh ++ (ly ++ [(b4, cb (cT (nI 3) ⟨1, nI 7⟩ (.slice ay 1 cy)) 28), (b37, Obj.cells (([97].map u8) : List Value).toArray 5 (1, 2))]))))) w1)
    refine J.pr (fun hF => ?_)
    refine J.nil ?_
    refine JX.thenN (hK8 _ _ ?_)
    first | refine JC.condF rfl ?_ | refine JC.cond rfl (fun h => by first | (exfalso; simp at h; omega) | (simp at h)) (fun _ => ?_)
    refine JC.skip ?_
    refine JX.thenN (hK7 _ _ ?_)
    refine JC.seq (fun K9 hK9 => ?_)
    refine JC.region ?_
    refine J.move rfl rfl ?_
    refine J.callB (v := .agg (cI (nI 3)).toArray) (fun w1 w2 hw hb => hw.step hb) Ty.bd38 rfl rfl (fun w1 hw => n18_spec 3 w1) ?_
    have hv3 := (hV3 _ (.head _)).2
    simp only at hv3
    refine J.perm ([(v2, vaO (.pointer (some ⟨l2, 0, none⟩)) m2 ((2 : Nat) : Int)), (m2, .map es3 ck3)] ++ ((l2, lgO d QF3 false) :: (d, dkO s 20 σ3.p σ3.k) :: (s, dkS σ3.B) :: (lp2 ++ ((v1, vaO (.pointer (some ⟨l1, 0, none⟩)) m1 ((1 : Nat) : Int)) :: (m1, .map es2 ck2) :: (l1, lgO d QF2 false) :: (lh ++ (ly ++ [(b4, cb (cT (nI 3) ⟨1, nI 7⟩ (.slice ay 1 cy)) 28), (b37, Obj.cells (([97].map u8) : List Value).toArray 5 (1, 2))])))))) (by (refine perm_cnt (fun _ => ?_)); simp only [cntB_append, cntB_cons, cntB_nil, Nat.add_zero, Nat.zero_add]; try ac_rfl) ?_
    refine J.callS (α := Value × List (Nat × Obj)) (V := fun y => .tuple #[.agg (cT (nI 3) ⟨1, nI 7⟩ y.1).toArray, .bool true]) (Pr := fun y => Vec 5 1 y.1 ([97]).length (([97]).map u8) y.2) (L := fun y => y.2 ++ [(v2, vaO (.pointer (some ⟨l2, 0, none⟩)) m2 ((2 : Nat) : Int)), (m2, .map es3 ck3)]) Ty.bd22 rfl rfl (fun w1 hw => vget_spec v2 m2 _ _ _ es3 ck3 hT3 hV3 (nI 3) ⟨nI 3, ⟨1, nI 7⟩, [97], sv2, lp2⟩ true w1 (St.owns hw) (by simp [hget]) (by simp [hget]) (vec_rowM hv3 hw (fun q hq => by simp [hq])) (vec_offM hv3 (fun p0 hp0 => St.off (l1 := [(v2, vaO (.pointer (some ⟨l2, 0, none⟩)) m2 ((2 : Nat) : Int)), (m2, .map es3 ck3)]) hw (o := p0.2) (by simp [hp0]))) (by show 1 ≤ 140737488351232; omega)) (fun y hyg => ?_)
    obtain ⟨vg, lg⟩ := y
    try simp only at hyg ⊢
    obtain ⟨ag, cg, rfl, hcg⟩ := hyg.form
    refine J.move rfl rfl ?_
    refine J.extract rfl rfl rfl ?_
    refine J.extract rfl rfl rfl ?_
    refine J.alloc Ty.zIt rfl rfl (fun b7 => ?_)
    refine J.storeW (cs := cH zH) (vs := cT (nI 3) ⟨1, nI 7⟩ (.slice ag 1 cg)) Ty.s28 rfl rfl rfl rfl rfl one_cT .here ?_
    refine J.perm ((b7, cb (cT (nI 3) ⟨1, nI 7⟩ (.slice ag 1 cg)) 28) :: (lg ++ ((v2, vaO (.pointer (some ⟨l2, 0, none⟩)) m2 ((2 : Nat) : Int)) :: (m2, .map es3 ck3) :: (l2, lgO d QF3 false) :: (d, dkO s 20 σ3.p σ3.k) :: (s, dkS σ3.B) :: (lp2 ++ ((v1, vaO (.pointer (some ⟨l1, 0, none⟩)) m1 ((1 : Nat) : Int)) :: (m1, .map es2 ck2) :: (l1, lgO d QF2 false) :: (lh ++ (ly ++ [(b4, cb (cT (nI 3) ⟨1, nI 7⟩ (.slice ay 1 cy)) 28), (b37, Obj.cells (([97].map u8) : List Value).toArray 5 (1, 2))]))))))) (by (refine perm_cnt (fun _ => ?_)); simp only [cntB_append, cntB_cons, cntB_nil, Nat.add_zero, Nat.zero_add]; try ac_rfl) ?_
    refine J.assign rfl rfl ?_
    refine J.nil ?_
    refine JX.thenN (hK9 _ _ ?_)
    refine JC.seq (fun K10 hK10 => ?_)
    refine JC.region ?_
    refine J.move rfl rfl ?_
    refine J.callB (v := .agg (cI (nI 3)).toArray) (fun w1 w2 hw hb => hw.step hb) Ty.bd38 rfl rfl (fun w1 hw => n18_spec 3 w1) ?_
    refine J.callB (v := .agg (cI (nI 6)).toArray) (fun w1 w2 hw hb => hw.step hb) Ty.bd38 rfl rfl (fun w1 hw => n18_spec 6 w1) ?_
    refine J.buildS (cs := cV ⟨1, nI 6⟩) Ty.pl25 Ty.zVr rfl (by kernel_rfl) rfl ?_
    refine J.buildS (cs := cT (nI 3) ⟨1, nI 6⟩ (.slice none 0 0)) Ty.pl28 Ty.zIt rfl (by kernel_rfl) rfl ?_
    refine J.perm (vltB v2 m2 l2 d s 20 QF3 false 2 es3 ck3 ⟨σ3.B, σ3.p, σ3.k⟩ ++ ((b7, cb (cT (nI 3) ⟨1, nI 7⟩ (.slice ag 1 cg)) 28) :: (lg ++ (lp2 ++ ((v1, vaO (.pointer (some ⟨l1, 0, none⟩)) m1 ((1 : Nat) : Int)) :: (m1, .map es2 ck2) :: (l1, lgO d QF2 false) :: (lh ++ (ly ++ [(b4, cb (cT (nI 3) ⟨1, nI 7⟩ (.slice ay 1 cy)) 28), (b37, Obj.cells (([97].map u8) : List Value).toArray 5 (1, 2))]))))))) (by (refine perm_cnt (fun _ => ?_)); simp only [cntB_append, cntB_cons, cntB_nil, Nat.add_zero, Nat.zero_add]; try ac_rfl) ?_
    refine J.callS (α := MerR) (V := MerR.val) (Pr := fun z => z.Pr 20 QF3 false σ3 [⟨nI 3, ⟨1, nI 7⟩, [97], sv2, lp2⟩] ⟨nI 3, ⟨1, nI 6⟩, []⟩) (L := fun z => z.lst v2 m2 l2 d s 20 2 es3 ck3) Ty.bd19 rfl rfl (fun w1 hw => vmerge_spec v2 m2 l2 d s 20 2 QF3 false σ3.B σ3.p σ3.k _ es3 ck3 hT3 hV3 hI3 (by omega) hk3 (by omega) (cT (nI 3) ⟨1, nI 6⟩ (.slice none 0 0)) (nI 3) ⟨1, nI 6⟩ [] (.slice none 0 0) w1 rfl (St.owns hw) ⟨none, 0, rfl, Nat.le_refl _, .inl rfl⟩ (.inl rfl) (by decide)) (fun z hz => ?_)
    rcases z with ⟨ez, qz, dz, sz⟩ | ⟨hz9, esz, ckz, qz, dz, sz⟩
    rotate_left
    · exact absurd (congrArg (fun x => x.1) (hM6.symm.trans hz.1)) (by simp)
    have hz1 := hM6.symm.trans hz
    simp only [Prod.mk.injEq, true_and] at hz1
    obtain ⟨rfl, rfl, rfl, rfl⟩ := hz1
    refine J.name 82 rfl (show _ = Value.tuple #[.bool false, .int .i64 0] from rfl) ?_
    refine J.perm ((b7, cb (cT (nI 3) ⟨1, nI 7⟩ (.slice ag 1 cg)) 28) :: (lg ++ ((v2, vaO (.pointer (some ⟨l2, 0, none⟩)) m2 ((2 : Nat) : Int)) :: (m2, .map es3 ck3) :: (l2, lgO d QF3 false) :: (d, dkO s 20 σ3.p σ3.k) :: (s, dkS σ3.B) :: (lp2 ++ ((v1, vaO (.pointer (some ⟨l1, 0, none⟩)) m1 ((1 : Nat) : Int)) :: (m1, .map es2 ck2) :: (l1, lgO d QF2 false) :: (lh ++ (ly ++ [(b4, cb (cT (nI 3) ⟨1, nI 7⟩ (.slice ay 1 cy)) 28), (b37, Obj.cells (([97].map u8) : List Value).toArray 5 (1, 2))]))))))) (by simp only [MerR.lst]; exact (by (refine perm_cnt (fun _ => ?_)); simp only [cntB_append, cntB_cons, cntB_nil, Nat.add_zero, Nat.zero_add]; try ac_rfl)) ?_
    refine J.move rfl rfl ?_
    refine J.extract rfl rfl rfl ?_
    refine J.extract rfl rfl rfl ?_
    refine J.assign rfl rfl ?_
    refine J.assign rfl rfl ?_
    refine J.nil ?_
    refine JX.thenN (hK10 _ _ ?_)
    refine JC.seq (fun K11 hK11 => ?_)
    refine JC.region ?_
    refine J.move rfl rfl ?_
    refine J.callB (v := .agg (cI (nI 3)).toArray) (fun w1 w2 hw hb => hw.step hb) Ty.bd38 rfl rfl (fun w1 hw => n18_spec 3 w1) ?_
    refine J.callB (v := .agg (cI (nI 8)).toArray) (fun w1 w2 hw hb => hw.step hb) Ty.bd38 rfl rfl (fun w1 hw => n18_spec 8 w1) ?_
    refine J.buildS (cs := cV ⟨1, nI 8⟩) Ty.pl25 Ty.zVr rfl (by kernel_rfl) rfl ?_
    refine J.buildS (cs := cT (nI 3) ⟨1, nI 8⟩ (.slice none 0 0)) Ty.pl28 Ty.zIt rfl (by kernel_rfl) rfl ?_
    refine J.perm (vltB v2 m2 l2 d s 20 QF3 false 2 es3 ck3 ⟨σ3.B, σ3.p, σ3.k⟩ ++ ((b7, cb (cT (nI 3) ⟨1, nI 7⟩ (.slice ag 1 cg)) 28) :: (lg ++ (lp2 ++ ((v1, vaO (.pointer (some ⟨l1, 0, none⟩)) m1 ((1 : Nat) : Int)) :: (m1, .map es2 ck2) :: (l1, lgO d QF2 false) :: (lh ++ (ly ++ [(b4, cb (cT (nI 3) ⟨1, nI 7⟩ (.slice ay 1 cy)) 28), (b37, Obj.cells (([97].map u8) : List Value).toArray 5 (1, 2))]))))))) (by (refine perm_cnt (fun _ => ?_)); simp only [cntB_append, cntB_cons, cntB_nil, Nat.add_zero, Nat.zero_add]; try ac_rfl) ?_
    refine J.callS (α := MerR) (V := MerR.val) (Pr := fun z => z.Pr 20 QF3 false σ3 [⟨nI 3, ⟨1, nI 7⟩, [97], sv2, lp2⟩] ⟨nI 3, ⟨1, nI 8⟩, []⟩) (L := fun z => z.lst v2 m2 l2 d s 20 2 es3 ck3) Ty.bd19 rfl rfl (fun w1 hw => vmerge_spec v2 m2 l2 d s 20 2 QF3 false σ3.B σ3.p σ3.k _ es3 ck3 hT3 hV3 hI3 (by omega) hk3 (by omega) (cT (nI 3) ⟨1, nI 8⟩ (.slice none 0 0)) (nI 3) ⟨1, nI 8⟩ [] (.slice none 0 0) w1 rfl (St.owns hw) ⟨none, 0, rfl, Nat.le_refl _, .inl rfl⟩ (.inl rfl) (by decide)) (fun z hz => ?_)
    rcases z with ⟨ez, qz, dz, sz⟩ | ⟨hz9, esz, ckz, qz, dz, sz⟩
    · exact absurd (congrArg (fun x => x.1) (hM8.symm.trans hz)) (by simp)
    obtain ⟨hz1, -, -, -⟩ := hz
    have hz2 := hM8.symm.trans hz1
    simp only [Prod.mk.injEq, true_and] at hz2
    obtain ⟨rfl, rfl, rfl⟩ := hz2
    refine J.name 91 rfl (show _ = Value.tuple #[.bool true, .int .i64 0] from rfl) ?_
    refine J.perm ((v2, vaO (.pointer (some ⟨l2, 0, none⟩)) m2 ((2 : Nat) : Int)) :: (m2, .map esz ckz) :: (l2, lgO d q4 false) :: (d, dkO s 20 σ4.p σ4.k) :: (s, dkS σ4.B) :: (b7, cb (cT (nI 3) ⟨1, nI 7⟩ (.slice ag 1 cg)) 28) :: (hz9.lp ++ (lg ++ (lp2 ++ ((v1, vaO (.pointer (some ⟨l1, 0, none⟩)) m1 ((1 : Nat) : Int)) :: (m1, .map es2 ck2) :: (l1, lgO d QF2 false) :: (lh ++ (ly ++ [(b4, cb (cT (nI 3) ⟨1, nI 7⟩ (.slice ay 1 cy)) 28), (b37, Obj.cells (([97].map u8) : List Value).toArray 5 (1, 2))]))))))) (by simp only [MerR.lst]; exact (by (refine perm_cnt (fun _ => ?_)); simp only [cntB_append, cntB_cons, cntB_nil, Nat.add_zero, Nat.zero_add]; try ac_rfl)) ?_
    refine J.move rfl rfl ?_
    refine J.extract rfl rfl rfl ?_
    refine J.extract rfl rfl rfl ?_
    refine J.assign rfl rfl ?_
    refine J.assign rfl rfl ?_
    refine J.nil ?_
    refine JX.thenN (hK11 _ _ ?_)
    refine JC.seq (fun K12 hK12 => ?_)
    refine JC.region ?_
    refine J.move rfl rfl ?_
    refine J.move rfl rfl ?_
    first | refine J.skip rfl rfl rfl rfl rfl ?_ | refine J.skipU rfl rfl rfl rfl ?_ | (refine J.unguard rfl rfl rfl ?_; refine J.fieldAddr Ty.fd28_2 rfl rfl ?_)
    refine J.unguard rfl rfl rfl ?_
    refine J.load1 (v := .slice ag 1 cg) Ty.a26 rfl (fun w1 hw => by rw [cell_of (hw.own ((b7, cb (cT (nI 3) ⟨1, nI 7⟩ (.slice ag 1 cg)) 28)) (by repeat first | exact .head _ | apply List.Mem.tail | apply List.mem_append_right))]; rfl) rfl ?_
    refine J.unguard rfl rfl rfl ?_
    refine J.toStr (m := 1) (bs := [97]) Ty.el26 Ty.u5 Ty.u9 rfl (fun w1 hw => vec_rowM hyg hw (fun q hq => by simp [hq])) rfl rfl ?_
    refine J.unguard rfl rfl rfl ?_
    refine J.strEq (xs := [97]) (ys := [97]) rfl rfl rfl ?_
    refine J.name 99 rfl (show _ = Value.bool true from rfl) ?_
    (first | refine J.pickT rfl rfl rfl ?_ | refine J.pickF rfl rfl rfl ?_)
    refine J.move rfl rfl ?_
    first | refine J.skip rfl rfl rfl rfl rfl ?_ | refine J.skipU rfl rfl rfl rfl ?_ | (refine J.unguard rfl rfl rfl ?_; refine J.move rfl rfl ?_)
    first | refine J.skip rfl rfl rfl rfl rfl ?_ | refine J.skipU rfl rfl rfl rfl ?_ | (refine J.unguard rfl rfl rfl ?_; refine J.not rfl rfl ?_)
    (first | refine J.pickT rfl rfl rfl ?_ | refine J.pickF rfl rfl rfl ?_)
    refine J.move rfl rfl ?_
    first | refine J.skip rfl rfl rfl rfl rfl ?_ | refine J.skipU rfl rfl rfl rfl ?_ | (refine J.unguard rfl rfl rfl ?_; refine J.move rfl rfl ?_)
    (first | refine J.pickT rfl rfl rfl ?_ | refine J.pickF rfl rfl rfl ?_)
    refine J.move rfl rfl ?_
    first | refine J.skip rfl rfl rfl rfl rfl ?_ | refine J.skipU rfl rfl rfl rfl ?_ | (refine J.unguard rfl rfl rfl ?_; refine J.move rfl rfl ?_)
    refine J.unguard rfl rfl rfl ?_
    refine J.callB (v := .bool false) (fun w1 w2 hw hb => hw.step hb) Ty.bd25 rfl rfl (fun w1 hw => vdown_spec v2 m2 l2 d q4 false _ w1 (l := []) (St.owns (l1 := [_, _]) (hw.perm (by (refine perm_cnt (fun _ => ?_)); simp only [cntB_append, cntB_cons, cntB_nil, Nat.add_zero, Nat.zero_add]; try ac_rfl : List.Perm _ ([(v2, vaO (.pointer (some ⟨l2, 0, none⟩)) m2 ((2 : Nat) : Int)), (l2, lgO d q4 false)] ++ ((m2, .map esz ckz) :: (d, dkO s 20 σ4.p σ4.k) :: (s, dkS σ4.B) :: (b7, cb (cT (nI 3) ⟨1, nI 7⟩ (.slice ag 1 cg)) 28) :: (hz9.lp ++ (lg ++ (lp2 ++ ((v1, vaO (.pointer (some ⟨l1, 0, none⟩)) m1 ((1 : Nat) : Int)) :: (m1, .map es2 ck2) :: (l1, lgO d QF2 false) :: (lh ++ (ly ++ [(b4, cb (cT (nI 3) ⟨1, nI 7⟩ (.slice ay 1 cy)) 28), (b37, Obj.cells (([97].map u8) : List Value).toArray 5 (1, 2))])))))))))))) ?_
    first | refine J.skip rfl rfl rfl rfl rfl ?_ | refine J.skipU rfl rfl rfl rfl ?_ | (refine J.unguard rfl rfl rfl ?_; refine J.not rfl rfl ?_)
    (first | refine J.pickT rfl rfl rfl ?_ | refine J.pickF rfl rfl rfl ?_)
    refine J.assign rfl rfl ?_
    refine J.nil ?_
    refine JX.thenN (hK12 _ _ ?_)
    refine JC.ret ?_
    refine JX.ret1 rfl rfl (fun w hw => ?_)
    exact ⟨rfl, (hw.drop (List.nil_sublist _)).below⟩

end Go.Proofs.Ytoaenmlhehcjfaa
/-
  Arguments: arrays of what can be decoded. Proved over any program.
-/
namespace Go.J
open Go.ChangeShapes Go.WideShapes Go.ChangeAt Go.RowKit
set_option linter.unusedVariables false
set_option linter.unusedSimpArgs false
def RArr {α : Type} (k sz : Nat) (R : World → List Value → α → Prop) : World → List Value → List α → Prop := fun w cs xs =>
  cs.length = k * sz ∧ xs.length = k ∧ ∀ i x, xs[i]? = some x → R w ((cs.drop (i * sz)).take sz) x
/-- an array of two -/
theorem RArr.two {α : Type} {sz : Nat} {R : World → List Value → α → Prop} {w : World} {cs : List Value} {xs : List α} (h : RArr 2 sz R w cs xs) : ∃ a b c1 c2, cs = c1 ++ c2 ∧ R w c1 a ∧ R w c2 b := by
  obtain ⟨h1, h2, h3⟩ := h
  match xs, h2 with
  | [a, b], _ =>
    refine ⟨a, b, cs.take sz, cs.drop sz, (List.take_append_drop _ _).symm, ?_, ?_⟩
    · have := h3 0 a rfl
      simpa using this
    · have := h3 1 b rfl
      rw [Nat.one_mul, List.take_of_length_le (by rw [List.length_drop]; omega)] at this
      exact this
end Go.J
/-
  The calculus: slices whose capacity may end ahead of their block; s[lo:hi:max]; rows of anything. Proved over any program.
-/
namespace Go.J
open Go.RowKit
set_option linter.unusedVariables false
set_option linter.unusedSimpArgs false
/-- a slice of the call's own of which the block may hold more than its capacity -/
def VecW (t sz : Nat) (v : Value) (k : Nat) (xs : List Value) (lp : List (Nat × Obj)) : Prop :=
  xs.length = k * sz ∧ ((v = .slice none 0 0 ∧ k = 0 ∧ lp = []) ∨ ∃ b c sp, v = .slice (some ⟨b, 0, none⟩) k c ∧ lp = [(b, cb (xs ++ sp) t)] ∧ c * sz ≤ (xs ++ sp).length ∧ k ≤ c)
theorem Vec.weak {t sz : Nat} {v : Value} {k : Nat} {xs : List Value} {lp : List (Nat × Obj)} (h : Vec t sz v k xs lp) : VecW t sz v k xs lp := by
  refine ⟨h.1, ?_⟩
  rcases h.2 with h | ⟨b, c, sp, h1, h2, h3, h4⟩
  · exact .inl h
  · exact .inr ⟨b, c, sp, h1, h2, Nat.le_of_eq h3.symm, h4⟩
theorem VecW.nil (t sz : Nat) : VecW t sz (.slice none 0 0) 0 [] [] := (Vec.nil t sz).weak
theorem VecW.row {w0 w : World} {S : List Nat} {l lp : List (Nat × Obj)} {t sz : Nat} {v : Value} {k : Nat} {xs : List Value} (h : VecW t sz v k xs lp) (hw : St w0 S (lp ++ l) w) : Row w v k xs := by
  obtain ⟨hl, h⟩ := h
  rcases h with ⟨rfl, rfl, rfl⟩ | ⟨b, c, sp, rfl, rfl, _, hk⟩
  · exact ⟨none, 0, rfl, Nat.le_refl _, .inl (List.eq_nil_of_length_eq_zero (by simpa using hl))⟩
  · exact Row.own (cs := xs ++ sp) (tb := t) (fr := (0, 0)) hw (.head _) (by simp) hk
theorem VecW.form {t sz : Nat} {v : Value} {k : Nat} {xs : List Value} {lp : List (Nat × Obj)} (h : VecW t sz v k xs lp) : ∃ a c, v = .slice a k c ∧ k ≤ c := by
  rcases h.2 with ⟨rfl, rfl, rfl⟩ | ⟨b, c, sp, rfl, rfl, _, hk⟩
  · exact ⟨none, 0, rfl, Nat.le_refl _⟩
  · exact ⟨_, c, rfl, hk⟩
/-- its first j elements, with no more room than that -/
theorem VecW.cut {t sz : Nat} {a : Option Addr} {k c j : Nat} {xs : List Value} {lp : List (Nat × Obj)} (h : VecW t sz (.slice a k c) k xs lp) (hj : j ≤ k) : VecW t sz (.slice a j j) j (xs.take (j * sz)) lp := by
  have hl := h.1
  have hle : j * sz ≤ xs.length := by rw [hl]; exact Nat.mul_le_mul_right _ hj
  refine ⟨by rw [List.length_take]; omega, ?_⟩
  rcases h.2 with ⟨h1, h2, h3⟩ | ⟨b, c', sp, h1, h2, h3, h4⟩
  · simp only [Value.slice.injEq] at h1
    obtain ⟨rfl, _, _⟩ := h1
    obtain rfl : j = 0 := by omega
    exact .inl ⟨rfl, rfl, h3⟩
  · simp only [Value.slice.injEq] at h1
    obtain ⟨rfl, _, _⟩ := h1
    refine .inr ⟨b, j, xs.drop (j * sz) ++ sp, rfl, ?_, ?_, Nat.le_refl _⟩
    · rw [h2, ← List.append_assoc, List.take_append_drop]
    · rw [← List.append_assoc, List.take_append_drop, List.length_append]; omega
section
variable {P : Program} {ops : Array Oper} {Q : Exit → Act → World → Prop} {n : Nat} {e : Env} {I I' : World → Prop} {rest : List Oper}
variable {d t : Nat} {p : String} {af : Array Edge} {x y z : Operand} {v v1 v2 : Value} {w0 : World} {S : List Nat} {l l' lp : List (Nat × Obj)}
end
/-- rows of anything -/
theorem fG_length {α : Type} {c : α → List Value} {sz : Nat} (hc : ∀ x, (c x).length = sz) : ∀ xs : List α, (xs.flatMap c).length = xs.length * sz
  | [] => by simp
  | x :: xs => by
    have := fG_length hc xs
    simp only [List.flatMap_cons, List.length_append, List.length_cons, this, hc, Nat.add_mul]
    omega
theorem fG_at {α : Type} {c : α → List Value} {sz : Nat} (hc : ∀ x, (c x).length = sz) : ∀ {xs : List α} {i : Nat} {a : α}, xs[i]? = some a → ((xs.flatMap c).drop (i * sz)).take sz = c a
  | [], i, a, h => by simp at h
  | x :: xs, 0, a, h => by
    simp only [List.getElem?_cons_zero, Option.some.injEq] at h
    subst h
    rw [Nat.zero_mul, List.drop_zero, List.flatMap_cons, ← hc x, List.take_left]
  | x :: xs, i + 1, a, h => by
    have ih := fG_at hc (xs := xs) (i := i) (by simpa using h)
    rw [Nat.add_mul, Nat.one_mul, Nat.add_comm, ← List.drop_drop, List.flatMap_cons]
    have : (c x ++ List.flatMap c xs).drop sz = List.flatMap c xs := by rw [← hc x, List.drop_left]
    rw [this]
    exact ih
theorem fG_cell {α : Type} {c : α → List Value} {sz : Nat} (hc : ∀ x, (c x).length = sz) {xs : List α} {i r : Nat} {a : α} (h : xs[i]? = some a) (hr : r < sz) : (xs.flatMap c)[i * sz + r]? = (c a)[r]? := by
  rw [← fG_at hc h, List.getElem?_take_of_lt hr, List.getElem?_drop]
end Go.J
/-
  Arguments: slices of what has fixed cells, as rows. Proved over any program.
-/
namespace Go.J
open Go.ChangeShapes Go.WideShapes Go.ChangeAt Go.RowKit
set_option linter.unusedVariables false
set_option linter.unusedSimpArgs false
theorem rslG {α : Type} {c : α → List Value} {sz by_ : Nat} (hc : ∀ x, (c x).length = sz) (hz : 0 < sz) {R : World → List Value → α → Prop} (hR : ∀ W cs x, R W cs x → cs = c x) {W : World} {s : Sl α} {cs : List Value} (h : RSl sz by_ R W cs s) : Row W s.v s.xs.length (s.xs.flatMap c) := by
  obtain ⟨_, h1, _, h2⟩ := h
  refine ⟨s.a, s.c, rfl, h1, ?_⟩
  rcases h2 with h2 | ⟨b, o, ha, h2⟩
  · left; rw [h2]; rfl
  · right
    refine ⟨b, o, ha, fun j hj => ?_⟩
    rw [fG_length hc] at hj
    have hi : j / sz < s.xs.length := Nat.div_lt_of_lt_mul (by rw [Nat.mul_comm]; exact hj)
    obtain ⟨cs', hl, hcc, hr⟩ := h2 (j / sz) s.xs[j / sz] (List.getElem?_eq_getElem hi)
    have hr' : cs' = c s.xs[j / sz] := hR _ _ _ hr
    subst hr'
    have hm := Nat.mod_lt j hz
    have := hcc (j % sz) (by rw [hc]; exact hm)
    have hdm : j / sz * sz + j % sz = j := by rw [Nat.mul_comm]; exact Nat.div_add_mod j sz
    rw [show o + j = o + j / sz * sz + j % sz by omega, this, ← fG_cell hc (List.getElem?_eq_getElem hi) hm, hdm]
end Go.J
/-
  A nil vault; items that come in; VaultNil: the walk.
-/
namespace Go.Proofs.Ytoaenmlhehcjfaa
open Go.J Go.RowKit
set_option linter.unusedVariables false
set_option linter.unusedSimpArgs false
set_option maxRecDepth 8000
def RId : World → List Value → IDV → Prop := fun _ cs a => cs = cI a
/-- an item that comes in -/
structure ItX where
  key : IDV
  ver : WV
  v : Sl UInt8
def RVr : World → List Value → WV → Prop := fun _ cs x => cs = cV x ∧ okN x.n
def RIt : World → List Value → ItX → Prop := fun W cs x => cs = cT x.key x.ver x.v.v ∧ okN x.ver.n ∧ RSl 1 1 RU8 W [x.v.v] x.v
end Go.Proofs.Ytoaenmlhehcjfaa
/-
  VaultBegins: the walk.
-/
namespace Go.Proofs.Ytoaenmlhehcjfaa
open Go.J Go.RowKit
set_option linter.unusedVariables false
set_option linter.unusedSimpArgs false
set_option maxRecDepth 8000
section
variable {P : Program} {ops : Array Oper} {Q : Exit → Act → World → Prop} {n : Nat} {e : Env} {I I' : World → Prop} {rest : List Oper}
variable {d t yt : Nat} {p : String} {af : Array Edge} {x y z : Operand}
theorem J.remV {ty : TypeId} {a b : Int} (hx : ev e x = some (.int .u64 a)) (hy : ev e y = some (.int .u64 b)) (h1 : 0 ≤ a) (h3 : 0 < b) (hd : Nat.blt d n = true)
    (h : J P ops Q n rest ((d, .int .u64 (a % b)) :: e) I) : J P ops Q n (⟨some d, .binOp .rem ty x y yt, t, p, af, none⟩ :: rest) e I := by
  refine J.bin (v := .int .u64 (a.tmod b)) hx hy ?_ hd ?_
  · simp only [binI, if_true]
    rw [if_neg (by omega)]
  · rw [Int.tmod_eq_emod_of_nonneg h1]; exact h
end
theorem vopen_law {n inc : Nat} {q : LogP} {σ : DS} {L : List ItV} (hn : n ≤ 4096) (hI : LogI n q σ) (hh : heldV q.recs = some (inc, L)) (hi : inc < 1048576) (hg : q.gen + 1 < 9223372036854775808) :
    ∃ e o σ', vopenP n σ = (e, o, σ') ∧ σ.k ≤ σ'.k ∧ σ'.k ≤ σ.k + 19 ∧
      ((e = 0 ∧ o = some (⟨q.gen + 1, q.used + 1, q.cnt + 1, q.recs ++ [incB (inc + 1)]⟩, inc + 1, L) ∧ LogI n ⟨q.gen + 1, q.used + 1, q.cnt + 1, q.recs ++ [incB (inc + 1)]⟩ σ') ∨ (e ≠ 0 ∧ o = none ∧ LogI n q σ')) := by
  have hl := incB_len (inc + 1)
  have hn1 : needN (incB (inc + 1)).length = 1 := needN_1 (by omega)
  obtain ⟨e, q', dn, σ', h3, h4, h5, h6, _⟩ := append_law (down := false) (rec_ := incB (inc + 1)) hn hI hg
  rcases append_used h3 with ⟨rfl, rfl⟩ | ⟨he, rfl⟩
  · rw [hn1] at h3 h4
    exact ⟨0, _, σ', vopenP_ok hI.open_ hh (by omega) h3 rfl, h5, h6, .inl ⟨rfl, rfl, h4⟩⟩
  · exact ⟨e, none, σ', vopenP_torn hI.open_ hh (by omega) h3 he, h5, h6, .inr ⟨he, rfl, h4⟩⟩
theorem LogI.power {n : Nat} {q : LogP} {σ : DS} (h : LogI n q σ) (p : Int) (hp : p < 9223372036854775808) : LogI n q ⟨σ.B, p, σ.k⟩ := ⟨h.len, h.open_, hp⟩
structure BgS where
  i : Nat
  last : Nat
  q : LogP
  σ : DS
structure BgI (n : Nat) (st : BgS) : Prop where
  log : LogI n st.q st.σ
  held : heldV st.q.recs = some (st.last, [])
  used : st.q.used ≤ st.i
  gen : st.q.gen ≤ st.i
  last : st.last ≤ st.i
  k0 : 0 ≤ st.σ.k
  k : st.σ.k ≤ 19 * st.i
/-- one beginning more -/
theorem BgI.ok {n : Nat} {st : BgS} (h : BgI n st) {σ' : DS} (hl : LogI n ⟨st.q.gen + 1, st.q.used + 1, st.q.cnt + 1, st.q.recs ++ [incB (st.last + 1)]⟩ σ') (hi : st.i ≤ 1000) (hk : st.σ.k ≤ σ'.k) (hk2 : σ'.k ≤ st.σ.k + 19) :
    BgI n ⟨st.i + 1, st.last + 1, ⟨st.q.gen + 1, st.q.used + 1, st.q.cnt + 1, st.q.recs ++ [incB (st.last + 1)]⟩, σ'⟩ := by
  have h1 := h.used
  have h2 := h.gen
  have h3 := h.last
  have h4 := h.k0
  have h5 := h.k
  exact ⟨hl, held_inc h.held (by omega), by simp only; omega, by simp only; omega, by simp only; omega, by simp only; omega, by simp only; omega⟩
theorem BgI.bad {n : Nat} {st : BgS} (h : BgI n st) {σ' : DS} (hl : LogI n st.q σ') (hk : st.σ.k ≤ σ'.k) (hk2 : σ'.k ≤ st.σ.k + 19) : BgI n ⟨st.i + 1, st.last, st.q, σ'⟩ := by
  have h1 := h.used
  have h2 := h.gen
  have h3 := h.last
  have h4 := h.k0
  have h5 := h.k
  exact ⟨hl, h.held, by simp only; omega, by simp only; omega, by simp only; omega, by simp only; omega, by simp only; omega⟩

set_option maxHeartbeats 2000000 in
theorem vaultBeginsL_spec (v : Value) (ks : List Int) (w : World) (hr : Row w v ks.length (ks.map fun k => Value.int .i64 k)) :
    Calls Try.prog 4 [v].toArray w fun r w' => r = .returned (.bool true) ∧ Bel w w' := by
  obtain ⟨a, c, rfl, hc, hra⟩ := id hr
  refine calls_of_J (args := [.slice a ks.length c]) (e := [(0, .slice a ks.length c)]) Try.func4 rfl rfl ⟨rfl, trivial⟩ (St.start w) ?_
  refine JC.seq (fun K0 hK0 => ?_)
  refine JC.region ?_
  refine J.assign rfl rfl ?_
  refine J.nil ?_
  refine JX.thenN (hK0 _ _ ?_)
  refine JC.seq (fun K1 hK1 => ?_)
  refine JC.region ?_
  refine J.callS (α := Nat × Nat) (l1 := []) (L := fun x => [(x.1, dkO x.2 (min (max (120 : Int) 0) 4096).toNat (-1) 0), (x.2, dkS (List.replicate (64 * (min (max (120 : Int) 0) 4096).toNat) 0))]) (V := fun x => .pointer (some ⟨x.1, 0, none⟩)) (Pr := fun _ => True) Ty.bd15 rfl rfl (fun w1 hw => new_spec 120 w1) (fun x _ => ?_)
  obtain ⟨d, s⟩ := x
  have hN : (min (max (120 : Int) 0) 4096).toNat = 120 := by decide
  simp only [hN, List.append_nil]
  refine J.assign rfl rfl ?_
  refine J.nil ?_
  refine JX.thenN (hK1 _ _ ?_)
  refine JC.seq (fun K2 hK2 => ?_)
  refine JC.seq (fun K3 hK3 => ?_)
  refine JC.region ?_
  refine J.move rfl rfl ?_
  refine J.eqNil Ty.u34 rfl rfl rfl ?_
  refine J.move rfl rfl ?_
  refine J.unguard rfl rfl rfl ?_
  refine J.callB (v := .bool true) (fun w1 w2 hw hb => hw.step hb) Ty.bd10 rfl rfl (fun w1 hw => fixed18_spec w1) ?_
  first | refine J.skip rfl rfl rfl rfl rfl ?_ | refine J.skipU rfl rfl rfl rfl ?_ | (refine J.unguard rfl rfl rfl ?_; refine J.not rfl rfl ?_)
  (first | refine J.pickT rfl rfl rfl ?_ | refine J.pickF rfl rfl rfl ?_)
  refine J.nil ?_
  refine JX.thenN (hK3 _ _ ?_)
  first | refine JC.condF rfl ?_ | refine JC.cond rfl (fun h => by first | (exfalso; simp at h; omega) | (simp at h)) (fun _ => ?_)
  refine JC.skip ?_
  refine JX.thenN (hK2 _ _ ?_)
  refine JC.seq (fun K4 hK4 => ?_)
  refine JC.region ?_
  refine J.assign rfl rfl ?_
  refine J.nil ?_
  refine JX.thenN (hK4 _ _ ?_)
  refine JC.seqCut (α := BgS) (fun st => [(3, .pointer (some ⟨d, 0, none⟩)), (4, .int .i64 ((st.last : Nat) : Int))]) (fun st w' => (st.i ≤ 41 ∧ BgI 120 st) ∧ St w [] ((d, dkO s 120 st.σ.p st.σ.k) :: (s, dkS st.σ.B) :: []) w') (fun st => ?_) (fun K5 hK5 => ?_)
  · skip
    obtain ⟨i, last, q, σ⟩ := st
    refine JC.pr (fun hI => ?_)
    obtain ⟨hi41, hB⟩ := hI
    try simp only at hi41 ⊢
    obtain ⟨hl1, hl2, hl3, hl4, hl5, hl6, hl7⟩ := id hB
    try simp only at hl1 hl2 hl3 hl4 hl5 hl6 hl7
    refine JC.seq (fun K6 hK6 => ?_)
    refine JC.region ?_
    refine J.move rfl rfl ?_
    refine J.perm ([(d, dkO s 120 σ.p σ.k)] ++ ((s, dkS σ.B) :: [])) (by (refine perm_cnt (fun _ => ?_)); simp only [cntB_append, cntB_cons, cntB_nil, Nat.add_zero, Nat.zero_add]; try ac_rfl) ?_
    refine J.callT (v := .tuple #[]) (L := [(d, dkO s 120 (-1) σ.k)]) Ty.bd16 rfl rfl (fun w1 hw => by have h9 := power_spec d s 120 σ.p σ.k (-1) w1 (St.owns hw); rw [show max (-1) (-1) = (-1) by omega] at h9; exact h9) ?_
    refine J.nil ?_
    refine JX.thenN (hK6 _ _ ?_)
    refine JC.seq (fun K7 hK7 => ?_)
    refine JC.region ?_
    refine J.move rfl rfl ?_
    obtain ⟨σ5, hO5, hI5, -⟩ := vopen_ok (n := 120) (inc := last) (L := []) (by omega) (hl1.power (-1) (by omega)) hl2 (by omega) (by show (-1 : Int) < 0; omega) (by omega) (by omega)
    refine J.perm ([(d, dkO s 120 (-1) σ.k), (s, dkS σ.B)] ++ []) (by (refine perm_cnt (fun _ => ?_)); simp only [cntB_append, cntB_cons, cntB_nil, Nat.add_zero, Nat.zero_add]; try ac_rfl) ?_
    refine J.callS (α := VO) (V := VO.val) (Pr := fun z => z.Pr 120 ⟨σ.B, (-1), σ.k⟩) (L := fun z => z.lst d s 120) Ty.bd17 rfl rfl (fun w1 hw => vopen_spec d s 120 σ.B ((-1)) σ.k w1 (St.owns hw) hl1.len (by omega) (by omega) (by omega) (by omega)) (fun z hz => ?_)
    rcases z with ⟨ez, sz⟩ | ⟨v1, m1, l1, q1, inc1, L1, es1, ck1, sz⟩
    · exact absurd (congrArg (fun x => x.1) (hz.1.symm.trans hO5)) hz.2
    obtain ⟨hz1, hT1, hV1⟩ := hz
    have hz3 := hO5.symm.trans hz1
    simp only [Prod.mk.injEq, Option.some.injEq, true_and] at hz3
    obtain ⟨⟨rfl, rfl, -⟩, rfl⟩ := hz3
    refine J.name 56 rfl (show _ = Value.tuple #[.pointer (some ⟨v1, 0, none⟩), .int .i64 0] from rfl) ?_
    refine J.perm ((v1, vaO (.pointer (some ⟨l1, 0, none⟩)) m1 ((last + 1 : Nat) : Int)) :: (m1, .map es1 ck1) :: (l1, lgO d ⟨q.gen + 1, q.used + 1, q.cnt + 1, q.recs ++ [incB (last + 1)]⟩ false) :: (lpsH L1 ++ ((d, dkO s 120 σ5.p σ5.k) :: (s, dkS σ5.B) :: []))) (by simp only [VO.lst]; exact (by (refine perm_cnt (fun _ => ?_)); simp only [cntB_append, cntB_cons, cntB_nil, Nat.add_zero, Nat.zero_add]; try ac_rfl)) ?_
    refine J.move rfl rfl ?_
    refine J.extract rfl rfl rfl ?_
    refine J.extract rfl rfl rfl ?_
    refine J.assign rfl rfl ?_
    refine J.assign rfl rfl ?_
    refine J.nil ?_
    refine JX.thenN (hK7 _ _ ?_)
    refine JC.seq (fun K8 hK8 => ?_)
    refine JC.region ?_
    refine J.move rfl rfl ?_
    refine J.neNil Ty.u38 rfl rfl rfl ?_
    refine J.move rfl rfl ?_
    first | refine J.skip rfl rfl rfl rfl rfl ?_ | refine J.skipU rfl rfl rfl rfl ?_ | (refine J.unguard rfl rfl rfl ?_; refine J.move rfl rfl ?_)
    refine J.unguard rfl rfl rfl ?_
    refine J.callB (v := .int .i64 ((last + 1 : Nat) : Int)) (fun w1 w2 hw hb => hw.step hb) Ty.bd18 rfl rfl (fun w1 hw => inc_spec v1 m1 _ _ w1 (St.owns' hw)) ?_
    first | refine J.skip rfl rfl rfl rfl rfl ?_ | refine J.skipU rfl rfl rfl rfl ?_ | (refine J.unguard rfl rfl rfl ?_; refine J.move rfl rfl ?_)
    refine J.unguard rfl rfl rfl ?_
    refine J.bin rfl rfl rfl rfl ?_
    refine J.name 65 rfl (show _ = Value.bool true by simp; omega) ?_
    (first | refine J.pickT rfl rfl rfl ?_ | refine J.pickF rfl rfl rfl ?_)
    refine J.assign rfl rfl ?_
    refine J.nil ?_
    refine JX.thenN (hK8 _ _ ?_)
    refine JC.ret ?_
    refine JX.ret1 rfl rfl (fun w hw => ?_)
    exact ⟨rfl, (hw.drop (List.nil_sublist _)).below⟩
  · skip
    refine JC.seq (fun K9 hK9 => ?_)
    refine JC.region ?_
    refine J.move rfl rfl ?_
    refine J.lenS rfl Ty.u33 rfl rfl ?_
    refine J.move rfl rfl ?_
    refine J.nil ?_
    refine JX.thenN (hK9 _ _ ?_)
    refine JC.block ?_
    refine JC.conseq (JC.cov (f := (fun st => [(3, .pointer (some ⟨d, 0, none⟩)), (4, .int .i64 ((st.last : Nat) : Int)), (18, .slice a ks.length c), (19, .int .i64 ((ks.length : Nat) : Int)), (20, .int .i64 ((st.i : Nat) : Int))]) (⟨0, 0, ⟨0, 0, 0, []⟩, ⟨List.replicate (64 * 120) 0, -1, 0⟩⟩ : BgS)) ⟨rfl, rfl, rfl, rfl, rfl, trivial⟩ (JC.loop (α := BgS) (fun st => [(3, .pointer (some ⟨d, 0, none⟩)), (4, .int .i64 ((st.last : Nat) : Int)), (18, .slice a ks.length c), (19, .int .i64 ((ks.length : Nat) : Int)), (20, .int .i64 ((st.i : Nat) : Int))]) (fun st w' => (st.i ≤ ks.length ∧ st.i ≤ 41 ∧ BgI 120 st) ∧ St w [] ((d, dkO s 120 st.σ.p st.σ.k) :: (s, dkS st.σ.B) :: []) w') (fun st => ks.length - st.i) (⟨0, 0, ⟨0, 0, 0, []⟩, ⟨List.replicate (64 * 120) 0, -1, 0⟩⟩ : BgS) (fun st => ?_))) (fun w hw => ⟨⟨Nat.zero_le _, Nat.zero_le _, ⟨logI_zero (by omega) (by omega) _ _ (by omega), rfl, Nat.le_refl _, Nat.le_refl _, Nat.le_refl _, Int.le_refl _, Int.le_refl _⟩⟩, hw⟩)
    obtain ⟨i, last, q, σ⟩ := st
    refine JC.pr (fun hI => ?_)
    obtain ⟨hi, hi41, hB⟩ := hI
    try simp only at hi hi41 ⊢
    refine JC.seq (fun K10 hK10 => ?_)
    refine JC.region ?_
    refine J.bin rfl rfl rfl rfl ?_
    refine J.nil ?_
    refine JX.thenN (hK10 _ _ ?_)
    refine JC.seq (fun K11 hK11 => ?_)
    refine JC.cond rfl (fun h1 => ?_) (fun h1 => ?_)
    · skip
      have hlt : i < ks.length := by simp at h1; omega
      obtain ⟨ki, hki⟩ : ∃ x, ks[i]? = some x := ⟨_, List.getElem?_eq_getElem hlt⟩
      obtain ⟨b, o, rfl, hcl⟩ : ∃ b o, a = some ⟨b, o, none⟩ ∧ Cells w b o (ks.map fun k => Value.int .i64 k) := by
        rcases hra with h | h
        · have h2 := congrArg List.length h; rw [List.length_map, List.length_nil] at h2; omega
        · exact h
      have hcell : w.cell? ⟨b, o + (i : Int).toNat * 1, none⟩ = some (.int .i64 ki) := by
        rw [Int.toNat_natCast, Nat.mul_one, hcl i (by rw [List.length_map]; exact hlt), List.getElem?_map, hki]; rfl
      obtain ⟨hl1, hl2, hl3, hl4, hl5, hl6, hl7⟩ := id hB
      try simp only at hl1 hl2 hl3 hl4 hl5 hl6 hl7
      obtain ⟨j, hj, hj4⟩ : ∃ j : Nat, IntKind.u64.wrap ki % 4 = (j : Int) ∧ j < 4 := ⟨(IntKind.u64.wrap ki % 4).toNat, by rw [wrap_u64m]; omega, by omega⟩
      refine JC.skip ?_
      refine JX.thenN (hK11 _ _ ?_)
      refine JC.seq (fun K12 hK12 => ?_)
      refine JC.block ?_
      refine JC.seq (fun K13 hK13 => ?_)
      refine JC.region ?_
      refine J.move rfl rfl ?_
      refine J.indexAddrS Ty.el33 Ty.s3 rfl rfl (by omega) (by omega) rfl ?_
      refine J.loadR (v := .int .i64 ki) Ty.a3 rfl hcell (by simp) rfl ?_
      refine J.assign rfl rfl ?_
      refine J.assign rfl rfl ?_
      refine J.nil ?_
      refine JX.thenN (hK13 _ _ ?_)
      refine JC.seq (fun K14 hK14 => ?_)
      refine JC.seq (fun K15 hK15 => ?_)
      refine JC.region ?_
      refine J.move rfl rfl ?_
      refine J.bin rfl rfl rfl rfl ?_
      refine J.nil ?_
      refine JX.thenN (hK15 _ _ ?_)
      refine JC.cond rfl (fun h2 => ?_) (fun h2 => ?_)
      · skip
        try simp only [decide_eq_true_eq, decide_eq_false_iff_not, beq_iff_eq, bne_iff_ne, bne_eq_false_iff_eq, ne_eq, beq_eq_false_iff_ne, Bool.not_eq_true, Bool.not_eq_false, Int.not_lt, Int.not_le] at h2
        refine JC.exit ?_
        refine JX.thenE ?_
        refine JX.blockO rfl ?_
        refine JX.thenE ?_
        refine JX.thenE ?_
        refine JX.blockE ?_
        refine JX.thenN ?_
        exact JX.cut (hK5 ⟨i, last, q, σ⟩) ⟨rfl, rfl, trivial⟩ (fun w1 hw => ⟨⟨hi41, hB⟩, hw⟩)
      · skip
        have hi40 : i ≤ 40 := by simp at h2; omega
        refine JC.skip ?_
        refine JX.thenN (hK14 _ _ ?_)
        refine JC.seq (fun K16 hK16 => ?_)
        refine JC.region ?_
        refine J.move rfl rfl ?_
        refine J.move rfl rfl ?_
        refine J.convInt Ty.u3 Ty.u37 rfl rfl ?_
        refine J.remV rfl rfl (by rw [wrap_u64m]; omega) (by omega) rfl ?_
        refine J.name 30 rfl (show _ = Value.int .u64 ((j : Nat) : Int) from congrArg (Value.int .u64) hj) ?_
        refine J.convInt Ty.u37 Ty.u3 rfl rfl ?_
        refine J.name 31 rfl (show _ = Value.int .i64 ((j : Nat) : Int) from congrArg (Value.int .i64) (wrap_i64 (by omega) (by omega))) ?_
        refine J.perm ([(d, dkO s 120 σ.p σ.k)] ++ ((s, dkS σ.B) :: [])) (by (refine perm_cnt (fun _ => ?_)); simp only [cntB_append, cntB_cons, cntB_nil, Nat.add_zero, Nat.zero_add]; try ac_rfl) ?_
        refine J.callT (v := .tuple #[]) (L := [(d, dkO s 120 ((j : Nat) : Int) σ.k)]) Ty.bd16 rfl rfl (fun w1 hw => by have h9 := power_spec d s 120 σ.p σ.k (((j : Nat) : Int)) w1 (St.owns hw); rw [show max (((j : Nat) : Int)) (-1) = ((j : Nat) : Int) by omega] at h9; exact h9) ?_
        refine J.nil ?_
        refine JX.thenN (hK16 _ _ ?_)
        refine JC.seq (fun K17 hK17 => ?_)
        refine JC.region ?_
        refine J.move rfl rfl ?_
        obtain ⟨ez0, oz0, σz, hlaw, hkz1, hkz2, hor⟩ := vopen_law (n := 120) (inc := last) (L := []) (by omega) (hl1.power ((j : Nat) : Int) (by omega)) hl2 (by omega) (by omega)
        simp only at hkz1 hkz2
        refine J.perm ([(d, dkO s 120 ((j : Nat) : Int) σ.k), (s, dkS σ.B)] ++ []) (by (refine perm_cnt (fun _ => ?_)); simp only [cntB_append, cntB_cons, cntB_nil, Nat.add_zero, Nat.zero_add]; try ac_rfl) ?_
        refine J.callS (α := VO) (V := VO.val) (Pr := fun z => z.Pr 120 ⟨σ.B, ((j : Nat) : Int), σ.k⟩) (L := fun z => z.lst d s 120) Ty.bd17 rfl rfl (fun w1 hw => vopen_spec d s 120 σ.B (((j : Nat) : Int)) σ.k w1 (St.owns hw) hl1.len (by omega) (by omega) (by omega) (by omega)) (fun z hz => ?_)
        rcases z with ⟨ez, sz⟩ | ⟨v1, m1, l1, q1, inc1, L1, es1, ck1, sz⟩
        · skip
          obtain ⟨hz1, hz2⟩ := hz
          have hz3 := hlaw.symm.trans hz1
          simp only [Prod.mk.injEq] at hz3
          obtain ⟨rfl, rfl, rfl⟩ := hz3
          obtain ⟨-, -, hlz⟩ : _ ∧ _ ∧ LogI 120 q σz := by
            rcases hor with ⟨h1, _⟩ | h1
            · exact absurd h1 hz2
            · exact h1
          have hB2 := hB.bad hlz hkz1 hkz2
          try simp only at hB2
          refine J.name 35 rfl (show _ = Value.tuple #[.pointer none, .int .i64 ez0] from rfl) ?_
          refine J.perm ((d, dkO s 120 σz.p σz.k) :: (s, dkS σz.B) :: []) (by simp only [VO.lst]; exact (by (refine perm_cnt (fun _ => ?_)); simp only [cntB_append, cntB_cons, cntB_nil, Nat.add_zero, Nat.zero_add]; try ac_rfl)) ?_
          refine J.move rfl rfl ?_
          refine J.extract rfl rfl rfl ?_
          refine J.extract rfl rfl rfl ?_
          refine J.assign rfl rfl ?_
          refine J.assign rfl rfl ?_
          refine J.nil ?_
          refine JX.thenN (hK17 _ _ ?_)
          refine JC.seq (fun K18 hK18 => ?_)
          refine JC.seq (fun K19 hK19 => ?_)
          refine JC.region ?_
          refine J.move rfl rfl ?_
          refine J.eqNil Ty.u38 rfl rfl rfl ?_
          refine J.move rfl rfl ?_
          refine J.bin rfl rfl rfl rfl ?_
          refine J.name 41 rfl (show _ = Value.bool true by simp [hz2]) ?_
          refine J.eqBool (.inr rfl) Ty.u4 rfl rfl rfl ?_
          refine J.name 42 rfl (show _ = Value.bool false from rfl) ?_
          refine J.nil ?_
          refine JX.thenN (hK19 _ _ ?_)
          first | refine JC.condF rfl ?_ | refine JC.cond rfl (fun h => by first | (exfalso; simp at h; omega) | (simp at h)) (fun _ => ?_)
          refine JC.skip ?_
          refine JX.thenN (hK18 _ _ ?_)
          refine JC.seq (fun K20 hK20 => ?_)
          refine JC.region ?_
          refine J.move rfl rfl ?_
          refine J.neNil Ty.u38 rfl rfl rfl ?_
          refine J.nil ?_
          refine JX.thenN (hK20 _ _ ?_)
          first | refine JC.condF rfl ?_ | refine JC.cond rfl (fun h => by first | (exfalso; simp at h; omega) | (simp at h)) (fun _ => ?_)
          refine JC.skip ?_
          refine JX.blockN ?_
          refine JX.thenN (hK12 _ _ ?_)
          refine JC.region ?_
          (first | refine J.addN rfl rfl (by omega) (by omega) rfl ?_ | refine J.bin rfl rfl rfl rfl ?_)
          refine J.move rfl rfl ?_
          refine J.nil ?_
          refine JX.thenN ?_
          refine JX.again (⟨i + 1, last, q, σz⟩ : BgS) ?_ ?_ ?_
          · simp only; omega
          · exact ⟨rfl, rfl, rfl, rfl, rfl, trivial⟩
          · exact fun w1 hw => ⟨⟨hlt, by simp only; omega, hB2⟩, hw⟩
        · skip
          obtain ⟨hz1, hT1, hV1⟩ := hz
          have hz3 := hlaw.symm.trans hz1
          simp only [Prod.mk.injEq] at hz3
          obtain ⟨rfl, hz4, rfl⟩ := hz3
          obtain ⟨hz5, hlz⟩ : oz0 = some (⟨q.gen + 1, q.used + 1, q.cnt + 1, q.recs ++ [incB (last + 1)]⟩, last + 1, []) ∧ LogI 120 ⟨q.gen + 1, q.used + 1, q.cnt + 1, q.recs ++ [incB (last + 1)]⟩ σz := by
            rcases hor with ⟨_, h1⟩ | ⟨h1, _⟩
            · exact h1
            · exact absurd rfl h1
          have hz6 := hz5.symm.trans hz4
          simp only [Option.some.injEq, Prod.mk.injEq] at hz6
          obtain ⟨rfl, rfl, hL⟩ := hz6
          have hB2 := hB.ok hlz (by simp only; omega) hkz1 hkz2
          try simp only at hB2
          refine J.name 35 rfl (show _ = Value.tuple #[.pointer (some ⟨v1, 0, none⟩), .int .i64 0] from rfl) ?_
          refine J.perm ((v1, vaO (.pointer (some ⟨l1, 0, none⟩)) m1 ((last + 1 : Nat) : Int)) :: (m1, .map es1 ck1) :: (l1, lgO d ⟨q.gen + 1, q.used + 1, q.cnt + 1, q.recs ++ [incB (last + 1)]⟩ false) :: (lpsH L1 ++ ((d, dkO s 120 σz.p σz.k) :: (s, dkS σz.B) :: []))) (by simp only [VO.lst]; exact (by (refine perm_cnt (fun _ => ?_)); simp only [cntB_append, cntB_cons, cntB_nil, Nat.add_zero, Nat.zero_add]; try ac_rfl)) ?_
          refine J.move rfl rfl ?_
          refine J.extract rfl rfl rfl ?_
          refine J.extract rfl rfl rfl ?_
          refine J.assign rfl rfl ?_
          refine J.assign rfl rfl ?_
          refine J.nil ?_
          refine JX.thenN (hK17 _ _ ?_)
          refine JC.seq (fun K21 hK21 => ?_)
          refine JC.seq (fun K22 hK22 => ?_)
          refine JC.region ?_
          refine J.move rfl rfl ?_
          refine J.eqNil Ty.u38 rfl rfl rfl ?_
          refine J.move rfl rfl ?_
          refine J.bin rfl rfl rfl rfl ?_
          refine J.name 41 rfl (show _ = Value.bool false by simp) ?_
          refine J.eqBool (.inr rfl) Ty.u4 rfl rfl rfl ?_
          refine J.name 42 rfl (show _ = Value.bool false from rfl) ?_
          refine J.nil ?_
          refine JX.thenN (hK22 _ _ ?_)
          first | refine JC.condF rfl ?_ | refine JC.cond rfl (fun h => by first | (exfalso; simp at h; omega) | (simp at h)) (fun _ => ?_)
          refine JC.skip ?_
          refine JX.thenN (hK21 _ _ ?_)
          refine JC.seq (fun K23 hK23 => ?_)
          refine JC.region ?_
          refine J.move rfl rfl ?_
          refine J.neNil Ty.u38 rfl rfl rfl ?_
          refine J.nil ?_
          refine JX.thenN (hK23 _ _ ?_)
          first | refine JC.condT rfl ?_ | refine JC.cond rfl (fun _ => ?_) (fun h => by first | (exfalso; simp at h; omega) | (simp at h))
          refine JC.seq (fun K24 hK24 => ?_)
          refine JC.seq (fun K25 hK25 => ?_)
          refine JC.region ?_
          refine J.move rfl rfl ?_
          refine J.callB (v := .int .i64 ((last + 1 : Nat) : Int)) (fun w1 w2 hw hb => hw.step hb) Ty.bd18 rfl rfl (fun w1 hw => inc_spec v1 m1 _ _ w1 (St.owns' hw)) ?_
          refine J.move rfl rfl ?_
          refine J.bin rfl rfl rfl rfl ?_
          refine J.name 48 rfl (show _ = Value.bool false by simp; omega) ?_
          refine J.nil ?_
          refine JX.thenN (hK25 _ _ ?_)
          first | refine JC.condF rfl ?_ | refine JC.cond rfl (fun h => by first | (exfalso; simp at h; omega) | (simp at h)) (fun _ => ?_)
          refine JC.skip ?_
          refine JX.thenN (hK24 _ _ ?_)
          refine JC.region ?_
          refine J.move rfl rfl ?_
          refine J.callB (v := .int .i64 ((last + 1 : Nat) : Int)) (fun w1 w2 hw hb => hw.step hb) Ty.bd18 rfl rfl (fun w1 hw => inc_spec v1 m1 _ _ w1 (St.owns' hw)) ?_
          refine J.assign rfl rfl ?_
          refine J.nil ?_
          refine JX.blockN ?_
          refine JX.thenN (hK12 _ _ ?_)
          refine JC.region ?_
          (first | refine J.addN rfl rfl (by omega) (by omega) rfl ?_ | refine J.bin rfl rfl rfl rfl ?_)
          refine J.move rfl rfl ?_
          refine J.nil ?_
          refine JX.thenN ?_
          refine JX.again (⟨i + 1, last + 1, ⟨q.gen + 1, q.used + 1, q.cnt + 1, q.recs ++ [incB (last + 1)]⟩, σz⟩ : BgS) ?_ ?_ ?_
          · simp only; omega
          · exact ⟨rfl, rfl, rfl, rfl, rfl, trivial⟩
          · exact fun w1 hw => ⟨⟨hlt, by simp only; omega, hB2⟩, (hw.perm (by (refine perm_cnt (fun _ => ?_)); simp only [cntB_append, cntB_cons, cntB_nil, Nat.add_zero, Nat.zero_add]; try ac_rfl : List.Perm _ (((v1, vaO (.pointer (some ⟨l1, 0, none⟩)) m1 ((last + 1 : Nat) : Int)) :: (m1, .map es1 ck1) :: (l1, lgO d ⟨q.gen + 1, q.used + 1, q.cnt + 1, q.recs ++ [incB (last + 1)]⟩ false) :: lpsH L1) ++ ((d, dkO s 120 σz.p σz.k) :: (s, dkS σz.B) :: [])))).drop (List.sublist_append_right _ _)⟩
    · skip
      try simp only [decide_eq_true_eq, decide_eq_false_iff_not, beq_iff_eq, bne_iff_ne, bne_eq_false_iff_eq, ne_eq, beq_eq_false_iff_ne, Bool.not_eq_true, Bool.not_eq_false, Int.not_lt, Int.not_le] at h1
      refine JC.exit ?_
      refine JX.thenE ?_
      refine JX.thenE ?_
      refine JX.blockE ?_
      refine JX.thenN ?_
      exact JX.cut (hK5 ⟨i, last, q, σ⟩) ⟨rfl, rfl, trivial⟩ (fun w1 hw => ⟨⟨hi41, hB⟩, hw⟩)

theorem ints_map (xs : List Int) : xs.flatMap (fun k => [Value.int .i64 k]) = xs.map (fun k => Value.int .i64 k) := by
  induction xs with
  | nil => rfl
  | cons k xs ih => rw [List.flatMap_cons, List.map_cons, ih]; rfl
theorem vaultBegins_walk (w : World) (x : Sl Int) (hx : RSl 1 8 (RInt .i64) w [x.v] x) :
    Calls Try.prog 4 [x.v].toArray w fun r w' => r = .returned (.bool true) ∧ Bel w w' :=
  vaultBeginsL_spec x.v x.xs w (by have h := rslG (c := fun k => [Value.int .i64 k]) (sz := 1) (fun _ => rfl) (by omega) (fun _ _ _ h => h.1) hx; rwa [ints_map] at h)
end Go.Proofs.Ytoaenmlhehcjfaa
