/-
  TableParts: the walk.
-/
import Derived.Test.YtpldpkdlloolkaaUk
namespace Go.Proofs.Ytpldpkdlloolkaa
open Go.J Go.RowKit
set_option linter.unusedVariables false
set_option linter.unusedSimpArgs false
set_option maxRecDepth 4000
def wa (x : EV) : Nat := if 0 ≤ x.na then 1 else 0
def wb (x : EV) : Nat := if 0 ≤ x.nb then 1 else 0
def viaS (O : List EV) : Nat → Nat
  | 0 => 0
  | k + 1 => viaS O k + (O.filter (viaB ((k : Int) - 1))).length
def wantS : List EV → Nat
  | [] => 0
  | x :: l => wa x + wb x + wantS l
theorem viaS_nil : ∀ k, viaS [] k = 0
  | 0 => rfl
  | k + 1 => by rw [viaS, viaS_nil k]; rfl
def bN (b : Bool) : Nat := if b then 1 else 0
def viaX (x : EV) : Nat → Nat
  | 0 => 0
  | k + 1 => viaX x k + bN (viaB ((k : Int) - 1) x)
theorem viaS_cons (x : EV) (l : List EV) : ∀ k, viaS (x :: l) k = viaX x k + viaS l k
  | 0 => rfl
  | k + 1 => by
    rw [viaS, viaS, viaX, viaS_cons x l k, List.filter_cons]
    unfold bN
    cases viaB ((k : Int) - 1) x <;> simp <;> omega
theorem viaX_8 {x : EV} (h : rightP x) : viaX x 8 = wa x + wb x := by
  obtain ⟨_, ⟨h1, h2⟩, ⟨h3, h4⟩, h5⟩ := h
  have e1 : x.na = -1 ∨ x.na = 0 ∨ x.na = 1 ∨ x.na = 2 ∨ x.na = 3 ∨ x.na = 4 ∨ x.na = 5 := by omega
  have e2 : x.nb = -1 ∨ x.nb = 0 ∨ x.nb = 1 ∨ x.nb = 2 ∨ x.nb = 3 ∨ x.nb = 4 ∨ x.nb = 5 := by omega
  rcases e1 with e | e | e | e | e | e | e <;> rcases e2 with f | f | f | f | f | f | f <;> first | (exact absurd (e.trans f.symm) h5) | (simp only [viaX, viaB, wa, wb, bN, e, f]; rfl)
theorem viaS_8 : ∀ {O : List EV}, (∀ x, x ∈ O → rightP x) → viaS O 8 = wantS O
  | [], _ => viaS_nil 8
  | x :: l, h => by rw [viaS_cons, viaX_8 (h x (.head _)), viaS_8 (fun y hy => h y (.tail _ hy))]; rfl
theorem wantS_snoc {O : List EV} {i : Nat} {x : EV} (h : O[i]? = some x) : wantS (O.take (i + 1)) = wantS (O.take i) + wa x + wb x := by
  rw [take_snocE h]
  have : ∀ l : List EV, wantS (l ++ [x]) = wantS l + wa x + wb x := by
    intro l
    induction l with
    | nil => simp [wantS]
    | cons y l ih => simp only [List.cons_append, wantS, ih]; omega
  exact this _
theorem viaS_le (O : List EV) : ∀ k, viaS O k ≤ k * O.length
  | 0 => by simp [viaS]
  | k + 1 => by
    have := viaS_le O k
    have h2 := List.length_filter_le (viaB ((k : Int) - 1)) O
    rw [viaS, Nat.add_mul]
    omega
theorem wantS_le : ∀ O : List EV, wantS O ≤ 2 * O.length
  | [] => Nat.le_refl _
  | x :: l => by
    have := wantS_le l
    have h1 : wa x ≤ 1 := by unfold wa; split <;> omega
    have h2 : wb x ≤ 1 := by unfold wb; split <;> omega
    simp only [wantS, List.length_cons]
    omega
theorem count_oneE {O : List EV} (hn : O.Nodup) {x : EV} (hx : x ∈ O) {p : EV → Bool} (hp : p x = true) : (O.filter p).countP (fun y => decide (y = x)) = 1 := by
  rw [List.countP_filter]
  have : O.countP (fun a => decide (a = x) && p a) = O.countP (fun a => a == x) := by
    refine List.countP_congr fun a _ => ?_
    simp only [Bool.and_eq_true, decide_eq_true_eq, beq_iff_eq]
    exact ⟨fun h => h.1, fun h => ⟨h, by rw [h]; exact hp⟩⟩
  rw [this]
  exact (List.Nodup.count hn).trans (if_pos hx)
theorem ordE_nodup {L : List EV} {es : Array MapEntry} {clock : Nat} (hT : Tab L es clock) : (ordE L).Nodup :=
  (ordE_perm L).nodup_iff.2 (hT.dist.imp fun h e => h (by rw [e]))
theorem found_two {L : List EV} {es : Array MapEntry} {clock : Nat} (hT : Tab L es clock) {x : EV} (hx : x ∈ ordE L) : ((ordE L).filter (toB x.a) ++ (ordE L).filter (toB x.b)).countP (fun y => decide (y = x)) = 2 := by
  rw [List.countP_append, count_oneE (ordE_nodup hT) hx (by simp [toB]), count_oneE (ordE_nodup hT) hx (by simp [toB])]
theorem countE_step {p : EV → Bool} {L : List EV} {k : Nat} {y : EV} (h : L[k]? = some y) : (L.take (k + 1)).countP p = (L.take k).countP p + bN (p y) := by
  rw [take_snocE h, List.countP_append, List.countP_singleton]
  rfl
theorem via_mem {n : Int} {x : EV} (h : viaB n x = true) : x.na = n ∨ x.nb = n := by
  unfold viaB at h
  simp at h
  exact h.2

set_option maxHeartbeats 1000000 in
theorem tableParts_spec (v : Value) (xs : List EV) (w : World) (hrv : Row w v xs.length (fE xs)) (hok : ∀ x, x ∈ xs → okE x) (hxl : xs.length ≤ 1954687338213) :
    Calls Try.prog 6 [v].toArray w fun r w' => r = .returned (.bool true) ∧ Bel w w' := by
  obtain ⟨av, cv, rfl, hcv, _⟩ := id hrv
  refine calls_of_J (args := [.slice av xs.length cv]) (e := [(0, .slice av xs.length cv)]) Try.func6 rfl rfl ⟨rfl, trivial⟩ (St.start w) ?_
  refine JC.seq (fun K0 hK0 => ?_)
  refine JC.region ?_
  refine J.assign rfl rfl ?_
  refine J.nil ?_
  refine JX.thenN (hK0 _ _ ?_)
  refine JC.seq (fun K1 hK1 => ?_)
  refine JC.region ?_
  refine J.perm ([] ++ ([])) (.refl _) ?_
  refine J.callS (α := Nat × Nat) (V := fun x => .pointer (some ⟨x.1, 0, none⟩)) (Pr := fun _ => True) (L := fun x => [(x.1, tabO (min (max (128) 0) 128) x.2), (x.2, .map #[] 0)]) (l1 := []) Ty.bd16 rfl rfl (fun w1 hw => (new_spec 128 w1).mono fun _ _ ⟨x, h1, h2⟩ => ⟨x, h1, trivial, h2⟩) (fun x _ => ?_)
  obtain ⟨t1, m1⟩ := x
  simp only [List.cons_append, List.nil_append]
  rw [show min (max (128 : Int) 0) 128 = 128 by decide]
  refine J.assign rfl rfl ?_
  refine J.nil ?_
  refine JX.thenN (hK1 _ _ ?_)
  refine JC.seq (fun K2 hK2 => ?_)
  refine JC.seq (fun K3 hK3 => ?_)
  refine JC.region ?_
  refine J.move rfl rfl ?_
  refine J.eqNil Ty.u29 rfl rfl rfl ?_
  refine J.move rfl rfl ?_
  first
    | (refine J.skip rfl rfl rfl rfl rfl ?_)
    | (refine J.skipU rfl rfl rfl rfl ?_)
    | (refine J.unguard rfl rfl rfl ?_; refine J.callB (v := .bool true) (fun w1 w2 hw hb => hw.step hb) Ty.bd24 rfl rfl (fun w1 hw => fixed12_spec w1) ?_)
  first
    | (refine J.skip rfl rfl rfl rfl rfl ?_)
    | (refine J.skipU rfl rfl rfl rfl ?_)
    | (refine J.unguard rfl rfl rfl ?_; refine J.not rfl rfl ?_)
  (first | refine J.pickT rfl rfl rfl ?_ | refine J.pickF rfl rfl rfl ?_)
  refine J.nil ?_
  refine JX.thenN (hK3 _ _ ?_)
  first | refine JC.condF rfl ?_ | refine JC.cond rfl (fun h => by first | (exfalso; simp at h; omega) | (simp at h)) (fun _ => ?_)
  refine JC.skip ?_
  refine JX.thenN (hK2 _ _ ?_)
  refine JC.seq (fun K4 hK4 => ?_)
  refine JC.seq (fun K5 hK5 => ?_)
  refine JC.region ?_
  refine J.move rfl rfl ?_
  refine J.lenS rfl Ty.u62 rfl rfl ?_
  refine J.move rfl rfl ?_
  refine J.nil ?_
  refine JX.thenN (hK5 _ _ ?_)
  refine JC.block ?_
  refine JC.conseq (JC.cov (f := (fun st => [(3, .pointer (some ⟨t1, 0, none⟩)), (23, .slice av xs.length cv), (24, .int .i64 ((xs.length : Nat) : Int)), (25, .int .i64 ((st.1 : Nat) : Int))]) ((0, #[], 0) : Nat × Array MapEntry × Nat)) ⟨rfl, rfl, rfl, rfl, trivial⟩ (JC.loop (α := Nat × Array MapEntry × Nat) (fun st => [(3, .pointer (some ⟨t1, 0, none⟩)), (23, .slice av xs.length cv), (24, .int .i64 ((xs.length : Nat) : Int)), (25, .int .i64 ((st.1 : Nat) : Int))]) (fun st w' => (st.1 ≤ xs.length ∧ Tab (laidL 128 (xs.take st.1)) st.2.1 st.2.2) ∧ St w [] ((t1, tabO 128 m1) :: (m1, .map st.2.1 st.2.2) :: []) w') (fun st => xs.length - st.1) ((0, #[], 0) : Nat × Array MapEntry × Nat) (fun st => ?_))) (fun w hw => ⟨⟨Nat.zero_le _, Tab.nil⟩, hw⟩)
  obtain ⟨i, es, ck⟩ := st
  refine JC.pr (fun hx1 => ?_)
  obtain ⟨hi, hT⟩ := hx1
  simp only at hi hT ⊢
  refine JC.seq (fun K6 hK6 => ?_)
  refine JC.region ?_
  refine J.bin rfl rfl rfl rfl ?_
  refine J.nil ?_
  refine JX.thenN (hK6 _ _ ?_)
  refine JC.seq (fun K7 hK7 => ?_)
  refine JC.cond rfl (fun h1 => ?_) (fun h1 => ?_)
  · skip
    have hlt : i < xs.length := by simp at h1; omega
    have hflx := fE_length xs
    have hclx := (Row.some hrv (by omega))
    obtain ⟨qx, ox, cx', hqe, _, _⟩ := hclx
    simp only [Value.slice.injEq] at hqe
    obtain ⟨rfl, _, rfl⟩ := hqe
    obtain ⟨xa, hxa⟩ : ∃ x, xs[i]? = some x := ⟨_, List.getElem?_eq_getElem hlt⟩
    have hxo := hok xa (List.mem_of_getElem? hxa)
    refine JC.skip ?_
    refine JX.thenN (hK7 _ _ ?_)
    refine JC.seq (fun K8 hK8 => ?_)
    refine JC.block ?_
    refine JC.seq (fun K9 hK9 => ?_)
    refine JC.region ?_
    refine J.indexAddrS Ty.el62 Ty.s34 rfl rfl (by omega) (by omega) rfl ?_
    refine J.loadA (vs := cE xa) Ty.a34 Ty.s34 rfl rfl (fun w1 hw => rowE_at (hrv.below (hw.drop (List.nil_sublist _)).below) hxa (by omega)) rfl ?_
    refine J.alloc Ty.zE_ rfl rfl (fun b5 => ?_)
    refine J.storeW (cs := cE zE) (vs := cE xa) Ty.s34 rfl rfl rfl rfl rfl (one_cE _) .here ?_
    refine J.nil ?_
    refine JX.thenN (hK9 _ _ ?_)
    refine JC.region ?_
    refine J.move rfl rfl ?_
    refine J.loadOA (vs := cE xa) Ty.a34 Ty.s34 rfl (.head _) rfl rfl rfl ?_
    refine J.perm ([(t1, tabO 128 m1), (m1, .map es ck)] ++ ((b5, cb (cE xa) 34) :: [])) (by (refine perm_cnt (fun _ => ?_)); simp only [cntB_append, cntB_cons, cntB_nil, Nat.add_zero, Nat.zero_add]; try ac_rfl) ?_
    refine J.callS (α := Array MapEntry × Nat) (V := fun _ => .int .i64 (tadd (laidL 128 (xs.take i)) 128 xa).1) (Pr := fun y => Tab (tadd (laidL 128 (xs.take i)) 128 xa).2 y.1 y.2) (L := fun y => [(t1, tabO 128 m1), (m1, .map y.1 y.2)]) (l1 := [(t1, tabO 128 m1), (m1, .map es ck)]) Ty.bd17 rfl rfl (fun w1 hw => (add_spec t1 m1 128 (laidL 128 (xs.take i)) es ck w1 hw.owns hT xa hxo).mono fun _ _ ⟨y, h1, h2, h3⟩ => ⟨y, h1, h2, h3⟩) (fun y hT2 => ?_)
    obtain ⟨es2, ck2⟩ := y
    simp only [List.cons_append, List.nil_append] at hT2 ⊢
    refine J.nil ?_
    refine JX.blockN ?_
    refine JX.thenN (hK8 _ _ ?_)
    refine JC.region ?_
    (first | refine J.addN rfl rfl (by omega) (by omega) rfl ?_ | refine J.bin rfl rfl rfl rfl ?_)
    refine J.move rfl rfl ?_
    refine J.nil ?_
    refine JX.thenN ?_
    refine JX.again ((i + 1, es2, ck2) : Nat × Array MapEntry × Nat) ?_ ?_ ?_
    · simp only; omega
    · exact ⟨rfl, rfl, rfl, rfl, trivial⟩
    · exact fun w1 hw => ⟨⟨hlt, by rw [take_snocE hxa, laidL_snoc]; exact hT2⟩, hw.drop (.cons_cons _ (.cons_cons _ (List.sublist_cons_self _ _)))⟩
  · skip
    have hge : i = xs.length := by simp at h1; omega
    rw [List.take_of_length_le (by omega)] at hT
    obtain ⟨L, hLe⟩ : ∃ L, laidL 128 xs = L := ⟨_, rfl⟩
    have hgood := laidL_good 128 xs
    rw [hLe] at hT hgood
    have hL128 := hgood.len
    have hol := (ordE_perm L).length_eq
    have hol2 : (ordE L).length ≤ 128 := by rw [hol]; omega
    have horg : ∀ x, x ∈ ordE L → rightP x := fun x hx => hgood.right x ((ordE_perm L).mem_iff.1 hx)
    refine JC.exit ?_
    refine JX.thenE ?_
    refine JX.thenE ?_
    refine JX.blockE ?_
    refine JX.thenN (hK4 _ _ ?_)
    refine JC.seq (fun K10 hK10 => ?_)
    refine JC.region ?_
    refine J.assign rfl rfl ?_
    refine J.nil ?_
    refine JX.thenN (hK10 _ _ ?_)
    refine JC.seq (fun K11 hK11 => ?_)
    refine JC.seq (fun K12 hK12 => ?_)
    refine JC.region ?_
    refine J.assign rfl rfl ?_
    refine J.nil ?_
    refine JX.thenN (hK12 _ _ ?_)
    refine JC.block ?_
    refine JC.conseq (JC.cov (f := (fun k => [(3, .pointer (some ⟨t1, 0, none⟩)), (6, .int .i64 ((viaS (ordE L) k : Nat) : Int)), (7, .int .i64 (((k : Nat) : Int) - 1))]) 0) ⟨rfl, rfl, rfl, trivial⟩ (JC.loop (α := Nat) (fun k => [(3, .pointer (some ⟨t1, 0, none⟩)), (6, .int .i64 ((viaS (ordE L) k : Nat) : Int)), (7, .int .i64 (((k : Nat) : Int) - 1))]) (fun k w' => (k ≤ 8) ∧ St w [] ((t1, tabO 128 m1) :: (m1, .map es ck) :: []) w') (fun k => 8 - k) 0 (fun k => ?_))) (fun w hw => ⟨by omega, hw⟩)
    refine JC.pr (fun hk8 => ?_)
    have hvk := viaS_le (ordE L) k
    have hvk2 : viaS (ordE L) k ≤ 1024 := Nat.le_trans hvk (by have := Nat.mul_le_mul hk8 hol2; omega)
    refine JC.seq (fun K13 hK13 => ?_)
    refine JC.seq (fun K14 hK14 => ?_)
    refine JC.region ?_
    refine J.move rfl rfl ?_
    refine J.bin rfl rfl rfl rfl ?_
    refine J.nil ?_
    refine JX.thenN (hK14 _ _ ?_)
    refine JC.cond rfl (fun h2 => ?_) (fun h2 => ?_)
    · skip
      have hk7 : k < 8 := by simp at h2; omega
      refine JC.skip ?_
      refine JX.thenN (hK13 _ _ ?_)
      refine JC.seq (fun K15 hK15 => ?_)
      refine JC.block ?_
      refine JC.seq (fun K16 hK16 => ?_)
      refine JC.region ?_
      refine J.move rfl rfl ?_
      refine J.move rfl rfl ?_
      refine J.perm ([] ++ ((t1, tabO 128 m1) :: (m1, .map es ck) :: [])) (.refl _) ?_
      refine J.callS (α := Value × List (Nat × Obj)) (V := (·.1)) (Pr := fun x => Vec 34 51 x.1 ((ordE L).filter (viaB (((k : Nat) : Int) - 1))).length (fE ((ordE L).filter (viaB (((k : Nat) : Int) - 1)))) x.2) (L := (·.2)) (l1 := []) Ty.bd27 rfl rfl (fun w1 hw => via_spec t1 m1 128 (L) es ck w1 (hw.own _ (.head _)) (hw.own _ (.tail _ (.head _))) hT (by omega) (((k : Nat) : Int) - 1)) (fun x hvv => ?_)
      obtain ⟨vv, lv⟩ := x
      simp only at hvv ⊢
      obtain ⟨av2, cv2, rfl, hcv2⟩ := hvv.form
      have hfl := List.length_filter_le (viaB (((k : Nat) : Int) - 1)) (ordE L)
      refine J.lenS rfl Ty.u62 rfl rfl ?_
      refine J.move rfl rfl ?_
      refine J.nil ?_
      refine JX.thenN (hK16 _ _ ?_)
      refine JC.block ?_
      refine JC.conseq (JC.cov (f := (fun j => [(3, .pointer (some ⟨t1, 0, none⟩)), (6, .int .i64 ((viaS (ordE L) k + j : Nat) : Int)), (7, .int .i64 (((k : Nat) : Int) - 1)), (39, .slice av2 ((ordE L).filter (viaB (((k : Nat) : Int) - 1))).length cv2), (40, .int .i64 ((((ordE L).filter (viaB (((k : Nat) : Int) - 1))).length : Nat) : Int)), (41, .int .i64 ((j : Nat) : Int))]) 0) ⟨rfl, rfl, rfl, rfl, rfl, rfl, trivial⟩ (JC.loop (α := Nat) (fun j => [(3, .pointer (some ⟨t1, 0, none⟩)), (6, .int .i64 ((viaS (ordE L) k + j : Nat) : Int)), (7, .int .i64 (((k : Nat) : Int) - 1)), (39, .slice av2 ((ordE L).filter (viaB (((k : Nat) : Int) - 1))).length cv2), (40, .int .i64 ((((ordE L).filter (viaB (((k : Nat) : Int) - 1))).length : Nat) : Int)), (41, .int .i64 ((j : Nat) : Int))]) (fun j w' => (j ≤ ((ordE L).filter (viaB (((k : Nat) : Int) - 1))).length) ∧ St w [] (lv ++ ((t1, tabO 128 m1) :: (m1, .map es ck) :: [])) w') (fun j => ((ordE L).filter (viaB (((k : Nat) : Int) - 1))).length - j) 0 (fun j => ?_))) (fun w hw => ⟨Nat.zero_le _, hw⟩)
      refine JC.pr (fun hj => ?_)
      refine JC.seq (fun K17 hK17 => ?_)
      refine JC.region ?_
      refine J.bin rfl rfl rfl rfl ?_
      refine J.nil ?_
      refine JX.thenN (hK17 _ _ ?_)
      refine JC.seq (fun K18 hK18 => ?_)
      refine JC.cond rfl (fun h3 => ?_) (fun h3 => ?_)
      · skip
        have hltj : j < ((ordE L).filter (viaB (((k : Nat) : Int) - 1))).length := by simp at h3; omega
        obtain ⟨qv, spv, rfl, rfl, hsv, hcv3⟩ := vec_pos hvv (by omega)
        obtain ⟨ye, hye⟩ : ∃ y, ((ordE L).filter (viaB (((k : Nat) : Int) - 1)))[j]? = some y := ⟨_, List.getElem?_eq_getElem hltj⟩
        have hvm := via_mem (List.mem_filter.1 (List.mem_of_getElem? hye)).2
        refine JC.skip ?_
        refine JX.thenN (hK18 _ _ ?_)
        refine JC.seq (fun K19 hK19 => ?_)
        refine JC.block ?_
        refine JC.seq (fun K20 hK20 => ?_)
        refine JC.region ?_
        refine J.indexAddrS Ty.el62 Ty.s34 rfl rfl (by omega) (by omega) rfl ?_
        refine J.loadA (vs := cE ye) Ty.a34 Ty.s34 rfl rfl (fun w1 hw => rowE_at (o := 0) (vec_rowM hvv hw (fun q hq => by first | (simp [hq]; done) | (simp at hq; simp [hq]; done) | (simp at hq; subst hq; simp))) hye (by omega)) rfl ?_
        refine J.alloc Ty.zE_ rfl rfl (fun b9 => ?_)
        refine J.storeW (cs := cE zE) (vs := cE ye) Ty.s34 rfl rfl rfl rfl rfl (one_cE _) .here ?_
        refine J.nil ?_
        refine JX.thenN (hK20 _ _ ?_)
        refine JC.seq (fun K21 hK21 => ?_)
        refine JC.region ?_
        refine J.move rfl rfl ?_
        refine J.addN rfl rfl (by omega) (by omega) rfl ?_
        refine J.name 46 rfl (show _ = .int .i64 ((viaS (ordE L) k + (j + 1) : Nat) : Int) by first | (congr 1; omega) | congr 1 | rfl) ?_
        refine J.assign rfl rfl ?_
        refine J.nil ?_
        refine JX.thenN (hK21 _ _ ?_)
        refine JC.seq (fun K22 hK22 => ?_)
        by_cases hya : ¬ ye.na = ((k : Nat) : Int) - 1
        · skip
          refine JC.region ?_
          refine J.fieldAddr Ty.fd34_3 rfl rfl ?_
          (first | refine J.loadO Ty.a3 rfl (.head _) rfl rfl ?_ | refine J.loadO Ty.a3 rfl (.tail _ (.head _)) rfl rfl ?_ | refine J.loadO Ty.a3 rfl (.tail _ (.tail _ (.head _))) rfl rfl ?_ | refine J.loadO Ty.a3 rfl (.tail _ (.tail _ (.tail _ (.head _)))) rfl rfl ?_ | refine J.loadO Ty.a3 rfl (.tail _ (.tail _ (.tail _ (.tail _ (.head _))))) rfl rfl ?_ | refine J.loadO Ty.a3 rfl (.tail _ (.tail _ (.tail _ (.tail _ (.tail _ (.head _)))))) rfl rfl ?_ | refine J.loadO Ty.a3 rfl (.tail _ (.tail _ (.tail _ (.tail _ (.tail _ (.tail _ (.head _))))))) rfl rfl ?_ | refine J.loadO Ty.a3 rfl (.tail _ (.tail _ (.tail _ (.tail _ (.tail _ (.tail _ (.tail _ (.head _)))))))) rfl rfl ?_ | refine J.loadO Ty.a3 rfl (.tail _ (.tail _ (.tail _ (.tail _ (.tail _ (.tail _ (.tail _ (.tail _ (.head _))))))))) rfl rfl ?_ | refine J.loadO Ty.a3 rfl (.tail _ (.tail _ (.tail _ (.tail _ (.tail _ (.tail _ (.tail _ (.tail _ (.tail _ (.head _)))))))))) rfl rfl ?_ | refine J.loadO Ty.a3 rfl (.tail _ (.tail _ (.tail _ (.tail _ (.tail _ (.tail _ (.tail _ (.tail _ (.tail _ (.tail _ (.head _))))))))))) rfl rfl ?_ | refine J.loadO Ty.a3 rfl (.tail _ (.tail _ (.tail _ (.tail _ (.tail _ (.tail _ (.tail _ (.tail _ (.tail _ (.tail _ (.tail _ (.head _)))))))))))) rfl rfl ?_ | refine J.loadO Ty.a3 rfl (List.mem_append_right _ (.head _)) rfl rfl ?_ | refine J.loadO Ty.a3 rfl (List.mem_append_right _ (.tail _ (.head _))) rfl rfl ?_ | refine J.loadO Ty.a3 rfl (List.mem_append_right _ (.tail _ (.tail _ (.head _)))) rfl rfl ?_ | refine J.loadO Ty.a3 rfl (List.mem_append_right _ (.tail _ (.tail _ (.tail _ (.head _))))) rfl rfl ?_ | refine J.loadO Ty.a3 rfl (List.mem_append_right _ (.tail _ (.tail _ (.tail _ (.tail _ (.head _)))))) rfl rfl ?_ | refine J.loadO Ty.a3 rfl (List.mem_append_right _ (.tail _ (.tail _ (.tail _ (.tail _ (.tail _ (.head _))))))) rfl rfl ?_ | refine J.loadO Ty.a3 rfl (List.mem_append_right _ (.tail _ (.tail _ (.tail _ (.tail _ (.tail _ (.tail _ (.head _)))))))) rfl rfl ?_ | refine J.loadO Ty.a3 rfl (List.mem_append_right _ (.tail _ (.tail _ (.tail _ (.tail _ (.tail _ (.tail _ (.tail _ (.head _))))))))) rfl rfl ?_ | refine J.loadO Ty.a3 rfl (List.mem_append_right _ (.tail _ (.tail _ (.tail _ (.tail _ (.tail _ (.tail _ (.tail _ (.tail _ (.head _)))))))))) rfl rfl ?_ | refine J.loadO Ty.a3 rfl (List.mem_append_right _ (.tail _ (.tail _ (.tail _ (.tail _ (.tail _ (.tail _ (.tail _ (.tail _ (.tail _ (.head _))))))))))) rfl rfl ?_ | refine J.loadO Ty.a3 rfl (List.mem_append_right _ (.tail _ (.tail _ (.tail _ (.tail _ (.tail _ (.tail _ (.tail _ (.tail _ (.tail _ (.tail _ (.head _)))))))))))) rfl rfl ?_ | refine J.loadO Ty.a3 rfl (List.mem_append_right _ (.tail _ (.tail _ (.tail _ (.tail _ (.tail _ (.tail _ (.tail _ (.tail _ (.tail _ (.tail _ (.tail _ (.head _))))))))))))) rfl rfl ?_)
          refine J.move rfl rfl ?_
          refine J.bin rfl rfl rfl rfl ?_
          refine J.name 50 rfl (show _ = Value.bool true by first | (simp [hya]; done) | simp [Classical.not_not.1 hya]) ?_
          refine J.move rfl rfl ?_
          first
            | (refine J.skip rfl rfl rfl rfl rfl ?_)
            | (refine J.skipU rfl rfl rfl rfl ?_)
            | (refine J.unguard rfl rfl rfl ?_; refine J.fieldAddr Ty.fd34_4 rfl rfl ?_)
          first
            | (refine J.skip rfl rfl rfl rfl rfl ?_)
            | (refine J.skipU rfl rfl rfl rfl ?_)
            | (refine J.unguard rfl rfl rfl ?_; (first | refine J.loadO Ty.a3 rfl (.head _) rfl rfl ?_ | refine J.loadO Ty.a3 rfl (.tail _ (.head _)) rfl rfl ?_ | refine J.loadO Ty.a3 rfl (.tail _ (.tail _ (.head _))) rfl rfl ?_ | refine J.loadO Ty.a3 rfl (.tail _ (.tail _ (.tail _ (.head _)))) rfl rfl ?_ | refine J.loadO Ty.a3 rfl (.tail _ (.tail _ (.tail _ (.tail _ (.head _))))) rfl rfl ?_ | refine J.loadO Ty.a3 rfl (.tail _ (.tail _ (.tail _ (.tail _ (.tail _ (.head _)))))) rfl rfl ?_ | refine J.loadO Ty.a3 rfl (.tail _ (.tail _ (.tail _ (.tail _ (.tail _ (.tail _ (.head _))))))) rfl rfl ?_ | refine J.loadO Ty.a3 rfl (.tail _ (.tail _ (.tail _ (.tail _ (.tail _ (.tail _ (.tail _ (.head _)))))))) rfl rfl ?_ | refine J.loadO Ty.a3 rfl (.tail _ (.tail _ (.tail _ (.tail _ (.tail _ (.tail _ (.tail _ (.tail _ (.head _))))))))) rfl rfl ?_ | refine J.loadO Ty.a3 rfl (.tail _ (.tail _ (.tail _ (.tail _ (.tail _ (.tail _ (.tail _ (.tail _ (.tail _ (.head _)))))))))) rfl rfl ?_ | refine J.loadO Ty.a3 rfl (.tail _ (.tail _ (.tail _ (.tail _ (.tail _ (.tail _ (.tail _ (.tail _ (.tail _ (.tail _ (.head _))))))))))) rfl rfl ?_ | refine J.loadO Ty.a3 rfl (.tail _ (.tail _ (.tail _ (.tail _ (.tail _ (.tail _ (.tail _ (.tail _ (.tail _ (.tail _ (.tail _ (.head _)))))))))))) rfl rfl ?_ | refine J.loadO Ty.a3 rfl (List.mem_append_right _ (.head _)) rfl rfl ?_ | refine J.loadO Ty.a3 rfl (List.mem_append_right _ (.tail _ (.head _))) rfl rfl ?_ | refine J.loadO Ty.a3 rfl (List.mem_append_right _ (.tail _ (.tail _ (.head _)))) rfl rfl ?_ | refine J.loadO Ty.a3 rfl (List.mem_append_right _ (.tail _ (.tail _ (.tail _ (.head _))))) rfl rfl ?_ | refine J.loadO Ty.a3 rfl (List.mem_append_right _ (.tail _ (.tail _ (.tail _ (.tail _ (.head _)))))) rfl rfl ?_ | refine J.loadO Ty.a3 rfl (List.mem_append_right _ (.tail _ (.tail _ (.tail _ (.tail _ (.tail _ (.head _))))))) rfl rfl ?_ | refine J.loadO Ty.a3 rfl (List.mem_append_right _ (.tail _ (.tail _ (.tail _ (.tail _ (.tail _ (.tail _ (.head _)))))))) rfl rfl ?_ | refine J.loadO Ty.a3 rfl (List.mem_append_right _ (.tail _ (.tail _ (.tail _ (.tail _ (.tail _ (.tail _ (.tail _ (.head _))))))))) rfl rfl ?_ | refine J.loadO Ty.a3 rfl (List.mem_append_right _ (.tail _ (.tail _ (.tail _ (.tail _ (.tail _ (.tail _ (.tail _ (.tail _ (.head _)))))))))) rfl rfl ?_ | refine J.loadO Ty.a3 rfl (List.mem_append_right _ (.tail _ (.tail _ (.tail _ (.tail _ (.tail _ (.tail _ (.tail _ (.tail _ (.tail _ (.head _))))))))))) rfl rfl ?_ | refine J.loadO Ty.a3 rfl (List.mem_append_right _ (.tail _ (.tail _ (.tail _ (.tail _ (.tail _ (.tail _ (.tail _ (.tail _ (.tail _ (.tail _ (.head _)))))))))))) rfl rfl ?_ | refine J.loadO Ty.a3 rfl (List.mem_append_right _ (.tail _ (.tail _ (.tail _ (.tail _ (.tail _ (.tail _ (.tail _ (.tail _ (.tail _ (.tail _ (.tail _ (.head _))))))))))))) rfl rfl ?_))
          first
            | (refine J.skip rfl rfl rfl rfl rfl ?_)
            | (refine J.skipU rfl rfl rfl rfl ?_)
            | (refine J.unguard rfl rfl rfl ?_; refine J.move rfl rfl ?_)
          first
            | (refine J.skip rfl rfl rfl rfl rfl ?_)
            | (refine J.skipU rfl rfl rfl rfl ?_)
            | (refine J.unguard rfl rfl rfl ?_; refine J.bin rfl rfl rfl rfl ?_; refine J.name 55 rfl (show _ = Value.bool false by simp; rcases hvm with h | h; exact absurd h hya; exact h) ?_)
          (first | refine J.pickT rfl rfl rfl ?_ | refine J.pickF rfl rfl rfl ?_)
          refine J.nil ?_
          refine JX.thenN (hK22 _ _ ?_)
          first | refine JC.condF rfl ?_ | refine JC.cond rfl (fun h => by first | (exfalso; simp at h; omega) | (simp at h)) (fun _ => ?_)
          refine JC.skip ?_
          refine JX.blockN ?_
          refine JX.thenN (hK19 _ _ ?_)
          refine JC.region ?_
          (first | refine J.addN rfl rfl (by omega) (by omega) rfl ?_ | refine J.bin rfl rfl rfl rfl ?_)
          refine J.move rfl rfl ?_
          refine J.nil ?_
          refine JX.thenN ?_
          refine JX.again (j + 1) ?_ ?_ ?_
          · omega
          · exact ⟨rfl, rfl, rfl, rfl, rfl, rfl, trivial⟩
          · exact fun w1 hw => ⟨hltj, hw.drop (List.sublist_cons_self _ _)⟩
        · skip
          refine JC.region ?_
          refine J.fieldAddr Ty.fd34_3 rfl rfl ?_
          (first | refine J.loadO Ty.a3 rfl (.head _) rfl rfl ?_ | refine J.loadO Ty.a3 rfl (.tail _ (.head _)) rfl rfl ?_ | refine J.loadO Ty.a3 rfl (.tail _ (.tail _ (.head _))) rfl rfl ?_ | refine J.loadO Ty.a3 rfl (.tail _ (.tail _ (.tail _ (.head _)))) rfl rfl ?_ | refine J.loadO Ty.a3 rfl (.tail _ (.tail _ (.tail _ (.tail _ (.head _))))) rfl rfl ?_ | refine J.loadO Ty.a3 rfl (.tail _ (.tail _ (.tail _ (.tail _ (.tail _ (.head _)))))) rfl rfl ?_ | refine J.loadO Ty.a3 rfl (.tail _ (.tail _ (.tail _ (.tail _ (.tail _ (.tail _ (.head _))))))) rfl rfl ?_ | refine J.loadO Ty.a3 rfl (.tail _ (.tail _ (.tail _ (.tail _ (.tail _ (.tail _ (.tail _ (.head _)))))))) rfl rfl ?_ | refine J.loadO Ty.a3 rfl (.tail _ (.tail _ (.tail _ (.tail _ (.tail _ (.tail _ (.tail _ (.tail _ (.head _))))))))) rfl rfl ?_ | refine J.loadO Ty.a3 rfl (.tail _ (.tail _ (.tail _ (.tail _ (.tail _ (.tail _ (.tail _ (.tail _ (.tail _ (.head _)))))))))) rfl rfl ?_ | refine J.loadO Ty.a3 rfl (.tail _ (.tail _ (.tail _ (.tail _ (.tail _ (.tail _ (.tail _ (.tail _ (.tail _ (.tail _ (.head _))))))))))) rfl rfl ?_ | refine J.loadO Ty.a3 rfl (.tail _ (.tail _ (.tail _ (.tail _ (.tail _ (.tail _ (.tail _ (.tail _ (.tail _ (.tail _ (.tail _ (.head _)))))))))))) rfl rfl ?_ | refine J.loadO Ty.a3 rfl (List.mem_append_right _ (.head _)) rfl rfl ?_ | refine J.loadO Ty.a3 rfl (List.mem_append_right _ (.tail _ (.head _))) rfl rfl ?_ | refine J.loadO Ty.a3 rfl (List.mem_append_right _ (.tail _ (.tail _ (.head _)))) rfl rfl ?_ | refine J.loadO Ty.a3 rfl (List.mem_append_right _ (.tail _ (.tail _ (.tail _ (.head _))))) rfl rfl ?_ | refine J.loadO Ty.a3 rfl (List.mem_append_right _ (.tail _ (.tail _ (.tail _ (.tail _ (.head _)))))) rfl rfl ?_ | refine J.loadO Ty.a3 rfl (List.mem_append_right _ (.tail _ (.tail _ (.tail _ (.tail _ (.tail _ (.head _))))))) rfl rfl ?_ | refine J.loadO Ty.a3 rfl (List.mem_append_right _ (.tail _ (.tail _ (.tail _ (.tail _ (.tail _ (.tail _ (.head _)))))))) rfl rfl ?_ | refine J.loadO Ty.a3 rfl (List.mem_append_right _ (.tail _ (.tail _ (.tail _ (.tail _ (.tail _ (.tail _ (.tail _ (.head _))))))))) rfl rfl ?_ | refine J.loadO Ty.a3 rfl (List.mem_append_right _ (.tail _ (.tail _ (.tail _ (.tail _ (.tail _ (.tail _ (.tail _ (.tail _ (.head _)))))))))) rfl rfl ?_ | refine J.loadO Ty.a3 rfl (List.mem_append_right _ (.tail _ (.tail _ (.tail _ (.tail _ (.tail _ (.tail _ (.tail _ (.tail _ (.tail _ (.head _))))))))))) rfl rfl ?_ | refine J.loadO Ty.a3 rfl (List.mem_append_right _ (.tail _ (.tail _ (.tail _ (.tail _ (.tail _ (.tail _ (.tail _ (.tail _ (.tail _ (.tail _ (.head _)))))))))))) rfl rfl ?_ | refine J.loadO Ty.a3 rfl (List.mem_append_right _ (.tail _ (.tail _ (.tail _ (.tail _ (.tail _ (.tail _ (.tail _ (.tail _ (.tail _ (.tail _ (.tail _ (.head _))))))))))))) rfl rfl ?_)
          refine J.move rfl rfl ?_
          refine J.bin rfl rfl rfl rfl ?_
          refine J.name 50 rfl (show _ = Value.bool false by first | (simp [hya]; done) | simp [Classical.not_not.1 hya]) ?_
          refine J.move rfl rfl ?_
          first
            | (refine J.skip rfl rfl rfl rfl rfl ?_)
            | (refine J.skipU rfl rfl rfl rfl ?_)
            | (refine J.unguard rfl rfl rfl ?_; refine J.fieldAddr Ty.fd34_4 rfl rfl ?_)
          first
            | (refine J.skip rfl rfl rfl rfl rfl ?_)
            | (refine J.skipU rfl rfl rfl rfl ?_)
            | (refine J.unguard rfl rfl rfl ?_; (first | refine J.loadO Ty.a3 rfl (.head _) rfl rfl ?_ | refine J.loadO Ty.a3 rfl (.tail _ (.head _)) rfl rfl ?_ | refine J.loadO Ty.a3 rfl (.tail _ (.tail _ (.head _))) rfl rfl ?_ | refine J.loadO Ty.a3 rfl (.tail _ (.tail _ (.tail _ (.head _)))) rfl rfl ?_ | refine J.loadO Ty.a3 rfl (.tail _ (.tail _ (.tail _ (.tail _ (.head _))))) rfl rfl ?_ | refine J.loadO Ty.a3 rfl (.tail _ (.tail _ (.tail _ (.tail _ (.tail _ (.head _)))))) rfl rfl ?_ | refine J.loadO Ty.a3 rfl (.tail _ (.tail _ (.tail _ (.tail _ (.tail _ (.tail _ (.head _))))))) rfl rfl ?_ | refine J.loadO Ty.a3 rfl (.tail _ (.tail _ (.tail _ (.tail _ (.tail _ (.tail _ (.tail _ (.head _)))))))) rfl rfl ?_ | refine J.loadO Ty.a3 rfl (.tail _ (.tail _ (.tail _ (.tail _ (.tail _ (.tail _ (.tail _ (.tail _ (.head _))))))))) rfl rfl ?_ | refine J.loadO Ty.a3 rfl (.tail _ (.tail _ (.tail _ (.tail _ (.tail _ (.tail _ (.tail _ (.tail _ (.tail _ (.head _)))))))))) rfl rfl ?_ | refine J.loadO Ty.a3 rfl (.tail _ (.tail _ (.tail _ (.tail _ (.tail _ (.tail _ (.tail _ (.tail _ (.tail _ (.tail _ (.head _))))))))))) rfl rfl ?_ | refine J.loadO Ty.a3 rfl (.tail _ (.tail _ (.tail _ (.tail _ (.tail _ (.tail _ (.tail _ (.tail _ (.tail _ (.tail _ (.tail _ (.head _)))))))))))) rfl rfl ?_ | refine J.loadO Ty.a3 rfl (List.mem_append_right _ (.head _)) rfl rfl ?_ | refine J.loadO Ty.a3 rfl (List.mem_append_right _ (.tail _ (.head _))) rfl rfl ?_ | refine J.loadO Ty.a3 rfl (List.mem_append_right _ (.tail _ (.tail _ (.head _)))) rfl rfl ?_ | refine J.loadO Ty.a3 rfl (List.mem_append_right _ (.tail _ (.tail _ (.tail _ (.head _))))) rfl rfl ?_ | refine J.loadO Ty.a3 rfl (List.mem_append_right _ (.tail _ (.tail _ (.tail _ (.tail _ (.head _)))))) rfl rfl ?_ | refine J.loadO Ty.a3 rfl (List.mem_append_right _ (.tail _ (.tail _ (.tail _ (.tail _ (.tail _ (.head _))))))) rfl rfl ?_ | refine J.loadO Ty.a3 rfl (List.mem_append_right _ (.tail _ (.tail _ (.tail _ (.tail _ (.tail _ (.tail _ (.head _)))))))) rfl rfl ?_ | refine J.loadO Ty.a3 rfl (List.mem_append_right _ (.tail _ (.tail _ (.tail _ (.tail _ (.tail _ (.tail _ (.tail _ (.head _))))))))) rfl rfl ?_ | refine J.loadO Ty.a3 rfl (List.mem_append_right _ (.tail _ (.tail _ (.tail _ (.tail _ (.tail _ (.tail _ (.tail _ (.tail _ (.head _)))))))))) rfl rfl ?_ | refine J.loadO Ty.a3 rfl (List.mem_append_right _ (.tail _ (.tail _ (.tail _ (.tail _ (.tail _ (.tail _ (.tail _ (.tail _ (.tail _ (.head _))))))))))) rfl rfl ?_ | refine J.loadO Ty.a3 rfl (List.mem_append_right _ (.tail _ (.tail _ (.tail _ (.tail _ (.tail _ (.tail _ (.tail _ (.tail _ (.tail _ (.tail _ (.head _)))))))))))) rfl rfl ?_ | refine J.loadO Ty.a3 rfl (List.mem_append_right _ (.tail _ (.tail _ (.tail _ (.tail _ (.tail _ (.tail _ (.tail _ (.tail _ (.tail _ (.tail _ (.tail _ (.head _))))))))))))) rfl rfl ?_))
          first
            | (refine J.skip rfl rfl rfl rfl rfl ?_)
            | (refine J.skipU rfl rfl rfl rfl ?_)
            | (refine J.unguard rfl rfl rfl ?_; refine J.move rfl rfl ?_)
          first
            | (refine J.skip rfl rfl rfl rfl rfl ?_)
            | (refine J.skipU rfl rfl rfl rfl ?_)
            | (refine J.unguard rfl rfl rfl ?_; refine J.bin rfl rfl rfl rfl ?_; refine J.name 55 rfl (show _ = Value.bool false by simp; rcases hvm with h | h; exact absurd h hya; exact h) ?_)
          (first | refine J.pickT rfl rfl rfl ?_ | refine J.pickF rfl rfl rfl ?_)
          refine J.nil ?_
          refine JX.thenN (hK22 _ _ ?_)
          first | refine JC.condF rfl ?_ | refine JC.cond rfl (fun h => by first | (exfalso; simp at h; omega) | (simp at h)) (fun _ => ?_)
          refine JC.skip ?_
          refine JX.blockN ?_
          refine JX.thenN (hK19 _ _ ?_)
          refine JC.region ?_
          (first | refine J.addN rfl rfl (by omega) (by omega) rfl ?_ | refine J.bin rfl rfl rfl rfl ?_)
          refine J.move rfl rfl ?_
          refine J.nil ?_
          refine JX.thenN ?_
          refine JX.again (j + 1) ?_ ?_ ?_
          · omega
          · exact ⟨rfl, rfl, rfl, rfl, rfl, rfl, trivial⟩
          · exact fun w1 hw => ⟨hltj, hw.drop (List.sublist_cons_self _ _)⟩
      · skip
        have hge3 : j = ((ordE L).filter (viaB (((k : Nat) : Int) - 1))).length := by simp at h3; omega
        subst hge3
        refine JC.exit ?_
        refine JX.thenE ?_
        refine JX.thenE ?_
        refine JX.blockE ?_
        refine JX.blockN ?_
        refine JX.thenN (hK15 _ _ ?_)
        refine JC.region ?_
        refine J.move rfl rfl ?_
        refine J.addN rfl rfl (by omega) (by omega) rfl ?_
        refine J.name 36 rfl (show _ = .int .i64 (((k + 1 : Nat) : Int) - 1) by first | (congr 1; omega) | congr 1 | rfl) ?_
        refine J.assign rfl rfl ?_
        refine J.nil ?_
        refine JX.thenN ?_
        refine JX.again (k + 1) ?_ ?_ ?_
        · omega
        · exact ⟨rfl, rfl, rfl, trivial⟩
        · exact fun w1 hw => ⟨by omega, hw.drop (List.sublist_append_right _ _)⟩
    · skip
      have hk8e : k = 8 := by simp at h2; omega
      subst hk8e
      refine JC.exit ?_
      refine JX.thenE ?_
      refine JX.thenE ?_
      refine JX.blockE ?_
      refine JX.thenN (hK11 _ _ ?_)
      refine JC.seq (fun K23 hK23 => ?_)
      refine JC.region ?_
      refine J.assign rfl rfl ?_
      refine J.nil ?_
      refine JX.thenN (hK23 _ _ ?_)
      refine JC.seq (fun K24 hK24 => ?_)
      refine JC.seq (fun K25 hK25 => ?_)
      refine JC.region ?_
      refine J.move rfl rfl ?_
      refine J.perm ([] ++ ((t1, tabO 128 m1) :: (m1, .map es ck) :: [])) (.refl _) ?_
      refine J.callS (α := Value × List (Nat × Obj)) (V := (·.1)) (Pr := fun x => Vec 34 51 x.1 (ordE L).length (fE (ordE L)) x.2) (L := (·.2)) (l1 := []) Ty.bd25 rfl rfl (fun w1 hw => all_spec t1 m1 128 (L) es ck w1 (hw.own _ (.head _)) (hw.own _ (.tail _ (.head _))) hT (by omega)) (fun x hva => ?_)
      obtain ⟨va, la⟩ := x
      simp only at hva ⊢
      obtain ⟨ao, co, rfl, hcva⟩ := hva.form
      refine J.lenS rfl Ty.u62 rfl rfl ?_
      refine J.move rfl rfl ?_
      refine J.nil ?_
      refine JX.thenN (hK25 _ _ ?_)
      refine JC.block ?_
      refine JC.conseq (JC.cov (f := (fun i => [(3, .pointer (some ⟨t1, 0, none⟩)), (6, .int .i64 ((viaS (ordE L) 8 : Nat) : Int)), (10, .int .i64 ((wantS ((ordE L).take i) : Nat) : Int)), (59, .slice ao (ordE L).length co), (60, .int .i64 (((ordE L).length : Nat) : Int)), (61, .int .i64 ((i : Nat) : Int))]) 0) ⟨rfl, rfl, rfl, rfl, rfl, rfl, trivial⟩ (JC.loop (α := Nat) (fun i => [(3, .pointer (some ⟨t1, 0, none⟩)), (6, .int .i64 ((viaS (ordE L) 8 : Nat) : Int)), (10, .int .i64 ((wantS ((ordE L).take i) : Nat) : Int)), (59, .slice ao (ordE L).length co), (60, .int .i64 (((ordE L).length : Nat) : Int)), (61, .int .i64 ((i : Nat) : Int))]) (fun i w' => (i ≤ (ordE L).length) ∧ St w [] ((t1, tabO 128 m1) :: (m1, .map es ck) :: la) w') (fun i => (ordE L).length - i) 0 (fun i => ?_))) (fun w hw => ⟨Nat.zero_le _, hw.perm (by (refine perm_cnt (fun _ => ?_)); simp only [cntB_append, cntB_cons, cntB_nil, Nat.add_zero, Nat.zero_add]; try ac_rfl)⟩)
      refine JC.pr (fun hi3 => ?_)
      have hws := wantS_le ((ordE L).take i)
      have hwl : ((ordE L).take i).length ≤ 128 := by rw [List.length_take]; omega
      refine JC.seq (fun K26 hK26 => ?_)
      refine JC.region ?_
      refine J.bin rfl rfl rfl rfl ?_
      refine J.nil ?_
      refine JX.thenN (hK26 _ _ ?_)
      refine JC.seq (fun K27 hK27 => ?_)
      refine JC.cond rfl (fun h5 => ?_) (fun h5 => ?_)
      · skip
        have hlt3 : i < (ordE L).length := by simp at h5; omega
        obtain ⟨qo, spo, rfl, rfl, hso, hco3⟩ := vec_pos hva (by omega)
        obtain ⟨xe, hxe⟩ : ∃ y, (ordE L)[i]? = some y := ⟨_, List.getElem?_eq_getElem hlt3⟩
        have hxm := List.mem_of_getElem? hxe
        have hxo := ordE_ok hT xe hxm
        refine JC.skip ?_
        refine JX.thenN (hK27 _ _ ?_)
        refine JC.seq (fun K28 hK28 => ?_)
        refine JC.block ?_
        refine JC.seq (fun K29 hK29 => ?_)
        refine JC.region ?_
        refine J.indexAddrS Ty.el62 Ty.s34 rfl rfl (by omega) (by omega) rfl ?_
        refine J.loadA (vs := cE xe) Ty.a34 Ty.s34 rfl rfl (fun w1 hw => rowE_at (o := 0) (vec_rowM hva hw (fun q hq => by first | (simp [hq]; done) | (simp at hq; simp [hq]; done) | (simp at hq; subst hq; simp))) hxe (by omega)) rfl ?_
        refine J.alloc Ty.zE_ rfl rfl (fun b12 => ?_)
        refine J.storeW (cs := cE zE) (vs := cE xe) Ty.s34 rfl rfl rfl rfl rfl (one_cE _) .here ?_
        refine J.perm ((t1, tabO 128 m1) :: (m1, .map es ck) :: (b12, cb (cE xe) 34) :: [(qo, cb (fE (ordE L) ++ spo) 34)]) (by (refine perm_cnt (fun _ => ?_)); simp only [cntB_append, cntB_cons, cntB_nil, Nat.add_zero, Nat.zero_add]; try ac_rfl) ?_
        refine J.nil ?_
        refine JX.thenN (hK29 _ _ ?_)
        refine JC.seqCut (α := Nat) (fun z => [(3, .pointer (some ⟨t1, 0, none⟩)), (6, .int .i64 ((viaS (ordE L) 8 : Nat) : Int)), (10, .int .i64 ((z : Nat) : Int)), (59, .slice (some ⟨qo, 0, none⟩) (ordE L).length co), (60, .int .i64 (((ordE L).length : Nat) : Int)), (61, .int .i64 ((i : Nat) : Int)), (12, .pointer (some ⟨b12, 0, none⟩))]) (fun z w' => (z = wantS ((ordE L).take i) + wa xe) ∧ St w [] ((t1, tabO 128 m1) :: (m1, .map es ck) :: (b12, cb (cE xe) 34) :: [(qo, cb (fE (ordE L) ++ spo) 34)]) w') (fun z1 => ?_) (fun K30 hK30 => ?_)
        · skip
          refine JC.pr (fun hz1 => ?_)
          refine JC.seqCut (α := Nat) (fun z => [(3, .pointer (some ⟨t1, 0, none⟩)), (6, .int .i64 ((viaS (ordE L) 8 : Nat) : Int)), (10, .int .i64 ((z : Nat) : Int)), (59, .slice (some ⟨qo, 0, none⟩) (ordE L).length co), (60, .int .i64 (((ordE L).length : Nat) : Int)), (61, .int .i64 ((i : Nat) : Int)), (12, .pointer (some ⟨b12, 0, none⟩))]) (fun z w' => (z = z1 + wb xe) ∧ St w [] ((t1, tabO 128 m1) :: (m1, .map es ck) :: (b12, cb (cE xe) 34) :: [(qo, cb (fE (ordE L) ++ spo) 34)]) w') (fun z2 => ?_) (fun K31 hK31 => ?_)
          · skip
            refine JC.pr (fun hz2 => ?_)
            refine JC.seq (fun K32 hK32 => ?_)
            refine JC.region ?_
            refine J.assign rfl rfl ?_
            refine J.nil ?_
            refine JX.thenN (hK32 _ _ ?_)
            refine JC.seq (fun K33 hK33 => ?_)
            refine JC.seq (fun K34 hK34 => ?_)
            apply JC.drawX (α := Value × List (Nat × Obj) × Value × List (Nat × Obj) × Option Addr × Nat × List (Nat × Obj)) 11 (fun x => match x with | ⟨v78, l78, v82, l82, a83, c83, l83⟩ => [.pointer (some ⟨t1, 0, none⟩), .pointer (some ⟨b12, 0 + 17, none⟩), .agg (cI xe.a).toArray, v78, .pointer (some ⟨t1, 0, none⟩), .pointer (some ⟨b12, 0 + 33, none⟩), .agg (cI xe.b).toArray, v82, .slice a83 ((((ordE L).filter (toB xe.a)) ++ ((ordE L).filter (toB xe.b)))).length c83, .int .i64 ((((((ordE L).filter (toB xe.a)) ++ ((ordE L).filter (toB xe.b)))).length : Nat) : Int), .int .i64 0]) (fun m x => match x with | ⟨v78, l78, v82, l82, a83, c83, l83⟩ => fun w1 => ((m 3 = true → Vec 34 51 v78 (((ordE L).filter (toB xe.a))).length (fE (((ordE L).filter (toB xe.a)))) l78) ∧ (m 7 = true → Vec 34 51 v82 (((ordE L).filter (toB xe.b))).length (fE (((ordE L).filter (toB xe.b)))) l82) ∧ (m 8 = true → Vec 34 51 (.slice a83 ((((ordE L).filter (toB xe.a)) ++ ((ordE L).filter (toB xe.b)))).length c83) ((((ordE L).filter (toB xe.a)) ++ ((ordE L).filter (toB xe.b)))).length (fE ((((ordE L).filter (toB xe.a)) ++ ((ordE L).filter (toB xe.b))))) l83) ∧ (m 8 = true → m 3 = true)) ∧ St w [] ((t1, tabO 128 m1) :: (m1, .map es ck) :: (b12, cb (cE xe) 34) :: ((bif m 7 then l82 else []) ++ ((bif m 8 then l83 else (bif m 3 then l78 else [])) ++ [(qo, cb (fE (ordE L) ++ spo) 34)]))) w1) Ty.mixed rfl rfl rfl (by kernel_rfl) rfl rfl ?hinit ?hstep ?htail
            case hinit => exact fun w1 hw => ⟨(.slice none 0 0, [], .slice none 0 0, [], none, 0, []), ⟨fun h => (by cases h), fun h => (by cases h), fun h => (by cases h), fun h => (by cases h)⟩, hw.drew⟩
            case hstep =>
              refine ⟨fun m x hm hp => ?_, fun m x hm hp => ?_, fun m x hm hp => ?_, fun m x hm hp => ?_, fun m x hm hp => ?_, fun m x hm hp => ?_, fun m x hm hp => ?_, fun m x hm hp => ?_, fun m x hm hp => ?_, fun m x hm hp => ?_, fun m x hm hp => ?_, trivial⟩
              · skip
                obtain ⟨v78, l78, v82, l82, a83, c83, l83⟩ := x
                show J _ _ _ _ _ (_) (fun w1 => ((m 3 = true → Vec 34 51 v78 (((ordE L).filter (toB xe.a))).length (fE (((ordE L).filter (toB xe.a)))) l78) ∧ (m 7 = true → Vec 34 51 v82 (((ordE L).filter (toB xe.b))).length (fE (((ordE L).filter (toB xe.b)))) l82) ∧ (m 8 = true → Vec 34 51 (.slice a83 ((((ordE L).filter (toB xe.a)) ++ ((ordE L).filter (toB xe.b)))).length c83) ((((ordE L).filter (toB xe.a)) ++ ((ordE L).filter (toB xe.b)))).length (fE ((((ordE L).filter (toB xe.a)) ++ ((ordE L).filter (toB xe.b))))) l83) ∧ (m 8 = true → m 3 = true)) ∧ St w [] ((t1, tabO 128 m1) :: (m1, .map es ck) :: (b12, cb (cE xe) 34) :: ((bif m 7 then l82 else []) ++ ((bif m 8 then l83 else (bif m 3 then l78 else [])) ++ [(qo, cb (fE (ordE L) ++ spo) 34)]))) w1)
                refine J.pr (fun hF => ?_)
                refine J.move rfl rfl ?_
                exact J.nil (JX.finB rfl (fun w1 hw => ⟨⟨⟨v78, l78, v82, l82, a83, c83, l83⟩, rfl, fun _ _ _ => rfl, hF, hw⟩, trivial⟩))
              · skip
                obtain ⟨v78, l78, v82, l82, a83, c83, l83⟩ := x
                show J _ _ _ _ _ (_) (fun w1 => ((m 3 = true → Vec 34 51 v78 (((ordE L).filter (toB xe.a))).length (fE (((ordE L).filter (toB xe.a)))) l78) ∧ (m 7 = true → Vec 34 51 v82 (((ordE L).filter (toB xe.b))).length (fE (((ordE L).filter (toB xe.b)))) l82) ∧ (m 8 = true → Vec 34 51 (.slice a83 ((((ordE L).filter (toB xe.a)) ++ ((ordE L).filter (toB xe.b)))).length c83) ((((ordE L).filter (toB xe.a)) ++ ((ordE L).filter (toB xe.b)))).length (fE ((((ordE L).filter (toB xe.a)) ++ ((ordE L).filter (toB xe.b))))) l83) ∧ (m 8 = true → m 3 = true)) ∧ St w [] ((t1, tabO 128 m1) :: (m1, .map es ck) :: (b12, cb (cE xe) 34) :: ((bif m 7 then l82 else []) ++ ((bif m 8 then l83 else (bif m 3 then l78 else [])) ++ [(qo, cb (fE (ordE L) ++ spo) 34)]))) w1)
                refine J.pr (fun hF => ?_)
                refine J.fieldAddr Ty.fd34_1 rfl rfl ?_
                exact J.nil (JX.finB rfl (fun w1 hw => ⟨⟨⟨v78, l78, v82, l82, a83, c83, l83⟩, rfl, fun _ _ _ => rfl, hF, hw⟩, trivial⟩))
              · skip
                obtain ⟨v78, l78, v82, l82, a83, c83, l83⟩ := x
                show J _ _ _ _ _ ((76, .pointer (some ⟨b12, 0 + 17, none⟩)) :: _) (fun w1 => ((m 3 = true → Vec 34 51 v78 (((ordE L).filter (toB xe.a))).length (fE (((ordE L).filter (toB xe.a)))) l78) ∧ (m 7 = true → Vec 34 51 v82 (((ordE L).filter (toB xe.b))).length (fE (((ordE L).filter (toB xe.b)))) l82) ∧ (m 8 = true → Vec 34 51 (.slice a83 ((((ordE L).filter (toB xe.a)) ++ ((ordE L).filter (toB xe.b)))).length c83) ((((ordE L).filter (toB xe.a)) ++ ((ordE L).filter (toB xe.b)))).length (fE ((((ordE L).filter (toB xe.a)) ++ ((ordE L).filter (toB xe.b))))) l83) ∧ (m 8 = true → m 3 = true)) ∧ St w [] ((t1, tabO 128 m1) :: (m1, .map es ck) :: (b12, cb (cE xe) 34) :: ((bif m 7 then l82 else []) ++ ((bif m 8 then l83 else (bif m 3 then l78 else [])) ++ [(qo, cb (fE (ordE L) ++ spo) 34)]))) w1)
                refine J.pr (fun hF => ?_)
                refine J.loadA (vs := cI xe.a) Ty.a23 Ty.s23 rfl rfl (fun w1 hw => Cells.of_block (hw.own _ (.tail _ (.tail _ (.head _)))) rfl) rfl ?_
                exact J.nil (JX.finB rfl (fun w1 hw => ⟨⟨⟨v78, l78, v82, l82, a83, c83, l83⟩, rfl, fun _ _ _ => rfl, hF, hw⟩, trivial⟩))
              · skip
                obtain ⟨v78, l78, v82, l82, a83, c83, l83⟩ := x
                show J _ _ _ _ _ ((77, .agg (cI xe.a).toArray) :: (75, .pointer (some ⟨t1, 0, none⟩)) :: _) (fun w1 => ((m 3 = true → Vec 34 51 v78 (((ordE L).filter (toB xe.a))).length (fE (((ordE L).filter (toB xe.a)))) l78) ∧ (m 7 = true → Vec 34 51 v82 (((ordE L).filter (toB xe.b))).length (fE (((ordE L).filter (toB xe.b)))) l82) ∧ (m 8 = true → Vec 34 51 (.slice a83 ((((ordE L).filter (toB xe.a)) ++ ((ordE L).filter (toB xe.b)))).length c83) ((((ordE L).filter (toB xe.a)) ++ ((ordE L).filter (toB xe.b)))).length (fE ((((ordE L).filter (toB xe.a)) ++ ((ordE L).filter (toB xe.b))))) l83) ∧ (m 8 = true → m 3 = true)) ∧ St w [] ((t1, tabO 128 m1) :: (m1, .map es ck) :: (b12, cb (cE xe) 34) :: ((bif m 7 then l82 else []) ++ ((bif m 8 then l83 else (bif m 3 then l78 else [])) ++ [(qo, cb (fE (ordE L) ++ spo) 34)]))) w1)
                refine J.pr (fun hF => ?_)
                have h8 : m 8 = false := by cases h : m 8 with
                  | false => rfl
                  | true => rw [hF.2.2.2 h] at hm; cases hm
                refine J.perm ([] ++ ((t1, tabO 128 m1) :: (m1, .map es ck) :: (b12, cb (cE xe) 34) :: ((bif m 7 then l82 else []) ++ ((bif m 8 then l83 else (bif m 3 then l78 else [])) ++ [(qo, cb (fE (ordE L) ++ spo) 34)])))) (.refl _) ?_
                refine J.callS (α := Value × List (Nat × Obj)) (V := (·.1)) (Pr := fun x => Vec 34 51 x.1 ((ordE L).filter (toB xe.a)).length (fE ((ordE L).filter (toB xe.a))) x.2) (L := (·.2)) (l1 := []) Ty.bd28 rfl rfl (fun w1 hw => to_spec t1 m1 128 (L) es ck w1 (hw.own _ (.head _)) (hw.own _ (.tail _ (.head _))) hT (by omega) xe.a) (fun x hvn => ?_)
                obtain ⟨vn, ln⟩ := x
                simp only at hvn ⊢
                refine J.nil (JX.finB rfl (fun w1 hw => ⟨⟨⟨vn, ln, v82, l82, a83, c83, l83⟩, rfl, fun j h1 h2 => ?_, ?_⟩, trivial⟩))
                · match j, h1 with
                  | 0, _ => rfl
                  | 1, _ => rfl
                  | 2, _ => rfl
                  | 3, _ => exact absurd (h2.symm.trans hm) (by decide)
                  | 4, _ => rfl
                  | 5, _ => rfl
                  | 6, _ => rfl
                  | 7, _ => rfl
                  | 8, _ => rfl
                  | 9, _ => rfl
                  | 10, _ => rfl
                  | j + 11, h1 => omega
                show ((true = true → Vec 34 51 vn (((ordE L).filter (toB xe.a))).length (fE (((ordE L).filter (toB xe.a)))) ln) ∧ (m 7 = true → Vec 34 51 v82 (((ordE L).filter (toB xe.b))).length (fE (((ordE L).filter (toB xe.b)))) l82) ∧ (m 8 = true → Vec 34 51 (.slice a83 ((((ordE L).filter (toB xe.a)) ++ ((ordE L).filter (toB xe.b)))).length c83) ((((ordE L).filter (toB xe.a)) ++ ((ordE L).filter (toB xe.b)))).length (fE ((((ordE L).filter (toB xe.a)) ++ ((ordE L).filter (toB xe.b))))) l83) ∧ (m 8 = true → true = true)) ∧ St w [] ((t1, tabO 128 m1) :: (m1, .map es ck) :: (b12, cb (cE xe) 34) :: ((bif m 7 then l82 else []) ++ ((bif m 8 then l83 else (bif true then ln else [])) ++ [(qo, cb (fE (ordE L) ++ spo) 34)]))) w1
                simp only [hm, h8, cond_true, cond_false] at hw ⊢
                exact ⟨⟨fun _ => hvn, hF.2.1, fun h => (by cases h), fun h => (by cases h)⟩, hw.perm (by (refine perm_cnt (fun _ => ?_)); simp only [cntB_append, cntB_cons, cntB_nil, Nat.add_zero, Nat.zero_add]; try ac_rfl)⟩
              · skip
                obtain ⟨v78, l78, v82, l82, a83, c83, l83⟩ := x
                show J _ _ _ _ _ (_) (fun w1 => ((m 3 = true → Vec 34 51 v78 (((ordE L).filter (toB xe.a))).length (fE (((ordE L).filter (toB xe.a)))) l78) ∧ (m 7 = true → Vec 34 51 v82 (((ordE L).filter (toB xe.b))).length (fE (((ordE L).filter (toB xe.b)))) l82) ∧ (m 8 = true → Vec 34 51 (.slice a83 ((((ordE L).filter (toB xe.a)) ++ ((ordE L).filter (toB xe.b)))).length c83) ((((ordE L).filter (toB xe.a)) ++ ((ordE L).filter (toB xe.b)))).length (fE ((((ordE L).filter (toB xe.a)) ++ ((ordE L).filter (toB xe.b))))) l83) ∧ (m 8 = true → m 3 = true)) ∧ St w [] ((t1, tabO 128 m1) :: (m1, .map es ck) :: (b12, cb (cE xe) 34) :: ((bif m 7 then l82 else []) ++ ((bif m 8 then l83 else (bif m 3 then l78 else [])) ++ [(qo, cb (fE (ordE L) ++ spo) 34)]))) w1)
                refine J.pr (fun hF => ?_)
                refine J.move rfl rfl ?_
                exact J.nil (JX.finB rfl (fun w1 hw => ⟨⟨⟨v78, l78, v82, l82, a83, c83, l83⟩, rfl, fun _ _ _ => rfl, hF, hw⟩, trivial⟩))
              · skip
                obtain ⟨v78, l78, v82, l82, a83, c83, l83⟩ := x
                show J _ _ _ _ _ (_) (fun w1 => ((m 3 = true → Vec 34 51 v78 (((ordE L).filter (toB xe.a))).length (fE (((ordE L).filter (toB xe.a)))) l78) ∧ (m 7 = true → Vec 34 51 v82 (((ordE L).filter (toB xe.b))).length (fE (((ordE L).filter (toB xe.b)))) l82) ∧ (m 8 = true → Vec 34 51 (.slice a83 ((((ordE L).filter (toB xe.a)) ++ ((ordE L).filter (toB xe.b)))).length c83) ((((ordE L).filter (toB xe.a)) ++ ((ordE L).filter (toB xe.b)))).length (fE ((((ordE L).filter (toB xe.a)) ++ ((ordE L).filter (toB xe.b))))) l83) ∧ (m 8 = true → m 3 = true)) ∧ St w [] ((t1, tabO 128 m1) :: (m1, .map es ck) :: (b12, cb (cE xe) 34) :: ((bif m 7 then l82 else []) ++ ((bif m 8 then l83 else (bif m 3 then l78 else [])) ++ [(qo, cb (fE (ordE L) ++ spo) 34)]))) w1)
                refine J.pr (fun hF => ?_)
                refine J.fieldAddr Ty.fd34_2 rfl rfl ?_
                exact J.nil (JX.finB rfl (fun w1 hw => ⟨⟨⟨v78, l78, v82, l82, a83, c83, l83⟩, rfl, fun _ _ _ => rfl, hF, hw⟩, trivial⟩))
              · skip
                obtain ⟨v78, l78, v82, l82, a83, c83, l83⟩ := x
                show J _ _ _ _ _ ((80, .pointer (some ⟨b12, 0 + 33, none⟩)) :: _) (fun w1 => ((m 3 = true → Vec 34 51 v78 (((ordE L).filter (toB xe.a))).length (fE (((ordE L).filter (toB xe.a)))) l78) ∧ (m 7 = true → Vec 34 51 v82 (((ordE L).filter (toB xe.b))).length (fE (((ordE L).filter (toB xe.b)))) l82) ∧ (m 8 = true → Vec 34 51 (.slice a83 ((((ordE L).filter (toB xe.a)) ++ ((ordE L).filter (toB xe.b)))).length c83) ((((ordE L).filter (toB xe.a)) ++ ((ordE L).filter (toB xe.b)))).length (fE ((((ordE L).filter (toB xe.a)) ++ ((ordE L).filter (toB xe.b))))) l83) ∧ (m 8 = true → m 3 = true)) ∧ St w [] ((t1, tabO 128 m1) :: (m1, .map es ck) :: (b12, cb (cE xe) 34) :: ((bif m 7 then l82 else []) ++ ((bif m 8 then l83 else (bif m 3 then l78 else [])) ++ [(qo, cb (fE (ordE L) ++ spo) 34)]))) w1)
                refine J.pr (fun hF => ?_)
                refine J.loadA (vs := cI xe.b) Ty.a23 Ty.s23 rfl rfl (fun w1 hw => Cells.of_block (hw.own _ (.tail _ (.tail _ (.head _)))) rfl) rfl ?_
                exact J.nil (JX.finB rfl (fun w1 hw => ⟨⟨⟨v78, l78, v82, l82, a83, c83, l83⟩, rfl, fun _ _ _ => rfl, hF, hw⟩, trivial⟩))
              · skip
                obtain ⟨v78, l78, v82, l82, a83, c83, l83⟩ := x
                show J _ _ _ _ _ ((78, v78) :: (81, .agg (cI xe.b).toArray) :: (79, .pointer (some ⟨t1, 0, none⟩)) :: _) (fun w1 => ((m 3 = true → Vec 34 51 v78 (((ordE L).filter (toB xe.a))).length (fE (((ordE L).filter (toB xe.a)))) l78) ∧ (m 7 = true → Vec 34 51 v82 (((ordE L).filter (toB xe.b))).length (fE (((ordE L).filter (toB xe.b)))) l82) ∧ (m 8 = true → Vec 34 51 (.slice a83 ((((ordE L).filter (toB xe.a)) ++ ((ordE L).filter (toB xe.b)))).length c83) ((((ordE L).filter (toB xe.a)) ++ ((ordE L).filter (toB xe.b)))).length (fE ((((ordE L).filter (toB xe.a)) ++ ((ordE L).filter (toB xe.b))))) l83) ∧ (m 8 = true → m 3 = true)) ∧ St w [] ((t1, tabO 128 m1) :: (m1, .map es ck) :: (b12, cb (cE xe) 34) :: ((bif m 7 then l82 else []) ++ ((bif m 8 then l83 else (bif m 3 then l78 else [])) ++ [(qo, cb (fE (ordE L) ++ spo) 34)]))) w1)
                have hp3 : m 3 = true := predsT hp (by kernel_rfl)
                refine J.pr (fun hF => ?_)
                refine J.perm ([] ++ ((t1, tabO 128 m1) :: (m1, .map es ck) :: (b12, cb (cE xe) 34) :: ((bif m 7 then l82 else []) ++ ((bif m 8 then l83 else (bif m 3 then l78 else [])) ++ [(qo, cb (fE (ordE L) ++ spo) 34)])))) (.refl _) ?_
                refine J.callS (α := Value × List (Nat × Obj)) (V := (·.1)) (Pr := fun x => Vec 34 51 x.1 ((ordE L).filter (toB xe.b)).length (fE ((ordE L).filter (toB xe.b))) x.2) (L := (·.2)) (l1 := []) Ty.bd28 rfl rfl (fun w1 hw => to_spec t1 m1 128 (L) es ck w1 (hw.own _ (.head _)) (hw.own _ (.tail _ (.head _))) hT (by omega) xe.b) (fun x hvn => ?_)
                obtain ⟨vn, ln⟩ := x
                simp only at hvn ⊢
                refine J.nil (JX.finB rfl (fun w1 hw => ⟨⟨⟨v78, l78, vn, ln, a83, c83, l83⟩, rfl, fun j h1 h2 => ?_, ?_⟩, trivial⟩))
                · match j, h1 with
                  | 0, _ => rfl
                  | 1, _ => rfl
                  | 2, _ => rfl
                  | 3, _ => rfl
                  | 4, _ => rfl
                  | 5, _ => rfl
                  | 6, _ => rfl
                  | 7, _ => exact absurd (h2.symm.trans hm) (by decide)
                  | 8, _ => rfl
                  | 9, _ => rfl
                  | 10, _ => rfl
                  | j + 11, h1 => omega
                show ((m 3 = true → Vec 34 51 v78 (((ordE L).filter (toB xe.a))).length (fE (((ordE L).filter (toB xe.a)))) l78) ∧ (true = true → Vec 34 51 vn (((ordE L).filter (toB xe.b))).length (fE (((ordE L).filter (toB xe.b)))) ln) ∧ (m 8 = true → Vec 34 51 (.slice a83 ((((ordE L).filter (toB xe.a)) ++ ((ordE L).filter (toB xe.b)))).length c83) ((((ordE L).filter (toB xe.a)) ++ ((ordE L).filter (toB xe.b)))).length (fE ((((ordE L).filter (toB xe.a)) ++ ((ordE L).filter (toB xe.b))))) l83) ∧ (m 8 = true → m 3 = true)) ∧ St w [] ((t1, tabO 128 m1) :: (m1, .map es ck) :: (b12, cb (cE xe) 34) :: ((bif true then ln else []) ++ ((bif m 8 then l83 else (bif m 3 then l78 else [])) ++ [(qo, cb (fE (ordE L) ++ spo) 34)]))) w1
                simp only [hm, cond_true, cond_false] at hw ⊢
                exact ⟨⟨hF.1, fun _ => hvn, hF.2.2⟩, hw.perm (by (refine perm_cnt (fun _ => ?_)); simp only [cntB_append, cntB_cons, cntB_nil, Nat.add_zero, Nat.zero_add]; try ac_rfl)⟩
              · skip
                obtain ⟨v78, l78, v82, l82, a83, c83, l83⟩ := x
                show J _ _ _ _ _ ((82, v82) :: (82, v82) :: (78, v78) :: _) (fun w1 => ((m 3 = true → Vec 34 51 v78 (((ordE L).filter (toB xe.a))).length (fE (((ordE L).filter (toB xe.a)))) l78) ∧ (m 7 = true → Vec 34 51 v82 (((ordE L).filter (toB xe.b))).length (fE (((ordE L).filter (toB xe.b)))) l82) ∧ (m 8 = true → Vec 34 51 (.slice a83 ((((ordE L).filter (toB xe.a)) ++ ((ordE L).filter (toB xe.b)))).length c83) ((((ordE L).filter (toB xe.a)) ++ ((ordE L).filter (toB xe.b)))).length (fE ((((ordE L).filter (toB xe.a)) ++ ((ordE L).filter (toB xe.b))))) l83) ∧ (m 8 = true → m 3 = true)) ∧ St w [] ((t1, tabO 128 m1) :: (m1, .map es ck) :: (b12, cb (cE xe) 34) :: ((bif m 7 then l82 else []) ++ ((bif m 8 then l83 else (bif m 3 then l78 else [])) ++ [(qo, cb (fE (ordE L) ++ spo) 34)]))) w1)
                have hp3 : m 3 = true := predsT hp (by kernel_rfl)
                have hp7 : m 7 = true := predsT hp (by kernel_rfl)
                have hp7 : m 7 = true := predsT hp (by kernel_rfl)
                refine J.pr (fun hF => ?_)
                have hfa := List.length_filter_le (toB xe.a) (ordE L)
                have hfb := List.length_filter_le (toB xe.b) (ordE L)
                refine J.conseq (I' := St w [] (l78 ++ ((t1, tabO 128 m1) :: (m1, .map es ck) :: (b12, cb (cE xe) 34) :: (l82 ++ [(qo, cb (fE (ordE L) ++ spo) 34)])))) ?_ (fun w1 hw => by simp only [hm, hp3, hp7, cond_true, cond_false] at hw; exact hw.perm (by (refine perm_cnt (fun _ => ?_)); simp only [cntB_append, cntB_cons, cntB_nil, Nat.add_zero, Nat.zero_add]; try ac_rfl))
                refine J.append (lp := l78) (xs := fE ((ordE L).filter (toB xe.a))) (ys := fE ((ordE L).filter (toB xe.b))) (k := ((ordE L).filter (toB xe.a)).length) (m := ((ordE L).filter (toB xe.b)).length) Ty.el62 Ty.s34 Ty.b34 Ty.zE_ rfl (.inl ⟨34, Ty.u62⟩) rfl rfl (hF.1 hp3) (fun w3 hw3 => .inl (vec_rowM (hF.2.1 hp7) hw3 (fun q hq => by simp [hq]))) (fE_length _) (fun y hy => fE_one hy) (by omega) (by omega) rfl (fun vn ln hvn => ?_)
                obtain ⟨an, cn, rfl, hcn⟩ := hvn.form
                refine J.name 83 rfl (show _ = Value.slice an ((((ordE L).filter (toB xe.a)) ++ ((ordE L).filter (toB xe.b)))).length cn by rw [List.length_append]) ?_
                refine J.nil (JX.finB rfl (fun w1 hw => ⟨⟨⟨v78, l78, v82, l82, an, cn, ln⟩, rfl, fun j h1 h2 => ?_, ?_⟩, trivial⟩))
                · match j, h1 with
                  | 0, _ => rfl
                  | 1, _ => rfl
                  | 2, _ => rfl
                  | 3, _ => rfl
                  | 4, _ => rfl
                  | 5, _ => rfl
                  | 6, _ => rfl
                  | 7, _ => rfl
                  | 8, _ => exact absurd (h2.symm.trans hm) (by decide)
                  | 9, _ => rfl
                  | 10, _ => rfl
                  | j + 11, h1 => omega
                show ((m 3 = true → Vec 34 51 v78 (((ordE L).filter (toB xe.a))).length (fE (((ordE L).filter (toB xe.a)))) l78) ∧ (m 7 = true → Vec 34 51 v82 (((ordE L).filter (toB xe.b))).length (fE (((ordE L).filter (toB xe.b)))) l82) ∧ (true = true → Vec 34 51 (.slice an ((((ordE L).filter (toB xe.a)) ++ ((ordE L).filter (toB xe.b)))).length cn) ((((ordE L).filter (toB xe.a)) ++ ((ordE L).filter (toB xe.b)))).length (fE ((((ordE L).filter (toB xe.a)) ++ ((ordE L).filter (toB xe.b))))) ln) ∧ (true = true → m 3 = true)) ∧ St w [] ((t1, tabO 128 m1) :: (m1, .map es ck) :: (b12, cb (cE xe) 34) :: ((bif m 7 then l82 else []) ++ ((bif true then ln else (bif m 3 then l78 else [])) ++ [(qo, cb (fE (ordE L) ++ spo) 34)]))) w1
                simp only [hm, hp3, hp7, cond_true, cond_false] at hw ⊢
                exact ⟨⟨fun _ => hF.1 hp3, fun _ => hF.2.1 hp7, fun _ => by rw [List.length_append, fE_append]; exact hvn, fun _ => trivial⟩, hw.perm (by (refine perm_cnt (fun _ => ?_)); simp only [cntB_append, cntB_cons, cntB_nil, Nat.add_zero, Nat.zero_add]; try ac_rfl)⟩
              · skip
                obtain ⟨v78, l78, v82, l82, a83, c83, l83⟩ := x
                show J _ _ _ _ _ ((83, .slice a83 ((((ordE L).filter (toB xe.a)) ++ ((ordE L).filter (toB xe.b)))).length c83) :: _) (fun w1 => ((m 3 = true → Vec 34 51 v78 (((ordE L).filter (toB xe.a))).length (fE (((ordE L).filter (toB xe.a)))) l78) ∧ (m 7 = true → Vec 34 51 v82 (((ordE L).filter (toB xe.b))).length (fE (((ordE L).filter (toB xe.b)))) l82) ∧ (m 8 = true → Vec 34 51 (.slice a83 ((((ordE L).filter (toB xe.a)) ++ ((ordE L).filter (toB xe.b)))).length c83) ((((ordE L).filter (toB xe.a)) ++ ((ordE L).filter (toB xe.b)))).length (fE ((((ordE L).filter (toB xe.a)) ++ ((ordE L).filter (toB xe.b))))) l83) ∧ (m 8 = true → m 3 = true)) ∧ St w [] ((t1, tabO 128 m1) :: (m1, .map es ck) :: (b12, cb (cE xe) 34) :: ((bif m 7 then l82 else []) ++ ((bif m 8 then l83 else (bif m 3 then l78 else [])) ++ [(qo, cb (fE (ordE L) ++ spo) 34)]))) w1)
                refine J.pr (fun hF => ?_)
                refine J.lenS rfl Ty.u62 rfl rfl ?_
                exact J.nil (JX.finB rfl (fun w1 hw => ⟨⟨⟨v78, l78, v82, l82, a83, c83, l83⟩, rfl, fun _ _ _ => rfl, hF, hw⟩, trivial⟩))
              · skip
                obtain ⟨v78, l78, v82, l82, a83, c83, l83⟩ := x
                show J _ _ _ _ _ (_) (fun w1 => ((m 3 = true → Vec 34 51 v78 (((ordE L).filter (toB xe.a))).length (fE (((ordE L).filter (toB xe.a)))) l78) ∧ (m 7 = true → Vec 34 51 v82 (((ordE L).filter (toB xe.b))).length (fE (((ordE L).filter (toB xe.b)))) l82) ∧ (m 8 = true → Vec 34 51 (.slice a83 ((((ordE L).filter (toB xe.a)) ++ ((ordE L).filter (toB xe.b)))).length c83) ((((ordE L).filter (toB xe.a)) ++ ((ordE L).filter (toB xe.b)))).length (fE ((((ordE L).filter (toB xe.a)) ++ ((ordE L).filter (toB xe.b))))) l83) ∧ (m 8 = true → m 3 = true)) ∧ St w [] ((t1, tabO 128 m1) :: (m1, .map es ck) :: (b12, cb (cE xe) 34) :: ((bif m 7 then l82 else []) ++ ((bif m 8 then l83 else (bif m 3 then l78 else [])) ++ [(qo, cb (fE (ordE L) ++ spo) 34)]))) w1)
                refine J.pr (fun hF => ?_)
                refine J.move rfl rfl ?_
                exact J.nil (JX.finB rfl (fun w1 hw => ⟨⟨⟨v78, l78, v82, l82, a83, c83, l83⟩, rfl, fun _ _ _ => rfl, hF, hw⟩, trivial⟩))
            case htail =>
              intro x
              obtain ⟨v78, l78, v82, l82, a83, c83, l83⟩ := x
              show J _ _ _ _ _ ((85, .int .i64 0) :: (84, .int .i64 ((((((ordE L).filter (toB xe.a)) ++ ((ordE L).filter (toB xe.b)))).length : Nat) : Int)) :: (83, .slice a83 ((((ordE L).filter (toB xe.a)) ++ ((ordE L).filter (toB xe.b)))).length c83) :: (82, v82) :: (81, .agg (cI xe.b).toArray) :: (80, .pointer (some ⟨b12, 0 + 33, none⟩)) :: (79, .pointer (some ⟨t1, 0, none⟩)) :: (78, v78) :: (77, .agg (cI xe.a).toArray) :: (76, .pointer (some ⟨b12, 0 + 17, none⟩)) :: (75, .pointer (some ⟨t1, 0, none⟩)) :: _) (fun w1 => ((true = true → Vec 34 51 v78 (((ordE L).filter (toB xe.a))).length (fE (((ordE L).filter (toB xe.a)))) l78) ∧ (true = true → Vec 34 51 v82 (((ordE L).filter (toB xe.b))).length (fE (((ordE L).filter (toB xe.b)))) l82) ∧ (true = true → Vec 34 51 (.slice a83 ((((ordE L).filter (toB xe.a)) ++ ((ordE L).filter (toB xe.b)))).length c83) ((((ordE L).filter (toB xe.a)) ++ ((ordE L).filter (toB xe.b)))).length (fE ((((ordE L).filter (toB xe.a)) ++ ((ordE L).filter (toB xe.b))))) l83) ∧ (true = true → true = true)) ∧ St w [] ((t1, tabO 128 m1) :: (m1, .map es ck) :: (b12, cb (cE xe) 34) :: ((bif true then l82 else []) ++ ((bif true then l83 else (bif true then l78 else [])) ++ [(qo, cb (fE (ordE L) ++ spo) 34)]))) w1)
              refine J.pr (fun hF => ?_)
              have hfa := List.length_filter_le (toB xe.a) (ordE L)
              have hfb := List.length_filter_le (toB xe.b) (ordE L)
              have hv83 := hF.2.2.1 rfl
              refine J.conseq (I' := St w [] ((t1, tabO 128 m1) :: (m1, .map es ck) :: (b12, cb (cE xe) 34) :: ([(qo, cb (fE (ordE L) ++ spo) 34)] ++ l83))) ?_ (fun w1 hw => by simp only [cond_true] at hw; exact (hw.perm (l' := (t1, tabO 128 m1) :: (m1, .map es ck) :: (b12, cb (cE xe) 34) :: ([(qo, cb (fE (ordE L) ++ spo) 34)] ++ (l83 ++ l82))) (by (refine perm_cnt (fun _ => ?_)); simp only [cntB_append, cntB_cons, cntB_nil, Nat.add_zero, Nat.zero_add]; try ac_rfl)).drop (.cons_cons _ (.cons_cons _ (.cons_cons _ (List.Sublist.append_left (List.sublist_append_left _ _) _)))))
              refine J.nil ?_
              refine JX.thenN (hK34 _ _ ?_)
              refine JC.block ?_
              refine JC.conseq (JC.cov (f := (fun st => [(3, .pointer (some ⟨t1, 0, none⟩)), (6, .int .i64 ((viaS (ordE L) 8 : Nat) : Int)), (10, .int .i64 ((z2 : Nat) : Int)), (59, .slice (some ⟨qo, 0, none⟩) (ordE L).length co), (60, .int .i64 (((ordE L).length : Nat) : Int)), (61, .int .i64 ((i : Nat) : Int)), (12, .pointer (some ⟨b12, 0, none⟩)), (13, .int .i64 ((st.2 : Nat) : Int)), (83, .slice a83 ((((ordE L).filter (toB xe.a)) ++ ((ordE L).filter (toB xe.b)))).length c83), (84, .int .i64 ((((((ordE L).filter (toB xe.a)) ++ ((ordE L).filter (toB xe.b)))).length : Nat) : Int)), (85, .int .i64 ((st.1 : Nat) : Int))]) ((0, 0) : Nat × Nat)) ⟨rfl, rfl, rfl, rfl, rfl, rfl, rfl, rfl, rfl, rfl, rfl, trivial⟩ (JC.loop (α := Nat × Nat) (fun st => [(3, .pointer (some ⟨t1, 0, none⟩)), (6, .int .i64 ((viaS (ordE L) 8 : Nat) : Int)), (10, .int .i64 ((z2 : Nat) : Int)), (59, .slice (some ⟨qo, 0, none⟩) (ordE L).length co), (60, .int .i64 (((ordE L).length : Nat) : Int)), (61, .int .i64 ((i : Nat) : Int)), (12, .pointer (some ⟨b12, 0, none⟩)), (13, .int .i64 ((st.2 : Nat) : Int)), (83, .slice a83 ((((ordE L).filter (toB xe.a)) ++ ((ordE L).filter (toB xe.b)))).length c83), (84, .int .i64 ((((((ordE L).filter (toB xe.a)) ++ ((ordE L).filter (toB xe.b)))).length : Nat) : Int)), (85, .int .i64 ((st.1 : Nat) : Int))]) (fun st w' => (st.1 ≤ ((((ordE L).filter (toB xe.a)) ++ ((ordE L).filter (toB xe.b)))).length ∧ st.2 = (((((ordE L).filter (toB xe.a)) ++ ((ordE L).filter (toB xe.b)))).take st.1).countP (fun y => decide (y = xe))) ∧ St w [] ((t1, tabO 128 m1) :: (m1, .map es ck) :: (b12, cb (cE xe) 34) :: ([(qo, cb (fE (ordE L) ++ spo) 34)] ++ l83)) w') (fun st => ((((ordE L).filter (toB xe.a)) ++ ((ordE L).filter (toB xe.b)))).length - st.1) ((0, 0) : Nat × Nat) (fun st => ?_))) (fun w hw => ⟨⟨Nat.zero_le _, rfl⟩, hw⟩)
              obtain ⟨j, fd⟩ := st
              refine JC.pr (fun hx1 => ?_)
              obtain ⟨hj, hfd⟩ := hx1
              simp only at hj hfd ⊢
              have hfj : fd ≤ j := by rw [hfd]; exact Nat.le_trans List.countP_le_length (by rw [List.length_take]; omega)
              refine JC.seq (fun K35 hK35 => ?_)
              refine JC.region ?_
              refine J.bin rfl rfl rfl rfl ?_
              refine J.nil ?_
              refine JX.thenN (hK35 _ _ ?_)
              refine JC.seq (fun K36 hK36 => ?_)
              refine JC.cond rfl (fun h8 => ?_) (fun h8 => ?_)
              · skip
                have hxl83 : ((((ordE L).filter (toB xe.a)) ++ ((ordE L).filter (toB xe.b)))).length ≤ 256 := by rw [List.length_append]; omega
                have hltj : j < ((((ordE L).filter (toB xe.a)) ++ ((ordE L).filter (toB xe.b)))).length := by simp at h8; simp; omega
                obtain ⟨q83, sp83, rfl, rfl, hs83, hc83⟩ := vec_pos hv83 (by omega)
                obtain ⟨ye, hye⟩ : ∃ y, ((((ordE L).filter (toB xe.a)) ++ ((ordE L).filter (toB xe.b))))[j]? = some y := ⟨_, List.getElem?_eq_getElem hltj⟩
                have hyo : okE ye := ordE_ok hT ye (by rcases List.mem_append.1 (List.mem_of_getElem? hye) with h | h <;> exact (List.mem_filter.1 h).1)
                refine JC.skip ?_
                refine JX.thenN (hK36 _ _ ?_)
                refine JC.seq (fun K37 hK37 => ?_)
                refine JC.block ?_
                refine JC.seq (fun K38 hK38 => ?_)
                refine JC.region ?_
                refine J.indexAddrS Ty.el62 Ty.s34 rfl rfl (by omega) (by omega) rfl ?_
                refine J.loadA (vs := cE ye) Ty.a34 Ty.s34 rfl rfl (fun w1 hw => rowE_at (o := 0) (vec_rowM hv83 hw (fun q hq => by first | (simp [hq]; done) | (simp at hq; simp [hq]; done) | (simp at hq; subst hq; simp))) hye (by omega)) rfl ?_
                refine J.alloc Ty.zE_ rfl rfl (fun b15 => ?_)
                refine J.storeW (cs := cE zE) (vs := cE ye) Ty.s34 rfl rfl rfl rfl rfl (one_cE _) .here ?_
                refine J.nil ?_
                refine JX.thenN (hK38 _ _ ?_)
                refine JC.seq (fun K39 hK39 => ?_)
                refine JC.region ?_
                refine J.loadOA (vs := cE ye) Ty.a34 Ty.s34 rfl (.head _) rfl rfl rfl ?_
                refine J.loadOA (vs := cE xe) Ty.a34 Ty.s34 rfl (.tail _ (.tail _ (.tail _ (.head _)))) rfl rfl rfl ?_
                refine J.eqE Ty.QE Ty.keyE rfl rfl hyo hxo rfl ?_
                refine J.nil ?_
                refine JX.thenN (hK39 _ _ ?_)
                refine JC.cond rfl (fun h9 => ?_) (fun h9 => ?_)
                · skip
                  have heq : ye = xe := by simpa using h9
                  refine JC.region ?_
                  refine J.move rfl rfl ?_
                  refine J.addN rfl rfl (by omega) (by omega) rfl ?_
                  refine J.name 93 rfl (show _ = .int .i64 ((fd + 1 : Nat) : Int) by first | (congr 1; omega) | congr 1 | rfl) ?_
                  refine J.assign rfl rfl ?_
                  refine J.nil ?_
                  refine JX.blockN ?_
                  refine JX.thenN (hK37 _ _ ?_)
                  refine JC.region ?_
                  (first | refine J.addN rfl rfl (by omega) (by omega) rfl ?_ | refine J.bin rfl rfl rfl rfl ?_)
                  refine J.move rfl rfl ?_
                  refine J.nil ?_
                  refine JX.thenN ?_
                  refine JX.again ((j + 1, fd + 1) : Nat × Nat) ?_ ?_ ?_
                  · simp only; omega
                  · exact ⟨rfl, rfl, rfl, rfl, rfl, rfl, rfl, rfl, rfl, rfl, rfl, trivial⟩
                  · exact fun w1 hw => ⟨⟨hltj, by rw [countE_step hye, ← hfd]; simp [bN, heq]⟩, hw.drop (List.sublist_cons_self _ _)⟩
                · skip
                  have heq : ¬ ye = xe := by simpa using h9
                  refine JC.skip ?_
                  refine JX.blockN ?_
                  refine JX.thenN (hK37 _ _ ?_)
                  refine JC.region ?_
                  (first | refine J.addN rfl rfl (by omega) (by omega) rfl ?_ | refine J.bin rfl rfl rfl rfl ?_)
                  refine J.move rfl rfl ?_
                  refine J.nil ?_
                  refine JX.thenN ?_
                  refine JX.again ((j + 1, fd) : Nat × Nat) ?_ ?_ ?_
                  · simp only; omega
                  · exact ⟨rfl, rfl, rfl, rfl, rfl, rfl, rfl, rfl, rfl, rfl, rfl, trivial⟩
                  · exact fun w1 hw => ⟨⟨hltj, by rw [countE_step hye, ← hfd]; simp [bN, heq]⟩, hw.drop (List.sublist_cons_self _ _)⟩
              · skip
                have hxl83 : ((((ordE L).filter (toB xe.a)) ++ ((ordE L).filter (toB xe.b)))).length ≤ 256 := by rw [List.length_append]; omega
                have hge8 : j = ((((ordE L).filter (toB xe.a)) ++ ((ordE L).filter (toB xe.b)))).length := by have hj9 := hj; rw [List.length_append] at hj9 ⊢; simp at h8; omega
                have hfd2 : fd = 2 := by rw [hfd, hge8, List.take_length]; exact found_two hT hxm
                refine JC.exit ?_
                refine JX.thenE ?_
                refine JX.thenE ?_
                refine JX.blockE ?_
                refine JX.thenN (hK33 _ _ ?_)
                refine JC.seq (fun K40 hK40 => ?_)
                refine JC.region ?_
                refine J.move rfl rfl ?_
                refine J.bin rfl rfl rfl rfl ?_
                refine J.name 96 rfl (show _ = Value.bool false by rw [hfd2]; rfl) ?_
                refine J.nil ?_
                refine JX.thenN (hK40 _ _ ?_)
                first | refine JC.condF rfl ?_ | refine JC.cond rfl (fun h => by first | (exfalso; simp at h; omega) | (simp at h)) (fun _ => ?_)
                refine JC.skip ?_
                refine JX.blockN ?_
                refine JX.thenN (hK28 _ _ ?_)
                refine JC.region ?_
                (first | refine J.addN rfl rfl (by omega) (by omega) rfl ?_ | refine J.bin rfl rfl rfl rfl ?_)
                refine J.move rfl rfl ?_
                refine J.nil ?_
                have hz3 : some (Value.int .i64 ((z2 : Nat) : Int)) = some (Value.int .i64 ((wantS ((ordE L).take (i + 1)) : Nat) : Int)) := by rw [wantS_snoc hxe, ← hz1, ← hz2]
                refine JX.thenN ?_
                refine JX.again (i + 1) ?_ ?_ ?_
                · omega
                · exact ⟨rfl, rfl, hz3, rfl, rfl, rfl, trivial⟩
                · exact fun w1 hw => ⟨hlt3, hw.drop (.cons_cons _ (.cons_cons _ (.cons _ (List.sublist_append_left _ _))))⟩
          · skip
            refine JC.seq (fun K41 hK41 => ?_)
            refine JC.region ?_
            refine J.fieldAddr Ty.fd34_4 rfl rfl ?_
            refine J.load1 (v := .int .i64 xe.nb) Ty.a3 rfl (fun w1 hw => by rw [cell_of (hw.own _ (.tail _ (.tail _ (.head _))))]; rfl) rfl ?_
            refine J.bin rfl rfl rfl rfl ?_
            refine J.nil ?_
            refine JX.thenN (hK41 _ _ ?_)
            refine JC.cond rfl (fun h7 => ?_) (fun h7 => ?_)
            · skip
              have hnb : 0 ≤ xe.nb := by simp at h7; omega
              refine JC.region ?_
              refine J.move rfl rfl ?_
              have hwx : wa xe ≤ 1 := by unfold wa; split <;> omega
              refine J.addN rfl rfl (by omega) (by omega) rfl ?_
              refine J.name 74 rfl (show _ = .int .i64 ((z1 + 1 : Nat) : Int) by first | (congr 1; omega) | congr 1 | rfl) ?_
              refine J.assign rfl rfl ?_
              refine J.nil ?_
              refine JX.thenN ?_
              exact JX.cut (hK31 (z1 + 1)) ⟨rfl, rfl, rfl, rfl, rfl, rfl, rfl, trivial⟩ (fun w1 hw => ⟨by simp [wb, hnb], hw⟩)
            · skip
              have hnb : ¬ 0 ≤ xe.nb := by simp at h7; omega
              refine JC.skip ?_
              refine JX.thenN ?_
              exact JX.cut (hK31 (z1)) ⟨rfl, rfl, rfl, rfl, rfl, rfl, rfl, trivial⟩ (fun w1 hw => ⟨by simp [wb, hnb], hw⟩)
        · skip
          refine JC.seq (fun K42 hK42 => ?_)
          refine JC.region ?_
          refine J.fieldAddr Ty.fd34_3 rfl rfl ?_
          refine J.load1 (v := .int .i64 xe.na) Ty.a3 rfl (fun w1 hw => by rw [cell_of (hw.own _ (.tail _ (.tail _ (.head _))))]; rfl) rfl ?_
          refine J.bin rfl rfl rfl rfl ?_
          refine J.nil ?_
          refine JX.thenN (hK42 _ _ ?_)
          refine JC.cond rfl (fun h6 => ?_) (fun h6 => ?_)
          · skip
            have hna : 0 ≤ xe.na := by simp at h6; omega
            refine JC.region ?_
            refine J.move rfl rfl ?_
            refine J.addN rfl rfl (by omega) (by omega) rfl ?_
            refine J.name 69 rfl (show _ = .int .i64 ((wantS ((ordE L).take i) + 1 : Nat) : Int) by first | (congr 1; omega) | congr 1 | rfl) ?_
            refine J.assign rfl rfl ?_
            refine J.nil ?_
            refine JX.thenN ?_
            exact JX.cut (hK30 (wantS ((ordE L).take i) + 1)) ⟨rfl, rfl, rfl, rfl, rfl, rfl, rfl, trivial⟩ (fun w1 hw => ⟨by simp [wa, hna], hw⟩)
          · skip
            have hna : ¬ 0 ≤ xe.na := by simp at h6; omega
            refine JC.skip ?_
            refine JX.thenN ?_
            exact JX.cut (hK30 (wantS ((ordE L).take i))) ⟨rfl, rfl, rfl, rfl, rfl, rfl, rfl, trivial⟩ (fun w1 hw => ⟨by simp [wa, hna], hw⟩)
      · skip
        have hge5 : i = (ordE L).length := by simp at h5; omega
        subst hge5
        rw [List.take_length] at *
        refine JC.exit ?_
        refine JX.thenE ?_
        refine JX.thenE ?_
        refine JX.blockE ?_
        refine JX.thenN (hK24 _ _ ?_)
        refine JC.seq (fun K43 hK43 => ?_)
        refine JC.region ?_
        refine J.move rfl rfl ?_
        refine J.move rfl rfl ?_
        refine J.bin rfl rfl rfl rfl ?_
        refine J.name 100 rfl (show _ = Value.bool true by rw [viaS_8 horg]; simp) ?_
        refine J.assign rfl rfl ?_
        refine J.nil ?_
        refine JX.thenN (hK43 _ _ ?_)
        refine JC.ret ?_
        refine JX.ret1 rfl rfl (fun w hw => ?_)
        exact ⟨rfl, (hw.drop (List.nil_sublist _)).below⟩

theorem tableParts_walk (w : World) (o : Sl EV) (ho : RSl 51 72 REnt w [o.v] o) :
    Calls Try.prog 6 [o.v].toArray w fun r w' => r = .returned (.bool true) ∧ Bel w w' := tableParts_spec o.v o.xs w (rslE ho) (rslE_ok ho) (rslE_len ho)
end Go.Proofs.Ytpldpkdlloolkaa
