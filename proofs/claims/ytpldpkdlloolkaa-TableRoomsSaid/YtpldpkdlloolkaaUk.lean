/-
  A table that entries are put into; TableNew and TableUndo: the walks.
-/
import Derived.Test.YtpldpkdlloolkaaUj
namespace Go.Proofs.Ytpldpkdlloolkaa
open Go.J Go.RowKit
set_option linter.unusedVariables false
set_option linter.unusedSimpArgs false
set_option maxRecDepth 4000
/-- the entries of a table, after some were handed in -/
def laidL (most : Int) (l : List EV) : List EV := l.foldl (fun L x => (tadd L most x).2) []
theorem laidL_snoc (most : Int) (l : List EV) (x : EV) : laidL most (l ++ [x]) = (tadd (laidL most l) most x).2 := by
  unfold laidL
  rw [List.foldl_append]
  rfl
structure GoodL (L : List EV) (most : Int) : Prop where
  right : ∀ x, x ∈ L → rightP x
  len : (L.length : Int) ≤ max most 0
theorem tadd_cases (L : List EV) (most : Int) (x : EV) : ((tadd L most x).1 = 0 ∧ (tadd L most x).2 = L ++ [x] ∧ rightP x ∧ tget L x.p = none ∧ (L.length : Int) < most) ∨
    ((tadd L most x).1 ≠ 0 ∧ (tadd L most x).2 = L ∧ (rightP x → tget L x.p = none → most ≤ (L.length : Int))) := by
  unfold tadd
  by_cases h1 : rightP x
  · rw [if_neg (by simpa using h1)]
    by_cases h2 : (tget L x.p).isSome = true
    · rw [if_pos h2]
      exact .inr ⟨by simp, rfl, fun _ h3 => by rw [h3] at h2; cases h2⟩
    · rw [if_neg h2]
      by_cases h3 : most ≤ (L.length : Int)
      · rw [if_pos h3]
        exact .inr ⟨by simp, rfl, fun _ _ => h3⟩
      · rw [if_neg h3]
        refine .inl ⟨rfl, rfl, h1, ?_, by omega⟩
        cases h : tget L x.p with
        | none => rfl
        | some y => rw [h] at h2; simp at h2
  · rw [if_pos h1]
    exact .inr ⟨by simp, rfl, fun h => absurd h h1⟩
theorem GoodL.add {L : List EV} {most : Int} (h : GoodL L most) (x : EV) : GoodL (tadd L most x).2 most := by
  rcases tadd_cases L most x with ⟨_, h2, h3, _, h5⟩ | ⟨_, h2, _⟩
  · rw [h2]
    refine ⟨fun y hy => ?_, by rw [List.length_append, List.length_singleton]; omega⟩
    rcases List.mem_append.1 hy with hy | hy
    · exact h.right y hy
    · rw [List.mem_singleton.1 hy]; exact h3
  · rw [h2]; exact h
theorem laidL_good (most : Int) (l : List EV) : GoodL (laidL most l) most := by
  have key : ∀ (l L : List EV), GoodL L most → GoodL (l.foldl (fun L x => (tadd L most x).2) L) most := by
    intro l
    induction l with
    | nil => intro L h; exact h
    | cons x l ih => intro L h; exact ih _ (h.add x)
  exact key l [] ⟨(fun x h => by cases h), (by show ((0 : Nat) : Int) ≤ _; omega)⟩
def delL (L : List EV) (p : PV) : List EV := L.filter (fun y => decide (y.p ≠ p))
theorem perm_sorted_mem {α : Type} {le : α → α → Prop} : ∀ {l m : List α}, (∀ a b, a ∈ l → b ∈ l → le a b → le b a → a = b) → l.Perm m → l.Pairwise le → m.Pairwise le → l = m
  | [], m, _, hp, _, _ => (List.Perm.nil_eq hp)
  | a :: l, [], _, hp, _, _ => by have := hp.length_eq; simp at this
  | a :: l, b :: m, anti, hp, hl, hm => by
    have hl' := List.pairwise_cons.1 hl
    have hm' := List.pairwise_cons.1 hm
    have hbl : b ∈ a :: l := hp.mem_iff.2 (.head _)
    have hab : a = b := by
      rcases List.mem_cons.1 (hp.mem_iff.1 (.head _) : a ∈ b :: m) with h | h
      · exact h
      · rcases List.mem_cons.1 hbl with h2 | h2
        · exact h2.symm
        · exact anti a b (.head _) hbl (hl'.1 b h2) (hm'.1 a h)
    subst hab
    rw [perm_sorted_mem (fun x y hx hy => anti x y (.tail _ hx) (.tail _ hy)) (List.Perm.cons_inv hp) hl'.2 hm'.2]
theorem eq_of_p {L : List EV} (hd : L.Pairwise (fun x y => x.p ≠ y.p)) {x y : EV} (hx : x ∈ L) (hy : y ∈ L) (h : x.p = y.p) : x = y := by
  have h1 := tget_some hd hx
  have h2 := tget_some hd hy
  rw [h, h2] at h1
  exact (Option.some.inj h1).symm
theorem sorted_congr {A B : List EV} (hd : A.Pairwise (fun x y => x.p ≠ y.p)) (hq : A.Perm B) (s1 : A.Pairwise (fun a b => ltP b.p a.p = false)) (s2 : B.Pairwise (fun a b => ltP b.p a.p = false)) : A = B := by
  have anti : ∀ a b, a ∈ A → b ∈ A → ltP b.p a.p = false → ltP a.p b.p = false → a = b := fun a b ha hb h1 h2 => eq_of_p hd ha hb (ltP_total h2 h1)
  exact perm_sorted_mem anti hq s1 s2
theorem ordE_congr {L M : List EV} (hp : L.Perm M) (hd : L.Pairwise (fun x y => x.p ≠ y.p)) : ordE L = ordE M :=
  sorted_congr ((ordE_perm L).symm.pairwise hd (fun {a b} h => h.symm)) ((ordE_perm L).trans (hp.trans (ordE_perm M).symm)) (ordE_sorted L) (ordE_sorted M)
theorem del_add {L : List EV} {x : EV} (h : tget L x.p = none) : delL (L ++ [x]) x.p = L := by
  unfold delL
  rw [List.filter_append, filter_no h]
  simp
theorem add_del {L : List EV} {p : PV} {y : EV} (hd : L.Pairwise (fun x y => x.p ≠ y.p)) (h : tget L p = some y) : (delL L p ++ [y]).Perm L ∧ y.p = p ∧ y ∈ L ∧ tget (delL L p) p = none ∧ (delL L p).length + 1 = L.length := by
  have hy := List.mem_of_find?_eq_some h
  have hp : y.p = p := by simpa using List.find?_some h
  obtain ⟨j, hj, hje⟩ := List.getElem_of_mem hy
  have he := erase_filter hd (show L[j]? = some y by rw [List.getElem?_eq_getElem hj, hje])
  rw [hp] at he
  have hdl : delL L p = L.eraseIdx j := he.symm
  refine ⟨?_, hp, hy, tget_none.2 fun x hx => ?_, ?_⟩
  · have hL : L = L.take j ++ L[j] :: L.drop (j + 1) := by rw [List.getElem_cons_drop, List.take_append_drop]
    rw [hdl, List.eraseIdx_eq_take_drop_succ, ← hje]
    refine (List.perm_append_comm).trans ?_
    refine List.Perm.trans ?_ (List.Perm.of_eq hL.symm)
    show (L[j] :: (L.take j ++ L.drop (j + 1))).Perm _
    exact List.perm_middle.symm
  · unfold delL at hx
    rw [List.mem_filter, decide_eq_true_eq] at hx
    exact hx.2
  · rw [hdl, List.length_eraseIdx_of_lt hj]
    omega
theorem ordE_ok {L : List EV} {es : Array MapEntry} {clock : Nat} (hT : Tab L es clock) : ∀ x, x ∈ ordE L → okE x := fun x hx => hT.ok x ((ordE_perm L).mem_iff.1 hx)

def Blk (v : Value) (n : Nat) (lp : List (Nat × Obj)) : Prop := n = 0 ∨ ∃ q c cs, v = .slice (some ⟨q, 0, none⟩) n c ∧ lp = [(q, cb cs 34)] ∧ cs.length = c * 51 ∧ n ≤ c
theorem blk_of {v : Value} {xs : List EV} {lp : List (Nat × Obj)} (h : Vec 34 51 v xs.length (fE xs) lp) : Blk v xs.length lp := by
  rcases h.2 with ⟨_, h2, _⟩ | ⟨b, c, sp, h1, h2, h3, h4⟩
  · exact .inl h2
  · exact .inr ⟨b, c, _, h1, h2, h3, h4⟩
theorem blk_pos {a : Option Addr} {n c : Nat} {lp : List (Nat × Obj)} (h : Blk (.slice a n c) n lp) (h0 : 0 < n) : ∃ q cs, a = some ⟨q, 0, none⟩ ∧ lp = [(q, cb cs 34)] ∧ cs.length = c * 51 ∧ n ≤ c := by
  rcases h with h | ⟨q, c', cs, h1, h2, h3, h4⟩
  · omega
  · simp only [Value.slice.injEq] at h1
    obtain ⟨rfl, _, rfl⟩ := h1
    exact ⟨q, cs, rfl, h2, h3, h4⟩

set_option maxHeartbeats 1000000 in
theorem tableNew_spec (v : Value) (xs : List EV) (w : World) (hrv : Row w v xs.length (fE xs)) (hok : ∀ x, x ∈ xs → okE x) (hxl : xs.length ≤ 1954687338213) :
    Calls Try.prog 5 [v].toArray w fun r w' => r = .returned (.bool true) ∧ Bel w w' := by
  obtain ⟨av, cv, rfl, hcv, _⟩ := id hrv
  refine calls_of_J (args := [.slice av xs.length cv]) (e := [(0, .slice av xs.length cv)]) Try.func5 rfl rfl ⟨rfl, trivial⟩ (St.start w) ?_
  refine JC.seq (fun K0 hK0 => ?_)
  refine JC.region ?_
  refine J.assign rfl rfl ?_
  refine J.nil ?_
  refine JX.thenN (hK0 _ _ ?_)
  refine JC.seq (fun K1 hK1 => ?_)
  refine JC.region ?_
  refine J.perm ([] ++ ([])) (.refl _) ?_
  refine J.callS (α := Nat × Nat) (V := fun x => .pointer (some ⟨x.1, 0, none⟩)) (Pr := fun _ => True) (L := fun x => [(x.1, tabO (min (max (128) 0) 128) x.2), (x.2, .map #[] 0)]) (l1 := []) Ty.bd16 rfl rfl (fun w1 hw => (new_spec 128 w1).mono fun _ _ ⟨x, h1, h2⟩ => ⟨x, h1, trivial, h2⟩) (fun x _ => ?_)
  obtain ⟨t1, m1⟩ := x
  simp only [List.cons_append, List.nil_append]
  rw [show min (max (128 : Int) 0) 128 = 128 by decide]
  refine J.assign rfl rfl ?_
  refine J.nil ?_
  refine JX.thenN (hK1 _ _ ?_)
  refine JC.seq (fun K2 hK2 => ?_)
  refine JC.seq (fun K3 hK3 => ?_)
  refine JC.region ?_
  refine J.move rfl rfl ?_
  refine J.eqNil Ty.u29 rfl rfl rfl ?_
  refine J.move rfl rfl ?_
  first
    | (refine J.skip rfl rfl rfl rfl rfl ?_)
    | (refine J.skipU rfl rfl rfl rfl ?_)
    | (refine J.unguard rfl rfl rfl ?_; refine J.callB (v := .bool true) (fun w1 w2 hw hb => hw.step hb) Ty.bd24 rfl rfl (fun w1 hw => fixed12_spec w1) ?_)
  first
    | (refine J.skip rfl rfl rfl rfl rfl ?_)
    | (refine J.skipU rfl rfl rfl rfl ?_)
    | (refine J.unguard rfl rfl rfl ?_; refine J.not rfl rfl ?_)
  (first | refine J.pickT rfl rfl rfl ?_ | refine J.pickF rfl rfl rfl ?_)
  refine J.nil ?_
  refine JX.thenN (hK3 _ _ ?_)
  first | refine JC.condF rfl ?_ | refine JC.cond rfl (fun h => by first | (exfalso; simp at h; omega) | (simp at h)) (fun _ => ?_)
  refine JC.skip ?_
  refine JX.thenN (hK2 _ _ ?_)
  refine JC.seq (fun K4 hK4 => ?_)
  refine JC.seq (fun K5 hK5 => ?_)
  refine JC.region ?_
  refine J.move rfl rfl ?_
  refine J.lenS rfl Ty.u62 rfl rfl ?_
  refine J.move rfl rfl ?_
  refine J.nil ?_
  refine JX.thenN (hK5 _ _ ?_)
  refine JC.block ?_
  refine JC.conseq (JC.cov (f := (fun st => [(3, .pointer (some ⟨t1, 0, none⟩)), (17, .slice av xs.length cv), (18, .int .i64 ((xs.length : Nat) : Int)), (19, .int .i64 ((st.1 : Nat) : Int))]) ((0, #[], 0) : Nat × Array MapEntry × Nat)) ⟨rfl, rfl, rfl, rfl, trivial⟩ (JC.loop (α := Nat × Array MapEntry × Nat) (fun st => [(3, .pointer (some ⟨t1, 0, none⟩)), (17, .slice av xs.length cv), (18, .int .i64 ((xs.length : Nat) : Int)), (19, .int .i64 ((st.1 : Nat) : Int))]) (fun st w' => (st.1 ≤ xs.length ∧ Tab (laidL 128 (xs.take st.1)) st.2.1 st.2.2) ∧ St w [] ((t1, tabO 128 m1) :: (m1, .map st.2.1 st.2.2) :: []) w') (fun st => xs.length - st.1) ((0, #[], 0) : Nat × Array MapEntry × Nat) (fun st => ?_))) (fun w hw => ⟨⟨Nat.zero_le _, Tab.nil⟩, hw⟩)
  obtain ⟨i, es, ck⟩ := st
  refine JC.pr (fun hx1 => ?_)
  obtain ⟨hi, hT⟩ := hx1
  simp only at hi hT ⊢
  refine JC.seq (fun K6 hK6 => ?_)
  refine JC.region ?_
  refine J.bin rfl rfl rfl rfl ?_
  refine J.nil ?_
  refine JX.thenN (hK6 _ _ ?_)
  refine JC.seq (fun K7 hK7 => ?_)
  refine JC.cond rfl (fun h1 => ?_) (fun h1 => ?_)
  · skip
    have hlt : i < xs.length := by simp at h1; omega
    have hflx := fE_length xs
    have hclx := (Row.some hrv (by omega))
    obtain ⟨qx, ox, cx', hqe, _, _⟩ := hclx
    simp only [Value.slice.injEq] at hqe
    obtain ⟨rfl, _, rfl⟩ := hqe
    obtain ⟨xa, hxa⟩ : ∃ x, xs[i]? = some x := ⟨_, List.getElem?_eq_getElem hlt⟩
    have hxo := hok xa (List.mem_of_getElem? hxa)
    refine JC.skip ?_
    refine JX.thenN (hK7 _ _ ?_)
    refine JC.seq (fun K8 hK8 => ?_)
    refine JC.block ?_
    refine JC.seq (fun K9 hK9 => ?_)
    refine JC.region ?_
    refine J.indexAddrS Ty.el62 Ty.s34 rfl rfl (by omega) (by omega) rfl ?_
    refine J.loadA (vs := cE xa) Ty.a34 Ty.s34 rfl rfl (fun w1 hw => rowE_at (hrv.below (hw.drop (List.nil_sublist _)).below) hxa (by omega)) rfl ?_
    refine J.alloc Ty.zE_ rfl rfl (fun b5 => ?_)
    refine J.storeW (cs := cE zE) (vs := cE xa) Ty.s34 rfl rfl rfl rfl rfl (one_cE _) .here ?_
    refine J.nil ?_
    refine JX.thenN (hK9 _ _ ?_)
    refine JC.region ?_
    refine J.move rfl rfl ?_
    refine J.loadOA (vs := cE xa) Ty.a34 Ty.s34 rfl (.head _) rfl rfl rfl ?_
    refine J.perm ([(t1, tabO 128 m1), (m1, .map es ck)] ++ ((b5, cb (cE xa) 34) :: [])) (by (refine perm_cnt (fun _ => ?_)); simp only [cntB_append, cntB_cons, cntB_nil, Nat.add_zero, Nat.zero_add]; try ac_rfl) ?_
    refine J.callS (α := Array MapEntry × Nat) (V := fun _ => .int .i64 (tadd (laidL 128 (xs.take i)) 128 xa).1) (Pr := fun y => Tab (tadd (laidL 128 (xs.take i)) 128 xa).2 y.1 y.2) (L := fun y => [(t1, tabO 128 m1), (m1, .map y.1 y.2)]) (l1 := [(t1, tabO 128 m1), (m1, .map es ck)]) Ty.bd17 rfl rfl (fun w1 hw => (add_spec t1 m1 128 (laidL 128 (xs.take i)) es ck w1 hw.owns hT xa hxo).mono fun _ _ ⟨y, h1, h2, h3⟩ => ⟨y, h1, h2, h3⟩) (fun y hT2 => ?_)
    obtain ⟨es2, ck2⟩ := y
    simp only [List.cons_append, List.nil_append] at hT2 ⊢
    refine J.nil ?_
    refine JX.blockN ?_
    refine JX.thenN (hK8 _ _ ?_)
    refine JC.region ?_
    (first | refine J.addN rfl rfl (by omega) (by omega) rfl ?_ | refine J.bin rfl rfl rfl rfl ?_)
    refine J.move rfl rfl ?_
    refine J.nil ?_
    refine JX.thenN ?_
    refine JX.again ((i + 1, es2, ck2) : Nat × Array MapEntry × Nat) ?_ ?_ ?_
    · simp only; omega
    · exact ⟨rfl, rfl, rfl, rfl, trivial⟩
    · exact fun w1 hw => ⟨⟨hlt, by rw [take_snocE hxa, laidL_snoc]; exact hT2⟩, hw.drop (.cons_cons _ (.cons_cons _ (List.sublist_cons_self _ _)))⟩
  · skip
    have hge : i = xs.length := by simp at h1; omega
    rw [List.take_of_length_le (by omega)] at hT
    obtain ⟨L, hLe⟩ : ∃ L, laidL 128 xs = L := ⟨_, rfl⟩
    have hgood := laidL_good 128 xs
    rw [hLe] at hT hgood
    have hL128 := hgood.len
    have hol := (ordE_perm L).length_eq
    refine JC.exit ?_
    refine JX.thenE ?_
    refine JX.thenE ?_
    refine JX.blockE ?_
    refine JX.thenN (hK4 _ _ ?_)
    refine JC.seq (fun K10 hK10 => ?_)
    refine JC.region ?_
    refine J.move rfl rfl ?_
    have hol2 : (ordE L).length ≤ 128 := by rw [hol]; omega
    refine J.perm ([] ++ ((t1, tabO 128 m1) :: (m1, .map es ck) :: [])) (.refl _) ?_
    refine J.callS (α := Value × List (Nat × Obj)) (V := (·.1)) (Pr := fun x => Vec 34 51 x.1 (ordE L).length (fE (ordE L)) x.2) (L := (·.2)) (l1 := []) Ty.bd25 rfl rfl (fun w1 hw => all_spec t1 m1 128 (L) es ck w1 (hw.own _ (.head _)) (hw.own _ (.tail _ (.head _))) hT (by omega)) (fun x hva => ?_)
    obtain ⟨va, la⟩ := x
    simp only at hva ⊢
    obtain ⟨aa, ca, rfl, hcva⟩ := hva.form
    refine J.move rfl rfl ?_
    refine J.perm ((t1, tabO 128 m1) :: (m1, .map es ck) :: (la ++ [])) (by (refine perm_cnt (fun _ => ?_)); simp only [cntB_append, cntB_cons, cntB_nil, Nat.add_zero, Nat.zero_add]; try ac_rfl) ?_
    refine J.perm ([] ++ ((t1, tabO 128 m1) :: (m1, .map es ck) :: (la ++ []))) (.refl _) ?_
    refine J.callS (α := Value × List (Nat × Obj)) (V := (·.1)) (Pr := fun x => Vec 34 51 x.1 (ordE L).length (fE (ordE L)) x.2) (L := (·.2)) (l1 := []) Ty.bd25 rfl rfl (fun w1 hw => all_spec t1 m1 128 (L) es ck w1 (hw.own _ (.head _)) (hw.own _ (.tail _ (.head _))) hT (by omega)) (fun x hvb => ?_)
    obtain ⟨vb, lb⟩ := x
    simp only at hvb ⊢
    obtain ⟨ab, cb_, rfl, hcvb⟩ := hvb.form
    refine J.assign rfl rfl ?_
    refine J.assign rfl rfl ?_
    refine J.nil ?_
    refine JX.thenN (hK10 _ _ ?_)
    refine JC.seq (fun K11 hK11 => ?_)
    refine JC.region ?_
    refine J.buildSl (cs := []) Ty.el62 Ty.s34 Ty.zE_ rfl rfl rfl rfl rfl rfl rfl (fun b31 => ?_)
    refine J.move rfl rfl ?_
    refine J.perm ([(b31, cb [] 34)] ++ (lb ++ ((t1, tabO 128 m1) :: (m1, .map es ck) :: (la ++ [])))) (by (refine perm_cnt (fun _ => ?_)); simp only [cntB_append, cntB_cons, cntB_nil, Nat.add_zero, Nat.zero_add]; try ac_rfl) ?_
    refine J.append (lp := [(b31, cb [] 34)]) (xs := []) (ys := fE (ordE L)) (k := 0) (m := (ordE L).length) Ty.el62 Ty.s34 Ty.b34 Ty.zE_ rfl (.inl ⟨34, Ty.u62⟩) rfl rfl ⟨rfl, .inr ⟨b31, 0, [], rfl, rfl, rfl, Nat.le_refl _⟩⟩ (fun w3 hw3 => .inl (vec_rowM hvb hw3 (fun q hq => by first | (simp [hq]; done) | (simp at hq; simp [hq]; done) | (simp at hq; subst hq; simp)))) (fE_length _) (fun y hy => fE_one hy) (by omega) (by omega) rfl (fun vw lw hvw => ?_)
    rw [Nat.zero_add, List.nil_append] at hvw
    obtain ⟨aw, cw, rfl, hcvw⟩ := hvw.form
    have hbl := blk_of hva
    refine J.assign rfl rfl ?_
    refine J.nil ?_
    refine JX.thenN (hK11 _ _ ?_)
    refine JC.seq (fun K12 hK12 => ?_)
    refine JC.seq (fun K13 hK13 => ?_)
    refine JC.region ?_
    refine J.move rfl rfl ?_
    refine J.lenS rfl Ty.u62 rfl rfl ?_
    refine J.move rfl rfl ?_
    refine J.nil ?_
    refine JX.thenN (hK13 _ _ ?_)
    refine JC.block ?_
    refine JC.conseq (JC.cov (f := (fun st => [(3, .pointer (some ⟨t1, 0, none⟩)), (6, .slice aa (ordE L).length ca), (7, .slice ab (ordE L).length cb_), (8, .slice aw (ordE L).length cw), (34, .slice aa (ordE L).length ca), (35, .int .i64 (((ordE L).length : Nat) : Int)), (36, .int .i64 ((st.1 : Nat) : Int))]) ((0, la) : Nat × List (Nat × Obj))) ⟨rfl, rfl, rfl, rfl, rfl, rfl, rfl, trivial⟩ (JC.loop (α := Nat × List (Nat × Obj)) (fun st => [(3, .pointer (some ⟨t1, 0, none⟩)), (6, .slice aa (ordE L).length ca), (7, .slice ab (ordE L).length cb_), (8, .slice aw (ordE L).length cw), (34, .slice aa (ordE L).length ca), (35, .int .i64 (((ordE L).length : Nat) : Int)), (36, .int .i64 ((st.1 : Nat) : Int))]) (fun st w' => (st.1 ≤ (ordE L).length ∧ Blk (.slice aa (ordE L).length ca) (ordE L).length st.2) ∧ St w [] (st.2 ++ (lb ++ (lw ++ ((t1, tabO 128 m1) :: (m1, .map es ck) :: [])))) w') (fun st => (ordE L).length - st.1) ((0, la) : Nat × List (Nat × Obj)) (fun st => ?_))) (fun w hw => ⟨⟨Nat.zero_le _, hbl⟩, hw.perm (by (refine perm_cnt (fun _ => ?_)); simp only [cntB_append, cntB_cons, cntB_nil, Nat.add_zero, Nat.zero_add]; try ac_rfl)⟩)
    obtain ⟨j, lj⟩ := st
    refine JC.pr (fun hx1 => ?_)
    obtain ⟨hj, hblj⟩ := hx1
    simp only at hj hblj ⊢
    refine JC.seq (fun K14 hK14 => ?_)
    refine JC.region ?_
    refine J.bin rfl rfl rfl rfl ?_
    refine J.nil ?_
    refine JX.thenN (hK14 _ _ ?_)
    refine JC.seq (fun K15 hK15 => ?_)
    refine JC.cond rfl (fun h2 => ?_) (fun h2 => ?_)
    · skip
      have hltj : j < (ordE L).length := by simp at h2; omega
      obtain ⟨qa, csa, rfl, rfl, hcsa, hca2⟩ := blk_pos hblj (by omega)
      refine JC.skip ?_
      refine JX.thenN (hK15 _ _ ?_)
      refine JC.seq (fun K16 hK16 => ?_)
      refine JC.block ?_
      refine JC.seq (fun K17 hK17 => ?_)
      refine JC.region ?_
      refine J.move rfl rfl ?_
      refine J.assign rfl rfl ?_
      refine J.nil ?_
      refine JX.thenN (hK17 _ _ ?_)
      refine JC.region ?_
      refine J.move rfl rfl ?_
      refine J.move rfl rfl ?_
      refine J.indexAddrS Ty.el62 Ty.s34 rfl rfl (by omega) (by omega) rfl ?_
      refine J.fieldAddr Ty.fd34_3 rfl rfl ?_
      refine J.storeO (cs := csa) (vs := [.int .i64 77]) Ty.s3 rfl rfl rfl rfl (by simp [Value.oneCell']) .here (by omega) ?_
      refine J.nil ?_
      refine JX.blockN ?_
      refine JX.thenN (hK16 _ _ ?_)
      refine JC.region ?_
      (first | refine J.addN rfl rfl (by omega) (by omega) rfl ?_ | refine J.bin rfl rfl rfl rfl ?_)
      refine J.move rfl rfl ?_
      refine J.nil ?_
      refine JX.thenN ?_
      refine JX.again ((j + 1, [(qa, cb (setMany csa (0 + (j : Int).toNat * 51 + 49) [.int .i64 77]) 34)]) : Nat × List (Nat × Obj)) ?_ ?_ ?_
      · simp only; omega
      · exact ⟨rfl, rfl, rfl, rfl, rfl, rfl, rfl, trivial⟩
      · exact fun w1 hw => ⟨⟨hltj, .inr ⟨qa, _, _, rfl, rfl, by rw [setMany_length]; exact hcsa, hca2⟩⟩, hw⟩
    · skip
      skip
      refine JC.exit ?_
      refine JX.thenE ?_
      refine JX.thenE ?_
      refine JX.blockE ?_
      refine JX.thenN (hK12 _ _ ?_)
      refine JC.seq (fun K18 hK18 => ?_)
      refine JC.region ?_
      refine J.move rfl rfl ?_
      refine J.move rfl rfl ?_
      refine J.callB (v := .bool true) (fun w1 w2 hw hb => hw.step hb) Ty.bd26 rfl rfl (fun w1 hw => (by have h := rsame_spec _ _ (ordE L) (ordE L) w1 (vec_rowM hvb hw (fun q hq => by first | (simp [hq]; done) | (simp at hq; simp [hq]; done) | (simp at hq; subst hq; simp))) (vec_rowM hvw hw (fun q hq => by first | (simp [hq]; done) | (simp at hq; simp [hq]; done) | (simp at hq; subst hq; simp))) (ordE_ok hT) (ordE_ok hT) (by omega) (by omega); simpa using h)) ?_
      refine J.move rfl rfl ?_
      first
        | (refine J.skip rfl rfl rfl rfl rfl ?_)
        | (refine J.skipU rfl rfl rfl rfl ?_)
        | (refine J.unguard rfl rfl rfl ?_; refine J.move rfl rfl ?_)
      first
        | (refine J.skip rfl rfl rfl rfl rfl ?_)
        | (refine J.skipU rfl rfl rfl rfl ?_)
        | (refine J.unguard rfl rfl rfl ?_; refine J.perm ((t1, tabO 128 m1) :: (m1, .map es ck) :: (lb ++ (lw ++ lj))) (by (refine perm_cnt (fun _ => ?_)); simp only [cntB_append, cntB_cons, cntB_nil, Nat.add_zero, Nat.zero_add]; try ac_rfl) ?_; refine J.perm ([] ++ ((t1, tabO 128 m1) :: (m1, .map es ck) :: (lb ++ (lw ++ lj)))) (.refl _) ?_; refine J.callS (α := Value × List (Nat × Obj)) (V := (·.1)) (Pr := fun x => Vec 34 51 x.1 (ordE L).length (fE (ordE L)) x.2) (L := (·.2)) (l1 := []) Ty.bd25 rfl rfl (fun w1 hw => all_spec t1 m1 128 (L) es ck w1 (hw.own _ (.head _)) (hw.own _ (.tail _ (.head _))) hT (by omega)) (fun x hvc => ?_); obtain ⟨vc, lc⟩ := x; simp only at hvc ⊢)
      first
        | (refine J.skip rfl rfl rfl rfl rfl ?_)
        | (refine J.skipU rfl rfl rfl rfl ?_)
        | (refine J.unguard rfl rfl rfl ?_; refine J.move rfl rfl ?_)
      first
        | (refine J.skip rfl rfl rfl rfl rfl ?_)
        | (refine J.skipU rfl rfl rfl rfl ?_)
        | (refine J.unguard rfl rfl rfl ?_; refine J.callB (v := .bool true) (fun w1 w2 hw hb => hw.step hb) Ty.bd26 rfl rfl (fun w1 hw => (by have h := rsame_spec _ _ (ordE L) (ordE L) w1 (vec_rowM hvc hw (fun q hq => by first | (simp [hq]; done) | (simp at hq; simp [hq]; done) | (simp at hq; subst hq; simp))) (vec_rowM hvw hw (fun q hq => by first | (simp [hq]; done) | (simp at hq; simp [hq]; done) | (simp at hq; subst hq; simp))) (ordE_ok hT) (ordE_ok hT) (by omega) (by omega); simpa using h)) ?_)
      (first | refine J.pickT rfl rfl rfl ?_ | refine J.pickF rfl rfl rfl ?_)
      refine J.assign rfl rfl ?_
      refine J.nil ?_
      refine JX.thenN (hK18 _ _ ?_)
      refine JC.ret ?_
      refine JX.ret1 rfl rfl (fun w hw => ?_)
      exact ⟨rfl, (hw.drop (List.nil_sublist _)).below⟩

theorem tableNew_walk (w : World) (o : Sl EV) (ho : RSl 51 72 REnt w [o.v] o) :
    Calls Try.prog 5 [o.v].toArray w fun r w' => r = .returned (.bool true) ∧ Bel w w' := tableNew_spec o.v o.xs w (rslE ho) (rslE_ok ho) (rslE_len ho)

end Go.Proofs.Ytpldpkdlloolkaa
