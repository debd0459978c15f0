/-
  What a table lists, by keys; taking an entry out: contracts.
-/
import Derived.Test.YtohldionclgljaaGreatUc
namespace Go.Proofs.YtohldionclgljaaGreat
open Go.J Go.RowKit
set_option linter.unusedVariables false
set_option linter.unusedSimpArgs false
open Go.Sort Go.Shelf
set_option maxRecDepth 4000
/- the cells of a row of entries -/
abbrev fE (xs : List EV) : List Value := xs.flatMap cE
theorem fE_length : ∀ xs : List EV, (fE xs).length = xs.length * 51
  | [] => rfl
  | x :: xs => by
    have := fE_length xs
    simp only [fE, List.flatMap_cons, List.length_append, List.length_cons] at this ⊢
    simp only [List.length_nil] at this ⊢
    omega
theorem fE_append (xs ys : List EV) : fE (xs ++ ys) = fE xs ++ fE ys := by simp [fE]
theorem fE_at : ∀ {xs : List EV} {i : Nat} {a : EV}, xs[i]? = some a → ((fE xs).drop (i * 51)).take 51 = cE a
  | [], i, a, h => by simp at h
  | x :: xs, 0, a, h => by
    simp only [List.getElem?_cons_zero, Option.some.injEq] at h
    subst h
    rfl
  | x :: xs, i + 1, a, h => by
    have ih := fE_at (xs := xs) (i := i) (by simpa using h)
    rw [show (i + 1) * 51 = 51 + i * 51 by omega]
    show (((cE x ++ fE xs).drop (51 + i * 51)).take 51) = cE a
    rw [← List.drop_drop, show (cE x ++ fE xs).drop 51 = fE xs from rfl]
    exact ih
theorem one_cI (a : IDV) : ∀ v, v ∈ cI a → v.oneCell' = true := by
  intro v hv
  simp [cI] at hv
  rcases hv with rfl | rfl | rfl | rfl | rfl | rfl | rfl | rfl | rfl | rfl | rfl | rfl | rfl | rfl | rfl | rfl <;> rfl
theorem one_cE (x : EV) : ∀ v, v ∈ cE x → v.oneCell' = true := by
  intro v hv
  rcases List.mem_append.1 hv with hv | hv
  · rcases List.mem_append.1 hv with hv | hv
    · rcases List.mem_append.1 hv with hv | hv
      · exact one_cP x.p v hv
      · exact one_cI x.a v hv
    · exact one_cI x.b v hv
  · rcases List.mem_cons.1 hv with rfl | hv
    · rfl
    · rw [List.mem_singleton.1 hv]; rfl
theorem fE_one {xs : List EV} {v : Value} (h : v ∈ fE xs) : v.oneCell' = true := by
  obtain ⟨p, _, hv⟩ := List.mem_flatMap.1 h
  exact one_cE p v hv
theorem rowE_at {w : World} {b o k c q i : Nat} {xs : List EV} {a : EV} (h : Row w (.slice (some ⟨b, o, none⟩) k c) k (fE xs)) (hi : xs[i]? = some a) (hq : q = o + i * 51) : Cells w b q (cE a) := by
  have hl : i < xs.length := (List.getElem?_eq_some_iff.1 hi).1
  have hlen := fE_length xs
  obtain ⟨b', o', c', hv, _, hc⟩ := Row.some h (by omega)
  simp only [Value.slice.injEq, Option.some.injEq, Addr.mk.injEq] at hv
  obtain ⟨⟨rfl, rfl, _⟩, _, rfl⟩ := hv
  subst hq
  intro j hj
  have hj16 : j < 51 := hj
  rw [Nat.add_assoc, hc (i * 51 + j) (by omega)]
  have e := fE_at hi
  have : (cE a)[j]? = (((fE xs).drop (i * 51)).take 51)[j]? := by rw [e]
  rw [this, List.getElem?_take_of_lt hj16, List.getElem?_drop]
theorem vec_rowM {w0 w : World} {S : List Nat} {l lp : List (Nat × Obj)} {t sz : Nat} {v : Value} {k : Nat} {xs : List Value} (h : Vec t sz v k xs lp) (hw : St w0 S l w) (hm : ∀ p, p ∈ lp → p ∈ l) : Row w v k xs := by
  obtain ⟨hl, h⟩ := h
  rcases h with ⟨rfl, rfl, rfl⟩ | ⟨b, c, sp, rfl, rfl, _, hk⟩
  · exact ⟨none, 0, rfl, Nat.le_refl _, .inl (List.eq_nil_of_length_eq_zero (by simpa using hl))⟩
  · exact Row.own (cs := xs ++ sp) (tb := t) (fr := (0, 0)) hw (hm _ (.head _)) (by simp) hk
theorem vec_pos {t sz : Nat} {a : Option Addr} {k c : Nat} {xs : List Value} {lp : List (Nat × Obj)} (h : Vec t sz (.slice a k c) k xs lp) (h0 : 0 < k) : ∃ q sp, a = some ⟨q, 0, none⟩ ∧ lp = [(q, cb (xs ++ sp) t)] ∧ (xs ++ sp).length = c * sz ∧ k ≤ c := by
  rcases h.2 with ⟨_, h2, _⟩ | ⟨b, c', sp, h1, h2, h3, h4⟩
  · omega
  · simp only [Value.slice.injEq] at h1
    obtain ⟨rfl, _, rfl⟩ := h1
    exact ⟨b, sp, rfl, h2, h3, h4⟩
theorem perm_sorted_eq {α : Type} {le : α → α → Prop} (anti : ∀ a b, le a b → le b a → a = b) : ∀ {l m : List α}, l.Perm m → l.Pairwise le → m.Pairwise le → l = m
  | [], m, hp, _, _ => (List.Perm.nil_eq hp)
  | a :: l, [], hp, _, _ => by have := hp.length_eq; simp at this
  | a :: l, b :: m, hp, hl, hm => by
    have hl' := List.pairwise_cons.1 hl
    have hm' := List.pairwise_cons.1 hm
    have hab : a = b := by
      rcases List.mem_cons.1 (hp.mem_iff.1 (.head _) : a ∈ b :: m) with h | h
      · exact h
      · rcases List.mem_cons.1 (hp.mem_iff.2 (.head _) : b ∈ a :: l) with h2 | h2
        · exact h2.symm
        · exact anti a b (hl'.1 b h2) (hm'.1 a h)
    subst hab
    rw [perm_sorted_eq anti (List.Perm.cons_inv hp) hl'.2 hm'.2]
/-- entries by their keys -/
def ordE (L : List EV) : List EV := L.mergeSort (fun x y => !ltP y.p x.p)
theorem ordE_perm (L : List EV) : (ordE L).Perm L := List.mergeSort_perm _ _
theorem ordE_sorted (L : List EV) : (ordE L).Pairwise (fun a b => ltP b.p a.p = false) := by
  have := List.pairwise_mergeSort (le := fun x y : EV => !ltP y.p x.p) (fun a b c h1 h2 => by
    have := leP_trans a.p b.p c.p
    rw [ltOf_cmpP, ltOf_cmpP, ltOf_cmpP] at this
    exact this h1 h2) (fun a b => by
    have := leP_total a.p b.p
    rw [ltOf_cmpP, ltOf_cmpP] at this
    exact this) L
  exact this.imp fun h => by simpa using h
open Classical in
noncomputable def kpK (v : Value) : PV := if h : ∃ p : PV, v = .agg (cP p).toArray then h.choose else zP
theorem kpK_spec (p : PV) : kpK (.agg (cP p).toArray) = p := by
  have h : ∃ q : PV, Value.agg (cP p).toArray = .agg (cP q).toArray := ⟨p, rfl⟩
  unfold kpK
  rw [dif_pos h]
  exact (cP_eq.1 (agg_inj.1 h.choose_spec)).symm
theorem tab_kps {L : List EV} {es : Array MapEntry} {clock : Nat} (h : Tab L es clock) : es.toList.map kpv = L.map (·.p) := by
  have h1 := congrArg (List.map fun q : Value × Value => kpK q.1) h.is_
  rw [List.map_map, List.map_map] at h1
  refine Eq.trans ?_ (h1.trans ?_)
  · rfl
  · exact List.map_congr_left fun x _ => kpK_spec x.p
theorem tab_key {L : List EV} {es : Array MapEntry} {clock : Nat} (h : Tab L es clock) : ∀ en, en ∈ es.toList → ∃ p : PV, en.key = .agg (cP p).toArray := fun en he => by
  obtain ⟨x, _, hk, _⟩ := h.mem he
  exact ⟨x.p, hk⟩
theorem keys_ord {L : List EV} {es : Array MapEntry} {clock : Nat} {ks : List PV} (hT : Tab L es clock) (hp : ks.Perm (es.toList.map kpv)) (hs : ks.Pairwise (fun a b => ltP b a = false)) : ks = (ordE L).map (·.p) := by
  rw [tab_kps hT] at hp
  refine perm_sorted_eq (le := fun a b => ltP b a = false) (fun a b h1 h2 => ltP_total h2 h1) (hp.trans ((ordE_perm L).map _).symm) hs ?_
  rw [List.pairwise_map]
  exact ordE_sorted L
theorem tget_ord {L : List EV} {es : Array MapEntry} {clock : Nat} (hT : Tab L es clock) {x : EV} (hx : x ∈ ordE L) : (tget L x.p).getD zE = x ∧ okE x := by
  have hm := (ordE_perm L).mem_iff.1 hx
  rw [tget_some hT.dist hm]
  exact ⟨rfl, hT.ok x hm⟩
theorem filter_stepE {p : EV → Bool} {L : List EV} {k : Nat} {y : EV} (h : L[k]? = some y) : (L.take (k + 1)).filter p = (L.take k).filter p ++ if p y then [y] else [] := by
  have hk := (List.getElem?_eq_some_iff.1 h).1
  rw [take_add_one hk, List.filter_append]
  rw [List.getElem?_eq_getElem hk] at h
  cases h
  cases hp : p L[k] <;> simp [hp]

set_option maxHeartbeats 1000000 in
theorem of_spec (t mb : Nat) (most : Int) (L : List EV) (es : Array MapEntry) (clock : Nat) (w : World) (ht : w.heap[t]? = some (tabO most mb)) (hmm : w.heap[mb]? = some (.map es clock)) (hT : Tab L es clock) (hn : L.length ≤ 1099511627776) (F : Nat) (cbv : Array Value) (h : EV → Bool) (lc : List (Nat × Obj)) (hlc : Own w lc) (hbF : bodyT Tryz.prog F = true) (hh : ∀ x W, okE x → Own W lc → Calls Tryz.prog F (#[.agg (cE x).toArray] ++ cbv) W fun r W' => r = .returned (.bool (h x)) ∧ Bel W W') :
    Calls Tryz.prog 38 [.pointer (some ⟨t, 0, none⟩), .func (.func F) #[] cbv].toArray w fun r w' => ∃ x : Value × List (Nat × Obj), r = .returned x.1 ∧ Vec 33 51 x.1 ((ordE L).filter h).length (fE ((ordE L).filter h)) x.2 ∧ St w [] x.2 w' := by
  refine calls_of_J (args := [.pointer (some ⟨t, 0, none⟩), .func (.func F) #[] cbv]) (e := [(0, .pointer (some ⟨t, 0, none⟩)), (1, .func (.func F) #[] cbv)]) Tryz.func38 rfl rfl ⟨rfl, rfl, trivial⟩ (St.start w) ?_
  refine JC.seq (fun K0 hK0 => ?_)
  refine JC.region ?_
  refine J.assign rfl rfl ?_
  refine J.nil ?_
  refine JX.thenN (hK0 _ _ ?_)
  refine JC.seq (fun K1 hK1 => ?_)
  refine JC.seq (fun K2 hK2 => ?_)
  refine JC.region ?_
  refine J.move rfl rfl ?_
  refine J.eqNil Ty.u26 rfl rfl rfl ?_
  refine J.nil ?_
  refine JX.thenN (hK2 _ _ ?_)
  first | refine JC.condF rfl ?_ | refine JC.cond rfl (fun h => by first | (exfalso; simp at h; omega) | (simp at h)) (fun _ => ?_)
  refine JC.skip ?_
  refine JX.thenN (hK1 _ _ ?_)
  refine JC.seq (fun K3 hK3 => ?_)
  refine JC.region ?_
  refine J.assign rfl rfl ?_
  refine J.nil ?_
  refine JX.thenN (hK3 _ _ ?_)
  refine JC.seq (fun K4 hK4 => ?_)
  refine JC.seq (fun K5 hK5 => ?_)
  refine JC.region ?_
  refine J.move rfl rfl ?_
  refine J.nilCheck rfl rfl ?_
  refine J.fieldAddr Ty.fd92_1 rfl rfl ?_
  refine J.load1 (v := .map (some mb)) Ty.a90 rfl (fun w1 hw => by rw [cell_of (by rw [hw.keep t (lt_of_some ht) (by simp)]; exact ht)]; rfl) rfl ?_
  refine J.callS (α := Nat) (V := fun Bm => .func (.func 76) #[] #[.pointer (some ⟨Bm, 0, none⟩)]) (Pr := fun _ => True) (L := fun Bm => [(Bm, cb [.map (some mb)] 90)]) (l1 := []) (l := []) Ty.bd62 rfl rfl (fun w1 hw => (keys_spec mb w1).mono fun r w2 ⟨Bm, h1, h2⟩ => ⟨Bm, h1, trivial, h2⟩) (fun Bm _ => ?_)
  refine J.callS (α := List PV × Value × List (Nat × Obj)) (V := (·.2.1)) (Pr := fun x => x.1.Perm (es.toList.map kpv) ∧ x.1.Pairwise (fun a b => ltP b a = false) ∧ Vec 31 17 x.2.1 x.1.length (fP x.1) x.2.2) (L := (·.2.2)) (l1 := []) Ty.bd61 rfl rfl (fun w1 hw => sortedFunc_spec Bm mb clock es w1 hT.st (tab_key hT) (hw.own _ (.head _)) (by rw [hw.keep mb (lt_of_some hmm) (by simp)]; exact hmm) (by rw [hT.size]; exact hn)) (fun x hx => ?_)
  obtain ⟨ks, vk, lk⟩ := x
  obtain ⟨hk1, hk2, hvk⟩ := hx
  simp only at hk1 hk2 hvk ⊢
  have hks := keys_ord hT hk1 hk2
  have hkl : ks.length = (ordE L).length := by rw [hks, List.length_map]
  have hol := (ordE_perm L).length_eq
  obtain ⟨aq, cq, rfl, hcq⟩ := hvk.form
  refine J.lenS rfl Ty.u43 rfl rfl ?_
  refine J.move rfl rfl ?_
  refine J.nil ?_
  refine JX.thenN (hK5 _ _ ?_)
  refine JC.block ?_
  refine JC.conseq (JC.cov (f := (fun st => [(0, .pointer (some ⟨t, 0, none⟩)), (1, .func (.func F) #[] cbv), (5, st.2.1), (15, .slice aq ks.length cq), (16, .int .i64 ((ks.length : Nat) : Int)), (17, .int .i64 ((st.1 : Nat) : Int))]) ((0, .slice none 0 0, []) : Nat × Value × List (Nat × Obj))) ⟨rfl, rfl, rfl, rfl, rfl, rfl, trivial⟩ (JC.loop (α := Nat × Value × List (Nat × Obj)) (fun st => [(0, .pointer (some ⟨t, 0, none⟩)), (1, .func (.func F) #[] cbv), (5, st.2.1), (15, .slice aq ks.length cq), (16, .int .i64 ((ks.length : Nat) : Int)), (17, .int .i64 ((st.1 : Nat) : Int))]) (fun st w' => (st.1 ≤ ks.length ∧ Vec 33 51 st.2.1 ((((ordE L).take st.1).filter h)).length (fE ((((ordE L).take st.1).filter h))) st.2.2) ∧ St w [] (st.2.2 ++ lk) w') (fun st => ks.length - st.1) ((0, .slice none 0 0, []) : Nat × Value × List (Nat × Obj)) (fun st => ?_))) (fun w hw => ⟨⟨Nat.zero_le _, Vec.nil _ _⟩, hw.drop (List.sublist_append_left _ _)⟩)
  obtain ⟨i, vo, lo⟩ := st
  refine JC.pr (fun hx => ?_)
  obtain ⟨hi, hvo⟩ := hx
  simp only at hi hvo ⊢
  refine JC.seq (fun K6 hK6 => ?_)
  refine JC.region ?_
  refine J.bin rfl rfl rfl rfl ?_
  refine J.nil ?_
  refine JX.thenN (hK6 _ _ ?_)
  refine JC.seq (fun K7 hK7 => ?_)
  refine JC.cond rfl (fun h1 => ?_) (fun h1 => ?_)
  · skip
    have hlt : i < ks.length := by simp at h1; omega
    obtain ⟨qq, spq, rfl, rfl, hsq, hcq2⟩ := vec_pos hvk (by omega)
    obtain ⟨xe, hxe⟩ : ∃ x, (ordE L)[i]? = some x := ⟨_, List.getElem?_eq_getElem (by omega)⟩
    have hki : ks[i]? = some xe.p := by rw [hks, List.getElem?_map, hxe]; rfl
    obtain ⟨hxget, hxok⟩ := tget_ord hT (List.mem_of_getElem? hxe)
    refine JC.skip ?_
    refine JX.thenN (hK7 _ _ ?_)
    refine JC.seq (fun K8 hK8 => ?_)
    refine JC.block ?_
    refine JC.seq (fun K9 hK9 => ?_)
    refine JC.region ?_
    refine J.indexAddrS Ty.el43 Ty.s31 rfl rfl (by omega) (by omega) rfl ?_
    refine J.loadA (vs := cP xe.p) Ty.a31 Ty.s31 rfl rfl (fun w1 hw => rowP_at (o := 0) (vec_rowM hvk hw (fun q hq => by first | (simp [hq]; done) | (simp at hq; simp [hq]; done) | (simp at hq; subst hq; simp))) hki (by omega)) rfl ?_
    refine J.alloc Ty.z31 rfl rfl (fun b7 => ?_)
    refine J.storeW (cs := cP zP) (vs := cP xe.p) Ty.s31 rfl rfl rfl rfl rfl (one_cP xe.p) .here ?_
    refine J.nil ?_
    refine JX.thenN (hK9 _ _ ?_)
    refine JC.seq (fun K10 hK10 => ?_)
    apply JC.drawL 8 [Eqv (.func (.func F) #[] cbv), Eqv (.pointer (some ⟨t, 0, none⟩)), Eqv (.pointer (some ⟨t, 0, none⟩)), Eqv (.pointer (some ⟨t, 0 + 1, none⟩)), Eqv (.map (some mb)), Eqv (.agg (cP xe.p).toArray), Eqv (.agg (cE xe).toArray), Eqv (.bool (h xe))] Ty.mixed rfl rfl rfl (by kernel_rfl) rfl rfl (fun w w' hw hb => hw.step hb) ⟨fun _ _ _ h _ => h, fun _ _ _ h _ => h, fun _ _ _ h _ => h, fun _ _ _ h _ => h, fun _ _ _ h _ => h, fun _ _ _ h _ => h, fun _ _ _ h _ => h, fun _ _ _ h _ => h, trivial⟩ ?hstep ?htail
    case hstep =>
      refine ⟨fun wi => ?_, fun wi => ?_, fun wi => ?_, fun wi => ?_, fun wi => ?_, fun wi => ?_, fun wi => ?_, fun wi => ?_, trivial⟩
      · skip
        refine Fin.nil ?_
        refine J.move rfl rfl ?_
        exact J.finP rfl
      · skip
        refine Fin.nil ?_
        refine J.move rfl rfl ?_
        exact J.finP rfl
      · skip
        refine Fin.consE rfl (Fin.nil ?_)
        refine J.nilCheck rfl rfl ?_
        exact J.finP rfl
      · skip
        refine Fin.consE rfl (Fin.nil ?_)
        refine J.fieldAddr Ty.fd92_1 rfl rfl ?_
        exact J.finP rfl
      · skip
        refine Fin.consE rfl (Fin.nil ?_)
        refine J.load1 (v := .map (some mb)) Ty.a90 rfl (fun w1 hw => by rw [cell_of (by rw [hw.2.keep t (lt_of_some ht) (by simp)]; exact ht)]; rfl) rfl ?_
        exact J.finP rfl
      · skip
        refine Fin.nil ?_
        refine J.loadA (vs := cP xe.p) Ty.a31 Ty.s31 rfl rfl (fun w1 hw => Cells.of_block (hw.2.own _ (.head _)) rfl) rfl ?_
        exact J.finP rfl
      · skip
        refine Fin.consE rfl (Fin.consE rfl (Fin.nil ?_))
        refine J.lookupT1 (ok := true) (L := L) (xe := xe) Ty.u90 Ty.KP Ty.keyP Ty.zE_ rfl rfl hT hxok.1 hxget (fun w1 hw => by rw [hw.2.keep mb (lt_of_some hmm) (by simp)]; exact hmm) rfl ?_
        exact J.finP rfl
      · skip
        refine Fin.consE rfl (Fin.consE rfl (Fin.nil ?_))
        refine J.callVD (v := .bool (h xe)) hbF rfl rfl rfl (fun w1 hw => hh xe w1 hxok (hlc.at hw)) ?_
        exact J.finQ rfl
    case htail =>
      refine Fin.consE rfl (Fin.consE rfl (Fin.consE rfl (Fin.consE rfl (Fin.consE rfl (Fin.consE rfl (Fin.consE rfl (Fin.consE rfl (Fin.nil ?_))))))))
      refine J.nil ?_
      refine JX.thenN (hK10 _ _ ?_)
      refine JC.cond rfl (fun h2 => ?_) (fun h2 => ?_)
      · skip
        skip
        apply JC.drawX (α := Nat × Value × List (Nat × Obj)) 9 (fun x => match x with | ⟨x36, v37, l37⟩ => [vo, .pointer (some ⟨t, 0, none⟩), .pointer (some ⟨t, 0, none⟩), .pointer (some ⟨t, 0 + 1, none⟩), .map (some mb), .agg (cP xe.p).toArray, .agg (cE xe).toArray, .slice (some ⟨x36, 0, none⟩) 1 1, v37]) (fun m x => match x with | ⟨x36, v37, l37⟩ => fun w1 => (m 8 = true → Vec 33 51 v37 ((((ordE L).take i).filter h).length + 1) (fE (((ordE L).take i).filter h) ++ cE xe) l37) ∧ St w [] ((b7, cb (cP xe.p) 31) :: ((bif m 7 then [(x36, cb (cE xe) 33)] else []) ++ ((bif m 8 then l37 else lo) ++ [(qq, cb (fP ks ++ spq) 31)]))) w1) Ty.mixed rfl rfl rfl (by kernel_rfl) rfl rfl ?hinit ?hstep ?htail
        case hinit => exact fun w1 hw => ⟨(0, .slice none 0 0, []), fun h => (by cases h), hw.drew⟩
        case hstep =>
          refine ⟨fun m x hm hp => ?_, fun m x hm hp => ?_, fun m x hm hp => ?_, fun m x hm hp => ?_, fun m x hm hp => ?_, fun m x hm hp => ?_, fun m x hm hp => ?_, fun m x hm hp => ?_, fun m x hm hp => ?_, trivial⟩
          · skip
            obtain ⟨x36, v37, l37⟩ := x
            show J _ _ _ _ _ (_) _
            refine J.pr (fun hF => ?_)
            refine J.move rfl rfl ?_
            exact J.finX rfl (fun _ hw => ⟨⟨x36, v37, l37⟩, rfl, fun _ _ _ => rfl, hF, hw⟩)
          · skip
            obtain ⟨x36, v37, l37⟩ := x
            show J _ _ _ _ _ (_) _
            refine J.pr (fun hF => ?_)
            refine J.move rfl rfl ?_
            exact J.finX rfl (fun _ hw => ⟨⟨x36, v37, l37⟩, rfl, fun _ _ _ => rfl, hF, hw⟩)
          · skip
            obtain ⟨x36, v37, l37⟩ := x
            show J _ _ _ _ _ ((30, .pointer (some ⟨t, 0, none⟩)) :: _) _
            refine J.pr (fun hF => ?_)
            refine J.nilCheck rfl rfl ?_
            exact J.finX rfl (fun _ hw => ⟨⟨x36, v37, l37⟩, rfl, fun _ _ _ => rfl, hF, hw⟩)
          · skip
            obtain ⟨x36, v37, l37⟩ := x
            show J _ _ _ _ _ ((31, .pointer (some ⟨t, 0, none⟩)) :: _) _
            refine J.pr (fun hF => ?_)
            refine J.fieldAddr Ty.fd92_1 rfl rfl ?_
            exact J.finX rfl (fun _ hw => ⟨⟨x36, v37, l37⟩, rfl, fun _ _ _ => rfl, hF, hw⟩)
          · skip
            obtain ⟨x36, v37, l37⟩ := x
            show J _ _ _ _ _ ((32, .pointer (some ⟨t, 0 + 1, none⟩)) :: _) _
            refine J.pr (fun hF => ?_)
            refine J.load1 (v := .map (some mb)) Ty.a90 rfl (fun w1 hw => by rw [cell_of (by rw [hw.keep t (lt_of_some ht) (by simp)]; exact ht)]; rfl) rfl ?_
            exact J.finX rfl (fun _ hw => ⟨⟨x36, v37, l37⟩, rfl, fun _ _ _ => rfl, hF, hw⟩)
          · skip
            obtain ⟨x36, v37, l37⟩ := x
            show J _ _ _ _ _ (_) _
            refine J.pr (fun hF => ?_)
            refine J.loadA (vs := cP xe.p) Ty.a31 Ty.s31 rfl rfl (fun w1 hw => Cells.of_block (hw.own _ (.head _)) rfl) rfl ?_
            exact J.finX rfl (fun _ hw => ⟨⟨x36, v37, l37⟩, rfl, fun _ _ _ => rfl, hF, hw⟩)
          · skip
            obtain ⟨x36, v37, l37⟩ := x
            show J _ _ _ _ _ ((34, .agg (cP xe.p).toArray) :: (33, .map (some mb)) :: _) _
            refine J.pr (fun hF => ?_)
            refine J.lookupT1 (ok := true) (L := L) (xe := xe) Ty.u90 Ty.KP Ty.keyP Ty.zE_ rfl rfl hT hxok.1 hxget (fun w1 hw => by rw [hw.keep mb (lt_of_some hmm) (by simp)]; exact hmm) rfl ?_
            exact J.finX rfl (fun _ hw => ⟨⟨x36, v37, l37⟩, rfl, fun _ _ _ => rfl, hF, hw⟩)
          · skip
            obtain ⟨x36, v37, l37⟩ := x
            show J _ _ _ _ _ ((35, .agg (cE xe).toArray) :: _) _
            refine J.pr (fun hF => ?_)
            refine J.buildSl (cs := cE xe) Ty.el22 Ty.s33 Ty.zE_ rfl rfl rfl rfl (by kernel_rfl) rfl rfl (fun b36 => ?_)
            refine J.nil (JX.finB rfl (fun w1 hw => ⟨⟨⟨b36, v37, l37⟩, rfl, fun j h1 h2 => ?_, ?_⟩, trivial⟩))
            · match j, h1 with
              | 0, _ => (first | rfl | trivial)
              | 1, _ => (first | rfl | trivial)
              | 2, _ => (first | rfl | trivial)
              | 3, _ => (first | rfl | trivial)
              | 4, _ => (first | rfl | trivial)
              | 5, _ => (first | rfl | trivial)
              | 6, _ => (first | rfl | trivial)
              | 7, _ => exact absurd (h2.symm.trans hm) (by decide)
              | 8, _ => (first | rfl | trivial)
              | j + 9, h1 => omega
            show (m 8 = true → Vec 33 51 v37 ((((ordE L).take i).filter h).length + 1) (fE (((ordE L).take i).filter h) ++ cE xe) l37) ∧ St w [] ((b7, cb (cP xe.p) 31) :: ((bif true then [(b36, cb (cE xe) 33)] else []) ++ ((bif m 8 then l37 else lo) ++ [(qq, cb (fP ks ++ spq) 31)]))) w1
            simp only [hm, cond_true, cond_false] at hw ⊢
            exact ⟨hF, hw.perm (by (refine perm_cnt (fun _ => ?_)); simp only [cntB_append, cntB_cons, cntB_nil, Nat.add_zero, Nat.zero_add]; try ac_rfl)⟩
          · skip
            obtain ⟨x36, v37, l37⟩ := x
            show J _ _ _ _ _ ((36, .slice (some ⟨x36, 0, none⟩) 1 1) :: (29, vo) :: _) _
            have hp7 : m 7 = true := predsT hp (by kernel_rfl)
            refine J.pr (fun hF => ?_)
            have hol : (((ordE L).take i).filter h).length ≤ i := Nat.le_trans (List.length_filter_le _ _) (by rw [List.length_take]; omega)
            refine J.conseq (I' := St w [] (lo ++ ((x36, cb (cE xe) 33) :: (b7, cb (cP xe.p) 31) :: [(qq, cb (fP ks ++ spq) 31)]))) ?_ (fun w1 hw => by simp only [hm, hp7, cond_true, cond_false] at hw; exact hw.perm (by (refine perm_cnt (fun _ => ?_)); simp only [cntB_append, cntB_cons, cntB_nil, Nat.add_zero, Nat.zero_add]; try ac_rfl))
            refine J.append (lp := lo) (xs := fE (((ordE L).take i).filter h)) (ys := cE xe) (k := (((ordE L).take i).filter h).length) (m := 1) Ty.el22 Ty.s33 Ty.b33 Ty.zE_ rfl (.inl ⟨33, Ty.u22⟩) rfl rfl hvo (fun w3 hw3 => .inl (Row.own hw3 (List.mem_append_right _ (.head _)) rfl (Nat.le_refl _))) rfl (one_cE xe) (by omega) (by omega) rfl (fun vn ln hvn => ?_)
            refine J.nil (JX.finB rfl (fun w1 hw => ⟨⟨⟨x36, vn, ln⟩, rfl, fun j h1 h2 => ?_, ?_⟩, trivial⟩))
            · match j, h1 with
              | 0, _ => (first | rfl | trivial)
              | 1, _ => (first | rfl | trivial)
              | 2, _ => (first | rfl | trivial)
              | 3, _ => (first | rfl | trivial)
              | 4, _ => (first | rfl | trivial)
              | 5, _ => (first | rfl | trivial)
              | 6, _ => (first | rfl | trivial)
              | 7, _ => (first | rfl | trivial)
              | 8, _ => exact absurd (h2.symm.trans hm) (by decide)
              | j + 9, h1 => omega
            show (true = true → Vec 33 51 vn ((((ordE L).take i).filter h).length + 1) (fE (((ordE L).take i).filter h) ++ cE xe) ln) ∧ St w [] ((b7, cb (cP xe.p) 31) :: ((bif m 7 then [(x36, cb (cE xe) 33)] else []) ++ ((bif true then ln else lo) ++ [(qq, cb (fP ks ++ spq) 31)]))) w1
            simp only [hm, hp7, cond_true, cond_false] at hw ⊢
            exact ⟨fun _ => hvn, hw.perm (by (refine perm_cnt (fun _ => ?_)); simp only [cntB_append, cntB_cons, cntB_nil, Nat.add_zero, Nat.zero_add]; try ac_rfl)⟩
        case htail =>
          intro x
          obtain ⟨x36, v37, l37⟩ := x
          show J _ _ _ _ _ ((37, v37) :: (36, .slice (some ⟨x36, 0, none⟩) 1 1) :: (35, .agg (cE xe).toArray) :: (34, .agg (cP xe.p).toArray) :: (33, .map (some mb)) :: (32, .pointer (some ⟨t, 0 + 1, none⟩)) :: (31, .pointer (some ⟨t, 0, none⟩)) :: (30, .pointer (some ⟨t, 0, none⟩)) :: (29, vo) :: _) (fun w1 => (true = true → Vec 33 51 v37 ((((ordE L).take i).filter h).length + 1) (fE (((ordE L).take i).filter h) ++ cE xe) l37) ∧ St w [] ((b7, cb (cP xe.p) 31) :: ((bif true then [(x36, cb (cE xe) 33)] else []) ++ ((bif true then l37 else lo) ++ [(qq, cb (fP ks ++ spq) 31)]))) w1)
          refine J.pr (fun hF => ?_)
          have hv37 := hF rfl
          refine J.conseq (I' := St w [] (l37 ++ [(qq, cb (fP ks ++ spq) 31)])) ?_ (fun w1 hw => by simp only [cond_true] at hw; exact hw.drop (.cons _ (.cons _ (List.Sublist.refl _))))
          refine J.assign rfl rfl ?_
          refine J.nil ?_
          refine JX.blockN ?_
          refine JX.thenN (hK8 _ _ ?_)
          refine JC.region ?_
          (first | refine J.addN rfl rfl (by omega) (by omega) rfl ?_ | refine J.bin rfl rfl rfl rfl ?_)
          refine J.move rfl rfl ?_
          refine J.nil ?_
          refine JX.thenN ?_
          refine JX.again ((i + 1, v37, l37) : Nat × Value × List (Nat × Obj)) ?_ ?_ ?_
          · simp only; omega
          · exact ⟨rfl, rfl, rfl, rfl, rfl, rfl, trivial⟩
          · exact fun w1 hw => ⟨⟨hlt, by rw [filter_stepE hxe]; simp only [h2, if_true]; rw [List.length_append, fE_append]; simpa [fE] using hv37⟩, hw⟩
      · skip
        skip
        refine JC.skip ?_
        refine JX.blockN ?_
        refine JX.thenN (hK8 _ _ ?_)
        refine JC.region ?_
        (first | refine J.addN rfl rfl (by omega) (by omega) rfl ?_ | refine J.bin rfl rfl rfl rfl ?_)
        refine J.move rfl rfl ?_
        refine J.nil ?_
        refine JX.thenN ?_
        refine JX.again ((i + 1, vo, lo) : Nat × Value × List (Nat × Obj)) ?_ ?_ ?_
        · simp only; omega
        · exact ⟨rfl, rfl, rfl, rfl, rfl, rfl, trivial⟩
        · exact fun w1 hw => ⟨⟨hlt, by rw [filter_stepE hxe]; simp only [h2, Bool.false_eq_true, if_false, List.append_nil]; exact hvo⟩, hw.drop (List.sublist_cons_self _ _)⟩
  · skip
    have hge : i = ks.length := by simp at h1; omega
    have hdone : (ordE L).take i = ordE L := List.take_of_length_le (by omega)
    rw [hdone] at hvo
    refine JC.exit ?_
    refine JX.thenE ?_
    refine JX.thenE ?_
    refine JX.blockE ?_
    refine JX.thenN (hK4 _ _ ?_)
    refine JC.seq (fun K11 hK11 => ?_)
    refine JC.region ?_
    refine J.move rfl rfl ?_
    refine J.assign rfl rfl ?_
    refine J.nil ?_
    refine JX.thenN (hK11 _ _ ?_)
    refine JC.ret ?_
    refine JX.ret1 rfl rfl (fun w hw => ?_)
    exact ⟨(vo, lo), rfl, hvo, hw.drop (List.sublist_append_left _ _)⟩

end Go.Proofs.YtohldionclgljaaGreat
