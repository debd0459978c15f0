/-
  slices.AppendSeq and Collect of maps.Keys at paths; slices.SortedFunc: contracts.
-/
import Derived.Test.YtohldionclgljaaUb
namespace Go.Proofs.Ytohldionclgljaa
open Go.J Go.RowKit
set_option linter.unusedVariables false
set_option linter.unusedSimpArgs false
open Go.Sort Go.Shelf
set_option maxRecDepth 4000
theorem vecP {v : Value} {xs : List PV} {lp : List (Nat × Obj)} (h : Vec 38 17 v xs.length (fP xs) lp) : (v = .slice none 0 0 ∧ xs = [] ∧ lp = []) ∨ ∃ b c sp, v = .slice (some ⟨b, 0, none⟩) xs.length c ∧ lp = [(b, cb (fP xs ++ sp) 38)] ∧ (fP xs ++ sp).length = c * 17 ∧ xs.length ≤ c := by
  rcases h.2 with ⟨h1, h2, h3⟩ | h
  · exact .inl ⟨h1, List.eq_nil_of_length_eq_zero h2, h3⟩
  · exact .inr h
theorem vecP_mk {xs : List PV} {b c : Nat} {sp : List Value} (h1 : (fP xs ++ sp).length = c * 17) : Vec 38 17 (.slice (some ⟨b, 0, none⟩) xs.length c) xs.length (fP xs) [(b, cb (fP xs ++ sp) 38)] := by
  refine ⟨fP_length xs, .inr ⟨b, c, sp, rfl, rfl, h1, ?_⟩⟩
  rw [List.length_append, fP_length] at h1
  omega
theorem fP_append (xs ys : List PV) : fP (xs ++ ys) = fP xs ++ fP ys := by simp [fP]
theorem fP_snoc (ks : List PV) (p : PV) : fP (ks ++ [p]) = fP ks ++ cP p := by simp [fP]
theorem fP_one {xs : List PV} {v : Value} (h : v ∈ fP xs) : v.oneCell' = true := by
  obtain ⟨p, _, hv⟩ := List.mem_flatMap.1 h
  exact one_cP p v hv
/-- what the rounds keep: the box, the loop's record, the block for deferred calls, the row -/
def AppInv (Bs l D : Nat) (rec : Loop) (ss : List MapEntry) (lst : List (Nat × Obj)) : Prop :=
  ∃ v lp, Vec 38 17 v (ss.map kpv).length (fP (ss.map kpv)) lp ∧ lst = (Bs, cb [v] 65) :: (l, .loop rec) :: (D, .deferred (some [])) :: lp

theorem St.notin {w0 w : World} {l : List (Nat × Obj)} (h : St w0 [] l w) {b : Nat} (hb : b < w0.heap.size) : b ∉ l.map (·.1) := fun hm => by
  obtain ⟨q, hq, he⟩ := List.mem_map.1 hm
  rcases h.apart q hq with h1 | h1
  · cases h1
  · omega
theorem rec_back {rec : Loop} (h1 : rec.state = .ready) (h2 : rec.pending = none) : ({ ({ rec with state := .busy } : Loop) with state := .ready, pending := none } : Loop) = rec := by
  cases rec
  simp only at h1 h2
  subst h1
  subst h2
  rfl

theorem appendSeq_spec (Bm b clock : Nat) (es : Array MapEntry) (w : World) (hst : MapKept.Stamped es clock) (hkey : ∀ en, en ∈ es.toList → ∃ p : PV, en.key = .agg (cP p).toArray) (hm : w.heap[Bm]? = some (cb [.map (some b)] 109)) (hb : w.heap[b]? = some (.map es clock)) (hn : es.size ≤ 1099511627776) :
    Calls Try.prog 84 [.slice none 0 0, .func (.func 82) #[] #[.pointer (some ⟨Bm, 0, none⟩)]].toArray w fun r w' => ∃ x : List MapEntry × Value × List (Nat × Obj), r = .returned x.2.1 ∧ (x.1.Perm es.toList ∧ Vec 38 17 x.2.1 x.1.length (fP (x.1.map kpv)) x.2.2) ∧ St w [] x.2.2 w' := by
  refine calls_of_JM (args := [.slice none 0 0, .func (.func 82) #[] #[.pointer (some ⟨Bm, 0, none⟩)]]) (e := [(0, .slice none 0 0), (1, .func (.func 82) #[] #[.pointer (some ⟨Bm, 0, none⟩)])]) Try.func84 rfl rfl ⟨rfl, rfl, trivial⟩ (St.start w) ?_
  refine JC.seq (fun K0 hK0 => ?_)
  refine JC.region ?_
  refine J.box rfl rfl rfl (fun b2 => ?_)
  refine J.assign rfl rfl ?_
  refine J.nil ?_
  refine JX.thenN (hK0 _ _ ?_)
  refine JC.seqRaw ?_
  refine JC.seq (fun K2 hK2 => ?_)
  refine JC.region ?_
  refine J.move rfl rfl ?_
  refine J.nil ?_
  refine JX.thenN (hK2 _ _ ?_)
  refine JC.block ?_
  refine JC.rangeFS rfl Ty.bd82 ?_
  intro fn T lb Dd rec W1 hT hrec hW1
  have hst1 : St w [] ([(b2, cb [.slice none 0 0] 65), (lb, .loop rec), (Dd, .deferred (some []))] ++ []) W1 := hW1.perm (by (refine perm_cnt (fun _ => ?_)); simp only [cntB_append, cntB_cons, cntB_nil, Nat.add_zero, Nat.zero_add]; try ac_rfl)
  refine Calls.mono (keys1_spec lb Bm b clock es (AppInv b2 lb Dd rec) [(b2, cb [.slice none 0 0] 65), (lb, .loop rec), (Dd, .deferred (some []))] W1 hst hkey (by rw [hst1.keep Bm (lt_of_some hm) (by simp)]; exact hm) (by rw [hst1.keep b (lt_of_some hb) (by simp)]; exact hb) (St.notin (l := [(b2, cb [.slice none 0 0] 65), (lb, .loop rec), (Dd, .deferred (some []))]) hst1 (lt_of_some hm)) (St.notin (l := [(b2, cb [.slice none 0 0] 65), (lb, .loop rec), (Dd, .deferred (some []))]) hst1 (lt_of_some hb)) hst1.owns ⟨.slice none 0 0, [], Vec.nil _ _, rfl⟩ ?_) ?_
  · intro pre en lst W2 hem hlen hInv hown
    obtain ⟨v, lp, hv, rfl⟩ := hInv
    have hpk := kpv_spec (hkey en hem)
    obtain ⟨p, hp⟩ : ∃ p, kpv en = p := ⟨_, rfl⟩
    rw [hp] at hpk
    refine ⟨rec.fn, _, rec.assign, rec.body, run_yield (hown.own _ (.tail _ (.head _))) (by rw [hrec.params]; rfl), ?_⟩
    rw [hrec.assign, hrec.body, hrec.params, hrec.tmps, hpk]
    refine round1 ?_
    have hT7 := (hT.put (d := 7) rfl (.agg (cP p).toArray)).cov (f := [(7, .agg (cP p).toArray), (2, .pointer (some ⟨b2, 0, none⟩))]) ⟨rfl, rfl, trivial⟩
    refine roundIn_of_J (α := Nat) (β := Value × List (Nat × Obj)) (I := St W2 (((b2, cb [v] 65) :: (lb, .loop rec) :: (Dd, .deferred (some [])) :: lp).map (·.1)) ((b2, cb [v] 65) :: (lb, .loop rec) :: (Dd, .deferred (some [])) :: lp)) (fun b5 => [(2, .pointer (some ⟨b2, 0, none⟩)), (5, .pointer (some ⟨b5, 0, none⟩))])
      (fun b5 => St W2 (((b2, cb [v] 65) :: (lb, .loop rec) :: (Dd, .deferred (some [])) :: lp).map (·.1)) ((b5, cb (cP p) 38) :: (b2, cb [v] 65) :: (lb, .loop rec) :: (Dd, .deferred (some [])) :: lp)) (fun b5 => St W2 (((b2, cb [v] 65) :: (lb, .loop rec) :: (Dd, .deferred (some [])) :: lp).map (·.1)) ((b5, cb (cP p) 38) :: (b2, cb [v] 65) :: (lb, .loop { rec with state := .busy }) :: (Dd, .deferred (some [])) :: lp))
      (fun z w1 => Vec 38 17 z.1 ((pre ++ [en]).map kpv).length (fP ((pre ++ [en]).map kpv)) z.2 ∧ St W2 (((b2, cb [v] 65) :: (lb, .loop rec) :: (Dd, .deferred (some [])) :: lp).map (·.1)) ((b2, cb [z.1] 65) :: (lb, .loop { rec with state := .busy }) :: (Dd, .deferred (some [])) :: z.2) w1) rfl rfl ?_ ?_ ?_ ?_ hT7 hown.st
    · refine J.alloc Ty.z38 rfl rfl (fun b5 => ?_)
      refine J.storeW (cs := cP zP) (vs := cP p) Ty.s38 rfl rfl rfl rfl rfl (one_cP p) .here ?_
      exact J.nil (JX.qx b5 ⟨rfl, rfl, trivial⟩ (fun w1 hw => hw))
    · intro b5 w1 hw
      exact ⟨rec, hw.own _ (.tail _ (.tail _ (.head _))), hrec.state, hw.wrote (.there (.there .here)) (wrote_put (hw.own _ (.tail _ (.tail _ (.head _)))))⟩
    · intro b5
      refine J.loadO (v := v) Ty.a65 rfl (.tail _ (.head _)) rfl rfl ?_
      refine J.loadOA (vs := cP p) Ty.a38 Ty.s38 rfl (.head _) rfl rfl rfl ?_
      refine J.buildSl (cs := cP p) Ty.el65 Ty.s38 Ty.z38 rfl rfl rfl rfl (by kernel_rfl) rfl rfl (fun b10 => ?_)
      refine J.perm (lp ++ [(b10, cb (cP p) 38), (b5, cb (cP p) 38), (b2, cb [v] 65), (lb, .loop { rec with state := .busy }), (Dd, .deferred (some []))]) (by (refine perm_cnt (fun _ => ?_)); simp only [cntB_append, cntB_cons, cntB_nil, Nat.add_zero, Nat.zero_add]; try ac_rfl) ?_
      have hpl : (pre.map kpv).length < es.size := by rw [List.length_map]; exact hlen
      refine J.append (lp := lp) (xs := fP (pre.map kpv)) (ys := cP p) (k := (pre.map kpv).length) (m := 1) Ty.el65 Ty.s38 Ty.b38 Ty.z38 rfl (.inl ⟨38, Ty.u65⟩) rfl rfl hv (fun w3 hw3 => .inl (Row.own hw3 (List.mem_append_right _ (.head _)) rfl (Nat.le_refl _))) rfl (one_cP p) (by omega) (by omega) rfl (fun v2 lp2 hv2 => ?_)
      obtain ⟨a2, c2, rfl, hc2⟩ := hv2.form
      refine J.perm ((b2, cb [v] 65) :: (lb, .loop { rec with state := .busy }) :: (Dd, .deferred (some [])) :: (lp2 ++ [(b10, cb (cP p) 38), (b5, cb (cP p) 38)])) (by (refine perm_cnt (fun _ => ?_)); simp only [cntB_append, cntB_cons, cntB_nil, Nat.add_zero, Nat.zero_add]; try ac_rfl) ?_
      refine J.storeO (cs := [v]) (vs := [.slice a2 ((pre.map kpv).length + 1) c2]) Ty.s65 rfl rfl rfl rfl (by simp [Value.oneCell']) .here (by simp) ?_
      refine J.nil (JX.qx (.slice a2 ((pre.map kpv).length + 1) c2, lp2) trivial (fun w1 hw => ⟨?_, hw.drop (.cons_cons _ (.cons_cons _ (.cons_cons _ (List.sublist_append_left _ _))))⟩))
      rw [List.map_append, List.length_append, fP_append, List.map_cons, List.map_nil, hp]
      simpa [fP] using hv2
    · rintro ⟨v2, lp2⟩ w1 ⟨hv2, hw⟩
      refine ⟨{ rec with state := .busy }, hw.own _ (.tail _ (.head _)), rfl, _, ⟨v2, lp2, hv2, rfl⟩, ?_⟩
      have h := hw.wrote (.there .here) (wrote_put (o' := .loop { ({ rec with state := .busy } : Loop) with state := .ready, pending := none }) (hw.own _ (.tail _ (.head _))))
      rw [rec_back hrec.state hrec.pending] at h ⊢
      exact h
  · rintro r w3 ⟨v0, done, lst', rfl, hperm, ⟨v, lp, hv, rfl⟩, hst3⟩
    have hst4 := hst1.call hst3
    rw [List.append_nil] at hst4
    refine ⟨v0, rfl, hst4.own _ (.tail _ (.head _)), ?_⟩
    have hst5 := hst4.wrote (.there .here) (wrote_put (o' := .loop { rec with state := .exhausted }) (hst4.own _ (.tail _ (.head _))))
    show (Code.seq _ _).wp _ _ _ _
    refine wp_seq (wp_region_more (α := Unit) (e := [(2, .pointer (some ⟨b2, 0, none⟩))]) (I := St w [] ((b2, cb [v] 65) :: (lb, .loop { rec with state := .exhausted }) :: (Dd, .deferred (some [])) :: lp)) (E := fun _ => [(4, v)]) (I' := fun _ => St w [] ((b2, cb [v] 65) :: (lb, .loop { rec with state := .exhausted }) :: (Dd, .deferred (some [])) :: lp)) ?_ (hT.cov ⟨rfl, trivial⟩) hst5 (fun _ T2 w5 hT2 hw5 => wp_ret ?_))
    · refine J.loadO (v := v) Ty.a65 rfl (.head _) rfl rfl ?_
      refine J.assign rfl rfl ?_
      exact J.nil (JX.qx () ⟨rfl, trivial⟩ (fun w1 hw => hw))
    · refine ⟨by simp, .inl ⟨Dd, _, rfl, run_takeDeferred (hw5.own _ (.tail _ (.tail _ (.head _)))), ?_⟩⟩
      have hst6 := hw5.wrote (.there (.there .here)) (wrote_put (o' := .deferred none) (hw5.own _ (.tail _ (.tail _ (.head _)))))
      refine ⟨v, ?_, (done, v, lp), rfl, ⟨hperm, ?_⟩, hst6.drop (.cons _ (.cons _ (.cons _ (List.Sublist.refl _))))⟩
      · rw [results_tmp rfl, Array.getD_eq_getD_getElem?, hT2.2 4 v rfl]; rfl
      · rw [List.length_map] at hv
        exact hv

theorem collect_spec (Bm b clock : Nat) (es : Array MapEntry) (w : World) (hst : MapKept.Stamped es clock) (hkey : ∀ en, en ∈ es.toList → ∃ p : PV, en.key = .agg (cP p).toArray) (hm : w.heap[Bm]? = some (cb [.map (some b)] 109)) (hb : w.heap[b]? = some (.map es clock)) (hn : es.size ≤ 1099511627776) :
    Calls Try.prog 80 [.func (.func 82) #[] #[.pointer (some ⟨Bm, 0, none⟩)]].toArray w fun r w' => ∃ x : List MapEntry × Value × List (Nat × Obj), r = .returned x.2.1 ∧ (x.1.Perm es.toList ∧ Vec 38 17 x.2.1 x.1.length (fP (x.1.map kpv)) x.2.2) ∧ St w [] x.2.2 w' := by
  refine calls_of_J (args := [.func (.func 82) #[] #[.pointer (some ⟨Bm, 0, none⟩)]]) (e := [(0, .func (.func 82) #[] #[.pointer (some ⟨Bm, 0, none⟩)])]) Try.func80 rfl rfl ⟨rfl, trivial⟩ (St.start w) ?_
  refine JC.seq (fun K0 hK0 => ?_)
  refine JC.region ?_
  refine J.assign rfl rfl ?_
  refine J.nil ?_
  refine JX.thenN (hK0 _ _ ?_)
  refine JC.seq (fun K1 hK1 => ?_)
  refine JC.region ?_
  refine J.move rfl rfl ?_
  refine J.perm ([] ++ []) (.refl _) ?_
  refine J.callS (α := List MapEntry × Value × List (Nat × Obj)) (V := (·.2.1)) (Pr := fun x => x.1.Perm es.toList ∧ Vec 38 17 x.2.1 x.1.length (fP (x.1.map kpv)) x.2.2) (L := (·.2.2)) (l1 := []) Ty.bd84 rfl rfl (fun w1 hw => appendSeq_spec Bm b clock es w1 hst hkey (by rw [hw.keep Bm (lt_of_some hm) (by simp)]; exact hm) (by rw [hw.keep b (lt_of_some hb) (by simp)]; exact hb) hn) (fun x hx => ?_)
  obtain ⟨ss, vs, ls⟩ := x
  simp only [List.append_nil] at hx ⊢
  refine J.assign rfl rfl ?_
  refine J.nil ?_
  refine JX.thenN (hK1 _ _ ?_)
  refine JC.ret ?_
  refine JX.ret1 rfl rfl (fun w hw => ?_)
  exact ⟨(ss, vs, ls), rfl, hx, hw⟩

theorem sortP_vec (v : Value) (xs : List PV) (lp : List (Nat × Obj)) (w : World) (hv : Vec 38 17 v xs.length (fP xs) lp) (hw0 : Own w lp) (hlen : xs.length < 4611686018427387904) :
    Calls Try.prog 81 [v, .func (.func 76) #[] #[]].toArray w fun r w' => ∃ x : List PV × List (Nat × Obj), r = .returned (.tuple #[]) ∧ (x.1.Perm xs ∧ x.1.Pairwise (fun a b => ltP b a = false) ∧ Vec 38 17 v x.1.length (fP x.1) x.2) ∧ St w (lp.map (·.1)) x.2 w' := by
  rcases vecP hv with ⟨rfl, rfl, rfl⟩ | ⟨b, c, sp, rfl, rfl, h1, h2⟩
  · exact (AnyF.slices_SortFunc_none Try.sortI none 0 _ w).mono fun r w' ⟨h1, h2⟩ => ⟨([], []), h1, ⟨.refl _, .nil, Vec.nil _ _⟩, by rw [h2]; exact St.start w⟩
  · refine (sortP_spec b xs sp c w (hw0.own _ (.head _)) hlen).mono fun r w' ⟨ys, h3, h4, h5⟩ => ?_
    have hl := h4.1.length_eq
    refine ⟨(ys, [_]), h3, ⟨h4.1, h4.2, ?_⟩, h5⟩
    have := vecP_mk (xs := ys) (b := b) (c := c) (sp := sp) (by rw [List.length_append, fP_length, hl, ← fP_length, ← List.length_append]; exact h1)
    rw [hl] at this ⊢
    exact this

theorem sortedFunc_spec (Bm b clock : Nat) (es : Array MapEntry) (w : World) (hst : MapKept.Stamped es clock) (hkey : ∀ en, en ∈ es.toList → ∃ p : PV, en.key = .agg (cP p).toArray) (hm : w.heap[Bm]? = some (cb [.map (some b)] 109)) (hb : w.heap[b]? = some (.map es clock)) (hn : es.size ≤ 1099511627776) :
    Calls Try.prog 74 [.func (.func 82) #[] #[.pointer (some ⟨Bm, 0, none⟩)], .func (.func 76) #[] #[]].toArray w fun r w' => ∃ x : List PV × Value × List (Nat × Obj), r = .returned x.2.1 ∧ (x.1.Perm (es.toList.map kpv) ∧ x.1.Pairwise (fun a b => ltP b a = false) ∧ Vec 38 17 x.2.1 x.1.length (fP x.1) x.2.2) ∧ St w [] x.2.2 w' := by
  refine calls_of_J (args := [.func (.func 82) #[] #[.pointer (some ⟨Bm, 0, none⟩)], .func (.func 76) #[] #[]]) (e := [(0, .func (.func 82) #[] #[.pointer (some ⟨Bm, 0, none⟩)]), (1, .func (.func 76) #[] #[])]) Try.func74 rfl rfl ⟨rfl, rfl, trivial⟩ (St.start w) ?_
  refine JC.seq (fun K0 hK0 => ?_)
  refine JC.region ?_
  refine J.assign rfl rfl ?_
  refine J.nil ?_
  refine JX.thenN (hK0 _ _ ?_)
  refine JC.seq (fun K1 hK1 => ?_)
  refine JC.region ?_
  refine J.move rfl rfl ?_
  refine J.perm ([] ++ []) (.refl _) ?_
  refine J.callS (α := List MapEntry × Value × List (Nat × Obj)) (V := (·.2.1)) (Pr := fun x => x.1.Perm es.toList ∧ Vec 38 17 x.2.1 x.1.length (fP (x.1.map kpv)) x.2.2) (L := (·.2.2)) (l1 := []) Ty.bd80 rfl rfl (fun w1 hw => collect_spec Bm b clock es w1 hst hkey (by rw [hw.keep Bm (lt_of_some hm) (by simp)]; exact hm) (by rw [hw.keep b (lt_of_some hb) (by simp)]; exact hb) hn) (fun x hx => ?_)
  obtain ⟨ss, vs, ls⟩ := x
  simp only [List.append_nil] at hx ⊢
  refine J.assign rfl rfl ?_
  refine J.nil ?_
  refine JX.thenN (hK1 _ _ ?_)
  refine JC.seq (fun K2 hK2 => ?_)
  refine JC.region ?_
  refine J.move rfl rfl ?_
  refine J.move rfl rfl ?_
  have hl2 := hx.1.length_eq
  refine J.perm (ls ++ []) (by simp) ?_
  refine J.callS (α := List PV × List (Nat × Obj)) (V := fun _ => .tuple #[]) (Pr := fun x => x.1.Perm (ss.map kpv) ∧ x.1.Pairwise (fun a b => ltP b a = false) ∧ Vec 38 17 vs x.1.length (fP x.1) x.2) (L := (·.2)) (l1 := ls) Ty.bd81 rfl rfl (fun w1 hw => sortP_vec vs (ss.map kpv) ls w1 (by rw [List.length_map]; exact hx.2) hw.owns (by rw [List.length_map]; simp at hl2; omega)) (fun x hs => ?_)
  obtain ⟨ks, lk⟩ := x
  simp only [List.append_nil] at hs ⊢
  refine J.nil ?_
  refine JX.thenN (hK2 _ _ ?_)
  refine JC.seq (fun K3 hK3 => ?_)
  refine JC.region ?_
  refine J.move rfl rfl ?_
  refine J.assign rfl rfl ?_
  refine J.nil ?_
  refine JX.thenN (hK3 _ _ ?_)
  refine JC.ret ?_
  refine JX.ret1 rfl rfl (fun w hw => ?_)
  exact ⟨(ks, vs, lk), rfl, ⟨hs.1.trans (hx.1.map _), hs.2⟩, hw⟩

theorem keys_spec (b : Nat) (w : World) :
    Calls Try.prog 75 [.map (some b)].toArray w fun r w' => ∃ Bm : Nat, r = .returned (.func (.func 82) #[] #[.pointer (some ⟨Bm, 0, none⟩)]) ∧ St w [] [(Bm, cb [.map (some b)] 109)] w' := by
  refine calls_of_J (args := [.map (some b)]) (e := [(0, .map (some b))]) Try.func75 rfl rfl ⟨rfl, trivial⟩ (St.start w) ?_
  refine JC.seq (fun K0 hK0 => ?_)
  refine JC.region ?_
  refine J.box rfl rfl rfl (fun b1 => ?_)
  refine J.assign rfl rfl ?_
  refine J.nil ?_
  refine JX.thenN (hK0 _ _ ?_)
  refine JC.seq (fun K1 hK1 => ?_)
  refine JC.region ?_
  refine J.makeFn rfl rfl ?_
  refine J.assign rfl rfl ?_
  refine J.nil ?_
  refine JX.thenN (hK1 _ _ ?_)
  refine JC.ret ?_
  refine JX.ret1 rfl rfl (fun w hw => ?_)
  exact ⟨b1, rfl, hw⟩

end Go.Proofs.Ytohldionclgljaa
