/-
  maps.Keys at paths: its iterator; slices.AppendSeq, Collect, SortedFunc: contracts.
-/
import Derived.Test.YtohldionclgljaaGreatUa
import Derived.Test.YtohldionclgljaaGreatMd
namespace Go.Proofs.YtohldionclgljaaGreat
open Go.J Go.RowKit
set_option linter.unusedVariables false
set_option linter.unusedSimpArgs false
set_option maxRecDepth 4000
theorem nodup_len : ∀ {l m : List Nat}, l.Nodup → (∀ x, x ∈ l → x ∈ m) → l.length ≤ m.length
  | [], m, _, _ => Nat.zero_le _
  | a :: l, m, h, hs => by
    have h' := List.nodup_cons.1 h
    have ha := hs a (.head _)
    have := nodup_len (l := l) (m := m.erase a) h'.2 (fun x hx => (List.mem_erase_of_ne (fun e => h'.1 (by rw [← e]; exact hx))).2 (hs x (.tail _ hx)))
    rw [List.length_erase_of_mem ha] at this
    have : 0 < m.length := List.length_pos_of_mem ha
    simp only [List.length_cons]
    omega
theorem done_perm {es done : List MapEntry} (hn : (es.map (·.born)).Nodup) (hd : (done.map (·.born)).Nodup) (h1 : ∀ x, x ∈ done → x ∈ es) (h2 : ∀ x, x ∈ es → x.born ∈ done.map (·.born)) : done.Perm es := by
  have nd : ∀ {l : List MapEntry}, (l.map (·.born)).Nodup → l.Nodup := fun h => (List.pairwise_map.1 h).imp fun h e => h (by rw [e])
  refine (List.perm_ext_iff_of_nodup (nd hd) (nd hn)).2 fun x => ⟨h1 x, fun hx => ?_⟩
  obtain ⟨y, hy, he⟩ := List.mem_map.1 (h2 x hx)
  have : y = x := by
    apply Classical.byContradiction
    intro hne
    have hp := List.pairwise_map.1 hn
    obtain ⟨i, hi, rfl⟩ := List.getElem_of_mem (h1 y hy)
    obtain ⟨j, hj, rfl⟩ := List.getElem_of_mem hx
    rw [List.pairwise_iff_getElem] at hp
    rcases Nat.lt_trichotomy i j with h | h | h
    · exact hp i j hi hj h he
    · subst h; exact hne rfl
    · exact hp j i hj hi h he.symm
  rw [← this]
  exact hy
structure KS where
  done : List MapEntry
  o : Obj
  lst : List (Nat × Obj)
open Classical in
/-- the path that is an entry's key -/
noncomputable def kpv (en : MapEntry) : PV := if h : ∃ p : PV, en.key = .agg (cP p).toArray then h.choose else zP
theorem kpv_spec {en : MapEntry} (h : ∃ p : PV, en.key = .agg (cP p).toArray) : en.key = .agg (cP (kpv en)).toArray := by
  unfold kpv
  rw [dif_pos h]
  exact h.choose_spec

theorem keys1_spec (lb Bm b clock : Nat) (es : Array MapEntry) (Inv : List MapEntry → List (Nat × Obj) → Prop) (lst0 : List (Nat × Obj)) (w : World)
    (hst : MapKept.Stamped es clock) (hkey : ∀ en, en ∈ es.toList → ∃ p : PV, en.key = .agg (cP p).toArray)
    (hm : w.heap[Bm]? = some (cb [.map (some b)] 90)) (hb : w.heap[b]? = some (.map es clock)) (hBm : Bm ∉ lst0.map (·.1)) (hbm : b ∉ lst0.map (·.1)) (h0 : Own w lst0) (hI0 : Inv [] lst0)
    (hY : ∀ pre en lst W1, en ∈ es.toList → pre.length < es.size → Inv pre lst → Own W1 lst → YieldTo (FW none) 0 Tryz.prog lb #[en.key] W1 fun r w' => r = .returned (.bool true) ∧ ∃ lst', Inv (pre ++ [en]) lst' ∧ St W1 (lst.map (·.1)) lst' w') :
    Calls Tryz.prog 76 [.func (.yield lb) #[] #[], .pointer (some ⟨Bm, 0, none⟩)].toArray w fun r w' => ∃ v done lst', r = .returned v ∧ done.Perm es.toList ∧ Inv done lst' ∧ St w (lst0.map (·.1)) lst' w' := by
  have hstamp := (MapKept.stamped_iff es clock).1 hst
  have hh0 := h0
  clear h0
  refine calls_of_J (args := [.func (.yield lb) #[] #[], .pointer (some ⟨Bm, 0, none⟩)]) (e := [(0, .func (.yield lb) #[] #[]), (1, .pointer (some ⟨Bm, 0, none⟩))]) Tryz.func76 rfl rfl ⟨rfl, rfl, trivial⟩ (hh0.st) ?_
  refine JC.seq (fun K0 hK0 => ?_)
  refine JC.region ?_
  refine J.load1 (v := .map (some b)) Ty.a90 rfl (fun w1 hw => by rw [cell_of (by rw [hw.keep Bm (lt_of_some hm) hBm]; exact hm)]; rfl) rfl ?_
  refine J.range Ty.u90 rfl (fun w1 hw => by rw [hw.keep b (lt_of_some hb) hbm]; exact hb) hstamp.1 rfl (fun r0 o0 ho0 => ?_)
  refine J.nil ?_
  refine JX.thenN (hK0 _ _ ?_)
  refine JC.block ?_
  refine JC.conseq (JC.cov (f := (fun st => [(0, .func (.yield lb) #[] #[]), (1, .pointer (some ⟨Bm, 0, none⟩)), (5, .pointer (some ⟨r0, 0, none⟩))]) (⟨[], o0, lst0⟩ : KS)) ⟨rfl, rfl, rfl, trivial⟩ (JC.loop (α := KS) (fun st => [(0, .func (.yield lb) #[] #[]), (1, .pointer (some ⟨Bm, 0, none⟩)), (5, .pointer (some ⟨r0, 0, none⟩))]) (fun st w' => (IterAt b es clock (st.done.map (·.born)) st.o ∧ (∀ x, x ∈ st.done → x ∈ es.toList) ∧ (st.done.map (·.born)).Nodup ∧ Inv st.done st.lst) ∧ St w (lst0.map (·.1)) ((r0, st.o) :: st.lst) w') (fun st => es.size - st.done.length) (⟨[], o0, lst0⟩ : KS) (fun st => ?_))) (fun w hw => ⟨⟨ho0, by simp, .nil, hI0⟩, hw⟩)
  obtain ⟨done, o, lst⟩ := st
  simp only
  refine JC.pr (fun hx => ?_)
  obtain ⟨hit, hsub, hnd, hInv⟩ := hx
  refine JC.seq (fun K1 hK1 => ?_)
  refine JC.region ?_
  refine J.next (l' := fun o1 => (r0, o1) :: lst) rfl (fun _ => .here) hit (fun w1 hw => by rw [hw.keep b (lt_of_some hb) hbm]; exact hb) rfl (fun eo o1 hN => ?_)
  refine J.extract rfl (nextA_0 eo) rfl ?_
  refine J.nil ?_
  refine JX.thenN (hK1 _ _ ?_)
  refine JC.seq (fun K2 hK2 => ?_)
  refine JC.cond rfl (fun h0 => ?_) (fun h0 => ?_)
  · skip
    obtain ⟨en, rfl⟩ := Option.isSome_iff_exists.1 h0
    obtain ⟨hem, hnb, hon⟩ := hN
    obtain ⟨p, hp⟩ := hkey en hem
    have hlen : done.length + 1 ≤ es.size := by
      have h := nodup_len (l := (done ++ [en]).map (·.born)) (m := es.toList.map (·.born)) (by rw [List.map_append]; exact List.nodup_append.2 ⟨hnd, by simp, fun a ha b hb e => hnb (by simp at hb; rw [← hb, ← e]; exact ha)⟩) (fun x hx => by
        obtain ⟨y, hy, rfl⟩ := List.mem_map.1 hx
        refine List.mem_map.2 ⟨y, ?_, rfl⟩
        exact (List.mem_append.1 hy).elim (hsub y) (fun h => by rw [List.mem_singleton.1 h]; exact hem))
      simpa using h
    refine JC.skip ?_
    refine JX.thenN (hK2 _ _ ?_)
    refine JC.block ?_
    refine JC.seq (fun K3 hK3 => ?_)
    refine JC.region ?_
    refine J.entry rfl (.head _) hon hem hstamp.2.1 (fun w1 hw => by rw [hw.keep b (lt_of_some hb) hbm]; exact hb) rfl ?_
    refine J.extract rfl rfl rfl ?_
    refine J.name 9 rfl hp ?_
    refine J.alloc Ty.z31 rfl rfl (fun b3 => ?_)
    refine J.storeW (cs := cP zP) (vs := cP p) Ty.s31 rfl rfl rfl rfl rfl (one_cP p) .here ?_
    refine J.nil ?_
    refine JX.thenN (hK3 _ _ ?_)
    refine JC.seq (fun K4 hK4 => ?_)
    refine JC.regionI ?_
    refine JI.steps (α := Unit) (os := [_, _]) (rest := [_, _]) (fun _ => [(0, .func (.yield lb) #[] #[]), (1, .pointer (some ⟨Bm, 0, none⟩)), (5, .pointer (some ⟨r0, 0, none⟩)), (10, .func (.yield lb) #[] #[]), (11, .agg (cP p).toArray)]) (fun _ => St w (lst0.map (·.1)) ((b3, cb (cP p) 31) :: (r0, o1) :: lst)) rfl ?_ (fun _ => ?_)
    · refine J.move rfl rfl ?_
      refine J.loadOA (vs := cP p) Ty.a31 Ty.s31 rfl (.head _) rfl rfl rfl ?_
      exact J.nil (JX.qx () ⟨rfl, rfl, rfl, rfl, rfl, trivial⟩ (fun w1 hw => hw))
    refine JI.yield (vs := [.agg (cP p).toArray]) (R := fun v w' => ∃ lst', (v = .bool true ∧ Inv (done ++ [en]) lst') ∧ St w (lst0.map (·.1)) ((b3, cb (cP p) 31) :: (r0, o1) :: lst') w') rfl rfl rfl (fun w2 hw => ?_) (fun v => ?_)
    · have hw' : St w (lst0.map (·.1)) (lst ++ [(b3, cb (cP p) 31), (r0, o1)]) w2 := hw.perm (by (refine perm_cnt (fun _ => ?_)); simp only [cntB_append, cntB_cons, cntB_nil, Nat.add_zero, Nat.zero_add]; try ac_rfl)
      obtain ⟨fn1, T1, as1, bd1, hy1, hy2⟩ := hY done en lst w2 hem (by omega) hInv hw'.owns
      rw [hp] at hy1
      refine ⟨fn1, T1, as1, bd1, hy1, hy2.mono ?_⟩
      rintro e1 w1 ⟨rfl, lst', hi', hst'⟩
      exact ⟨_, rfl, lst', ⟨rfl, hi'⟩, (hw'.call hst').perm (by (refine perm_cnt (fun _ => ?_)); simp only [cntB_append, cntB_cons, cntB_nil, Nat.add_zero, Nat.zero_add]; try ac_rfl)⟩
    refine JI.steps (α := List (Nat × Obj)) (os := [_]) (rest := []) (fun _ => [(0, .func (.yield lb) #[] #[]), (1, .pointer (some ⟨Bm, 0, none⟩)), (5, .pointer (some ⟨r0, 0, none⟩)), (13, .bool false)]) (fun lst' w' => Inv (done ++ [en]) lst' ∧ St w (lst0.map (·.1)) ((b3, cb (cP p) 31) :: (r0, o1) :: lst') w') rfl ?_ (fun lst' => JI.nil ?_)
    · refine J.ex fun lst' => J.pr fun hv => ?_
      obtain ⟨rfl, hi'⟩ := hv
      refine J.not rfl rfl ?_
      exact J.nil (JX.qx lst' ⟨rfl, rfl, rfl, rfl, trivial⟩ (fun w1 hw => ⟨hi', hw⟩))
    refine JX.pr fun hi' => ?_
    refine JX.thenN (hK4 _ _ ?_)
    first | refine JC.condF rfl ?_ | refine JC.cond rfl (fun h => by first | (exfalso; simp at h; omega) | (simp at h)) (fun _ => ?_)
    refine JC.skip ?_
    refine JX.blockN ?_
    refine JX.thenN ?_
    refine JX.again (⟨done ++ [en], o1, lst'⟩ : KS) ?_ ?_ ?_
    · simp only [List.length_append, List.length_singleton]; omega
    · exact ⟨rfl, rfl, rfl, trivial⟩
    · exact fun w1 hw => ⟨⟨by rw [List.map_append]; exact hon.at, fun x hx => (List.mem_append.1 hx).elim (hsub x) (fun h => by rw [List.mem_singleton.1 h]; exact hem), by rw [List.map_append]; exact List.nodup_append.2 ⟨hnd, by simp, fun a ha b hb e => hnb (by simp at hb; rw [← hb, ← e]; exact ha)⟩, hi'⟩, hw.drop (List.sublist_cons_self _ _)⟩
  · skip
    have hnone : eo = none := by cases eo with | none => rfl | some e => cases h0
    subst hnone
    obtain ⟨rfl, hall⟩ := hN
    have hperm := done_perm hstamp.2.1 hnd hsub hall
    refine JC.exit ?_
    refine JX.thenE ?_
    refine JX.thenE ?_
    refine JX.blockE ?_
    refine JX.end0 rfl (fun w1 hw => ?_)
    exact ⟨_, done, lst, rfl, hperm, hInv, hw.drop (List.sublist_cons_self _ _)⟩

end Go.Proofs.YtohldionclgljaaGreat
/-
  slices.AppendSeq and Collect of maps.Keys at paths; slices.SortedFunc: contracts.
-/
namespace Go.Proofs.YtohldionclgljaaGreat
open Go.J Go.RowKit
set_option linter.unusedVariables false
set_option linter.unusedSimpArgs false
open Go.Sort Go.Shelf
set_option maxRecDepth 4000
theorem vecP {v : Value} {xs : List PV} {lp : List (Nat × Obj)} (h : Vec 31 17 v xs.length (fP xs) lp) : (v = .slice none 0 0 ∧ xs = [] ∧ lp = []) ∨ ∃ b c sp, v = .slice (some ⟨b, 0, none⟩) xs.length c ∧ lp = [(b, cb (fP xs ++ sp) 31)] ∧ (fP xs ++ sp).length = c * 17 ∧ xs.length ≤ c := by
  rcases h.2 with ⟨h1, h2, h3⟩ | h
  · exact .inl ⟨h1, List.eq_nil_of_length_eq_zero h2, h3⟩
  · exact .inr h
theorem vecP_mk {xs : List PV} {b c : Nat} {sp : List Value} (h1 : (fP xs ++ sp).length = c * 17) : Vec 31 17 (.slice (some ⟨b, 0, none⟩) xs.length c) xs.length (fP xs) [(b, cb (fP xs ++ sp) 31)] := by
  refine ⟨fP_length xs, .inr ⟨b, c, sp, rfl, rfl, h1, ?_⟩⟩
  rw [List.length_append, fP_length] at h1
  omega
theorem fP_append (xs ys : List PV) : fP (xs ++ ys) = fP xs ++ fP ys := by simp [fP]
theorem fP_snoc (ks : List PV) (p : PV) : fP (ks ++ [p]) = fP ks ++ cP p := by simp [fP]
theorem fP_one {xs : List PV} {v : Value} (h : v ∈ fP xs) : v.oneCell' = true := by
  obtain ⟨p, _, hv⟩ := List.mem_flatMap.1 h
  exact one_cP p v hv
/-- what the rounds keep: the box, the loop's record, the block for deferred calls, the row -/
def AppInv (Bs l D : Nat) (rec : Loop) (ss : List MapEntry) (lst : List (Nat × Obj)) : Prop :=
  ∃ v lp, Vec 31 17 v (ss.map kpv).length (fP (ss.map kpv)) lp ∧ lst = (Bs, cb [v] 43) :: (l, .loop rec) :: (D, .deferred (some [])) :: lp

theorem St.notin {w0 w : World} {l : List (Nat × Obj)} (h : St w0 [] l w) {b : Nat} (hb : b < w0.heap.size) : b ∉ l.map (·.1) := fun hm => by
  obtain ⟨q, hq, he⟩ := List.mem_map.1 hm
  rcases h.apart q hq with h1 | h1
  · cases h1
  · omega
theorem rec_back {rec : Loop} (h1 : rec.state = .ready) (h2 : rec.pending = none) : ({ ({ rec with state := .busy } : Loop) with state := .ready, pending := none } : Loop) = rec := by
  cases rec
  simp only at h1 h2
  subst h1
  subst h2
  rfl

theorem appendSeq_spec (Bm b clock : Nat) (es : Array MapEntry) (w : World) (hst : MapKept.Stamped es clock) (hkey : ∀ en, en ∈ es.toList → ∃ p : PV, en.key = .agg (cP p).toArray) (hm : w.heap[Bm]? = some (cb [.map (some b)] 90)) (hb : w.heap[b]? = some (.map es clock)) (hn : es.size ≤ 1099511627776) :
    Calls Tryz.prog 89 [.slice none 0 0, .func (.func 76) #[] #[.pointer (some ⟨Bm, 0, none⟩)]].toArray w fun r w' => ∃ x : List MapEntry × Value × List (Nat × Obj), r = .returned x.2.1 ∧ (x.1.Perm es.toList ∧ Vec 31 17 x.2.1 x.1.length (fP (x.1.map kpv)) x.2.2) ∧ St w [] x.2.2 w' := by
  refine calls_of_JM (args := [.slice none 0 0, .func (.func 76) #[] #[.pointer (some ⟨Bm, 0, none⟩)]]) (e := [(0, .slice none 0 0), (1, .func (.func 76) #[] #[.pointer (some ⟨Bm, 0, none⟩)])]) Tryz.func89 rfl rfl ⟨rfl, rfl, trivial⟩ (St.start w) ?_
  refine JC.seq (fun K0 hK0 => ?_)
  refine JC.region ?_
  refine J.box rfl rfl rfl (fun b2 => ?_)
  refine J.assign rfl rfl ?_
  refine J.nil ?_
  refine JX.thenN (hK0 _ _ ?_)
  refine JC.seqRaw ?_
  refine JC.seq (fun K2 hK2 => ?_)
  refine JC.region ?_
  refine J.move rfl rfl ?_
  refine J.nil ?_
  refine JX.thenN (hK2 _ _ ?_)
  refine JC.block ?_
  refine JC.rangeFS rfl Ty.bd76 ?_
  intro fn T lb Dd rec W1 hT hrec hW1
  have hst1 : St w [] ([(b2, cb [.slice none 0 0] 43), (lb, .loop rec), (Dd, .deferred (some []))] ++ []) W1 := hW1.perm (by (refine perm_cnt (fun _ => ?_)); simp only [cntB_append, cntB_cons, cntB_nil, Nat.add_zero, Nat.zero_add]; try ac_rfl)
  refine Calls.mono (keys1_spec lb Bm b clock es (AppInv b2 lb Dd rec) [(b2, cb [.slice none 0 0] 43), (lb, .loop rec), (Dd, .deferred (some []))] W1 hst hkey (by rw [hst1.keep Bm (lt_of_some hm) (by simp)]; exact hm) (by rw [hst1.keep b (lt_of_some hb) (by simp)]; exact hb) (St.notin (l := [(b2, cb [.slice none 0 0] 43), (lb, .loop rec), (Dd, .deferred (some []))]) hst1 (lt_of_some hm)) (St.notin (l := [(b2, cb [.slice none 0 0] 43), (lb, .loop rec), (Dd, .deferred (some []))]) hst1 (lt_of_some hb)) hst1.owns ⟨.slice none 0 0, [], Vec.nil _ _, rfl⟩ ?_) ?_
  · intro pre en lst W2 hem hlen hInv hown
    obtain ⟨v, lp, hv, rfl⟩ := hInv
    have hpk := kpv_spec (hkey en hem)
    obtain ⟨p, hp⟩ : ∃ p, kpv en = p := ⟨_, rfl⟩
    rw [hp] at hpk
    refine ⟨rec.fn, _, rec.assign, rec.body, run_yield (hown.own _ (.tail _ (.head _))) (by rw [hrec.params]; rfl), ?_⟩
    rw [hrec.assign, hrec.body, hrec.params, hrec.tmps, hpk]
    refine round1 ?_
    have hT7 := (hT.put (d := 7) rfl (.agg (cP p).toArray)).cov (f := [(7, .agg (cP p).toArray), (2, .pointer (some ⟨b2, 0, none⟩))]) ⟨rfl, rfl, trivial⟩
    refine roundIn_of_J (α := Nat) (β := Value × List (Nat × Obj)) (I := St W2 (((b2, cb [v] 43) :: (lb, .loop rec) :: (Dd, .deferred (some [])) :: lp).map (·.1)) ((b2, cb [v] 43) :: (lb, .loop rec) :: (Dd, .deferred (some [])) :: lp)) (fun b5 => [(2, .pointer (some ⟨b2, 0, none⟩)), (5, .pointer (some ⟨b5, 0, none⟩))])
      (fun b5 => St W2 (((b2, cb [v] 43) :: (lb, .loop rec) :: (Dd, .deferred (some [])) :: lp).map (·.1)) ((b5, cb (cP p) 31) :: (b2, cb [v] 43) :: (lb, .loop rec) :: (Dd, .deferred (some [])) :: lp)) (fun b5 => St W2 (((b2, cb [v] 43) :: (lb, .loop rec) :: (Dd, .deferred (some [])) :: lp).map (·.1)) ((b5, cb (cP p) 31) :: (b2, cb [v] 43) :: (lb, .loop { rec with state := .busy }) :: (Dd, .deferred (some [])) :: lp))
      (fun z w1 => Vec 31 17 z.1 ((pre ++ [en]).map kpv).length (fP ((pre ++ [en]).map kpv)) z.2 ∧ St W2 (((b2, cb [v] 43) :: (lb, .loop rec) :: (Dd, .deferred (some [])) :: lp).map (·.1)) ((b2, cb [z.1] 43) :: (lb, .loop { rec with state := .busy }) :: (Dd, .deferred (some [])) :: z.2) w1) rfl rfl ?_ ?_ ?_ ?_ hT7 hown.st
    · refine J.alloc Ty.z31 rfl rfl (fun b5 => ?_)
      refine J.storeW (cs := cP zP) (vs := cP p) Ty.s31 rfl rfl rfl rfl rfl (one_cP p) .here ?_
      exact J.nil (JX.qx b5 ⟨rfl, rfl, trivial⟩ (fun w1 hw => hw))
    · intro b5 w1 hw
      exact ⟨rec, hw.own _ (.tail _ (.tail _ (.head _))), hrec.state, hw.wrote (.there (.there .here)) (wrote_put (hw.own _ (.tail _ (.tail _ (.head _)))))⟩
    · intro b5
      refine J.loadO (v := v) Ty.a43 rfl (.tail _ (.head _)) rfl rfl ?_
      refine J.loadOA (vs := cP p) Ty.a31 Ty.s31 rfl (.head _) rfl rfl rfl ?_
      refine J.buildSl (cs := cP p) Ty.el43 Ty.s31 Ty.z31 rfl rfl rfl rfl (by kernel_rfl) rfl rfl (fun b10 => ?_)
      refine J.perm (lp ++ [(b10, cb (cP p) 31), (b5, cb (cP p) 31), (b2, cb [v] 43), (lb, .loop { rec with state := .busy }), (Dd, .deferred (some []))]) (by (refine perm_cnt (fun _ => ?_)); simp only [cntB_append, cntB_cons, cntB_nil, Nat.add_zero, Nat.zero_add]; try ac_rfl) ?_
      have hpl : (pre.map kpv).length < es.size := by rw [List.length_map]; exact hlen
      refine J.append (lp := lp) (xs := fP (pre.map kpv)) (ys := cP p) (k := (pre.map kpv).length) (m := 1) Ty.el43 Ty.s31 Ty.b31 Ty.z31 rfl (.inl ⟨31, Ty.u43⟩) rfl rfl hv (fun w3 hw3 => .inl (Row.own hw3 (List.mem_append_right _ (.head _)) rfl (Nat.le_refl _))) rfl (one_cP p) (by omega) (by omega) rfl (fun v2 lp2 hv2 => ?_)
      obtain ⟨a2, c2, rfl, hc2⟩ := hv2.form
      refine J.perm ((b2, cb [v] 43) :: (lb, .loop { rec with state := .busy }) :: (Dd, .deferred (some [])) :: (lp2 ++ [(b10, cb (cP p) 31), (b5, cb (cP p) 31)])) (by (refine perm_cnt (fun _ => ?_)); simp only [cntB_append, cntB_cons, cntB_nil, Nat.add_zero, Nat.zero_add]; try ac_rfl) ?_
      refine J.storeO (cs := [v]) (vs := [.slice a2 ((pre.map kpv).length + 1) c2]) Ty.s43 rfl rfl rfl rfl (by simp [Value.oneCell']) .here (by simp) ?_
      refine J.nil (JX.qx (.slice a2 ((pre.map kpv).length + 1) c2, lp2) trivial (fun w1 hw => ⟨?_, hw.drop (.cons_cons _ (.cons_cons _ (.cons_cons _ (List.sublist_append_left _ _))))⟩))
      rw [List.map_append, List.length_append, fP_append, List.map_cons, List.map_nil, hp]
      simpa [fP] using hv2
    · rintro ⟨v2, lp2⟩ w1 ⟨hv2, hw⟩
      refine ⟨{ rec with state := .busy }, hw.own _ (.tail _ (.head _)), rfl, _, ⟨v2, lp2, hv2, rfl⟩, ?_⟩
      have h := hw.wrote (.there .here) (wrote_put (o' := .loop { ({ rec with state := .busy } : Loop) with state := .ready, pending := none }) (hw.own _ (.tail _ (.head _))))
      rw [rec_back hrec.state hrec.pending] at h ⊢
      exact h
  · rintro r w3 ⟨v0, done, lst', rfl, hperm, ⟨v, lp, hv, rfl⟩, hst3⟩
    have hst4 := hst1.call hst3
    rw [List.append_nil] at hst4
    refine ⟨v0, rfl, hst4.own _ (.tail _ (.head _)), ?_⟩
    have hst5 := hst4.wrote (.there .here) (wrote_put (o' := .loop { rec with state := .exhausted }) (hst4.own _ (.tail _ (.head _))))
    show (Code.seq _ _).wp _ _ _ _
    refine wp_seq (wp_region_more (α := Unit) (e := [(2, .pointer (some ⟨b2, 0, none⟩))]) (I := St w [] ((b2, cb [v] 43) :: (lb, .loop { rec with state := .exhausted }) :: (Dd, .deferred (some [])) :: lp)) (E := fun _ => [(4, v)]) (I' := fun _ => St w [] ((b2, cb [v] 43) :: (lb, .loop { rec with state := .exhausted }) :: (Dd, .deferred (some [])) :: lp)) ?_ (hT.cov ⟨rfl, trivial⟩) hst5 (fun _ T2 w5 hT2 hw5 => wp_ret ?_))
    · refine J.loadO (v := v) Ty.a43 rfl (.head _) rfl rfl ?_
      refine J.assign rfl rfl ?_
      exact J.nil (JX.qx () ⟨rfl, trivial⟩ (fun w1 hw => hw))
    · refine ⟨by simp, .inl ⟨Dd, _, rfl, run_takeDeferred (hw5.own _ (.tail _ (.tail _ (.head _)))), ?_⟩⟩
      have hst6 := hw5.wrote (.there (.there .here)) (wrote_put (o' := .deferred none) (hw5.own _ (.tail _ (.tail _ (.head _)))))
      refine ⟨v, ?_, (done, v, lp), rfl, ⟨hperm, ?_⟩, hst6.drop (.cons _ (.cons _ (.cons _ (List.Sublist.refl _))))⟩
      · rw [results_tmp rfl, Array.getD_eq_getD_getElem?, hT2.2 4 v rfl]; rfl
      · rw [List.length_map] at hv
        exact hv

theorem collect_spec (Bm b clock : Nat) (es : Array MapEntry) (w : World) (hst : MapKept.Stamped es clock) (hkey : ∀ en, en ∈ es.toList → ∃ p : PV, en.key = .agg (cP p).toArray) (hm : w.heap[Bm]? = some (cb [.map (some b)] 90)) (hb : w.heap[b]? = some (.map es clock)) (hn : es.size ≤ 1099511627776) :
    Calls Tryz.prog 74 [.func (.func 76) #[] #[.pointer (some ⟨Bm, 0, none⟩)]].toArray w fun r w' => ∃ x : List MapEntry × Value × List (Nat × Obj), r = .returned x.2.1 ∧ (x.1.Perm es.toList ∧ Vec 31 17 x.2.1 x.1.length (fP (x.1.map kpv)) x.2.2) ∧ St w [] x.2.2 w' := by
  refine calls_of_J (args := [.func (.func 76) #[] #[.pointer (some ⟨Bm, 0, none⟩)]]) (e := [(0, .func (.func 76) #[] #[.pointer (some ⟨Bm, 0, none⟩)])]) Tryz.func74 rfl rfl ⟨rfl, trivial⟩ (St.start w) ?_
  refine JC.seq (fun K0 hK0 => ?_)
  refine JC.region ?_
  refine J.assign rfl rfl ?_
  refine J.nil ?_
  refine JX.thenN (hK0 _ _ ?_)
  refine JC.seq (fun K1 hK1 => ?_)
  refine JC.region ?_
  refine J.move rfl rfl ?_
  refine J.perm ([] ++ []) (.refl _) ?_
  refine J.callS (α := List MapEntry × Value × List (Nat × Obj)) (V := (·.2.1)) (Pr := fun x => x.1.Perm es.toList ∧ Vec 31 17 x.2.1 x.1.length (fP (x.1.map kpv)) x.2.2) (L := (·.2.2)) (l1 := []) Ty.bd89 rfl rfl (fun w1 hw => appendSeq_spec Bm b clock es w1 hst hkey (by rw [hw.keep Bm (lt_of_some hm) (by simp)]; exact hm) (by rw [hw.keep b (lt_of_some hb) (by simp)]; exact hb) hn) (fun x hx => ?_)
  obtain ⟨ss, vs, ls⟩ := x
  simp only [List.append_nil] at hx ⊢
  refine J.assign rfl rfl ?_
  refine J.nil ?_
  refine JX.thenN (hK1 _ _ ?_)
  refine JC.ret ?_
  refine JX.ret1 rfl rfl (fun w hw => ?_)
  exact ⟨(ss, vs, ls), rfl, hx, hw⟩

theorem sortP_vec (v : Value) (xs : List PV) (lp : List (Nat × Obj)) (w : World) (hv : Vec 31 17 v xs.length (fP xs) lp) (hw0 : Own w lp) (hlen : xs.length < 4611686018427387904) :
    Calls Tryz.prog 75 [v, .func (.func 63) #[] #[]].toArray w fun r w' => ∃ x : List PV × List (Nat × Obj), r = .returned (.tuple #[]) ∧ (x.1.Perm xs ∧ x.1.Pairwise (fun a b => ltP b a = false) ∧ Vec 31 17 v x.1.length (fP x.1) x.2) ∧ St w (lp.map (·.1)) x.2 w' := by
  rcases vecP hv with ⟨rfl, rfl, rfl⟩ | ⟨b, c, sp, rfl, rfl, h1, h2⟩
  · exact (AnyF.slices_SortFunc_none Tryz.sortU none 0 _ w).mono fun r w' ⟨h1, h2⟩ => ⟨([], []), h1, ⟨.refl _, .nil, Vec.nil _ _⟩, by rw [h2]; exact St.start w⟩
  · refine (sortP_spec b xs sp c w (hw0.own _ (.head _)) hlen).mono fun r w' ⟨ys, h3, h4, h5⟩ => ?_
    have hl := h4.1.length_eq
    refine ⟨(ys, [_]), h3, ⟨h4.1, h4.2, ?_⟩, h5⟩
    have := vecP_mk (xs := ys) (b := b) (c := c) (sp := sp) (by rw [List.length_append, fP_length, hl, ← fP_length, ← List.length_append]; exact h1)
    rw [hl] at this ⊢
    exact this

theorem sortedFunc_spec (Bm b clock : Nat) (es : Array MapEntry) (w : World) (hst : MapKept.Stamped es clock) (hkey : ∀ en, en ∈ es.toList → ∃ p : PV, en.key = .agg (cP p).toArray) (hm : w.heap[Bm]? = some (cb [.map (some b)] 90)) (hb : w.heap[b]? = some (.map es clock)) (hn : es.size ≤ 1099511627776) :
    Calls Tryz.prog 61 [.func (.func 76) #[] #[.pointer (some ⟨Bm, 0, none⟩)], .func (.func 63) #[] #[]].toArray w fun r w' => ∃ x : List PV × Value × List (Nat × Obj), r = .returned x.2.1 ∧ (x.1.Perm (es.toList.map kpv) ∧ x.1.Pairwise (fun a b => ltP b a = false) ∧ Vec 31 17 x.2.1 x.1.length (fP x.1) x.2.2) ∧ St w [] x.2.2 w' := by
  refine calls_of_J (args := [.func (.func 76) #[] #[.pointer (some ⟨Bm, 0, none⟩)], .func (.func 63) #[] #[]]) (e := [(0, .func (.func 76) #[] #[.pointer (some ⟨Bm, 0, none⟩)]), (1, .func (.func 63) #[] #[])]) Tryz.func61 rfl rfl ⟨rfl, rfl, trivial⟩ (St.start w) ?_
  refine JC.seq (fun K0 hK0 => ?_)
  refine JC.region ?_
  refine J.assign rfl rfl ?_
  refine J.nil ?_
  refine JX.thenN (hK0 _ _ ?_)
  refine JC.seq (fun K1 hK1 => ?_)
  refine JC.region ?_
  refine J.move rfl rfl ?_
  refine J.perm ([] ++ []) (.refl _) ?_
  refine J.callS (α := List MapEntry × Value × List (Nat × Obj)) (V := (·.2.1)) (Pr := fun x => x.1.Perm es.toList ∧ Vec 31 17 x.2.1 x.1.length (fP (x.1.map kpv)) x.2.2) (L := (·.2.2)) (l1 := []) Ty.bd74 rfl rfl (fun w1 hw => collect_spec Bm b clock es w1 hst hkey (by rw [hw.keep Bm (lt_of_some hm) (by simp)]; exact hm) (by rw [hw.keep b (lt_of_some hb) (by simp)]; exact hb) hn) (fun x hx => ?_)
  obtain ⟨ss, vs, ls⟩ := x
  simp only [List.append_nil] at hx ⊢
  refine J.assign rfl rfl ?_
  refine J.nil ?_
  refine JX.thenN (hK1 _ _ ?_)
  refine JC.seq (fun K2 hK2 => ?_)
  refine JC.region ?_
  refine J.move rfl rfl ?_
  refine J.move rfl rfl ?_
  have hl2 := hx.1.length_eq
  refine J.perm (ls ++ []) (by simp) ?_
  refine J.callS (α := List PV × List (Nat × Obj)) (V := fun _ => .tuple #[]) (Pr := fun x => x.1.Perm (ss.map kpv) ∧ x.1.Pairwise (fun a b => ltP b a = false) ∧ Vec 31 17 vs x.1.length (fP x.1) x.2) (L := (·.2)) (l1 := ls) Ty.bd75 rfl rfl (fun w1 hw => sortP_vec vs (ss.map kpv) ls w1 (by rw [List.length_map]; exact hx.2) hw.owns (by rw [List.length_map]; simp at hl2; omega)) (fun x hs => ?_)
  obtain ⟨ks, lk⟩ := x
  simp only [List.append_nil] at hs ⊢
  refine J.nil ?_
  refine JX.thenN (hK2 _ _ ?_)
  refine JC.seq (fun K3 hK3 => ?_)
  refine JC.region ?_
  refine J.move rfl rfl ?_
  refine J.assign rfl rfl ?_
  refine J.nil ?_
  refine JX.thenN (hK3 _ _ ?_)
  refine JC.ret ?_
  refine JX.ret1 rfl rfl (fun w hw => ?_)
  exact ⟨(ks, vs, lk), rfl, ⟨hs.1.trans (hx.1.map _), hs.2⟩, hw⟩

theorem keys_spec (b : Nat) (w : World) :
    Calls Tryz.prog 62 [.map (some b)].toArray w fun r w' => ∃ Bm : Nat, r = .returned (.func (.func 76) #[] #[.pointer (some ⟨Bm, 0, none⟩)]) ∧ St w [] [(Bm, cb [.map (some b)] 90)] w' := by
  refine calls_of_J (args := [.map (some b)]) (e := [(0, .map (some b))]) Tryz.func62 rfl rfl ⟨rfl, trivial⟩ (St.start w) ?_
  refine JC.seq (fun K0 hK0 => ?_)
  refine JC.region ?_
  refine J.box rfl rfl rfl (fun b1 => ?_)
  refine J.assign rfl rfl ?_
  refine J.nil ?_
  refine JX.thenN (hK0 _ _ ?_)
  refine JC.seq (fun K1 hK1 => ?_)
  refine JC.region ?_
  refine J.makeFn rfl rfl ?_
  refine J.assign rfl rfl ?_
  refine J.nil ?_
  refine JX.thenN (hK1 _ _ ?_)
  refine JC.ret ?_
  refine JX.ret1 rfl rfl (fun w hw => ?_)
  exact ⟨b1, rfl, hw⟩

end Go.Proofs.YtohldionclgljaaGreat
