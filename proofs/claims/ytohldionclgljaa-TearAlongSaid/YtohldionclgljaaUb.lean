/-
  maps.Keys at paths: its iterator; slices.AppendSeq, Collect, SortedFunc: contracts.
-/
import Derived.Test.YtohldionclgljaaUa
import Derived.Test.YtohldionclgljaaMd
namespace Go.Proofs.Ytohldionclgljaa
open Go.J Go.RowKit
set_option linter.unusedVariables false
set_option linter.unusedSimpArgs false
set_option maxRecDepth 4000
theorem nodup_len : ∀ {l m : List Nat}, l.Nodup → (∀ x, x ∈ l → x ∈ m) → l.length ≤ m.length
  | [], m, _, _ => Nat.zero_le _
  | a :: l, m, h, hs => by
    have h' := List.nodup_cons.1 h
    have ha := hs a (.head _)
    have := nodup_len (l := l) (m := m.erase a) h'.2 (fun x hx => (List.mem_erase_of_ne (fun e => h'.1 (by rw [← e]; exact hx))).2 (hs x (.tail _ hx)))
    rw [List.length_erase_of_mem ha] at this
    have : 0 < m.length := List.length_pos_of_mem ha
    simp only [List.length_cons]
    omega
theorem done_perm {es done : List MapEntry} (hn : (es.map (·.born)).Nodup) (hd : (done.map (·.born)).Nodup) (h1 : ∀ x, x ∈ done → x ∈ es) (h2 : ∀ x, x ∈ es → x.born ∈ done.map (·.born)) : done.Perm es := by
  have nd : ∀ {l : List MapEntry}, (l.map (·.born)).Nodup → l.Nodup := fun h => (List.pairwise_map.1 h).imp fun h e => h (by rw [e])
  refine (List.perm_ext_iff_of_nodup (nd hd) (nd hn)).2 fun x => ⟨h1 x, fun hx => ?_⟩
  obtain ⟨y, hy, he⟩ := List.mem_map.1 (h2 x hx)
  have : y = x := by
    apply Classical.byContradiction
    intro hne
    have hp := List.pairwise_map.1 hn
    obtain ⟨i, hi, rfl⟩ := List.getElem_of_mem (h1 y hy)
    obtain ⟨j, hj, rfl⟩ := List.getElem_of_mem hx
    rw [List.pairwise_iff_getElem] at hp
    rcases Nat.lt_trichotomy i j with h | h | h
    · exact hp i j hi hj h he
    · subst h; exact hne rfl
    · exact hp j i hj hi h he.symm
  rw [← this]
  exact hy
structure KS where
  done : List MapEntry
  o : Obj
  lst : List (Nat × Obj)
open Classical in
/-- the path that is an entry's key -/
noncomputable def kpv (en : MapEntry) : PV := if h : ∃ p : PV, en.key = .agg (cP p).toArray then h.choose else zP
theorem kpv_spec {en : MapEntry} (h : ∃ p : PV, en.key = .agg (cP p).toArray) : en.key = .agg (cP (kpv en)).toArray := by
  unfold kpv
  rw [dif_pos h]
  exact h.choose_spec

theorem keys1_spec (lb Bm b clock : Nat) (es : Array MapEntry) (Inv : List MapEntry → List (Nat × Obj) → Prop) (lst0 : List (Nat × Obj)) (w : World)
    (hst : MapKept.Stamped es clock) (hkey : ∀ en, en ∈ es.toList → ∃ p : PV, en.key = .agg (cP p).toArray)
    (hm : w.heap[Bm]? = some (cb [.map (some b)] 109)) (hb : w.heap[b]? = some (.map es clock)) (hBm : Bm ∉ lst0.map (·.1)) (hbm : b ∉ lst0.map (·.1)) (h0 : Own w lst0) (hI0 : Inv [] lst0)
    (hY : ∀ pre en lst W1, en ∈ es.toList → pre.length < es.size → Inv pre lst → Own W1 lst → YieldTo (FW none) 0 Try.prog lb #[en.key] W1 fun r w' => r = .returned (.bool true) ∧ ∃ lst', Inv (pre ++ [en]) lst' ∧ St W1 (lst.map (·.1)) lst' w') :
    Calls Try.prog 82 [.func (.yield lb) #[] #[], .pointer (some ⟨Bm, 0, none⟩)].toArray w fun r w' => ∃ v done lst', r = .returned v ∧ done.Perm es.toList ∧ Inv done lst' ∧ St w (lst0.map (·.1)) lst' w' := by
  have hstamp := (MapKept.stamped_iff es clock).1 hst
  have hh0 := h0
  clear h0
  refine calls_of_J (args := [.func (.yield lb) #[] #[], .pointer (some ⟨Bm, 0, none⟩)]) (e := [(0, .func (.yield lb) #[] #[]), (1, .pointer (some ⟨Bm, 0, none⟩))]) Try.func82 rfl rfl ⟨rfl, rfl, trivial⟩ (hh0.st) ?_
  refine JC.seq (fun K0 hK0 => ?_)
  refine JC.region ?_
  refine J.load1 (v := .map (some b)) Ty.a109 rfl (fun w1 hw => by rw [cell_of (by rw [hw.keep Bm (lt_of_some hm) hBm]; exact hm)]; rfl) rfl ?_
  refine J.range Ty.u109 rfl (fun w1 hw => by rw [hw.keep b (lt_of_some hb) hbm]; exact hb) hstamp.1 rfl (fun r0 o0 ho0 => ?_)
  refine J.nil ?_
  refine JX.thenN (hK0 _ _ ?_)
  refine JC.block ?_
  refine JC.conseq (JC.cov (f := (fun st => [(0, .func (.yield lb) #[] #[]), (1, .pointer (some ⟨Bm, 0, none⟩)), (5, .pointer (some ⟨r0, 0, none⟩))]) (⟨[], o0, lst0⟩ : KS)) ⟨rfl, rfl, rfl, trivial⟩ (JC.loop (α := KS) (fun st => [(0, .func (.yield lb) #[] #[]), (1, .pointer (some ⟨Bm, 0, none⟩)), (5, .pointer (some ⟨r0, 0, none⟩))]) (fun st w' => (IterAt b es clock (st.done.map (·.born)) st.o ∧ (∀ x, x ∈ st.done → x ∈ es.toList) ∧ (st.done.map (·.born)).Nodup ∧ Inv st.done st.lst) ∧ St w (lst0.map (·.1)) ((r0, st.o) :: st.lst) w') (fun st => es.size - st.done.length) (⟨[], o0, lst0⟩ : KS) (fun st => ?_))) (fun w hw => ⟨⟨ho0, by simp, .nil, hI0⟩, hw⟩)
  obtain ⟨done, o, lst⟩ := st
  simp only
  refine JC.pr (fun hx => ?_)
  obtain ⟨hit, hsub, hnd, hInv⟩ := hx
  refine JC.seq (fun K1 hK1 => ?_)
  refine JC.region ?_
  refine J.next (l' := fun o1 => (r0, o1) :: lst) rfl (fun _ => .here) hit (fun w1 hw => by rw [hw.keep b (lt_of_some hb) hbm]; exact hb) rfl (fun eo o1 hN => ?_)
  refine J.extract rfl (nextA_0 eo) rfl ?_
  refine J.nil ?_
  refine JX.thenN (hK1 _ _ ?_)
  refine JC.seq (fun K2 hK2 => ?_)
  refine JC.cond rfl (fun h0 => ?_) (fun h0 => ?_)
  · skip
    obtain ⟨en, rfl⟩ := Option.isSome_iff_exists.1 h0
    obtain ⟨hem, hnb, hon⟩ := hN
    obtain ⟨p, hp⟩ := hkey en hem
    have hlen : done.length + 1 ≤ es.size := by
      have h := nodup_len (l := (done ++ [en]).map (·.born)) (m := es.toList.map (·.born)) (by rw [List.map_append]; exact List.nodup_append.2 ⟨hnd, by simp, fun a ha b hb e => hnb (by simp at hb; rw [← hb, ← e]; exact ha)⟩) (fun x hx => by
        obtain ⟨y, hy, rfl⟩ := List.mem_map.1 hx
        refine List.mem_map.2 ⟨y, ?_, rfl⟩
        exact (List.mem_append.1 hy).elim (hsub y) (fun h => by rw [List.mem_singleton.1 h]; exact hem))
      simpa using h
    refine JC.skip ?_
    refine JX.thenN (hK2 _ _ ?_)
    refine JC.block ?_
    refine JC.seq (fun K3 hK3 => ?_)
    refine JC.region ?_
    refine J.entry rfl (.head _) hon hem hstamp.2.1 (fun w1 hw => by rw [hw.keep b (lt_of_some hb) hbm]; exact hb) rfl ?_
    refine J.extract rfl rfl rfl ?_
    refine J.name 9 rfl hp ?_
    refine J.alloc Ty.z38 rfl rfl (fun b3 => ?_)
    refine J.storeW (cs := cP zP) (vs := cP p) Ty.s38 rfl rfl rfl rfl rfl (one_cP p) .here ?_
    refine J.nil ?_
    refine JX.thenN (hK3 _ _ ?_)
    refine JC.seq (fun K4 hK4 => ?_)
    refine JC.regionI ?_
    refine JI.steps (α := Unit) (os := [_, _]) (rest := [_, _]) (fun _ => [(0, .func (.yield lb) #[] #[]), (1, .pointer (some ⟨Bm, 0, none⟩)), (5, .pointer (some ⟨r0, 0, none⟩)), (10, .func (.yield lb) #[] #[]), (11, .agg (cP p).toArray)]) (fun _ => St w (lst0.map (·.1)) ((b3, cb (cP p) 38) :: (r0, o1) :: lst)) rfl ?_ (fun _ => ?_)
    · refine J.move rfl rfl ?_
      refine J.loadOA (vs := cP p) Ty.a38 Ty.s38 rfl (.head _) rfl rfl rfl ?_
      exact J.nil (JX.qx () ⟨rfl, rfl, rfl, rfl, rfl, trivial⟩ (fun w1 hw => hw))
    refine JI.yield (vs := [.agg (cP p).toArray]) (R := fun v w' => ∃ lst', (v = .bool true ∧ Inv (done ++ [en]) lst') ∧ St w (lst0.map (·.1)) ((b3, cb (cP p) 38) :: (r0, o1) :: lst') w') rfl rfl rfl (fun w2 hw => ?_) (fun v => ?_)
    · have hw' : St w (lst0.map (·.1)) (lst ++ [(b3, cb (cP p) 38), (r0, o1)]) w2 := hw.perm (by (refine perm_cnt (fun _ => ?_)); simp only [cntB_append, cntB_cons, cntB_nil, Nat.add_zero, Nat.zero_add]; try ac_rfl)
      obtain ⟨fn1, T1, as1, bd1, hy1, hy2⟩ := hY done en lst w2 hem (by omega) hInv hw'.owns
      rw [hp] at hy1
      refine ⟨fn1, T1, as1, bd1, hy1, hy2.mono ?_⟩
      rintro e1 w1 ⟨rfl, lst', hi', hst'⟩
      exact ⟨_, rfl, lst', ⟨rfl, hi'⟩, (hw'.call hst').perm (by (refine perm_cnt (fun _ => ?_)); simp only [cntB_append, cntB_cons, cntB_nil, Nat.add_zero, Nat.zero_add]; try ac_rfl)⟩
    refine JI.steps (α := List (Nat × Obj)) (os := [_]) (rest := []) (fun _ => [(0, .func (.yield lb) #[] #[]), (1, .pointer (some ⟨Bm, 0, none⟩)), (5, .pointer (some ⟨r0, 0, none⟩)), (13, .bool false)]) (fun lst' w' => Inv (done ++ [en]) lst' ∧ St w (lst0.map (·.1)) ((b3, cb (cP p) 38) :: (r0, o1) :: lst') w') rfl ?_ (fun lst' => JI.nil ?_)
    · refine J.ex fun lst' => J.pr fun hv => ?_
      obtain ⟨rfl, hi'⟩ := hv
      refine J.not rfl rfl ?_
      exact J.nil (JX.qx lst' ⟨rfl, rfl, rfl, rfl, trivial⟩ (fun w1 hw => ⟨hi', hw⟩))
    refine JX.pr fun hi' => ?_
    refine JX.thenN (hK4 _ _ ?_)
    first | refine JC.condF rfl ?_ | refine JC.cond rfl (fun h => by first | (exfalso; simp at h; omega) | (simp at h)) (fun _ => ?_)
    refine JC.skip ?_
    refine JX.blockN ?_
    refine JX.thenN ?_
    refine JX.again (⟨done ++ [en], o1, lst'⟩ : KS) ?_ ?_ ?_
    · simp only [List.length_append, List.length_singleton]; omega
    · exact ⟨rfl, rfl, rfl, trivial⟩
    · exact fun w1 hw => ⟨⟨by rw [List.map_append]; exact hon.at, fun x hx => (List.mem_append.1 hx).elim (hsub x) (fun h => by rw [List.mem_singleton.1 h]; exact hem), by rw [List.map_append]; exact List.nodup_append.2 ⟨hnd, by simp, fun a ha b hb e => hnb (by simp at hb; rw [← hb, ← e]; exact ha)⟩, hi'⟩, hw.drop (List.sublist_cons_self _ _)⟩
  · skip
    have hnone : eo = none := by cases eo with | none => rfl | some e => cases h0
    subst hnone
    obtain ⟨rfl, hall⟩ := hN
    have hperm := done_perm hstamp.2.1 hnd hsub hall
    refine JC.exit ?_
    refine JX.thenE ?_
    refine JX.thenE ?_
    refine JX.blockE ?_
    refine JX.end0 rfl (fun w1 hw => ?_)
    exact ⟨_, done, lst, rfl, hperm, hInv, hw.drop (List.sublist_cons_self _ _)⟩

end Go.Proofs.Ytohldionclgljaa
