/-
  What is chosen: contracts.
-/
import Derived.Test.YtohldionclgljaaNc
namespace Go.Proofs.Ytohldionclgljaa
open Go.J Go.RowKit
set_option linter.unusedVariables false
set_option linter.unusedSimpArgs false
set_option maxRecDepth 8000
/-- the first one than which none is ahead -/
noncomputable def bestV (d : IDV) (l : List CV) (b : CV) : CV := l.foldl (fun b x => if befV d x b = true then x else b) b
noncomputable def chooseV (d self : IDV) (ns : List NV) (es : List EV) : CV := bestV d (ns.map nC ++ es.flatMap eC) (selfC self)
theorem bestV_snoc (d : IDV) (l : List CV) (x b : CV) : bestV d (l ++ [x]) b = if befV d x (bestV d l b) = true then x else bestV d l b := by
  unfold bestV
  rw [List.foldl_append]
  rfl
theorem bef_self (d : IDV) (c : CV) : befV d c c = false := by
  unfold befV
  simp
theorem best_known (d self : IDV) (ns : List NV) (es : List EV) : bestV d (knownV self ns es) (selfC self) = chooseV d self ns es := by
  unfold chooseV knownV bestV
  rw [List.cons_append, List.foldl_cons, bef_self]
  rfl
theorem best_ok {d : IDV} : ∀ {l : List CV} {b : CV}, okC b → (∀ c, c ∈ l → okC c) → okC (bestV d l b)
  | [], _, hb, _ => hb
  | x :: l, b, hb, hl => by
    show okC (bestV d l (if befV d x b = true then x else b))
    refine best_ok ?_ (fun c hc => hl c (.tail _ hc))
    split
    · exact hl x (.head _)
    · exact hb
theorem self_ok (self : IDV) : okC (selfC self) := ⟨(okN1 (by decide) (by decide) : okN 0), okN_m1⟩

set_option maxHeartbeats 1000000 in
theorem choose_spec (t1 m1 : Nat) (mo : Int) (L : List EV) (es : Array MapEntry) (ck : Nat) (w : World) (hw1 : w.heap[t1]? = some (tabO mo m1)) (hw2 : w.heap[m1]? = some (.map es ck)) (hT : Tab L es ck) (hl : L.length ≤ 128) (d self : IDV) (nv : Value) (ns : List NV) (hr : Row w nv ns.length (fN ns)) (hnl : ns.length ≤ 1048576) (hns : ∀ x, x ∈ ns → okN x.n) :
    Calls Try.prog 19 [.agg (cI d).toArray, .agg (cI self).toArray, nv, .pointer (some ⟨t1, 0, none⟩)].toArray w fun r w' => r = .returned (.agg (cC (chooseV d self ns (ordE L))).toArray) ∧ Bel w w' := by
  obtain ⟨an, cn, rfl, hcn, _⟩ := id hr
  have hol := (ordE_perm L).length_eq
  have ho128 : (ordE L).length ≤ 128 := by omega
  have hklen := known_len self ns (ordE L)
  have hkok := known_ok (self := self) hns (ordE_ok hT)
  refine calls_of_J (args := [.agg (cI d).toArray, .agg (cI self).toArray, .slice an ns.length cn, .pointer (some ⟨t1, 0, none⟩)]) (e := [(0, .agg (cI d).toArray), (1, .agg (cI self).toArray), (2, .slice an ns.length cn), (3, .pointer (some ⟨t1, 0, none⟩))]) Try.func19 rfl rfl ⟨rfl, rfl, rfl, rfl, trivial⟩ (St.start w) ?_
  refine JC.seq (fun K0 hK0 => ?_)
  refine JC.region ?_
  refine J.box rfl rfl rfl (fun b4 => ?_)
  refine J.box rfl rfl rfl (fun b5 => ?_)
  refine J.alloc zC40 rfl rfl (fun b8 => ?_)
  refine J.nil ?_
  refine JX.thenN (hK0 _ _ ?_)
  refine JC.seq (fun K1 hK1 => ?_)
  refine JC.region ?_
  refine J.loadOA (vs := cI self) Ty.a23 Ty.s23 rfl (by repeat first | exact .head _ | apply List.Mem.tail | apply List.mem_append_right) (by exact rfl) rfl rfl ?_
  refine J.buildS (cs := cC (selfC self)) Ty.pl40 zC40 rfl (by kernel_rfl) rfl ?_
  refine J.alloc zC40 rfl rfl (fun b9 => ?_)
  refine J.storeW (cs := cC zC) (vs := cC (selfC self)) Ty.s40 rfl rfl rfl rfl rfl (one_cC _) .here ?_
  refine J.nil ?_
  refine JX.thenN (hK1 _ _ ?_)
  refine JC.seq (fun K2 hK2 => ?_)
  refine JC.seq (fun K3 hK3 => ?_)
  refine JC.region ?_
  refine J.loadOA (vs := cI self) Ty.a23 Ty.s23 rfl (by repeat first | exact .head _ | apply List.Mem.tail | apply List.mem_append_right) (by exact rfl) rfl rfl ?_
  refine J.move rfl rfl ?_
  refine J.move rfl rfl ?_
  refine J.perm ([] ++ ((b9, cb (cC (selfC self)) 40) :: (b8, cb (cC zC) 40) :: (b5, cb (cI self) 23) :: (b4, cb (cI d) 23) :: [])) (.refl _) ?_
  refine J.callS (α := Value × List (Nat × Obj)) (V := (·.1)) (Pr := fun x => Vec 40 35 x.1 (knownV self ns (ordE L)).length (fC (knownV self ns (ordE L))) x.2) (L := (·.2)) (l1 := []) Ty.bd16 rfl rfl (fun w1 hw => known_spec t1 m1 mo L es ck w1 ((hw.keep _ (lt_of_some hw1) (by simp)).trans hw1) ((hw.keep _ (lt_of_some hw2) (by simp)).trans hw2) hT hl self _ ns (hr.below (hw.drop (List.nil_sublist _)).below) hnl) (fun x hvk => ?_)
  obtain ⟨vk, lk⟩ := x
  simp only at hvk ⊢
  obtain ⟨ak, ck1, rfl, hck1⟩ := hvk.form
  refine J.perm ((b9, cb (cC (selfC self)) 40) :: (b8, cb (cC zC) 40) :: (b5, cb (cI self) 23) :: (b4, cb (cI d) 23) :: lk) (by (refine perm_cnt (fun _ => ?_)); simp only [cntB_append, cntB_cons, cntB_nil, Nat.add_zero, Nat.zero_add]; try ac_rfl) ?_
  refine J.lenS rfl Ty.u32 rfl rfl ?_
  refine J.move rfl rfl ?_
  refine J.nil ?_
  refine JX.thenN (hK3 _ _ ?_)
  refine JC.block ?_
  refine JC.conseq (JC.cov (f := (fun i => [(4, .pointer (some ⟨b4, 0, none⟩)), (5, .pointer (some ⟨b5, 0, none⟩)), (8, .pointer (some ⟨b8, 0, none⟩)), (9, .pointer (some ⟨b9, 0, none⟩)), (17, .slice ak (knownV self ns (ordE L)).length ck1), (18, .int .i64 (((knownV self ns (ordE L)).length : Nat) : Int)), (19, .int .i64 ((i : Nat) : Int))]) 0) ⟨rfl, rfl, rfl, rfl, rfl, rfl, rfl, trivial⟩ (JC.loop (α := Nat) (fun i => [(4, .pointer (some ⟨b4, 0, none⟩)), (5, .pointer (some ⟨b5, 0, none⟩)), (8, .pointer (some ⟨b8, 0, none⟩)), (9, .pointer (some ⟨b9, 0, none⟩)), (17, .slice ak (knownV self ns (ordE L)).length ck1), (18, .int .i64 (((knownV self ns (ordE L)).length : Nat) : Int)), (19, .int .i64 ((i : Nat) : Int))]) (fun i w' => i ≤ (knownV self ns (ordE L)).length ∧ St w [] ((b9, cb (cC (bestV d ((knownV self ns (ordE L)).take i) (selfC self))) 40) :: (b8, cb (cC zC) 40) :: (b5, cb (cI self) 23) :: (b4, cb (cI d) 23) :: lk) w') (fun i => (knownV self ns (ordE L)).length - i) 0 (fun i => ?_))) (fun w hw => ⟨Nat.zero_le _, by rw [List.take_zero]; exact hw⟩)
  refine JC.pr (fun hi => ?_)
  refine JC.seq (fun K4 hK4 => ?_)
  refine JC.region ?_
  refine J.bin rfl rfl rfl rfl ?_
  refine J.nil ?_
  refine JX.thenN (hK4 _ _ ?_)
  refine JC.seq (fun K5 hK5 => ?_)
  refine JC.cond rfl (fun h0 => ?_) (fun h0 => ?_)
  · skip
    have hlt : i < (knownV self ns (ordE L)).length := by simp at h0; omega
    obtain ⟨qk, rfl⟩ : ∃ q, ak = some ⟨q, 0, none⟩ := by
      rcases hvk.2 with ⟨_, h9, _⟩ | ⟨q, c9, sp, h9, _⟩
      · omega
      · simp only [Value.slice.injEq] at h9; exact ⟨q, h9.1⟩
    obtain ⟨xc, hxc⟩ : ∃ x, (knownV self ns (ordE L))[i]? = some x := ⟨_, List.getElem?_eq_getElem hlt⟩
    have hxok := hkok xc (List.mem_of_getElem? hxc)
    have hbok : okC (bestV d ((knownV self ns (ordE L)).take i) (selfC self)) := best_ok (self_ok self) (fun c hc => hkok c (List.mem_of_mem_take hc))
    refine JC.skip ?_
    refine JX.thenN (hK5 _ _ ?_)
    refine JC.seq (fun K6 hK6 => ?_)
    refine JC.block ?_
    refine JC.seq (fun K7 hK7 => ?_)
    refine JC.region ?_
    refine J.indexAddrS Ty.el32 Ty.s40 rfl rfl (by omega) (by omega) rfl ?_
    refine J.loadA (vs := cC xc) Ty.a40 Ty.s40 rfl rfl (fun w1 hw => rowG_at cC_length (vec_rowM hvk hw (fun q hq => by first | (simp [hq]; done) | (simp at hq; simp [hq]; done) | (simp at hq; subst hq; simp))) hxc (by omega)) rfl ?_
    refine J.alloc zC40 rfl rfl (fun b11 => ?_)
    refine J.storeW (cs := cC zC) (vs := cC xc) Ty.s40 rfl rfl rfl rfl rfl (one_cC _) .here ?_
    refine J.nil ?_
    refine JX.thenN (hK7 _ _ ?_)
    refine JC.seq (fun K8 hK8 => ?_)
    refine JC.region ?_
    refine J.loadOA (vs := cI d) Ty.a23 Ty.s23 rfl (by repeat first | exact .head _ | apply List.Mem.tail | apply List.mem_append_right) (by exact rfl) rfl rfl ?_
    refine J.loadOA (vs := cC xc) Ty.a40 Ty.s40 rfl (by repeat first | exact .head _ | apply List.Mem.tail | apply List.mem_append_right) rfl rfl rfl ?_
    refine J.loadOA (vs := cC (bestV d ((knownV self ns (ordE L)).take i) (selfC self))) Ty.a40 Ty.s40 rfl (by repeat first | exact .head _ | apply List.Mem.tail | apply List.mem_append_right) rfl rfl rfl ?_
    refine J.callB (v := .bool (befV d xc (bestV d ((knownV self ns (ordE L)).take i) (selfC self)))) (fun w1 w2 hw hb => hw.step hb) Ty.bd21 rfl rfl (fun w1 hw => before_spec d xc (bestV d ((knownV self ns (ordE L)).take i) (selfC self)) w1 hxok hbok) ?_
    refine J.nil ?_
    refine JX.thenN (hK8 _ _ ?_)
    refine JC.cond rfl (fun h1 => ?_) (fun h1 => ?_)
    · skip
      have hbt : befV d xc (bestV d ((knownV self ns (ordE L)).take i) (selfC self)) = true := h1
      refine JC.region ?_
      refine J.loadOA (vs := cC xc) Ty.a40 Ty.s40 rfl (by repeat first | exact .head _ | apply List.Mem.tail | apply List.mem_append_right) rfl rfl rfl ?_
      refine J.storeW (cs := cC (bestV d ((knownV self ns (ordE L)).take i) (selfC self))) (vs := cC xc) Ty.s40 rfl rfl rfl rfl rfl (one_cC _) (.there .here) ?_
      refine J.nil ?_
      refine JX.blockN ?_
      refine JX.thenN (hK6 _ _ ?_)
      refine JC.region ?_
      (first | refine J.addN rfl rfl (by omega) (by omega) rfl ?_ | refine J.bin rfl rfl rfl rfl ?_)
      refine J.move rfl rfl ?_
      refine J.nil ?_
      refine JX.thenN ?_
      refine JX.again (i + 1) ?_ ?_ ?_
      · omega
      · exact ⟨rfl, rfl, rfl, rfl, rfl, rfl, rfl, trivial⟩
      · exact fun w1 hw => ⟨hlt, by rw [take_snocN hxc, bestV_snoc, if_pos hbt]; exact (hw.drop (List.sublist_cons_self _ _))⟩
    · skip
      have hbt : ¬ befV d xc (bestV d ((knownV self ns (ordE L)).take i) (selfC self)) = true := by rw [h1]; decide
      refine JC.skip ?_
      refine JX.blockN ?_
      refine JX.thenN (hK6 _ _ ?_)
      refine JC.region ?_
      (first | refine J.addN rfl rfl (by omega) (by omega) rfl ?_ | refine J.bin rfl rfl rfl rfl ?_)
      refine J.move rfl rfl ?_
      refine J.nil ?_
      refine JX.thenN ?_
      refine JX.again (i + 1) ?_ ?_ ?_
      · omega
      · exact ⟨rfl, rfl, rfl, rfl, rfl, rfl, rfl, trivial⟩
      · exact fun w1 hw => ⟨hlt, by rw [take_snocN hxc, bestV_snoc, if_neg hbt]; exact (hw.drop (List.sublist_cons_self _ _))⟩
  · skip
    have hge : i = (knownV self ns (ordE L)).length := by simp at h0; omega
    subst hge
    rw [List.take_length, best_known]
    refine JC.exit ?_
    refine JX.thenE ?_
    refine JX.thenE ?_
    refine JX.blockE ?_
    refine JX.thenN (hK2 _ _ ?_)
    refine JC.seq (fun K9 hK9 => ?_)
    refine JC.region ?_
    refine J.loadOA (vs := cC (chooseV d self ns (ordE L))) Ty.a40 Ty.s40 rfl (by repeat first | exact .head _ | apply List.Mem.tail | apply List.mem_append_right) rfl rfl rfl ?_
    refine J.storeW (cs := cC zC) (vs := cC (chooseV d self ns (ordE L))) Ty.s40 rfl rfl rfl rfl rfl (one_cC _) (.there .here) ?_
    refine J.nil ?_
    refine JX.thenN (hK9 _ _ ?_)
    refine JC.ret ?_
    refine JX.retC rfl rfl Ty.a40 Ty.s40 (vs := cC (chooseV d self ns (ordE L))) rfl (fun w1 hw => Cells.of_block (hw.own _ (.tail _ (.head _))) rfl) (fun w1 hw => ?_)
    exact ⟨rfl, (hw.drop (List.nil_sublist _)).below⟩

set_option maxHeartbeats 1000000 in
theorem rchoose_spec (d self : IDV) (nv : Value) (ns : List NV) (ev : Value) (es : List EV) (w : World) (hr : Row w nv ns.length (fN ns)) (hnl : ns.length ≤ 1048576) (hre : Row w ev es.length (fE es)) (hel : es.length ≤ 128) (hns : ∀ x, x ∈ ns → okN x.n) (hes : ∀ x, x ∈ es → okE x) :
    Calls Try.prog 20 [.agg (cI d).toArray, .agg (cI self).toArray, nv, ev].toArray w fun r w' => r = .returned (.agg (cC (chooseV d self ns es)).toArray) ∧ Bel w w' := by
  obtain ⟨an, cn, rfl, hcn, _⟩ := id hr
  obtain ⟨ae, ce, rfl, hce, _⟩ := id hre
  have hklen := known_len self ns es
  have hkok := known_ok (self := self) hns hes
  refine calls_of_J (args := [.agg (cI d).toArray, .agg (cI self).toArray, .slice an ns.length cn, .slice ae es.length ce]) (e := [(0, .agg (cI d).toArray), (1, .agg (cI self).toArray), (2, .slice an ns.length cn), (3, .slice ae es.length ce)]) Try.func20 rfl rfl ⟨rfl, rfl, rfl, rfl, trivial⟩ (St.start w) ?_
  refine JC.seq (fun K0 hK0 => ?_)
  refine JC.region ?_
  refine J.box rfl rfl rfl (fun b4 => ?_)
  refine J.box rfl rfl rfl (fun b5 => ?_)
  refine J.alloc zC42 rfl rfl (fun b8 => ?_)
  refine J.nil ?_
  refine JX.thenN (hK0 _ _ ?_)
  refine JC.seq (fun K1 hK1 => ?_)
  refine JC.region ?_
  refine J.loadOA (vs := cI self) Ty.a23 Ty.s23 rfl (by repeat first | exact .head _ | apply List.Mem.tail | apply List.mem_append_right) (by exact rfl) rfl rfl ?_
  refine J.move rfl rfl ?_
  refine J.move rfl rfl ?_
  refine J.perm ([] ++ ((b8, cb (cC zC) 42) :: (b5, cb (cI self) 23) :: (b4, cb (cI d) 23) :: [])) (.refl _) ?_
  refine J.callS (α := Value × List (Nat × Obj)) (V := (·.1)) (Pr := fun x => Vec 42 35 x.1 (knownV self ns es).length (fC (knownV self ns es)) x.2) (L := (·.2)) (l1 := []) Ty.bd17 rfl rfl (fun w1 hw => rknown_spec self _ ns _ es w1 (hr.below (hw.drop (List.nil_sublist _)).below) hnl (hre.below (hw.drop (List.nil_sublist _)).below) hel) (fun x hvk => ?_)
  obtain ⟨vk, lk⟩ := x
  simp only at hvk ⊢
  obtain ⟨ak, ck1, rfl, hck1⟩ := hvk.form
  refine J.perm ((b8, cb (cC zC) 42) :: (b5, cb (cI self) 23) :: (b4, cb (cI d) 23) :: lk) (by (refine perm_cnt (fun _ => ?_)); simp only [cntB_append, cntB_cons, cntB_nil, Nat.add_zero, Nat.zero_add]; try ac_rfl) ?_
  refine J.assign rfl rfl ?_
  refine J.nil ?_
  refine JX.thenN (hK1 _ _ ?_)
  refine JC.seq (fun K2 hK2 => ?_)
  refine JC.region ?_
  refine J.assign rfl rfl ?_
  refine J.nil ?_
  refine JX.thenN (hK2 _ _ ?_)
  refine JC.seq (fun K3 hK3 => ?_)
  refine JC.seq (fun K4 hK4 => ?_)
  refine JC.region ?_
  refine J.assign rfl rfl ?_
  refine J.nil ?_
  refine JX.thenN (hK4 _ _ ?_)
  refine JC.block ?_
  refine JC.conseq (JC.cov (f := (fun st => [(4, .pointer (some ⟨b4, 0, none⟩)), (5, .pointer (some ⟨b5, 0, none⟩)), (8, .pointer (some ⟨b8, 0, none⟩)), (9, .slice ak (knownV self ns es).length ck1), (10, .int .i64 ((st.2 : Nat) : Int)), (11, .int .i64 ((st.1 : Nat) : Int))]) ((1, 0) : Nat × Nat)) ⟨rfl, rfl, rfl, rfl, rfl, rfl, trivial⟩ (JC.loop (α := Nat × Nat) (fun st => [(4, .pointer (some ⟨b4, 0, none⟩)), (5, .pointer (some ⟨b5, 0, none⟩)), (8, .pointer (some ⟨b8, 0, none⟩)), (9, .slice ak (knownV self ns es).length ck1), (10, .int .i64 ((st.2 : Nat) : Int)), (11, .int .i64 ((st.1 : Nat) : Int))]) (fun st w' => (1 ≤ st.1 ∧ st.1 ≤ (knownV self ns es).length ∧ (knownV self ns es)[st.2]? = some (bestV d ((ns.map nC ++ es.flatMap eC).take (st.1 - 1)) (selfC self))) ∧ St w [] ((b8, cb (cC zC) 42) :: (b5, cb (cI self) 23) :: (b4, cb (cI d) 23) :: lk) w') (fun st => (knownV self ns es).length - st.1) ((1, 0) : Nat × Nat) (fun st => ?_))) (fun w hw => ⟨⟨Nat.le_refl _, by simp [knownV], rfl⟩, hw⟩)
  obtain ⟨i, j⟩ := st
  refine JC.pr (fun hx1 => ?_)
  obtain ⟨hi1, hi, hj⟩ := hx1
  simp only at hi1 hi hj ⊢
  have hjl : j < (knownV self ns es).length := (List.getElem?_eq_some_iff.1 hj).1
  refine JC.seq (fun K5 hK5 => ?_)
  refine JC.seq (fun K6 hK6 => ?_)
  refine JC.region ?_
  refine J.move rfl rfl ?_
  refine J.move rfl rfl ?_
  refine J.lenS rfl Ty.u34 rfl rfl ?_
  refine J.bin rfl rfl rfl rfl ?_
  refine J.nil ?_
  refine JX.thenN (hK6 _ _ ?_)
  refine JC.cond rfl (fun h0 => ?_) (fun h0 => ?_)
  · skip
    have hlt : i < (knownV self ns es).length := by simp at h0; omega
    obtain ⟨qk, rfl⟩ : ∃ q, ak = some ⟨q, 0, none⟩ := by
      rcases hvk.2 with ⟨_, h9, _⟩ | ⟨q, c9, sp, h9, _⟩
      · omega
      · simp only [Value.slice.injEq] at h9; exact ⟨q, h9.1⟩
    obtain ⟨xc, hxc⟩ : ∃ x, (knownV self ns es)[i]? = some x := ⟨_, List.getElem?_eq_getElem hlt⟩
    have hxok := hkok xc (List.mem_of_getElem? hxc)
    have hbok : okC (bestV d ((ns.map nC ++ es.flatMap eC).take (i - 1)) (selfC self)) := hkok _ (List.mem_of_getElem? hj)
    have hstep : bestV d ((ns.map nC ++ es.flatMap eC).take i) (selfC self) = if befV d xc (bestV d ((ns.map nC ++ es.flatMap eC).take (i - 1)) (selfC self)) = true then xc else (bestV d ((ns.map nC ++ es.flatMap eC).take (i - 1)) (selfC self)) := by
      have hxr : (ns.map nC ++ es.flatMap eC)[i - 1]? = some xc := by
        rw [show (knownV self ns es) = (selfC self) :: (ns.map nC ++ es.flatMap eC) from rfl, show i = (i - 1) + 1 by omega, List.getElem?_cons_succ] at hxc
        exact hxc
      have := take_snocN hxr
      rw [show i - 1 + 1 = i by omega] at this
      rw [this, bestV_snoc]
    refine JC.skip ?_
    refine JX.thenN (hK5 _ _ ?_)
    refine JC.seq (fun K7 hK7 => ?_)
    refine JC.block ?_
    refine JC.seq (fun K8 hK8 => ?_)
    apply JC.drawL 10 [Eqv (.agg (cI d).toArray), Eqv (.slice (some ⟨qk, 0, none⟩) (knownV self ns es).length ck1), Eqv (.int .i64 ((i : Nat) : Int)), Eqv (.pointer (some ⟨qk, 0 + (i : Int).toNat * 35, none⟩)), Eqv (.agg (cC xc).toArray), Eqv (.slice (some ⟨qk, 0, none⟩) (knownV self ns es).length ck1), Eqv (.int .i64 ((j : Nat) : Int)), Eqv (.pointer (some ⟨qk, 0 + (j : Int).toNat * 35, none⟩)), Eqv (.agg (cC (bestV d ((ns.map nC ++ es.flatMap eC).take (i - 1)) (selfC self))).toArray), Eqv (.bool (befV d xc (bestV d ((ns.map nC ++ es.flatMap eC).take (i - 1)) (selfC self))))] Ty.mixed rfl rfl rfl (by kernel_rfl) rfl rfl (fun w w' hw hb => hw.step hb) ⟨fun _ _ _ h _ => h, fun _ _ _ h _ => h, fun _ _ _ h _ => h, fun _ _ _ h _ => h, fun _ _ _ h _ => h, fun _ _ _ h _ => h, fun _ _ _ h _ => h, fun _ _ _ h _ => h, fun _ _ _ h _ => h, fun _ _ _ h _ => h, trivial⟩ ?hstep ?htail
    case hstep =>
      refine ⟨fun wi => ?_, fun wi => ?_, fun wi => ?_, fun wi => ?_, fun wi => ?_, fun wi => ?_, fun wi => ?_, fun wi => ?_, fun wi => ?_, fun wi => ?_, trivial⟩
      · skip
        refine Fin.nil ?_
        refine J.loadA (vs := cI d) Ty.a23 Ty.s23 rfl rfl (fun w1 hw => Cells.of_block (hw.2.own _ (.tail _ (.tail _ (.head _)))) rfl) rfl ?_
        exact J.finP rfl
      · skip
        refine Fin.nil ?_
        refine J.move rfl rfl ?_
        exact J.finP rfl
      · skip
        refine Fin.nil ?_
        refine J.move rfl rfl ?_
        exact J.finP rfl
      · skip
        refine Fin.consE rfl (Fin.consE rfl (Fin.nil ?_))
        refine J.indexAddrS Ty.el34 Ty.s42 rfl rfl (by omega) (by omega) rfl ?_
        exact J.finP rfl
      · skip
        refine Fin.consE rfl (Fin.nil ?_)
        refine J.loadA (vs := cC xc) Ty.a42 Ty.s42 rfl rfl (fun w1 hw => rowG_at cC_length (vec_rowM hvk hw.2 (fun q hq => by first | (simp [hq]; done) | (simp at hq; simp [hq]; done) | (simp at hq; subst hq; simp))) hxc (by simp)) rfl ?_
        exact J.finP rfl
      · skip
        refine Fin.nil ?_
        refine J.move rfl rfl ?_
        exact J.finP rfl
      · skip
        refine Fin.nil ?_
        refine J.move rfl rfl ?_
        exact J.finP rfl
      · skip
        refine Fin.consE rfl (Fin.consE rfl (Fin.nil ?_))
        refine J.indexAddrS Ty.el34 Ty.s42 rfl rfl (by omega) (by omega) rfl ?_
        exact J.finP rfl
      · skip
        refine Fin.consE rfl (Fin.nil ?_)
        refine J.loadA (vs := cC (bestV d ((ns.map nC ++ es.flatMap eC).take (i - 1)) (selfC self))) Ty.a42 Ty.s42 rfl rfl (fun w1 hw => rowG_at cC_length (vec_rowM hvk hw.2 (fun q hq => by first | (simp [hq]; done) | (simp at hq; simp [hq]; done) | (simp at hq; subst hq; simp))) hj (by simp)) rfl ?_
        exact J.finP rfl
      · skip
        refine Fin.consE rfl (Fin.consE rfl (Fin.consE rfl (Fin.nil ?_)))
        refine J.callD (v := .bool (befV d xc (bestV d ((ns.map nC ++ es.flatMap eC).take (i - 1)) (selfC self)))) Ty.bd22 rfl rfl (fun w1 hw => rbefore_spec d xc (bestV d ((ns.map nC ++ es.flatMap eC).take (i - 1)) (selfC self)) w1 hxok hbok) ?_
        exact J.finQ rfl
    case htail =>
      refine Fin.consE rfl (Fin.consE rfl (Fin.consE rfl (Fin.consE rfl (Fin.consE rfl (Fin.consE rfl (Fin.consE rfl (Fin.consE rfl (Fin.consE rfl (Fin.consE rfl (Fin.nil ?_))))))))))
      refine J.nil ?_
      refine JX.thenN (hK8 _ _ ?_)
      refine JC.cond rfl (fun h1 => ?_) (fun h1 => ?_)
      · skip
        have hbt : befV d xc (bestV d ((ns.map nC ++ es.flatMap eC).take (i - 1)) (selfC self)) = true := h1
        refine JC.region ?_
        refine J.move rfl rfl ?_
        refine J.assign rfl rfl ?_
        refine J.nil ?_
        refine JX.blockN ?_
        refine JX.thenN (hK7 _ _ ?_)
        refine JC.region ?_
        refine J.move rfl rfl ?_
        (first | refine J.addN rfl rfl (by omega) (by omega) rfl ?_ | refine J.bin rfl rfl rfl rfl ?_)
        refine J.assign rfl rfl ?_
        refine J.nil ?_
        refine JX.thenN ?_
        refine JX.again ((i + 1, i) : Nat × Nat) ?_ ?_ ?_
        · simp only; omega
        · exact ⟨rfl, rfl, rfl, rfl, rfl, rfl, trivial⟩
        · exact fun w1 hw => ⟨⟨by simp only; omega, hlt, by simp only [Nat.add_sub_cancel]; rw [hstep, if_pos hbt]; exact hxc⟩, hw⟩
      · skip
        have hbt : ¬ befV d xc (bestV d ((ns.map nC ++ es.flatMap eC).take (i - 1)) (selfC self)) = true := by rw [h1]; decide
        refine JC.skip ?_
        refine JX.blockN ?_
        refine JX.thenN (hK7 _ _ ?_)
        refine JC.region ?_
        refine J.move rfl rfl ?_
        (first | refine J.addN rfl rfl (by omega) (by omega) rfl ?_ | refine J.bin rfl rfl rfl rfl ?_)
        refine J.assign rfl rfl ?_
        refine J.nil ?_
        refine JX.thenN ?_
        refine JX.again ((i + 1, j) : Nat × Nat) ?_ ?_ ?_
        · simp only; omega
        · exact ⟨rfl, rfl, rfl, rfl, rfl, rfl, trivial⟩
        · exact fun w1 hw => ⟨⟨by simp only; omega, hlt, by simp only [Nat.add_sub_cancel]; rw [hstep, if_neg hbt]; exact hj⟩, hw⟩
  · skip
    have hge : i = (knownV self ns es).length := by simp at h0; omega
    subst hge
    have hjc : (knownV self ns es)[j]? = some (chooseV d self ns es) := by
      rw [hj, show (knownV self ns es).length - 1 = (ns.map nC ++ es.flatMap eC).length from by simp [knownV], List.take_length]
      rfl
    obtain ⟨qk, rfl⟩ : ∃ q, ak = some ⟨q, 0, none⟩ := by
      rcases hvk.2 with ⟨_, h9, _⟩ | ⟨q, c9, sp, h9, _⟩
      · omega
      · simp only [Value.slice.injEq] at h9; exact ⟨q, h9.1⟩
    refine JC.exit ?_
    refine JX.thenE ?_
    refine JX.thenE ?_
    refine JX.blockE ?_
    refine JX.thenN (hK3 _ _ ?_)
    refine JC.seq (fun K9 hK9 => ?_)
    refine JC.region ?_
    refine J.move rfl rfl ?_
    refine J.move rfl rfl ?_
    refine J.indexAddrS Ty.el34 Ty.s42 rfl rfl (by omega) (by omega) rfl ?_
    refine J.loadA (vs := cC (chooseV d self ns es)) Ty.a42 Ty.s42 rfl rfl (fun w1 hw => rowG_at cC_length (vec_rowM hvk hw (fun q hq => by first | (simp [hq]; done) | (simp at hq; simp [hq]; done) | (simp at hq; subst hq; simp))) hjc (by simp)) rfl ?_
    refine J.storeW (cs := cC zC) (vs := cC (chooseV d self ns es)) Ty.s42 rfl rfl rfl rfl rfl (one_cC _) .here ?_
    refine J.nil ?_
    refine JX.thenN (hK9 _ _ ?_)
    refine JC.ret ?_
    refine JX.retC rfl rfl Ty.a42 Ty.s42 (vs := cC (chooseV d self ns es)) rfl (fun w1 hw => Cells.of_block (hw.own _ (.head _)) rfl) (fun w1 hw => ?_)
    exact ⟨rfl, (hw.drop (List.nil_sublist _)).below⟩

end Go.Proofs.Ytohldionclgljaa
