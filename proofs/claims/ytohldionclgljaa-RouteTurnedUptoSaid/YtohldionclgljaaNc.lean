/-
  All choices that a node has: contracts.
-/
import Derived.Test.YtohldionclgljaaNb
namespace Go.Proofs.Ytohldionclgljaa
open Go.J Go.RowKit
set_option linter.unusedVariables false
set_option linter.unusedSimpArgs false
set_option maxRecDepth 8000
def nC (x : NV) : CV := ⟨x.id, true, zP, x.n⟩
def eC (x : EV) : List CV := (if 0 ≤ x.na then [⟨x.a, false, x.p, x.na⟩] else []) ++ (if 0 ≤ x.nb then [⟨x.b, false, x.p, x.nb⟩] else [])
def selfC (self : IDV) : CV := ⟨self, false, zP, -1⟩
def knownV (self : IDV) (ns : List NV) (es : List EV) : List CV := (selfC self :: ns.map nC) ++ es.flatMap eC
theorem eC_length (x : EV) : (eC x).length ≤ 2 := by
  unfold eC
  split <;> split <;> simp
theorem flat_len : ∀ es : List EV, (es.flatMap eC).length ≤ 2 * es.length
  | [] => by simp
  | x :: es => by
    have h1 := eC_length x
    have h2 := flat_len es
    simp only [List.flatMap_cons, List.length_append, List.length_cons]
    omega
theorem known_len (self : IDV) (ns : List NV) (es : List EV) : (knownV self ns es).length ≤ 1 + ns.length + 2 * es.length := by
  have := flat_len es
  simp only [knownV, List.length_append, List.length_cons, List.length_map]
  omega
theorem take_snocN {α : Type} {xs : List α} {i : Nat} {x : α} (h : xs[i]? = some x) : xs.take (i + 1) = xs.take i ++ [x] := by
  obtain ⟨hi, rfl⟩ := List.getElem?_eq_some_iff.1 h
  exact take_add_one hi
theorem known_near {self : IDV} {ns : List NV} {i : Nat} {x : NV} (h : ns[i]? = some x) : knownV self (ns.take (i + 1)) [] = knownV self (ns.take i) [] ++ [nC x] := by
  rw [take_snocN h]
  simp [knownV]
theorem known_ent {self : IDV} {ns : List NV} {es : List EV} {i : Nat} {x : EV} (h : es[i]? = some x) : knownV self ns (es.take (i + 1)) = knownV self ns (es.take i) ++ eC x := by
  rw [take_snocN h]
  simp [knownV]
theorem vec_snocC {t : Nat} {K : List CV} {c : CV} {v : Value} {l : List (Nat × Obj)} (h : Vec t 35 v (K.length + 1) (fC K ++ cC c) l) : Vec t 35 v (K ++ [c]).length (fC (K ++ [c])) l := by
  rw [List.length_append, show fC (K ++ [c]) = fC K ++ cC c from by simp [fC]]
  exact h
theorem okN_m1 : okN (-1) := okN1 (by decide) (by decide)
theorem known_ok {self : IDV} {ns : List NV} {es : List EV} (hn : ∀ x, x ∈ ns → okN x.n) (he : ∀ x, x ∈ es → okE x) : ∀ c, c ∈ knownV self ns es → okC c := by
  have hz : okN zP.n := okN1 (by decide) (by decide)
  intro c hc
  rcases List.mem_append.1 hc with h | h
  · rcases List.mem_cons.1 h with rfl | h
    · exact ⟨hz, okN_m1⟩
    · obtain ⟨x, hx, rfl⟩ := List.mem_map.1 h
      exact ⟨hz, hn x hx⟩
  · obtain ⟨x, hx, h⟩ := List.mem_flatMap.1 h
    obtain ⟨h1, h2, h3⟩ := he x hx
    unfold eC at h
    rcases List.mem_append.1 h with h | h
    · split at h
      · simp at h; subst h; exact ⟨h1, h2⟩
      · cases h
    · split at h
      · simp at h; subst h; exact ⟨h1, h3⟩
      · cases h

set_option maxHeartbeats 1000000 in
theorem known_spec (t1 m1 : Nat) (mo : Int) (L : List EV) (es : Array MapEntry) (ck : Nat) (w : World) (hw1 : w.heap[t1]? = some (tabO mo m1)) (hw2 : w.heap[m1]? = some (.map es ck)) (hT : Tab L es ck) (hl : L.length ≤ 128) (self : IDV) (nv : Value) (ns : List NV) (hr : Row w nv ns.length (fN ns)) (hnl : ns.length ≤ 1048576) :
    Calls Try.prog 16 [.agg (cI self).toArray, nv, .pointer (some ⟨t1, 0, none⟩)].toArray w fun r w' => ∃ x : Value × List (Nat × Obj), r = .returned x.1 ∧ Vec 40 35 x.1 (knownV self ns (ordE L)).length (fC (knownV self ns (ordE L))) x.2 ∧ St w [] x.2 w' := by
  obtain ⟨an, cn, rfl, hcn, _⟩ := id hr
  have hol := (ordE_perm L).length_eq
  have ho128 : (ordE L).length ≤ 128 := by omega
  refine calls_of_J (args := [.agg (cI self).toArray, .slice an ns.length cn, .pointer (some ⟨t1, 0, none⟩)]) (e := [(0, .agg (cI self).toArray), (1, .slice an ns.length cn), (2, .pointer (some ⟨t1, 0, none⟩))]) Try.func16 rfl rfl ⟨rfl, rfl, rfl, trivial⟩ (St.start w) ?_
  refine JC.seq (fun K0 hK0 => ?_)
  refine JC.region ?_
  refine J.box rfl rfl rfl (fun b3 => ?_)
  refine J.assign rfl rfl ?_
  refine J.nil ?_
  refine JX.thenN (hK0 _ _ ?_)
  refine JC.seq (fun K1 hK1 => ?_)
  refine JC.region ?_
  refine J.loadOA (vs := cI self) Ty.a23 Ty.s23 rfl (by repeat first | exact .head _ | apply List.Mem.tail | apply List.mem_append_right) (by exact rfl) rfl rfl ?_
  refine J.buildS (cs := cC (selfC self)) Ty.pl40 zC40 rfl (by kernel_rfl) rfl ?_
  refine J.buildSl (cs := cC (selfC self)) Ty.el32 Ty.s40 zC40 rfl rfl rfl rfl (by kernel_rfl) rfl rfl (fun b14 => ?_)
  refine J.assign rfl rfl ?_
  refine J.nil ?_
  refine JX.thenN (hK1 _ _ ?_)
  refine JC.seq (fun K2 hK2 => ?_)
  refine JC.seq (fun K3 hK3 => ?_)
  refine JC.region ?_
  refine J.move rfl rfl ?_
  refine J.lenS rfl Ty.u24 rfl rfl ?_
  refine J.move rfl rfl ?_
  refine J.nil ?_
  refine JX.thenN (hK3 _ _ ?_)
  refine JC.block ?_
  refine JC.conseq (JC.cov (f := (fun st => [(3, .pointer (some ⟨b3, 0, none⟩)), (2, .pointer (some ⟨t1, 0, none⟩)), (15, .slice an ns.length cn), (16, .int .i64 ((ns.length : Nat) : Int)), (7, st.2.1), (17, .int .i64 ((st.1 : Nat) : Int))]) ((0, .slice (some ⟨b14, 0, none⟩) 1 1, [(b14, cb (cC (selfC self)) 40)]) : Nat × Value × List (Nat × Obj))) ⟨rfl, rfl, rfl, rfl, rfl, rfl, trivial⟩ (JC.loop (α := Nat × Value × List (Nat × Obj)) (fun st => [(3, .pointer (some ⟨b3, 0, none⟩)), (2, .pointer (some ⟨t1, 0, none⟩)), (15, .slice an ns.length cn), (16, .int .i64 ((ns.length : Nat) : Int)), (7, st.2.1), (17, .int .i64 ((st.1 : Nat) : Int))]) (fun st w' => (st.1 ≤ ns.length ∧ Vec 40 35 st.2.1 ((knownV self (ns.take st.1) [])).length (fC ((knownV self (ns.take st.1) []))) st.2.2) ∧ St w [] (st.2.2 ++ ((b3, cb (cI self) 23) :: [])) w') (fun st => ns.length - st.1) ((0, .slice (some ⟨b14, 0, none⟩) 1 1, [(b14, cb (cC (selfC self)) 40)]) : Nat × Value × List (Nat × Obj)) (fun st => ?_))) (fun w hw => ⟨⟨Nat.zero_le _, ⟨rfl, .inr ⟨b14, 1, [], rfl, rfl, rfl, Nat.le_refl _⟩⟩⟩, hw⟩)
  obtain ⟨i, v, lk⟩ := st
  refine JC.pr (fun hx1 => ?_)
  obtain ⟨hi, hvk⟩ := hx1
  simp only at hi hvk ⊢
  have hkl := known_len self (ns.take i) []
  simp only [List.length_take, List.length_nil] at hkl
  refine JC.seq (fun K4 hK4 => ?_)
  refine JC.region ?_
  refine J.bin rfl rfl rfl rfl ?_
  refine J.nil ?_
  refine JX.thenN (hK4 _ _ ?_)
  refine JC.seq (fun K5 hK5 => ?_)
  refine JC.cond rfl (fun h0 => ?_) (fun h0 => ?_)
  · skip
    have hlt : i < ns.length := by simp at h0; omega
    have hflx := fN_length ns
    obtain ⟨qn, on, cn', hqe, _, _⟩ := Row.some hr (by omega)
    simp only [Value.slice.injEq] at hqe
    obtain ⟨rfl, _, rfl⟩ := hqe
    obtain ⟨xa, hxa⟩ : ∃ x, ns[i]? = some x := ⟨_, List.getElem?_eq_getElem hlt⟩
    refine JC.skip ?_
    refine JX.thenN (hK5 _ _ ?_)
    refine JC.seq (fun K6 hK6 => ?_)
    refine JC.block ?_
    refine JC.seq (fun K7 hK7 => ?_)
    refine JC.region ?_
    refine J.indexAddrS Ty.el24 Ty.s53 rfl rfl (by omega) (by omega) rfl ?_
    refine J.loadA (vs := cN xa) Ty.a53 Ty.s53 rfl rfl (fun w1 hw => rowG_at cN_length (hr.below (hw.drop (List.nil_sublist _)).below) hxa (by omega)) rfl ?_
    refine J.alloc zNe_ rfl rfl (fun b9 => ?_)
    refine J.storeW (cs := cN zNe) (vs := cN xa) Ty.s53 rfl rfl rfl rfl rfl (one_cN _) .here ?_
    refine J.nil ?_
    refine JX.thenN (hK7 _ _ ?_)
    refine JC.region ?_
    refine J.move rfl rfl ?_
    refine J.fieldAddr Ty.fd53_1 rfl rfl ?_
    refine J.loadOA (vs := cI xa.id) Ty.a23 Ty.s23 rfl (by repeat first | exact .head _ | apply List.Mem.tail | apply List.mem_append_right) (by exact rfl) rfl rfl ?_
    refine J.fieldAddr Ty.fd53_0 rfl rfl ?_
    refine J.loadO Ty.a3 rfl (by repeat first | exact .head _ | apply List.Mem.tail | apply List.mem_append_right) (by exact rfl) rfl ?_
    refine J.buildS (cs := cC (nC xa)) Ty.pl40 zC40 rfl (by kernel_rfl) rfl ?_
    refine J.buildSl (cs := cC (nC xa)) Ty.el32 Ty.s40 zC40 rfl rfl rfl rfl (by kernel_rfl) rfl rfl (fun b27 => ?_)
    refine J.perm (lk ++ ((b27, cb (cC (nC xa)) 40) :: (b9, cb (cN xa) 53) :: (b3, cb (cI self) 23) :: [])) (by (refine perm_cnt (fun _ => ?_)); simp only [cntB_append, cntB_cons, cntB_nil, Nat.add_zero, Nat.zero_add]; try ac_rfl) ?_
    refine J.append (lp := lk) (xs := fC ((knownV self (ns.take i) []))) (ys := cC (nC xa)) (k := ((knownV self (ns.take i) [])).length) (m := 1) Ty.el32 Ty.s40 Ty.b40 zC40 rfl (.inl ⟨40, Ty.u32⟩) rfl rfl hvk (fun w3 hw3 => .inl (Row.own (cs := cC (nC xa)) (tb := 40) (fr := (0, 0)) hw3 (by repeat first | exact .head _ | apply List.Mem.tail | apply List.mem_append_right) rfl (Nat.le_refl _))) rfl (one_cC _) (by first | omega | (simp only [List.length_append, List.length_cons, List.length_nil]; omega)) (by first | omega | (simp only [List.length_append, List.length_cons, List.length_nil]; omega)) rfl (fun v8 l8 hv8 => ?_)
    replace hv8 := vec_snocC hv8
    refine J.assign rfl rfl ?_
    refine J.nil ?_
    refine JX.blockN ?_
    refine JX.thenN (hK6 _ _ ?_)
    refine JC.region ?_
    (first | refine J.addN rfl rfl (by omega) (by omega) rfl ?_ | refine J.bin rfl rfl rfl rfl ?_)
    refine J.move rfl rfl ?_
    refine J.nil ?_
    refine JX.thenN ?_
    refine JX.again ((i + 1, v8, l8) : Nat × Value × List (Nat × Obj)) ?_ ?_ ?_
    · simp only; omega
    · exact ⟨rfl, rfl, rfl, rfl, rfl, rfl, trivial⟩
    · exact fun w1 hw => ⟨⟨hlt, by rw [known_near hxa]; exact hv8⟩, (hw.perm (l' := [(b27, cb (cC (nC xa)) 40), (b9, cb (cN xa) 53)] ++ (l8 ++ [(b3, cb (cI self) 23)])) (by (refine perm_cnt (fun _ => ?_)); simp only [cntB_append, cntB_cons, cntB_nil, Nat.add_zero, Nat.zero_add]; try ac_rfl)).drop (List.sublist_append_right _ _)⟩
  · skip
    have hge : i = ns.length := by simp at h0; omega
    subst hge
    rw [List.take_length] at hvk
    refine JC.exit ?_
    refine JX.thenE ?_
    refine JX.thenE ?_
    refine JX.blockE ?_
    refine JX.thenN (hK2 _ _ ?_)
    refine JC.seq (fun K8 hK8 => ?_)
    refine JC.seq (fun K9 hK9 => ?_)
    refine JC.region ?_
    refine J.move rfl rfl ?_
    refine J.perm ([] ++ (lk ++ ((b3, cb (cI self) 23) :: []))) (.refl _) ?_
    refine J.callS (α := Value × List (Nat × Obj)) (V := (·.1)) (Pr := fun x => Vec 55 51 x.1 (ordE L).length (fE (ordE L)) x.2) (L := (·.2)) (l1 := []) Ty.bd37 rfl rfl (fun w1 hw => all_spec t1 m1 mo (L) es ck w1 ((hw.keep _ (lt_of_some hw1) (by simp)).trans hw1) ((hw.keep _ (lt_of_some hw2) (by simp)).trans hw2) hT (by omega)) (fun x hva => ?_)
    obtain ⟨va, la⟩ := x
    simp only at hva ⊢
    obtain ⟨av, cv, rfl, hcv⟩ := hva.form
    refine J.perm (la ++ (lk ++ [(b3, cb (cI self) 23)])) (by (refine perm_cnt (fun _ => ?_)); simp only [cntB_append, cntB_cons, cntB_nil, Nat.add_zero, Nat.zero_add]; try ac_rfl) ?_
    refine J.lenS rfl Ty.u25 rfl rfl ?_
    refine J.move rfl rfl ?_
    refine J.nil ?_
    refine JX.thenN (hK9 _ _ ?_)
    refine JC.block ?_
    refine JC.conseq (JC.cov (f := (fun st => [(3, .pointer (some ⟨b3, 0, none⟩)), (31, .slice av (ordE L).length cv), (32, .int .i64 (((ordE L).length : Nat) : Int)), (7, st.2.1), (33, .int .i64 ((st.1 : Nat) : Int))]) ((0, v, lk) : Nat × Value × List (Nat × Obj))) ⟨rfl, rfl, rfl, rfl, rfl, trivial⟩ (JC.loop (α := Nat × Value × List (Nat × Obj)) (fun st => [(3, .pointer (some ⟨b3, 0, none⟩)), (31, .slice av (ordE L).length cv), (32, .int .i64 (((ordE L).length : Nat) : Int)), (7, st.2.1), (33, .int .i64 ((st.1 : Nat) : Int))]) (fun st w' => (st.1 ≤ (ordE L).length ∧ Vec 40 35 st.2.1 ((knownV self ns ((ordE L).take st.1))).length (fC ((knownV self ns ((ordE L).take st.1)))) st.2.2) ∧ St w [] (st.2.2 ++ (la ++ [(b3, cb (cI self) 23)])) w') (fun st => (ordE L).length - st.1) ((0, v, lk) : Nat × Value × List (Nat × Obj)) (fun st => ?_))) (fun w hw => ⟨⟨Nat.zero_le _, by simpa only [List.take_zero] using hvk⟩, hw.perm (by (refine perm_cnt (fun _ => ?_)); simp only [cntB_append, cntB_cons, cntB_nil, Nat.add_zero, Nat.zero_add]; try ac_rfl)⟩)
    obtain ⟨i, v, lk⟩ := st
    refine JC.pr (fun hx1 => ?_)
    obtain ⟨hi, hvk⟩ := hx1
    simp only at hi hvk ⊢
    have hkl := known_len self ns ((ordE L).take i)
    simp only [List.length_take, List.length_nil] at hkl
    refine JC.seq (fun K10 hK10 => ?_)
    refine JC.region ?_
    refine J.bin rfl rfl rfl rfl ?_
    refine J.nil ?_
    refine JX.thenN (hK10 _ _ ?_)
    refine JC.seq (fun K11 hK11 => ?_)
    refine JC.cond rfl (fun h1 => ?_) (fun h1 => ?_)
    · skip
      have hlt : i < (ordE L).length := by simp at h1; omega
      obtain ⟨qv, rfl⟩ : ∃ q, av = some ⟨q, 0, none⟩ := by
        rcases hva.2 with ⟨_, h9, _⟩ | ⟨q, c9, sp, h9, _⟩
        · omega
        · simp only [Value.slice.injEq] at h9; exact ⟨q, h9.1⟩
      obtain ⟨xe, hxe⟩ : ∃ x, (ordE L)[i]? = some x := ⟨_, List.getElem?_eq_getElem hlt⟩
      refine JC.skip ?_
      refine JX.thenN (hK11 _ _ ?_)
      refine JC.seq (fun K12 hK12 => ?_)
      refine JC.block ?_
      refine JC.seq (fun K13 hK13 => ?_)
      refine JC.region ?_
      refine J.indexAddrS Ty.el25 Ty.s55 rfl rfl (by omega) (by omega) rfl ?_
      refine J.loadA (vs := cE xe) Ty.a55 Ty.s55 rfl rfl (fun w1 hw => rowE_at (o := 0) (vec_rowM hva hw (fun q hq => by first | (simp [hq]; done) | (simp at hq; simp [hq]; done) | (simp at hq; subst hq; simp))) hxe (by omega)) rfl ?_
      refine J.alloc Ty.zE_ rfl rfl (fun b11 => ?_)
      refine J.storeW (cs := cE zE) (vs := cE xe) Ty.s55 rfl rfl rfl rfl rfl (one_cE _) .here ?_
      refine J.nil ?_
      refine JX.thenN (hK13 _ _ ?_)
      refine JC.seq (fun K14 hK14 => ?_)
      refine JC.seq (fun K15 hK15 => ?_)
      refine JC.region ?_
      refine J.fieldAddr Ty.fd55_3 rfl rfl ?_
      refine J.loadO Ty.a3 rfl (by repeat first | exact .head _ | apply List.Mem.tail | apply List.mem_append_right) (by exact rfl) rfl ?_
      refine J.bin rfl rfl rfl rfl ?_
      refine J.nil ?_
      refine JX.thenN (hK15 _ _ ?_)
      refine JC.cond rfl (fun h2 => ?_) (fun h2 => ?_)
      · skip
        have hA : 0 ≤ xe.na := by simpa using h2
        refine JC.region ?_
        refine J.move rfl rfl ?_
        refine J.fieldAddr Ty.fd55_1 rfl rfl ?_
        refine J.loadOA (vs := cI xe.a) Ty.a23 Ty.s23 rfl (by repeat first | exact .head _ | apply List.Mem.tail | apply List.mem_append_right) (by exact rfl) rfl rfl ?_
        refine J.fieldAddr Ty.fd55_0 rfl rfl ?_
        refine J.loadOA (vs := cP xe.p) Ty.a38 Ty.s38 rfl (by repeat first | exact .head _ | apply List.Mem.tail | apply List.mem_append_right) (by exact rfl) rfl rfl ?_
        refine J.fieldAddr Ty.fd55_3 rfl rfl ?_
        refine J.loadO Ty.a3 rfl (by repeat first | exact .head _ | apply List.Mem.tail | apply List.mem_append_right) (by exact rfl) rfl ?_
        refine J.buildS (cs := cC (⟨xe.a, false, xe.p, xe.na⟩ : CV)) Ty.pl40 zC40 rfl (by kernel_rfl) rfl ?_
        refine J.buildSl (cs := cC (⟨xe.a, false, xe.p, xe.na⟩ : CV)) Ty.el32 Ty.s40 zC40 rfl rfl rfl rfl (by kernel_rfl) rfl rfl (fun b48 => ?_)
        refine J.perm (lk ++ ((b48, cb (cC (⟨xe.a, false, xe.p, xe.na⟩ : CV)) 40) :: (b11, cb (cE xe) 55) :: (la ++ [(b3, cb (cI self) 23)]))) (by (refine perm_cnt (fun _ => ?_)); simp only [cntB_append, cntB_cons, cntB_nil, Nat.add_zero, Nat.zero_add]; try ac_rfl) ?_
        refine J.append (lp := lk) (xs := fC ((knownV self ns ((ordE L).take i)))) (ys := cC (⟨xe.a, false, xe.p, xe.na⟩ : CV)) (k := ((knownV self ns ((ordE L).take i))).length) (m := 1) Ty.el32 Ty.s40 Ty.b40 zC40 rfl (.inl ⟨40, Ty.u32⟩) rfl rfl hvk (fun w3 hw3 => .inl (Row.own (cs := cC (⟨xe.a, false, xe.p, xe.na⟩ : CV)) (tb := 40) (fr := (0, 0)) hw3 (by repeat first | exact .head _ | apply List.Mem.tail | apply List.mem_append_right) rfl (Nat.le_refl _))) rfl (one_cC _) (by first | omega | (simp only [List.length_append, List.length_cons, List.length_nil]; omega)) (by first | omega | (simp only [List.length_append, List.length_cons, List.length_nil]; omega)) rfl (fun v8 l8 hv8 => ?_)
        replace hv8 := vec_snocC hv8
        refine J.assign rfl rfl ?_
        refine J.nil ?_
        refine JX.thenN (hK14 _ _ ?_)
        refine JC.seq (fun K16 hK16 => ?_)
        refine JC.region ?_
        refine J.fieldAddr Ty.fd55_4 rfl rfl ?_
        refine J.loadO Ty.a3 rfl (by repeat first | exact .head _ | apply List.Mem.tail | apply List.mem_append_right) (by exact rfl) rfl ?_
        refine J.bin rfl rfl rfl rfl ?_
        refine J.nil ?_
        refine JX.thenN (hK16 _ _ ?_)
        refine JC.cond rfl (fun h3 => ?_) (fun h3 => ?_)
        · skip
          have hB : 0 ≤ xe.nb := by simpa using h3
          refine JC.region ?_
          refine J.move rfl rfl ?_
          refine J.fieldAddr Ty.fd55_2 rfl rfl ?_
          refine J.loadOA (vs := cI xe.b) Ty.a23 Ty.s23 rfl (by repeat first | exact .head _ | apply List.Mem.tail | apply List.mem_append_right) (by exact rfl) rfl rfl ?_
          refine J.fieldAddr Ty.fd55_0 rfl rfl ?_
          refine J.loadOA (vs := cP xe.p) Ty.a38 Ty.s38 rfl (by repeat first | exact .head _ | apply List.Mem.tail | apply List.mem_append_right) (by exact rfl) rfl rfl ?_
          refine J.fieldAddr Ty.fd55_4 rfl rfl ?_
          refine J.loadO Ty.a3 rfl (by repeat first | exact .head _ | apply List.Mem.tail | apply List.mem_append_right) (by exact rfl) rfl ?_
          refine J.buildS (cs := cC (⟨xe.b, false, xe.p, xe.nb⟩ : CV)) Ty.pl40 zC40 rfl (by kernel_rfl) rfl ?_
          refine J.buildSl (cs := cC (⟨xe.b, false, xe.p, xe.nb⟩ : CV)) Ty.el32 Ty.s40 zC40 rfl rfl rfl rfl (by kernel_rfl) rfl rfl (fun b61 => ?_)
          refine J.perm (l8 ++ ((b61, cb (cC (⟨xe.b, false, xe.p, xe.nb⟩ : CV)) 40) :: (b48, cb (cC (⟨xe.a, false, xe.p, xe.na⟩ : CV)) 40) :: (b11, cb (cE xe) 55) :: (la ++ [(b3, cb (cI self) 23)]))) (by (refine perm_cnt (fun _ => ?_)); simp only [cntB_append, cntB_cons, cntB_nil, Nat.add_zero, Nat.zero_add]; try ac_rfl) ?_
          refine J.append (lp := l8) (xs := fC (((knownV self ns ((ordE L).take i)) ++ [(⟨xe.a, false, xe.p, xe.na⟩ : CV)]))) (ys := cC (⟨xe.b, false, xe.p, xe.nb⟩ : CV)) (k := (((knownV self ns ((ordE L).take i)) ++ [(⟨xe.a, false, xe.p, xe.na⟩ : CV)])).length) (m := 1) Ty.el32 Ty.s40 Ty.b40 zC40 rfl (.inl ⟨40, Ty.u32⟩) rfl rfl hv8 (fun w3 hw3 => .inl (Row.own (cs := cC (⟨xe.b, false, xe.p, xe.nb⟩ : CV)) (tb := 40) (fr := (0, 0)) hw3 (by repeat first | exact .head _ | apply List.Mem.tail | apply List.mem_append_right) rfl (Nat.le_refl _))) rfl (one_cC _) (by first | omega | (simp only [List.length_append, List.length_cons, List.length_nil]; omega)) (by first | omega | (simp only [List.length_append, List.length_cons, List.length_nil]; omega)) rfl (fun v9 l9 hv9 => ?_)
          replace hv9 := vec_snocC hv9
          refine J.assign rfl rfl ?_
          refine J.nil ?_
          refine JX.blockN ?_
          refine JX.thenN (hK12 _ _ ?_)
          refine JC.region ?_
          (first | refine J.addN rfl rfl (by omega) (by omega) rfl ?_ | refine J.bin rfl rfl rfl rfl ?_)
          refine J.move rfl rfl ?_
          refine J.nil ?_
          refine JX.thenN ?_
          refine JX.again ((i + 1, v9, l9) : Nat × Value × List (Nat × Obj)) ?_ ?_ ?_
          · simp only; omega
          · exact ⟨rfl, rfl, rfl, rfl, rfl, trivial⟩
          · exact fun w1 hw => ⟨⟨hlt, by rw [known_ent hxe, eC, if_pos hA, if_pos hB, ← List.append_assoc]; exact hv9⟩, (hw.perm (l' := [(b61, cb (cC (⟨xe.b, false, xe.p, xe.nb⟩ : CV)) 40), (b48, cb (cC (⟨xe.a, false, xe.p, xe.na⟩ : CV)) 40), (b11, cb (cE xe) 55)] ++ (l9 ++ (la ++ [(b3, cb (cI self) 23)]))) (by (refine perm_cnt (fun _ => ?_)); simp only [cntB_append, cntB_cons, cntB_nil, Nat.add_zero, Nat.zero_add]; try ac_rfl)).drop (List.sublist_append_right _ _)⟩
        · skip
          have hB : ¬ 0 ≤ xe.nb := by simpa using h3
          refine JC.skip ?_
          refine JX.blockN ?_
          refine JX.thenN (hK12 _ _ ?_)
          refine JC.region ?_
          (first | refine J.addN rfl rfl (by omega) (by omega) rfl ?_ | refine J.bin rfl rfl rfl rfl ?_)
          refine J.move rfl rfl ?_
          refine J.nil ?_
          refine JX.thenN ?_
          refine JX.again ((i + 1, v8, l8) : Nat × Value × List (Nat × Obj)) ?_ ?_ ?_
          · simp only; omega
          · exact ⟨rfl, rfl, rfl, rfl, rfl, trivial⟩
          · exact fun w1 hw => ⟨⟨hlt, by rw [known_ent hxe, eC, if_pos hA, if_neg hB, List.append_nil]; exact hv8⟩, (hw.perm (l' := [(b48, cb (cC (⟨xe.a, false, xe.p, xe.na⟩ : CV)) 40), (b11, cb (cE xe) 55)] ++ (l8 ++ (la ++ [(b3, cb (cI self) 23)]))) (by (refine perm_cnt (fun _ => ?_)); simp only [cntB_append, cntB_cons, cntB_nil, Nat.add_zero, Nat.zero_add]; try ac_rfl)).drop (List.sublist_append_right _ _)⟩
      · skip
        have hA : ¬ 0 ≤ xe.na := by simpa using h2
        refine JC.skip ?_
        refine JX.thenN (hK14 _ _ ?_)
        refine JC.seq (fun K17 hK17 => ?_)
        refine JC.region ?_
        refine J.fieldAddr Ty.fd55_4 rfl rfl ?_
        refine J.loadO Ty.a3 rfl (by repeat first | exact .head _ | apply List.Mem.tail | apply List.mem_append_right) (by exact rfl) rfl ?_
        refine J.bin rfl rfl rfl rfl ?_
        refine J.nil ?_
        refine JX.thenN (hK17 _ _ ?_)
        refine JC.cond rfl (fun h3 => ?_) (fun h3 => ?_)
        · skip
          have hB : 0 ≤ xe.nb := by simpa using h3
          refine JC.region ?_
          refine J.move rfl rfl ?_
          refine J.fieldAddr Ty.fd55_2 rfl rfl ?_
          refine J.loadOA (vs := cI xe.b) Ty.a23 Ty.s23 rfl (by repeat first | exact .head _ | apply List.Mem.tail | apply List.mem_append_right) (by exact rfl) rfl rfl ?_
          refine J.fieldAddr Ty.fd55_0 rfl rfl ?_
          refine J.loadOA (vs := cP xe.p) Ty.a38 Ty.s38 rfl (by repeat first | exact .head _ | apply List.Mem.tail | apply List.mem_append_right) (by exact rfl) rfl rfl ?_
          refine J.fieldAddr Ty.fd55_4 rfl rfl ?_
          refine J.loadO Ty.a3 rfl (by repeat first | exact .head _ | apply List.Mem.tail | apply List.mem_append_right) (by exact rfl) rfl ?_
          refine J.buildS (cs := cC (⟨xe.b, false, xe.p, xe.nb⟩ : CV)) Ty.pl40 zC40 rfl (by kernel_rfl) rfl ?_
          refine J.buildSl (cs := cC (⟨xe.b, false, xe.p, xe.nb⟩ : CV)) Ty.el32 Ty.s40 zC40 rfl rfl rfl rfl (by kernel_rfl) rfl rfl (fun b61 => ?_)
          refine J.perm (lk ++ ((b61, cb (cC (⟨xe.b, false, xe.p, xe.nb⟩ : CV)) 40) :: (b11, cb (cE xe) 55) :: (la ++ [(b3, cb (cI self) 23)]))) (by (refine perm_cnt (fun _ => ?_)); simp only [cntB_append, cntB_cons, cntB_nil, Nat.add_zero, Nat.zero_add]; try ac_rfl) ?_
          refine J.append (lp := lk) (xs := fC ((knownV self ns ((ordE L).take i)))) (ys := cC (⟨xe.b, false, xe.p, xe.nb⟩ : CV)) (k := ((knownV self ns ((ordE L).take i))).length) (m := 1) Ty.el32 Ty.s40 Ty.b40 zC40 rfl (.inl ⟨40, Ty.u32⟩) rfl rfl hvk (fun w3 hw3 => .inl (Row.own (cs := cC (⟨xe.b, false, xe.p, xe.nb⟩ : CV)) (tb := 40) (fr := (0, 0)) hw3 (by repeat first | exact .head _ | apply List.Mem.tail | apply List.mem_append_right) rfl (Nat.le_refl _))) rfl (one_cC _) (by first | omega | (simp only [List.length_append, List.length_cons, List.length_nil]; omega)) (by first | omega | (simp only [List.length_append, List.length_cons, List.length_nil]; omega)) rfl (fun v9 l9 hv9 => ?_)
          replace hv9 := vec_snocC hv9
          refine J.assign rfl rfl ?_
          refine J.nil ?_
          refine JX.blockN ?_
          refine JX.thenN (hK12 _ _ ?_)
          refine JC.region ?_
          (first | refine J.addN rfl rfl (by omega) (by omega) rfl ?_ | refine J.bin rfl rfl rfl rfl ?_)
          refine J.move rfl rfl ?_
          refine J.nil ?_
          refine JX.thenN ?_
          refine JX.again ((i + 1, v9, l9) : Nat × Value × List (Nat × Obj)) ?_ ?_ ?_
          · simp only; omega
          · exact ⟨rfl, rfl, rfl, rfl, rfl, trivial⟩
          · exact fun w1 hw => ⟨⟨hlt, by rw [known_ent hxe, eC, if_neg hA, if_pos hB, List.nil_append]; exact hv9⟩, (hw.perm (l' := [(b61, cb (cC (⟨xe.b, false, xe.p, xe.nb⟩ : CV)) 40), (b11, cb (cE xe) 55)] ++ (l9 ++ (la ++ [(b3, cb (cI self) 23)]))) (by (refine perm_cnt (fun _ => ?_)); simp only [cntB_append, cntB_cons, cntB_nil, Nat.add_zero, Nat.zero_add]; try ac_rfl)).drop (List.sublist_append_right _ _)⟩
        · skip
          have hB : ¬ 0 ≤ xe.nb := by simpa using h3
          refine JC.skip ?_
          refine JX.blockN ?_
          refine JX.thenN (hK12 _ _ ?_)
          refine JC.region ?_
          (first | refine J.addN rfl rfl (by omega) (by omega) rfl ?_ | refine J.bin rfl rfl rfl rfl ?_)
          refine J.move rfl rfl ?_
          refine J.nil ?_
          refine JX.thenN ?_
          refine JX.again ((i + 1, v, lk) : Nat × Value × List (Nat × Obj)) ?_ ?_ ?_
          · simp only; omega
          · exact ⟨rfl, rfl, rfl, rfl, rfl, trivial⟩
          · exact fun w1 hw => ⟨⟨hlt, by rw [known_ent hxe, eC, if_neg hA, if_neg hB, List.append_nil, List.append_nil]; exact hvk⟩, (hw.perm (l' := [(b11, cb (cE xe) 55)] ++ (lk ++ (la ++ [(b3, cb (cI self) 23)]))) (by (refine perm_cnt (fun _ => ?_)); simp only [cntB_append, cntB_cons, cntB_nil, Nat.add_zero, Nat.zero_add]; try ac_rfl)).drop (List.sublist_append_right _ _)⟩
    · skip
      have hge : i = (ordE L).length := by simp at h1; omega
      subst hge
      rw [List.take_length] at hvk
      refine JC.exit ?_
      refine JX.thenE ?_
      refine JX.thenE ?_
      refine JX.blockE ?_
      refine JX.thenN (hK8 _ _ ?_)
      refine JC.seq (fun K18 hK18 => ?_)
      refine JC.region ?_
      refine J.move rfl rfl ?_
      refine J.assign rfl rfl ?_
      refine J.nil ?_
      refine JX.thenN (hK18 _ _ ?_)
      refine JC.ret ?_
      refine JX.ret1 rfl rfl (fun w hw => ?_)
      exact ⟨(v, lk), rfl, hvk, hw.drop (List.sublist_append_left _ _)⟩

theorem cells_part {w : World} {b o k : Nat} {xs ys : List Value} (h : Cells w b o xs) (hy : (xs.drop k).take ys.length = ys) (hl : k + ys.length ≤ xs.length) : Cells w b (o + k) ys := by
  intro j hj
  have e : ys[j]? = ((xs.drop k).take ys.length)[j]? := by rw [hy]
  rw [e, List.getElem?_take_of_lt hj, List.getElem?_drop, Nat.add_assoc]
  exact h (k + j) (by omega)

set_option maxHeartbeats 1000000 in
theorem rknown_spec (self : IDV) (nv : Value) (ns : List NV) (ev : Value) (es : List EV) (w : World) (hr : Row w nv ns.length (fN ns)) (hnl : ns.length ≤ 1048576) (hre : Row w ev es.length (fE es)) (hel : es.length ≤ 128) :
    Calls Try.prog 17 [.agg (cI self).toArray, nv, ev].toArray w fun r w' => ∃ x : Value × List (Nat × Obj), r = .returned x.1 ∧ Vec 42 35 x.1 (knownV self ns es).length (fC (knownV self ns es)) x.2 ∧ St w [] x.2 w' := by
  obtain ⟨an, cn, rfl, hcn, _⟩ := id hr
  obtain ⟨ae, ce, rfl, hce, _⟩ := id hre
  refine calls_of_J (args := [.agg (cI self).toArray, .slice an ns.length cn, .slice ae es.length ce]) (e := [(0, .agg (cI self).toArray), (1, .slice an ns.length cn), (2, .slice ae es.length ce)]) Try.func17 rfl rfl ⟨rfl, rfl, rfl, trivial⟩ (St.start w) ?_
  refine JC.seq (fun K0 hK0 => ?_)
  refine JC.region ?_
  refine J.box rfl rfl rfl (fun b3 => ?_)
  refine J.assign rfl rfl ?_
  refine J.nil ?_
  refine JX.thenN (hK0 _ _ ?_)
  refine JC.seq (fun K1 hK1 => ?_)
  refine JC.region ?_
  refine J.loadOA (vs := cI self) Ty.a23 Ty.s23 rfl (by repeat first | exact .head _ | apply List.Mem.tail | apply List.mem_append_right) (by exact rfl) rfl rfl ?_
  refine J.buildS (cs := cC (selfC self)) Ty.pl42 zC42 rfl (by kernel_rfl) rfl ?_
  refine J.buildSl (cs := cC (selfC self)) Ty.el34 Ty.s42 zC42 rfl rfl rfl rfl (by kernel_rfl) rfl rfl (fun b12 => ?_)
  refine J.assign rfl rfl ?_
  refine J.nil ?_
  refine JX.thenN (hK1 _ _ ?_)
  refine JC.seq (fun K2 hK2 => ?_)
  refine JC.seq (fun K3 hK3 => ?_)
  refine JC.region ?_
  refine J.assign rfl rfl ?_
  refine J.nil ?_
  refine JX.thenN (hK3 _ _ ?_)
  refine JC.block ?_
  refine JC.conseq (JC.cov (f := (fun st => [(3, .pointer (some ⟨b3, 0, none⟩)), (1, .slice an ns.length cn), (2, .slice ae es.length ce), (7, st.2.1), (8, .int .i64 ((st.1 : Nat) : Int))]) ((0, .slice (some ⟨b12, 0, none⟩) 1 1, [(b12, cb (cC (selfC self)) 42)]) : Nat × Value × List (Nat × Obj))) ⟨rfl, rfl, rfl, rfl, rfl, trivial⟩ (JC.loop (α := Nat × Value × List (Nat × Obj)) (fun st => [(3, .pointer (some ⟨b3, 0, none⟩)), (1, .slice an ns.length cn), (2, .slice ae es.length ce), (7, st.2.1), (8, .int .i64 ((st.1 : Nat) : Int))]) (fun st w' => (st.1 ≤ ns.length ∧ Vec 42 35 st.2.1 ((knownV self (ns.take st.1) [])).length (fC ((knownV self (ns.take st.1) []))) st.2.2) ∧ St w [] (st.2.2 ++ ((b3, cb (cI self) 23) :: [])) w') (fun st => ns.length - st.1) ((0, .slice (some ⟨b12, 0, none⟩) 1 1, [(b12, cb (cC (selfC self)) 42)]) : Nat × Value × List (Nat × Obj)) (fun st => ?_))) (fun w hw => ⟨⟨Nat.zero_le _, ⟨rfl, .inr ⟨b12, 1, [], rfl, rfl, rfl, Nat.le_refl _⟩⟩⟩, hw⟩)
  obtain ⟨i, v, lk⟩ := st
  refine JC.pr (fun hx1 => ?_)
  obtain ⟨hi, hvk⟩ := hx1
  simp only at hi hvk ⊢
  have hkl := known_len self (ns.take i) []
  simp only [List.length_take, List.length_nil] at hkl
  refine JC.seq (fun K4 hK4 => ?_)
  refine JC.seq (fun K5 hK5 => ?_)
  refine JC.region ?_
  refine J.move rfl rfl ?_
  refine J.move rfl rfl ?_
  refine J.lenS rfl Ty.u24 rfl rfl ?_
  refine J.bin rfl rfl rfl rfl ?_
  refine J.nil ?_
  refine JX.thenN (hK5 _ _ ?_)
  refine JC.cond rfl (fun h0 => ?_) (fun h0 => ?_)
  · skip
    have hlt : i < ns.length := by simp at h0; omega
    have hflx := fN_length ns
    obtain ⟨qn, on, cn', hqe, _, _⟩ := Row.some hr (by omega)
    simp only [Value.slice.injEq] at hqe
    obtain ⟨rfl, _, rfl⟩ := hqe
    obtain ⟨xa, hxa⟩ : ∃ x, ns[i]? = some x := ⟨_, List.getElem?_eq_getElem hlt⟩
    refine JC.skip ?_
    refine JX.thenN (hK4 _ _ ?_)
    refine JC.seq (fun K6 hK6 => ?_)
    refine JC.block ?_
    apply JC.drawX (α := Nat × Value × List (Nat × Obj)) 14 (fun x => match x with | ⟨x12, v13, l13⟩ => [v, .slice (some ⟨qn, on, none⟩) ns.length cn, .int .i64 ((i : Nat) : Int), .pointer (some ⟨qn, on + (i : Int).toNat * 17, none⟩), .pointer (some ⟨qn, on + (i : Int).toNat * 17 + 1, none⟩), .agg (cI xa.id).toArray, .slice (some ⟨qn, on, none⟩) ns.length cn, .int .i64 ((i : Nat) : Int), .pointer (some ⟨qn, on + (i : Int).toNat * 17, none⟩), .pointer (some ⟨qn, on + (i : Int).toNat * 17 + 0, none⟩), .int .i64 xa.n, .agg (cC (nC xa)).toArray, .slice (some ⟨x12, 0, none⟩) 1 1, v13]) (fun m x => match x with | ⟨x12, v13, l13⟩ => fun w1 => ((m 13 = true → m 12 = true) ∧ (m 13 = true → Vec 42 35 v13 ((knownV self (ns.take i) []) ++ [(nC xa)]).length (fC ((knownV self (ns.take i) []) ++ [(nC xa)])) l13)) ∧ St w [] ((bif m 13 then l13 else lk) ++ ((bif m 12 then [(x12, cb (cC (nC xa)) 42)] else []) ++ ((b3, cb (cI self) 23) :: []))) w1) Ty.mixed rfl rfl rfl (by kernel_rfl) rfl rfl ?hinit ?hstep ?htail
    case hinit => exact fun w1 hw => ⟨(0, .slice none 0 0, []), ⟨fun h => (by cases h), fun h => (by cases h)⟩, hw.drew⟩
    case hstep =>
      refine ⟨fun m x hm hp => ?_, fun m x hm hp => ?_, fun m x hm hp => ?_, fun m x hm hp => ?_, fun m x hm hp => ?_, fun m x hm hp => ?_, fun m x hm hp => ?_, fun m x hm hp => ?_, fun m x hm hp => ?_, fun m x hm hp => ?_, fun m x hm hp => ?_, fun m x hm hp => ?_, fun m x hm hp => ?_, fun m x hm hp => ?_, trivial⟩
      · skip
        obtain ⟨x12, v13, l13⟩ := x
        show J _ _ _ _ _ (_) _
        refine J.pr (fun hF => ?_)
        refine J.move rfl rfl ?_
        exact J.finX rfl (fun _ hw => ⟨⟨x12, v13, l13⟩, rfl, fun _ _ _ => rfl, hF, hw⟩)
      · skip
        obtain ⟨x12, v13, l13⟩ := x
        show J _ _ _ _ _ (_) _
        refine J.pr (fun hF => ?_)
        refine J.move rfl rfl ?_
        exact J.finX rfl (fun _ hw => ⟨⟨x12, v13, l13⟩, rfl, fun _ _ _ => rfl, hF, hw⟩)
      · skip
        obtain ⟨x12, v13, l13⟩ := x
        show J _ _ _ _ _ (_) _
        refine J.pr (fun hF => ?_)
        refine J.move rfl rfl ?_
        exact J.finX rfl (fun _ hw => ⟨⟨x12, v13, l13⟩, rfl, fun _ _ _ => rfl, hF, hw⟩)
      · skip
        obtain ⟨x12, v13, l13⟩ := x
        show J _ _ _ _ _ ((21, .int .i64 ((i : Nat) : Int)) :: (20, .slice (some ⟨qn, on, none⟩) ns.length cn) :: _) _
        refine J.pr (fun hF => ?_)
        refine J.indexAddrS Ty.el24 Ty.s53 rfl rfl (by omega) (by omega) rfl ?_
        exact J.finX rfl (fun _ hw => ⟨⟨x12, v13, l13⟩, rfl, fun _ _ _ => rfl, hF, hw⟩)
      · skip
        obtain ⟨x12, v13, l13⟩ := x
        show J _ _ _ _ _ ((22, .pointer (some ⟨qn, on + (i : Int).toNat * 17, none⟩)) :: _) _
        refine J.pr (fun hF => ?_)
        refine J.fieldAddr Ty.fd53_1 rfl rfl ?_
        exact J.finX rfl (fun _ hw => ⟨⟨x12, v13, l13⟩, rfl, fun _ _ _ => rfl, hF, hw⟩)
      · skip
        obtain ⟨x12, v13, l13⟩ := x
        show J _ _ _ _ _ ((23, .pointer (some ⟨qn, on + (i : Int).toNat * 17 + 1, none⟩)) :: _) _
        refine J.pr (fun hF => ?_)
        refine J.loadA (vs := cI xa.id) Ty.a23 Ty.s23 rfl rfl (fun w1 hw => cells_part (k := 1) (rowG_at (i := i) cN_length (hr.below (hw.drop (List.nil_sublist _)).below) hxa (by simp)) rfl (Nat.le_of_ble_eq_true rfl)) rfl ?_
        exact J.finX rfl (fun _ hw => ⟨⟨x12, v13, l13⟩, rfl, fun _ _ _ => rfl, hF, hw⟩)
      · skip
        obtain ⟨x12, v13, l13⟩ := x
        show J _ _ _ _ _ (_) _
        refine J.pr (fun hF => ?_)
        refine J.move rfl rfl ?_
        exact J.finX rfl (fun _ hw => ⟨⟨x12, v13, l13⟩, rfl, fun _ _ _ => rfl, hF, hw⟩)
      · skip
        obtain ⟨x12, v13, l13⟩ := x
        show J _ _ _ _ _ (_) _
        refine J.pr (fun hF => ?_)
        refine J.move rfl rfl ?_
        exact J.finX rfl (fun _ hw => ⟨⟨x12, v13, l13⟩, rfl, fun _ _ _ => rfl, hF, hw⟩)
      · skip
        obtain ⟨x12, v13, l13⟩ := x
        show J _ _ _ _ _ ((26, .int .i64 ((i : Nat) : Int)) :: (25, .slice (some ⟨qn, on, none⟩) ns.length cn) :: _) _
        refine J.pr (fun hF => ?_)
        refine J.indexAddrS Ty.el24 Ty.s53 rfl rfl (by omega) (by omega) rfl ?_
        exact J.finX rfl (fun _ hw => ⟨⟨x12, v13, l13⟩, rfl, fun _ _ _ => rfl, hF, hw⟩)
      · skip
        obtain ⟨x12, v13, l13⟩ := x
        show J _ _ _ _ _ ((27, .pointer (some ⟨qn, on + (i : Int).toNat * 17, none⟩)) :: _) _
        refine J.pr (fun hF => ?_)
        refine J.fieldAddr Ty.fd53_0 rfl rfl ?_
        exact J.finX rfl (fun _ hw => ⟨⟨x12, v13, l13⟩, rfl, fun _ _ _ => rfl, hF, hw⟩)
      · skip
        obtain ⟨x12, v13, l13⟩ := x
        show J _ _ _ _ _ ((28, .pointer (some ⟨qn, on + (i : Int).toNat * 17 + 0, none⟩)) :: _) _
        refine J.pr (fun hF => ?_)
        refine J.load1 (v := .int .i64 xa.n) Ty.a3 rfl (fun w1 hw => Cells.get (i := 0) (rowG_at (i := i) cN_length (hr.below (hw.drop (List.nil_sublist _)).below) hxa (by simp)) rfl rfl) rfl ?_
        exact J.finX rfl (fun _ hw => ⟨⟨x12, v13, l13⟩, rfl, fun _ _ _ => rfl, hF, hw⟩)
      · skip
        obtain ⟨x12, v13, l13⟩ := x
        show J _ _ _ _ _ ((29, .int .i64 xa.n) :: (24, .agg (cI xa.id).toArray) :: _) _
        refine J.pr (fun hF => ?_)
        refine J.buildS (cs := cC (nC xa)) Ty.pl42 zC42 rfl (by kernel_rfl) rfl ?_
        exact J.finX rfl (fun _ hw => ⟨⟨x12, v13, l13⟩, rfl, fun _ _ _ => rfl, hF, hw⟩)
      · skip
        obtain ⟨x12, v13, l13⟩ := x
        show J _ _ _ _ _ ((30, .agg (cC (nC xa)).toArray) :: _) _
        refine J.pr (fun hF => ?_)
        have h13 : m 13 = false := by cases h : m 13 with
          | false => rfl
          | true => rw [hF.1 h] at hm; cases hm
        refine J.conseq (I' := St w [] (lk ++ ((b3, cb (cI self) 23) :: []))) ?_ (fun w1 hw => by simp only [hm, h13, cond_false] at hw; exact hw)
        refine J.buildSl (cs := cC (nC xa)) Ty.el34 Ty.s42 zC42 rfl rfl rfl rfl (by kernel_rfl) rfl rfl (fun b12 => ?_)
        refine J.nil (JX.finB rfl (fun w1 hw => ⟨⟨⟨b12, v13, l13⟩, rfl, fun j h1 h2 => ?_, ?_⟩, trivial⟩))
        · match j, h1 with
          | 0, _ => (first | rfl | trivial)
          | 1, _ => (first | rfl | trivial)
          | 2, _ => (first | rfl | trivial)
          | 3, _ => (first | rfl | trivial)
          | 4, _ => (first | rfl | trivial)
          | 5, _ => (first | rfl | trivial)
          | 6, _ => (first | rfl | trivial)
          | 7, _ => (first | rfl | trivial)
          | 8, _ => (first | rfl | trivial)
          | 9, _ => (first | rfl | trivial)
          | 10, _ => (first | rfl | trivial)
          | 11, _ => (first | rfl | trivial)
          | 12, _ => exact absurd (h2.symm.trans hm) (by decide)
          | 13, _ => (first | rfl | trivial)
          | j + 14, h1 => omega
        show ((m 13 = true → true = true) ∧ (m 13 = true → Vec 42 35 v13 ((knownV self (ns.take i) []) ++ [(nC xa)]).length (fC ((knownV self (ns.take i) []) ++ [(nC xa)])) l13)) ∧ St w [] ((bif m 13 then l13 else lk) ++ ((bif true then [(b12, cb (cC (nC xa)) 42)] else []) ++ ((b3, cb (cI self) 23) :: []))) w1
        simp only [hm, h13, cond_true, cond_false] at hw ⊢
        exact ⟨⟨fun h => (by cases h), fun h => (by cases h)⟩, hw.perm (by (refine perm_cnt (fun _ => ?_)); simp only [cntB_append, cntB_cons, cntB_nil, Nat.add_zero, Nat.zero_add]; try ac_rfl)⟩
      · skip
        obtain ⟨x12, v13, l13⟩ := x
        show J _ _ _ _ _ ((31, .slice (some ⟨x12, 0, none⟩) 1 1) :: (19, v) :: _) _
        have hp12 : m 12 = true := predsT hp (by kernel_rfl)
        refine J.pr (fun hF => ?_)
        refine J.conseq (I' := St w [] (lk ++ ((x12, cb (cC (nC xa)) 42) :: ((b3, cb (cI self) 23) :: [])))) ?_ (fun w1 hw => by simp only [hm, hp12, cond_true, cond_false] at hw; exact hw)
        refine J.perm (lk ++ ((x12, cb (cC (nC xa)) 42) :: ((b3, cb (cI self) 23) :: []))) (by (refine perm_cnt (fun _ => ?_)); simp only [cntB_append, cntB_cons, cntB_nil, Nat.add_zero, Nat.zero_add]; try ac_rfl) ?_
        refine J.append (lp := lk) (xs := fC ((knownV self (ns.take i) []))) (ys := cC (nC xa)) (k := ((knownV self (ns.take i) [])).length) (m := 1) Ty.el34 Ty.s42 Ty.b42 zC42 rfl (.inl ⟨42, Ty.u34⟩) rfl rfl hvk (fun w3 hw3 => .inl (Row.own (cs := cC (nC xa)) (tb := 42) (fr := (0, 0)) hw3 (by repeat first | exact .head _ | apply List.Mem.tail | apply List.mem_append_right) rfl (Nat.le_refl _))) rfl (one_cC _) (by first | omega | (simp only [List.length_append, List.length_cons, List.length_nil]; omega)) (by first | omega | (simp only [List.length_append, List.length_cons, List.length_nil]; omega)) rfl (fun vn ln hvn => ?_)
        replace hvn := vec_snocC hvn
        refine J.nil (JX.finB rfl (fun w1 hw => ⟨⟨⟨x12, vn, ln⟩, rfl, fun j h1 h2 => ?_, ?_⟩, trivial⟩))
        · match j, h1 with
          | 0, _ => (first | rfl | trivial)
          | 1, _ => (first | rfl | trivial)
          | 2, _ => (first | rfl | trivial)
          | 3, _ => (first | rfl | trivial)
          | 4, _ => (first | rfl | trivial)
          | 5, _ => (first | rfl | trivial)
          | 6, _ => (first | rfl | trivial)
          | 7, _ => (first | rfl | trivial)
          | 8, _ => (first | rfl | trivial)
          | 9, _ => (first | rfl | trivial)
          | 10, _ => (first | rfl | trivial)
          | 11, _ => (first | rfl | trivial)
          | 12, _ => (first | rfl | trivial)
          | 13, _ => exact absurd (h2.symm.trans hm) (by decide)
          | j + 14, h1 => omega
        show ((true = true → m 12 = true) ∧ (true = true → Vec 42 35 vn ((knownV self (ns.take i) []) ++ [(nC xa)]).length (fC ((knownV self (ns.take i) []) ++ [(nC xa)])) ln)) ∧ St w [] ((bif true then ln else lk) ++ ((bif m 12 then [(x12, cb (cC (nC xa)) 42)] else []) ++ ((b3, cb (cI self) 23) :: []))) w1
        simp only [hm, hp12, cond_true, cond_false] at hw ⊢
        exact ⟨⟨fun _ => (by first | trivial | rfl), fun _ => hvn⟩, hw.perm (by (refine perm_cnt (fun _ => ?_)); simp only [cntB_append, cntB_cons, cntB_nil, Nat.add_zero, Nat.zero_add]; try ac_rfl)⟩
    case htail =>
      intro x
      obtain ⟨x12, v13, l13⟩ := x
      show J _ _ _ _ _ ((32, v13) :: (31, .slice (some ⟨x12, 0, none⟩) 1 1) :: (30, .agg (cC (nC xa)).toArray) :: (29, .int .i64 xa.n) :: (28, .pointer (some ⟨qn, on + (i : Int).toNat * 17 + 0, none⟩)) :: (27, .pointer (some ⟨qn, on + (i : Int).toNat * 17, none⟩)) :: (26, .int .i64 ((i : Nat) : Int)) :: (25, .slice (some ⟨qn, on, none⟩) ns.length cn) :: (24, .agg (cI xa.id).toArray) :: (23, .pointer (some ⟨qn, on + (i : Int).toNat * 17 + 1, none⟩)) :: (22, .pointer (some ⟨qn, on + (i : Int).toNat * 17, none⟩)) :: (21, .int .i64 ((i : Nat) : Int)) :: (20, .slice (some ⟨qn, on, none⟩) ns.length cn) :: (19, v) :: _) (fun w1 => ((true = true → true = true) ∧ (true = true → Vec 42 35 v13 ((knownV self (ns.take i) []) ++ [(nC xa)]).length (fC ((knownV self (ns.take i) []) ++ [(nC xa)])) l13)) ∧ St w [] ((bif true then l13 else lk) ++ ((bif true then [(x12, cb (cC (nC xa)) 42)] else []) ++ ((b3, cb (cI self) 23) :: []))) w1)
      refine J.pr (fun hF => ?_)
      have hv13 := hF.2 rfl
      refine J.conseq (I' := St w [] (l13 ++ ((x12, cb (cC (nC xa)) 42) :: ((b3, cb (cI self) 23) :: [])))) ?_ (fun w1 hw => by simp only [cond_true] at hw; exact hw)
      refine J.assign rfl rfl ?_
      refine J.nil ?_
      refine JX.blockN ?_
      refine JX.thenN (hK6 _ _ ?_)
      refine JC.region ?_
      refine J.move rfl rfl ?_
      (first | refine J.addN rfl rfl (by omega) (by omega) rfl ?_ | refine J.bin rfl rfl rfl rfl ?_)
      refine J.assign rfl rfl ?_
      refine J.nil ?_
      refine JX.thenN ?_
      refine JX.again ((i + 1, v13, l13) : Nat × Value × List (Nat × Obj)) ?_ ?_ ?_
      · simp only; omega
      · exact ⟨rfl, rfl, rfl, rfl, rfl, trivial⟩
      · exact fun w1 hw => ⟨⟨hlt, by rw [known_near hxa]; exact hv13⟩, (hw.perm (l' := (x12, cb (cC (nC xa)) 42) :: (l13 ++ [(b3, cb (cI self) 23)])) (by (refine perm_cnt (fun _ => ?_)); simp only [cntB_append, cntB_cons, cntB_nil, Nat.add_zero, Nat.zero_add]; try ac_rfl)).drop (List.sublist_cons_self _ _)⟩
  · skip
    have hge : i = ns.length := by simp at h0; omega
    subst hge
    rw [List.take_length] at hvk
    refine JC.exit ?_
    refine JX.thenE ?_
    refine JX.thenE ?_
    refine JX.blockE ?_
    refine JX.thenN (hK2 _ _ ?_)
    refine JC.seq (fun K7 hK7 => ?_)
    refine JC.seq (fun K8 hK8 => ?_)
    refine JC.region ?_
    refine J.assign rfl rfl ?_
    refine J.nil ?_
    refine JX.thenN (hK8 _ _ ?_)
    refine JC.block ?_
    refine JC.conseq (JC.cov (f := (fun st => [(3, .pointer (some ⟨b3, 0, none⟩)), (2, .slice ae es.length ce), (7, st.2.1), (9, .int .i64 ((st.1 : Nat) : Int))]) ((0, v, lk) : Nat × Value × List (Nat × Obj))) ⟨rfl, rfl, rfl, rfl, trivial⟩ (JC.loop (α := Nat × Value × List (Nat × Obj)) (fun st => [(3, .pointer (some ⟨b3, 0, none⟩)), (2, .slice ae es.length ce), (7, st.2.1), (9, .int .i64 ((st.1 : Nat) : Int))]) (fun st w' => (st.1 ≤ es.length ∧ Vec 42 35 st.2.1 ((knownV self ns (es.take st.1))).length (fC ((knownV self ns (es.take st.1)))) st.2.2) ∧ St w [] (st.2.2 ++ ((b3, cb (cI self) 23) :: [])) w') (fun st => es.length - st.1) ((0, v, lk) : Nat × Value × List (Nat × Obj)) (fun st => ?_))) (fun w hw => ⟨⟨Nat.zero_le _, by simpa only [List.take_zero] using hvk⟩, hw⟩)
    obtain ⟨i, v, lk⟩ := st
    refine JC.pr (fun hx1 => ?_)
    obtain ⟨hi, hvk⟩ := hx1
    simp only at hi hvk ⊢
    have hkl := known_len self ns (es.take i)
    simp only [List.length_take, List.length_nil] at hkl
    refine JC.seq (fun K9 hK9 => ?_)
    refine JC.seq (fun K10 hK10 => ?_)
    refine JC.region ?_
    refine J.move rfl rfl ?_
    refine J.move rfl rfl ?_
    refine J.lenS rfl Ty.u25 rfl rfl ?_
    refine J.bin rfl rfl rfl rfl ?_
    refine J.nil ?_
    refine JX.thenN (hK10 _ _ ?_)
    refine JC.cond rfl (fun h1 => ?_) (fun h1 => ?_)
    · skip
      have hlt : i < es.length := by simp at h1; omega
      have hfle := fE_length es
      obtain ⟨qe, oe, ce', hqe, _, _⟩ := Row.some hre (by omega)
      simp only [Value.slice.injEq] at hqe
      obtain ⟨rfl, _, rfl⟩ := hqe
      obtain ⟨xe, hxe⟩ : ∃ x, es[i]? = some x := ⟨_, List.getElem?_eq_getElem hlt⟩
      refine JC.skip ?_
      refine JX.thenN (hK9 _ _ ?_)
      refine JC.seq (fun K11 hK11 => ?_)
      refine JC.block ?_
      refine JC.seq (fun K12 hK12 => ?_)
      refine JC.seq (fun K13 hK13 => ?_)
      refine JC.region ?_
      refine J.move rfl rfl ?_
      refine J.move rfl rfl ?_
      refine J.indexAddrS Ty.el25 Ty.s55 rfl rfl (by omega) (by omega) rfl ?_
      refine J.fieldAddr Ty.fd55_3 rfl rfl ?_
      refine J.load1 (v := .int .i64 xe.na) Ty.a3 rfl (fun w1 hw => Cells.get (i := 49) (rowE_at (i := i) (hre.below (hw.drop (List.nil_sublist _)).below) hxe (by simp)) rfl rfl) rfl ?_
      refine J.bin rfl rfl rfl rfl ?_
      refine J.nil ?_
      refine JX.thenN (hK13 _ _ ?_)
      refine JC.cond rfl (fun h2 => ?_) (fun h2 => ?_)
      · skip
        have hA : 0 ≤ xe.na := by simpa using h2
        apply JC.drawX (α := Nat × Value × List (Nat × Obj)) 19 (fun x => match x with | ⟨xa12, va13, la13⟩ => [v, .slice (some ⟨qe, oe, none⟩) es.length ce, .int .i64 ((i : Nat) : Int), .pointer (some ⟨qe, oe + (i : Int).toNat * 51, none⟩), .pointer (some ⟨qe, oe + (i : Int).toNat * 51 + 17, none⟩), .agg (cI xe.a).toArray, .slice (some ⟨qe, oe, none⟩) es.length ce, .int .i64 ((i : Nat) : Int), .pointer (some ⟨qe, oe + (i : Int).toNat * 51, none⟩), .pointer (some ⟨qe, oe + (i : Int).toNat * 51 + 0, none⟩), .agg (cP xe.p).toArray, .slice (some ⟨qe, oe, none⟩) es.length ce, .int .i64 ((i : Nat) : Int), .pointer (some ⟨qe, oe + (i : Int).toNat * 51, none⟩), .pointer (some ⟨qe, oe + (i : Int).toNat * 51 + 49, none⟩), .int .i64 xe.na, .agg (cC (⟨xe.a, false, xe.p, xe.na⟩ : CV)).toArray, .slice (some ⟨xa12, 0, none⟩) 1 1, va13]) (fun m x => match x with | ⟨xa12, va13, la13⟩ => fun w1 => ((m 18 = true → m 17 = true) ∧ (m 18 = true → Vec 42 35 va13 ((knownV self ns (es.take i)) ++ [(⟨xe.a, false, xe.p, xe.na⟩ : CV)]).length (fC ((knownV self ns (es.take i)) ++ [(⟨xe.a, false, xe.p, xe.na⟩ : CV)])) la13)) ∧ St w [] ((bif m 18 then la13 else lk) ++ ((bif m 17 then [(xa12, cb (cC (⟨xe.a, false, xe.p, xe.na⟩ : CV)) 42)] else []) ++ ((b3, cb (cI self) 23) :: []))) w1) Ty.mixed rfl rfl rfl (by kernel_rfl) rfl rfl ?hinit ?hstep ?htail
        case hinit => exact fun w1 hw => ⟨(0, .slice none 0 0, []), ⟨fun h => (by cases h), fun h => (by cases h)⟩, hw.drew⟩
        case hstep =>
          refine ⟨fun m x hm hp => ?_, fun m x hm hp => ?_, fun m x hm hp => ?_, fun m x hm hp => ?_, fun m x hm hp => ?_, fun m x hm hp => ?_, fun m x hm hp => ?_, fun m x hm hp => ?_, fun m x hm hp => ?_, fun m x hm hp => ?_, fun m x hm hp => ?_, fun m x hm hp => ?_, fun m x hm hp => ?_, fun m x hm hp => ?_, fun m x hm hp => ?_, fun m x hm hp => ?_, fun m x hm hp => ?_, fun m x hm hp => ?_, fun m x hm hp => ?_, trivial⟩
          · skip
            obtain ⟨xa12, va13, la13⟩ := x
            show J _ _ _ _ _ (_) _
            refine J.pr (fun hF => ?_)
            refine J.move rfl rfl ?_
            exact J.finX rfl (fun _ hw => ⟨⟨xa12, va13, la13⟩, rfl, fun _ _ _ => rfl, hF, hw⟩)
          · skip
            obtain ⟨xa12, va13, la13⟩ := x
            show J _ _ _ _ _ (_) _
            refine J.pr (fun hF => ?_)
            refine J.move rfl rfl ?_
            exact J.finX rfl (fun _ hw => ⟨⟨xa12, va13, la13⟩, rfl, fun _ _ _ => rfl, hF, hw⟩)
          · skip
            obtain ⟨xa12, va13, la13⟩ := x
            show J _ _ _ _ _ (_) _
            refine J.pr (fun hF => ?_)
            refine J.move rfl rfl ?_
            exact J.finX rfl (fun _ hw => ⟨⟨xa12, va13, la13⟩, rfl, fun _ _ _ => rfl, hF, hw⟩)
          · skip
            obtain ⟨xa12, va13, la13⟩ := x
            show J _ _ _ _ _ ((47, .int .i64 ((i : Nat) : Int)) :: (46, .slice (some ⟨qe, oe, none⟩) es.length ce) :: _) _
            refine J.pr (fun hF => ?_)
            refine J.indexAddrS Ty.el25 Ty.s55 rfl rfl (by omega) (by omega) rfl ?_
            exact J.finX rfl (fun _ hw => ⟨⟨xa12, va13, la13⟩, rfl, fun _ _ _ => rfl, hF, hw⟩)
          · skip
            obtain ⟨xa12, va13, la13⟩ := x
            show J _ _ _ _ _ ((48, .pointer (some ⟨qe, oe + (i : Int).toNat * 51, none⟩)) :: _) _
            refine J.pr (fun hF => ?_)
            refine J.fieldAddr Ty.fd55_1 rfl rfl ?_
            exact J.finX rfl (fun _ hw => ⟨⟨xa12, va13, la13⟩, rfl, fun _ _ _ => rfl, hF, hw⟩)
          · skip
            obtain ⟨xa12, va13, la13⟩ := x
            show J _ _ _ _ _ ((49, .pointer (some ⟨qe, oe + (i : Int).toNat * 51 + 17, none⟩)) :: _) _
            refine J.pr (fun hF => ?_)
            refine J.loadA (vs := cI xe.a) Ty.a23 Ty.s23 rfl rfl (fun w1 hw => cells_part (k := 17) (rowE_at (i := i) (hre.below (hw.drop (List.nil_sublist _)).below) hxe (by simp)) rfl (Nat.le_of_ble_eq_true rfl)) rfl ?_
            exact J.finX rfl (fun _ hw => ⟨⟨xa12, va13, la13⟩, rfl, fun _ _ _ => rfl, hF, hw⟩)
          · skip
            obtain ⟨xa12, va13, la13⟩ := x
            show J _ _ _ _ _ (_) _
            refine J.pr (fun hF => ?_)
            refine J.move rfl rfl ?_
            exact J.finX rfl (fun _ hw => ⟨⟨xa12, va13, la13⟩, rfl, fun _ _ _ => rfl, hF, hw⟩)
          · skip
            obtain ⟨xa12, va13, la13⟩ := x
            show J _ _ _ _ _ (_) _
            refine J.pr (fun hF => ?_)
            refine J.move rfl rfl ?_
            exact J.finX rfl (fun _ hw => ⟨⟨xa12, va13, la13⟩, rfl, fun _ _ _ => rfl, hF, hw⟩)
          · skip
            obtain ⟨xa12, va13, la13⟩ := x
            show J _ _ _ _ _ ((52, .int .i64 ((i : Nat) : Int)) :: (51, .slice (some ⟨qe, oe, none⟩) es.length ce) :: _) _
            refine J.pr (fun hF => ?_)
            refine J.indexAddrS Ty.el25 Ty.s55 rfl rfl (by omega) (by omega) rfl ?_
            exact J.finX rfl (fun _ hw => ⟨⟨xa12, va13, la13⟩, rfl, fun _ _ _ => rfl, hF, hw⟩)
          · skip
            obtain ⟨xa12, va13, la13⟩ := x
            show J _ _ _ _ _ ((53, .pointer (some ⟨qe, oe + (i : Int).toNat * 51, none⟩)) :: _) _
            refine J.pr (fun hF => ?_)
            refine J.fieldAddr Ty.fd55_0 rfl rfl ?_
            exact J.finX rfl (fun _ hw => ⟨⟨xa12, va13, la13⟩, rfl, fun _ _ _ => rfl, hF, hw⟩)
          · skip
            obtain ⟨xa12, va13, la13⟩ := x
            show J _ _ _ _ _ ((54, .pointer (some ⟨qe, oe + (i : Int).toNat * 51 + 0, none⟩)) :: _) _
            refine J.pr (fun hF => ?_)
            refine J.loadA (vs := cP xe.p) Ty.a38 Ty.s38 rfl rfl (fun w1 hw => cells_part (k := 0) (rowE_at (i := i) (hre.below (hw.drop (List.nil_sublist _)).below) hxe (by simp)) rfl (Nat.le_of_ble_eq_true rfl)) rfl ?_
            exact J.finX rfl (fun _ hw => ⟨⟨xa12, va13, la13⟩, rfl, fun _ _ _ => rfl, hF, hw⟩)
          · skip
            obtain ⟨xa12, va13, la13⟩ := x
            show J _ _ _ _ _ (_) _
            refine J.pr (fun hF => ?_)
            refine J.move rfl rfl ?_
            exact J.finX rfl (fun _ hw => ⟨⟨xa12, va13, la13⟩, rfl, fun _ _ _ => rfl, hF, hw⟩)
          · skip
            obtain ⟨xa12, va13, la13⟩ := x
            show J _ _ _ _ _ (_) _
            refine J.pr (fun hF => ?_)
            refine J.move rfl rfl ?_
            exact J.finX rfl (fun _ hw => ⟨⟨xa12, va13, la13⟩, rfl, fun _ _ _ => rfl, hF, hw⟩)
          · skip
            obtain ⟨xa12, va13, la13⟩ := x
            show J _ _ _ _ _ ((57, .int .i64 ((i : Nat) : Int)) :: (56, .slice (some ⟨qe, oe, none⟩) es.length ce) :: _) _
            refine J.pr (fun hF => ?_)
            refine J.indexAddrS Ty.el25 Ty.s55 rfl rfl (by omega) (by omega) rfl ?_
            exact J.finX rfl (fun _ hw => ⟨⟨xa12, va13, la13⟩, rfl, fun _ _ _ => rfl, hF, hw⟩)
          · skip
            obtain ⟨xa12, va13, la13⟩ := x
            show J _ _ _ _ _ ((58, .pointer (some ⟨qe, oe + (i : Int).toNat * 51, none⟩)) :: _) _
            refine J.pr (fun hF => ?_)
            refine J.fieldAddr Ty.fd55_3 rfl rfl ?_
            exact J.finX rfl (fun _ hw => ⟨⟨xa12, va13, la13⟩, rfl, fun _ _ _ => rfl, hF, hw⟩)
          · skip
            obtain ⟨xa12, va13, la13⟩ := x
            show J _ _ _ _ _ ((59, .pointer (some ⟨qe, oe + (i : Int).toNat * 51 + 49, none⟩)) :: _) _
            refine J.pr (fun hF => ?_)
            refine J.load1 (v := .int .i64 xe.na) Ty.a3 rfl (fun w1 hw => Cells.get (i := 49) (rowE_at (i := i) (hre.below (hw.drop (List.nil_sublist _)).below) hxe (by simp)) rfl rfl) rfl ?_
            exact J.finX rfl (fun _ hw => ⟨⟨xa12, va13, la13⟩, rfl, fun _ _ _ => rfl, hF, hw⟩)
          · skip
            obtain ⟨xa12, va13, la13⟩ := x
            show J _ _ _ _ _ ((60, .int .i64 xe.na) :: (55, .agg (cP xe.p).toArray) :: (50, .agg (cI xe.a).toArray) :: _) _
            refine J.pr (fun hF => ?_)
            refine J.buildS (cs := cC (⟨xe.a, false, xe.p, xe.na⟩ : CV)) Ty.pl42 zC42 rfl (by kernel_rfl) rfl ?_
            exact J.finX rfl (fun _ hw => ⟨⟨xa12, va13, la13⟩, rfl, fun _ _ _ => rfl, hF, hw⟩)
          · skip
            obtain ⟨xa12, va13, la13⟩ := x
            show J _ _ _ _ _ ((61, .agg (cC (⟨xe.a, false, xe.p, xe.na⟩ : CV)).toArray) :: _) _
            refine J.pr (fun hF => ?_)
            have h13 : m 18 = false := by cases h : m 18 with
              | false => rfl
              | true => rw [hF.1 h] at hm; cases hm
            refine J.conseq (I' := St w [] (lk ++ ((b3, cb (cI self) 23) :: []))) ?_ (fun w1 hw => by simp only [hm, h13, cond_false] at hw; exact hw)
            refine J.buildSl (cs := cC (⟨xe.a, false, xe.p, xe.na⟩ : CV)) Ty.el34 Ty.s42 zC42 rfl rfl rfl rfl (by kernel_rfl) rfl rfl (fun b12 => ?_)
            refine J.nil (JX.finB rfl (fun w1 hw => ⟨⟨⟨b12, va13, la13⟩, rfl, fun j h1 h2 => ?_, ?_⟩, trivial⟩))
            · match j, h1 with
              | 0, _ => (first | rfl | trivial)
              | 1, _ => (first | rfl | trivial)
              | 2, _ => (first | rfl | trivial)
              | 3, _ => (first | rfl | trivial)
              | 4, _ => (first | rfl | trivial)
              | 5, _ => (first | rfl | trivial)
              | 6, _ => (first | rfl | trivial)
              | 7, _ => (first | rfl | trivial)
              | 8, _ => (first | rfl | trivial)
              | 9, _ => (first | rfl | trivial)
              | 10, _ => (first | rfl | trivial)
              | 11, _ => (first | rfl | trivial)
              | 12, _ => (first | rfl | trivial)
              | 13, _ => (first | rfl | trivial)
              | 14, _ => (first | rfl | trivial)
              | 15, _ => (first | rfl | trivial)
              | 16, _ => (first | rfl | trivial)
              | 17, _ => exact absurd (h2.symm.trans hm) (by decide)
              | 18, _ => (first | rfl | trivial)
              | j + 19, h1 => omega
            show ((m 18 = true → true = true) ∧ (m 18 = true → Vec 42 35 va13 ((knownV self ns (es.take i)) ++ [(⟨xe.a, false, xe.p, xe.na⟩ : CV)]).length (fC ((knownV self ns (es.take i)) ++ [(⟨xe.a, false, xe.p, xe.na⟩ : CV)])) la13)) ∧ St w [] ((bif m 18 then la13 else lk) ++ ((bif true then [(b12, cb (cC (⟨xe.a, false, xe.p, xe.na⟩ : CV)) 42)] else []) ++ ((b3, cb (cI self) 23) :: []))) w1
            simp only [hm, h13, cond_true, cond_false] at hw ⊢
            exact ⟨⟨fun h => (by cases h), fun h => (by cases h)⟩, hw.perm (by (refine perm_cnt (fun _ => ?_)); simp only [cntB_append, cntB_cons, cntB_nil, Nat.add_zero, Nat.zero_add]; try ac_rfl)⟩
          · skip
            obtain ⟨xa12, va13, la13⟩ := x
            show J _ _ _ _ _ ((62, .slice (some ⟨xa12, 0, none⟩) 1 1) :: (45, v) :: _) _
            have hp17 : m 17 = true := predsT hp (by kernel_rfl)
            refine J.pr (fun hF => ?_)
            refine J.conseq (I' := St w [] (lk ++ ((xa12, cb (cC (⟨xe.a, false, xe.p, xe.na⟩ : CV)) 42) :: ((b3, cb (cI self) 23) :: [])))) ?_ (fun w1 hw => by simp only [hm, hp17, cond_true, cond_false] at hw; exact hw)
            refine J.perm (lk ++ ((xa12, cb (cC (⟨xe.a, false, xe.p, xe.na⟩ : CV)) 42) :: ((b3, cb (cI self) 23) :: []))) (by (refine perm_cnt (fun _ => ?_)); simp only [cntB_append, cntB_cons, cntB_nil, Nat.add_zero, Nat.zero_add]; try ac_rfl) ?_
            refine J.append (lp := lk) (xs := fC ((knownV self ns (es.take i)))) (ys := cC (⟨xe.a, false, xe.p, xe.na⟩ : CV)) (k := ((knownV self ns (es.take i))).length) (m := 1) Ty.el34 Ty.s42 Ty.b42 zC42 rfl (.inl ⟨42, Ty.u34⟩) rfl rfl hvk (fun w3 hw3 => .inl (Row.own (cs := cC (⟨xe.a, false, xe.p, xe.na⟩ : CV)) (tb := 42) (fr := (0, 0)) hw3 (by repeat first | exact .head _ | apply List.Mem.tail | apply List.mem_append_right) rfl (Nat.le_refl _))) rfl (one_cC _) (by first | omega | (simp only [List.length_append, List.length_cons, List.length_nil]; omega)) (by first | omega | (simp only [List.length_append, List.length_cons, List.length_nil]; omega)) rfl (fun vn ln hvn => ?_)
            replace hvn := vec_snocC hvn
            refine J.nil (JX.finB rfl (fun w1 hw => ⟨⟨⟨xa12, vn, ln⟩, rfl, fun j h1 h2 => ?_, ?_⟩, trivial⟩))
            · match j, h1 with
              | 0, _ => (first | rfl | trivial)
              | 1, _ => (first | rfl | trivial)
              | 2, _ => (first | rfl | trivial)
              | 3, _ => (first | rfl | trivial)
              | 4, _ => (first | rfl | trivial)
              | 5, _ => (first | rfl | trivial)
              | 6, _ => (first | rfl | trivial)
              | 7, _ => (first | rfl | trivial)
              | 8, _ => (first | rfl | trivial)
              | 9, _ => (first | rfl | trivial)
              | 10, _ => (first | rfl | trivial)
              | 11, _ => (first | rfl | trivial)
              | 12, _ => (first | rfl | trivial)
              | 13, _ => (first | rfl | trivial)
              | 14, _ => (first | rfl | trivial)
              | 15, _ => (first | rfl | trivial)
              | 16, _ => (first | rfl | trivial)
              | 17, _ => (first | rfl | trivial)
              | 18, _ => exact absurd (h2.symm.trans hm) (by decide)
              | j + 19, h1 => omega
            show ((true = true → m 17 = true) ∧ (true = true → Vec 42 35 vn ((knownV self ns (es.take i)) ++ [(⟨xe.a, false, xe.p, xe.na⟩ : CV)]).length (fC ((knownV self ns (es.take i)) ++ [(⟨xe.a, false, xe.p, xe.na⟩ : CV)])) ln)) ∧ St w [] ((bif true then ln else lk) ++ ((bif m 17 then [(xa12, cb (cC (⟨xe.a, false, xe.p, xe.na⟩ : CV)) 42)] else []) ++ ((b3, cb (cI self) 23) :: []))) w1
            simp only [hm, hp17, cond_true, cond_false] at hw ⊢
            exact ⟨⟨fun _ => (by first | trivial | rfl), fun _ => hvn⟩, hw.perm (by (refine perm_cnt (fun _ => ?_)); simp only [cntB_append, cntB_cons, cntB_nil, Nat.add_zero, Nat.zero_add]; try ac_rfl)⟩
        case htail =>
          intro x
          obtain ⟨xa12, va13, la13⟩ := x
          show J _ _ _ _ _ ((63, va13) :: (62, .slice (some ⟨xa12, 0, none⟩) 1 1) :: (61, .agg (cC (⟨xe.a, false, xe.p, xe.na⟩ : CV)).toArray) :: (60, .int .i64 xe.na) :: (59, .pointer (some ⟨qe, oe + (i : Int).toNat * 51 + 49, none⟩)) :: (58, .pointer (some ⟨qe, oe + (i : Int).toNat * 51, none⟩)) :: (57, .int .i64 ((i : Nat) : Int)) :: (56, .slice (some ⟨qe, oe, none⟩) es.length ce) :: (55, .agg (cP xe.p).toArray) :: (54, .pointer (some ⟨qe, oe + (i : Int).toNat * 51 + 0, none⟩)) :: (53, .pointer (some ⟨qe, oe + (i : Int).toNat * 51, none⟩)) :: (52, .int .i64 ((i : Nat) : Int)) :: (51, .slice (some ⟨qe, oe, none⟩) es.length ce) :: (50, .agg (cI xe.a).toArray) :: (49, .pointer (some ⟨qe, oe + (i : Int).toNat * 51 + 17, none⟩)) :: (48, .pointer (some ⟨qe, oe + (i : Int).toNat * 51, none⟩)) :: (47, .int .i64 ((i : Nat) : Int)) :: (46, .slice (some ⟨qe, oe, none⟩) es.length ce) :: (45, v) :: _) (fun w1 => ((true = true → true = true) ∧ (true = true → Vec 42 35 va13 ((knownV self ns (es.take i)) ++ [(⟨xe.a, false, xe.p, xe.na⟩ : CV)]).length (fC ((knownV self ns (es.take i)) ++ [(⟨xe.a, false, xe.p, xe.na⟩ : CV)])) la13)) ∧ St w [] ((bif true then la13 else lk) ++ ((bif true then [(xa12, cb (cC (⟨xe.a, false, xe.p, xe.na⟩ : CV)) 42)] else []) ++ ((b3, cb (cI self) 23) :: []))) w1)
          refine J.pr (fun hF => ?_)
          have hva13 := hF.2 rfl
          refine J.conseq (I' := St w [] (la13 ++ ((xa12, cb (cC (⟨xe.a, false, xe.p, xe.na⟩ : CV)) 42) :: ((b3, cb (cI self) 23) :: [])))) ?_ (fun w1 hw => by simp only [cond_true] at hw; exact hw)
          refine J.assign rfl rfl ?_
          refine J.nil ?_
          refine JX.thenN (hK12 _ _ ?_)
          refine JC.seq (fun K14 hK14 => ?_)
          refine JC.region ?_
          refine J.move rfl rfl ?_
          refine J.move rfl rfl ?_
          refine J.indexAddrS Ty.el25 Ty.s55 rfl rfl (by omega) (by omega) rfl ?_
          refine J.fieldAddr Ty.fd55_4 rfl rfl ?_
          refine J.load1 (v := .int .i64 xe.nb) Ty.a3 rfl (fun w1 hw => Cells.get (i := 50) (rowE_at (i := i) (hre.below (hw.drop (List.nil_sublist _)).below) hxe (by simp)) rfl rfl) rfl ?_
          refine J.bin rfl rfl rfl rfl ?_
          refine J.nil ?_
          refine JX.thenN (hK14 _ _ ?_)
          refine JC.cond rfl (fun h3 => ?_) (fun h3 => ?_)
          · skip
            have hB : 0 ≤ xe.nb := by simpa using h3
            apply JC.drawX (α := Nat × Value × List (Nat × Obj)) 19 (fun x => match x with | ⟨x12, v13, l13⟩ => [va13, .slice (some ⟨qe, oe, none⟩) es.length ce, .int .i64 ((i : Nat) : Int), .pointer (some ⟨qe, oe + (i : Int).toNat * 51, none⟩), .pointer (some ⟨qe, oe + (i : Int).toNat * 51 + 33, none⟩), .agg (cI xe.b).toArray, .slice (some ⟨qe, oe, none⟩) es.length ce, .int .i64 ((i : Nat) : Int), .pointer (some ⟨qe, oe + (i : Int).toNat * 51, none⟩), .pointer (some ⟨qe, oe + (i : Int).toNat * 51 + 0, none⟩), .agg (cP xe.p).toArray, .slice (some ⟨qe, oe, none⟩) es.length ce, .int .i64 ((i : Nat) : Int), .pointer (some ⟨qe, oe + (i : Int).toNat * 51, none⟩), .pointer (some ⟨qe, oe + (i : Int).toNat * 51 + 50, none⟩), .int .i64 xe.nb, .agg (cC (⟨xe.b, false, xe.p, xe.nb⟩ : CV)).toArray, .slice (some ⟨x12, 0, none⟩) 1 1, v13]) (fun m x => match x with | ⟨x12, v13, l13⟩ => fun w1 => ((m 18 = true → m 17 = true) ∧ (m 18 = true → Vec 42 35 v13 (((knownV self ns (es.take i)) ++ [(⟨xe.a, false, xe.p, xe.na⟩ : CV)]) ++ [(⟨xe.b, false, xe.p, xe.nb⟩ : CV)]).length (fC (((knownV self ns (es.take i)) ++ [(⟨xe.a, false, xe.p, xe.na⟩ : CV)]) ++ [(⟨xe.b, false, xe.p, xe.nb⟩ : CV)])) l13)) ∧ St w [] ((bif m 18 then l13 else la13) ++ ((bif m 17 then [(x12, cb (cC (⟨xe.b, false, xe.p, xe.nb⟩ : CV)) 42)] else []) ++ ((xa12, cb (cC (⟨xe.a, false, xe.p, xe.na⟩ : CV)) 42) :: (b3, cb (cI self) 23) :: []))) w1) Ty.mixed rfl rfl rfl (by kernel_rfl) rfl rfl ?hinit ?hstep ?htail
            case hinit => exact fun w1 hw => ⟨(0, .slice none 0 0, []), ⟨fun h => (by cases h), fun h => (by cases h)⟩, hw.drew⟩
            case hstep =>
              refine ⟨fun m x hm hp => ?_, fun m x hm hp => ?_, fun m x hm hp => ?_, fun m x hm hp => ?_, fun m x hm hp => ?_, fun m x hm hp => ?_, fun m x hm hp => ?_, fun m x hm hp => ?_, fun m x hm hp => ?_, fun m x hm hp => ?_, fun m x hm hp => ?_, fun m x hm hp => ?_, fun m x hm hp => ?_, fun m x hm hp => ?_, fun m x hm hp => ?_, fun m x hm hp => ?_, fun m x hm hp => ?_, fun m x hm hp => ?_, fun m x hm hp => ?_, trivial⟩
              · skip
                obtain ⟨x12, v13, l13⟩ := x
                show J _ _ _ _ _ (_) _
                refine J.pr (fun hF => ?_)
                refine J.move rfl rfl ?_
                exact J.finX rfl (fun _ hw => ⟨⟨x12, v13, l13⟩, rfl, fun _ _ _ => rfl, hF, hw⟩)
              · skip
                obtain ⟨x12, v13, l13⟩ := x
                show J _ _ _ _ _ (_) _
                refine J.pr (fun hF => ?_)
                refine J.move rfl rfl ?_
                exact J.finX rfl (fun _ hw => ⟨⟨x12, v13, l13⟩, rfl, fun _ _ _ => rfl, hF, hw⟩)
              · skip
                obtain ⟨x12, v13, l13⟩ := x
                show J _ _ _ _ _ (_) _
                refine J.pr (fun hF => ?_)
                refine J.move rfl rfl ?_
                exact J.finX rfl (fun _ hw => ⟨⟨x12, v13, l13⟩, rfl, fun _ _ _ => rfl, hF, hw⟩)
              · skip
                obtain ⟨x12, v13, l13⟩ := x
                show J _ _ _ _ _ ((72, .int .i64 ((i : Nat) : Int)) :: (71, .slice (some ⟨qe, oe, none⟩) es.length ce) :: _) _
                refine J.pr (fun hF => ?_)
                refine J.indexAddrS Ty.el25 Ty.s55 rfl rfl (by omega) (by omega) rfl ?_
                exact J.finX rfl (fun _ hw => ⟨⟨x12, v13, l13⟩, rfl, fun _ _ _ => rfl, hF, hw⟩)
              · skip
                obtain ⟨x12, v13, l13⟩ := x
                show J _ _ _ _ _ ((73, .pointer (some ⟨qe, oe + (i : Int).toNat * 51, none⟩)) :: _) _
                refine J.pr (fun hF => ?_)
                refine J.fieldAddr Ty.fd55_2 rfl rfl ?_
                exact J.finX rfl (fun _ hw => ⟨⟨x12, v13, l13⟩, rfl, fun _ _ _ => rfl, hF, hw⟩)
              · skip
                obtain ⟨x12, v13, l13⟩ := x
                show J _ _ _ _ _ ((74, .pointer (some ⟨qe, oe + (i : Int).toNat * 51 + 33, none⟩)) :: _) _
                refine J.pr (fun hF => ?_)
                refine J.loadA (vs := cI xe.b) Ty.a23 Ty.s23 rfl rfl (fun w1 hw => cells_part (k := 33) (rowE_at (i := i) (hre.below (hw.drop (List.nil_sublist _)).below) hxe (by simp)) rfl (Nat.le_of_ble_eq_true rfl)) rfl ?_
                exact J.finX rfl (fun _ hw => ⟨⟨x12, v13, l13⟩, rfl, fun _ _ _ => rfl, hF, hw⟩)
              · skip
                obtain ⟨x12, v13, l13⟩ := x
                show J _ _ _ _ _ (_) _
                refine J.pr (fun hF => ?_)
                refine J.move rfl rfl ?_
                exact J.finX rfl (fun _ hw => ⟨⟨x12, v13, l13⟩, rfl, fun _ _ _ => rfl, hF, hw⟩)
              · skip
                obtain ⟨x12, v13, l13⟩ := x
                show J _ _ _ _ _ (_) _
                refine J.pr (fun hF => ?_)
                refine J.move rfl rfl ?_
                exact J.finX rfl (fun _ hw => ⟨⟨x12, v13, l13⟩, rfl, fun _ _ _ => rfl, hF, hw⟩)
              · skip
                obtain ⟨x12, v13, l13⟩ := x
                show J _ _ _ _ _ ((77, .int .i64 ((i : Nat) : Int)) :: (76, .slice (some ⟨qe, oe, none⟩) es.length ce) :: _) _
                refine J.pr (fun hF => ?_)
                refine J.indexAddrS Ty.el25 Ty.s55 rfl rfl (by omega) (by omega) rfl ?_
                exact J.finX rfl (fun _ hw => ⟨⟨x12, v13, l13⟩, rfl, fun _ _ _ => rfl, hF, hw⟩)
              · skip
                obtain ⟨x12, v13, l13⟩ := x
                show J _ _ _ _ _ ((78, .pointer (some ⟨qe, oe + (i : Int).toNat * 51, none⟩)) :: _) _
                refine J.pr (fun hF => ?_)
                refine J.fieldAddr Ty.fd55_0 rfl rfl ?_
                exact J.finX rfl (fun _ hw => ⟨⟨x12, v13, l13⟩, rfl, fun _ _ _ => rfl, hF, hw⟩)
              · skip
                obtain ⟨x12, v13, l13⟩ := x
                show J _ _ _ _ _ ((79, .pointer (some ⟨qe, oe + (i : Int).toNat * 51 + 0, none⟩)) :: _) _
                refine J.pr (fun hF => ?_)
                refine J.loadA (vs := cP xe.p) Ty.a38 Ty.s38 rfl rfl (fun w1 hw => cells_part (k := 0) (rowE_at (i := i) (hre.below (hw.drop (List.nil_sublist _)).below) hxe (by simp)) rfl (Nat.le_of_ble_eq_true rfl)) rfl ?_
                exact J.finX rfl (fun _ hw => ⟨⟨x12, v13, l13⟩, rfl, fun _ _ _ => rfl, hF, hw⟩)
              · skip
                obtain ⟨x12, v13, l13⟩ := x
                show J _ _ _ _ _ (_) _
                refine J.pr (fun hF => ?_)
                refine J.move rfl rfl ?_
                exact J.finX rfl (fun _ hw => ⟨⟨x12, v13, l13⟩, rfl, fun _ _ _ => rfl, hF, hw⟩)
              · skip
                obtain ⟨x12, v13, l13⟩ := x
                show J _ _ _ _ _ (_) _
                refine J.pr (fun hF => ?_)
                refine J.move rfl rfl ?_
                exact J.finX rfl (fun _ hw => ⟨⟨x12, v13, l13⟩, rfl, fun _ _ _ => rfl, hF, hw⟩)
              · skip
                obtain ⟨x12, v13, l13⟩ := x
                show J _ _ _ _ _ ((82, .int .i64 ((i : Nat) : Int)) :: (81, .slice (some ⟨qe, oe, none⟩) es.length ce) :: _) _
                refine J.pr (fun hF => ?_)
                refine J.indexAddrS Ty.el25 Ty.s55 rfl rfl (by omega) (by omega) rfl ?_
                exact J.finX rfl (fun _ hw => ⟨⟨x12, v13, l13⟩, rfl, fun _ _ _ => rfl, hF, hw⟩)
              · skip
                obtain ⟨x12, v13, l13⟩ := x
                show J _ _ _ _ _ ((83, .pointer (some ⟨qe, oe + (i : Int).toNat * 51, none⟩)) :: _) _
                refine J.pr (fun hF => ?_)
                refine J.fieldAddr Ty.fd55_4 rfl rfl ?_
                exact J.finX rfl (fun _ hw => ⟨⟨x12, v13, l13⟩, rfl, fun _ _ _ => rfl, hF, hw⟩)
              · skip
                obtain ⟨x12, v13, l13⟩ := x
                show J _ _ _ _ _ ((84, .pointer (some ⟨qe, oe + (i : Int).toNat * 51 + 50, none⟩)) :: _) _
                refine J.pr (fun hF => ?_)
                refine J.load1 (v := .int .i64 xe.nb) Ty.a3 rfl (fun w1 hw => Cells.get (i := 50) (rowE_at (i := i) (hre.below (hw.drop (List.nil_sublist _)).below) hxe (by simp)) rfl rfl) rfl ?_
                exact J.finX rfl (fun _ hw => ⟨⟨x12, v13, l13⟩, rfl, fun _ _ _ => rfl, hF, hw⟩)
              · skip
                obtain ⟨x12, v13, l13⟩ := x
                show J _ _ _ _ _ ((85, .int .i64 xe.nb) :: (80, .agg (cP xe.p).toArray) :: (75, .agg (cI xe.b).toArray) :: _) _
                refine J.pr (fun hF => ?_)
                refine J.buildS (cs := cC (⟨xe.b, false, xe.p, xe.nb⟩ : CV)) Ty.pl42 zC42 rfl (by kernel_rfl) rfl ?_
                exact J.finX rfl (fun _ hw => ⟨⟨x12, v13, l13⟩, rfl, fun _ _ _ => rfl, hF, hw⟩)
              · skip
                obtain ⟨x12, v13, l13⟩ := x
                show J _ _ _ _ _ ((86, .agg (cC (⟨xe.b, false, xe.p, xe.nb⟩ : CV)).toArray) :: _) _
                refine J.pr (fun hF => ?_)
                have h13 : m 18 = false := by cases h : m 18 with
                  | false => rfl
                  | true => rw [hF.1 h] at hm; cases hm
                refine J.conseq (I' := St w [] (la13 ++ ((xa12, cb (cC (⟨xe.a, false, xe.p, xe.na⟩ : CV)) 42) :: (b3, cb (cI self) 23) :: []))) ?_ (fun w1 hw => by simp only [hm, h13, cond_false] at hw; exact hw)
                refine J.buildSl (cs := cC (⟨xe.b, false, xe.p, xe.nb⟩ : CV)) Ty.el34 Ty.s42 zC42 rfl rfl rfl rfl (by kernel_rfl) rfl rfl (fun b12 => ?_)
                refine J.nil (JX.finB rfl (fun w1 hw => ⟨⟨⟨b12, v13, l13⟩, rfl, fun j h1 h2 => ?_, ?_⟩, trivial⟩))
                · match j, h1 with
                  | 0, _ => (first | rfl | trivial)
                  | 1, _ => (first | rfl | trivial)
                  | 2, _ => (first | rfl | trivial)
                  | 3, _ => (first | rfl | trivial)
                  | 4, _ => (first | rfl | trivial)
                  | 5, _ => (first | rfl | trivial)
                  | 6, _ => (first | rfl | trivial)
                  | 7, _ => (first | rfl | trivial)
                  | 8, _ => (first | rfl | trivial)
                  | 9, _ => (first | rfl | trivial)
                  | 10, _ => (first | rfl | trivial)
                  | 11, _ => (first | rfl | trivial)
                  | 12, _ => (first | rfl | trivial)
                  | 13, _ => (first | rfl | trivial)
                  | 14, _ => (first | rfl | trivial)
                  | 15, _ => (first | rfl | trivial)
                  | 16, _ => (first | rfl | trivial)
                  | 17, _ => exact absurd (h2.symm.trans hm) (by decide)
                  | 18, _ => (first | rfl | trivial)
                  | j + 19, h1 => omega
                show ((m 18 = true → true = true) ∧ (m 18 = true → Vec 42 35 v13 (((knownV self ns (es.take i)) ++ [(⟨xe.a, false, xe.p, xe.na⟩ : CV)]) ++ [(⟨xe.b, false, xe.p, xe.nb⟩ : CV)]).length (fC (((knownV self ns (es.take i)) ++ [(⟨xe.a, false, xe.p, xe.na⟩ : CV)]) ++ [(⟨xe.b, false, xe.p, xe.nb⟩ : CV)])) l13)) ∧ St w [] ((bif m 18 then l13 else la13) ++ ((bif true then [(b12, cb (cC (⟨xe.b, false, xe.p, xe.nb⟩ : CV)) 42)] else []) ++ ((xa12, cb (cC (⟨xe.a, false, xe.p, xe.na⟩ : CV)) 42) :: (b3, cb (cI self) 23) :: []))) w1
                simp only [hm, h13, cond_true, cond_false] at hw ⊢
                exact ⟨⟨fun h => (by cases h), fun h => (by cases h)⟩, hw.perm (by (refine perm_cnt (fun _ => ?_)); simp only [cntB_append, cntB_cons, cntB_nil, Nat.add_zero, Nat.zero_add]; try ac_rfl)⟩
              · skip
                obtain ⟨x12, v13, l13⟩ := x
                show J _ _ _ _ _ ((87, .slice (some ⟨x12, 0, none⟩) 1 1) :: (70, va13) :: _) _
                have hp17 : m 17 = true := predsT hp (by kernel_rfl)
                refine J.pr (fun hF => ?_)
                refine J.conseq (I' := St w [] (la13 ++ ((x12, cb (cC (⟨xe.b, false, xe.p, xe.nb⟩ : CV)) 42) :: ((xa12, cb (cC (⟨xe.a, false, xe.p, xe.na⟩ : CV)) 42) :: (b3, cb (cI self) 23) :: [])))) ?_ (fun w1 hw => by simp only [hm, hp17, cond_true, cond_false] at hw; exact hw)
                refine J.perm (la13 ++ ((x12, cb (cC (⟨xe.b, false, xe.p, xe.nb⟩ : CV)) 42) :: ((xa12, cb (cC (⟨xe.a, false, xe.p, xe.na⟩ : CV)) 42) :: (b3, cb (cI self) 23) :: []))) (by (refine perm_cnt (fun _ => ?_)); simp only [cntB_append, cntB_cons, cntB_nil, Nat.add_zero, Nat.zero_add]; try ac_rfl) ?_
                refine J.append (lp := la13) (xs := fC (((knownV self ns (es.take i)) ++ [(⟨xe.a, false, xe.p, xe.na⟩ : CV)]))) (ys := cC (⟨xe.b, false, xe.p, xe.nb⟩ : CV)) (k := (((knownV self ns (es.take i)) ++ [(⟨xe.a, false, xe.p, xe.na⟩ : CV)])).length) (m := 1) Ty.el34 Ty.s42 Ty.b42 zC42 rfl (.inl ⟨42, Ty.u34⟩) rfl rfl hva13 (fun w3 hw3 => .inl (Row.own (cs := cC (⟨xe.b, false, xe.p, xe.nb⟩ : CV)) (tb := 42) (fr := (0, 0)) hw3 (by repeat first | exact .head _ | apply List.Mem.tail | apply List.mem_append_right) rfl (Nat.le_refl _))) rfl (one_cC _) (by first | omega | (simp only [List.length_append, List.length_cons, List.length_nil]; omega)) (by first | omega | (simp only [List.length_append, List.length_cons, List.length_nil]; omega)) rfl (fun vn ln hvn => ?_)
                replace hvn := vec_snocC hvn
                refine J.nil (JX.finB rfl (fun w1 hw => ⟨⟨⟨x12, vn, ln⟩, rfl, fun j h1 h2 => ?_, ?_⟩, trivial⟩))
                · match j, h1 with
                  | 0, _ => (first | rfl | trivial)
                  | 1, _ => (first | rfl | trivial)
                  | 2, _ => (first | rfl | trivial)
                  | 3, _ => (first | rfl | trivial)
                  | 4, _ => (first | rfl | trivial)
                  | 5, _ => (first | rfl | trivial)
                  | 6, _ => (first | rfl | trivial)
                  | 7, _ => (first | rfl | trivial)
                  | 8, _ => (first | rfl | trivial)
                  | 9, _ => (first | rfl | trivial)
                  | 10, _ => (first | rfl | trivial)
                  | 11, _ => (first | rfl | trivial)
                  | 12, _ => (first | rfl | trivial)
                  | 13, _ => (first | rfl | trivial)
                  | 14, _ => (first | rfl | trivial)
                  | 15, _ => (first | rfl | trivial)
                  | 16, _ => (first | rfl | trivial)
                  | 17, _ => (first | rfl | trivial)
                  | 18, _ => exact absurd (h2.symm.trans hm) (by decide)
                  | j + 19, h1 => omega
                show ((true = true → m 17 = true) ∧ (true = true → Vec 42 35 vn (((knownV self ns (es.take i)) ++ [(⟨xe.a, false, xe.p, xe.na⟩ : CV)]) ++ [(⟨xe.b, false, xe.p, xe.nb⟩ : CV)]).length (fC (((knownV self ns (es.take i)) ++ [(⟨xe.a, false, xe.p, xe.na⟩ : CV)]) ++ [(⟨xe.b, false, xe.p, xe.nb⟩ : CV)])) ln)) ∧ St w [] ((bif true then ln else la13) ++ ((bif m 17 then [(x12, cb (cC (⟨xe.b, false, xe.p, xe.nb⟩ : CV)) 42)] else []) ++ ((xa12, cb (cC (⟨xe.a, false, xe.p, xe.na⟩ : CV)) 42) :: (b3, cb (cI self) 23) :: []))) w1
                simp only [hm, hp17, cond_true, cond_false] at hw ⊢
                exact ⟨⟨fun _ => (by first | trivial | rfl), fun _ => hvn⟩, hw.perm (by (refine perm_cnt (fun _ => ?_)); simp only [cntB_append, cntB_cons, cntB_nil, Nat.add_zero, Nat.zero_add]; try ac_rfl)⟩
            case htail =>
              intro x
              obtain ⟨x12, v13, l13⟩ := x
              show J _ _ _ _ _ ((88, v13) :: (87, .slice (some ⟨x12, 0, none⟩) 1 1) :: (86, .agg (cC (⟨xe.b, false, xe.p, xe.nb⟩ : CV)).toArray) :: (85, .int .i64 xe.nb) :: (84, .pointer (some ⟨qe, oe + (i : Int).toNat * 51 + 50, none⟩)) :: (83, .pointer (some ⟨qe, oe + (i : Int).toNat * 51, none⟩)) :: (82, .int .i64 ((i : Nat) : Int)) :: (81, .slice (some ⟨qe, oe, none⟩) es.length ce) :: (80, .agg (cP xe.p).toArray) :: (79, .pointer (some ⟨qe, oe + (i : Int).toNat * 51 + 0, none⟩)) :: (78, .pointer (some ⟨qe, oe + (i : Int).toNat * 51, none⟩)) :: (77, .int .i64 ((i : Nat) : Int)) :: (76, .slice (some ⟨qe, oe, none⟩) es.length ce) :: (75, .agg (cI xe.b).toArray) :: (74, .pointer (some ⟨qe, oe + (i : Int).toNat * 51 + 33, none⟩)) :: (73, .pointer (some ⟨qe, oe + (i : Int).toNat * 51, none⟩)) :: (72, .int .i64 ((i : Nat) : Int)) :: (71, .slice (some ⟨qe, oe, none⟩) es.length ce) :: (70, va13) :: _) (fun w1 => ((true = true → true = true) ∧ (true = true → Vec 42 35 v13 (((knownV self ns (es.take i)) ++ [(⟨xe.a, false, xe.p, xe.na⟩ : CV)]) ++ [(⟨xe.b, false, xe.p, xe.nb⟩ : CV)]).length (fC (((knownV self ns (es.take i)) ++ [(⟨xe.a, false, xe.p, xe.na⟩ : CV)]) ++ [(⟨xe.b, false, xe.p, xe.nb⟩ : CV)])) l13)) ∧ St w [] ((bif true then l13 else la13) ++ ((bif true then [(x12, cb (cC (⟨xe.b, false, xe.p, xe.nb⟩ : CV)) 42)] else []) ++ ((xa12, cb (cC (⟨xe.a, false, xe.p, xe.na⟩ : CV)) 42) :: (b3, cb (cI self) 23) :: []))) w1)
              refine J.pr (fun hF => ?_)
              have hv13 := hF.2 rfl
              refine J.conseq (I' := St w [] (l13 ++ ((x12, cb (cC (⟨xe.b, false, xe.p, xe.nb⟩ : CV)) 42) :: ((xa12, cb (cC (⟨xe.a, false, xe.p, xe.na⟩ : CV)) 42) :: (b3, cb (cI self) 23) :: [])))) ?_ (fun w1 hw => by simp only [cond_true] at hw; exact hw)
              refine J.assign rfl rfl ?_
              refine J.nil ?_
              refine JX.blockN ?_
              refine JX.thenN (hK11 _ _ ?_)
              refine JC.region ?_
              refine J.move rfl rfl ?_
              (first | refine J.addN rfl rfl (by omega) (by omega) rfl ?_ | refine J.bin rfl rfl rfl rfl ?_)
              refine J.assign rfl rfl ?_
              refine J.nil ?_
              refine JX.thenN ?_
              refine JX.again ((i + 1, v13, l13) : Nat × Value × List (Nat × Obj)) ?_ ?_ ?_
              · simp only; omega
              · exact ⟨rfl, rfl, rfl, rfl, trivial⟩
              · exact fun w1 hw => ⟨⟨hlt, by rw [known_ent hxe, eC, if_pos hA, if_pos hB, ← List.append_assoc]; exact hv13⟩, (hw.perm (l' := [(x12, cb (cC (⟨xe.b, false, xe.p, xe.nb⟩ : CV)) 42), (xa12, cb (cC (⟨xe.a, false, xe.p, xe.na⟩ : CV)) 42)] ++ (l13 ++ [(b3, cb (cI self) 23)])) (by (refine perm_cnt (fun _ => ?_)); simp only [cntB_append, cntB_cons, cntB_nil, Nat.add_zero, Nat.zero_add]; try ac_rfl)).drop (List.sublist_append_right _ _)⟩
          · skip
            have hB : ¬ 0 ≤ xe.nb := by simpa using h3
            refine JC.skip ?_
            refine JX.blockN ?_
            refine JX.thenN (hK11 _ _ ?_)
            refine JC.region ?_
            refine J.move rfl rfl ?_
            (first | refine J.addN rfl rfl (by omega) (by omega) rfl ?_ | refine J.bin rfl rfl rfl rfl ?_)
            refine J.assign rfl rfl ?_
            refine J.nil ?_
            refine JX.thenN ?_
            refine JX.again ((i + 1, va13, la13) : Nat × Value × List (Nat × Obj)) ?_ ?_ ?_
            · simp only; omega
            · exact ⟨rfl, rfl, rfl, rfl, trivial⟩
            · exact fun w1 hw => ⟨⟨hlt, by rw [known_ent hxe, eC, if_pos hA, if_neg hB, List.append_nil]; exact hva13⟩, (hw.perm (l' := [(xa12, cb (cC (⟨xe.a, false, xe.p, xe.na⟩ : CV)) 42)] ++ (la13 ++ [(b3, cb (cI self) 23)])) (by (refine perm_cnt (fun _ => ?_)); simp only [cntB_append, cntB_cons, cntB_nil, Nat.add_zero, Nat.zero_add]; try ac_rfl)).drop (List.sublist_append_right _ _)⟩
      · skip
        have hA : ¬ 0 ≤ xe.na := by simpa using h2
        refine JC.skip ?_
        refine JX.thenN (hK12 _ _ ?_)
        refine JC.seq (fun K15 hK15 => ?_)
        refine JC.region ?_
        refine J.move rfl rfl ?_
        refine J.move rfl rfl ?_
        refine J.indexAddrS Ty.el25 Ty.s55 rfl rfl (by omega) (by omega) rfl ?_
        refine J.fieldAddr Ty.fd55_4 rfl rfl ?_
        refine J.load1 (v := .int .i64 xe.nb) Ty.a3 rfl (fun w1 hw => Cells.get (i := 50) (rowE_at (i := i) (hre.below (hw.drop (List.nil_sublist _)).below) hxe (by simp)) rfl rfl) rfl ?_
        refine J.bin rfl rfl rfl rfl ?_
        refine J.nil ?_
        refine JX.thenN (hK15 _ _ ?_)
        refine JC.cond rfl (fun h3 => ?_) (fun h3 => ?_)
        · skip
          have hB : 0 ≤ xe.nb := by simpa using h3
          apply JC.drawX (α := Nat × Value × List (Nat × Obj)) 19 (fun x => match x with | ⟨x12, v13, l13⟩ => [v, .slice (some ⟨qe, oe, none⟩) es.length ce, .int .i64 ((i : Nat) : Int), .pointer (some ⟨qe, oe + (i : Int).toNat * 51, none⟩), .pointer (some ⟨qe, oe + (i : Int).toNat * 51 + 33, none⟩), .agg (cI xe.b).toArray, .slice (some ⟨qe, oe, none⟩) es.length ce, .int .i64 ((i : Nat) : Int), .pointer (some ⟨qe, oe + (i : Int).toNat * 51, none⟩), .pointer (some ⟨qe, oe + (i : Int).toNat * 51 + 0, none⟩), .agg (cP xe.p).toArray, .slice (some ⟨qe, oe, none⟩) es.length ce, .int .i64 ((i : Nat) : Int), .pointer (some ⟨qe, oe + (i : Int).toNat * 51, none⟩), .pointer (some ⟨qe, oe + (i : Int).toNat * 51 + 50, none⟩), .int .i64 xe.nb, .agg (cC (⟨xe.b, false, xe.p, xe.nb⟩ : CV)).toArray, .slice (some ⟨x12, 0, none⟩) 1 1, v13]) (fun m x => match x with | ⟨x12, v13, l13⟩ => fun w1 => ((m 18 = true → m 17 = true) ∧ (m 18 = true → Vec 42 35 v13 ((knownV self ns (es.take i)) ++ [(⟨xe.b, false, xe.p, xe.nb⟩ : CV)]).length (fC ((knownV self ns (es.take i)) ++ [(⟨xe.b, false, xe.p, xe.nb⟩ : CV)])) l13)) ∧ St w [] ((bif m 18 then l13 else lk) ++ ((bif m 17 then [(x12, cb (cC (⟨xe.b, false, xe.p, xe.nb⟩ : CV)) 42)] else []) ++ ((b3, cb (cI self) 23) :: []))) w1) Ty.mixed rfl rfl rfl (by kernel_rfl) rfl rfl ?hinit ?hstep ?htail
          case hinit => exact fun w1 hw => ⟨(0, .slice none 0 0, []), ⟨fun h => (by cases h), fun h => (by cases h)⟩, hw.drew⟩
          case hstep =>
            refine ⟨fun m x hm hp => ?_, fun m x hm hp => ?_, fun m x hm hp => ?_, fun m x hm hp => ?_, fun m x hm hp => ?_, fun m x hm hp => ?_, fun m x hm hp => ?_, fun m x hm hp => ?_, fun m x hm hp => ?_, fun m x hm hp => ?_, fun m x hm hp => ?_, fun m x hm hp => ?_, fun m x hm hp => ?_, fun m x hm hp => ?_, fun m x hm hp => ?_, fun m x hm hp => ?_, fun m x hm hp => ?_, fun m x hm hp => ?_, fun m x hm hp => ?_, trivial⟩
            · skip
              obtain ⟨x12, v13, l13⟩ := x
              show J _ _ _ _ _ (_) _
              refine J.pr (fun hF => ?_)
              refine J.move rfl rfl ?_
              exact J.finX rfl (fun _ hw => ⟨⟨x12, v13, l13⟩, rfl, fun _ _ _ => rfl, hF, hw⟩)
            · skip
              obtain ⟨x12, v13, l13⟩ := x
              show J _ _ _ _ _ (_) _
              refine J.pr (fun hF => ?_)
              refine J.move rfl rfl ?_
              exact J.finX rfl (fun _ hw => ⟨⟨x12, v13, l13⟩, rfl, fun _ _ _ => rfl, hF, hw⟩)
            · skip
              obtain ⟨x12, v13, l13⟩ := x
              show J _ _ _ _ _ (_) _
              refine J.pr (fun hF => ?_)
              refine J.move rfl rfl ?_
              exact J.finX rfl (fun _ hw => ⟨⟨x12, v13, l13⟩, rfl, fun _ _ _ => rfl, hF, hw⟩)
            · skip
              obtain ⟨x12, v13, l13⟩ := x
              show J _ _ _ _ _ ((72, .int .i64 ((i : Nat) : Int)) :: (71, .slice (some ⟨qe, oe, none⟩) es.length ce) :: _) _
              refine J.pr (fun hF => ?_)
              refine J.indexAddrS Ty.el25 Ty.s55 rfl rfl (by omega) (by omega) rfl ?_
              exact J.finX rfl (fun _ hw => ⟨⟨x12, v13, l13⟩, rfl, fun _ _ _ => rfl, hF, hw⟩)
            · skip
              obtain ⟨x12, v13, l13⟩ := x
              show J _ _ _ _ _ ((73, .pointer (some ⟨qe, oe + (i : Int).toNat * 51, none⟩)) :: _) _
              refine J.pr (fun hF => ?_)
              refine J.fieldAddr Ty.fd55_2 rfl rfl ?_
              exact J.finX rfl (fun _ hw => ⟨⟨x12, v13, l13⟩, rfl, fun _ _ _ => rfl, hF, hw⟩)
            · skip
              obtain ⟨x12, v13, l13⟩ := x
              show J _ _ _ _ _ ((74, .pointer (some ⟨qe, oe + (i : Int).toNat * 51 + 33, none⟩)) :: _) _
              refine J.pr (fun hF => ?_)
              refine J.loadA (vs := cI xe.b) Ty.a23 Ty.s23 rfl rfl (fun w1 hw => cells_part (k := 33) (rowE_at (i := i) (hre.below (hw.drop (List.nil_sublist _)).below) hxe (by simp)) rfl (Nat.le_of_ble_eq_true rfl)) rfl ?_
              exact J.finX rfl (fun _ hw => ⟨⟨x12, v13, l13⟩, rfl, fun _ _ _ => rfl, hF, hw⟩)
            · skip
              obtain ⟨x12, v13, l13⟩ := x
              show J _ _ _ _ _ (_) _
              refine J.pr (fun hF => ?_)
              refine J.move rfl rfl ?_
              exact J.finX rfl (fun _ hw => ⟨⟨x12, v13, l13⟩, rfl, fun _ _ _ => rfl, hF, hw⟩)
            · skip
              obtain ⟨x12, v13, l13⟩ := x
              show J _ _ _ _ _ (_) _
              refine J.pr (fun hF => ?_)
              refine J.move rfl rfl ?_
              exact J.finX rfl (fun _ hw => ⟨⟨x12, v13, l13⟩, rfl, fun _ _ _ => rfl, hF, hw⟩)
            · skip
              obtain ⟨x12, v13, l13⟩ := x
              show J _ _ _ _ _ ((77, .int .i64 ((i : Nat) : Int)) :: (76, .slice (some ⟨qe, oe, none⟩) es.length ce) :: _) _
              refine J.pr (fun hF => ?_)
              refine J.indexAddrS Ty.el25 Ty.s55 rfl rfl (by omega) (by omega) rfl ?_
              exact J.finX rfl (fun _ hw => ⟨⟨x12, v13, l13⟩, rfl, fun _ _ _ => rfl, hF, hw⟩)
            · skip
              obtain ⟨x12, v13, l13⟩ := x
              show J _ _ _ _ _ ((78, .pointer (some ⟨qe, oe + (i : Int).toNat * 51, none⟩)) :: _) _
              refine J.pr (fun hF => ?_)
              refine J.fieldAddr Ty.fd55_0 rfl rfl ?_
              exact J.finX rfl (fun _ hw => ⟨⟨x12, v13, l13⟩, rfl, fun _ _ _ => rfl, hF, hw⟩)
            · skip
              obtain ⟨x12, v13, l13⟩ := x
              show J _ _ _ _ _ ((79, .pointer (some ⟨qe, oe + (i : Int).toNat * 51 + 0, none⟩)) :: _) _
              refine J.pr (fun hF => ?_)
              refine J.loadA (vs := cP xe.p) Ty.a38 Ty.s38 rfl rfl (fun w1 hw => cells_part (k := 0) (rowE_at (i := i) (hre.below (hw.drop (List.nil_sublist _)).below) hxe (by simp)) rfl (Nat.le_of_ble_eq_true rfl)) rfl ?_
              exact J.finX rfl (fun _ hw => ⟨⟨x12, v13, l13⟩, rfl, fun _ _ _ => rfl, hF, hw⟩)
            · skip
              obtain ⟨x12, v13, l13⟩ := x
              show J _ _ _ _ _ (_) _
              refine J.pr (fun hF => ?_)
              refine J.move rfl rfl ?_
              exact J.finX rfl (fun _ hw => ⟨⟨x12, v13, l13⟩, rfl, fun _ _ _ => rfl, hF, hw⟩)
            · skip
              obtain ⟨x12, v13, l13⟩ := x
              show J _ _ _ _ _ (_) _
              refine J.pr (fun hF => ?_)
              refine J.move rfl rfl ?_
              exact J.finX rfl (fun _ hw => ⟨⟨x12, v13, l13⟩, rfl, fun _ _ _ => rfl, hF, hw⟩)
            · skip
              obtain ⟨x12, v13, l13⟩ := x
              show J _ _ _ _ _ ((82, .int .i64 ((i : Nat) : Int)) :: (81, .slice (some ⟨qe, oe, none⟩) es.length ce) :: _) _
              refine J.pr (fun hF => ?_)
              refine J.indexAddrS Ty.el25 Ty.s55 rfl rfl (by omega) (by omega) rfl ?_
              exact J.finX rfl (fun _ hw => ⟨⟨x12, v13, l13⟩, rfl, fun _ _ _ => rfl, hF, hw⟩)
            · skip
              obtain ⟨x12, v13, l13⟩ := x
              show J _ _ _ _ _ ((83, .pointer (some ⟨qe, oe + (i : Int).toNat * 51, none⟩)) :: _) _
              refine J.pr (fun hF => ?_)
              refine J.fieldAddr Ty.fd55_4 rfl rfl ?_
              exact J.finX rfl (fun _ hw => ⟨⟨x12, v13, l13⟩, rfl, fun _ _ _ => rfl, hF, hw⟩)
            · skip
              obtain ⟨x12, v13, l13⟩ := x
              show J _ _ _ _ _ ((84, .pointer (some ⟨qe, oe + (i : Int).toNat * 51 + 50, none⟩)) :: _) _
              refine J.pr (fun hF => ?_)
              refine J.load1 (v := .int .i64 xe.nb) Ty.a3 rfl (fun w1 hw => Cells.get (i := 50) (rowE_at (i := i) (hre.below (hw.drop (List.nil_sublist _)).below) hxe (by simp)) rfl rfl) rfl ?_
              exact J.finX rfl (fun _ hw => ⟨⟨x12, v13, l13⟩, rfl, fun _ _ _ => rfl, hF, hw⟩)
            · skip
              obtain ⟨x12, v13, l13⟩ := x
              show J _ _ _ _ _ ((85, .int .i64 xe.nb) :: (80, .agg (cP xe.p).toArray) :: (75, .agg (cI xe.b).toArray) :: _) _
              refine J.pr (fun hF => ?_)
              refine J.buildS (cs := cC (⟨xe.b, false, xe.p, xe.nb⟩ : CV)) Ty.pl42 zC42 rfl (by kernel_rfl) rfl ?_
              exact J.finX rfl (fun _ hw => ⟨⟨x12, v13, l13⟩, rfl, fun _ _ _ => rfl, hF, hw⟩)
            · skip
              obtain ⟨x12, v13, l13⟩ := x
              show J _ _ _ _ _ ((86, .agg (cC (⟨xe.b, false, xe.p, xe.nb⟩ : CV)).toArray) :: _) _
              refine J.pr (fun hF => ?_)
              have h13 : m 18 = false := by cases h : m 18 with
                | false => rfl
                | true => rw [hF.1 h] at hm; cases hm
              refine J.conseq (I' := St w [] (lk ++ ((b3, cb (cI self) 23) :: []))) ?_ (fun w1 hw => by simp only [hm, h13, cond_false] at hw; exact hw)
              refine J.buildSl (cs := cC (⟨xe.b, false, xe.p, xe.nb⟩ : CV)) Ty.el34 Ty.s42 zC42 rfl rfl rfl rfl (by kernel_rfl) rfl rfl (fun b12 => ?_)
              refine J.nil (JX.finB rfl (fun w1 hw => ⟨⟨⟨b12, v13, l13⟩, rfl, fun j h1 h2 => ?_, ?_⟩, trivial⟩))
              · match j, h1 with
                | 0, _ => (first | rfl | trivial)
                | 1, _ => (first | rfl | trivial)
                | 2, _ => (first | rfl | trivial)
                | 3, _ => (first | rfl | trivial)
                | 4, _ => (first | rfl | trivial)
                | 5, _ => (first | rfl | trivial)
                | 6, _ => (first | rfl | trivial)
                | 7, _ => (first | rfl | trivial)
                | 8, _ => (first | rfl | trivial)
                | 9, _ => (first | rfl | trivial)
                | 10, _ => (first | rfl | trivial)
                | 11, _ => (first | rfl | trivial)
                | 12, _ => (first | rfl | trivial)
                | 13, _ => (first | rfl | trivial)
                | 14, _ => (first | rfl | trivial)
                | 15, _ => (first | rfl | trivial)
                | 16, _ => (first | rfl | trivial)
                | 17, _ => exact absurd (h2.symm.trans hm) (by decide)
                | 18, _ => (first | rfl | trivial)
                | j + 19, h1 => omega
              show ((m 18 = true → true = true) ∧ (m 18 = true → Vec 42 35 v13 ((knownV self ns (es.take i)) ++ [(⟨xe.b, false, xe.p, xe.nb⟩ : CV)]).length (fC ((knownV self ns (es.take i)) ++ [(⟨xe.b, false, xe.p, xe.nb⟩ : CV)])) l13)) ∧ St w [] ((bif m 18 then l13 else lk) ++ ((bif true then [(b12, cb (cC (⟨xe.b, false, xe.p, xe.nb⟩ : CV)) 42)] else []) ++ ((b3, cb (cI self) 23) :: []))) w1
              simp only [hm, h13, cond_true, cond_false] at hw ⊢
              exact ⟨⟨fun h => (by cases h), fun h => (by cases h)⟩, hw.perm (by (refine perm_cnt (fun _ => ?_)); simp only [cntB_append, cntB_cons, cntB_nil, Nat.add_zero, Nat.zero_add]; try ac_rfl)⟩
            · skip
              obtain ⟨x12, v13, l13⟩ := x
              show J _ _ _ _ _ ((87, .slice (some ⟨x12, 0, none⟩) 1 1) :: (70, v) :: _) _
              have hp17 : m 17 = true := predsT hp (by kernel_rfl)
              refine J.pr (fun hF => ?_)
              refine J.conseq (I' := St w [] (lk ++ ((x12, cb (cC (⟨xe.b, false, xe.p, xe.nb⟩ : CV)) 42) :: ((b3, cb (cI self) 23) :: [])))) ?_ (fun w1 hw => by simp only [hm, hp17, cond_true, cond_false] at hw; exact hw)
              refine J.perm (lk ++ ((x12, cb (cC (⟨xe.b, false, xe.p, xe.nb⟩ : CV)) 42) :: ((b3, cb (cI self) 23) :: []))) (by (refine perm_cnt (fun _ => ?_)); simp only [cntB_append, cntB_cons, cntB_nil, Nat.add_zero, Nat.zero_add]; try ac_rfl) ?_
              refine J.append (lp := lk) (xs := fC ((knownV self ns (es.take i)))) (ys := cC (⟨xe.b, false, xe.p, xe.nb⟩ : CV)) (k := ((knownV self ns (es.take i))).length) (m := 1) Ty.el34 Ty.s42 Ty.b42 zC42 rfl (.inl ⟨42, Ty.u34⟩) rfl rfl hvk (fun w3 hw3 => .inl (Row.own (cs := cC (⟨xe.b, false, xe.p, xe.nb⟩ : CV)) (tb := 42) (fr := (0, 0)) hw3 (by repeat first | exact .head _ | apply List.Mem.tail | apply List.mem_append_right) rfl (Nat.le_refl _))) rfl (one_cC _) (by first | omega | (simp only [List.length_append, List.length_cons, List.length_nil]; omega)) (by first | omega | (simp only [List.length_append, List.length_cons, List.length_nil]; omega)) rfl (fun vn ln hvn => ?_)
              replace hvn := vec_snocC hvn
              refine J.nil (JX.finB rfl (fun w1 hw => ⟨⟨⟨x12, vn, ln⟩, rfl, fun j h1 h2 => ?_, ?_⟩, trivial⟩))
              · match j, h1 with
                | 0, _ => (first | rfl | trivial)
                | 1, _ => (first | rfl | trivial)
                | 2, _ => (first | rfl | trivial)
                | 3, _ => (first | rfl | trivial)
                | 4, _ => (first | rfl | trivial)
                | 5, _ => (first | rfl | trivial)
                | 6, _ => (first | rfl | trivial)
                | 7, _ => (first | rfl | trivial)
                | 8, _ => (first | rfl | trivial)
                | 9, _ => (first | rfl | trivial)
                | 10, _ => (first | rfl | trivial)
                | 11, _ => (first | rfl | trivial)
                | 12, _ => (first | rfl | trivial)
                | 13, _ => (first | rfl | trivial)
                | 14, _ => (first | rfl | trivial)
                | 15, _ => (first | rfl | trivial)
                | 16, _ => (first | rfl | trivial)
                | 17, _ => (first | rfl | trivial)
                | 18, _ => exact absurd (h2.symm.trans hm) (by decide)
                | j + 19, h1 => omega
              show ((true = true → m 17 = true) ∧ (true = true → Vec 42 35 vn ((knownV self ns (es.take i)) ++ [(⟨xe.b, false, xe.p, xe.nb⟩ : CV)]).length (fC ((knownV self ns (es.take i)) ++ [(⟨xe.b, false, xe.p, xe.nb⟩ : CV)])) ln)) ∧ St w [] ((bif true then ln else lk) ++ ((bif m 17 then [(x12, cb (cC (⟨xe.b, false, xe.p, xe.nb⟩ : CV)) 42)] else []) ++ ((b3, cb (cI self) 23) :: []))) w1
              simp only [hm, hp17, cond_true, cond_false] at hw ⊢
              exact ⟨⟨fun _ => (by first | trivial | rfl), fun _ => hvn⟩, hw.perm (by (refine perm_cnt (fun _ => ?_)); simp only [cntB_append, cntB_cons, cntB_nil, Nat.add_zero, Nat.zero_add]; try ac_rfl)⟩
          case htail =>
            intro x
            obtain ⟨x12, v13, l13⟩ := x
            show J _ _ _ _ _ ((88, v13) :: (87, .slice (some ⟨x12, 0, none⟩) 1 1) :: (86, .agg (cC (⟨xe.b, false, xe.p, xe.nb⟩ : CV)).toArray) :: (85, .int .i64 xe.nb) :: (84, .pointer (some ⟨qe, oe + (i : Int).toNat * 51 + 50, none⟩)) :: (83, .pointer (some ⟨qe, oe + (i : Int).toNat * 51, none⟩)) :: (82, .int .i64 ((i : Nat) : Int)) :: (81, .slice (some ⟨qe, oe, none⟩) es.length ce) :: (80, .agg (cP xe.p).toArray) :: (79, .pointer (some ⟨qe, oe + (i : Int).toNat * 51 + 0, none⟩)) :: (78, .pointer (some ⟨qe, oe + (i : Int).toNat * 51, none⟩)) :: (77, .int .i64 ((i : Nat) : Int)) :: (76, .slice (some ⟨qe, oe, none⟩) es.length ce) :: (75, .agg (cI xe.b).toArray) :: (74, .pointer (some ⟨qe, oe + (i : Int).toNat * 51 + 33, none⟩)) :: (73, .pointer (some ⟨qe, oe + (i : Int).toNat * 51, none⟩)) :: (72, .int .i64 ((i : Nat) : Int)) :: (71, .slice (some ⟨qe, oe, none⟩) es.length ce) :: (70, v) :: _) (fun w1 => ((true = true → true = true) ∧ (true = true → Vec 42 35 v13 ((knownV self ns (es.take i)) ++ [(⟨xe.b, false, xe.p, xe.nb⟩ : CV)]).length (fC ((knownV self ns (es.take i)) ++ [(⟨xe.b, false, xe.p, xe.nb⟩ : CV)])) l13)) ∧ St w [] ((bif true then l13 else lk) ++ ((bif true then [(x12, cb (cC (⟨xe.b, false, xe.p, xe.nb⟩ : CV)) 42)] else []) ++ ((b3, cb (cI self) 23) :: []))) w1)
            refine J.pr (fun hF => ?_)
            have hv13 := hF.2 rfl
            refine J.conseq (I' := St w [] (l13 ++ ((x12, cb (cC (⟨xe.b, false, xe.p, xe.nb⟩ : CV)) 42) :: ((b3, cb (cI self) 23) :: [])))) ?_ (fun w1 hw => by simp only [cond_true] at hw; exact hw)
            refine J.assign rfl rfl ?_
            refine J.nil ?_
            refine JX.blockN ?_
            refine JX.thenN (hK11 _ _ ?_)
            refine JC.region ?_
            refine J.move rfl rfl ?_
            (first | refine J.addN rfl rfl (by omega) (by omega) rfl ?_ | refine J.bin rfl rfl rfl rfl ?_)
            refine J.assign rfl rfl ?_
            refine J.nil ?_
            refine JX.thenN ?_
            refine JX.again ((i + 1, v13, l13) : Nat × Value × List (Nat × Obj)) ?_ ?_ ?_
            · simp only; omega
            · exact ⟨rfl, rfl, rfl, rfl, trivial⟩
            · exact fun w1 hw => ⟨⟨hlt, by rw [known_ent hxe, eC, if_neg hA, if_pos hB, List.nil_append]; exact hv13⟩, (hw.perm (l' := [(x12, cb (cC (⟨xe.b, false, xe.p, xe.nb⟩ : CV)) 42)] ++ (l13 ++ [(b3, cb (cI self) 23)])) (by (refine perm_cnt (fun _ => ?_)); simp only [cntB_append, cntB_cons, cntB_nil, Nat.add_zero, Nat.zero_add]; try ac_rfl)).drop (List.sublist_append_right _ _)⟩
        · skip
          have hB : ¬ 0 ≤ xe.nb := by simpa using h3
          refine JC.skip ?_
          refine JX.blockN ?_
          refine JX.thenN (hK11 _ _ ?_)
          refine JC.region ?_
          refine J.move rfl rfl ?_
          (first | refine J.addN rfl rfl (by omega) (by omega) rfl ?_ | refine J.bin rfl rfl rfl rfl ?_)
          refine J.assign rfl rfl ?_
          refine J.nil ?_
          refine JX.thenN ?_
          refine JX.again ((i + 1, v, lk) : Nat × Value × List (Nat × Obj)) ?_ ?_ ?_
          · simp only; omega
          · exact ⟨rfl, rfl, rfl, rfl, trivial⟩
          · exact fun w1 hw => ⟨⟨hlt, by rw [known_ent hxe, eC, if_neg hA, if_neg hB, List.append_nil, List.append_nil]; exact hvk⟩, (hw.perm (l' := [] ++ (lk ++ [(b3, cb (cI self) 23)])) (by (refine perm_cnt (fun _ => ?_)); simp only [cntB_append, cntB_cons, cntB_nil, Nat.add_zero, Nat.zero_add]; try ac_rfl)).drop (List.sublist_append_right _ _)⟩
    · skip
      have hge : i = es.length := by simp at h1; omega
      subst hge
      rw [List.take_length] at hvk
      refine JC.exit ?_
      refine JX.thenE ?_
      refine JX.thenE ?_
      refine JX.blockE ?_
      refine JX.thenN (hK7 _ _ ?_)
      refine JC.seq (fun K16 hK16 => ?_)
      refine JC.region ?_
      refine J.move rfl rfl ?_
      refine J.assign rfl rfl ?_
      refine J.nil ?_
      refine JX.thenN (hK16 _ _ ?_)
      refine JC.ret ?_
      refine JX.ret1 rfl rfl (fun w hw => ?_)
      exact ⟨(v, lk), rfl, hvk, hw.drop (List.sublist_append_left _ _)⟩

end Go.Proofs.Ytohldionclgljaa
