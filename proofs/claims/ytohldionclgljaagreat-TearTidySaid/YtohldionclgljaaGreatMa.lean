/-
  The calculus: maps, interfaces, function values, values of many cells. Proved over any program.
-/
import Derived.Test.YtohldionclgljaaGreatJ
import Derived.DeepKeys3
import Derived.MapKept
namespace Go.J
open Go.RowKit
set_option linter.unusedVariables false
set_option linter.unusedSimpArgs false

/-- equality at a type of many cells -/
structure EqL (P : Program) (t : TypeId) : Prop where
  guard : P.eqGuardType P.depth t = false
  eq : ∀ (w : World) (x y : Value) (lx ly : Lit), keyOf P t x = some lx → keyOf P t y = some ly → ∃ r : Bool, (Op.equal t x y).run P w = .ok r w ∧ (r = true ↔ x = y)
theorem EqL.of {P : Program} {m : Nat} {t : TypeId} (hg : P.eqGuardType P.depth t = false) (hm : m + 1 ≤ 10000) (hk : P.keyTypeAt m t = true) (ht : P.tiled m t = true)
    (hw : (match P.underlying t with | some (.array _ _) | some (.struct _) => true | _ => false) = true) : EqL P t :=
  ⟨hg, fun w x y lx ly hx hy => by
    obtain ⟨r, h1, h2⟩ := run_equal_deep w (by omega) hk hw hx hy
    refine ⟨r, h1, h2.trans ⟨fun h => ?_, fun h => ?_⟩⟩
    · subst h; exact keyOf_inj_deep ht hw hx hy
    · subst h; rw [hx] at hy; exact Option.some.inj hy⟩
theorem binOp_eql_agg (P : Program) (t : TypeId) (a b : Array Value) (w : World) : (binOp .eql t (.agg a) (.agg b)).run P w = ((Op.equal t (.agg a) (.agg b)).run P w).andThen fun r w' => .ok (.bool r) w' := by
  simp only [binOp, Sem.run_bind, Sem.run_pure]
theorem binOp_neq_agg (P : Program) (t : TypeId) (a b : Array Value) (w : World) : (binOp .neq t (.agg a) (.agg b)).run P w = ((Op.equal t (.agg a) (.agg b)).run P w).andThen fun r w' => .ok (.bool !r) w' := by
  simp only [binOp, Sem.run_bind, Sem.run_pure]
theorem run_eqGuard_agg {P : Program} {op : BinOp} {t : TypeId} {x y : Operand} {a b : Array Value} (w : World) (hg : P.eqGuardType P.depth t = false) : (eqGuard op t x y (.agg a) (.agg b)).run P w = .ok () w := by
  unfold eqGuard
  cases op <;> simp [hg]

theorem run_key {P : Program} {w : World} {b clock : Nat} {es : Array MapEntry} (hb : w.heap[b]? = some (.map es clock)) : (getObj b).run P w = .ok (.map es clock) w := by simp [getObj, Sem.run, hb]
theorem run_keyset {P : Program} {w : World} {b clock : Nat} {es : Array MapEntry} (o : Obj) (hb : w.heap[b]? = some (.map es clock)) : (setObj b o).run P w = .ok () { w with heap := w.heap.setIfInBounds b o } := by simp [setObj, Sem.run, hb]

/-- the value of a key in a list of entries -/
inductive Look (L : List MapEntry) (k z : Value) : Value → Bool → Prop
  | no : (∀ e, e ∈ L → e.key ≠ k) → Look L k z z false
  | yes (j : Nat) (e : MapEntry) : L[j]? = some e → e.key = k → Look L k z e.val true
theorem run_lookup {P : Program} {w : World} {mt kt et : TypeId} {b clock : Nat} {es : Array MapEntry} {k z : Value} {l : Lit} (hm : P.underlying mt = some (.map kt et)) (K : WideMaps.KeyLaw P kt) (hz : zeroT P et = some z)
    (hb : w.heap[b]? = some (.map es clock)) (hk : keyOf P kt k = some l) (hes : ∀ e, e ∈ es.toList → ∃ l, keyOf P kt e.key = some l) :
    ∃ v ok, (Instr.lookup mt (.map (some b)) k true).run P w = .ok (.tuple #[v, .bool ok]) w ∧ Look es.toList k z v ok := by
  rcases K.find w hk es.toList hes with ⟨h1, h2⟩ | ⟨j, e0, h1, h2, h3⟩
  · refine ⟨z, false, ?_, .no h2⟩
    simp [Instr.lookup, run_underlying' hm, run_key hb, K.check w _ hk, h1, run_zeroValue' hz]
  · refine ⟨e0.val, true, ?_, .yes j e0 h2 h3⟩
    simp [Instr.lookup, run_underlying' hm, run_key hb, K.check w _ hk, h1]
theorem run_lookup1 {P : Program} {w : World} {mt kt et : TypeId} {b clock : Nat} {es : Array MapEntry} {k z : Value} {l : Lit} (hm : P.underlying mt = some (.map kt et)) (K : WideMaps.KeyLaw P kt) (hz : zeroT P et = some z)
    (hb : w.heap[b]? = some (.map es clock)) (hk : keyOf P kt k = some l) (hes : ∀ e, e ∈ es.toList → ∃ l, keyOf P kt e.key = some l) :
    ∃ v ok, (Instr.lookup mt (.map (some b)) k false).run P w = .ok v w ∧ Look es.toList k z v ok := by
  rcases K.find w hk es.toList hes with ⟨h1, h2⟩ | ⟨j, e0, h1, h2, h3⟩
  · refine ⟨z, false, ?_, .no h2⟩
    simp [Instr.lookup, run_underlying' hm, run_key hb, K.check w _ hk, h1, run_zeroValue' hz]
  · refine ⟨e0.val, true, ?_, .yes j e0 h2 h3⟩
    simp [Instr.lookup, run_underlying' hm, run_key hb, K.check w _ hk, h1]
theorem run_update_new {P : Program} {w : World} {mt kt et : TypeId} {b clock : Nat} {es : Array MapEntry} {k v : Value} {l : Lit} (hm : P.underlying mt = some (.map kt et)) (K : WideMaps.KeyLaw P kt)
    (hb : w.heap[b]? = some (.map es clock)) (hk : keyOf P kt k = some l) (hes : ∀ e, e ∈ es.toList → ∃ l, keyOf P kt e.key = some l) (hno : ∀ e, e ∈ es.toList → e.key ≠ k) :
    (Instr.mapUpdate mt (.map (some b)) k v).run P w = .ok () { w with heap := w.heap.setIfInBounds b (.map (es.push { key := k, val := v, born := clock }) (clock + 1)) } := by
  rcases K.find w hk es.toList hes with ⟨h1, h2⟩ | ⟨j, e0, h1, h2, h3⟩
  · simp [Instr.mapUpdate, run_underlying' hm, run_key hb, K.check w _ hk, h1, run_keyset _ hb]
  · exact absurd h3 (hno e0 (List.mem_of_getElem? h2))

theorem wrote_set {w : World} {b : Nat} {o o' : Obj} (hb : w.heap[b]? = some o) : Wrote w { w with heap := w.heap.setIfInBounds b o' } b o' :=
  ⟨rfl, rfl, rfl, by simp, rfl, by
    have := lt_of_some hb
    simp [this], fun k hk => by
    simp only [Array.getElem?_setIfInBounds]
    rw [if_neg (fun e => hk e.symm)]⟩

section
variable {P : Program} {ops : Array Oper} {Q : Exit → Act → World → Prop} {n : Nat} {e : Env} {I I' : World → Prop} {rest : List Oper}
variable {d t yt : Nat} {p : String} {af : Array Edge} {x y z : Operand} {v v1 v2 : Value} {w0 : World} {S : List Nat} {l l' : List (Nat × Obj)}

theorem J.eqA {ty : TypeId} {a b : Array Value} {la lb : Lit} (K : EqL P ty) (hx : ev e x = some (.agg a)) (hy : ev e y = some (.agg b)) (ha : keyOf P ty (.agg a) = some la) (hb : keyOf P ty (.agg b) = some lb) (hd : Nat.blt d n = true)
    (h : ∀ r : Bool, (r = true ↔ a = b) → J P ops Q n rest ((d, .bool r) :: e) I) : J P ops Q n (⟨some d, .binOp .eql ty x y yt, t, p, af, none⟩ :: rest) e I := by
  intro T w ht hw
  obtain ⟨r, h1, h2⟩ := K.eq w _ _ la lb ha hb
  refine (J.value (I := fun w' => w' = w) hd (fun T w' ht hw' => ?_) (h r (h2.trans (by simp)))) T w ht rfl
  subst hw'
  refine ⟨w', ?_, hw⟩
  simp only [execOp, ht.eval hx, ht.eval hy, Sem.run_bind, Sem.run_pure]
  rw [run_eqGuard_agg w' K.guard, Result.andThen_ok, binOp_eql_agg, h1]; rfl
theorem J.neA {ty : TypeId} {a b : Array Value} {la lb : Lit} (K : EqL P ty) (hx : ev e x = some (.agg a)) (hy : ev e y = some (.agg b)) (ha : keyOf P ty (.agg a) = some la) (hb : keyOf P ty (.agg b) = some lb) (hd : Nat.blt d n = true)
    (h : ∀ r : Bool, (r = true ↔ a = b) → J P ops Q n rest ((d, .bool (!r)) :: e) I) : J P ops Q n (⟨some d, .binOp .neq ty x y yt, t, p, af, none⟩ :: rest) e I := by
  intro T w ht hw
  obtain ⟨r, h1, h2⟩ := K.eq w _ _ la lb ha hb
  refine (J.value (I := fun w' => w' = w) hd (fun T w' ht hw' => ?_) (h r (h2.trans (by simp)))) T w ht rfl
  subst hw'
  refine ⟨w', ?_, hw⟩
  simp only [execOp, ht.eval hx, ht.eval hy, Sem.run_bind, Sem.run_pure]
  rw [run_eqGuard_agg w' K.guard, Result.andThen_ok, binOp_neq_agg, h1]; rfl

theorem setMany_all {cs vs : List Value} (h : vs.length = cs.length) : setMany cs 0 vs = vs := by
  rw [setMany_eq _ _ _ (by omega)]
  simp [h]
/-- a variable is written whole -/
theorem J.storeW {ty k b : Nat} {cs vs : List Value} {tb : TypeId} (hs : sizeT P ty = some k) (hx : ev e x = some (.pointer (some ⟨b, 0, none⟩))) (hy : ev e y = some v) (hv : v.cells = vs.toArray) (hk : vs.length = k) (hk' : cs.length = k) (h1 : ∀ v, v ∈ vs → v.oneCell' = true)
    (hu : Up l b (cb cs tb) (cb vs tb) l') (h : J P ops Q n rest e (St w0 S l')) : J P ops Q n (⟨none, .store ty x y, t, p, af, none⟩ :: rest) e (St w0 S l) :=
  J.storeO (cs := cs) hs hx hy hv hk h1 (by rw [setMany_all (by omega)]; exact hu) (by omega) h

/- maps -/
theorem J.makeMap {ty : TypeId} (hd : Nat.blt d n = true)
    (h : ∀ b, J P ops Q n rest ((d, .map (some b)) :: e) (St w0 S ((b, .map #[] 0) :: l))) : J P ops Q n (⟨some d, .makeMap ty none, t, p, af, none⟩ :: rest) e (St w0 S l) := by
  refine J.valueEx (V := fun b => .map (some b)) hd (fun T w ht hw => ⟨w.heap.size, w.alloc (.map #[] 0), ?_, ?_⟩) h
  · simp [execOp, Instr.makeMap, run_newObj]
  · exact hw.new (below_alloc' w _) (Nat.le_refl _) (alloc_at w _)
theorem J.lenM {ty kt et : TypeId} {ats : Array TypeId} {b clock k : Nat} {es : Array MapEntry} (ha : ats[0]? = some ty) (hu : P.underlying ty = some (.map kt et)) (hx : ev e x = some (.map (some b))) (hb : ∀ w, I w → w.heap[b]? = some (.map es clock)) (hk : es.size = k) (hd : Nat.blt d n = true)
    (h : J P ops Q n rest ((d, .int .i64 ((k : Nat) : Int)) :: e) I) : J P ops Q n (⟨some d, .call ⟨.builtin .len, #[x], ats⟩, t, p, af, none⟩ :: rest) e I := by
  subst hk
  exact J.value hd (fun T w ht hw => ⟨w, by simp [execOp, resolve, invoke, builtin, Builtin.len_, ht.eval hx, run_underlying' hu, ha, goInt, run_key (hb w hw)], hw⟩) h
theorem J.lookup2 {mt kt et : TypeId} {b clock : Nat} {es : Array MapEntry} {k zv : Value} {lk : Lit} (hm : P.underlying mt = some (.map kt et)) (K : WideMaps.KeyLaw P kt) (hz : zeroT P et = some zv) (hx : ev e x = some (.map (some b))) (hy : ev e y = some k)
    (hb : ∀ w, I w → w.heap[b]? = some (.map es clock)) (hk : keyOf P kt k = some lk) (hes : ∀ e, e ∈ es.toList → ∃ l, keyOf P kt e.key = some l) (hd : Nat.blt d n = true)
    (h : ∀ u ok, Look es.toList k zv u ok → J P ops Q n rest ((d, .tuple #[u, .bool ok]) :: e) I) : J P ops Q n (⟨some d, .lookup mt x y true, t, p, af, none⟩ :: rest) e I := by
  intro T w ht hw
  obtain ⟨u, ok, h1, h2⟩ := run_lookup hm K hz (hb w hw) hk hes
  refine (J.value (I := fun w' => w' = w) hd (fun T w' ht hw' => ?_) (h u ok h2)) T w ht rfl
  subst hw'
  exact ⟨w', by simp [execOp, ht.eval hx, ht.eval hy, h1], hw⟩
theorem J.lookup1 {mt kt et : TypeId} {b clock : Nat} {es : Array MapEntry} {k zv : Value} {lk : Lit} (hm : P.underlying mt = some (.map kt et)) (K : WideMaps.KeyLaw P kt) (hz : zeroT P et = some zv) (hx : ev e x = some (.map (some b))) (hy : ev e y = some k)
    (hb : ∀ w, I w → w.heap[b]? = some (.map es clock)) (hk : keyOf P kt k = some lk) (hes : ∀ e, e ∈ es.toList → ∃ l, keyOf P kt e.key = some l) (hd : Nat.blt d n = true)
    (h : ∀ u ok, Look es.toList k zv u ok → J P ops Q n rest ((d, u) :: e) I) : J P ops Q n (⟨some d, .lookup mt x y false, t, p, af, none⟩ :: rest) e I := by
  intro T w ht hw
  obtain ⟨u, ok, h1, h2⟩ := run_lookup1 hm K hz (hb w hw) hk hes
  refine (J.value (I := fun w' => w' = w) hd (fun T w' ht hw' => ?_) (h u ok h2)) T w ht rfl
  subst hw'
  exact ⟨w', by simp [execOp, ht.eval hx, ht.eval hy, h1], hw⟩
theorem J.updateNew {mt kt et : TypeId} {b clock : Nat} {es : Array MapEntry} {k u : Value} {lk : Lit} (hm : P.underlying mt = some (.map kt et)) (K : WideMaps.KeyLaw P kt) (hx : ev e x = some (.map (some b))) (hy : ev e y = some k) (hz : ev e z = some u)
    (hu : Up l b (.map es clock) (.map (es.push { key := k, val := u, born := clock }) (clock + 1)) l') (hk : keyOf P kt k = some lk) (hes : ∀ e, e ∈ es.toList → ∃ l, keyOf P kt e.key = some l) (hno : ∀ e, e ∈ es.toList → e.key ≠ k)
    (h : J P ops Q n rest e (St w0 S l')) : J P ops Q n (⟨none, .mapUpdate mt x y z, t, p, af, none⟩ :: rest) e (St w0 S l) := by
  refine J.skipN (fun T w ht hw => ?_) h
  have hb := hw.own _ hu.mem
  exact ⟨_, by simp [execOp, ht.eval hx, ht.eval hy, ht.eval hz, run_update_new hm K hb hk hes hno], hw.wrote hu (wrote_set hb)⟩

def isStructT (P : Program) (t : TypeId) : Bool := match P.underlying t with | some (.struct _) => true | _ => false
theorem isStructT.ex {P : Program} {t : TypeId} (h : isStructT P t = true) : ∃ fs, P.underlying t = some (.struct fs) := by
  unfold isStructT at h
  split at h
  · exact ⟨_, by assumption⟩
  · cases h
/- interfaces -/
theorem J.iface {ty : TypeId} (hu : isStructT P ty = true) (hx : ev e x = some v) (hd : Nat.blt d n = true)
    (h : J P ops Q n rest ((d, .iface ty v) :: e) I) : J P ops Q n (⟨some d, .makeInterface ty x, t, p, af, none⟩ :: rest) e I := by
  obtain ⟨fs, hu⟩ := isStructT.ex hu
  exact J.value hd (fun T w ht hw => ⟨w, by simp [execOp, Instr.makeInterface, run_underlying' hu, ht.eval hx], hw⟩) h
theorem J.assertT {xt ty : TypeId} (hu : isStructT P ty = true) (hx : ev e x = some (.iface ty v)) (hd : Nat.blt d n = true)
    (h : J P ops Q n rest ((d, .tuple #[v, .bool true]) :: e) I) : J P ops Q n (⟨some d, .typeAssert x xt ty true, t, p, af, none⟩ :: rest) e I := by
  obtain ⟨fs, hu⟩ := isStructT.ex hu
  exact J.value hd (fun T w ht hw => ⟨w, by simp [execOp, Instr.typeAssert, run_underlying' hu, ht.eval hx], hw⟩) h
theorem J.assertF {xt ty ty' : TypeId} {zv : Value} (hu : isStructT P ty = true) (hx : ev e x = some (.iface ty' v)) (hne : Nat.beq ty' ty = false) (hz : zeroT P ty = some zv) (hd : Nat.blt d n = true)
    (h : J P ops Q n rest ((d, .tuple #[zv, .bool false]) :: e) I) : J P ops Q n (⟨some d, .typeAssert x xt ty true, t, p, af, none⟩ :: rest) e I := by
  obtain ⟨fs, hu⟩ := isStructT.ex hu
  have hne' : ¬ ty' = ty := fun h => by subst h; simp at hne
  exact J.value hd (fun T w ht hw => ⟨w, by simp [execOp, Instr.typeAssert, run_underlying' hu, ht.eval hx, hne', run_zeroValue' hz], hw⟩) h
theorem J.assertN {xt ty : TypeId} {zv : Value} (hu : isStructT P ty = true) (hx : ev e x = some .nilIface) (hz : zeroT P ty = some zv) (hd : Nat.blt d n = true)
    (h : J P ops Q n rest ((d, .tuple #[zv, .bool false]) :: e) I) : J P ops Q n (⟨some d, .typeAssert x xt ty true, t, p, af, none⟩ :: rest) e I := by
  obtain ⟨fs, hu⟩ := isStructT.ex hu
  exact J.value hd (fun T w ht hw => ⟨w, by simp [execOp, Instr.typeAssert, run_underlying' hu, ht.eval hx, run_zeroValue' hz], hw⟩) h

/- function values -/
theorem J.callV {f : FuncId} {cs : Array Value} {xs : List Operand} {ats : Array TypeId} {vs : List Value} {R : Value → World → Prop} (hb : bodyT P f = true) (hy : ev e y = some (.func (.func f) #[] cs)) (hx : evs e xs = some vs) (hd : Nat.blt d n = true)
    (hc : ∀ w, I w → Calls P f (vs.toArray ++ cs) w fun r w' => ∃ v, r = .returned v ∧ R v w')
    (h : ∀ v, J P ops Q n rest ((d, v) :: e) (R v)) : J P ops Q n (⟨some d, .call ⟨.value y, xs.toArray, ats⟩, t, p, af, none⟩ :: rest) e I := by
  intro T w ht hw
  refine wpList_plain rfl fun K hK => ?_
  have hr : (execOp (act T).eval ⟨some d, .call ⟨.value y, xs.toArray, ats⟩, t, p, af, none⟩).run P w = .ok (.enter f (vs.toArray ++ cs)) w := by
    have := ht.evals hx
    simp [execOp, resolve, ht.eval hy, Deferred.ofValue, invoke, this, run_callFunc hb]
  simp only [Oper.wp, hr, Oper.upon]
  refine (hc w hw).mono fun r w' ⟨v, hv, hR⟩ => ?_
  subst hv
  exact hK _ _ (h v _ w' (ht.put hd v) hR)
/-- a call through a function value that changes nothing that was there -/
theorem J.callVB {f : FuncId} {cs : Array Value} {xs : List Operand} {ats : Array TypeId} {vs : List Value} (hstep : ∀ w w', I w → Bel w w' → I w') (hb : bodyT P f = true) (hy : ev e y = some (.func (.func f) #[] cs)) (hx : evs e xs = some vs) (hd : Nat.blt d n = true)
    (hc : ∀ w, I w → Calls P f (vs.toArray ++ cs) w fun r w' => r = .returned v ∧ Bel w w')
    (h : J P ops Q n rest ((d, v) :: e) I) : J P ops Q n (⟨some d, .call ⟨.value y, xs.toArray, ats⟩, t, p, af, none⟩ :: rest) e I := by
  refine J.callV (R := fun u w' => u = v ∧ I w') hb hy hx hd (fun w hw => (hc w hw).mono fun r w' ⟨h1, h2⟩ => ⟨v, h1, rfl, hstep w w' hw h2⟩) (fun u => J.pr fun hu => ?_)
  subst hu
  exact h
end

/- results that lie in a variable -/
theorem results_cell {fn : Func} {t : Tmp} {ty : TypeId} {tmps : Array Value} {a : Addr} {v : Value} {P : Program} {w : World} (h : fn.results = #[.cell t ty]) (ht : tmps.getD t undef = .pointer (some a)) (hl : (loadVar ty a).run P w = .ok v w) :
    (results fn tmps).run P w = .ok v w := by
  have ha : (asAddr (.pointer (some a))).run P w = .ok a w := by simp [asAddr]
  rw [Array.getD_eq_getD_getElem?] at ht
  simp only [results, h, Sem.run_bind]
  simp [ht, ha, hl]
theorem results_cell_tmp {fn : Func} {t u : Tmp} {ty : TypeId} {tmps : Array Value} {a : Addr} {v : Value} {P : Program} {w : World} (h : fn.results = #[.cell t ty, .tmp u]) (ht : tmps.getD t undef = .pointer (some a)) (hl : (loadVar ty a).run P w = .ok v w) :
    (results fn tmps).run P w = .ok (.tuple #[v, tmps.getD u undef]) w := by
  have ha : (asAddr (.pointer (some a))).run P w = .ok a w := by simp [asAddr]
  rw [Array.getD_eq_getD_getElem?] at ht
  simp only [results, h, Sem.run_bind]
  simp [ht, ha, hl]
theorem JX.retC {P : Program} {fn : Func} {R : Ending → World → Prop} {n : Nat} {e : Env} {I : World → Prop} {t ty k b o : Nat} {vs : List Value} (hr : fn.results = #[.cell t ty]) (hv : get e t = some (.pointer (some ⟨b, o, none⟩)))
    (ha : aggT P ty = some true) (hs : sizeT P ty = some k) (hl : vs.length = k) (hc : ∀ w, I w → Cells w b o vs) (h : ∀ w, I w → R (.returned (.agg vs.toArray)) w) :
    JX (bodyPost P fn R) n .ret e I := by
  intro T w ht hw
  refine ⟨rfl, .agg vs.toArray, ?_, h w hw⟩
  exact results_cell hr (by rw [Array.getD_eq_getD_getElem?, ht.2 t _ hv]; rfl) (run_loadVar_agg ha hs hl (hc w hw))
theorem JX.retCT {P : Program} {fn : Func} {R : Ending → World → Prop} {n : Nat} {e : Env} {I : World → Prop} {t u ty k b o : Nat} {vs : List Value} {v : Value} (hr : fn.results = #[.cell t ty, .tmp u]) (hv : get e t = some (.pointer (some ⟨b, o, none⟩))) (hv' : get e u = some v)
    (ha : aggT P ty = some true) (hs : sizeT P ty = some k) (hl : vs.length = k) (hc : ∀ w, I w → Cells w b o vs) (h : ∀ w, I w → R (.returned (.tuple #[.agg vs.toArray, v])) w) :
    JX (bodyPost P fn R) n .ret e I := by
  intro T w ht hw
  refine ⟨rfl, .tuple #[.agg vs.toArray, v], ?_, h w hw⟩
  have := results_cell_tmp (u := u) hr (by rw [Array.getD_eq_getD_getElem?, ht.2 t _ hv]; rfl) (run_loadVar_agg ha hs hl (hc w hw))
  rw [this, Array.getD_eq_getD_getElem?, ht.2 u v hv']; rfl
/- values that can be keys -/
theorem lits_int {P : Program} {t d : Nat} {q : IntKind} {n : Int} (hu : P.underlying t = some (.int q)) (hw : (Lit.int q n).wf = true) : P.keyLits (d + 1) t [.int q n] = some [.int q n] := by
  unfold Program.keyLits
  rw [hu]
  simp [hw]
theorem lits_u8 {P : Program} {t d : Nat} {b : UInt8} (hu : P.underlying t = some (.int .u8)) : P.keyLits (d + 1) t [u8 b] = some [.int .u8 (b.toNat : Int)] :=
  lits_int hu (by
    have := b.toNat_lt
    simp [Lit.wf, IntKind.min, IntKind.max, IntKind.signed, IntKind.bits]
    omega)
def fieldsK (P : Program) (t : TypeId) : Option (List (Nat × Nat)) := match P.underlying t with
  | some (.struct fs) => if fs.all (·.name != "_") then some (fs.toList.map fun f => (f.type, f.offset)) else none
  | _ => none
theorem mapM_map {α β γ : Type} (g : β → Option γ) (f : α → β) : ∀ l : List α, l.mapM (fun a => g (f a)) = (l.map f).mapM g
  | [] => rfl
  | a :: l => by simp [List.mapM_cons, mapM_map g f l]
theorem lits_struct {P : Program} {t d : Nat} {fs : List (Nat × Nat)} {cs : List Value} {ls : List (List Lit)} (h : fieldsK P t = some fs) (hl : cs.length = P.cellsOf t)
    (hm : fs.mapM (fun q => P.keyLits d q.1 ((cs.drop q.2).take (P.cellsOf q.1))) = some ls) : P.keyLits (d + 1) t cs = some ls.flatten := by
  unfold fieldsK at h
  split at h
  · rename_i gs hu
    split at h
    · rename_i ha
      simp only [Option.some.injEq] at h
      subst h
      unfold Program.keyLits
      rw [hu]
      simp only
      rw [if_pos ⟨hl, ha⟩, mapM_map (fun q : Nat × Nat => P.keyLits d q.1 ((cs.drop q.2).take (P.cellsOf q.1))) (fun f : Field => (f.type, f.offset)), hm]
      rfl
    · cases h
  · cases h
theorem lits_arr {P : Program} {t d n e : Nat} {cs : List Value} {ls : List (List Lit)} (hu : P.underlying t = some (.array n e)) (hl : cs.length = P.cellsOf t)
    (hm : (List.range n).mapM (fun i => P.keyLits d e ((cs.drop (i * P.cellsOf e)).take (P.cellsOf e))) = some ls) : P.keyLits (d + 1) t cs = some ls.flatten := by
  unfold Program.keyLits
  rw [hu]
  simp only
  rw [if_pos hl, hm]
  rfl
theorem key_of {P : Program} {t d : Nat} {cs : List Value} {ls : List Lit} (hd : P.types.size + 1 = d) (hk : P.keyType t = true) (hw : (match P.underlying t with | some (.array _ _) | some (.struct _) => true | _ => false) = true) (hl : cs.length = P.cellsOf t)
    (h : P.keyLits d t cs = some ls) : ∃ l, keyOf P t (.agg cs.toArray) = some l := by
  subst hd
  unfold keyOf
  split
  · rename_i hu
    rw [if_pos (by simp [hk, Value.formed, hu, hl])]
    exact ⟨_, by simp only [Value.cells]; rw [h]; rfl⟩
  · rename_i hu
    rw [if_pos (by simp [hk, Value.formed, hu, hl])]
    exact ⟨_, by simp only [Value.cells]; rw [h]; rfl⟩
  · split at hw <;> simp_all

/-- an identity, and its cells -/
abbrev IDV := _root_.Fin 16 → UInt8
abbrev cI (a : IDV) : List Value := [u8 (a 0), u8 (a 1), u8 (a 2), u8 (a 3), u8 (a 4), u8 (a 5), u8 (a 6), u8 (a 7), u8 (a 8), u8 (a 9), u8 (a 10), u8 (a 11), u8 (a 12), u8 (a 13), u8 (a 14), u8 (a 15)]
def lI (a : IDV) : List (List Lit) := [[.int .u8 ((a 0).toNat : Int)], [.int .u8 ((a 1).toNat : Int)], [.int .u8 ((a 2).toNat : Int)], [.int .u8 ((a 3).toNat : Int)], [.int .u8 ((a 4).toNat : Int)], [.int .u8 ((a 5).toNat : Int)], [.int .u8 ((a 6).toNat : Int)], [.int .u8 ((a 7).toNat : Int)], [.int .u8 ((a 8).toNat : Int)], [.int .u8 ((a 9).toNat : Int)], [.int .u8 ((a 10).toNat : Int)], [.int .u8 ((a 11).toNat : Int)], [.int .u8 ((a 12).toNat : Int)], [.int .u8 ((a 13).toNat : Int)], [.int .u8 ((a 14).toNat : Int)], [.int .u8 ((a 15).toNat : Int)]]
theorem lits_id {P : Program} {t e d : Nat} {a : IDV} (hu : P.underlying t = some (.array 16 e)) (he : P.underlying e = some (.int .u8)) (hc : P.cellsOf t = 16) (hc' : P.cellsOf e = 1) : P.keyLits (d + 2) t (cI a) = some (lI a).flatten := by
  refine lits_arr (d := d + 1) hu (by rw [hc]; rfl) ?_
  rw [hc', show List.range 16 = [0, 1, 2, 3, 4, 5, 6, 7, 8, 9, 10, 11, 12, 13, 14, 15] from rfl]
  simp only [List.mapM_cons, List.mapM_nil]
  simp only [Nat.mul_one, List.drop_succ_cons, List.drop_zero, List.take_succ_cons, List.take_zero, lits_u8 he]
  rfl
/-- a path's key, and an entry -/
structure PV where
  who : IDV
  n : Int
abbrev cP (p : PV) : List Value := cI p.who ++ [.int .i64 p.n]
structure EV where
  p : PV
  a : IDV
  b : IDV
  na : Int
  nb : Int
abbrev cE (x : EV) : List Value := cP x.p ++ cI x.a ++ cI x.b ++ [.int .i64 x.na, .int .i64 x.nb]
abbrev okN (n : Int) : Prop := (Lit.int .i64 n).wf = true
abbrev okE (x : EV) : Prop := okN x.p.n ∧ okN x.na ∧ okN x.nb
theorem u8_inj {a b : UInt8} : u8 a = u8 b ↔ a = b := by
  constructor
  · intro h
    have : (a.toNat : Int) = (b.toNat : Int) := by injection h
    exact UInt8.toNat_inj.1 (by omega)
  · intro h; rw [h]
instance : DecidableEq IDV := fun a b => decidable_of_iff (∀ i, a i = b i) ⟨funext, fun h i => by rw [h]⟩
deriving instance DecidableEq for PV, EV
theorem cI_eq {a b : IDV} : cI a = cI b ↔ a = b := by
  constructor
  · intro h
    simp only [cI, List.cons.injEq, u8_inj, and_true] at h
    obtain ⟨h0, h1, h2, h3, h4, h5, h6, h7, h8, h9, h10, h11, h12, h13, h14, h15⟩ := h
    funext i
    match i with
    | 0 => exact h0 | 1 => exact h1 | 2 => exact h2 | 3 => exact h3 | 4 => exact h4 | 5 => exact h5 | 6 => exact h6 | 7 => exact h7
    | 8 => exact h8 | 9 => exact h9 | 10 => exact h10 | 11 => exact h11 | 12 => exact h12 | 13 => exact h13 | 14 => exact h14 | 15 => exact h15
    | ⟨n + 16, h⟩ => omega
  · intro h; rw [h]
theorem app_iff {a b c d : List Value} (h : a.length = b.length) : a ++ c = b ++ d ↔ a = b ∧ c = d := ⟨fun e => List.append_inj e h, fun ⟨e1, e2⟩ => by rw [e1, e2]⟩
theorem cP_eq {p q : PV} : cP p = cP q ↔ p = q := by
  obtain ⟨a, n⟩ := p
  obtain ⟨b, m⟩ := q
  show cI a ++ [.int .i64 n] = cI b ++ [.int .i64 m] ↔ _
  rw [app_iff (by rfl), cI_eq]
  simp
theorem cE_eq {x y : EV} : cE x = cE y ↔ x = y := by
  obtain ⟨p, a, b, n, m⟩ := x
  obtain ⟨p', a', b', n', m'⟩ := y
  show cP p ++ cI a ++ cI b ++ [.int .i64 n, .int .i64 m] = cP p' ++ cI a' ++ cI b' ++ [.int .i64 n', .int .i64 m'] ↔ _
  rw [app_iff (by rfl), app_iff (by rfl), app_iff (by rfl), cP_eq, cI_eq, cI_eq]
  simp [and_assoc]
/-- what a table's map holds -/
structure Tab (L : List EV) (es : Array MapEntry) (clock : Nat) : Prop where
  st : MapKept.Stamped es clock
  is_ : es.toList.map (fun e => (e.key, e.val)) = L.map (fun x => (Value.agg (cP x.p).toArray, Value.agg (cE x).toArray))
  ok : ∀ x, x ∈ L → okE x
  dist : L.Pairwise (fun x y => x.p ≠ y.p)
theorem Tab.mem {L : List EV} {es : Array MapEntry} {clock : Nat} (h : Tab L es clock) {e : MapEntry} (he : e ∈ es.toList) : ∃ x, x ∈ L ∧ e.key = .agg (cP x.p).toArray ∧ e.val = .agg (cE x).toArray := by
  have : (e.key, e.val) ∈ L.map (fun x => (Value.agg (cP x.p).toArray, Value.agg (cE x).toArray)) := by rw [← h.is_]; exact List.mem_map.2 ⟨e, he, rfl⟩
  obtain ⟨x, hx, h2⟩ := List.mem_map.1 this
  simp only [Prod.mk.injEq] at h2
  exact ⟨x, hx, h2.1.symm, h2.2.symm⟩
theorem Tab.mem' {L : List EV} {es : Array MapEntry} {clock : Nat} (h : Tab L es clock) {x : EV} (hx : x ∈ L) : ∃ e, e ∈ es.toList ∧ e.key = .agg (cP x.p).toArray := by
  have : (Value.agg (cP x.p).toArray, Value.agg (cE x).toArray) ∈ es.toList.map (fun e => (e.key, e.val)) := by rw [h.is_]; exact List.mem_map.2 ⟨x, hx, rfl⟩
  obtain ⟨e, he, h2⟩ := List.mem_map.1 this
  simp only [Prod.mk.injEq] at h2
  exact ⟨e, he, h2.1⟩
theorem Tab.size {L : List EV} {es : Array MapEntry} {clock : Nat} (h : Tab L es clock) : es.size = L.length := by
  have := congrArg List.length h.is_
  simpa using this
theorem arr_inj {a b : List Value} : a.toArray = b.toArray ↔ a = b := by
  constructor
  · intro h; simpa using h
  · intro h; rw [h]
theorem agg_inj {a b : List Value} : Value.agg a.toArray = Value.agg b.toArray ↔ a = b := by
  simp
/-- the entry of a key -/
def tget (L : List EV) (p : PV) : Option EV := L.find? (fun x => decide (x.p = p))
theorem tget_some {L : List EV} (hd : L.Pairwise (fun x y => x.p ≠ y.p)) {x : EV} (hx : x ∈ L) : tget L x.p = some x := by
  induction L with
  | nil => cases hx
  | cons y L ih =>
    rw [List.pairwise_cons] at hd
    simp only [tget, List.find?_cons]
    cases hx with
    | head => simp
    | tail _ hx =>
      rw [decide_eq_false (hd.1 x hx)]
      exact ih hd.2 hx
theorem tget_none {L : List EV} {p : PV} : tget L p = none ↔ ∀ x, x ∈ L → x.p ≠ p := by
  simp [tget, List.find?_eq_none]
theorem Tab.look {L : List EV} {es : Array MapEntry} {clock : Nat} (h : Tab L es clock) {p : PV} {z v : Value} {ok : Bool} (hl : Look es.toList (.agg (cP p).toArray) z v ok) :
    (tget L p = none ∧ v = z ∧ ok = false) ∨ ∃ x, tget L p = some x ∧ x ∈ L ∧ x.p = p ∧ v = .agg (cE x).toArray ∧ ok = true := by
  generalize hk : Value.agg (cP p).toArray = k at hl
  cases hl with
  | no hno =>
    refine .inl ⟨tget_none.2 (fun x hx hp => ?_), rfl, rfl⟩
    obtain ⟨e, he, h1⟩ := h.mem' hx
    exact hno e he (by rw [h1, hp, hk])
  | yes j e h1 h2 =>
    obtain ⟨x, hx, h3, h4⟩ := h.mem (List.mem_of_getElem? h1)
    have hp : x.p = p := by
      have := h3.symm.trans (h2.trans hk.symm)
      exact cP_eq.1 (agg_inj.1 this)
    refine .inr ⟨x, ?_, hx, hp, h4, rfl⟩
    rw [← hp]
    exact tget_some h.dist hx
theorem Tab.fresh {L : List EV} {es : Array MapEntry} {clock : Nat} (h : Tab L es clock) {p : PV} (hn : tget L p = none) : ∀ e, e ∈ es.toList → e.key ≠ .agg (cP p).toArray := by
  intro e he hk
  obtain ⟨x, hx, h3, _⟩ := h.mem he
  exact tget_none.1 hn x hx (cP_eq.1 (agg_inj.1 (h3.symm.trans hk)))
theorem Tab.keys {P : Program} {kt : TypeId} {L : List EV} {es : Array MapEntry} {clock : Nat} (h : Tab L es clock) (kp : ∀ p : PV, okN p.n → ∃ l, keyOf P kt (.agg (cP p).toArray) = some l) : ∀ e, e ∈ es.toList → ∃ l, keyOf P kt e.key = some l := by
  intro e he
  obtain ⟨x, hx, h3, _⟩ := h.mem he
  rw [h3]
  exact kp _ (h.ok x hx).1
theorem Tab.nil : Tab [] #[] 0 := ⟨⟨by simp, by simp, by simp⟩, rfl, by simp, .nil⟩
theorem Tab.push {L : List EV} {es : Array MapEntry} {clock : Nat} (h : Tab L es clock) {x : EV} (hx : okE x) (hn : tget L x.p = none) : Tab (L ++ [x]) (es.push { key := .agg (cP x.p).toArray, val := .agg (cE x).toArray, born := clock }) (clock + 1) := by
  refine ⟨MapKept.stamped_push h.st (h.fresh hn), by simp [h.is_], fun y hy => ?_, ?_⟩
  · rcases List.mem_append.1 hy with hy | hy
    · exact h.ok y hy
    · simp at hy; subst hy; exact hx
  · rw [List.pairwise_append]
    refine ⟨h.dist, by simp, fun y hy z hz => ?_⟩
    simp at hz
    subst hz
    exact tget_none.1 hn y hy
section
variable {P : Program} {ops : Array Oper} {Q : Exit → Act → World → Prop} {n : Nat} {e : Env} {I I' : World → Prop} {rest : List Oper}
variable {d t yt : Nat} {p : String} {af : Array Edge} {x y z : Operand} {v v1 v2 : Value} {w0 : World} {S : List Nat} {l l' : List (Nat × Obj)}
theorem dec_of {r : Bool} {q : Prop} [Decidable q] (h : r = true ↔ q) : r = decide q := by
  rw [Bool.eq_iff_iff, h]; simp
theorem J.eqI {ty : TypeId} {a b : IDV} (K : EqL P ty) (k : ∀ a : IDV, ∃ l, keyOf P ty (.agg (cI a).toArray) = some l) (hx : ev e x = some (.agg (cI a).toArray)) (hy : ev e y = some (.agg (cI b).toArray)) (hd : Nat.blt d n = true)
    (h : J P ops Q n rest ((d, .bool (decide (a = b))) :: e) I) : J P ops Q n (⟨some d, .binOp .eql ty x y yt, t, p, af, none⟩ :: rest) e I := by
  obtain ⟨_, k1⟩ := k a
  obtain ⟨_, k2⟩ := k b
  refine J.eqA K hx hy k1 k2 hd fun r hr => ?_
  rw [arr_inj, cI_eq] at hr
  rw [dec_of hr]; exact h
theorem J.neI {ty : TypeId} {a b : IDV} (K : EqL P ty) (k : ∀ a : IDV, ∃ l, keyOf P ty (.agg (cI a).toArray) = some l) (hx : ev e x = some (.agg (cI a).toArray)) (hy : ev e y = some (.agg (cI b).toArray)) (hd : Nat.blt d n = true)
    (h : J P ops Q n rest ((d, .bool (!decide (a = b))) :: e) I) : J P ops Q n (⟨some d, .binOp .neq ty x y yt, t, p, af, none⟩ :: rest) e I := by
  obtain ⟨_, k1⟩ := k a
  obtain ⟨_, k2⟩ := k b
  refine J.neA K hx hy k1 k2 hd fun r hr => ?_
  rw [arr_inj, cI_eq] at hr
  rw [dec_of hr]; exact h
theorem J.eqP {ty : TypeId} {a b : PV} (K : EqL P ty) (k : ∀ p : PV, okN p.n → ∃ l, keyOf P ty (.agg (cP p).toArray) = some l) (hx : ev e x = some (.agg (cP a).toArray)) (hy : ev e y = some (.agg (cP b).toArray)) (ha : okN a.n) (hb : okN b.n) (hd : Nat.blt d n = true)
    (h : J P ops Q n rest ((d, .bool (decide (a = b))) :: e) I) : J P ops Q n (⟨some d, .binOp .eql ty x y yt, t, p, af, none⟩ :: rest) e I := by
  obtain ⟨_, k1⟩ := k a ha
  obtain ⟨_, k2⟩ := k b hb
  refine J.eqA K hx hy k1 k2 hd fun r hr => ?_
  rw [arr_inj, cP_eq] at hr
  rw [dec_of hr]; exact h
theorem J.eqE {ty : TypeId} {a b : EV} (K : EqL P ty) (k : ∀ p : EV, okE p → ∃ l, keyOf P ty (.agg (cE p).toArray) = some l) (hx : ev e x = some (.agg (cE a).toArray)) (hy : ev e y = some (.agg (cE b).toArray)) (ha : okE a) (hb : okE b) (hd : Nat.blt d n = true)
    (h : J P ops Q n rest ((d, .bool (decide (a = b))) :: e) I) : J P ops Q n (⟨some d, .binOp .eql ty x y yt, t, p, af, none⟩ :: rest) e I := by
  obtain ⟨_, k1⟩ := k a ha
  obtain ⟨_, k2⟩ := k b hb
  refine J.eqA K hx hy k1 k2 hd fun r hr => ?_
  rw [arr_inj, cE_eq] at hr
  rw [dec_of hr]; exact h
theorem J.neE {ty : TypeId} {a b : EV} (K : EqL P ty) (k : ∀ p : EV, okE p → ∃ l, keyOf P ty (.agg (cE p).toArray) = some l) (hx : ev e x = some (.agg (cE a).toArray)) (hy : ev e y = some (.agg (cE b).toArray)) (ha : okE a) (hb : okE b) (hd : Nat.blt d n = true)
    (h : J P ops Q n rest ((d, .bool (!decide (a = b))) :: e) I) : J P ops Q n (⟨some d, .binOp .neq ty x y yt, t, p, af, none⟩ :: rest) e I := by
  obtain ⟨_, k1⟩ := k a ha
  obtain ⟨_, k2⟩ := k b hb
  refine J.neA K hx hy k1 k2 hd fun r hr => ?_
  rw [arr_inj, cE_eq] at hr
  rw [dec_of hr]; exact h
def zI : IDV := fun _ => 0
def zP : PV := ⟨zI, 0⟩
def zE : EV := ⟨zP, zI, zI, 0, 0⟩
theorem J.lookupT {mt kt et : TypeId} {b clock : Nat} {es : Array MapEntry} {L : List EV} {k : PV} {xe : EV} {ok : Bool} (hm : P.underlying mt = some (.map kt et)) (K : WideMaps.KeyLaw P kt) (kp : ∀ p : PV, okN p.n → ∃ l, keyOf P kt (.agg (cP p).toArray) = some l) (hz : zeroT P et = some (.agg (cE zE).toArray))
    (hx : ev e x = some (.map (some b))) (hy : ev e y = some (.agg (cP k).toArray)) (hT : Tab L es clock) (hk : okN k.n) (h1 : (tget L k).getD zE = xe) (h2 : (tget L k).isSome = ok) (hb : ∀ w, I w → w.heap[b]? = some (.map es clock)) (hd : Nat.blt d n = true)
    (h : J P ops Q n rest ((d, .tuple #[.agg (cE xe).toArray, .bool ok]) :: e) I) : J P ops Q n (⟨some d, .lookup mt x y true, t, p, af, none⟩ :: rest) e I := by
  subst h1 h2
  obtain ⟨_, k1⟩ := kp k hk
  refine J.lookup2 hm K hz hx hy hb k1 (hT.keys kp) hd fun u ok hl => ?_
  rcases hT.look hl with ⟨h1, rfl, rfl⟩ | ⟨y, h1, _, _, rfl, rfl⟩
  · rw [h1] at h; exact h
  · rw [h1] at h; exact h
theorem J.lookupT1 {mt kt et : TypeId} {b clock : Nat} {es : Array MapEntry} {L : List EV} {k : PV} {xe : EV} {ok : Bool} (hm : P.underlying mt = some (.map kt et)) (K : WideMaps.KeyLaw P kt) (kp : ∀ p : PV, okN p.n → ∃ l, keyOf P kt (.agg (cP p).toArray) = some l) (hz : zeroT P et = some (.agg (cE zE).toArray))
    (hx : ev e x = some (.map (some b))) (hy : ev e y = some (.agg (cP k).toArray)) (hT : Tab L es clock) (hk : okN k.n) (h1 : (tget L k).getD zE = xe) (hb : ∀ w, I w → w.heap[b]? = some (.map es clock)) (hd : Nat.blt d n = true)
    (h : J P ops Q n rest ((d, .agg (cE xe).toArray) :: e) I) : J P ops Q n (⟨some d, .lookup mt x y false, t, p, af, none⟩ :: rest) e I := by
  subst h1
  obtain ⟨_, k1⟩ := kp k hk
  refine J.lookup1 hm K hz hx hy hb k1 (hT.keys kp) hd fun u ok hl => ?_
  rcases hT.look hl with ⟨h1, rfl, rfl⟩ | ⟨y, h1, _, _, rfl, rfl⟩
  · rw [h1] at h; exact h
  · rw [h1] at h; exact h
end
end Go.J
