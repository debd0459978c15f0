/-
  The calculus: ranging over a map; a range over an iterator function, and its rounds. Proved over any program.
-/
import Derived.Test.YtohldionclgljaaGreatMb
import Derived.RangeFuncRecord
import Derived.TacticsIn
import Derived.Maps.RangeRun
namespace Go.J
open Go.RowKit
open Go.ChangeMaps (setBlock)
set_option linter.unusedVariables false
set_option linter.unusedSimpArgs false

/- ranging over a map -/
/-- where an iterator over a map stands: the stamps of the entries that came -/
def IterAt (b : Nat) (es : Array MapEntry) (clock : Nat) (sn : List Nat) (o : Obj) : Prop :=
  ∃ since c0, o = .mapIter (some b) since sn.toArray c0 ∧ since ≤ c0 ∧ since ≤ clock ∧ ∀ x, x ∈ es.toList → x.born < since
/-- it has just handed out an entry -/
def IterOn (b : Nat) (es : Array MapEntry) (clock : Nat) (sn : List Nat) (en : MapEntry) (o : Obj) : Prop :=
  ∃ since, o = .mapIter (some b) since (sn.toArray.push en.born) clock ∧ since ≤ clock ∧ ∀ x, x ∈ es.toList → x.born < since
theorem IterOn.at {b : Nat} {es : Array MapEntry} {clock : Nat} {sn : List Nat} {en : MapEntry} {o : Obj} (h : IterOn b es clock sn en o) : IterAt b es clock (sn ++ [en.born]) o := by
  obtain ⟨since, h1, h2, h3⟩ := h
  exact ⟨since, clock, by rw [h1]; simp, h2, h2, h3⟩
def nextA : Option MapEntry → Array Value
  | none => #[.bool false]
  | some e => #[.bool true, e.key, e.val]
theorem nextA_0 (eo : Option MapEntry) : (nextA eo)[0]? = some (.bool eo.isSome) := by cases eo <;> rfl
theorem nextA_1 (en : MapEntry) : (nextA (some en))[1]? = some en.key := rfl
/-- what a step of it does -/
def NextTo (b : Nat) (es : Array MapEntry) (clock : Nat) (sn : List Nat) (o : Obj) : Option MapEntry → Obj → Prop
  | none, o' => o' = o ∧ ∀ x, x ∈ es.toList → x.born ∈ sn
  | some en, o' => en ∈ es.toList ∧ en.born ∉ sn ∧ IterOn b es clock sn en o'

section
variable {P : Program} {ops : Array Oper} {Q : Exit → Act → World → Prop} {n : Nat} {e : Env} {I I' : World → Prop} {rest : List Oper}
variable {d t : Nat} {p : String} {af : Array Edge} {x y z : Operand} {v v1 v2 : Value} {w0 : World} {S : List Nat} {l l' : List (Nat × Obj)}

theorem J.range {ty kt et b clock : Nat} {es : Array MapEntry} (hu : P.underlying ty = some (.map kt et)) (hx : ev e x = some (.map (some b))) (hb : ∀ w, St w0 S l w → w.heap[b]? = some (.map es clock))
    (hst : ∀ x, x ∈ es.toList → x.born < clock) (hd : Nat.blt d n = true)
    (h : ∀ r o, IterAt b es clock [] o → J P ops Q n rest ((d, .pointer (some ⟨r, 0, none⟩)) :: e) (St w0 S ((r, o) :: l))) :
    J P ops Q n (⟨some d, .range ty x, t, p, af, none⟩ :: rest) e (St w0 S l) := by
  refine J.valueEx (V := fun r => .pointer (some ⟨r, 0, none⟩)) (I' := fun r => St w0 S ((r, .mapIter (some b) clock #[] clock) :: l)) hd (fun T w ht hw => ⟨w.heap.size, w.alloc (.mapIter (some b) clock #[] clock), ?_, ?_⟩) (fun r => h r _ ⟨clock, clock, rfl, Nat.le_refl _, Nat.le_refl _, hst⟩)
  · simp [execOp, ht.eval hx, run_range_map w ty kt et b es clock hu (hb w hw)]
  · exact hw.new (below_alloc' w _) (Nat.le_refl _) (alloc_at w _)

theorem J.next {b r clock : Nat} {es : Array MapEntry} {sn : List Nat} {o : Obj} {l' : Obj → List (Nat × Obj)} (hx : ev e x = some (.pointer (some ⟨r, 0, none⟩))) (hu : ∀ o', Up l r o o' (l' o')) (hI : IterAt b es clock sn o)
    (hb : ∀ w, St w0 S l w → w.heap[b]? = some (.map es clock)) (hd : Nat.blt d n = true)
    (h : ∀ eo o', NextTo b es clock sn o eo o' → J P ops Q n rest ((d, .tuple (nextA eo)) :: e) (St w0 S (l' o'))) :
    J P ops Q n (⟨some d, .next x false, t, p, af, none⟩ :: rest) e (St w0 S l) := by
  refine J.valueEx (α := Option MapEntry × Obj) (V := fun q => .tuple (nextA q.1)) (I' := fun q w => NextTo b es clock sn o q.1 q.2 ∧ St w0 S (l' q.2) w) hd (fun T w ht hw => ?_) (fun q => J.pr fun hq => h q.1 q.2 hq)
  obtain ⟨since, c0, rfl, h1, h2, h3⟩ := hI
  have hr := hw.own _ (hu (.mapIter (some b) since sn.toArray c0)).mem
  rcases run_next_at (P := P) w t r b since c0 sn.toArray es clock hr (hb w hw) h3 h1 with ⟨h0, hrun⟩ | ⟨en, he, w1, hal, hrun⟩
  · refine ⟨(none, _), w, ?_, ⟨rfl, fun x hx => ?_⟩, hw.set (hu _) rfl rfl rfl (Nat.le_refl _) rfl hr (fun _ _ _ => rfl)⟩
    · simp [execOp, ht.eval hx, hrun, nextA]
    · have := all_seen es sn.toArray h0 x hx
      simpa using this
  · obtain ⟨hem, hes⟩ := mem_left he
    have hw1 : St w0 S l w1 := by
      rcases hal with rfl | rfl
      · exact hw
      · exact hw.step ((Bel.refl w).drew)
    have hr1 := hw1.own _ (hu (.mapIter (some b) since sn.toArray c0)).mem
    refine ⟨(some en, .mapIter (some b) since (sn.toArray.push en.born) clock), setBlock w1 r (.mapIter (some b) since (sn.toArray.push en.born) clock), ?_, ⟨hem, by simpa using hes, since, rfl, h2, h3⟩, hw1.wrote (hu _) (wrote_set hr1)⟩
    simp [execOp, ht.eval hx, hrun, nextA]
theorem J.entry {b r clock : Nat} {es : Array MapEntry} {sn : List Nat} {en : MapEntry} {o : Obj} (hx : ev e x = some (.pointer (some ⟨r, 0, none⟩))) (hm : (r, o) ∈ l) (hI : IterOn b es clock sn en o) (he : en ∈ es.toList) (hn : (es.toList.map (·.born)).Nodup)
    (hb : ∀ w, St w0 S l w → w.heap[b]? = some (.map es clock)) (hd : Nat.blt d n = true)
    (h : J P ops Q n rest ((d, .tuple #[en.key, en.val]) :: e) (St w0 S l)) :
    J P ops Q n (⟨some d, .entry x, t, p, af, none⟩ :: rest) e (St w0 S l) := by
  obtain ⟨since, rfl, h1, h2⟩ := hI
  refine J.value hd (fun T w ht hw => ⟨w, ?_, hw⟩) h
  have hrun := run_entry_at (P := P) w r b since sn.toArray es clock en (hw.own _ hm) (hb w hw) he hn
  simp [execOp, ht.eval hx, hrun]

end
theorem J.neP {P : Program} {ops : Array Oper} {Q : Exit → Act → World → Prop} {n : Nat} {e : Env} {I : World → Prop} {rest : List Oper} {d t yt : Nat} {p : String} {af : Array Edge} {x y : Operand} {ty : TypeId} {a b : PV} (K : EqL P ty) (k : ∀ p : PV, okN p.n → ∃ l, keyOf P ty (.agg (cP p).toArray) = some l) (hx : ev e x = some (.agg (cP a).toArray)) (hy : ev e y = some (.agg (cP b).toArray)) (ha : okN a.n) (hb : okN b.n) (hd : Nat.blt d n = true)
    (h : J P ops Q n rest ((d, .bool (!decide (a = b))) :: e) I) : J P ops Q n (⟨some d, .binOp .neq ty x y yt, t, p, af, none⟩ :: rest) e I := by
  obtain ⟨_, k1⟩ := k a ha
  obtain ⟨_, k2⟩ := k b hb
  refine J.neA K hx hy k1 k2 hd fun r hr => ?_
  rw [arr_inj, cP_eq] at hr
  rw [dec_of hr]; exact h
theorem results_cell_tmp2 {fn : Func} {t u s : Tmp} {ty : TypeId} {tmps : Array Value} {a : Addr} {v : Value} {P : Program} {w : World} (h : fn.results = #[.cell t ty, .tmp u, .tmp s]) (ht : tmps.getD t undef = .pointer (some a)) (hl : (loadVar ty a).run P w = .ok v w) :
    (results fn tmps).run P w = .ok (.tuple #[v, tmps.getD u undef, tmps.getD s undef]) w := by
  have ha : (asAddr (.pointer (some a))).run P w = .ok a w := by simp [asAddr]
  rw [Array.getD_eq_getD_getElem?] at ht
  simp only [results, h, Sem.run_bind]
  simp [ht, ha, hl]
theorem JX.retC3 {P : Program} {fn : Func} {R : Ending → World → Prop} {n : Nat} {e : Env} {I : World → Prop} {t u s ty k b o : Nat} {vs : List Value} {v v' : Value} (hr : fn.results = #[.cell t ty, .tmp u, .tmp s]) (hv : get e t = some (.pointer (some ⟨b, o, none⟩))) (hv' : get e u = some v) (hv'' : get e s = some v')
    (ha : aggT P ty = some true) (hs : sizeT P ty = some k) (hl : vs.length = k) (hc : ∀ w, I w → Cells w b o vs) (h : ∀ w, I w → R (.returned (.tuple #[.agg vs.toArray, v, v'])) w) :
    JX (bodyPost P fn R) n .ret e I := by
  intro T w ht hw
  refine ⟨rfl, .tuple #[.agg vs.toArray, v, v'], ?_, h w hw⟩
  have := results_cell_tmp2 (u := u) (s := s) hr (by rw [Array.getD_eq_getD_getElem?, ht.2 t _ hv]; rfl) (run_loadVar_agg ha hs hl (hc w hw))
  rw [this, Array.getD_eq_getD_getElem?, Array.getD_eq_getD_getElem?, ht.2 u v hv', ht.2 s v' hv'']; rfl
/- taking an entry out of a map -/
theorem run_delete {P : Program} {w : World} {mt kt kt' et ty : TypeId} {b clock : Nat} {es : Array MapEntry} {k : Value} {lk : Lit} (hm : P.underlying mt = some (.map kt et)) (K : WideMaps.KeyLaw P kt)
    (hb : w.heap[b]? = some (.map es clock)) (hk : keyOf P kt k = some lk) (hes : ∀ e, e ∈ es.toList → ∃ l, keyOf P kt e.key = some l) :
    ∃ es', (Builtin.delete_ #[mt, kt'] ty #[.map (some b), k]).run P w = .ok (.tuple #[]) { w with heap := w.heap.setIfInBounds b (.map es' clock) } ∧
      ((es' = es ∧ ∀ e, e ∈ es.toList → e.key ≠ k) ∨ ∃ j e0, es.toList[j]? = some e0 ∧ e0.key = k ∧ es' = es.eraseIdxIfInBounds j ∧ es'.toList = es.toList.eraseIdx j) := by
  rcases K.find w hk es.toList hes with ⟨h1, h2⟩ | ⟨j, e0, h1, h2, h3⟩
  · refine ⟨es, ?_, .inl ⟨rfl, h2⟩⟩
    simp [Builtin.delete_, run_underlying' hm, run_key hb, K.check w _ hk, h1, run_keyset _ hb]
  · have hjl : j < es.toList.length := (List.getElem?_eq_some_iff.1 h2).1
    have hjs : j < es.size := by simpa using hjl
    have hsub : (es.eraseIdxIfInBounds j).toList = es.toList.eraseIdx j := by
      unfold Array.eraseIdxIfInBounds
      rw [dif_pos hjs]
      simp
    refine ⟨es.eraseIdxIfInBounds j, ?_, .inr ⟨j, e0, h2, h3, rfl, hsub⟩⟩
    simp [Builtin.delete_, run_underlying' hm, run_key hb, K.check w _ hk, h1, run_keyset _ hb]
theorem erase_filter : ∀ {L : List EV} {j : Nat} {x : EV}, L.Pairwise (fun x y => x.p ≠ y.p) → L[j]? = some x → L.eraseIdx j = L.filter (fun y => decide (y.p ≠ x.p))
  | [], j, x, _, h => by simp at h
  | a :: L, 0, x, hd, h => by
    simp only [List.getElem?_cons_zero, Option.some.injEq] at h
    subst h
    have hd' := List.pairwise_cons.1 hd
    rw [List.eraseIdx_cons_zero, List.filter_cons_of_neg (by simp)]
    exact (List.filter_eq_self.2 fun y hy => by
      have := hd'.1 y hy
      simp only [ne_eq, decide_not, Bool.not_eq_true', decide_eq_false_iff_not]
      exact fun e => this e.symm).symm
  | a :: L, j + 1, x, hd, h => by
    have hd' := List.pairwise_cons.1 hd
    simp only [List.getElem?_cons_succ] at h
    rw [List.eraseIdx_cons_succ, erase_filter hd'.2 h, List.filter_cons_of_pos]
    have := hd'.1 x (List.mem_of_getElem? h)
    simpa using this
theorem Tab.del {L : List EV} {es es' : Array MapEntry} {clock : Nat} {p : PV} (h : Tab L es clock)
    (hd : (es' = es ∧ ∀ e, e ∈ es.toList → e.key ≠ .agg (cP p).toArray) ∨ ∃ j e0, es.toList[j]? = some e0 ∧ e0.key = .agg (cP p).toArray ∧ es' = es.eraseIdxIfInBounds j ∧ es'.toList = es.toList.eraseIdx j) :
    Tab (L.filter (fun y => decide (y.p ≠ p))) es' clock := by
  rcases hd with ⟨rfl, hno⟩ | ⟨j, e0, h1, h2, rfl, h3⟩
  · have : L.filter (fun y => decide (y.p ≠ p)) = L := List.filter_eq_self.2 fun y hy => by
      obtain ⟨e, he, hk⟩ := h.mem' hy
      have := hno e he
      rw [hk] at this
      simp only [ne_eq, decide_not, Bool.not_eq_true', decide_eq_false_iff_not]
      exact fun e => this (by rw [e])
    rw [this]
    exact h
  · have hlen := congrArg List.length h.is_
    simp only [List.length_map] at hlen
    have hj := (List.getElem?_eq_some_iff.1 h1).1
    obtain ⟨x, hx⟩ : ∃ x, L[j]? = some x := ⟨L[j]'(by omega), List.getElem?_eq_getElem (by omega)⟩
    have hi := congrArg (fun l => l[j]?) h.is_
    simp only [List.getElem?_map, h1, hx, Option.map_some, Option.some.injEq, Prod.mk.injEq] at hi
    have hp : x.p = p := cP_eq.1 (agg_inj.1 (hi.1.symm.trans h2))
    rw [← hp, ← erase_filter h.dist hx]
    refine ⟨MapKept.stamped_erase h.st j, ?_, fun y hy => h.ok y ((List.eraseIdx_sublist _ _).subset hy), h.dist.sublist (List.eraseIdx_sublist _ _)⟩
    rw [h3, Go.ChangeMaps.map_eraseIdx, Go.ChangeMaps.map_eraseIdx, h.is_]
theorem J.deleteT {P : Program} {ops : Array Oper} {Q : Exit → Act → World → Prop} {n : Nat} {e : Env} {rest : List Oper} {t : Nat} {p : String} {af : Array Edge} {x y : Operand} {w0 : World} {S : List Nat} {l : List (Nat × Obj)}
    {mt kt kt' et : TypeId} {b clock : Nat} {es : Array MapEntry} {L : List EV} {k : PV} {l' : Array MapEntry → List (Nat × Obj)} (hm : P.underlying mt = some (.map kt et)) (K : WideMaps.KeyLaw P kt) (kp : ∀ p : PV, okN p.n → ∃ l, keyOf P kt (.agg (cP p).toArray) = some l)
    (hx : ev e x = some (.map (some b))) (hy : ev e y = some (.agg (cP k).toArray)) (hT : Tab L es clock) (hk : okN k.n) (hu : ∀ es', Up l b (.map es clock) (.map es' clock) (l' es'))
    (h : ∀ es', Tab (L.filter (fun y => decide (y.p ≠ k))) es' clock → J P ops Q n rest e (St w0 S (l' es'))) : J P ops Q n (⟨none, .call ⟨.builtin .delete, #[x, y], #[mt, kt']⟩, t, p, af, none⟩ :: rest) e (St w0 S l) := by
  obtain ⟨lk, hlk⟩ := kp k hk
  obtain ⟨kv, hkv⟩ : ∃ kv, kv = Value.agg (cP k).toArray := ⟨_, rfl⟩
  rw [← hkv] at hy hlk
  refine J.valueN (I' := fun w => ∃ es', Tab (L.filter (fun y => decide (y.p ≠ k))) es' clock ∧ St w0 S (l' es') w) (fun T w ht hw => ?_) (J.ex fun es' => J.pr fun hT' => h es' hT')
  have hb := hw.own _ (hu es).mem
  obtain ⟨es', hrun, hcase⟩ := run_delete (kt' := kt') (ty := t) hm K hb hlk (hT.keys kp)
  rw [hkv] at hcase
  exact ⟨.tuple #[], _, by simp [execOp, resolve, invoke, builtin, ht.eval hx, ht.eval hy, hrun], es', hT.del hcase, hw.wrote (hu es') (wrote_set hb)⟩

section
variable {P : Program} {ops : Array Oper} {Q : Exit → Act → World → Prop} {n : Nat} {e : Env} {I I' : World → Prop} {rest : List Oper}
variable {d t : Nat} {p : String} {af : Array Edge} {x y z : Operand} {v v1 v2 : Value} {w0 : World} {S : List Nat} {l l' : List (Nat × Obj)}
/- operations in a round's frame; yield -/
/-- a call of yield: its run, and the round -/
def YieldTo (F : Fence) (m : Nat) (P : Program) (l : Nat) (args : Array Value) (W : World) (R : Ending → World → Prop) : Prop :=
  ∃ fn tmps assign body, (Instr.yield l args).run P W = .ok (.round l fn tmps assign body) W ∧ RoundIn F m P l fn tmps assign body W R
abbrev FW (r : Option Nat) : Fence := { fn := fun _ => True, depth := none, alive := false, round := r }
theorem calls_fw {r : Option Nat} {m : Nat} {f : FuncId} {args : Array Value} {w : World} {R : Ending → World → Prop} : CallsIn (FW r) m P f args w R ↔ Calls P f args w R :=
  (callsIn_wide (n := m) (P := P) (f := f) (args := args) (w := w) (R := R))
theorem rows_fw {r : Option Nat} {m : Nat} {row : String} {args : Array Value} {w : World} {R : Value → World → Prop} (h : Rows P row args w R) : RowsIn (FW r) m P row args w R :=
  fun c cs _ => let ⟨v, w', r, s⟩ := h c cs; ⟨v, w', r, stepsIn_wide.2 s⟩
def noDefB (o : Oper) : Bool := match o.op with
  | .defer _ => false
  | _ => true
theorem noDefB.ne {o : Oper} (h : noDefB o = true) : ∀ c, o.op ≠ .defer c := by
  intro c hc
  unfold noDefB at h
  rw [hc] at h
  cases h
theorem uponIn_of {r : Option Nat} {m : Nat} {o : Oper} {a : Act} {next next' : Act → World → Prop} {Q Q' : Exit → Act → World → Prop} {res : Result Next} (hn : ∀ a w, next a w → next' a w) (hQ : ∀ x a w, Q x a w → x = .normal)
    (h : o.upon P a next Q res) : o.uponIn (FW r) m P a next' Q' res := by
  match res, h with
  | .ok (.value v) w', h => exact hn _ _ h
  | .ok .skip w', h => exact hn _ _ h
  | .ok (.defer d) w', h => exact hn _ _ h
  | .ok (.enter f args) w', h =>
    refine ⟨(fun h => by cases h), calls_fw.2 (Calls.mono h fun r w'' hr => ?_)⟩
    match r, hr with
    | .returned v, hr => exact hn _ _ hr
    | .panicked c, hr => cases hQ _ _ _ hr
    | .outgrown, hr => obtain ⟨_, _, hr⟩ := hr; cases hQ _ _ _ hr
  | .ok (.row row args) w', h => exact ⟨(fun h => by cases h), rows_fw (Rows.mono h fun v w'' hr => hn _ _ hr)⟩
  | .halt (.panic v) w', h => cases hQ _ _ _ h
theorem wpListIn_of {r : Option Nat} {Q Q' : Exit → Act → World → Prop} (hQ : ∀ x a w, Q x a w → x = .normal) (hk : ∀ a w, Q .normal a w → wpListIn (FW r) 0 P ops Q' rest a w) :
    ∀ {os : List Oper}, os.all noDefB = true → ∀ a w, wpList P ops Q os a w → wpListIn (FW r) 0 P ops Q' (os ++ rest) a w
  | [], _, a, w, h => hk a w h
  | o :: os, hnd, a, w, h => by
    simp only [List.all_cons, Bool.and_eq_true] at hnd
    have ih := wpListIn_of hQ hk hnd.2
    simp only [wpList] at h
    show (if Region.wanted o (yielded ops a.tmps) then o.wpIn (FW r) 0 P a w (wpListIn (FW r) 0 P ops Q' (os ++ rest)) Q' else (∀ f, o.about P w a.eval = some f → (FW r).fn f) ∧ wpListIn (FW r) 0 P ops Q' (os ++ rest) (a.put o.dst undef) w)
    split
    · rename_i hw
      rw [if_pos hw] at h
      rcases h with h | ⟨_, _, _, h⟩
      · refine ⟨fun _ _ => trivial, ?_⟩
        rw [Oper.semAt_eq _ _ _ (noDefB.ne hnd.1)]
        exact uponIn_of ih hQ h
      · cases hQ _ _ _ h
    · rename_i hw
      rw [if_neg hw] at h
      exact ⟨fun _ _ => trivial, ih _ _ h⟩
def QX {α : Type} (n : Nat) (E : α → Env) (I' : α → World → Prop) : Exit → Act → World → Prop := fun x a w => x = .normal ∧ ∃ z, a.defers = [] ∧ Rep n a.tmps (E z) ∧ I' z w
theorem QX.normal {α : Type} {n : Nat} {E : α → Env} {I' : α → World → Prop} : ∀ x a w, QX n E I' x a w → x = .normal := fun _ _ _ h => h.1
def JI (P : Program) (r : Option Nat) (ops : Array Oper) (Q : Exit → Act → World → Prop) (n : Nat) (rest : List Oper) (e : Env) (I : World → Prop) : Prop := ∀ T w, Rep n T e → I w → wpListIn (FW r) 0 P ops Q rest (act T) w
theorem JI.steps {α : Type} {r : Option Nat} {os : List Oper} (E : α → Env) (I' : α → World → Prop) (hnd : os.all noDefB = true) (h1 : J P ops (QX n E I') n os e I) (h2 : ∀ z, JI P r ops Q n rest (E z) (I' z)) : JI P r ops Q n (os ++ rest) e I := by
  intro T w ht hw
  refine wpListIn_of QX.normal (fun a w h => ?_) hnd (act T) w (h1 T w ht hw)
  obtain ⟨_, z, hd, hr, hi⟩ := h
  obtain ⟨t1, d1⟩ := a
  simp only at hd hr
  subst hd
  exact h2 z t1 w hr hi
theorem JI.nil {r : Option Nat} (h : JX Q n .normal e I) : JI P r ops Q n [] e I := fun T w ht hw => h T w ht hw
theorem JX.qx {α : Type} {E : α → Env} {I' : α → World → Prop} (z : α) (hc : Cov e (E z)) (hi : ∀ w, I w → I' z w) : JX (QX n E I') n .normal e I := fun T w ht hw => ⟨rfl, z, rfl, ht.cov hc, hi w hw⟩
theorem JC.regionI {id : Nat} {l : List Oper} (h : JI P none l.toArray Q n l e I) : JC P Q n (.region id l.toArray false) e I :=
  fun T w ht hw => (wpIn_wide (n := 0)).1 (wpIn_region_lit (h T w ht hw))
/-- a call of yield -/
theorem JI.yield {lb : Nat} {xs : List Operand} {ats : Array TypeId} {vs : List Value} {R : Value → World → Prop} (hy : ev e y = some (.func (.yield lb) #[] #[])) (hx : evs e xs = some vs) (hd : Nat.blt d n = true)
    (hc : ∀ w, I w → YieldTo (FW none) 0 P lb vs.toArray w fun r w' => ∃ v, r = .returned v ∧ R v w')
    (h : ∀ v, JI P none ops Q n rest ((d, v) :: e) (R v)) : JI P none ops Q n (⟨some d, .call ⟨.value y, xs.toArray, ats⟩, t, p, af, none⟩ :: rest) e I := by
  intro T w ht hw
  obtain ⟨fn, tmps, assign, body, hyr, hR⟩ := hc w hw
  have hr : (execOp (act T).eval ⟨some d, .call ⟨.value y, xs.toArray, ats⟩, t, p, af, none⟩).run P w = .ok (.round lb fn tmps assign body) w := by
    have := ht.evals hx
    simp [execOp, resolve, ht.eval hy, Deferred.ofValue, invoke, this, hyr]
  show (if Region.wanted _ (yielded ops T) then Oper.wpIn (FW none) 0 P _ (act T) w (wpListIn (FW none) 0 P ops Q rest) Q else _)
  rw [if_pos (by simp [Region.wanted])]
  refine ⟨fun _ _ => trivial, ?_⟩
  rw [Oper.semAt_eq _ _ _ (fun c hc => by cases hc), hr]
  refine ⟨(fun h => by cases h), hR.mono fun r w' ⟨v, hv, hRv⟩ => ?_⟩
  subst hv
  exact h v _ w' (ht.put hd v) hRv
end

/- one round out of its two regions -/
theorem wp_assign_of {α : Type} {P : Program} {r : Option Nat} {n id : Nat} {la : List Oper} {e : Env} {I : World → Prop} {E : α → Env} {I' : α → World → Prop} {Q : Exit → Act → World → Prop} (hnd : la.all noDefB = true) (h1 : J P la.toArray (QX n E I') n la e I)
    {T : Array Value} {w : World} (ht : Rep n T e) (hw : I w) (hk : ∀ z T w, Rep n T (E z) → I' z w → Q .normal (act T) w) : (Code.region id la.toArray false).wpIn (FW r) 0 P Q (act T) w := by
  have h := wpListIn_of (P := P) (ops := la.toArray) (rest := []) (r := r) (Q' := Q) QX.normal (fun a w h => by
    obtain ⟨_, z, hd, hr, hi⟩ := h
    obtain ⟨t1, d1⟩ := a
    simp only at hd hr
    subst hd
    exact hk z t1 w hr hi) hnd (act T) w (h1 T w ht hw)
  rw [List.append_nil] at h
  exact wpIn_region_lit h
theorem roundIn_of_J {α β : Type} {P : Program} {l f n ida idb idc : Nat} {la lb : List Oper} {e : Env} {I : World → Prop} (E1 : α → Env) (I1 I2 : α → World → Prop) (I3 : β → World → Prop) {R : Ending → World → Prop}
    (na : la.all noDefB = true) (nb : lb.all noDefB = true) (h1 : J P la.toArray (QX n E1 I1) n la e I)
    (hb : ∀ z w, I1 z w → ∃ rec, w.heap[l]? = some (.loop rec) ∧ rec.state = .ready ∧ I2 z (w.putObj l (.loop { rec with state := .busy })))
    (h2 : ∀ z, J P lb.toArray (QX n (fun _ : β => []) I3) n lb (E1 z) (I2 z))
    (h3 : ∀ z w, I3 z w → ∃ rec, w.heap[l]? = some (.loop rec) ∧ R (.returned (.bool true)) (w.putObj l (.loop { rec with state := .ready, pending := none })))
    {T : Array Value} {w : World} (ht : Rep n T e) (hw : I w) : RoundIn (FW none) 0 P l f T (.region ida la.toArray false) (.block idb (.region idc lb.toArray false)) w R := by
  refine roundIn_of_wpIn (F := FW none) trivial ?_
  refine wp_assign_of (r := some l) na h1 ht hw fun z T w ht hw => ?_
  obtain ⟨rec, hr1, hr2, hi2⟩ := hb z w hw
  refine ⟨_, run_beginRound hr1 hr2, ?_⟩
  refine wpIn_block (F := FW (some l)) ?_
  refine wp_assign_of (r := some l) nb (h2 z) ht hi2 fun z T w ht hw => ?_
  obtain ⟨rec, hr1, hR⟩ := h3 z w hw
  exact ⟨_, _, run_endRound none hr1, hR⟩

/- the statement; what stands behind it -/
theorem JC.seqRaw {P : Program} {Q : Exit → Act → World → Prop} {n : Nat} {e : Env} {I : World → Prop} {x y : Code} (h : JC P (Exit.then (fun a w => y.wp P Q a w) Q) n x e I) : JC P Q n (.seq x y) e I := fun T w ht hw => wp_seq (h T w ht hw)
def markOf (D : Nat) : List Deferred := [{ target := .collected D, args := #[] }]
theorem JC.rangeF {P : Program} {Q : Exit → Act → World → Prop} {n : Nat} {e : Env} {I : World → Prop} {g : Operand} {f : FuncId} {cs : Array Value} {ps : Array Tmp} {assign body : Code} (hg : ev e g = some (.func (.func f) #[] cs)) (hb : bodyT P f = true)
    (h : ∀ fn T w, Rep n T e → I w → Calls P f (#[.func (.yield (w.heap.size + 1)) #[] #[]] ++ cs) ((w.alloc (.deferred (some []))).alloc (.loop { state := .ready, pending := none, fn, tmps := T, params := ps, assign, body, defers := w.heap.size }))
      (fun r w3 => ∃ v rec, r = .returned v ∧ w3.heap[w.heap.size + 1]? = some (.loop rec) ∧ rec.state = .ready ∧ rec.pending = none ∧ Q .normal ⟨T, markOf w.heap.size⟩ (w3.putObj (w.heap.size + 1) (.loop { rec with state := .exhausted })))) :
    JC P Q n (.rangeFunc g ps assign body) e I := by
  intro T w ht hw
  refine (wpIn_wide (n := 0)).1 (wpIn_rangeFunc (F := Fence.wide) (n := 0) fun fn _ => ?_)
  have hent := run_enterLoop_outer (P := P) (w := w) fn T ps assign body
  have hcall := h fn T w ht hw
  generalize (w.alloc (.deferred (some []))).alloc (.loop { state := .ready, pending := none, fn, tmps := T, params := ps, assign, body, defers := w.heap.size }) = W1 at hent hcall
  refine ⟨w.heap.size + 1, markOf w.heap.size, W1, { target := .fn (.func f) cs, args := #[.func (.yield (w.heap.size + 1)) #[] #[]] }, W1, f, #[.func (.yield (w.heap.size + 1)) #[] #[]] ++ cs, W1, hent, ?_, fun _ _ => trivial, ?_, (fun h => by cases h), ?_⟩
  · have he := ht.eval hg
    have hc : (act T).eval (.const (.func (.yield (w.heap.size + 1)) #[] #[])) = .func (.yield (w.heap.size + 1)) #[] #[] := rfl
    simp [rangeCall, resolve, he, hc, Deferred.ofValue]
  · simp [invoke, run_callFunc hb]
  · refine callsIn_wide.2 (hcall.mono ?_)
    rintro r w3 ⟨v, rec, rfl, hr, hs, hp, hq⟩
    refine ⟨none, _, ?_, hq⟩
    have := run_endLoop (P := P) hr (by rw [hs]; intro h; cases h)
    refine this.trans ?_
    rw [hp]
/-- the same, told by known blocks; the loop's record by its fields -/
structure RecIs (rec : Loop) (fn : FuncId) (T : Array Value) (ps : Array Tmp) (assign body : Code) (D : Nat) : Prop where
  state : rec.state = .ready
  pending : rec.pending = none
  fn : rec.fn = fn
  tmps : rec.tmps = T
  params : rec.params = ps
  assign : rec.assign = assign
  body : rec.body = body
theorem JC.rangeFS {P : Program} {Q : Exit → Act → World → Prop} {n : Nat} {e : Env} {w0 : World} {S : List Nat} {l : List (Nat × Obj)} {g : Operand} {f : FuncId} {cs : Array Value} {ps : Array Tmp} {assign body : Code} (hg : ev e g = some (.func (.func f) #[] cs)) (hb : bodyT P f = true)
    (h : ∀ fn T lb D rec W1, Rep n T e → RecIs rec fn T ps assign body D → St w0 S ((lb, .loop rec) :: (D, .deferred (some [])) :: l) W1 → Calls P f (#[.func (.yield lb) #[] #[]] ++ cs) W1
      (fun r w3 => ∃ v, r = .returned v ∧ w3.heap[lb]? = some (.loop rec) ∧ Q .normal ⟨T, markOf D⟩ (w3.putObj lb (.loop { rec with state := .exhausted })))) :
    JC P Q n (.rangeFunc g ps assign body) e (St w0 S l) := by
  refine JC.rangeF hg hb fun fn T w ht hw => ?_
  have h1 : St w0 S ((w.heap.size, .deferred (some [])) :: l) (w.alloc (.deferred (some []))) := hw.new (below_alloc' w _) (Nat.le_refl _) (alloc_at w _)
  have h2 := h1.new (o := .loop { state := .ready, pending := none, fn := fn, tmps := T, params := ps, assign := assign, body := body, defers := w.heap.size }) (below_alloc' (w.alloc (.deferred (some []))) _) (Nat.le_refl _) (alloc_at _ _)
  rw [show (w.alloc (.deferred (some []))).heap.size = w.heap.size + 1 by simp] at h2
  refine (h fn T (w.heap.size + 1) w.heap.size _ _ ht ⟨rfl, rfl, rfl, rfl, rfl, rfl, rfl⟩ h2).mono ?_
  rintro r w3 ⟨v, rfl, hr, hq⟩
  exact ⟨v, _, rfl, hr, rfl, rfl, hq⟩
theorem wrote_put {w : World} {b : Nat} {o o' : Obj} (hb : w.heap[b]? = some o) : Wrote w (w.putObj b o') b o' := wrote_set hb
theorem zip1 (t : Tmp) (v : Value) (T : Array Value) : ((#[t] : Array Tmp).zip #[v]).foldl (fun tmps (t, a) => tmps.setIfInBounds t a) T = T.setIfInBounds t v := by simp
theorem round1 {F : Fence} {m : Nat} {P : Program} {l f : Nat} {t : Tmp} {v : Value} {T : Array Value} {assign body : Code} {w : World} {R : Ending → World → Prop} (h : RoundIn F m P l f (T.setIfInBounds t v) assign body w R) :
    RoundIn F m P l f (((#[t] : Array Tmp).zip #[v]).foldl (fun tmps (t, a) => tmps.setIfInBounds t a) T) assign body w R := by
  rw [zip1]; exact h
def Act.more (a : Act) (ds : List Deferred) : Act := ⟨a.tmps, a.defers ++ ds⟩
theorem upon_more {P : Program} {o : Oper} {a : Act} {ds : List Deferred} {next next' : Act → World → Prop} {Q Q' : Exit → Act → World → Prop} {res : Result Next} (hn : ∀ a w, next a w → next' (Act.more a ds) w) (hQ : ∀ x a w, Q x a w → x = .normal)
    (h : o.upon P a next Q res) : o.upon P (Act.more a ds) next' Q' res := by
  have put : ∀ (dst : Option Tmp) (v : Value), (Act.more a ds).put dst v = Act.more (a.put dst v) ds := fun dst v => by cases dst <;> rfl
  match res, h with
  | .ok (.value v) w', h => show next' _ _; rw [put]; exact hn _ _ h
  | .ok .skip w', h => show next' _ _; rw [put]; exact hn _ _ h
  | .ok (.defer d) w', h =>
    show next' _ _
    have : (({ (Act.more a ds) with defers := d :: (Act.more a ds).defers } : Act).put o.dst undef) = Act.more (({ a with defers := d :: a.defers } : Act).put o.dst undef) ds := by cases o.dst <;> rfl
    rw [this]; exact hn _ _ h
  | .ok (.enter f args) w', h =>
    refine Calls.mono h fun r w'' hr => ?_
    match r, hr with
    | .returned v, hr => show next' _ _; rw [put]; exact hn _ _ hr
    | .panicked c, hr => cases hQ _ _ _ hr
    | .outgrown, hr => obtain ⟨_, _, hr⟩ := hr; cases hQ _ _ _ hr
  | .ok (.row row args) w', h => exact Rows.mono h fun v w'' hr => by show next' _ _; rw [put]; exact hn _ _ hr
  | .halt (.panic v) w', h => cases hQ _ _ _ h
theorem wpList_more {P : Program} {ops : Array Oper} {ds : List Deferred} {Q Q' : Exit → Act → World → Prop} (hQ : ∀ x a w, Q x a w → x = .normal) (hk : ∀ a w, Q .normal a w → Q' .normal (Act.more a ds) w) :
    ∀ {os : List Oper} (a : Act) (w : World), wpList P ops Q os a w → wpList P ops Q' os (Act.more a ds) w
  | [], a, w, h => hk a w h
  | o :: os, a, w, h => by
    have ih := wpList_more (P := P) (ops := ops) hQ hk (os := os)
    simp only [wpList] at h ⊢
    show (if Region.wanted o (yielded ops a.tmps) then o.wp P (Act.more a ds) w (wpList P ops Q' os) Q' ∨ _ else _)
    split
    · rename_i hw
      rw [if_pos hw] at h
      rcases h with h | ⟨_, _, _, h⟩
      · exact .inl (upon_more ih hQ h)
      · cases hQ _ _ _ h
    · rename_i hw
      rw [if_neg hw] at h
      have : (Act.more a ds).put o.dst undef = Act.more (a.put o.dst undef) ds := by cases o.dst <;> rfl
      rw [this]
      exact ih _ _ h
/-- a region behind the statement: a mark waits among the deferred calls -/
theorem wp_region_more {α : Type} {P : Program} {n id : Nat} {la : List Oper} {e : Env} {I : World → Prop} {E : α → Env} {I' : α → World → Prop} {ds : List Deferred} {Q : Exit → Act → World → Prop} (h1 : J P la.toArray (QX n E I') n la e I)
    {T : Array Value} {w : World} (ht : Rep n T e) (hw : I w) (hk : ∀ z T w, Rep n T (E z) → I' z w → Q .normal ⟨T, ds⟩ w) : (Code.region id la.toArray false).wp P Q ⟨T, ds⟩ w := by
  refine wp_region_lit ?_
  have := wpList_more (ds := ds) (Q' := Q) QX.normal (fun a w h => by
    obtain ⟨_, z, hd, hr, hi⟩ := h
    obtain ⟨t1, d1⟩ := a
    simp only at hd hr
    subst hd
    exact hk z t1 w hr hi) (act T) w (h1 T w ht hw)
  exact this
theorem calls_of_JM {P : Program} {f : FuncId} {fn : Func} {c : Code} {args : List Value} {w0 w : World} {S : List Nat} {l : List (Nat × Obj)} {R : Ending → World → Prop} {e : Env}
    (hf : P.funcs[f]? = some fn) (hb : fn.body = some c) (hn : Nat.ble args.length fn.ntmps = true) (he : Cov ((List.range args.length).zip args) e) (hst : St w0 S l w)
    (h : JC P (bodyPostM Fence.wide 0 P fn R) fn.ntmps c e (St w0 S l)) : Calls P f args.toArray w R := by
  refine callsIn_wide.1 (callsIn_of_wp_marks (F := Fence.wide) (n := 0) hf hb trivial ((wpIn_wide (n := 0)).2 ?_))
  have hn' : args.length ≤ fn.ntmps := Nat.le_of_ble_eq_true hn
  refine h _ w (Rep.cov ⟨by simp; omega, fun t v hv => ?_⟩ he) hst
  have key : ∀ (l : List Value) (k : Nat), get ((List.range' k l.length).zip l) t = some v → k ≤ t ∧ l[t - k]? = some v := by
    intro l
    induction l with
    | nil => intro k h; simp [J.get] at h
    | cons u l ih =>
      intro k h
      simp only [List.length_cons, List.range'_succ, List.zip_cons_cons, J.get] at h
      cases hk : Nat.beq k t with
      | true =>
        rw [hk] at h
        have : k = t := by simpa using hk
        subst this
        simpa using h
      | false =>
        rw [hk] at h
        obtain ⟨h1, h2⟩ := ih (k + 1) h
        refine ⟨by omega, ?_⟩
        rw [show t - k = (t - (k + 1)) + 1 by omega]
        simpa using h2
  rw [List.range_eq_range'] at hv
  obtain ⟨_, h2⟩ := key args 0 hv
  simp only [Nat.sub_zero] at h2
  have hlt : t < args.length := (List.getElem?_eq_some_iff.1 h2).1
  rw [Array.getElem?_append_left (by simpa using hlt)]
  simpa using h2
end Go.J
