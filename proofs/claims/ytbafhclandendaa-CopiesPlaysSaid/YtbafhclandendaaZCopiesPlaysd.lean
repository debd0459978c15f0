/-
  CopiesPlays: texts that its proof needs, part 4.
-/
import Derived.Test.YtbafhclandendaaZCopiesPlaysc
/-
  Two items that are one; items cut; ops that come in: contracts.
-/
namespace Go.Proofs.Ytbafhclandendaa
open Go.J Go.RowKit
set_option linter.unusedVariables false
set_option linter.unusedSimpArgs false
set_option maxRecDepth 8000
theorem fIX_take (xs : List IX) (n : Nat) : fIX (xs.take n) = (fIX xs).take (n * 34) := by
  induction xs generalizing n with
  | nil => simp
  | cons x xs ih =>
    cases n with
    | zero => simp
    | succ n =>
      rw [List.take_succ_cons, show fIX (x :: xs.take n) = cIX x ++ fIX (xs.take n) from rfl, ih, show fIX (x :: xs) = cIX x ++ fIX xs from rfl, show (n + 1) * 34 = (cIX x).length + n * 34 by rw [show (cIX x).length = 34 from rfl]; omega, List.take_length_add_append]
theorem row_cutX {w : World} {v : Value} {xs : List IX} (h : Row w v xs.length (fIX xs)) (most : Nat) : Row w (cutV v (min xs.length most)) (xs.take most).length (fIX (xs.take most)) := by
  obtain ⟨a, c, rfl, hc, h⟩ := _root_.id h
  have e : (xs.take most).length = min xs.length most := by rw [List.length_take]; omega
  have hfl : (fIX xs).length = xs.length * 34 := fG_length (c := cIX) (sz := 34) (fun _ => rfl) xs
  rw [e, fIX_take]
  refine ⟨_, _, rfl, Nat.le_refl _, ?_⟩
  by_cases hm : min xs.length most = 0
  · left
    rcases Nat.eq_zero_or_pos most with h0 | h0
    · rw [h0]; simp
    · have : xs = [] := List.eq_nil_of_length_eq_zero (by omega)
      rw [this]; simp
  · rcases h with h | ⟨b, o, rfl, hcl⟩
    · left; rw [h, List.take_nil]
    · right
      refine ⟨b, o, by rw [if_neg hm]; simp [Addr.add], ?_⟩
      intro j hj
      rw [List.length_take] at hj
      rw [List.getElem?_take_of_lt (by omega)]
      exact hcl j (by omega)
/-- an op that comes in -/
structure OpX where
  k : Int
  a : IDV
  b : IDV
  ver : WV
  ids : Sl IDV
  its : Sl IX
abbrev cOX (o : OpX) : List Value := Value.int .i64 o.k :: (cI o.a ++ cI o.b ++ cV o.ver ++ [o.ids.v, o.its.v])
abbrev fOX (xs : List OpX) : List Value := xs.flatMap cOX
structure OpOk (W : World) (o : OpX) : Prop where
  ver : okN o.ver.n
  ids : Row W o.ids.v o.ids.xs.length (fI o.ids.xs)
  its : Row W o.its.v o.its.xs.length (fIX o.its.xs)
  rows : ∀ x, x ∈ o.its.xs → Row W x.v x.it.val.length (x.it.val.map u8)
  okx : ∀ x, x ∈ o.its.xs → okN x.it.ver.n
  len : ∀ x, x ∈ o.its.xs → x.it.val.length ≤ 140737488355328
theorem zOp_ : zeroT Try.prog 49 = some (.agg (cOX ⟨0, zI, zI, zV, ⟨none, 0, []⟩, ⟨none, 0, []⟩⟩).toArray) := by kernel_rfl
theorem zRB : zeroT Try.prog 44 = some (.agg [Value.slice none 0 0].toArray) := by kernel_rfl
theorem one_cOX (o : OpX) : ∀ v, v ∈ cOX o → v.oneCell' = true := by
  intro v hv
  rcases List.mem_cons.1 hv with rfl | hv
  · rfl
  · rcases List.mem_append.1 hv with hv | hv
    · rcases List.mem_append.1 hv with hv | hv
      · rcases List.mem_append.1 hv with hv | hv
        · exact one_cI _ v hv
        · exact one_cI _ v hv
      · exact one_cV _ v hv
    · rcases List.mem_cons.1 hv with rfl | hv
      · rfl
      · rw [List.mem_singleton.1 hv]; rfl
theorem Sh.at {ds : List DX} {l : List (IDV × IX)} (h : Sh ds l) {k : Nat} {d : DX} {p : IDV × IX} (hd : ds[k]? = some d) (hp : l[k]? = some p) : d.to = p.1 ∧ d.it = p.2.it := by
  have h1 := congrArg (fun x => x[k]?) h
  simp only [List.getElem?_map, hd, hp, Option.map_some, Option.some.injEq, Prod.mk.injEq] at h1
  exact h1
theorem due_mem {F : BF} {self : IDV} {fs : List IDV} {xs : List IX} {p : IDV × IX} (h : p ∈ dueL F self fs xs) : p.2 ∈ xs := by
  obtain ⟨x, hx, h2⟩ := List.mem_flatMap.1 h
  unfold dueOne dueOf at h2
  obtain ⟨id, _, rfl⟩ := List.mem_map.1 h2
  exact hx
theorem dueF_at {w : World} {b o c i q r : Nat} {ds : List DX} {d : DX} {vs : List Value} (h : Row w (.slice (some ⟨b, o, none⟩) ds.length c) ds.length (fDX ds)) (hx : ds[i]? = some d) (hv : ((cDX d).drop r).take vs.length = vs) (hq : q = o + i * 50 + r) : Cells w b q vs := by
  have h1 := rowG_at (c := cDX) (sz := 50) (fun _ => rfl) h hx (q := o + i * 50) rfl
  intro j hj
  have h2 : (((cDX d).drop r).take vs.length)[j]? = vs[j]? := by rw [hv]
  rw [List.getElem?_take_of_lt hj, List.getElem?_drop] at h2
  have hlt : r + j < (cDX d).length := by
    rcases Nat.lt_or_ge (r + j) (cDX d).length with h | h
    · exact h
    · rw [List.getElem?_eq_none h, List.getElem?_eq_getElem hj] at h2
      cases h2
  have h3 := h1 (r + j) hlt
  rw [hq, show o + i * 50 + r + j = o + i * 50 + (r + j) by omega, h3, h2]
theorem rdueF_at {w : World} {b o c i q r : Nat} {l : List (IDV × IX)} {p : IDV × IX} {vs : List Value} (h : Row w (.slice (some ⟨b, o, none⟩) l.length c) l.length (fRD l)) (hx : l[i]? = some p) (hv : ((cRD p).drop r).take vs.length = vs) (hq : q = o + i * 50 + r) : Cells w b q vs := by
  have h1 := rowG_at (c := cRD) (sz := 50) (fun _ => rfl) h hx (q := o + i * 50) rfl
  intro j hj
  have h2 : (((cRD p).drop r).take vs.length)[j]? = vs[j]? := by rw [hv]
  rw [List.getElem?_take_of_lt hj, List.getElem?_drop] at h2
  have hlt : r + j < (cRD p).length := by
    rcases Nat.lt_or_ge (r + j) (cRD p).length with h | h
    · exact h
    · rw [List.getElem?_eq_none h, List.getElem?_eq_getElem hj] at h2
      cases h2
  have h3 := h1 (r + j) hlt
  rw [hq, show o + i * 50 + r + j = o + i * 50 + (r + j) by omega, h3, h2]
theorem lps_mem {ds : List DX} {d : DX} (h : d ∈ ds) : ∀ q, q ∈ d.lp → q ∈ lpsD ds := fun q hq => List.mem_flatMap.2 ⟨d, h, hq⟩
theorem lps_drop {ds : List DX} {k : Nat} {d : DX} (h : ds[k]? = some d) : lpsD (ds.drop k) = d.lp ++ lpsD (ds.drop (k + 1)) := by
  have hk := (List.getElem?_eq_some_iff.1 h).1
  rw [List.drop_eq_getElem_cons hk]
  have : ds[k] = d := (List.getElem?_eq_some_iff.1 h).2
  rw [this]
  rfl
theorem mark_len {R : List NV} {id key : IDV} {x : WV} : (markR R id key x).length ≤ R.length + 1 := by
  unfold markR
  rw [List.length_append]
  have := List.length_filter_le (keepN id key) R
  simp only [List.length_singleton]
  omega
theorem mark_ok {R : List NV} {id key : IDV} {x : WV} (h : ∀ n, n ∈ R → okN n.ver.n) (hx : okN x.n) : ∀ n, n ∈ markR R id key x → okN n.ver.n := by
  intro n hn
  rcases List.mem_append.1 hn with hn | hn
  · exact h n (List.mem_filter.1 hn).1
  · rw [List.mem_singleton.1 hn]; exact hx

theorem cutX_spec (v : Value) (xs : List IX) (most : Nat) (w : World) (hr : Row w v xs.length (fIX xs)) :
    Calls Try.prog 25 [v, .int .i64 ((most : Nat) : Int)].toArray w fun r w' => r = .returned (cutV v (min xs.length most)) ∧ Bel w w' := by
  obtain ⟨a, c, rfl, hc, _⟩ := _root_.id hr
  refine calls_of_J (args := [.slice a xs.length c, .int .i64 ((most : Nat) : Int)]) (e := [(0, .slice a xs.length c), (1, .int .i64 ((most : Nat) : Int))]) Try.func25 rfl rfl ⟨rfl, rfl, trivial⟩ (St.start w) ?_
  refine JC.seq (fun K0 hK0 => ?_)
  refine JC.region ?_
  refine J.assign rfl rfl ?_
  refine J.nil ?_
  refine JX.thenN (hK0 _ _ ?_)
  refine JC.seq (fun K1 hK1 => ?_)
  refine JC.region ?_
  refine J.move rfl rfl ?_
  refine J.move rfl rfl ?_
  refine J.lenS rfl Ty.u47 rfl rfl ?_
  refine J.move rfl rfl ?_
  refine J.min2 rfl rfl rfl ?_
  refine J.name 9 rfl (show _ = Value.int .i64 ((min xs.length most : Nat) : Int) by congr 1; omega) ?_
  refine J.move rfl rfl ?_
  refine J.lenS rfl Ty.u47 rfl rfl ?_
  refine J.move rfl rfl ?_
  refine J.min2 rfl rfl rfl ?_
  refine J.name 13 rfl (show _ = Value.int .i64 ((min xs.length most : Nat) : Int) by congr 1; omega) ?_
  refine J.sliceM Ty.el47 Ty.s53 rfl rfl rfl (by omega) rfl ?_
  refine J.assign rfl rfl ?_
  refine J.nil ?_
  refine JX.thenN (hK1 _ _ ?_)
  refine JC.ret ?_
  refine JX.ret1 rfl rfl (fun w hw => ?_)
  exact ⟨rfl, hw.below⟩

set_option maxHeartbeats 1000000 in
theorem same18_spec (it : ItV) (hok : okN it.ver.n) (a1 a2 : Option Addr) (c1 c2 q1 q2 : Nat) (w : World) (hb1 : w.heap[q1]? = some (cb (cIX (⟨it, a1, c1⟩ : IX)) 53)) (hb2 : w.heap[q2]? = some (cb (cIX (⟨it, a2, c2⟩ : IX)) 53)) (hx1 : Row w (.slice a1 it.val.length c1) it.val.length (it.val.map u8)) (hx2 : Row w (.slice a2 it.val.length c2) it.val.length (it.val.map u8)) :
    Calls Try.prog 32 [.slice (some ⟨q1, 0, none⟩) 1 1, .slice (some ⟨q2, 0, none⟩) 1 1].toArray w fun r w' => r = .returned (.bool true) ∧ Bel w w' := by
  refine calls_of_J (args := [.slice (some ⟨q1, 0, none⟩) 1 1, .slice (some ⟨q2, 0, none⟩) 1 1]) (e := [(0, .slice (some ⟨q1, 0, none⟩) 1 1), (1, .slice (some ⟨q2, 0, none⟩) 1 1)]) Try.func32 rfl rfl ⟨rfl, rfl, trivial⟩ (St.start w) ?_
  refine JC.seq (fun K0 hK0 => ?_)
  refine JC.region ?_
  refine J.assign rfl rfl ?_
  refine J.nil ?_
  refine JX.thenN (hK0 _ _ ?_)
  refine JC.seq (fun K1 hK1 => ?_)
  refine JC.seq (fun K2 hK2 => ?_)
  refine JC.region ?_
  refine J.move rfl rfl ?_
  refine J.lenS rfl Ty.u47 rfl rfl ?_
  refine J.move rfl rfl ?_
  refine J.lenS rfl Ty.u47 rfl rfl ?_
  refine J.bin rfl rfl rfl rfl ?_
  refine J.name 10 rfl (show _ = Value.bool false by rfl) ?_
  refine J.nil ?_
  refine JX.thenN (hK2 _ _ ?_)
  first | refine JC.condF rfl ?_ | refine JC.cond rfl (fun h => by first | (exfalso; simp at h; omega) | (simp at h)) (fun _ => ?_)
  refine JC.skip ?_
  refine JX.thenN (hK1 _ _ ?_)
  refine JC.seq (fun K3 hK3 => ?_)
  refine JC.seq (fun K4 hK4 => ?_)
  refine JC.region ?_
  refine J.assign rfl rfl ?_
  refine J.nil ?_
  refine JX.thenN (hK4 _ _ ?_)
  refine JC.block ?_
  refine JC.conseq (JC.cov (f := (fun i => [(0, .slice (some ⟨q1, 0, none⟩) 1 1), (1, .slice (some ⟨q2, 0, none⟩) 1 1), (5, .int .i64 ((i : Nat) : Int))]) 0) ⟨rfl, rfl, rfl, trivial⟩ (JC.loop (α := Nat) (fun i => [(0, .slice (some ⟨q1, 0, none⟩) 1 1), (1, .slice (some ⟨q2, 0, none⟩) 1 1), (5, .int .i64 ((i : Nat) : Int))]) (fun i w' => (i ≤ 1) ∧ St w [] [] w') (fun i => 1 - i) 0 (fun i => ?_))) (fun w hw => ⟨Nat.zero_le _, hw⟩)
  refine JC.pr (fun hi => ?_)
  refine JC.seq (fun K5 hK5 => ?_)
  refine JC.seq (fun K6 hK6 => ?_)
  refine JC.region ?_
  refine J.move rfl rfl ?_
  refine J.move rfl rfl ?_
  refine J.lenS rfl Ty.u47 rfl rfl ?_
  refine J.bin rfl rfl rfl rfl ?_
  refine J.nil ?_
  refine JX.thenN (hK6 _ _ ?_)
  refine JC.cond rfl (fun h1 => ?_) (fun h1 => ?_)
  · skip
    obtain rfl : i = 0 := by simp at h1; omega
    refine JC.skip ?_
    refine JX.thenN (hK5 _ _ ?_)
    refine JC.seq (fun K7 hK7 => ?_)
    refine JC.block ?_
    refine JC.seq (fun K8 hK8 => ?_)
    apply JC.drawL 39 [Eqv (.slice (some ⟨q1, 0, none⟩) 1 1), Eqv (.int .i64 ((0 : Nat) : Int)), Eqv (.pointer (some ⟨q1, 0 + ((0 : Nat) : Int).toNat * 34, none⟩)), Eqv (.pointer (some ⟨q1, 0 + ((0 : Nat) : Int).toNat * 34 + 0, none⟩)), Eqv (.agg (cI it.key).toArray), Eqv (.slice (some ⟨q2, 0, none⟩) 1 1), Eqv (.int .i64 ((0 : Nat) : Int)), Eqv (.pointer (some ⟨q2, 0 + ((0 : Nat) : Int).toNat * 34, none⟩)), Eqv (.pointer (some ⟨q2, 0 + ((0 : Nat) : Int).toNat * 34 + 0, none⟩)), Eqv (.agg (cI it.key).toArray), Eqv (.bool false), Eqv (.bool false), Eqv (.slice (some ⟨q1, 0, none⟩) 1 1), Eqv (.int .i64 ((0 : Nat) : Int)), Eqv (.pointer (some ⟨q1, 0 + ((0 : Nat) : Int).toNat * 34, none⟩)), Eqv (.pointer (some ⟨q1, 0 + ((0 : Nat) : Int).toNat * 34 + 16, none⟩)), Eqv (.agg (cV it.ver).toArray), Eqv (.slice (some ⟨q2, 0, none⟩) 1 1), Eqv (.int .i64 ((0 : Nat) : Int)), Eqv (.pointer (some ⟨q2, 0 + ((0 : Nat) : Int).toNat * 34, none⟩)), Eqv (.pointer (some ⟨q2, 0 + ((0 : Nat) : Int).toNat * 34 + 16, none⟩)), Eqv (.agg (cV it.ver).toArray), Eqv (.bool false), Eqv (.bool false), Eqv (.bool false), Eqv (.slice (some ⟨q1, 0, none⟩) 1 1), Eqv (.int .i64 ((0 : Nat) : Int)), Eqv (.pointer (some ⟨q1, 0 + ((0 : Nat) : Int).toNat * 34, none⟩)), Eqv (.pointer (some ⟨q1, 0 + ((0 : Nat) : Int).toNat * 34 + 33, none⟩)), Eqv (.slice a1 it.val.length c1), Eqv (.string (str it.val)), Eqv (.slice (some ⟨q2, 0, none⟩) 1 1), Eqv (.int .i64 ((0 : Nat) : Int)), Eqv (.pointer (some ⟨q2, 0 + ((0 : Nat) : Int).toNat * 34, none⟩)), Eqv (.pointer (some ⟨q2, 0 + ((0 : Nat) : Int).toNat * 34 + 33, none⟩)), Eqv (.slice a2 it.val.length c2), Eqv (.string (str it.val)), Eqv (.bool false), Eqv (.bool false)] Ty.mixed rfl rfl rfl (by kernel_rfl) rfl rfl (fun w w' hw hb => hw.step hb) ⟨fun _ _ _ h _ => h, fun _ _ _ h _ => h, fun _ _ _ h _ => h, fun _ _ _ h _ => h, fun _ _ _ h _ => h, fun _ _ _ h _ => h, fun _ _ _ h _ => h, fun _ _ _ h _ => h, fun _ _ _ h _ => h, fun _ _ _ h _ => h, fun _ _ _ h _ => h, fun _ _ _ h _ => h, fun _ _ _ h _ => h, fun _ _ _ h _ => h, fun _ _ _ h _ => h, fun _ _ _ h _ => h, fun _ _ _ h _ => h, fun _ _ _ h _ => h, fun _ _ _ h _ => h, fun _ _ _ h _ => h, fun _ _ _ h _ => h, fun _ _ _ h _ => h, fun _ _ _ h _ => h, fun _ _ _ h _ => h, fun _ _ _ h _ => h, fun _ _ _ h _ => h, fun _ _ _ h _ => h, fun _ _ _ h _ => h, fun _ _ _ h _ => h, fun _ _ _ h _ => h, fun _ _ _ h _ => h, fun _ _ _ h _ => h, fun _ _ _ h _ => h, fun _ _ _ h _ => h, fun _ _ _ h _ => h, fun _ _ _ h _ => h, fun _ _ _ h _ => h, fun _ _ _ h _ => h, fun _ _ _ h _ => h, trivial⟩ ?hstep ?htail
    case hstep =>
      refine ⟨fun wi => ?_, fun wi => ?_, fun wi => ?_, fun wi => ?_, fun wi => ?_, fun wi => ?_, fun wi => ?_, fun wi => ?_, fun wi => ?_, fun wi => ?_, fun wi => ?_, fun wi => ?_, fun wi => ?_, fun wi => ?_, fun wi => ?_, fun wi => ?_, fun wi => ?_, fun wi => ?_, fun wi => ?_, fun wi => ?_, fun wi => ?_, fun wi => ?_, fun wi => ?_, fun wi => ?_, fun wi => ?_, fun wi => ?_, fun wi => ?_, fun wi => ?_, fun wi => ?_, fun wi => ?_, fun wi => ?_, fun wi => ?_, fun wi => ?_, fun wi => ?_, fun wi => ?_, fun wi => ?_, fun wi => ?_, fun wi => ?_, fun wi => ?_, trivial⟩
      · skip
        refine Fin.nil ?_
        refine J.move rfl rfl ?_
        exact J.finP rfl
      · skip
        refine Fin.nil ?_
        refine J.move rfl rfl ?_
        exact J.finP rfl
      · skip
        refine Fin.consE rfl (Fin.consE rfl (Fin.nil ?_))
        refine J.indexAddrS Ty.el47 Ty.s53 rfl rfl (by omega) (by omega) rfl ?_
        exact J.finP rfl
      · skip
        refine Fin.consE rfl (Fin.nil ?_)
        refine J.fieldAddr Ty.fd53_0 rfl rfl ?_
        exact J.finP rfl
      · skip
        refine Fin.consE rfl (Fin.nil ?_)
        refine J.loadA (vs := cI it.key) Ty.a23 Ty.s23 rfl rfl (fun w1 hw => Cells.of_block (by rw [hw.2.keep q1 (lt_of_some hb1) (by simp)]; exact hb1) rfl) rfl ?_
        exact J.finP rfl
      · skip
        refine Fin.nil ?_
        refine J.move rfl rfl ?_
        exact J.finP rfl
      · skip
        refine Fin.nil ?_
        refine J.move rfl rfl ?_
        exact J.finP rfl
      · skip
        refine Fin.consE rfl (Fin.consE rfl (Fin.nil ?_))
        refine J.indexAddrS Ty.el47 Ty.s53 rfl rfl (by omega) (by omega) rfl ?_
        exact J.finP rfl
      · skip
        refine Fin.consE rfl (Fin.nil ?_)
        refine J.fieldAddr Ty.fd53_0 rfl rfl ?_
        exact J.finP rfl
      · skip
        refine Fin.consE rfl (Fin.nil ?_)
        refine J.loadA (vs := cI it.key) Ty.a23 Ty.s23 rfl rfl (fun w1 hw => Cells.of_block (by rw [hw.2.keep q2 (lt_of_some hb2) (by simp)]; exact hb2) rfl) rfl ?_
        exact J.finP rfl
      · skip
        refine Fin.consE rfl (Fin.consE rfl (Fin.nil ?_))
        refine J.neI Ty.QI Ty.keyI rfl rfl rfl ?_
        refine J.name 27 rfl (show _ = Value.bool false by simp) ?_
        exact J.finP rfl
      · skip
        refine Fin.consE rfl (Fin.nil ?_)
        refine J.move rfl rfl ?_
        exact J.finP rfl
      · skip
        refine Fin.consE rfl (Fin.nil ?_)
        first | refine J.skip rfl rfl rfl rfl rfl ?_ | refine J.skipU rfl rfl rfl rfl ?_ | (refine J.unguard rfl rfl rfl ?_; refine J.move rfl rfl ?_)
        exact J.finP rfl
      · skip
        refine Fin.consE rfl (Fin.nil ?_)
        first | refine J.skip rfl rfl rfl rfl rfl ?_ | refine J.skipU rfl rfl rfl rfl ?_ | (refine J.unguard rfl rfl rfl ?_; refine J.move rfl rfl ?_)
        exact J.finP rfl
      · skip
        refine Fin.consE rfl (Fin.consE rfl (Fin.consE rfl (Fin.nil ?_)))
        refine J.unguard rfl rfl rfl ?_
        refine J.indexAddrS Ty.el47 Ty.s53 rfl rfl (by omega) (by omega) rfl ?_
        exact J.finP rfl
      · skip
        refine Fin.consE rfl (Fin.consE rfl (Fin.nil ?_))
        first | refine J.skip rfl rfl rfl rfl rfl ?_ | refine J.skipU rfl rfl rfl rfl ?_ | (refine J.unguard rfl rfl rfl ?_; refine J.fieldAddr Ty.fd53_1 rfl rfl ?_)
        exact J.finP rfl
      · skip
        refine Fin.consE rfl (Fin.consE rfl (Fin.nil ?_))
        refine J.unguard rfl rfl rfl ?_
        refine J.loadA (vs := cV it.ver) Ty.a46 Ty.s46 rfl rfl (fun w1 hw => Cells.of_block (by rw [hw.2.keep q1 (lt_of_some hb1) (by simp)]; exact hb1) rfl) rfl ?_
        exact J.finP rfl
      · skip
        refine Fin.consE rfl (Fin.nil ?_)
        first | refine J.skip rfl rfl rfl rfl rfl ?_ | refine J.skipU rfl rfl rfl rfl ?_ | (refine J.unguard rfl rfl rfl ?_; refine J.move rfl rfl ?_)
        exact J.finP rfl
      · skip
        refine Fin.consE rfl (Fin.nil ?_)
        first | refine J.skip rfl rfl rfl rfl rfl ?_ | refine J.skipU rfl rfl rfl rfl ?_ | (refine J.unguard rfl rfl rfl ?_; refine J.move rfl rfl ?_)
        exact J.finP rfl
      · skip
        refine Fin.consE rfl (Fin.consE rfl (Fin.consE rfl (Fin.nil ?_)))
        refine J.unguard rfl rfl rfl ?_
        refine J.indexAddrS Ty.el47 Ty.s53 rfl rfl (by omega) (by omega) rfl ?_
        exact J.finP rfl
      · skip
        refine Fin.consE rfl (Fin.consE rfl (Fin.nil ?_))
        first | refine J.skip rfl rfl rfl rfl rfl ?_ | refine J.skipU rfl rfl rfl rfl ?_ | (refine J.unguard rfl rfl rfl ?_; refine J.fieldAddr Ty.fd53_1 rfl rfl ?_)
        exact J.finP rfl
      · skip
        refine Fin.consE rfl (Fin.consE rfl (Fin.nil ?_))
        refine J.unguard rfl rfl rfl ?_
        refine J.loadA (vs := cV it.ver) Ty.a46 Ty.s46 rfl rfl (fun w1 hw => Cells.of_block (by rw [hw.2.keep q2 (lt_of_some hb2) (by simp)]; exact hb2) rfl) rfl ?_
        exact J.finP rfl
      · skip
        refine Fin.consE rfl (Fin.consE rfl (Fin.consE rfl (Fin.nil ?_)))
        refine J.unguard rfl rfl rfl ?_
        refine J.neV rfl rfl hok hok rfl ?_
        refine J.name 39 rfl (show _ = Value.bool false by simp) ?_
        exact J.finP rfl
      · skip
        refine Fin.consE rfl (Fin.consE rfl (Fin.nil ?_))
        (first | refine J.pickT rfl rfl rfl ?_ | refine J.pickF rfl rfl rfl ?_)
        exact J.finP rfl
      · skip
        refine Fin.consE rfl (Fin.consE rfl (Fin.nil ?_))
        refine J.move rfl rfl ?_
        exact J.finP rfl
      · skip
        refine Fin.consE rfl (Fin.nil ?_)
        first | refine J.skip rfl rfl rfl rfl rfl ?_ | refine J.skipU rfl rfl rfl rfl ?_ | (refine J.unguard rfl rfl rfl ?_; refine J.move rfl rfl ?_)
        exact J.finP rfl
      · skip
        refine Fin.consE rfl (Fin.nil ?_)
        first | refine J.skip rfl rfl rfl rfl rfl ?_ | refine J.skipU rfl rfl rfl rfl ?_ | (refine J.unguard rfl rfl rfl ?_; refine J.move rfl rfl ?_)
        exact J.finP rfl
      · skip
        refine Fin.consE rfl (Fin.consE rfl (Fin.consE rfl (Fin.nil ?_)))
        refine J.unguard rfl rfl rfl ?_
        refine J.indexAddrS Ty.el47 Ty.s53 rfl rfl (by omega) (by omega) rfl ?_
        exact J.finP rfl
      · skip
        refine Fin.consE rfl (Fin.consE rfl (Fin.nil ?_))
        first | refine J.skip rfl rfl rfl rfl rfl ?_ | refine J.skipU rfl rfl rfl rfl ?_ | (refine J.unguard rfl rfl rfl ?_; refine J.fieldAddr Ty.fd53_2 rfl rfl ?_)
        exact J.finP rfl
      · skip
        refine Fin.consE rfl (Fin.consE rfl (Fin.nil ?_))
        refine J.unguard rfl rfl rfl ?_
        refine J.load1 (v := .slice a1 it.val.length c1) Ty.a51 rfl (fun w1 hw => by rw [cell_of (by rw [hw.2.keep q1 (lt_of_some hb1) (by simp)]; exact hb1)]; rfl) rfl ?_
        exact J.finP rfl
      · skip
        refine Fin.consE rfl (Fin.consE rfl (Fin.nil ?_))
        refine J.unguard rfl rfl rfl ?_
        refine J.toStr (bs := it.val) Ty.el51 Ty.u5 Ty.u9 rfl (fun w1 hw => hx1.below (hw.2.drop (List.nil_sublist _)).below) rfl rfl ?_
        exact J.finP rfl
      · skip
        refine Fin.consE rfl (Fin.nil ?_)
        first | refine J.skip rfl rfl rfl rfl rfl ?_ | refine J.skipU rfl rfl rfl rfl ?_ | (refine J.unguard rfl rfl rfl ?_; refine J.move rfl rfl ?_)
        exact J.finP rfl
      · skip
        refine Fin.consE rfl (Fin.nil ?_)
        first | refine J.skip rfl rfl rfl rfl rfl ?_ | refine J.skipU rfl rfl rfl rfl ?_ | (refine J.unguard rfl rfl rfl ?_; refine J.move rfl rfl ?_)
        exact J.finP rfl
      · skip
        refine Fin.consE rfl (Fin.consE rfl (Fin.consE rfl (Fin.nil ?_)))
        refine J.unguard rfl rfl rfl ?_
        refine J.indexAddrS Ty.el47 Ty.s53 rfl rfl (by omega) (by omega) rfl ?_
        exact J.finP rfl
      · skip
        refine Fin.consE rfl (Fin.consE rfl (Fin.nil ?_))
        first | refine J.skip rfl rfl rfl rfl rfl ?_ | refine J.skipU rfl rfl rfl rfl ?_ | (refine J.unguard rfl rfl rfl ?_; refine J.fieldAddr Ty.fd53_2 rfl rfl ?_)
        exact J.finP rfl
      · skip
        refine Fin.consE rfl (Fin.consE rfl (Fin.nil ?_))
        refine J.unguard rfl rfl rfl ?_
        refine J.load1 (v := .slice a2 it.val.length c2) Ty.a51 rfl (fun w1 hw => by rw [cell_of (by rw [hw.2.keep q2 (lt_of_some hb2) (by simp)]; exact hb2)]; rfl) rfl ?_
        exact J.finP rfl
      · skip
        refine Fin.consE rfl (Fin.consE rfl (Fin.nil ?_))
        refine J.unguard rfl rfl rfl ?_
        refine J.toStr (bs := it.val) Ty.el51 Ty.u5 Ty.u9 rfl (fun w1 hw => hx2.below (hw.2.drop (List.nil_sublist _)).below) rfl rfl ?_
        exact J.finP rfl
      · skip
        refine Fin.consE rfl (Fin.consE rfl (Fin.consE rfl (Fin.nil ?_)))
        refine J.unguard rfl rfl rfl ?_
        refine J.strNe rfl rfl rfl ?_
        refine J.name 54 rfl (show _ = Value.bool false by simp) ?_
        exact J.finP rfl
      · skip
        refine Fin.consE rfl (Fin.consE rfl (Fin.nil ?_))
        (first | refine J.pickT rfl rfl rfl ?_ | refine J.pickF rfl rfl rfl ?_)
        exact J.finP rfl
    case htail =>
      refine Fin.consE rfl (Fin.consE rfl (Fin.consE rfl (Fin.consE rfl (Fin.consE rfl (Fin.consE rfl (Fin.consE rfl (Fin.consE rfl (Fin.consE rfl (Fin.consE rfl (Fin.consE rfl (Fin.consE rfl (Fin.consE rfl (Fin.consE rfl (Fin.consE rfl (Fin.consE rfl (Fin.consE rfl (Fin.consE rfl (Fin.consE rfl (Fin.consE rfl (Fin.consE rfl (Fin.consE rfl (Fin.consE rfl (Fin.consE rfl (Fin.consE rfl (Fin.consE rfl (Fin.consE rfl (Fin.consE rfl (Fin.consE rfl (Fin.consE rfl (Fin.consE rfl (Fin.consE rfl (Fin.consE rfl (Fin.consE rfl (Fin.consE rfl (Fin.consE rfl (Fin.consE rfl (Fin.consE rfl (Fin.consE rfl (Fin.nil ?_)))))))))))))))))))))))))))))))))))))))
      refine J.nil ?_
      refine JX.thenN (hK8 _ _ ?_)
      first | refine JC.condF rfl ?_ | refine JC.cond rfl (fun h => by first | (exfalso; simp at h; omega) | (simp at h)) (fun _ => ?_)
      refine JC.skip ?_
      refine JX.blockN ?_
      refine JX.thenN (hK7 _ _ ?_)
      refine JC.region ?_
      refine J.move rfl rfl ?_
      (first | refine J.addN rfl rfl (by omega) (by omega) rfl ?_ | refine J.bin rfl rfl rfl rfl ?_)
      refine J.assign rfl rfl ?_
      refine J.nil ?_
      refine JX.thenN ?_
      refine JX.again 1 ?_ ?_ ?_
      · omega
      · exact ⟨rfl, rfl, rfl, trivial⟩
      · exact fun w1 hw => ⟨Nat.le_refl _, hw⟩
  · skip
    skip
    refine JC.exit ?_
    refine JX.thenE ?_
    refine JX.thenE ?_
    refine JX.blockE ?_
    refine JX.thenN (hK3 _ _ ?_)
    refine JC.seq (fun K9 hK9 => ?_)
    refine JC.region ?_
    refine J.assign rfl rfl ?_
    refine J.nil ?_
    refine JX.thenN (hK9 _ _ ?_)
    refine JC.ret ?_
    refine JX.ret1 rfl rfl (fun w hw => ?_)
    exact ⟨rfl, (hw.drop (List.nil_sublist _)).below⟩

end Go.Proofs.Ytbafhclandendaa
/-
  CopiesPlays: the walk.
-/
namespace Go.Proofs.Ytbafhclandendaa
open Go.J Go.RowKit
set_option linter.unusedVariables false
set_option linter.unusedSimpArgs false
set_option maxRecDepth 8000
structure PlS where
  i : Nat
  es : Array MapEntry
  ck : Nat
  vL : Value
  R : List NV
  lr : List (Nat × Obj)
structure PlI (n : Nat) (s : PlS) : Prop where
  i : s.i ≤ n
  bk : Bk (valF s.R) s.es s.ck
  vr : Vec 94 49 s.vL s.R.length (fN s.R) s.lr
  len : s.R.length ≤ s.i
  ok : ∀ n, n ∈ s.R → okN n.ver.n
theorem dueV_at {w : World} {b o c i q : Nat} {ds : List DX} {d : DX} (h : Row w (.slice (some ⟨b, o, none⟩) ds.length c) ds.length (fDX ds)) (hx : ds[i]? = some d) (hq : q = o + i * 50 + 49) : w.cell? ⟨b, q, none⟩ = some d.v := by
  have := dueF_at (vs := [d.v]) (r := 49) h hx rfl hq 0 (by simp)
  simpa using this

set_option maxHeartbeats 4000000 in
theorem copiesPlays_spec (v : Value) (ops : List OpX) (w : World) (hr : Row w v ops.length (fOX ops)) (hops : ∀ o, o ∈ ops → OpOk w o) (hlo : ops.length ≤ 140737488355328) :
    Calls Try.prog 6 [v].toArray w fun r w' => r = .returned (.bool true) ∧ Bel w w' := by
  obtain ⟨aops, cops, rfl, hcops, _⟩ := _root_.id hr
  refine calls_of_J (args := [.slice aops ops.length cops]) (e := [(0, .slice aops ops.length cops)]) Try.func6 rfl rfl ⟨rfl, trivial⟩ (St.start w) ?_
  refine JC.seq (fun K0 hK0 => ?_)
  refine JC.region ?_
  refine J.assign rfl rfl ?_
  refine J.nil ?_
  refine JX.thenN (hK0 _ _ ?_)
  refine JC.seq (fun K1 hK1 => ?_)
  refine JC.region ?_
  refine J.perm ([] ++ []) (.refl _) ?_
  refine J.callS (α := Nat × Nat) (V := fun x => .pointer (some ⟨x.1, 0, none⟩)) (Pr := fun _ => True) (L := fun x => [(x.1, cb [.map (some x.2)] 90), (x.2, .map #[] 0)]) (l1 := []) Ty.bd24 rfl rfl (fun w1 hw => (new19_spec w1).mono fun _ _ ⟨q, h1, h2⟩ => ⟨q, h1, trivial, h2⟩) (fun q _ => ?_)
  obtain ⟨bk, mb⟩ := q
  simp only [List.cons_append, List.nil_append]
  refine J.assign rfl rfl ?_
  refine J.nil ?_
  refine JX.thenN (hK1 _ _ ?_)
  refine JC.seq (fun K2 hK2 => ?_)
  refine JC.region ?_
  refine J.buildS (cs := [Value.slice none 0 0]) Ty.pl44 zRB rfl (by kernel_rfl) rfl ?_
  refine J.box rfl rfl rfl (fun rb => ?_)
  refine J.perm ((rb, cb [.slice none 0 0] 44) :: (bk, cb [.map (some mb)] 90) :: (mb, .map #[] 0) :: []) (.refl _) ?_
  refine J.assign rfl rfl ?_
  refine J.nil ?_
  refine JX.thenN (hK2 _ _ ?_)
  refine JC.seq (fun K3 hK3 => ?_)
  refine JC.seq (fun K4 hK4 => ?_)
  refine JC.region ?_
  refine J.move rfl rfl ?_
  refine J.eqNil Ty.u39 rfl rfl rfl ?_
  refine J.move rfl rfl ?_
  refine J.unguard rfl rfl rfl ?_
  refine J.callB (v := .bool true) (fun w1 w2 hw hb => hw.step hb) Ty.bd15 rfl rfl (fun w1 hw => fixed19_spec w1) ?_
  first | refine J.skip rfl rfl rfl rfl rfl ?_ | refine J.skipU rfl rfl rfl rfl ?_ | (refine J.unguard rfl rfl rfl ?_; refine J.not rfl rfl ?_)
  (first | refine J.pickT rfl rfl rfl ?_ | refine J.pickF rfl rfl rfl ?_)
  refine J.nil ?_
  refine JX.thenN (hK4 _ _ ?_)
  first | refine JC.condF rfl ?_ | refine JC.cond rfl (fun h => by first | (exfalso; simp at h; omega) | (simp at h)) (fun _ => ?_)
  refine JC.skip ?_
  refine JX.thenN (hK3 _ _ ?_)
  refine JC.seq (fun K5 hK5 => ?_)
  refine JC.seq (fun K6 hK6 => ?_)
  refine JC.region ?_
  refine J.move rfl rfl ?_
  refine J.lenS rfl Ty.u38 rfl rfl ?_
  refine J.move rfl rfl ?_
  refine J.nil ?_
  refine JX.thenN (hK6 _ _ ?_)
  refine JC.block ?_
  refine JC.conseq (JC.cov (f := (fun st => [(3, .pointer (some ⟨bk, 0, none⟩)), (4, .pointer (some ⟨rb, 0, none⟩)), (23, .slice aops ops.length cops), (24, .int .i64 ((ops.length : Nat) : Int)), (25, .int .i64 ((st.i : Nat) : Int))]) (⟨0, #[], 0, .slice none 0 0, [], []⟩ : PlS)) ⟨rfl, rfl, rfl, rfl, rfl, trivial⟩ (JC.loop (α := PlS) (fun st => [(3, .pointer (some ⟨bk, 0, none⟩)), (4, .pointer (some ⟨rb, 0, none⟩)), (23, .slice aops ops.length cops), (24, .int .i64 ((ops.length : Nat) : Int)), (25, .int .i64 ((st.i : Nat) : Int))]) (fun st w' => PlI ops.length st ∧ St w [] ((bk, cb [.map (some mb)] 90) :: (mb, .map st.es st.ck) :: (rb, cb [st.vL] 44) :: st.lr) w') (fun st => ops.length - st.i) (⟨0, #[], 0, .slice none 0 0, [], []⟩ : PlS) (fun st => ?_))) (fun w hw => ⟨⟨Nat.zero_le _, Bk.nil, Vec.nil _ _, Nat.le_refl _, by simp⟩, hw.perm (by (refine perm_cnt (fun _ => ?_)); simp only [cntB_append, cntB_cons, cntB_nil, Nat.add_zero, Nat.zero_add]; try ac_rfl)⟩)
  obtain ⟨i, es, ck, vL, R, lr⟩ := st
  refine JC.pr (fun hI => ?_)
  obtain ⟨hi, hT, hvr, hlR, hRok⟩ := hI
  try simp only at hi hT hvr hlR hRok ⊢
  obtain ⟨aL, cL, rfl, hcL⟩ := hvr.form
  refine JC.seq (fun K7 hK7 => ?_)
  refine JC.region ?_
  refine J.bin rfl rfl rfl rfl ?_
  refine J.nil ?_
  refine JX.thenN (hK7 _ _ ?_)
  refine JC.seq (fun K8 hK8 => ?_)
  refine JC.cond rfl (fun h1 => ?_) (fun h1 => ?_)
  · skip
    have hlt : i < ops.length := by simp at h1; omega
    have hflo : (fOX ops).length = ops.length * 52 := fG_length (c := cOX) (sz := 52) (fun _ => rfl) ops
    obtain ⟨qx, ox, cx', hqe, _, _⟩ := Row.some hr (by omega)
    simp only [Value.slice.injEq] at hqe
    obtain ⟨hax, _, _⟩ := hqe
    obtain ⟨oo, hoo0⟩ : ∃ x, ops[i]? = some x := ⟨_, List.getElem?_eq_getElem hlt⟩
    have hoo := hops oo (List.mem_of_getElem? hoo0)
    have h2s : Row w (.slice (some ⟨qx, ox, none⟩) ops.length cops) ops.length (fOX ops) := by rw [← hax]; exact hr
    refine JC.skip ?_
    refine JX.thenN (hK8 _ _ ?_)
    refine JC.seq (fun K9 hK9 => ?_)
    refine JC.block ?_
    refine JC.seq (fun K10 hK10 => ?_)
    refine JC.region ?_
    refine J.move rfl rfl ?_
    refine J.indexAddrS Ty.el38 Ty.s49 ((rfl : ev _ _ = some (.slice aops ops.length cops)).trans (congrArg (fun a => some (Value.slice a ops.length cops)) hax)) rfl (by omega) (by omega) rfl ?_
    refine J.loadA (vs := cOX oo) Ty.a49 Ty.s49 rfl rfl (fun w1 hw => rowG_at (c := cOX) (sz := 52) (fun _ => rfl) (h2s.below (hw.drop (List.nil_sublist _)).below) hoo0 (by simp)) rfl ?_
    refine J.alloc zOp_ rfl rfl (fun b6 => ?_)
    refine J.assign rfl rfl ?_
    refine J.storeW (cs := cOX ⟨0, zI, zI, zV, ⟨none, 0, []⟩, ⟨none, 0, []⟩⟩) (vs := cOX oo) Ty.s49 rfl rfl rfl rfl rfl (one_cOX _) .here ?_
    refine J.nil ?_
    refine JX.thenN (hK10 _ _ ?_)
    refine JC.seq (fun K11 hK11 => ?_)
    refine JC.seq (fun K12 hK12 => ?_)
    refine JC.region ?_
    refine J.move rfl rfl ?_
    refine J.bin rfl rfl rfl rfl ?_
    refine J.nil ?_
    refine JX.thenN (hK12 _ _ ?_)
    refine JC.cond rfl (fun h2 => ?_) (fun h2 => ?_)
    · skip
      skip
      refine JC.exit ?_
      refine JX.thenE ?_
      refine JX.blockO rfl ?_
      refine JX.thenE ?_
      refine JX.thenE ?_
      refine JX.blockE ?_
      refine JX.thenN (hK5 _ _ ?_)
      refine JC.seq (fun K13 hK13 => ?_)
      refine JC.region ?_
      refine J.assign rfl rfl ?_
      refine J.nil ?_
      refine JX.thenN (hK13 _ _ ?_)
      refine JC.ret ?_
      refine JX.ret1 rfl rfl (fun w hw => ?_)
      exact ⟨rfl, (hw.drop (List.nil_sublist _)).below⟩
    · skip
      have hi100 : i ≤ 100 := by
        have h9 : ¬ ((i : Int) > 100) := by simpa using h2
        omega
      have hrI := row_cut hoo.ids 12
      obtain ⟨vI, hvI⟩ : ∃ x, cutV oo.ids.v (min oo.ids.xs.length 12) = x := ⟨_, rfl⟩
      rw [hvI] at hrI
      have hlI : (oo.ids.xs.take 12).length ≤ 12 := by rw [List.length_take]; omega
      obtain ⟨fs, hfs⟩ : ∃ x, oo.ids.xs.take 12 = x := ⟨_, rfl⟩
      rw [hfs] at hrI hlI
      have hrT := row_cutX hoo.its 12
      obtain ⟨vT, hvT⟩ : ∃ x, cutV oo.its.v (min oo.its.xs.length 12) = x := ⟨_, rfl⟩
      rw [hvT] at hrT
      have hlT : (oo.its.xs.take 12).length ≤ 12 := by rw [List.length_take]; omega
      obtain ⟨xs, hxs⟩ : ∃ x, oo.its.xs.take 12 = x := ⟨_, rfl⟩
      rw [hxs] at hrT hlT
      have hmt : ∀ x, x ∈ xs → x ∈ oo.its.xs := fun x hx => List.mem_of_mem_take (by rw [hxs]; exact hx)
      have hrows := fun x hx => hoo.rows x (hmt x hx)
      have hokx := fun x hx => hoo.okx x (hmt x hx)
      have hlen := fun x hx => hoo.len x (hmt x hx)
      refine JC.skip ?_
      refine JX.thenN (hK11 _ _ ?_)
      refine JC.seq (fun K14 hK14 => ?_)
      apply JC.drawL 6 [Eqv (.pointer (some ⟨b6, 0 + 50, none⟩)), Eqv (oo.ids.v), Eqv (vI), Eqv (.pointer (some ⟨b6, 0 + 51, none⟩)), Eqv (oo.its.v), Eqv (vT)] Ty.mixed rfl rfl rfl (by kernel_rfl) rfl rfl (fun w w' hw hb => hw.step hb) ⟨fun _ _ _ h _ => h, fun _ _ _ h _ => h, fun _ _ _ h _ => h, fun _ _ _ h _ => h, fun _ _ _ h _ => h, fun _ _ _ h _ => h, trivial⟩ ?hstep ?htail
      case hstep =>
        refine ⟨fun wi => ?_, fun wi => ?_, fun wi => ?_, fun wi => ?_, fun wi => ?_, fun wi => ?_, trivial⟩
        · skip
          refine Fin.nil ?_
          refine J.fieldAddr Ty.fd49_4 rfl rfl ?_
          exact J.finP rfl
        · skip
          refine Fin.consE rfl (Fin.nil ?_)
          refine J.load1 (v := oo.ids.v) Ty.a24 rfl (fun w1 hw => by rw [cell_of (hw.2.own ((b6, cb (cOX oo) 49)) (by repeat first | exact .head _ | apply List.Mem.tail | apply List.mem_append_right))]; rfl) rfl ?_
          exact J.finP rfl
        · skip
          refine Fin.consE rfl (Fin.nil ?_)
          refine J.callD (v := vI) Ty.bd13 rfl rfl (fun w1 hw => by have h := cut19_spec oo.ids.v oo.ids.xs 12 w1 (hoo.ids.below (hw.drop (List.nil_sublist _)).below); rw [hvI] at h; exact h) ?_
          exact J.finQ rfl
        · skip
          refine Fin.nil ?_
          refine J.fieldAddr Ty.fd49_5 rfl rfl ?_
          exact J.finP rfl
        · skip
          refine Fin.consE rfl (Fin.nil ?_)
          refine J.load1 (v := oo.its.v) Ty.a47 rfl (fun w1 hw => by rw [cell_of (hw.2.own ((b6, cb (cOX oo) 49)) (by repeat first | exact .head _ | apply List.Mem.tail | apply List.mem_append_right))]; rfl) rfl ?_
          exact J.finP rfl
        · skip
          refine Fin.consE rfl (Fin.consE rfl (Fin.nil ?_))
          refine J.callD (v := vT) Ty.bd25 rfl rfl (fun w1 hw => by have h := cutX_spec oo.its.v oo.its.xs 12 w1 (hoo.its.below (hw.drop (List.nil_sublist _)).below); rw [hvT] at h; exact h) ?_
          exact J.finQ rfl
      case htail =>
        refine Fin.consE rfl (Fin.consE rfl (Fin.consE rfl (Fin.consE rfl (Fin.consE rfl (Fin.consE rfl (Fin.nil ?_))))))
        refine J.assign rfl rfl ?_
        refine J.assign rfl rfl ?_
        refine J.nil ?_
        refine JX.thenN (hK14 _ _ ?_)
        refine JC.seq (fun K15 hK15 => ?_)
        refine JC.region ?_
        refine J.fieldAddr Ty.fd49_0 rfl rfl ?_
        refine J.load1 (v := .int .i64 oo.k) Ty.a3 rfl (fun w1 hw => by rw [cell_of (hw.own ((b6, cb (cOX oo) 49)) (by repeat first | exact .head _ | apply List.Mem.tail | apply List.mem_append_right))]; rfl) rfl ?_
        refine J.nil ?_
        refine JX.thenN (hK15 _ _ ?_)
        refine JC.block ?_
        refine JC.seq (fun K16 hK16 => ?_)
        refine JC.region ?_
        refine J.bin rfl rfl rfl rfl ?_
        refine J.assign rfl rfl ?_
        refine J.nil ?_
        refine JX.thenN (hK16 _ _ ?_)
        refine JC.cond rfl (fun h3 => ?_) (fun h3 => ?_)
        · skip
          skip
          refine JC.seq (fun K17 hK17 => ?_)
          refine JC.region ?_
          refine J.move rfl rfl ?_
          refine J.fieldAddr Ty.fd49_1 rfl rfl ?_
          refine J.loadA (vs := cI oo.a) Ty.a23 Ty.s23 rfl rfl (fun w1 hw => Cells.of_block (hw.own ((b6, cb (cOX oo) 49)) (by repeat first | exact .head _ | apply List.Mem.tail | apply List.mem_append_right)) rfl) rfl ?_
          refine J.fieldAddr Ty.fd49_2 rfl rfl ?_
          refine J.loadA (vs := cI oo.b) Ty.a23 Ty.s23 rfl rfl (fun w1 hw => Cells.of_block (hw.own ((b6, cb (cOX oo) 49)) (by repeat first | exact .head _ | apply List.Mem.tail | apply List.mem_append_right)) rfl) rfl ?_
          refine J.fieldAddr Ty.fd49_3 rfl rfl ?_
          refine J.loadA (vs := cV oo.ver) Ty.a46 Ty.s46 rfl rfl (fun w1 hw => Cells.of_block (hw.own ((b6, cb (cOX oo) 49)) (by repeat first | exact .head _ | apply List.Mem.tail | apply List.mem_append_right)) rfl) rfl ?_
          refine J.perm ([(bk, cb [.map (some mb)] 90), (mb, .map es ck)] ++ ((b6, cb (cOX oo) 49) :: ((rb, cb [.slice aL R.length cL] 44) :: lr))) (by (refine perm_cnt (fun _ => ?_)); simp only [cntB_append, cntB_cons, cntB_nil, Nat.add_zero, Nat.zero_add]; try ac_rfl) ?_
          refine J.callS (α := Array MapEntry × Nat) (V := fun _ => .tuple #[]) (Pr := fun y => Bk (updF (valF R) oo.a oo.b oo.ver) y.1 y.2) (L := fun y => [(bk, cb [.map (some mb)] 90), (mb, .map y.1 y.2)]) (l1 := [(bk, cb [.map (some mb)] 90), (mb, .map es ck)]) Ty.bd26 rfl rfl (fun w1 hw => mark_spec bk mb _ es ck oo.a oo.b oo.ver hoo.ver w1 hw.owns hT) (fun y hT2 => ?_)
          obtain ⟨es2, ck2⟩ := y
          simp only [List.cons_append, List.nil_append] at hT2 ⊢
          refine J.nil ?_
          refine JX.thenN (hK17 _ _ ?_)
          refine JC.region ?_
          refine J.move rfl rfl ?_
          refine J.fieldAddr Ty.fd49_1 rfl rfl ?_
          refine J.loadA (vs := cI oo.a) Ty.a23 Ty.s23 rfl rfl (fun w1 hw => Cells.of_block (hw.own ((b6, cb (cOX oo) 49)) (by repeat first | exact .head _ | apply List.Mem.tail | apply List.mem_append_right)) rfl) rfl ?_
          refine J.fieldAddr Ty.fd49_2 rfl rfl ?_
          refine J.loadA (vs := cI oo.b) Ty.a23 Ty.s23 rfl rfl (fun w1 hw => Cells.of_block (hw.own ((b6, cb (cOX oo) 49)) (by repeat first | exact .head _ | apply List.Mem.tail | apply List.mem_append_right)) rfl) rfl ?_
          refine J.fieldAddr Ty.fd49_3 rfl rfl ?_
          refine J.loadA (vs := cV oo.ver) Ty.a46 Ty.s46 rfl rfl (fun w1 hw => Cells.of_block (hw.own ((b6, cb (cOX oo) 49)) (by repeat first | exact .head _ | apply List.Mem.tail | apply List.mem_append_right)) rfl) rfl ?_
          refine J.perm (((rb, cb [.slice aL R.length cL] 44) :: lr) ++ ((bk, cb [.map (some mb)] 90) :: (mb, .map es2 ck2) :: (b6, cb (cOX oo) 49) :: [])) (by (refine perm_cnt (fun _ => ?_)); simp only [cntB_append, cntB_cons, cntB_nil, Nat.add_zero, Nat.zero_add]; try ac_rfl) ?_
          refine J.callS (α := Value × List (Nat × Obj)) (V := fun _ => .tuple #[]) (Pr := fun y => Vec 94 49 y.1 (markR R oo.a oo.b oo.ver).length (fN (markR R oo.a oo.b oo.ver)) y.2) (L := fun y => (rb, cb [y.1] 44) :: y.2) (l1 := ((rb, cb [.slice aL R.length cL] 44) :: lr)) Ty.bd27 rfl rfl (fun w1 hw => rmark_spec rb _ R lr oo.a oo.b oo.ver w1 hw.owns hvr (by omega)) (fun y hv2 => ?_)
          obtain ⟨vL2, lr2⟩ := y
          simp only [List.cons_append, List.nil_append] at hv2 ⊢
          refine J.nil ?_
          refine JX.blockN ?_
          refine JX.blockN ?_
          refine JX.thenN (hK9 _ _ ?_)
          refine JC.region ?_
          (first | refine J.addN rfl rfl (by omega) (by omega) rfl ?_ | refine J.bin rfl rfl rfl rfl ?_)
          refine J.move rfl rfl ?_
          refine J.nil ?_
          refine JX.thenN ?_
          refine JX.again (⟨i + 1, es2, ck2, vL2, markR R oo.a oo.b oo.ver, lr2⟩ : PlS) ?_ ?_ ?_
          · simp only; omega
          · exact ⟨rfl, rfl, rfl, rfl, rfl, trivial⟩
          · exact fun w1 hw => ⟨⟨hlt, by show Bk (valF (markR _ _ _ _)) _ _; rw [valF_mark]; exact hT2, hv2, by have := mark_len (R := R) (id := oo.a) (key := oo.b) (x := oo.ver); show (markR _ _ _ _).length ≤ i + 1; omega, mark_ok hRok hoo.ver⟩, (hw.perm (l' := [(b6, cb (cOX oo) 49)] ++ ((bk, cb [.map (some mb)] 90) :: (mb, .map es2 ck2) :: (rb, cb [vL2] 44) :: lr2)) (by (refine perm_cnt (fun _ => ?_)); simp only [cntB_append, cntB_cons, cntB_nil, Nat.add_zero, Nat.zero_add]; try ac_rfl)).drop (List.sublist_append_right _ _)⟩
        · skip
          skip
          refine JC.seq (fun K18 hK18 => ?_)
          refine JC.region ?_
          refine J.bin rfl rfl rfl rfl ?_
          refine J.assign rfl rfl ?_
          refine J.nil ?_
          refine JX.thenN (hK18 _ _ ?_)
          refine JC.cond rfl (fun h4 => ?_) (fun h4 => ?_)
          · skip
            skip
            refine JC.seq (fun K19 hK19 => ?_)
            refine JC.region ?_
            refine J.move rfl rfl ?_
            refine J.move rfl rfl ?_
            refine J.perm ([(bk, cb [.map (some mb)] 90), (mb, .map es ck)] ++ ((b6, cb (cOX oo) 49) :: ((rb, cb [.slice aL R.length cL] 44) :: lr))) (by (refine perm_cnt (fun _ => ?_)); simp only [cntB_append, cntB_cons, cntB_nil, Nat.add_zero, Nat.zero_add]; try ac_rfl) ?_
            refine J.callS (α := Array MapEntry) (V := fun _ => .tuple #[]) (Pr := fun y => Bk (retF (valF R) fs) y ck) (L := fun y => [(bk, cb [.map (some mb)] 90), (mb, .map y ck)]) (l1 := [(bk, cb [.map (some mb)] 90), (mb, .map es ck)]) Ty.bd28 rfl rfl (fun w1 hw => retain_spec bk mb _ es ck vI fs w1 (hrI.below (hw.drop (List.nil_sublist _)).below) (hrI.offNew hw (fun x hx => List.mem_append_left _ hx)) (by omega) hw.owns hT) (fun es2 hT2 => ?_)
            simp only [List.cons_append, List.nil_append] at hT2 ⊢
            refine J.nil ?_
            refine JX.thenN (hK19 _ _ ?_)
            refine JC.region ?_
            refine J.move rfl rfl ?_
            refine J.move rfl rfl ?_
            refine J.perm (((rb, cb [.slice aL R.length cL] 44) :: lr) ++ ((bk, cb [.map (some mb)] 90) :: (mb, .map es2 ck) :: (b6, cb (cOX oo) 49) :: [])) (by (refine perm_cnt (fun _ => ?_)); simp only [cntB_append, cntB_cons, cntB_nil, Nat.add_zero, Nat.zero_add]; try ac_rfl) ?_
            refine J.callS (α := Value × List (Nat × Obj)) (V := fun _ => .tuple #[]) (Pr := fun y => Vec 94 49 y.1 (retR R fs).length (fN (retR R fs)) y.2) (L := fun y => (rb, cb [y.1] 44) :: y.2) (l1 := ((rb, cb [.slice aL R.length cL] 44) :: lr)) Ty.bd29 rfl rfl (fun w1 hw => rretain_spec rb _ R lr vI fs w1 (hrI.below (hw.drop (List.nil_sublist _)).below) (hrI.offNew hw (fun x hx => List.mem_append_left _ hx)) (by omega) hw.owns hvr (by omega)) (fun y hv2 => ?_)
            obtain ⟨vL2, lr2⟩ := y
            simp only [List.cons_append, List.nil_append] at hv2 ⊢
            refine J.nil ?_
            refine JX.blockN ?_
            refine JX.blockN ?_
            refine JX.thenN (hK9 _ _ ?_)
            refine JC.region ?_
            (first | refine J.addN rfl rfl (by omega) (by omega) rfl ?_ | refine J.bin rfl rfl rfl rfl ?_)
            refine J.move rfl rfl ?_
            refine J.nil ?_
            refine JX.thenN ?_
            refine JX.again (⟨i + 1, es2, ck, vL2, retR R fs, lr2⟩ : PlS) ?_ ?_ ?_
            · simp only; omega
            · exact ⟨rfl, rfl, rfl, rfl, rfl, trivial⟩
            · exact fun w1 hw => ⟨⟨hlt, by show Bk (valF (retR _ _)) _ _; rw [valF_ret]; exact hT2, hv2, by have := List.length_filter_le (keepF fs) R; show (List.filter (keepF fs) R).length ≤ i + 1; omega, fun n hn => hRok n (List.mem_filter.1 hn).1⟩, (hw.perm (l' := [(b6, cb (cOX oo) 49)] ++ ((bk, cb [.map (some mb)] 90) :: (mb, .map es2 ck) :: (rb, cb [vL2] 44) :: lr2)) (by (refine perm_cnt (fun _ => ?_)); simp only [cntB_append, cntB_cons, cntB_nil, Nat.add_zero, Nat.zero_add]; try ac_rfl)).drop (List.sublist_append_right _ _)⟩
          · skip
            skip
            refine JC.seq (fun K20 hK20 => ?_)
            refine JC.region ?_
            refine J.move rfl rfl ?_
            refine J.fieldAddr Ty.fd49_1 rfl rfl ?_
            refine J.loadA (vs := cI oo.a) Ty.a23 Ty.s23 rfl rfl (fun w1 hw => Cells.of_block (hw.own ((b6, cb (cOX oo) 49)) (by repeat first | exact .head _ | apply List.Mem.tail | apply List.mem_append_right)) rfl) rfl ?_
            refine J.move rfl rfl ?_
            refine J.move rfl rfl ?_
            refine J.perm ([] ++ ((b6, cb (cOX oo) 49) :: (bk, cb [.map (some mb)] 90) :: (mb, .map es ck) :: (rb, cb [.slice aL R.length cL] 44) :: lr)) (.refl _) ?_
            refine J.callS (α := DuS) (V := fun s => s.v) (Pr := fun s => DInv (dueL (valF R) oo.a fs xs) s) (L := fun s => s.lp ++ lpsD s.ds) (l1 := []) Ty.bd30 rfl rfl (fun w1 hw => due_spec bk mb (valF R) es ck oo.a vI fs vT xs w1 (hrI.below (hw.drop (List.nil_sublist _)).below) hlI (hrT.below (hw.drop (List.nil_sublist _)).below) hlT (fun x hx => (hrows x hx).below (hw.drop (List.nil_sublist _)).below) hokx hlen (hw.own ((bk, cb [.map (some mb)] 90)) (by repeat first | exact .head _ | apply List.Mem.tail | apply List.mem_append_right)) (hw.own (mb, .map es ck) (by repeat first | exact .head _ | apply List.Mem.tail | apply List.mem_append_right)) hT) (fun s hs => ?_)
            obtain ⟨is, vd, ds, lps⟩ := s
            obtain ⟨hsh, hokd, hvd⟩ := hs
            try simp only at hsh hokd hvd ⊢
            obtain ⟨ad, cd, rfl, hcd⟩ := hvd.form
            have hdn := hsh.len
            have hdb := dueL_len (F := valF R) (self := oo.a) hlI xs
            refine J.perm (lps ++ (lpsD ds ++ ((b6, cb (cOX oo) 49) :: (bk, cb [.map (some mb)] 90) :: (mb, .map es ck) :: (rb, cb [.slice aL R.length cL] 44) :: lr))) (by (refine perm_cnt (fun _ => ?_)); simp only [cntB_append, cntB_cons, cntB_nil, Nat.add_zero, Nat.zero_add]; try ac_rfl) ?_
            refine J.assign rfl rfl ?_
            refine J.nil ?_
            refine JX.thenN (hK20 _ _ ?_)
            refine JC.seq (fun K21 hK21 => ?_)
            refine JC.region ?_
            refine J.move rfl rfl ?_
            refine J.fieldAddr Ty.fd49_1 rfl rfl ?_
            refine J.loadA (vs := cI oo.a) Ty.a23 Ty.s23 rfl rfl (fun w1 hw => Cells.of_block (hw.own ((b6, cb (cOX oo) 49)) (by repeat first | exact .head _ | apply List.Mem.tail | apply List.mem_append_right)) rfl) rfl ?_
            refine J.move rfl rfl ?_
            refine J.move rfl rfl ?_
            refine J.perm ([] ++ (lps ++ (lpsD ds ++ ((b6, cb (cOX oo) 49) :: (bk, cb [.map (some mb)] 90) :: (mb, .map es ck) :: (rb, cb [.slice aL R.length cL] 44) :: lr)))) (.refl _) ?_
            refine J.callS (α := Value × List (Nat × Obj)) (V := (·.1)) (Pr := fun s => Vec 62 50 s.1 ((dueL (valF R) oo.a fs xs)).length (fRD ((dueL (valF R) oo.a fs xs))) s.2) (L := (·.2)) (l1 := []) Ty.bd31 rfl rfl (fun w1 hw => rdue_spec rb _ R oo.a vI fs vT xs w1 (hrI.below (hw.drop (List.nil_sublist _)).below) hlI (hrT.below (hw.drop (List.nil_sublist _)).below) hlT hokx (hw.own ((rb, cb [.slice aL R.length cL] 44)) (by repeat first | exact .head _ | apply List.Mem.tail | apply List.mem_append_right)) (vec_rowM hvr hw (by intro q hq; simp [hq])) (by omega) hRok) (fun s hv3 => ?_)
            obtain ⟨v3, lpr⟩ := s
            try simp only at hv3 ⊢
            obtain ⟨ar2, cr2, rfl, hcr2⟩ := hv3.form
            refine J.assign rfl rfl ?_
            refine J.nil ?_
            refine JX.thenN (hK21 _ _ ?_)
            refine JC.seq (fun K22 hK22 => ?_)
            refine JC.seq (fun K23 hK23 => ?_)
            refine JC.region ?_
            refine J.move rfl rfl ?_
            refine J.lenS rfl Ty.u56 rfl rfl ?_
            refine J.move rfl rfl ?_
            refine J.lenS rfl Ty.u58 rfl rfl ?_
            refine J.bin rfl rfl rfl rfl ?_
            refine J.name 56 rfl (show _ = Value.bool false by simp [hdn]) ?_
            refine J.nil ?_
            refine JX.thenN (hK23 _ _ ?_)
            first | refine JC.condF rfl ?_ | refine JC.cond rfl (fun h => by first | (exfalso; simp at h; omega) | (simp at h)) (fun _ => ?_)
            refine JC.skip ?_
            refine JX.thenN (hK22 _ _ ?_)
            refine JC.seq (fun K24 hK24 => ?_)
            refine JC.seq (fun K25 hK25 => ?_)
            refine JC.region ?_
            refine J.move rfl rfl ?_
            refine J.lenS rfl Ty.u56 rfl rfl ?_
            refine J.move rfl rfl ?_
            refine J.nil ?_
            refine JX.thenN (hK25 _ _ ?_)
            refine JC.block ?_
            refine JC.conseq (JC.cov (f := (fun k => [(3, .pointer (some ⟨bk, 0, none⟩)), (4, .pointer (some ⟨rb, 0, none⟩)), (23, .slice aops ops.length cops), (24, .int .i64 ((ops.length : Nat) : Int)), (25, .int .i64 ((i : Nat) : Int)), (9, .slice ad ds.length cd), (10, .slice ar2 (dueL (valF R) oo.a fs xs).length cr2), (58, .int .i64 ((ds.length : Nat) : Int)), (59, .int .i64 ((k : Nat) : Int))]) 0) ⟨rfl, rfl, rfl, rfl, rfl, rfl, rfl, rfl, rfl, trivial⟩ (JC.loop (α := Nat) (fun k => [(3, .pointer (some ⟨bk, 0, none⟩)), (4, .pointer (some ⟨rb, 0, none⟩)), (23, .slice aops ops.length cops), (24, .int .i64 ((ops.length : Nat) : Int)), (25, .int .i64 ((i : Nat) : Int)), (9, .slice ad ds.length cd), (10, .slice ar2 (dueL (valF R) oo.a fs xs).length cr2), (58, .int .i64 ((ds.length : Nat) : Int)), (59, .int .i64 ((k : Nat) : Int))]) (fun k w' => (k ≤ ds.length) ∧ St w [] (lpr ++ (lps ++ (lpsD ds ++ ((b6, cb (cOX oo) 49) :: (bk, cb [.map (some mb)] 90) :: (mb, .map es ck) :: (rb, cb [.slice aL R.length cL] 44) :: lr)))) w') (fun k => ds.length - k) 0 (fun k => ?_))) (fun w hw => ⟨Nat.zero_le _, hw⟩)
            refine JC.pr (fun hk => ?_)
            refine JC.seq (fun K26 hK26 => ?_)
            refine JC.region ?_
            refine J.bin rfl rfl rfl rfl ?_
            refine J.nil ?_
            refine JX.thenN (hK26 _ _ ?_)
            refine JC.seq (fun K27 hK27 => ?_)
            refine JC.cond rfl (fun h6 => ?_) (fun h6 => ?_)
            · skip
              have hlk : k < ds.length := by simp at h6; omega
              obtain ⟨d, hd⟩ : ∃ x, ds[k]? = some x := ⟨_, List.getElem?_eq_getElem hlk⟩
              obtain ⟨p, hpk⟩ : ∃ x, (dueL (valF R) oo.a fs xs)[k]? = some x := ⟨_, List.getElem?_eq_getElem (by omega)⟩
              obtain ⟨hto, hit⟩ := hsh.at hd hpk
              have hdv := hokd d (List.mem_of_getElem? hd)
              have hpx := due_mem (List.mem_of_getElem? hpk)
              obtain ⟨dto, dit, da, dc, dlp⟩ := d
              obtain ⟨pto, pit, pa, pc⟩ := p
              simp only at hto hit hpx
              subst hto
              subst hit
              have hdm := List.mem_of_getElem? hd
              have hpr := hrows _ hpx
              have hpo := hokx _ hpx
              obtain ⟨qr, rfl⟩ : ∃ q, ar2 = some ⟨q, 0, none⟩ := by
                rcases hv3.2 with ⟨_, h9, _⟩ | ⟨q, c9, sp, h9, _⟩
                · omega
                · simp only [Value.slice.injEq] at h9; exact ⟨q, h9.1⟩
              obtain ⟨qd, rfl⟩ : ∃ q, ad = some ⟨q, 0, none⟩ := by
                rcases hvd.2 with ⟨_, h9, _⟩ | ⟨q, c9, sp, h9, _⟩
                · omega
                · simp only [Value.slice.injEq] at h9; exact ⟨q, h9.1⟩
              refine JC.skip ?_
              refine JX.thenN (hK27 _ _ ?_)
              refine JC.seq (fun K28 hK28 => ?_)
              refine JC.block ?_
              refine JC.seq (fun K29 hK29 => ?_)
              refine JC.region ?_
              refine J.move rfl rfl ?_
              refine J.assign rfl rfl ?_
              refine J.nil ?_
              refine JX.thenN (hK29 _ _ ?_)
              refine JC.seq (fun K30 hK30 => ?_)
              apply JC.drawX (α := Nat × Nat) 27 (fun x => match x with | ⟨x79, x85⟩ => [.slice (some ⟨qd, 0, none⟩) ds.length cd, .int .i64 ((k : Nat) : Int), .pointer (some ⟨qd, 0 + (k : Int).toNat * 50, none⟩), .pointer (some ⟨qd, 0 + (k : Int).toNat * 50 + 0, none⟩), .agg (cI dto).toArray, .slice (some ⟨qr, 0, none⟩) (dueL (valF R) oo.a fs xs).length cr2, .int .i64 ((k : Nat) : Int), .pointer (some ⟨qr, 0 + (k : Int).toNat * 50, none⟩), .pointer (some ⟨qr, 0 + (k : Int).toNat * 50 + 0, none⟩), .agg (cI dto).toArray, .bool false, .bool false, .slice (some ⟨qd, 0, none⟩) ds.length cd, .int .i64 ((k : Nat) : Int), .pointer (some ⟨qd, 0 + (k : Int).toNat * 50, none⟩), .pointer (some ⟨qd, 0 + (k : Int).toNat * 50 + 16, none⟩), .agg (cIT dit (.slice da dit.val.length dc)).toArray, .slice (some ⟨x79, 0, none⟩) 1 1, .slice (some ⟨qr, 0, none⟩) (dueL (valF R) oo.a fs xs).length cr2, .int .i64 ((k : Nat) : Int), .pointer (some ⟨qr, 0 + (k : Int).toNat * 50, none⟩), .pointer (some ⟨qr, 0 + (k : Int).toNat * 50 + 16, none⟩), .agg (cIX (⟨dit, pa, pc⟩ : IX)).toArray, .slice (some ⟨x85, 0, none⟩) 1 1, .bool true, .bool false, .bool false]) (fun m x => match x with | ⟨x79, x85⟩ => fun w1 => (True) ∧ St w [] ((bif m 17 then [(x79, cb (cIX (⟨dit, da, dc⟩ : IX)) 53)] else []) ++ ((bif m 23 then [(x85, cb (cIX (⟨dit, pa, pc⟩ : IX)) 53)] else []) ++ (lpr ++ (lps ++ (lpsD ds ++ ((b6, cb (cOX oo) 49) :: (bk, cb [.map (some mb)] 90) :: (mb, .map es ck) :: (rb, cb [.slice aL R.length cL] 44) :: lr)))))) w1) Ty.mixed rfl rfl rfl (by kernel_rfl) rfl rfl ?hinit ?hstep ?htail
              case hinit => exact fun w1 hw => ⟨(0, 0), trivial, hw.drew⟩
              case hstep =>
                refine ⟨fun m x hm hp => ?_, fun m x hm hp => ?_, fun m x hm hp => ?_, fun m x hm hp => ?_, fun m x hm hp => ?_, fun m x hm hp => ?_, fun m x hm hp => ?_, fun m x hm hp => ?_, fun m x hm hp => ?_, fun m x hm hp => ?_, fun m x hm hp => ?_, fun m x hm hp => ?_, fun m x hm hp => ?_, fun m x hm hp => ?_, fun m x hm hp => ?_, fun m x hm hp => ?_, fun m x hm hp => ?_, fun m x hm hp => ?_, fun m x hm hp => ?_, fun m x hm hp => ?_, fun m x hm hp => ?_, fun m x hm hp => ?_, fun m x hm hp => ?_, fun m x hm hp => ?_, fun m x hm hp => ?_, fun m x hm hp => ?_, fun m x hm hp => ?_, trivial⟩
                · skip
                  obtain ⟨x79, x85⟩ := x
                  show J _ _ _ _ _ (_) _
                  refine J.pr (fun hF => ?_)
                  refine J.move rfl rfl ?_
                  exact J.finX rfl (fun _ hw => ⟨⟨x79, x85⟩, rfl, fun _ _ _ => rfl, hF, hw⟩)
                · skip
                  obtain ⟨x79, x85⟩ := x
                  show J _ _ _ _ _ (_) _
                  refine J.pr (fun hF => ?_)
                  refine J.move rfl rfl ?_
                  exact J.finX rfl (fun _ hw => ⟨⟨x79, x85⟩, rfl, fun _ _ _ => rfl, hF, hw⟩)
                · skip
                  obtain ⟨x79, x85⟩ := x
                  show J _ _ _ _ _ ((63, .int .i64 ((k : Nat) : Int)) :: (62, .slice (some ⟨qd, 0, none⟩) ds.length cd) :: _) _
                  refine J.pr (fun hF => ?_)
                  refine J.indexAddrS Ty.el56 Ty.s61 rfl rfl (by omega) (by omega) rfl ?_
                  exact J.finX rfl (fun _ hw => ⟨⟨x79, x85⟩, rfl, fun _ _ _ => rfl, hF, hw⟩)
                · skip
                  obtain ⟨x79, x85⟩ := x
                  show J _ _ _ _ _ ((64, .pointer (some ⟨qd, 0 + (k : Int).toNat * 50, none⟩)) :: _) _
                  refine J.pr (fun hF => ?_)
                  refine J.fieldAddr Ty.fd61_0 rfl rfl ?_
                  exact J.finX rfl (fun _ hw => ⟨⟨x79, x85⟩, rfl, fun _ _ _ => rfl, hF, hw⟩)
                · skip
                  obtain ⟨x79, x85⟩ := x
                  show J _ _ _ _ _ ((65, .pointer (some ⟨qd, 0 + (k : Int).toNat * 50 + 0, none⟩)) :: _) _
                  refine J.pr (fun hF => ?_)
                  refine J.loadA (vs := cI dto) Ty.a23 Ty.s23 rfl rfl (fun w1 hw => dueF_at (r := 0) (vec_rowM hvd hw (by intro q hq; simp [hq])) hd rfl (by simp)) rfl ?_
                  exact J.finX rfl (fun _ hw => ⟨⟨x79, x85⟩, rfl, fun _ _ _ => rfl, hF, hw⟩)
                · skip
                  obtain ⟨x79, x85⟩ := x
                  show J _ _ _ _ _ (_) _
                  refine J.pr (fun hF => ?_)
                  refine J.move rfl rfl ?_
                  exact J.finX rfl (fun _ hw => ⟨⟨x79, x85⟩, rfl, fun _ _ _ => rfl, hF, hw⟩)
                · skip
                  obtain ⟨x79, x85⟩ := x
                  show J _ _ _ _ _ (_) _
                  refine J.pr (fun hF => ?_)
                  refine J.move rfl rfl ?_
                  exact J.finX rfl (fun _ hw => ⟨⟨x79, x85⟩, rfl, fun _ _ _ => rfl, hF, hw⟩)
                · skip
                  obtain ⟨x79, x85⟩ := x
                  show J _ _ _ _ _ ((68, .int .i64 ((k : Nat) : Int)) :: (67, .slice (some ⟨qr, 0, none⟩) (dueL (valF R) oo.a fs xs).length cr2) :: _) _
                  refine J.pr (fun hF => ?_)
                  refine J.indexAddrS Ty.el58 Ty.s62 rfl rfl (by omega) (by omega) rfl ?_
                  exact J.finX rfl (fun _ hw => ⟨⟨x79, x85⟩, rfl, fun _ _ _ => rfl, hF, hw⟩)
                · skip
                  obtain ⟨x79, x85⟩ := x
                  show J _ _ _ _ _ ((69, .pointer (some ⟨qr, 0 + (k : Int).toNat * 50, none⟩)) :: _) _
                  refine J.pr (fun hF => ?_)
                  refine J.fieldAddr Ty.fd62_0 rfl rfl ?_
                  exact J.finX rfl (fun _ hw => ⟨⟨x79, x85⟩, rfl, fun _ _ _ => rfl, hF, hw⟩)
                · skip
                  obtain ⟨x79, x85⟩ := x
                  show J _ _ _ _ _ ((70, .pointer (some ⟨qr, 0 + (k : Int).toNat * 50 + 0, none⟩)) :: _) _
                  refine J.pr (fun hF => ?_)
                  refine J.loadA (vs := cI dto) Ty.a23 Ty.s23 rfl rfl (fun w1 hw => rdueF_at (r := 0) (vec_rowM hv3 hw (by intro q hq; simp [hq])) hpk rfl (by simp)) rfl ?_
                  exact J.finX rfl (fun _ hw => ⟨⟨x79, x85⟩, rfl, fun _ _ _ => rfl, hF, hw⟩)
                · skip
                  obtain ⟨x79, x85⟩ := x
                  show J _ _ _ _ _ ((71, .agg (cI dto).toArray) :: (66, .agg (cI dto).toArray) :: _) _
                  refine J.pr (fun hF => ?_)
                  refine J.neI Ty.QI Ty.keyI rfl rfl rfl ?_
                  refine J.name 72 rfl (show _ = Value.bool false by simp) ?_
                  exact J.finX rfl (fun _ hw => ⟨⟨x79, x85⟩, rfl, fun _ _ _ => rfl, hF, hw⟩)
                · skip
                  obtain ⟨x79, x85⟩ := x
                  show J _ _ _ _ _ ((72, .bool false) :: _) _
                  refine J.pr (fun hF => ?_)
                  refine J.move rfl rfl ?_
                  exact J.finX rfl (fun _ hw => ⟨⟨x79, x85⟩, rfl, fun _ _ _ => rfl, hF, hw⟩)
                · skip
                  obtain ⟨x79, x85⟩ := x
                  show J _ _ _ _ _ ((73, .bool false) :: _) _
                  refine J.pr (fun hF => ?_)
                  first | refine J.skip rfl rfl rfl rfl rfl ?_ | refine J.skipU rfl rfl rfl rfl ?_ | (refine J.unguard rfl rfl rfl ?_; refine J.move rfl rfl ?_)
                  exact J.finX rfl (fun _ hw => ⟨⟨x79, x85⟩, rfl, fun _ _ _ => rfl, hF, hw⟩)
                · skip
                  obtain ⟨x79, x85⟩ := x
                  show J _ _ _ _ _ ((73, .bool false) :: _) _
                  refine J.pr (fun hF => ?_)
                  first | refine J.skip rfl rfl rfl rfl rfl ?_ | refine J.skipU rfl rfl rfl rfl ?_ | (refine J.unguard rfl rfl rfl ?_; refine J.move rfl rfl ?_)
                  exact J.finX rfl (fun _ hw => ⟨⟨x79, x85⟩, rfl, fun _ _ _ => rfl, hF, hw⟩)
                · skip
                  obtain ⟨x79, x85⟩ := x
                  show J _ _ _ _ _ ((73, .bool false) :: (75, .int .i64 ((k : Nat) : Int)) :: (74, .slice (some ⟨qd, 0, none⟩) ds.length cd) :: _) _
                  refine J.pr (fun hF => ?_)
                  refine J.unguard rfl rfl rfl ?_
                  refine J.indexAddrS Ty.el56 Ty.s61 rfl rfl (by omega) (by omega) rfl ?_
                  exact J.finX rfl (fun _ hw => ⟨⟨x79, x85⟩, rfl, fun _ _ _ => rfl, hF, hw⟩)
                · skip
                  obtain ⟨x79, x85⟩ := x
                  show J _ _ _ _ _ ((73, .bool false) :: (76, .pointer (some ⟨qd, 0 + (k : Int).toNat * 50, none⟩)) :: _) _
                  refine J.pr (fun hF => ?_)
                  first | refine J.skip rfl rfl rfl rfl rfl ?_ | refine J.skipU rfl rfl rfl rfl ?_ | (refine J.unguard rfl rfl rfl ?_; refine J.fieldAddr Ty.fd61_1 rfl rfl ?_)
                  exact J.finX rfl (fun _ hw => ⟨⟨x79, x85⟩, rfl, fun _ _ _ => rfl, hF, hw⟩)
                · skip
                  obtain ⟨x79, x85⟩ := x
                  show J _ _ _ _ _ ((73, .bool false) :: (77, .pointer (some ⟨qd, 0 + (k : Int).toNat * 50 + 16, none⟩)) :: _) _
                  refine J.pr (fun hF => ?_)
                  refine J.unguard rfl rfl rfl ?_
                  refine J.loadA (vs := cIT dit (.slice da dit.val.length dc)) Ty.a53 Ty.s53 rfl rfl (fun w1 hw => dueF_at (r := 16) (vec_rowM hvd hw (by intro q hq; simp [hq])) hd rfl (by simp)) rfl ?_
                  exact J.finX rfl (fun _ hw => ⟨⟨x79, x85⟩, rfl, fun _ _ _ => rfl, hF, hw⟩)
                · skip
                  obtain ⟨x79, x85⟩ := x
                  show J _ _ _ _ _ ((73, .bool false) :: (78, .agg (cIT dit (.slice da dit.val.length dc)).toArray) :: _) _
                  refine J.pr (fun hF => ?_)
                  refine J.unguard rfl rfl rfl ?_
                  refine J.buildSl (cs := cIX (⟨dit, da, dc⟩ : IX)) Ty.el47 Ty.s53 zItm rfl rfl rfl rfl (by kernel_rfl) rfl rfl (fun b79 => ?_)
                  refine J.nil (JX.finB rfl (fun w1 hw => ⟨⟨⟨b79, x85⟩, rfl, fun j h1 h2 => ?_, ?_⟩, trivial⟩))
                  · match j, h1 with
                    | 0, _ => (first | rfl | trivial)
                    | 1, _ => (first | rfl | trivial)
                    | 2, _ => (first | rfl | trivial)
                    | 3, _ => (first | rfl | trivial)
                    | 4, _ => (first | rfl | trivial)
                    | 5, _ => (first | rfl | trivial)
                    | 6, _ => (first | rfl | trivial)
                    | 7, _ => (first | rfl | trivial)
                    | 8, _ => (first | rfl | trivial)
                    | 9, _ => (first | rfl | trivial)
                    | 10, _ => (first | rfl | trivial)
                    | 11, _ => (first | rfl | trivial)
                    | 12, _ => (first | rfl | trivial)
                    | 13, _ => (first | rfl | trivial)
                    | 14, _ => (first | rfl | trivial)
                    | 15, _ => (first | rfl | trivial)
                    | 16, _ => (first | rfl | trivial)
                    | 17, _ => exact absurd (h2.symm.trans hm) (by decide)
                    | 18, _ => (first | rfl | trivial)
                    | 19, _ => (first | rfl | trivial)
                    | 20, _ => (first | rfl | trivial)
                    | 21, _ => (first | rfl | trivial)
                    | 22, _ => (first | rfl | trivial)
                    | 23, _ => (first | rfl | trivial)
                    | 24, _ => (first | rfl | trivial)
                    | 25, _ => (first | rfl | trivial)
                    | 26, _ => (first | rfl | trivial)
                    | j + 27, h1 => omega
                  show (True) ∧ St w [] ((bif true then [(b79, cb (cIX (⟨dit, da, dc⟩ : IX)) 53)] else []) ++ ((bif m 23 then [(x85, cb (cIX (⟨dit, pa, pc⟩ : IX)) 53)] else []) ++ (lpr ++ (lps ++ (lpsD ds ++ ((b6, cb (cOX oo) 49) :: (bk, cb [.map (some mb)] 90) :: (mb, .map es ck) :: (rb, cb [.slice aL R.length cL] 44) :: lr)))))) w1
                  simp only [hm, cond_true, cond_false] at hw ⊢
                  exact ⟨trivial, hw.perm (by (refine perm_cnt (fun _ => ?_)); simp only [cntB_append, cntB_cons, cntB_nil, Nat.add_zero, Nat.zero_add]; try ac_rfl)⟩
                · skip
                  obtain ⟨x79, x85⟩ := x
                  show J _ _ _ _ _ ((73, .bool false) :: _) _
                  refine J.pr (fun hF => ?_)
                  first | refine J.skip rfl rfl rfl rfl rfl ?_ | refine J.skipU rfl rfl rfl rfl ?_ | (refine J.unguard rfl rfl rfl ?_; refine J.move rfl rfl ?_)
                  exact J.finX rfl (fun _ hw => ⟨⟨x79, x85⟩, rfl, fun _ _ _ => rfl, hF, hw⟩)
                · skip
                  obtain ⟨x79, x85⟩ := x
                  show J _ _ _ _ _ ((73, .bool false) :: _) _
                  refine J.pr (fun hF => ?_)
                  first | refine J.skip rfl rfl rfl rfl rfl ?_ | refine J.skipU rfl rfl rfl rfl ?_ | (refine J.unguard rfl rfl rfl ?_; refine J.move rfl rfl ?_)
                  exact J.finX rfl (fun _ hw => ⟨⟨x79, x85⟩, rfl, fun _ _ _ => rfl, hF, hw⟩)
                · skip
                  obtain ⟨x79, x85⟩ := x
                  show J _ _ _ _ _ ((73, .bool false) :: (81, .int .i64 ((k : Nat) : Int)) :: (80, .slice (some ⟨qr, 0, none⟩) (dueL (valF R) oo.a fs xs).length cr2) :: _) _
                  refine J.pr (fun hF => ?_)
                  refine J.unguard rfl rfl rfl ?_
                  refine J.indexAddrS Ty.el58 Ty.s62 rfl rfl (by omega) (by omega) rfl ?_
                  exact J.finX rfl (fun _ hw => ⟨⟨x79, x85⟩, rfl, fun _ _ _ => rfl, hF, hw⟩)
                · skip
                  obtain ⟨x79, x85⟩ := x
                  show J _ _ _ _ _ ((73, .bool false) :: (82, .pointer (some ⟨qr, 0 + (k : Int).toNat * 50, none⟩)) :: _) _
                  refine J.pr (fun hF => ?_)
                  first | refine J.skip rfl rfl rfl rfl rfl ?_ | refine J.skipU rfl rfl rfl rfl ?_ | (refine J.unguard rfl rfl rfl ?_; refine J.fieldAddr Ty.fd62_1 rfl rfl ?_)
                  exact J.finX rfl (fun _ hw => ⟨⟨x79, x85⟩, rfl, fun _ _ _ => rfl, hF, hw⟩)
                · skip
                  obtain ⟨x79, x85⟩ := x
                  show J _ _ _ _ _ ((73, .bool false) :: (83, .pointer (some ⟨qr, 0 + (k : Int).toNat * 50 + 16, none⟩)) :: _) _
                  refine J.pr (fun hF => ?_)
                  refine J.unguard rfl rfl rfl ?_
                  refine J.loadA (vs := cIX (⟨dit, pa, pc⟩ : IX)) Ty.a53 Ty.s53 rfl rfl (fun w1 hw => rdueF_at (r := 16) (vec_rowM hv3 hw (by intro q hq; simp [hq])) hpk rfl (by simp)) rfl ?_
                  exact J.finX rfl (fun _ hw => ⟨⟨x79, x85⟩, rfl, fun _ _ _ => rfl, hF, hw⟩)
                · skip
                  obtain ⟨x79, x85⟩ := x
                  show J _ _ _ _ _ ((73, .bool false) :: (84, .agg (cIX (⟨dit, pa, pc⟩ : IX)).toArray) :: _) _
                  refine J.pr (fun hF => ?_)
                  refine J.unguard rfl rfl rfl ?_
                  refine J.buildSl (cs := cIX (⟨dit, pa, pc⟩ : IX)) Ty.el47 Ty.s53 zItm rfl rfl rfl rfl (by kernel_rfl) rfl rfl (fun b85 => ?_)
                  refine J.nil (JX.finB rfl (fun w1 hw => ⟨⟨⟨x79, b85⟩, rfl, fun j h1 h2 => ?_, ?_⟩, trivial⟩))
                  · match j, h1 with
                    | 0, _ => (first | rfl | trivial)
                    | 1, _ => (first | rfl | trivial)
                    | 2, _ => (first | rfl | trivial)
                    | 3, _ => (first | rfl | trivial)
                    | 4, _ => (first | rfl | trivial)
                    | 5, _ => (first | rfl | trivial)
                    | 6, _ => (first | rfl | trivial)
                    | 7, _ => (first | rfl | trivial)
                    | 8, _ => (first | rfl | trivial)
                    | 9, _ => (first | rfl | trivial)
                    | 10, _ => (first | rfl | trivial)
                    | 11, _ => (first | rfl | trivial)
                    | 12, _ => (first | rfl | trivial)
                    | 13, _ => (first | rfl | trivial)
                    | 14, _ => (first | rfl | trivial)
                    | 15, _ => (first | rfl | trivial)
                    | 16, _ => (first | rfl | trivial)
                    | 17, _ => (first | rfl | trivial)
                    | 18, _ => (first | rfl | trivial)
                    | 19, _ => (first | rfl | trivial)
                    | 20, _ => (first | rfl | trivial)
                    | 21, _ => (first | rfl | trivial)
                    | 22, _ => (first | rfl | trivial)
                    | 23, _ => exact absurd (h2.symm.trans hm) (by decide)
                    | 24, _ => (first | rfl | trivial)
                    | 25, _ => (first | rfl | trivial)
                    | 26, _ => (first | rfl | trivial)
                    | j + 27, h1 => omega
                  show (True) ∧ St w [] ((bif m 17 then [(x79, cb (cIX (⟨dit, da, dc⟩ : IX)) 53)] else []) ++ ((bif true then [(b85, cb (cIX (⟨dit, pa, pc⟩ : IX)) 53)] else []) ++ (lpr ++ (lps ++ (lpsD ds ++ ((b6, cb (cOX oo) 49) :: (bk, cb [.map (some mb)] 90) :: (mb, .map es ck) :: (rb, cb [.slice aL R.length cL] 44) :: lr)))))) w1
                  simp only [hm, cond_true, cond_false] at hw ⊢
                  exact ⟨trivial, hw.perm (by (refine perm_cnt (fun _ => ?_)); simp only [cntB_append, cntB_cons, cntB_nil, Nat.add_zero, Nat.zero_add]; try ac_rfl)⟩
                · skip
                  obtain ⟨x79, x85⟩ := x
                  show J _ _ _ _ _ ((73, .bool false) :: (73, .bool false) :: (85, .slice (some ⟨x85, 0, none⟩) 1 1) :: (79, .slice (some ⟨x79, 0, none⟩) 1 1) :: _) _
                  have hp17 : m 17 = true := predsT hp (by kernel_rfl)
                  have hp23 : m 23 = true := predsT hp (by kernel_rfl)
                  refine J.pr (fun hF => ?_)
                  refine J.conseq (I' := St w [] ((x79, cb (cIX (⟨dit, da, dc⟩ : IX)) 53) :: (x85, cb (cIX (⟨dit, pa, pc⟩ : IX)) 53) :: (lpr ++ (lps ++ (lpsD ds ++ ((b6, cb (cOX oo) 49) :: (bk, cb [.map (some mb)] 90) :: (mb, .map es ck) :: (rb, cb [.slice aL R.length cL] 44) :: lr)))))) ?_ (fun w1 hw => by simp only [hp17, hp23, cond_true] at hw; exact hw)
                  refine J.unguard rfl rfl rfl ?_
                  refine J.callB (v := .bool true) (fun w1 w2 hw hb => hw.step hb) Ty.bd32 rfl rfl (fun w1 hw => same18_spec dit hpo da pa dc pc x79 x85 w1 (hw.own ((x79, cb (cIX (⟨dit, da, dc⟩ : IX)) 53)) (.head _)) (hw.own ((x85, cb (cIX (⟨dit, pa, pc⟩ : IX)) 53)) (.tail _ (.head _))) (vec_rowM hdv hw (fun q hq => List.mem_cons_of_mem _ (List.mem_cons_of_mem _ (List.mem_append_right _ (List.mem_append_right _ (List.mem_append_left _ (lps_mem hdm q hq))))))) (hpr.below (hw.drop (List.nil_sublist _)).below)) ?_
                  refine J.nil (JX.finB rfl (fun w1 hw => ⟨⟨⟨x79, x85⟩, rfl, fun j h1 h2 => ?_, ?_⟩, trivial⟩))
                  · match j, h1 with
                    | 0, _ => (first | rfl | trivial)
                    | 1, _ => (first | rfl | trivial)
                    | 2, _ => (first | rfl | trivial)
                    | 3, _ => (first | rfl | trivial)
                    | 4, _ => (first | rfl | trivial)
                    | 5, _ => (first | rfl | trivial)
                    | 6, _ => (first | rfl | trivial)
                    | 7, _ => (first | rfl | trivial)
                    | 8, _ => (first | rfl | trivial)
                    | 9, _ => (first | rfl | trivial)
                    | 10, _ => (first | rfl | trivial)
                    | 11, _ => (first | rfl | trivial)
                    | 12, _ => (first | rfl | trivial)
                    | 13, _ => (first | rfl | trivial)
                    | 14, _ => (first | rfl | trivial)
                    | 15, _ => (first | rfl | trivial)
                    | 16, _ => (first | rfl | trivial)
                    | 17, _ => (first | rfl | trivial)
                    | 18, _ => (first | rfl | trivial)
                    | 19, _ => (first | rfl | trivial)
                    | 20, _ => (first | rfl | trivial)
                    | 21, _ => (first | rfl | trivial)
                    | 22, _ => (first | rfl | trivial)
                    | 23, _ => (first | rfl | trivial)
                    | 24, _ => (first | rfl | trivial)
                    | 25, _ => (first | rfl | trivial)
                    | 26, _ => (first | rfl | trivial)
                    | j + 27, h1 => omega
                  show (True) ∧ St w [] ((bif m 17 then [(x79, cb (cIX (⟨dit, da, dc⟩ : IX)) 53)] else []) ++ ((bif m 23 then [(x85, cb (cIX (⟨dit, pa, pc⟩ : IX)) 53)] else []) ++ (lpr ++ (lps ++ (lpsD ds ++ ((b6, cb (cOX oo) 49) :: (bk, cb [.map (some mb)] 90) :: (mb, .map es ck) :: (rb, cb [.slice aL R.length cL] 44) :: lr)))))) w1
                  simp only [hp17, hp23, cond_true] at hw ⊢
                  exact ⟨trivial, hw⟩
                · skip
                  obtain ⟨x79, x85⟩ := x
                  show J _ _ _ _ _ ((73, .bool false) :: (86, .bool true) :: _) _
                  refine J.pr (fun hF => ?_)
                  first | refine J.skip rfl rfl rfl rfl rfl ?_ | refine J.skipU rfl rfl rfl rfl ?_ | (refine J.unguard rfl rfl rfl ?_; refine J.not rfl rfl ?_)
                  exact J.finX rfl (fun _ hw => ⟨⟨x79, x85⟩, rfl, fun _ _ _ => rfl, hF, hw⟩)
                · skip
                  obtain ⟨x79, x85⟩ := x
                  show J _ _ _ _ _ ((87, .bool false) :: (73, .bool false) :: _) _
                  refine J.pr (fun hF => ?_)
                  (first | refine J.pickT rfl rfl rfl ?_ | refine J.pickF rfl rfl rfl ?_)
                  exact J.finX rfl (fun _ hw => ⟨⟨x79, x85⟩, rfl, fun _ _ _ => rfl, hF, hw⟩)
              case htail =>
                intro x
                obtain ⟨x79, x85⟩ := x
                show J _ _ _ _ _ ((88, .bool false) :: (87, .bool false) :: (86, .bool true) :: (85, .slice (some ⟨x85, 0, none⟩) 1 1) :: (84, .agg (cIX (⟨dit, pa, pc⟩ : IX)).toArray) :: (83, .pointer (some ⟨qr, 0 + (k : Int).toNat * 50 + 16, none⟩)) :: (82, .pointer (some ⟨qr, 0 + (k : Int).toNat * 50, none⟩)) :: (81, .int .i64 ((k : Nat) : Int)) :: (80, .slice (some ⟨qr, 0, none⟩) (dueL (valF R) oo.a fs xs).length cr2) :: (79, .slice (some ⟨x79, 0, none⟩) 1 1) :: (78, .agg (cIT dit (.slice da dit.val.length dc)).toArray) :: (77, .pointer (some ⟨qd, 0 + (k : Int).toNat * 50 + 16, none⟩)) :: (76, .pointer (some ⟨qd, 0 + (k : Int).toNat * 50, none⟩)) :: (75, .int .i64 ((k : Nat) : Int)) :: (74, .slice (some ⟨qd, 0, none⟩) ds.length cd) :: (73, .bool false) :: (72, .bool false) :: (71, .agg (cI dto).toArray) :: (70, .pointer (some ⟨qr, 0 + (k : Int).toNat * 50 + 0, none⟩)) :: (69, .pointer (some ⟨qr, 0 + (k : Int).toNat * 50, none⟩)) :: (68, .int .i64 ((k : Nat) : Int)) :: (67, .slice (some ⟨qr, 0, none⟩) (dueL (valF R) oo.a fs xs).length cr2) :: (66, .agg (cI dto).toArray) :: (65, .pointer (some ⟨qd, 0 + (k : Int).toNat * 50 + 0, none⟩)) :: (64, .pointer (some ⟨qd, 0 + (k : Int).toNat * 50, none⟩)) :: (63, .int .i64 ((k : Nat) : Int)) :: (62, .slice (some ⟨qd, 0, none⟩) ds.length cd) :: _) (fun w1 => (True) ∧ St w [] ((bif true then [(x79, cb (cIX (⟨dit, da, dc⟩ : IX)) 53)] else []) ++ ((bif true then [(x85, cb (cIX (⟨dit, pa, pc⟩ : IX)) 53)] else []) ++ (lpr ++ (lps ++ (lpsD ds ++ ((b6, cb (cOX oo) 49) :: (bk, cb [.map (some mb)] 90) :: (mb, .map es ck) :: (rb, cb [.slice aL R.length cL] 44) :: lr)))))) w1)
                refine J.pr (fun hF => ?_)
                refine J.conseq (I' := St w [] (lpr ++ (lps ++ (lpsD ds ++ ((b6, cb (cOX oo) 49) :: (bk, cb [.map (some mb)] 90) :: (mb, .map es ck) :: (rb, cb [.slice aL R.length cL] 44) :: lr))))) ?_ (fun w1 hw => by simp only [cond_true] at hw; exact hw.drop (List.sublist_append_right [_, _] _))
                refine J.nil ?_
                refine JX.thenN (hK30 _ _ ?_)
                first | refine JC.condF rfl ?_ | refine JC.cond rfl (fun h => by first | (exfalso; simp at h; omega) | (simp at h)) (fun _ => ?_)
                refine JC.skip ?_
                refine JX.blockN ?_
                refine JX.thenN (hK28 _ _ ?_)
                refine JC.region ?_
                (first | refine J.addN rfl rfl (by omega) (by omega) rfl ?_ | refine J.bin rfl rfl rfl rfl ?_)
                refine J.move rfl rfl ?_
                refine J.nil ?_
                refine JX.thenN ?_
                refine JX.again (k + 1) ?_ ?_ ?_
                · omega
                · exact ⟨rfl, rfl, rfl, rfl, rfl, rfl, rfl, rfl, rfl, trivial⟩
                · exact fun w1 hw => ⟨hlk, hw⟩
            · skip
              skip
              refine JC.exit ?_
              refine JX.thenE ?_
              refine JX.thenE ?_
              refine JX.blockE ?_
              refine JX.thenN (hK24 _ _ ?_)
              refine JC.seq (fun K31 hK31 => ?_)
              refine JC.region ?_
              refine J.move rfl rfl ?_
              refine J.lenS rfl Ty.u56 rfl rfl ?_
              refine J.move rfl rfl ?_
              refine J.nil ?_
              refine JX.thenN (hK31 _ _ ?_)
              refine JC.block ?_
              refine JC.conseq (JC.cov (f := (fun k => [(3, .pointer (some ⟨bk, 0, none⟩)), (4, .pointer (some ⟨rb, 0, none⟩)), (23, .slice aops ops.length cops), (24, .int .i64 ((ops.length : Nat) : Int)), (25, .int .i64 ((i : Nat) : Int)), (9, .slice ad ds.length cd), (91, .int .i64 ((ds.length : Nat) : Int)), (92, .int .i64 ((k : Nat) : Int))]) 0) ⟨rfl, rfl, rfl, rfl, rfl, rfl, rfl, rfl, trivial⟩ (JC.loop (α := Nat) (fun k => [(3, .pointer (some ⟨bk, 0, none⟩)), (4, .pointer (some ⟨rb, 0, none⟩)), (23, .slice aops ops.length cops), (24, .int .i64 ((ops.length : Nat) : Int)), (25, .int .i64 ((i : Nat) : Int)), (9, .slice ad ds.length cd), (91, .int .i64 ((ds.length : Nat) : Int)), (92, .int .i64 ((k : Nat) : Int))]) (fun k w' => (k ≤ ds.length) ∧ St w [] (lps ++ (lpsD (ds.drop k) ++ ((b6, cb (cOX oo) 49) :: (bk, cb [.map (some mb)] 90) :: (mb, .map es ck) :: (rb, cb [.slice aL R.length cL] 44) :: lr))) w') (fun k => ds.length - k) 0 (fun k => ?_))) (fun w hw => ⟨Nat.zero_le _, hw.drop (List.sublist_append_right _ _)⟩)
              refine JC.pr (fun hk => ?_)
              refine JC.seq (fun K32 hK32 => ?_)
              refine JC.region ?_
              refine J.bin rfl rfl rfl rfl ?_
              refine J.nil ?_
              refine JX.thenN (hK32 _ _ ?_)
              refine JC.seq (fun K33 hK33 => ?_)
              refine JC.cond rfl (fun h8 => ?_) (fun h8 => ?_)
              · skip
                have hlk : k < ds.length := by simp at h8; omega
                obtain ⟨d, hd⟩ : ∃ x, ds[k]? = some x := ⟨_, List.getElem?_eq_getElem hlk⟩
                have hdv : Vec 5 1 (.slice d.a d.it.val.length d.c) d.it.val.length (d.it.val.map u8) d.lp := hokd d (List.mem_of_getElem? hd)
                have hdl : d.it.val.length ≤ 140737488355328 := by
                  obtain ⟨p, hpk⟩ : ∃ x, (dueL (valF R) oo.a fs xs)[k]? = some x := ⟨_, List.getElem?_eq_getElem (by omega)⟩
                  rw [(hsh.at hd hpk).2]
                  exact hlen _ (due_mem (List.mem_of_getElem? hpk))
                have hdrop := lps_drop hd
                rw [hdrop]
                obtain ⟨qd, rfl⟩ : ∃ q, ad = some ⟨q, 0, none⟩ := by
                  rcases hvd.2 with ⟨_, h9, _⟩ | ⟨q, c9, sp, h9, _⟩
                  · omega
                  · simp only [Value.slice.injEq] at h9; exact ⟨q, h9.1⟩
                refine JC.skip ?_
                refine JX.thenN (hK33 _ _ ?_)
                refine JC.seq (fun K34 hK34 => ?_)
                refine JC.block ?_
                refine JC.seq (fun K35 hK35 => ?_)
                refine JC.region ?_
                refine J.move rfl rfl ?_
                refine J.assign rfl rfl ?_
                refine J.nil ?_
                refine JX.thenN (hK35 _ _ ?_)
                refine JC.seq (fun K36 hK36 => ?_)
                refine JC.region ?_
                refine J.move rfl rfl ?_
                refine J.move rfl rfl ?_
                refine J.indexAddrS Ty.el56 Ty.s61 rfl rfl (by omega) (by omega) rfl ?_
                refine J.fieldAddr Ty.fd61_1 rfl rfl ?_
                refine J.fieldAddr Ty.fd53_2 rfl rfl ?_
                refine J.load1 (v := .slice d.a d.it.val.length d.c) Ty.a51 rfl (fun w1 hw => dueV_at (vec_rowM hvd hw (by intro q hq; simp [hq])) hd (by simp)) rfl ?_
                refine J.lenS rfl Ty.u51 rfl rfl ?_
                refine J.move rfl rfl ?_
                refine J.nil ?_
                refine JX.thenN (hK36 _ _ ?_)
                refine JC.block ?_
                refine JC.conseq (JC.cov (f := (fun st => [(3, .pointer (some ⟨bk, 0, none⟩)), (4, .pointer (some ⟨rb, 0, none⟩)), (23, .slice aops ops.length cops), (24, .int .i64 ((ops.length : Nat) : Int)), (25, .int .i64 ((i : Nat) : Int)), (9, .slice (some ⟨qd, 0, none⟩) ds.length cd), (12, .int .i64 ((k : Nat) : Int)), (91, .int .i64 ((ds.length : Nat) : Int)), (92, .int .i64 ((k : Nat) : Int)), (101, .int .i64 ((d.it.val.length : Nat) : Int)), (102, .int .i64 ((st.1 : Nat) : Int))]) ((0, d.it.val, d.lp) : Nat × List UInt8 × List (Nat × Obj))) ⟨rfl, rfl, rfl, rfl, rfl, rfl, rfl, rfl, rfl, rfl, rfl, trivial⟩ (JC.loop (α := Nat × List UInt8 × List (Nat × Obj)) (fun st => [(3, .pointer (some ⟨bk, 0, none⟩)), (4, .pointer (some ⟨rb, 0, none⟩)), (23, .slice aops ops.length cops), (24, .int .i64 ((ops.length : Nat) : Int)), (25, .int .i64 ((i : Nat) : Int)), (9, .slice (some ⟨qd, 0, none⟩) ds.length cd), (12, .int .i64 ((k : Nat) : Int)), (91, .int .i64 ((ds.length : Nat) : Int)), (92, .int .i64 ((k : Nat) : Int)), (101, .int .i64 ((d.it.val.length : Nat) : Int)), (102, .int .i64 ((st.1 : Nat) : Int))]) (fun st w' => (st.1 ≤ d.it.val.length ∧ Vec 5 1 (.slice d.a d.it.val.length d.c) d.it.val.length (st.2.1.map u8) st.2.2) ∧ St w [] (st.2.2 ++ (lps ++ (lpsD (ds.drop (k + 1)) ++ ((b6, cb (cOX oo) 49) :: (bk, cb [.map (some mb)] 90) :: (mb, .map es ck) :: (rb, cb [.slice aL R.length cL] 44) :: lr)))) w') (fun st => d.it.val.length - st.1) ((0, d.it.val, d.lp) : Nat × List UInt8 × List (Nat × Obj)) (fun st => ?_))) (fun w hw => ⟨⟨Nat.zero_le _, hdv⟩, hw.perm (by (refine perm_cnt (fun _ => ?_)); simp only [cntB_append, cntB_cons, cntB_nil, Nat.add_zero, Nat.zero_add]; try ac_rfl)⟩)
                obtain ⟨j, ys, lj⟩ := st
                refine JC.pr (fun hx3 => ?_)
                obtain ⟨hj, hvy⟩ := hx3
                try simp only at hj hvy ⊢
                refine JC.seq (fun K37 hK37 => ?_)
                refine JC.region ?_
                refine J.bin rfl rfl rfl rfl ?_
                refine J.nil ?_
                refine JX.thenN (hK37 _ _ ?_)
                refine JC.seq (fun K38 hK38 => ?_)
                refine JC.cond rfl (fun h9 => ?_) (fun h9 => ?_)
                · skip
                  have hlj : j < d.it.val.length := by simp at h9; omega
                  obtain ⟨q8, sp8, hqa, rfl, hyl, hset⟩ := hvy.at hlj
                  refine JC.skip ?_
                  refine JX.thenN (hK38 _ _ ?_)
                  refine JC.seq (fun K39 hK39 => ?_)
                  refine JC.block ?_
                  refine JC.seq (fun K40 hK40 => ?_)
                  refine JC.region ?_
                  refine J.move rfl rfl ?_
                  refine J.assign rfl rfl ?_
                  refine J.nil ?_
                  refine JX.thenN (hK40 _ _ ?_)
                  refine JC.region ?_
                  refine J.move rfl rfl ?_
                  refine J.move rfl rfl ?_
                  refine J.indexAddrS Ty.el56 Ty.s61 rfl rfl (by omega) (by omega) rfl ?_
                  refine J.fieldAddr Ty.fd61_1 rfl rfl ?_
                  refine J.fieldAddr Ty.fd53_2 rfl rfl ?_
                  refine J.load1 (v := .slice d.a d.it.val.length d.c) Ty.a51 rfl (fun w1 hw => dueV_at (vec_rowM hvd hw (by intro q hq; simp [hq])) hd (by simp)) rfl ?_
                  refine J.name 110 rfl (show _ = Value.slice (some ⟨q8, 0, none⟩) d.it.val.length d.c by rw [hqa]) ?_
                  refine J.move rfl rfl ?_
                  refine J.indexAddrS Ty.el51 Ty.s5 rfl rfl (by omega) (by omega) rfl ?_
                  refine J.loadO (v := u8 (ys[j]'(by omega))) Ty.a5 rfl (.head _) (at_u8 (by omega)) rfl ?_
                  refine J.bin rfl rfl rfl rfl ?_
                  refine J.name 114 rfl (u8_succ (ys[j]'(by omega))) ?_
                  refine J.indexAddrS Ty.el51 Ty.s5 rfl rfl (by omega) (by omega) rfl ?_
                  refine J.storeO (vs := [u8 (ys[j]'(by omega) + 1)]) Ty.s5 rfl rfl rfl rfl (by simp [Value.oneCell']) .here (by simp; omega) ?_
                  refine J.nil ?_
                  refine JX.blockN ?_
                  refine JX.thenN (hK39 _ _ ?_)
                  refine JC.region ?_
                  (first | refine J.addN rfl rfl (by omega) (by omega) rfl ?_ | refine J.bin rfl rfl rfl rfl ?_)
                  refine J.move rfl rfl ?_
                  refine J.nil ?_
                  refine JX.thenN ?_
                  refine JX.again ((j + 1, ys.set j (ys[j]'(by omega) + 1), [(q8, cb (setMany (ys.map u8 ++ sp8) (0 + (j : Int).toNat * 1) [u8 (ys[j]'(by omega) + 1)]) 5)]) : Nat × List UInt8 × List (Nat × Obj)) ?_ ?_ ?_
                  · simp only; omega
                  · exact ⟨rfl, rfl, rfl, rfl, rfl, rfl, rfl, rfl, rfl, rfl, rfl, trivial⟩
                  · exact fun w1 hw => ⟨⟨hlj, by have h9 := hset (ys[j]'(by omega) + 1); rw [← hqa] at h9; exact h9⟩, hw⟩
                · skip
                  skip
                  refine JC.exit ?_
                  refine JX.thenE ?_
                  refine JX.thenE ?_
                  refine JX.blockE ?_
                  refine JX.blockN ?_
                  refine JX.thenN (hK34 _ _ ?_)
                  refine JC.region ?_
                  (first | refine J.addN rfl rfl (by omega) (by omega) rfl ?_ | refine J.bin rfl rfl rfl rfl ?_)
                  refine J.move rfl rfl ?_
                  refine J.nil ?_
                  refine JX.thenN ?_
                  refine JX.again (k + 1) ?_ ?_ ?_
                  · omega
                  · exact ⟨rfl, rfl, rfl, rfl, rfl, rfl, rfl, rfl, trivial⟩
                  · exact fun w1 hw => ⟨hlk, hw.drop (List.sublist_append_right _ _)⟩
              · skip
                skip
                refine JC.exit ?_
                refine JX.thenE ?_
                refine JX.thenE ?_
                refine JX.blockE ?_
                refine JX.blockN ?_
                refine JX.blockN ?_
                refine JX.thenN (hK9 _ _ ?_)
                refine JC.region ?_
                (first | refine J.addN rfl rfl (by omega) (by omega) rfl ?_ | refine J.bin rfl rfl rfl rfl ?_)
                refine J.move rfl rfl ?_
                refine J.nil ?_
                refine JX.thenN ?_
                refine JX.again (⟨i + 1, es, ck, .slice aL R.length cL, R, lr⟩ : PlS) ?_ ?_ ?_
                · simp only; omega
                · exact ⟨rfl, rfl, rfl, rfl, rfl, trivial⟩
                · exact fun w1 hw => ⟨⟨hlt, hT, hvr, by show R.length ≤ i + 1; omega, hRok⟩, (hw.perm (l' := (lps ++ (lpsD (ds.drop k) ++ [(b6, cb (cOX oo) 49)])) ++ ((bk, cb [.map (some mb)] 90) :: (mb, .map es ck) :: (rb, cb [.slice aL R.length cL] 44) :: lr)) (by (refine perm_cnt (fun _ => ?_)); simp only [cntB_append, cntB_cons, cntB_nil, Nat.add_zero, Nat.zero_add]; try ac_rfl)).drop (List.sublist_append_right _ _)⟩
  · skip
    skip
    refine JC.exit ?_
    refine JX.thenE ?_
    refine JX.thenE ?_
    refine JX.blockE ?_
    refine JX.thenN (hK5 _ _ ?_)
    refine JC.seq (fun K41 hK41 => ?_)
    refine JC.region ?_
    refine J.assign rfl rfl ?_
    refine J.nil ?_
    refine JX.thenN (hK41 _ _ ?_)
    refine JC.ret ?_
    refine JX.ret1 rfl rfl (fun w hw => ?_)
    exact ⟨rfl, (hw.drop (List.nil_sublist _)).below⟩

end Go.Proofs.Ytbafhclandendaa
/-
  CopiesMarked: items that come in; plain laws; the walk.
-/
namespace Go.Proofs.Ytbafhclandendaa
open Go.J Go.RowKit
set_option linter.unusedVariables false
set_option linter.unusedSimpArgs false
set_option maxRecDepth 8000
def RVerW : World → List Value → WV → Prop := fun _ cs x => cs = cV x ∧ okN x.n
def RItX : World → List Value → IX → Prop := fun W cs x => cs = cIX x ∧ okN x.it.ver.n ∧ RSl 1 1 RU8 W [x.v] ⟨x.a, x.c, x.it.val⟩
theorem fsVer : fieldsT Try.prog 46 = some [(2, 0, 1), (23, 1, 16)] := by kernel_rfl
theorem fsItm : fieldsT Try.prog 53 = some [(23, 0, 16), (46, 16, 17), (51, 33, 1)] := by kernel_rfl
theorem split2' {cs a b : List Value} {k m : Nat} (h1 : (cs.drop 0).take k = a) (h2 : (cs.drop k).take m = b) (hl : cs.length = k + m) : cs = a ++ b := by
  rw [List.drop_zero] at h1
  have h3 : (cs.drop k).take m = cs.drop k := List.take_of_length_le (by rw [List.length_drop]; omega)
  rw [← h1, ← h2, h3, List.take_append_drop]
theorem dec_verW : Decodes Try.prog 46 RVerW := by
  intro H enc w fuel cs x h hn
  have hl := dec_len Ty.a46 Ty.s46 h
  obtain ⟨n, hi, wi⟩ := dec_field fsVer h hn 0 _ rfl (dec_int Ty.u2)
  obtain ⟨a, ha⟩ := dec_field fsVer h hn 1 _ rfl dec_id
  exact ⟨⟨n, a⟩, split2' (k := 1) (m := 16) hi ha hl, wi⟩
theorem dec_itX : Decodes Try.prog 53 RItX := by
  intro H enc w fuel cs x h hn
  have hl := dec_len Ty.a53 Ty.s53 h
  obtain ⟨k, hk⟩ := dec_field fsItm h hn 0 _ rfl dec_id
  obtain ⟨b, hb, wb⟩ := dec_field fsItm h hn 1 _ rfl dec_verW
  obtain ⟨v, hv⟩ := dec_field fsItm h hn 2 _ rfl (dec_slice Ty.el51 Ty.s5 Ty.b5 (by omega) (dec_u8 Ty.u5))
  have hd : ∀ (k j : Nat), (cs.drop k).drop j = cs.drop (k + j) := fun k j => by rw [List.drop_drop]
  have e2 : (cs.drop 33).take 1 = [v.v] := hv.1
  have e1 : cs.drop 16 = cV b ++ [v.v] := split2' (k := 17) (m := 1) (by simpa using hb) (by rw [hd]; exact e2) (by simp; omega)
  have e0 : cs = cI k ++ cs.drop 16 := split2' (k := 16) (m := 18) hk (List.take_of_length_le (by simp; omega)) hl
  refine ⟨⟨⟨k, b, v.xs⟩, v.a, v.c⟩, ?_, wb, ?_⟩
  · show cs = cI k ++ cV b ++ [v.v]
    rw [e0, e1]; rfl
  · have := hv; rw [show ((cs.drop (_ : Nat)).take _) = [v.v] from e2] at this; exact this

end Go.Proofs.Ytbafhclandendaa
/-
  CopiesPlays: scripts that come in.
-/
namespace Go.Proofs.Ytbafhclandendaa
open Go.J Go.RowKit
set_option linter.unusedVariables false
set_option linter.unusedSimpArgs false
set_option maxRecDepth 8000
def ROpX : World → List Value → OpX → Prop := fun W cs o => cs = cOX o ∧ okN o.ver.n ∧ RSl 16 16 RId W [o.ids.v] o.ids ∧ RSl 34 64 RItX W [o.its.v] o.its
theorem fsOpX : fieldsT Try.prog 49 = some [(3, 0, 1), (23, 1, 16), (23, 17, 16), (46, 33, 17), (24, 50, 1), (47, 51, 1)] := by kernel_rfl
theorem dec_opX : Decodes Try.prog 49 ROpX := by
  intro H enc w fuel cs x h hn
  have hl := dec_len Ty.a49 Ty.s49 h
  obtain ⟨k, hk, _⟩ := dec_field fsOpX h hn 0 _ rfl (dec_int Ty.u3)
  obtain ⟨a, ha⟩ := dec_field fsOpX h hn 1 _ rfl dec_id
  obtain ⟨b, hb⟩ := dec_field fsOpX h hn 2 _ rfl dec_id
  obtain ⟨v, hv, wv⟩ := dec_field fsOpX h hn 3 _ rfl dec_verW
  obtain ⟨s, hs⟩ := dec_field fsOpX h hn 4 _ rfl (dec_slice Ty.el24 Ty.s23 Ty.b23 (by omega) dec_id)
  obtain ⟨t, ht⟩ := dec_field fsOpX h hn 5 _ rfl (dec_slice Ty.el47 Ty.s53 Ty.b53 (by omega) dec_itX)
  have hd : ∀ (k j : Nat), (cs.drop k).drop j = cs.drop (k + j) := fun k j => by rw [List.drop_drop]
  have e5 : (cs.drop 51).take 1 = [t.v] := ht.1
  have e4 : (cs.drop 50).take 1 = [s.v] := hs.1
  have q4 : cs.drop 50 = [s.v] ++ [t.v] := split2' (k := 1) (m := 1) (by simpa using e4) (by rw [hd]; exact e5) (by simp; omega)
  have q3 : cs.drop 33 = cV v ++ cs.drop 50 := split2' (k := 17) (m := 2) (by simpa using hv) (by rw [hd]; exact List.take_of_length_le (by simp; omega)) (by simp; omega)
  have q2 : cs.drop 17 = cI b ++ cs.drop 33 := split2' (k := 16) (m := 19) (by simpa [RId] using hb) (by rw [hd]; exact List.take_of_length_le (by simp; omega)) (by simp; omega)
  have q1 : cs.drop 1 = cI a ++ cs.drop 17 := split2' (k := 16) (m := 35) (by simpa [RId] using ha) (by rw [hd]; exact List.take_of_length_le (by simp; omega)) (by simp; omega)
  have q0 : cs = [Value.int .i64 k] ++ cs.drop 1 := split2' (k := 1) (m := 51) hk (List.take_of_length_le (by simp; omega)) hl
  refine ⟨⟨k, a, b, v, s, t⟩, ?_, wv, ?_, ?_⟩
  · show cs = Value.int .i64 k :: (cI a ++ cI b ++ cV v ++ [s.v, t.v])
    rw [q0, q1, q2, q3, q4]; rfl
  · have := hs; rw [show ((cs.drop (_ : Nat)).take _) = [s.v] from e4] at this; exact this
  · have := ht; rw [show ((cs.drop (_ : Nat)).take _) = [t.v] from e5] at this; exact this
theorem rsl_mem {α : Type} {sz by_ : Nat} {R : World → List Value → α → Prop} {W : World} {s : Sl α} {cs : List Value} (h : RSl sz by_ R W cs s) {x : α} (hx : x ∈ s.xs) : ∃ c, R W c x := by
  obtain ⟨_, h1, _, h2⟩ := h
  rcases h2 with h2 | ⟨b, o, ha, h2⟩
  · rw [h2] at hx; cases hx
  · obtain ⟨i, hi, rfl⟩ := List.getElem_of_mem hx
    obtain ⟨c, _, _, hr⟩ := h2 i s.xs[i] (List.getElem?_eq_getElem hi)
    exact ⟨c, hr⟩
theorem opOk_of {W : World} {cs : List Value} {o : OpX} (h : ROpX W cs o) : OpOk W o := by
  obtain ⟨_, h1, h2, h3⟩ := h
  refine ⟨h1, rslI h2, rslG (c := cIX) (sz := 34) (fun _ => rfl) (by omega) (fun _ _ _ h => h.1) h3, fun x hx => ?_, fun x hx => ?_, fun x hx => ?_⟩
  · obtain ⟨c, hc⟩ := rsl_mem h3 hx
    exact hc.2.2.row
  · obtain ⟨c, hc⟩ := rsl_mem h3 hx
    exact hc.2.1
  · obtain ⟨c, hc⟩ := rsl_mem h3 hx
    obtain ⟨_, a1, a2, _⟩ := hc.2.2
    have h4 : reachBytes = 140737488351232 := rfl
    simp only at a1 a2
    omega
theorem copiesPlays_walk (w : World) (s : Sl OpX) (hs : RSl 52 112 ROpX w [s.v] s) :
    Calls Try.prog 6 [s.v].toArray w fun r w' => r = .returned (.bool true) ∧ Bel w w' := by
  have h1 : s.xs.length ≤ 140737488355328 := by
    obtain ⟨_, h1, h2, _⟩ := hs
    have h3 : reachBytes = 140737488351232 := rfl
    omega
  exact copiesPlays_spec s.v s.xs w (rslG (c := cOX) (sz := 52) (fun _ => rfl) (by omega) (fun _ _ _ h => h.1) hs) (fun o ho => by obtain ⟨c, hc⟩ := rsl_mem hs ho; exact opOk_of hc) h1
end Go.Proofs.Ytbafhclandendaa
