/-
  SeekOrder: texts that its proof needs, part 4.
-/
import Derived.Test.YtbafhclandendaaZSeekOrderc
/-
  What comes in for the laws of layer 17; SeekAsks: the walk.
-/
namespace Go.Proofs.Ytbafhclandendaa
open Go.J Go.RowKit
set_option linter.unusedVariables false
set_option linter.unusedSimpArgs false
set_option maxRecDepth 8000
def RCx : World → List Value → CV → Prop := fun W cs x => cs = cC x ∧ okC x
def RPx : World → List Value → PV → Prop := fun W cs x => cs = cP x ∧ okN x.n
structure KnV where
  me : IDV
  f : Sl IDV
  c : Sl CV
  half : Int
def RKn : World → List Value → KnV → Prop := fun W cs x => cs = cI x.me ++ [x.f.v, x.c.v, .int .i64 x.half] ∧ RSl 16 16 RId W [x.f.v] x.f ∧ RSl 35 56 RCx W [x.c.v] x.c
theorem fsPx : fieldsT Try.prog 73 = some [(23, 0, 16), (2, 16, 1)] := by kernel_rfl
theorem fsCx : fieldsT Try.prog 75 = some [(23, 0, 16), (3, 16, 1), (3, 17, 1), (73, 18, 17)] := by kernel_rfl
theorem fsKn : fieldsT Try.prog 70 = some [(23, 0, 16), (24, 16, 1), (68, 17, 1), (3, 18, 1)] := by kernel_rfl
theorem split2s {cs a b : List Value} {k m : Nat} (h1 : (cs.drop 0).take k = a) (h2 : (cs.drop k).take m = b) (hl : cs.length = k + m) : cs = a ++ b := by
  rw [List.drop_zero] at h1
  have h3 : (cs.drop k).take m = cs.drop k := List.take_of_length_le (by rw [List.length_drop]; omega)
  rw [← h1, ← h2, h3, List.take_append_drop]
theorem dec_path : Decodes Try.prog 73 RPx := by
  intro H enc w fuel cs x h hn
  have hl := dec_len Ty.a73 Ty.s73 h
  obtain ⟨a, ha⟩ := dec_field fsPx h hn 0 _ rfl dec_id
  obtain ⟨n, hi, wi⟩ := dec_field fsPx h hn 1 _ rfl (dec_int Ty.u2)
  exact ⟨⟨a, n⟩, split2s (k := 16) (m := 1) ha hi hl, wi⟩
theorem dec_cand : Decodes Try.prog 75 RCx := by
  intro H enc w fuel cs x h hn
  have hl := dec_len Ty.a75 Ty.s75 h
  obtain ⟨a, ha⟩ := dec_field fsCx h hn 0 _ rfl dec_id
  obtain ⟨l, hil, wl⟩ := dec_field fsCx h hn 1 _ rfl (dec_int Ty.u3)
  obtain ⟨n, hi, wn⟩ := dec_field fsCx h hn 2 _ rfl (dec_int Ty.u3)
  obtain ⟨p, hp, wp⟩ := dec_field fsCx h hn 3 _ rfl dec_path
  have hd : ∀ (k j : Nat), (cs.drop k).drop j = cs.drop (k + j) := fun k j => by rw [List.drop_drop]
  have q2 : cs.drop 17 = [Value.int .i64 n] ++ cP p := split2s (k := 1) (m := 17) (by simpa using hi) (by rw [hd]; exact hp) (by simp; omega)
  have q1 : cs.drop 16 = [Value.int .i64 l] ++ cs.drop 17 := split2s (k := 1) (m := 18) (by simpa using hil) (by rw [hd]; exact List.take_of_length_le (by simp; omega)) (by simp; omega)
  have q0 : cs = cI a ++ cs.drop 16 := split2s (k := 16) (m := 19) ha (List.take_of_length_le (by simp; omega)) hl
  refine ⟨⟨a, l, n, p⟩, ?_, wl, wn, wp⟩
  show cs = cI a ++ [Value.int .i64 l, Value.int .i64 n] ++ cP p
  rw [q0, q1, q2]; rfl
theorem dec_known : Decodes Try.prog 70 RKn := by
  intro H enc w fuel cs x h hn
  have hl := dec_len Ty.a70 Ty.s70 h
  obtain ⟨a, ha⟩ := dec_field fsKn h hn 0 _ rfl dec_id
  obtain ⟨s, hs⟩ := dec_field fsKn h hn 1 _ rfl (dec_slice Ty.el24 Ty.s23 Ty.b23 (by omega) dec_id)
  obtain ⟨t, ht⟩ := dec_field fsKn h hn 2 _ rfl (dec_slice Ty.el68 Ty.s75 Ty.b75 (by omega) dec_cand)
  obtain ⟨k, hk, _⟩ := dec_field fsKn h hn 3 _ rfl (dec_int Ty.u3)
  have hd : ∀ (k j : Nat), (cs.drop k).drop j = cs.drop (k + j) := fun k j => by rw [List.drop_drop]
  have e1 : (cs.drop 16).take 1 = [s.v] := hs.1
  have e2 : (cs.drop 17).take 1 = [t.v] := ht.1
  have q2 : cs.drop 17 = [t.v] ++ [Value.int .i64 k] := split2s (k := 1) (m := 1) (by simpa using e2) (by rw [hd]; exact hk) (by simp; omega)
  have q1 : cs.drop 16 = [s.v] ++ cs.drop 17 := split2s (k := 1) (m := 2) (by simpa using e1) (by rw [hd]; exact List.take_of_length_le (by simp; omega)) (by simp; omega)
  have q0 : cs = cI a ++ cs.drop 16 := split2s (k := 16) (m := 3) ha (List.take_of_length_le (by simp; omega)) hl
  refine ⟨⟨a, s, t, k⟩, ?_, ?_, ?_⟩
  · show cs = cI a ++ [s.v, t.v, Value.int .i64 k]
    rw [q0, q1, q2]; rfl
  · have := hs; rw [show ((cs.drop (_ : Nat)).take _) = [s.v] from e1] at this; exact this
  · have := ht; rw [show ((cs.drop (_ : Nat)).take _) = [t.v] from e2] at this; exact this
theorem RKn.rowF {W : World} {cs : List Value} {x : KnV} (h : RKn W cs x) : Row W x.f.v x.f.xs.length (fI x.f.xs) := rslG (c := cI) (sz := 16) (fun _ => rfl) (by omega) (fun _ _ _ h => h) h.2.1
theorem RKn.rowC {W : World} {cs : List Value} {x : KnV} (h : RKn W cs x) : Row W x.c.v x.c.xs.length (fC x.c.xs) := rslG (c := cC) (sz := 35) (fun _ => rfl) (by omega) (fun _ _ _ h => h.1) h.2.2
theorem RKn.ok {W : World} {cs : List Value} {x : KnV} (h : RKn W cs x) : ∀ y, y ∈ x.c.xs → okC y := rslG_all (fun _ _ _ h => h.2) h.2.2
theorem vecG_pos {t k : Nat} {v : Value} {xs : List Value} {lp : List (Nat × Obj)} (h : Vec t 35 v k xs lp) (hp : 0 < k) : ∃ b c sp, v = .slice (some ⟨b, 0, none⟩) k c ∧ lp = [(b, cb (xs ++ sp) t)] ∧ (xs ++ sp).length = c * 35 ∧ k ≤ c := by
  rcases h.2 with ⟨_, h1, _⟩ | h1
  · omega
  · exact h1
end Go.Proofs.Ytbafhclandendaa
/-
  Plain laws of whom one asks for; SeekOnce: the walk.
-/
namespace Go.Proofs.Ytbafhclandendaa
open Go.J Go.RowKit
set_option linter.unusedVariables false
set_option linter.unusedSimpArgs false
set_option maxRecDepth 8000
theorem askL_ids {W F : List IDV} {cs : List CV} (hc : ∀ n, n ∈ W → n ∉ F → ∃ x, x ∈ cs ∧ x.id = n) : (askL W F cs).map (·.id) = W.filter (fun n => decide (n ∉ F)) := by
  unfold askL
  rw [List.map_filterMap]
  rw [← List.filterMap_eq_filter]
  refine fm_congr fun n hn => ?_
  by_cases hF : n ∈ F
  · simp [hF, Option.guard]
  · cases hb : bestC n cs with
    | none =>
      obtain ⟨x, hx, hxn⟩ := hc n hn hF
      exact absurd hxn ((bestC_spec n cs).2 hb x hx)
    | some y => simp [hF, Option.guard, ((bestC_spec n cs).1 y hb).id]
theorem askC_ids (self : IDV) (F : List IDV) (cs : List CV) (half : Int) : (askC self F cs half).map (·.id) = (wantI self (F ++ cs.map (·.id)) half).filter (fun n => decide (n ∉ F)) := askL_ids want_cand
theorem askC_best {self : IDV} {F : List IDV} {cs : List CV} {half : Int} {x : CV} (h : x ∈ askC self F cs half) : bestC x.id cs = some x := by
  unfold askC askL at h
  obtain ⟨n, hn, he⟩ := List.mem_filterMap.1 h
  by_cases hF : n ∈ F
  · rw [if_pos hF] at he; cases he
  · rw [if_neg hF] at he
    rw [((bestC_spec n cs).1 x he).id]
    exact he
theorem want_same {self : IDV} {xs ys : List IDV} {half : Int} (h : ∀ z, z ∈ xs ↔ z ∈ ys) : wantI self xs half = wantI self ys half := by
  have e : sortI xs self = sortI ys self := sortI_of (sortI_asc xs self) (fun z => by rw [sortI_mem, h])
  unfold wantI
  rw [e]
end Go.Proofs.Ytbafhclandendaa
/-
  SeekOrder: whom one asks for, and how far by, does not hang on the candidates' order: the walk.
-/
namespace Go.Proofs.Ytbafhclandendaa
open Go.J Go.RowKit
set_option linter.unusedVariables false
set_option linter.unusedSimpArgs false
set_option maxRecDepth 8000
theorem rev_snoc {cs : List CV} {q : Nat} {x : CV} (h : cs[q]? = some x) : (cs.drop q).reverse = (cs.drop (q + 1)).reverse ++ [x] := by
  obtain ⟨hl, he⟩ := List.getElem?_eq_some_iff.1 h
  rw [List.drop_eq_getElem_cons hl, he, List.reverse_cons]
theorem ord_ids (self : IDV) (F : List IDV) (cs : List CV) (half : Int) : (askC self F cs half).map (·.id) = (askC self F cs.reverse half).map (·.id) := by
  rw [askC_ids, askC_ids, want_same (xs := F ++ cs.map (·.id)) (ys := F ++ cs.reverse.map (·.id)) (fun z => by simp)]
theorem ord_len (self : IDV) (F : List IDV) (cs : List CV) (half : Int) : (askC self F cs half).length = (askC self F cs.reverse half).length := by
  have := congrArg List.length (ord_ids self F cs half)
  rwa [List.length_map, List.length_map] at this
theorem ord_leg {self : IDV} {F : List IDV} {cs : List CV} {half : Int} {i : Nat} {x y : CV} (hx : (askC self F cs half)[i]? = some x) (hy : (askC self F cs.reverse half)[i]? = some y) : x.id = y.id ∧ x.leg = y.leg := by
  have h1 : ((askC self F cs half).map (·.id))[i]? = some x.id := by rw [List.getElem?_map, hx]; rfl
  have h2 : ((askC self F cs.reverse half).map (·.id))[i]? = some y.id := by rw [List.getElem?_map, hy]; rfl
  rw [ord_ids, h2] at h1
  have hid : y.id = x.id := Option.some.inj h1
  refine ⟨hid.symm, ?_⟩
  have hbx := (bestC_spec x.id cs).1 x (askC_best (List.mem_of_getElem? hx))
  have hby := (bestC_spec y.id cs.reverse).1 y (askC_best (List.mem_of_getElem? hy))
  have k1 : ¬ ltC x y := hby.min x (List.mem_reverse.2 hbx.mem) hid.symm
  have k2 : ¬ ltC y x := hbx.min y (List.mem_reverse.1 hby.mem) hid
  rw [ltC_iff, hid] at k1 k2
  omega

set_option maxHeartbeats 2000000 in
theorem seekOrderL_spec (pc : List Value) (self : IDV) (F0v : Value) (F0 : List IDV) (C0v : Value) (C0 : List CV) (half : Int) (w : World) (hpc : pc = cI self ++ [F0v, C0v, .int .i64 half]) (hrF0 : Row w F0v F0.length (fI F0)) (hrC0 : Row w C0v C0.length (fC C0)) (hok0 : ∀ x, x ∈ C0 → okC x) :
    Calls Try.prog 12 [.agg pc.toArray].toArray w fun r w' => r = .returned (.bool true) ∧ Bel w w' := by
  obtain ⟨af, cf, rfl, hcf, _⟩ := _root_.id hrF0
  obtain ⟨ac, cc, rfl, hcc, _⟩ := _root_.id hrC0
  obtain ⟨fv, hfv⟩ : ∃ v, cutV (.slice af F0.length cf) (min F0.length 30) = v := ⟨_, rfl⟩
  obtain ⟨F, hF0⟩ : ∃ l, F0.take 30 = l := ⟨_, rfl⟩
  have hrF := row_cut hrF0 30
  rw [hfv, hF0] at hrF
  have hlF : F.length ≤ 30 := by rw [← hF0, List.length_take]; omega
  obtain ⟨a1, c1, rfl, hc1, _⟩ := _root_.id hrF
  obtain ⟨cv, hcv⟩ : ∃ v, cutV (.slice ac C0.length cc) (min C0.length 40) = v := ⟨_, rfl⟩
  obtain ⟨cs, hC0⟩ : ∃ l, C0.take 40 = l := ⟨_, rfl⟩
  have hrC := row_cutC hrC0 40
  rw [hcv, hC0] at hrC
  have hlC : cs.length ≤ 40 := by rw [← hC0, List.length_take]; omega
  have hok : ∀ x, x ∈ cs → okC x := fun x hx => hok0 x (List.mem_of_mem_take (by rw [hC0]; exact hx))
  obtain ⟨a2, c2, rfl, hc2, _⟩ := _root_.id hrC
  refine calls_of_J (args := [.agg pc.toArray]) (e := [(0, .agg pc.toArray)]) Try.func12 rfl rfl ⟨rfl, trivial⟩ (St.start w) ?_
  refine JC.seq (fun K0 hK0 => ?_)
  refine JC.region ?_
  refine J.box rfl rfl rfl (fun b1 => ?_)
  refine J.assign rfl rfl ?_
  refine J.nil ?_
  refine JX.thenN (hK0 _ _ ?_)
  refine JC.seq (fun K1 hK1 => ?_)
  apply JC.drawX (α := Nat × Unit) 6 (fun x => match x with | ⟨xu, uu⟩ => [.pointer (some ⟨b1, 0 + 16, none⟩), .slice af F0.length cf, .slice a1 F.length c1, .pointer (some ⟨b1, 0 + 17, none⟩), .slice ac C0.length cc, .slice a2 cs.length c2]) (fun m x => match x with | ⟨xu, uu⟩ => fun w1 => (True) ∧ St w [] ((b1, cb pc 70) :: []) w1) Ty.mixed rfl rfl rfl (by kernel_rfl) rfl rfl ?hinit ?hstep ?htail
  case hinit => exact fun w1 hw => ⟨(0, ()), trivial, hw.drew⟩
  case hstep =>
    refine ⟨fun m x hm hp => ?_, fun m x hm hp => ?_, fun m x hm hp => ?_, fun m x hm hp => ?_, fun m x hm hp => ?_, fun m x hm hp => ?_, trivial⟩
    · skip
      obtain ⟨xu, uu⟩ := x
      show J _ _ _ _ _ (_) _
      refine J.pr (fun hF => ?_)
      refine J.fieldAddr Ty.fd70_1 rfl rfl ?_
      exact J.finX rfl (fun _ hw => ⟨⟨xu, uu⟩, rfl, fun _ _ _ => rfl, hF, hw⟩)
    · skip
      obtain ⟨xu, uu⟩ := x
      show J _ _ _ _ _ ((10, .pointer (some ⟨b1, 0 + 16, none⟩)) :: _) _
      refine J.pr (fun hF => ?_)
      refine J.load1 (v := .slice af F0.length cf) Ty.a24 rfl (fun w1 hw => by rw [cell_of (hw.own ((b1, cb pc 70)) (by repeat first | exact .head _ | apply List.Mem.tail | apply List.mem_append_right)), hpc]; rfl) rfl ?_
      exact J.finX rfl (fun _ hw => ⟨⟨xu, uu⟩, rfl, fun _ _ _ => rfl, hF, hw⟩)
    · skip
      obtain ⟨xu, uu⟩ := x
      show J _ _ _ _ _ ((11, .slice af F0.length cf) :: _) _
      refine J.pr (fun hF => ?_)
      refine J.callB (v := .slice a1 F.length c1) (fun w1 w2 hw hb => hw.step hb) Ty.bd34 rfl rfl (fun w1 hw => by have h9 := cut17_spec _ F0 30 w1 (hrF0.below (hw.drop (List.nil_sublist _)).below); rw [hfv] at h9; exact h9) ?_
      exact J.finX rfl (fun _ hw => ⟨⟨xu, uu⟩, rfl, fun _ _ _ => rfl, hF, hw⟩)
    · skip
      obtain ⟨xu, uu⟩ := x
      show J _ _ _ _ _ (_) _
      refine J.pr (fun hF => ?_)
      refine J.fieldAddr Ty.fd70_2 rfl rfl ?_
      exact J.finX rfl (fun _ hw => ⟨⟨xu, uu⟩, rfl, fun _ _ _ => rfl, hF, hw⟩)
    · skip
      obtain ⟨xu, uu⟩ := x
      show J _ _ _ _ _ ((13, .pointer (some ⟨b1, 0 + 17, none⟩)) :: _) _
      refine J.pr (fun hF => ?_)
      refine J.load1 (v := .slice ac C0.length cc) Ty.a68 rfl (fun w1 hw => by rw [cell_of (hw.own ((b1, cb pc 70)) (by repeat first | exact .head _ | apply List.Mem.tail | apply List.mem_append_right)), hpc]; rfl) rfl ?_
      exact J.finX rfl (fun _ hw => ⟨⟨xu, uu⟩, rfl, fun _ _ _ => rfl, hF, hw⟩)
    · skip
      obtain ⟨xu, uu⟩ := x
      show J _ _ _ _ _ ((12, .slice a1 F.length c1) :: (14, .slice ac C0.length cc) :: _) _
      refine J.pr (fun hF => ?_)
      refine J.callB (v := .slice a2 cs.length c2) (fun w1 w2 hw hb => hw.step hb) Ty.bd35 rfl rfl (fun w1 hw => by have h9 := cutC_spec _ C0 40 w1 (hrC0.below (hw.drop (List.nil_sublist _)).below); rw [hcv] at h9; exact h9) ?_
      exact J.finX rfl (fun _ hw => ⟨⟨xu, uu⟩, rfl, fun _ _ _ => rfl, hF, hw⟩)
  case htail =>
    intro x
    obtain ⟨xu, uu⟩ := x
    show J _ _ _ _ _ ((15, .slice a2 cs.length c2) :: (14, .slice ac C0.length cc) :: (13, .pointer (some ⟨b1, 0 + 17, none⟩)) :: (12, .slice a1 F.length c1) :: (11, .slice af F0.length cf) :: (10, .pointer (some ⟨b1, 0 + 16, none⟩)) :: _) (fun w1 => (True) ∧ St w [] ((b1, cb pc 70) :: []) w1)
    refine J.pr (fun hF => ?_)
    refine J.assign rfl rfl ?_
    refine J.assign rfl rfl ?_
    refine J.nil ?_
    refine JX.thenN (hK1 _ _ ?_)
    refine JC.seq (fun K2 hK2 => ?_)
    refine JC.region ?_
    refine J.assign rfl rfl ?_
    refine J.nil ?_
    refine JX.thenN (hK2 _ _ ?_)
    refine JC.seq (fun K3 hK3 => ?_)
    refine JC.seq (fun K4 hK4 => ?_)
    refine JC.region ?_
    refine J.move rfl rfl ?_
    refine J.lenS rfl Ty.u68 rfl rfl ?_
    refine J.subN rfl rfl (by omega) (by omega) rfl ?_
    refine J.assign rfl rfl ?_
    refine J.nil ?_
    refine JX.thenN (hK4 _ _ ?_)
    refine JC.block ?_
    refine JC.conseq (JC.cov (f := (fun st => [(1, .pointer (some ⟨b1, 0, none⟩)), (3, .slice a1 F.length c1), (4, .slice a2 cs.length c2), (5, st.v), (6, .int .i64 (((st.i : Nat) : Int) - 1))]) (⟨cs.length, .slice none 0 0, []⟩ : AkS)) ⟨rfl, rfl, rfl, rfl, rfl, trivial⟩ (JC.loop (α := AkS) (fun st => [(1, .pointer (some ⟨b1, 0, none⟩)), (3, .slice a1 F.length c1), (4, .slice a2 cs.length c2), (5, st.v), (6, .int .i64 (((st.i : Nat) : Int) - 1))]) (fun st w' => (st.i ≤ cs.length ∧ Vec 75 35 st.v (((cs.drop (st.i)).reverse)).length (fC (((cs.drop (st.i)).reverse))) st.lp) ∧ St w [] ((b1, cb pc 70) :: st.lp) w') (fun st => st.i) (⟨cs.length, .slice none 0 0, []⟩ : AkS) (fun st => ?_))) (fun w hw => ⟨⟨Nat.le_refl _, by rw [List.drop_length]; exact Vec.nil _ _⟩, hw⟩)
    obtain ⟨i, v10, l10⟩ := st
    refine JC.pr (fun hI => ?_)
    obtain ⟨hi, hv10⟩ := hI
    try simp only at hi hv10 ⊢
    refine JC.seq (fun K5 hK5 => ?_)
    refine JC.seq (fun K6 hK6 => ?_)
    refine JC.region ?_
    refine J.move rfl rfl ?_
    refine J.bin rfl rfl rfl rfl ?_
    refine J.nil ?_
    refine JX.thenN (hK6 _ _ ?_)
    refine JC.cond rfl (fun h0 => ?_) (fun h0 => ?_)
    · skip
      obtain ⟨q, rfl⟩ : ∃ q, i = q + 1 := ⟨i - 1, by simp at h0; omega⟩
      have hql : q < cs.length := by omega
      obtain ⟨xe, hxe⟩ : ∃ x, cs[q]? = some x := ⟨_, List.getElem?_eq_getElem hql⟩
      obtain ⟨ba, oa, ca, hvx, hca, hcel⟩ := hrC.some (by rw [fC_len]; omega)
      simp only [Value.slice.injEq] at hvx
      obtain ⟨rfl, -, rfl⟩ := hvx
      have hrl : ((cs.drop (q + 1)).reverse).length = cs.length - (q + 1) := by rw [List.length_reverse, List.length_drop]
      refine JC.skip ?_
      refine JX.thenN (hK5 _ _ ?_)
      refine JC.seq (fun K7 hK7 => ?_)
      refine JC.block ?_
      refine JC.region ?_
      refine J.move rfl rfl ?_
      refine J.move rfl rfl ?_
      refine J.move rfl rfl ?_
      refine J.name 25 rfl (show _ = Value.int .i64 ((q : Nat) : Int) from congrArg (Value.int .i64) (by omega)) ?_
      refine J.indexAddrS Ty.el68 Ty.s75 rfl rfl (by omega) (by omega) rfl ?_
      refine J.loadA (vs := cC xe) Ty.a75 Ty.s75 rfl rfl (fun w1 hw => rowG_at (c := cC) (sz := 35) (fun _ => rfl) (hrC.below (hw.drop (List.nil_sublist _)).below) hxe (by rw [Int.toNat_natCast])) rfl ?_
      refine J.buildSl (cs := cC xe) Ty.el68 Ty.s75 zCan rfl rfl rfl rfl (by kernel_rfl) rfl rfl (fun b28 => ?_)
      refine J.perm (l10 ++ ((b28, cb (cC xe) 75) :: (b1, cb pc 70) :: [])) (by (refine perm_cnt (fun _ => ?_)); simp only [cntB_append, cntB_cons, cntB_nil, Nat.add_zero, Nat.zero_add]; try ac_rfl) ?_
      refine J.append (lp := l10) (xs := fC ((cs.drop (q + 1)).reverse)) (ys := cC xe) (k := ((cs.drop (q + 1)).reverse).length) (m := 1) Ty.el68 Ty.s75 Ty.b75 zCan rfl (.inl ⟨75, Ty.u68⟩) rfl rfl hv10 (fun w1 hw => .inl (Row.own (cs := cC xe) (tb := 75) (fr := (0, 0)) hw (List.mem_append_right _ (.head _)) (List.take_of_length_le (Nat.le_refl _)) (Nat.le_refl _))) rfl (one_cC _) (by omega) (by omega) rfl (fun v29 l29 hv29 => ?_)
      rw [← fC_snoc, ← rev_snoc hxe, show ((cs.drop (q + 1)).reverse).length + 1 = ((cs.drop (q)).reverse).length by rw [rev_snoc hxe]; exact (List.length_append (bs := [xe])).symm] at hv29
      refine J.assign rfl rfl ?_
      refine J.nil ?_
      refine JX.blockN ?_
      refine JX.thenN (hK7 _ _ ?_)
      refine JC.region ?_
      refine J.move rfl rfl ?_
      refine J.subN rfl rfl (by omega) (by omega) rfl ?_
      refine J.name 22 rfl (show _ = Value.int .i64 (((q : Nat) : Int) - 1) from congrArg (Value.int .i64) (by omega)) ?_
      refine J.assign rfl rfl ?_
      refine J.nil ?_
      refine JX.thenN ?_
      refine JX.again (⟨q, v29, l29⟩ : AkS) ?_ ?_ ?_
      · simp only; omega
      · exact ⟨rfl, rfl, rfl, rfl, rfl, trivial⟩
      · exact fun w1 hw => ⟨⟨by simp only; omega, hv29⟩, (hw.perm (by (refine perm_cnt (fun _ => ?_)); simp only [cntB_append, cntB_cons, cntB_nil, Nat.add_zero, Nat.zero_add]; try ac_rfl : List.Perm _ ((b28, cb (cC xe) 75) :: ((b1, cb pc 70) :: l29)))).drop (List.sublist_cons_self _ _)⟩
    · skip
      have hz : i = 0 := by simp at h0; omega
      subst hz
      rw [List.drop_zero] at hv10
      refine JC.exit ?_
      refine JX.thenE ?_
      refine JX.thenE ?_
      refine JX.blockE ?_
      refine JX.thenN (hK3 _ _ ?_)
      refine JC.seq (fun K8 hK8 => ?_)
      apply JC.drawX (α := Value × List (Nat × Obj) × Value × List (Nat × Obj)) 14 (fun x => match x with | ⟨va, la, vb, lb⟩ => [.pointer (some ⟨b1, 0 + 0, none⟩), .agg (cI self).toArray, .slice a1 F.length c1, .slice a2 cs.length c2, .pointer (some ⟨b1, 0 + 18, none⟩), .int .i64 half, va, .pointer (some ⟨b1, 0 + 0, none⟩), .agg (cI self).toArray, .slice a1 F.length c1, v10, .pointer (some ⟨b1, 0 + 18, none⟩), .int .i64 half, vb]) (fun m x => match x with | ⟨va, la, vb, lb⟩ => fun w1 => ((m 6 = true → Vec 75 35 va (askC self F cs half).length (fC (askC self F cs half)) la) ∧ (m 13 = true → Vec 75 35 vb (askC self F cs.reverse half).length (fC (askC self F cs.reverse half)) lb) ∧ (m 13 = true → m 6 = true)) ∧ St w [] ((bif m 6 then la else []) ++ ((bif m 13 then lb else []) ++ ((b1, cb pc 70) :: l10))) w1) Ty.mixed rfl rfl rfl (by kernel_rfl) rfl rfl ?hinit ?hstep ?htail
      case hinit => exact fun w1 hw => ⟨(.bool false, [], .bool false, []), ⟨fun h => (by cases h), fun h => (by cases h), fun h => (by cases h)⟩, hw.drew⟩
      case hstep =>
        refine ⟨fun m x hm hp => ?_, fun m x hm hp => ?_, fun m x hm hp => ?_, fun m x hm hp => ?_, fun m x hm hp => ?_, fun m x hm hp => ?_, fun m x hm hp => ?_, fun m x hm hp => ?_, fun m x hm hp => ?_, fun m x hm hp => ?_, fun m x hm hp => ?_, fun m x hm hp => ?_, fun m x hm hp => ?_, fun m x hm hp => ?_, trivial⟩
        · skip
          obtain ⟨va, la, vb, lb⟩ := x
          show J _ _ _ _ _ (_) _
          refine J.pr (fun hF => ?_)
          refine J.fieldAddr Ty.fd70_0 rfl rfl ?_
          exact J.finX rfl (fun _ hw => ⟨⟨va, la, vb, lb⟩, rfl, fun _ _ _ => rfl, hF, hw⟩)
        · skip
          obtain ⟨va, la, vb, lb⟩ := x
          show J _ _ _ _ _ ((30, .pointer (some ⟨b1, 0 + 0, none⟩)) :: _) _
          refine J.pr (fun hF => ?_)
          refine J.loadA (vs := cI self) Ty.a23 Ty.s23 rfl rfl (fun w1 hw => Cells.of_block (hw.own ((b1, cb pc 70)) (by repeat first | exact .head _ | apply List.Mem.tail | apply List.mem_append_right)) (by rw [hpc]; rfl)) rfl ?_
          exact J.finX rfl (fun _ hw => ⟨⟨va, la, vb, lb⟩, rfl, fun _ _ _ => rfl, hF, hw⟩)
        · skip
          obtain ⟨va, la, vb, lb⟩ := x
          show J _ _ _ _ _ (_) _
          refine J.pr (fun hF => ?_)
          refine J.move rfl rfl ?_
          exact J.finX rfl (fun _ hw => ⟨⟨va, la, vb, lb⟩, rfl, fun _ _ _ => rfl, hF, hw⟩)
        · skip
          obtain ⟨va, la, vb, lb⟩ := x
          show J _ _ _ _ _ (_) _
          refine J.pr (fun hF => ?_)
          refine J.move rfl rfl ?_
          exact J.finX rfl (fun _ hw => ⟨⟨va, la, vb, lb⟩, rfl, fun _ _ _ => rfl, hF, hw⟩)
        · skip
          obtain ⟨va, la, vb, lb⟩ := x
          show J _ _ _ _ _ (_) _
          refine J.pr (fun hF => ?_)
          refine J.fieldAddr Ty.fd70_3 rfl rfl ?_
          exact J.finX rfl (fun _ hw => ⟨⟨va, la, vb, lb⟩, rfl, fun _ _ _ => rfl, hF, hw⟩)
        · skip
          obtain ⟨va, la, vb, lb⟩ := x
          show J _ _ _ _ _ ((34, .pointer (some ⟨b1, 0 + 18, none⟩)) :: _) _
          refine J.pr (fun hF => ?_)
          refine J.load1 (v := .int .i64 half) Ty.a3 rfl (fun w1 hw => by rw [cell_of (hw.own ((b1, cb pc 70)) (by repeat first | exact .head _ | apply List.Mem.tail | apply List.mem_append_right)), hpc]; rfl) rfl ?_
          exact J.finX rfl (fun _ hw => ⟨⟨va, la, vb, lb⟩, rfl, fun _ _ _ => rfl, hF, hw⟩)
        · skip
          obtain ⟨va, la, vb, lb⟩ := x
          show J _ _ _ _ _ ((35, .int .i64 half) :: (33, .slice a2 cs.length c2) :: (32, .slice a1 F.length c1) :: (31, .agg (cI self).toArray) :: _) _
          refine J.pr (fun hF => ?_)
          have h13 : m 13 = false := by cases h : m 13 with
            | false => rfl
            | true => rw [hF.2.2 h] at hm; cases hm
          refine J.conseq (I' := St w [] ((b1, cb pc 70) :: l10)) ?_ (fun w1 hw => by simp only [hm, h13, cond_true, cond_false, List.nil_append] at hw; exact hw)
          refine J.perm ([] ++ ((b1, cb pc 70) :: l10)) (.refl _) ?_
          refine J.callS (α := Value × List (Nat × Obj)) (V := (·.1)) (Pr := fun xo => Vec 75 35 xo.1 (askC self F cs half).length (fC (askC self F cs half)) xo.2) (L := (·.2)) (l1 := []) Ty.bd37 rfl rfl (fun w1 hw => seekAsks_spec self _ _ F cs half w1 (hrF.below (hw.drop (List.nil_sublist _)).below) (hrC.below (hw.drop (List.nil_sublist _)).below) (by omega) (by omega)) (fun xo hvn => ?_)
          obtain ⟨vn, ln⟩ := xo
          simp only at hvn ⊢
          refine J.nil (JX.finB rfl (fun w1 hw => ⟨⟨⟨vn, ln, vb, lb⟩, rfl, fun j h1 h2 => ?_, ?_⟩, trivial⟩))
          · match j, h1 with
            | 0, _ => (first | rfl | trivial)
            | 1, _ => (first | rfl | trivial)
            | 2, _ => (first | rfl | trivial)
            | 3, _ => (first | rfl | trivial)
            | 4, _ => (first | rfl | trivial)
            | 5, _ => (first | rfl | trivial)
            | 6, _ => exact absurd (h2.symm.trans hm) (by decide)
            | 7, _ => (first | rfl | trivial)
            | 8, _ => (first | rfl | trivial)
            | 9, _ => (first | rfl | trivial)
            | 10, _ => (first | rfl | trivial)
            | 11, _ => (first | rfl | trivial)
            | 12, _ => (first | rfl | trivial)
            | 13, _ => (first | rfl | trivial)
            | j + 14, h1 => omega
          show ((true = true → Vec 75 35 vn (askC self F cs half).length (fC (askC self F cs half)) ln) ∧ (m 13 = true → Vec 75 35 vb (askC self F cs.reverse half).length (fC (askC self F cs.reverse half)) lb) ∧ (m 13 = true → true = true)) ∧ St w [] ((bif true then ln else []) ++ ((bif m 13 then lb else []) ++ ((b1, cb pc 70) :: l10))) w1
          simp only [hm, h13, cond_true, cond_false, List.nil_append] at hw ⊢
          exact ⟨⟨fun _ => hvn, fun h => (by cases h), fun h => (by cases h)⟩, hw.perm (by (refine perm_cnt (fun _ => ?_)); simp only [cntB_append, cntB_cons, cntB_nil, Nat.add_zero, Nat.zero_add]; try ac_rfl)⟩
        · skip
          obtain ⟨va, la, vb, lb⟩ := x
          show J _ _ _ _ _ (_) _
          refine J.pr (fun hF => ?_)
          refine J.fieldAddr Ty.fd70_0 rfl rfl ?_
          exact J.finX rfl (fun _ hw => ⟨⟨va, la, vb, lb⟩, rfl, fun _ _ _ => rfl, hF, hw⟩)
        · skip
          obtain ⟨va, la, vb, lb⟩ := x
          show J _ _ _ _ _ ((37, .pointer (some ⟨b1, 0 + 0, none⟩)) :: _) _
          refine J.pr (fun hF => ?_)
          refine J.loadA (vs := cI self) Ty.a23 Ty.s23 rfl rfl (fun w1 hw => Cells.of_block (hw.own ((b1, cb pc 70)) (by repeat first | exact .head _ | apply List.Mem.tail | apply List.mem_append_right)) (by rw [hpc]; rfl)) rfl ?_
          exact J.finX rfl (fun _ hw => ⟨⟨va, la, vb, lb⟩, rfl, fun _ _ _ => rfl, hF, hw⟩)
        · skip
          obtain ⟨va, la, vb, lb⟩ := x
          show J _ _ _ _ _ (_) _
          refine J.pr (fun hF => ?_)
          refine J.move rfl rfl ?_
          exact J.finX rfl (fun _ hw => ⟨⟨va, la, vb, lb⟩, rfl, fun _ _ _ => rfl, hF, hw⟩)
        · skip
          obtain ⟨va, la, vb, lb⟩ := x
          show J _ _ _ _ _ (_) _
          refine J.pr (fun hF => ?_)
          refine J.move rfl rfl ?_
          exact J.finX rfl (fun _ hw => ⟨⟨va, la, vb, lb⟩, rfl, fun _ _ _ => rfl, hF, hw⟩)
        · skip
          obtain ⟨va, la, vb, lb⟩ := x
          show J _ _ _ _ _ (_) _
          refine J.pr (fun hF => ?_)
          refine J.fieldAddr Ty.fd70_3 rfl rfl ?_
          exact J.finX rfl (fun _ hw => ⟨⟨va, la, vb, lb⟩, rfl, fun _ _ _ => rfl, hF, hw⟩)
        · skip
          obtain ⟨va, la, vb, lb⟩ := x
          show J _ _ _ _ _ ((41, .pointer (some ⟨b1, 0 + 18, none⟩)) :: _) _
          refine J.pr (fun hF => ?_)
          refine J.load1 (v := .int .i64 half) Ty.a3 rfl (fun w1 hw => by rw [cell_of (hw.own ((b1, cb pc 70)) (by repeat first | exact .head _ | apply List.Mem.tail | apply List.mem_append_right)), hpc]; rfl) rfl ?_
          exact J.finX rfl (fun _ hw => ⟨⟨va, la, vb, lb⟩, rfl, fun _ _ _ => rfl, hF, hw⟩)
        · skip
          obtain ⟨va, la, vb, lb⟩ := x
          show J _ _ _ _ _ ((36, va) :: (42, .int .i64 half) :: (40, v10) :: (39, .slice a1 F.length c1) :: (38, .agg (cI self).toArray) :: _) _
          have hp6 : m 6 = true := predsT hp (by kernel_rfl)
          refine J.pr (fun hF => ?_)
          refine J.conseq (I' := St w [] (la ++ ((b1, cb pc 70) :: l10))) ?_ (fun w1 hw => by simp only [hm, hp6, cond_true, cond_false, List.nil_append] at hw; exact hw)
          refine J.perm ([] ++ (la ++ ((b1, cb pc 70) :: l10))) (.refl _) ?_
          refine J.callS (α := Value × List (Nat × Obj)) (V := (·.1)) (Pr := fun xo => Vec 75 35 xo.1 (askC self F cs.reverse half).length (fC (askC self F cs.reverse half)) xo.2) (L := (·.2)) (l1 := []) Ty.bd37 rfl rfl (fun w1 hw => seekAsks_spec self _ _ F cs.reverse half w1 (hrF.below (hw.drop (List.nil_sublist _)).below) (vec_rowM hv10 hw (fun q hq => by first | (simp [hq]; done) | (simp at hq; simp [hq]; done) | (simp at hq; subst hq; simp))) (by omega) (by rw [List.length_reverse]; omega)) (fun xo hvn => ?_)
          obtain ⟨vn, ln⟩ := xo
          simp only at hvn ⊢
          refine J.nil (JX.finB rfl (fun w1 hw => ⟨⟨⟨va, la, vn, ln⟩, rfl, fun j h1 h2 => ?_, ?_⟩, trivial⟩))
          · match j, h1 with
            | 0, _ => (first | rfl | trivial)
            | 1, _ => (first | rfl | trivial)
            | 2, _ => (first | rfl | trivial)
            | 3, _ => (first | rfl | trivial)
            | 4, _ => (first | rfl | trivial)
            | 5, _ => (first | rfl | trivial)
            | 6, _ => (first | rfl | trivial)
            | 7, _ => (first | rfl | trivial)
            | 8, _ => (first | rfl | trivial)
            | 9, _ => (first | rfl | trivial)
            | 10, _ => (first | rfl | trivial)
            | 11, _ => (first | rfl | trivial)
            | 12, _ => (first | rfl | trivial)
            | 13, _ => exact absurd (h2.symm.trans hm) (by decide)
            | j + 14, h1 => omega
          show ((m 6 = true → Vec 75 35 va (askC self F cs half).length (fC (askC self F cs half)) la) ∧ (true = true → Vec 75 35 vn (askC self F cs.reverse half).length (fC (askC self F cs.reverse half)) ln) ∧ (true = true → m 6 = true)) ∧ St w [] ((bif m 6 then la else []) ++ ((bif true then ln else []) ++ ((b1, cb pc 70) :: l10))) w1
          simp only [hm, hp6, cond_true, cond_false] at hw ⊢
          exact ⟨⟨fun _ => hF.1 hp6, fun _ => hvn, fun _ => (by first | trivial | rfl)⟩, hw.perm (by (refine perm_cnt (fun _ => ?_)); simp only [cntB_append, cntB_cons, cntB_nil, Nat.add_zero, Nat.zero_add]; try ac_rfl)⟩
      case htail =>
        intro x
        obtain ⟨va, la, vb, lb⟩ := x
        show J _ _ _ _ _ ((43, vb) :: (42, .int .i64 half) :: (41, .pointer (some ⟨b1, 0 + 18, none⟩)) :: (40, v10) :: (39, .slice a1 F.length c1) :: (38, .agg (cI self).toArray) :: (37, .pointer (some ⟨b1, 0 + 0, none⟩)) :: (36, va) :: (35, .int .i64 half) :: (34, .pointer (some ⟨b1, 0 + 18, none⟩)) :: (33, .slice a2 cs.length c2) :: (32, .slice a1 F.length c1) :: (31, .agg (cI self).toArray) :: (30, .pointer (some ⟨b1, 0 + 0, none⟩)) :: _) (fun w1 => ((true = true → Vec 75 35 va (askC self F cs half).length (fC (askC self F cs half)) la) ∧ (true = true → Vec 75 35 vb (askC self F cs.reverse half).length (fC (askC self F cs.reverse half)) lb) ∧ (true = true → true = true)) ∧ St w [] ((bif true then la else []) ++ ((bif true then lb else []) ++ ((b1, cb pc 70) :: l10))) w1)
        refine J.pr (fun hF => ?_)
        refine J.conseq (I' := St w [] (la ++ (lb ++ ((b1, cb pc 70) :: l10)))) ?_ (fun w1 hw => by simp only [cond_true] at hw; exact hw)
        obtain ⟨hFa, hFb, -⟩ := hF
        have hva := hFa rfl
        have hvb := hFb rfl
        clear hFa hFb
        have hal := askC_le self F cs half
        have hab := ord_len self F cs half
        obtain ⟨aa, ca0, rfl, hca0⟩ := hva.form
        obtain ⟨ab, cb0, rfl, hcb0⟩ := hvb.form
        refine J.assign rfl rfl ?_
        refine J.assign rfl rfl ?_
        refine J.nil ?_
        refine JX.thenN (hK8 _ _ ?_)
        refine JC.seq (fun K9 hK9 => ?_)
        refine JC.seq (fun K10 hK10 => ?_)
        refine JC.region ?_
        refine J.move rfl rfl ?_
        refine J.lenS rfl Ty.u68 rfl rfl ?_
        refine J.move rfl rfl ?_
        refine J.lenS rfl Ty.u68 rfl rfl ?_
        refine J.bin rfl rfl rfl rfl ?_
        refine J.name 48 rfl (show _ = Value.bool false by simp [hab]) ?_
        refine J.nil ?_
        refine JX.thenN (hK10 _ _ ?_)
        first | refine JC.condF rfl ?_ | refine JC.cond rfl (fun h => by first | (exfalso; simp at h; omega) | (simp at h)) (fun _ => ?_)
        refine JC.skip ?_
        refine JX.thenN (hK9 _ _ ?_)
        refine JC.seq (fun K11 hK11 => ?_)
        refine JC.seq (fun K12 hK12 => ?_)
        refine JC.region ?_
        refine J.move rfl rfl ?_
        refine J.lenS rfl Ty.u68 rfl rfl ?_
        refine J.move rfl rfl ?_
        refine J.nil ?_
        refine JX.thenN (hK12 _ _ ?_)
        refine JC.block ?_
        refine JC.conseq (JC.cov (f := (fun k => [(7, .slice aa (askC self F cs half).length ca0), (8, .slice ab (askC self F cs.reverse half).length cb0), (50, .int .i64 (((askC self F cs half).length : Nat) : Int)), (51, .int .i64 ((k : Nat) : Int))]) 0) ⟨rfl, rfl, rfl, rfl, trivial⟩ (JC.loop (α := Nat) (fun k => [(7, .slice aa (askC self F cs half).length ca0), (8, .slice ab (askC self F cs.reverse half).length cb0), (50, .int .i64 (((askC self F cs half).length : Nat) : Int)), (51, .int .i64 ((k : Nat) : Int))]) (fun k w' => (k ≤ (askC self F cs half).length) ∧ St w [] (la ++ (lb ++ ((b1, cb pc 70) :: l10))) w') (fun k => (askC self F cs half).length - k) 0 (fun k => ?_))) (fun w hw => ⟨Nat.zero_le _, hw⟩)
        refine JC.pr (fun hk => ?_)
        refine JC.seq (fun K13 hK13 => ?_)
        refine JC.region ?_
        refine J.bin rfl rfl rfl rfl ?_
        refine J.nil ?_
        refine JX.thenN (hK13 _ _ ?_)
        refine JC.seq (fun K14 hK14 => ?_)
        refine JC.cond rfl (fun h2 => ?_) (fun h2 => ?_)
        · skip
          have hlt : k < (askC self F cs half).length := by simp at h2; omega
          obtain ⟨xk, hxk⟩ : ∃ x, (askC self F cs half)[k]? = some x := ⟨_, List.getElem?_eq_getElem hlt⟩
          obtain ⟨yk, hyk⟩ : ∃ x, (askC self F cs.reverse half)[k]? = some x := ⟨_, List.getElem?_eq_getElem (by omega)⟩
          obtain ⟨hid, hleg⟩ := ord_leg hxk hyk
          obtain ⟨qa, ca, sa, e9, rfl, hsa, hca⟩ := vecG_pos hva (by omega)
          simp only [Value.slice.injEq] at e9
          obtain ⟨rfl, -, rfl⟩ := e9
          obtain ⟨qb, cq, sb, e9, rfl, hsb, hcb⟩ := vecG_pos hvb (by omega)
          simp only [Value.slice.injEq] at e9
          obtain ⟨rfl, -, rfl⟩ := e9
          refine JC.skip ?_
          refine JX.thenN (hK14 _ _ ?_)
          refine JC.seq (fun K15 hK15 => ?_)
          refine JC.block ?_
          refine JC.seq (fun K16 hK16 => ?_)
          refine JC.region ?_
          refine J.move rfl rfl ?_
          refine J.assign rfl rfl ?_
          refine J.nil ?_
          refine JX.thenN (hK16 _ _ ?_)
          refine JC.seq (fun K17 hK17 => ?_)
          apply JC.drawX (α := Nat × Unit) 24 (fun x => match x with | ⟨xu, uu⟩ => [.slice (some ⟨qa, 0, none⟩) (askC self F cs half).length ca0, .int .i64 ((k : Nat) : Int), .pointer (some ⟨qa, 0 + ((k : Nat) : Int).toNat * 35, none⟩), .pointer (some ⟨qa, 0 + ((k : Nat) : Int).toNat * 35 + 0, none⟩), .agg (cI xk.id).toArray, .slice (some ⟨qb, 0, none⟩) (askC self F cs.reverse half).length cb0, .int .i64 ((k : Nat) : Int), .pointer (some ⟨qb, 0 + ((k : Nat) : Int).toNat * 35, none⟩), .pointer (some ⟨qb, 0 + ((k : Nat) : Int).toNat * 35 + 0, none⟩), .agg (cI yk.id).toArray, .bool false, .bool false, .slice (some ⟨qa, 0, none⟩) (askC self F cs half).length ca0, .int .i64 ((k : Nat) : Int), .pointer (some ⟨qa, 0 + ((k : Nat) : Int).toNat * 35, none⟩), .pointer (some ⟨qa, 0 + ((k : Nat) : Int).toNat * 35 + 16, none⟩), .int .i64 xk.leg, .slice (some ⟨qb, 0, none⟩) (askC self F cs.reverse half).length cb0, .int .i64 ((k : Nat) : Int), .pointer (some ⟨qb, 0 + ((k : Nat) : Int).toNat * 35, none⟩), .pointer (some ⟨qb, 0 + ((k : Nat) : Int).toNat * 35 + 16, none⟩), .int .i64 yk.leg, .bool false, .bool false]) (fun m x => match x with | ⟨xu, uu⟩ => fun w1 => (True) ∧ St w [] ((qa, cb (fC (askC self F cs half) ++ sa) 75) :: (qb, cb (fC (askC self F cs.reverse half) ++ sb) 75) :: ((b1, cb pc 70) :: l10)) w1) Ty.mixed rfl rfl rfl (by kernel_rfl) rfl rfl ?hinit ?hstep ?htail
          case hinit => exact fun w1 hw => ⟨(0, ()), trivial, hw.drew⟩
          case hstep =>
            refine ⟨fun m x hm hp => ?_, fun m x hm hp => ?_, fun m x hm hp => ?_, fun m x hm hp => ?_, fun m x hm hp => ?_, fun m x hm hp => ?_, fun m x hm hp => ?_, fun m x hm hp => ?_, fun m x hm hp => ?_, fun m x hm hp => ?_, fun m x hm hp => ?_, fun m x hm hp => ?_, fun m x hm hp => ?_, fun m x hm hp => ?_, fun m x hm hp => ?_, fun m x hm hp => ?_, fun m x hm hp => ?_, fun m x hm hp => ?_, fun m x hm hp => ?_, fun m x hm hp => ?_, fun m x hm hp => ?_, fun m x hm hp => ?_, fun m x hm hp => ?_, fun m x hm hp => ?_, trivial⟩
            · skip
              obtain ⟨xu, uu⟩ := x
              show J _ _ _ _ _ (_) _
              refine J.pr (fun hF => ?_)
              refine J.move rfl rfl ?_
              exact J.finX rfl (fun _ hw => ⟨⟨xu, uu⟩, rfl, fun _ _ _ => rfl, hF, hw⟩)
            · skip
              obtain ⟨xu, uu⟩ := x
              show J _ _ _ _ _ (_) _
              refine J.pr (fun hF => ?_)
              refine J.move rfl rfl ?_
              exact J.finX rfl (fun _ hw => ⟨⟨xu, uu⟩, rfl, fun _ _ _ => rfl, hF, hw⟩)
            · skip
              obtain ⟨xu, uu⟩ := x
              show J _ _ _ _ _ ((55, .int .i64 ((k : Nat) : Int)) :: (54, .slice (some ⟨qa, 0, none⟩) (askC self F cs half).length ca0) :: _) _
              refine J.pr (fun hF => ?_)
              refine J.indexAddrS Ty.el68 Ty.s75 rfl rfl (by omega) (by omega) rfl ?_
              exact J.finX rfl (fun _ hw => ⟨⟨xu, uu⟩, rfl, fun _ _ _ => rfl, hF, hw⟩)
            · skip
              obtain ⟨xu, uu⟩ := x
              show J _ _ _ _ _ ((56, .pointer (some ⟨qa, 0 + ((k : Nat) : Int).toNat * 35, none⟩)) :: _) _
              refine J.pr (fun hF => ?_)
              refine J.fieldAddr Ty.fd75_0 rfl rfl ?_
              exact J.finX rfl (fun _ hw => ⟨⟨xu, uu⟩, rfl, fun _ _ _ => rfl, hF, hw⟩)
            · skip
              obtain ⟨xu, uu⟩ := x
              show J _ _ _ _ _ ((57, .pointer (some ⟨qa, 0 + ((k : Nat) : Int).toNat * 35 + 0, none⟩)) :: _) _
              refine J.pr (fun hF => ?_)
              refine J.loadA (vs := cI xk.id) Ty.a23 Ty.s23 rfl rfl (fun w1 hw => candF_at (r := 0) (Row.own (o := 0) (cs := fC (askC self F cs half) ++ sa) (tb := 75) (fr := (0, 0)) hw (.head _) (by rw [List.drop_zero, List.take_left]) hca) hxk rfl (by simp)) rfl ?_
              exact J.finX rfl (fun _ hw => ⟨⟨xu, uu⟩, rfl, fun _ _ _ => rfl, hF, hw⟩)
            · skip
              obtain ⟨xu, uu⟩ := x
              show J _ _ _ _ _ (_) _
              refine J.pr (fun hF => ?_)
              refine J.move rfl rfl ?_
              exact J.finX rfl (fun _ hw => ⟨⟨xu, uu⟩, rfl, fun _ _ _ => rfl, hF, hw⟩)
            · skip
              obtain ⟨xu, uu⟩ := x
              show J _ _ _ _ _ (_) _
              refine J.pr (fun hF => ?_)
              refine J.move rfl rfl ?_
              exact J.finX rfl (fun _ hw => ⟨⟨xu, uu⟩, rfl, fun _ _ _ => rfl, hF, hw⟩)
            · skip
              obtain ⟨xu, uu⟩ := x
              show J _ _ _ _ _ ((60, .int .i64 ((k : Nat) : Int)) :: (59, .slice (some ⟨qb, 0, none⟩) (askC self F cs.reverse half).length cb0) :: _) _
              refine J.pr (fun hF => ?_)
              refine J.indexAddrS Ty.el68 Ty.s75 rfl rfl (by omega) (by omega) rfl ?_
              exact J.finX rfl (fun _ hw => ⟨⟨xu, uu⟩, rfl, fun _ _ _ => rfl, hF, hw⟩)
            · skip
              obtain ⟨xu, uu⟩ := x
              show J _ _ _ _ _ ((61, .pointer (some ⟨qb, 0 + ((k : Nat) : Int).toNat * 35, none⟩)) :: _) _
              refine J.pr (fun hF => ?_)
              refine J.fieldAddr Ty.fd75_0 rfl rfl ?_
              exact J.finX rfl (fun _ hw => ⟨⟨xu, uu⟩, rfl, fun _ _ _ => rfl, hF, hw⟩)
            · skip
              obtain ⟨xu, uu⟩ := x
              show J _ _ _ _ _ ((62, .pointer (some ⟨qb, 0 + ((k : Nat) : Int).toNat * 35 + 0, none⟩)) :: _) _
              refine J.pr (fun hF => ?_)
              refine J.loadA (vs := cI yk.id) Ty.a23 Ty.s23 rfl rfl (fun w1 hw => candF_at (r := 0) (Row.own (o := 0) (cs := fC (askC self F cs.reverse half) ++ sb) (tb := 75) (fr := (0, 0)) hw (.tail _ (.head _)) (by rw [List.drop_zero, List.take_left]) hcb) hyk rfl (by simp)) rfl ?_
              exact J.finX rfl (fun _ hw => ⟨⟨xu, uu⟩, rfl, fun _ _ _ => rfl, hF, hw⟩)
            · skip
              obtain ⟨xu, uu⟩ := x
              show J _ _ _ _ _ ((63, .agg (cI yk.id).toArray) :: (58, .agg (cI xk.id).toArray) :: _) _
              refine J.pr (fun hF => ?_)
              refine J.neI Ty.QI Ty.keyI rfl rfl rfl ?_
              refine J.name 64 rfl (show _ = Value.bool false by simp [hid]) ?_
              exact J.finX rfl (fun _ hw => ⟨⟨xu, uu⟩, rfl, fun _ _ _ => rfl, hF, hw⟩)
            · skip
              obtain ⟨xu, uu⟩ := x
              show J _ _ _ _ _ ((64, .bool false) :: _) _
              refine J.pr (fun hF => ?_)
              refine J.move rfl rfl ?_
              exact J.finX rfl (fun _ hw => ⟨⟨xu, uu⟩, rfl, fun _ _ _ => rfl, hF, hw⟩)
            · skip
              obtain ⟨xu, uu⟩ := x
              show J _ _ _ _ _ ((65, .bool false) :: _) _
              refine J.pr (fun hF => ?_)
              first | refine J.skip rfl rfl rfl rfl rfl ?_ | refine J.skipU rfl rfl rfl rfl ?_ | (refine J.unguard rfl rfl rfl ?_; refine J.move rfl rfl ?_)
              exact J.finX rfl (fun _ hw => ⟨⟨xu, uu⟩, rfl, fun _ _ _ => rfl, hF, hw⟩)
            · skip
              obtain ⟨xu, uu⟩ := x
              show J _ _ _ _ _ ((65, .bool false) :: _) _
              refine J.pr (fun hF => ?_)
              first | refine J.skip rfl rfl rfl rfl rfl ?_ | refine J.skipU rfl rfl rfl rfl ?_ | (refine J.unguard rfl rfl rfl ?_; refine J.move rfl rfl ?_)
              exact J.finX rfl (fun _ hw => ⟨⟨xu, uu⟩, rfl, fun _ _ _ => rfl, hF, hw⟩)
            · skip
              obtain ⟨xu, uu⟩ := x
              show J _ _ _ _ _ ((65, .bool false) :: (67, .int .i64 ((k : Nat) : Int)) :: (66, .slice (some ⟨qa, 0, none⟩) (askC self F cs half).length ca0) :: _) _
              refine J.pr (fun hF => ?_)
              refine J.unguard rfl rfl rfl ?_
              refine J.indexAddrS Ty.el68 Ty.s75 rfl rfl (by omega) (by omega) rfl ?_
              exact J.finX rfl (fun _ hw => ⟨⟨xu, uu⟩, rfl, fun _ _ _ => rfl, hF, hw⟩)
            · skip
              obtain ⟨xu, uu⟩ := x
              show J _ _ _ _ _ ((65, .bool false) :: (68, .pointer (some ⟨qa, 0 + ((k : Nat) : Int).toNat * 35, none⟩)) :: _) _
              refine J.pr (fun hF => ?_)
              first | refine J.skip rfl rfl rfl rfl rfl ?_ | refine J.skipU rfl rfl rfl rfl ?_ | (refine J.unguard rfl rfl rfl ?_; refine J.fieldAddr Ty.fd75_1 rfl rfl ?_)
              exact J.finX rfl (fun _ hw => ⟨⟨xu, uu⟩, rfl, fun _ _ _ => rfl, hF, hw⟩)
            · skip
              obtain ⟨xu, uu⟩ := x
              show J _ _ _ _ _ ((65, .bool false) :: (69, .pointer (some ⟨qa, 0 + ((k : Nat) : Int).toNat * 35 + 16, none⟩)) :: _) _
              refine J.pr (fun hF => ?_)
              refine J.unguard rfl rfl rfl ?_
              refine J.load1 (v := .int .i64 xk.leg) Ty.a3 rfl (fun w1 hw => (candF_at (r := 16) (q := 0 + ((k : Nat) : Int).toNat * 35 + 16) (vs := [Value.int .i64 xk.leg]) (Row.own (o := 0) (cs := fC (askC self F cs half) ++ sa) (tb := 75) (fr := (0, 0)) hw (.head _) (by rw [List.drop_zero, List.take_left]) hca) hxk rfl (by simp) 0 Nat.one_pos : _)) rfl ?_
              exact J.finX rfl (fun _ hw => ⟨⟨xu, uu⟩, rfl, fun _ _ _ => rfl, hF, hw⟩)
            · skip
              obtain ⟨xu, uu⟩ := x
              show J _ _ _ _ _ ((65, .bool false) :: _) _
              refine J.pr (fun hF => ?_)
              first | refine J.skip rfl rfl rfl rfl rfl ?_ | refine J.skipU rfl rfl rfl rfl ?_ | (refine J.unguard rfl rfl rfl ?_; refine J.move rfl rfl ?_)
              exact J.finX rfl (fun _ hw => ⟨⟨xu, uu⟩, rfl, fun _ _ _ => rfl, hF, hw⟩)
            · skip
              obtain ⟨xu, uu⟩ := x
              show J _ _ _ _ _ ((65, .bool false) :: _) _
              refine J.pr (fun hF => ?_)
              first | refine J.skip rfl rfl rfl rfl rfl ?_ | refine J.skipU rfl rfl rfl rfl ?_ | (refine J.unguard rfl rfl rfl ?_; refine J.move rfl rfl ?_)
              exact J.finX rfl (fun _ hw => ⟨⟨xu, uu⟩, rfl, fun _ _ _ => rfl, hF, hw⟩)
            · skip
              obtain ⟨xu, uu⟩ := x
              show J _ _ _ _ _ ((65, .bool false) :: (72, .int .i64 ((k : Nat) : Int)) :: (71, .slice (some ⟨qb, 0, none⟩) (askC self F cs.reverse half).length cb0) :: _) _
              refine J.pr (fun hF => ?_)
              refine J.unguard rfl rfl rfl ?_
              refine J.indexAddrS Ty.el68 Ty.s75 rfl rfl (by omega) (by omega) rfl ?_
              exact J.finX rfl (fun _ hw => ⟨⟨xu, uu⟩, rfl, fun _ _ _ => rfl, hF, hw⟩)
            · skip
              obtain ⟨xu, uu⟩ := x
              show J _ _ _ _ _ ((65, .bool false) :: (73, .pointer (some ⟨qb, 0 + ((k : Nat) : Int).toNat * 35, none⟩)) :: _) _
              refine J.pr (fun hF => ?_)
              first | refine J.skip rfl rfl rfl rfl rfl ?_ | refine J.skipU rfl rfl rfl rfl ?_ | (refine J.unguard rfl rfl rfl ?_; refine J.fieldAddr Ty.fd75_1 rfl rfl ?_)
              exact J.finX rfl (fun _ hw => ⟨⟨xu, uu⟩, rfl, fun _ _ _ => rfl, hF, hw⟩)
            · skip
              obtain ⟨xu, uu⟩ := x
              show J _ _ _ _ _ ((65, .bool false) :: (74, .pointer (some ⟨qb, 0 + ((k : Nat) : Int).toNat * 35 + 16, none⟩)) :: _) _
              refine J.pr (fun hF => ?_)
              refine J.unguard rfl rfl rfl ?_
              refine J.load1 (v := .int .i64 yk.leg) Ty.a3 rfl (fun w1 hw => (candF_at (r := 16) (q := 0 + ((k : Nat) : Int).toNat * 35 + 16) (vs := [Value.int .i64 yk.leg]) (Row.own (o := 0) (cs := fC (askC self F cs.reverse half) ++ sb) (tb := 75) (fr := (0, 0)) hw (.tail _ (.head _)) (by rw [List.drop_zero, List.take_left]) hcb) hyk rfl (by simp) 0 Nat.one_pos : _)) rfl ?_
              exact J.finX rfl (fun _ hw => ⟨⟨xu, uu⟩, rfl, fun _ _ _ => rfl, hF, hw⟩)
            · skip
              obtain ⟨xu, uu⟩ := x
              show J _ _ _ _ _ ((65, .bool false) :: (75, .int .i64 yk.leg) :: (70, .int .i64 xk.leg) :: _) _
              refine J.pr (fun hF => ?_)
              refine J.unguard rfl rfl rfl ?_
              refine J.bin rfl rfl rfl rfl ?_
              refine J.name 76 rfl (show _ = Value.bool false by simp [hleg]) ?_
              exact J.finX rfl (fun _ hw => ⟨⟨xu, uu⟩, rfl, fun _ _ _ => rfl, hF, hw⟩)
            · skip
              obtain ⟨xu, uu⟩ := x
              show J _ _ _ _ _ ((76, .bool false) :: (65, .bool false) :: _) _
              refine J.pr (fun hF => ?_)
              (first | refine J.pickT rfl rfl rfl ?_ | refine J.pickF rfl rfl rfl ?_)
              exact J.finX rfl (fun _ hw => ⟨⟨xu, uu⟩, rfl, fun _ _ _ => rfl, hF, hw⟩)
          case htail =>
            intro x
            obtain ⟨xu, uu⟩ := x
            show J _ _ _ _ _ ((77, .bool false) :: (76, .bool false) :: (75, .int .i64 yk.leg) :: (74, .pointer (some ⟨qb, 0 + ((k : Nat) : Int).toNat * 35 + 16, none⟩)) :: (73, .pointer (some ⟨qb, 0 + ((k : Nat) : Int).toNat * 35, none⟩)) :: (72, .int .i64 ((k : Nat) : Int)) :: (71, .slice (some ⟨qb, 0, none⟩) (askC self F cs.reverse half).length cb0) :: (70, .int .i64 xk.leg) :: (69, .pointer (some ⟨qa, 0 + ((k : Nat) : Int).toNat * 35 + 16, none⟩)) :: (68, .pointer (some ⟨qa, 0 + ((k : Nat) : Int).toNat * 35, none⟩)) :: (67, .int .i64 ((k : Nat) : Int)) :: (66, .slice (some ⟨qa, 0, none⟩) (askC self F cs half).length ca0) :: (65, .bool false) :: (64, .bool false) :: (63, .agg (cI yk.id).toArray) :: (62, .pointer (some ⟨qb, 0 + ((k : Nat) : Int).toNat * 35 + 0, none⟩)) :: (61, .pointer (some ⟨qb, 0 + ((k : Nat) : Int).toNat * 35, none⟩)) :: (60, .int .i64 ((k : Nat) : Int)) :: (59, .slice (some ⟨qb, 0, none⟩) (askC self F cs.reverse half).length cb0) :: (58, .agg (cI xk.id).toArray) :: (57, .pointer (some ⟨qa, 0 + ((k : Nat) : Int).toNat * 35 + 0, none⟩)) :: (56, .pointer (some ⟨qa, 0 + ((k : Nat) : Int).toNat * 35, none⟩)) :: (55, .int .i64 ((k : Nat) : Int)) :: (54, .slice (some ⟨qa, 0, none⟩) (askC self F cs half).length ca0) :: _) (fun w1 => (True) ∧ St w [] ((qa, cb (fC (askC self F cs half) ++ sa) 75) :: (qb, cb (fC (askC self F cs.reverse half) ++ sb) 75) :: ((b1, cb pc 70) :: l10)) w1)
            refine J.pr (fun hF => ?_)
            refine J.nil ?_
            refine JX.thenN (hK17 _ _ ?_)
            first | refine JC.condF rfl ?_ | refine JC.cond rfl (fun h => by first | (exfalso; simp at h; omega) | (simp at h)) (fun _ => ?_)
            refine JC.skip ?_
            refine JX.blockN ?_
            refine JX.thenN (hK15 _ _ ?_)
            refine JC.region ?_
            (first | refine J.addN rfl rfl (by omega) (by omega) rfl ?_ | refine J.bin rfl rfl rfl rfl ?_)
            refine J.move rfl rfl ?_
            refine J.nil ?_
            refine JX.thenN ?_
            refine JX.again (k + 1) ?_ ?_ ?_
            · omega
            · exact ⟨rfl, rfl, rfl, rfl, trivial⟩
            · exact fun w1 hw => ⟨hlt, hw⟩
        · skip
          try simp only [decide_eq_true_eq, decide_eq_false_iff_not, beq_iff_eq, bne_iff_ne, bne_eq_false_iff_eq, ne_eq, beq_eq_false_iff_ne, Bool.not_eq_true, Bool.not_eq_false, Int.not_lt, Int.not_le] at h2
          refine JC.exit ?_
          refine JX.thenE ?_
          refine JX.thenE ?_
          refine JX.blockE ?_
          refine JX.thenN (hK11 _ _ ?_)
          refine JC.seq (fun K18 hK18 => ?_)
          refine JC.region ?_
          refine J.callB (v := .bool true) (fun w1 w2 hw hb => hw.step hb) Ty.bd39 rfl rfl (fun w1 hw => fixed17_spec w1) ?_
          refine J.assign rfl rfl ?_
          refine J.nil ?_
          refine JX.thenN (hK18 _ _ ?_)
          refine JC.ret ?_
          refine JX.ret1 rfl rfl (fun w hw => ?_)
          exact ⟨rfl, (hw.drop (List.nil_sublist _)).below⟩

theorem seekOrder_walk (w : World) (pc : List Value) (x : KnV) (hx : RKn w pc x) :
    Calls Try.prog 12 [.agg pc.toArray].toArray w fun r w' => r = .returned (.bool true) ∧ Bel w w' :=
  seekOrderL_spec pc x.me x.f.v x.f.xs x.c.v x.c.xs x.half w hx.1 hx.rowF hx.rowC hx.ok
end Go.Proofs.Ytbafhclandendaa
