/-
  slices.DeleteFunc at identities: contract.
-/
import Derived.Test.YtbafhclandendaaKf
namespace Go.Proofs.Ytbafhclandendaa
open Go.J Go.RowKit
set_option linter.unusedVariables false
set_option linter.unusedSimpArgs false
set_option maxRecDepth 4000
theorem placeI_spec : ∀ {xs : List IDV} {n : IDV}, 0 ≤ placeI xs n → ∃ i : Nat, placeI xs n = (i : Int) ∧ xs[i]? = some n ∧ ∀ j, j < i → xs[j]? ≠ some n
  | [], _, h => by simp [placeI] at h
  | x :: xs, n, h => by
    simp only [placeI] at h ⊢
    by_cases h0 : x = n
    · exact ⟨0, by simp [h0], by simp [h0], fun j hj => by omega⟩
    · rw [if_neg h0] at h ⊢
      by_cases h2 : placeI xs n < 0
      · rw [if_pos h2] at h; omega
      · rw [if_neg h2]
        obtain ⟨i, h3, h4, h5⟩ := placeI_spec (xs := xs) (n := n) (by omega)
        refine ⟨i + 1, by omega, by simpa using h4, fun j hj => ?_⟩
        cases j with
        | zero => simpa using h0
        | succ j => simpa using h5 j (by omega)
theorem DelInv.start {xs : List IDV} {self : IDV} {i : Nat} (hi : xs[i]? = some self) (hb : ∀ j, j < i → xs[j]? ≠ some self) : DelInv xs self ⟨i + 1, xs⟩ ∧ (delI (xs.take (i + 1)) self).length = i := by
  have hlt := (List.getElem?_eq_some_iff.1 hi).1
  have e1 : delI (xs.take i) self = xs.take i := delI_none (fun j hj => by
    have hj' : j < i := by rw [List.length_take] at hj; omega
    rw [List.getElem?_take_of_lt hj']
    exact hb j hj')
  have e2 : delI (xs.take (i + 1)) self = xs.take i := by
    rw [take_add_one hlt, delI, List.filter_append]
    have : xs[i] = self := by rw [List.getElem?_eq_getElem hlt] at hi; exact Option.some.inj hi
    rw [this]
    have := e1
    rw [delI] at this
    rw [this]
    simp
  have hl : (xs.take i).length = i := by rw [List.length_take]; omega
  refine ⟨⟨hlt, rfl, ?_, rfl⟩, by rw [e2, hl]⟩
  simp only
  rw [e2, hl]
structure DG where
  i : Nat
  j : Nat
  zs : List IDV

theorem deleteFunc_spec (q s cap : Nat) (xs : List IDV) (sp : List Value) (self : IDV) (w : World) (hw0 : Own w [(q, cb (fI xs ++ sp) 23), (s, cb (cI self) 23)]) (hcap : xs.length ≤ cap) (hsz : (fI xs ++ sp).length = cap * 16) (hl : xs.length < 4611686018427387904) :
    Calls Try.prog 62 [.slice (some ⟨q, 0, none⟩) xs.length cap, .func (.func 63) #[] #[.pointer (some ⟨s, 0, none⟩)]].toArray w fun r w' => ∃ sp' : List Value, r = .returned (.slice (some ⟨q, 0, none⟩) (delI xs self).length cap) ∧ (fI (delI xs self) ++ sp').length = cap * 16 ∧ St w [q, s] [(q, cb (fI (delI xs self) ++ sp') 23), (s, cb (cI self) 23)] w' := by
  refine calls_of_J (args := [.slice (some ⟨q, 0, none⟩) xs.length cap, .func (.func 63) #[] #[.pointer (some ⟨s, 0, none⟩)]]) (e := [(0, .slice (some ⟨q, 0, none⟩) xs.length cap), (1, .func (.func 63) #[] #[.pointer (some ⟨s, 0, none⟩)])]) Try.func62 rfl rfl ⟨rfl, rfl, trivial⟩ (hw0.st) ?_
  refine JC.seq (fun K0 hK0 => ?_)
  refine JC.region ?_
  refine J.assign rfl rfl ?_
  refine J.nil ?_
  refine JX.thenN (hK0 _ _ ?_)
  refine JC.seq (fun K1 hK1 => ?_)
  refine JC.region ?_
  refine J.move rfl rfl ?_
  refine J.move rfl rfl ?_
  refine J.callB (v := .int .i64 (placeI xs self)) (fun w1 w2 hw hb => hw.step hb) Ty.bd77 rfl rfl (fun w1 hw => indexFunc_spec (.slice (some ⟨q, 0, none⟩) xs.length cap) xs s self w1 (St.owns (l1 := [(s, cb (cI self) 23)]) (l := [(q, cb (fI xs ++ sp) 23)]) (hw.perm (by (refine perm_cnt (fun _ => ?_)); simp only [cntB_append, cntB_cons, cntB_nil, Nat.add_zero, Nat.zero_add]; try ac_rfl))) (Row.own hw (.head _) (by simp) hcap) (Off.mk (St.off (l1 := [(s, cb (cI self) 23)]) (l := [(q, cb (fI xs ++ sp) 23)]) (hw.perm (by (refine perm_cnt (fun _ => ?_)); simp only [cntB_append, cntB_cons, cntB_nil, Nat.add_zero, Nat.zero_add]; try ac_rfl)) (.head _))) hl) ?_
  refine J.assign rfl rfl ?_
  refine J.nil ?_
  refine JX.thenN (hK1 _ _ ?_)
  refine JC.seq (fun K2 hK2 => ?_)
  refine JC.seq (fun K3 hK3 => ?_)
  refine JC.region ?_
  refine J.move rfl rfl ?_
  refine J.bin rfl rfl rfl rfl ?_
  refine J.nil ?_
  refine JX.thenN (hK3 _ _ ?_)
  refine JC.cond rfl (fun h0 => ?_) (fun h0 => ?_)
  · skip
    have hno : placeI xs self = -1 := by simp at h0; exact h0
    have hxs : delI xs self = xs := List.filter_eq_self.2 fun x hx => by
      have : x ≠ self := fun e => by
        have := placeI_mem.2 (e ▸ hx)
        omega
      simpa using this
    refine JC.seq (fun K4 hK4 => ?_)
    refine JC.region ?_
    refine J.move rfl rfl ?_
    refine J.assign rfl rfl ?_
    refine J.nil ?_
    refine JX.thenN (hK4 _ _ ?_)
    refine JC.ret ?_
    refine JX.thenR ?_
    refine JX.ret1 rfl rfl (fun w hw => ?_)
    first | exact ⟨sp, by rw [hxs], by rw [hxs]; exact hsz, by rw [hxs]; exact hw⟩ | exact ⟨sp2, rfl, by rw [hc2, List.length_append, hfz, hzl, ← fI_length xs, ← List.length_append]; exact hsz, hw⟩
  · skip
    have hge := placeI_ge xs self
    have hne1 : placeI xs self ≠ -1 := by simp at h0; exact h0
    obtain ⟨i0, hi0, hi1, hi2⟩ := placeI_spec (xs := xs) (n := self) (by omega)
    have hi3 := (List.getElem?_eq_some_iff.1 hi1).1
    have hst := DelInv.start hi1 hi2
    refine JC.skip ?_
    refine JX.thenN (hK2 _ _ ?_)
    refine JC.seq (fun K5 hK5 => ?_)
    refine JC.seq (fun K6 hK6 => ?_)
    refine JC.region ?_
    refine J.name 5 rfl (congrArg (Value.int .i64) hi0) ?_
    refine J.move rfl rfl ?_
    (first | refine J.addN rfl rfl (by omega) (by omega) rfl ?_ | refine J.bin rfl rfl rfl rfl ?_)
    refine J.assign rfl rfl ?_
    refine J.nil ?_
    refine JX.thenN (hK6 _ _ ?_)
    refine JC.block ?_
    refine JC.conseq (JC.cov (f := (fun st => [(0, .slice (some ⟨q, 0, none⟩) xs.length cap), (1, .func (.func 63) #[] #[.pointer (some ⟨s, 0, none⟩)]), (5, .int .i64 ((st.i : Nat) : Int)), (6, .int .i64 ((st.j : Nat) : Int))]) (⟨i0, i0 + 1, xs⟩ : DG)) ⟨rfl, rfl, rfl, rfl, trivial⟩ (JC.loop (α := DG) (fun st => [(0, .slice (some ⟨q, 0, none⟩) xs.length cap), (1, .func (.func 63) #[] #[.pointer (some ⟨s, 0, none⟩)]), (5, .int .i64 ((st.i : Nat) : Int)), (6, .int .i64 ((st.j : Nat) : Int))]) (fun st w' => (DelInv xs self ⟨st.j, st.zs⟩ ∧ st.i = (delI (xs.take st.j) self).length) ∧ St w [q, s] [(q, cb (fI st.zs ++ sp) 23), (s, cb (cI self) 23)] w') (fun st => xs.length - st.j) (⟨i0, i0 + 1, xs⟩ : DG) (fun st => ?_))) (fun w hw => ⟨⟨hst.1, hst.2.symm⟩, hw⟩)
    obtain ⟨i, j, zs⟩ := st
    refine JC.pr (fun hx => ?_)
    obtain ⟨hI, hiv⟩ := hx
    have hjl := hI.hj
    have hzl := hI.hl
    simp only at hiv hjl hzl ⊢
    refine JC.seq (fun K7 hK7 => ?_)
    refine JC.seq (fun K8 hK8 => ?_)
    refine JC.region ?_
    refine J.move rfl rfl ?_
    refine J.move rfl rfl ?_
    refine J.lenS rfl Ty.u24 rfl rfl ?_
    refine J.bin rfl rfl rfl rfl ?_
    refine J.nil ?_
    refine JX.thenN (hK8 _ _ ?_)
    refine JC.cond rfl (fun h1 => ?_) (fun h1 => ?_)
    · skip
      have hlt : j < xs.length := by simp at h1; omega
      have hget : zs[j]? = some xs[j] := hI.get hlt
      have hile : i ≤ j := by
        have := delI_le (xs.take j) self
        rw [List.length_take] at this
        omega
      refine JC.skip ?_
      refine JX.thenN (hK7 _ _ ?_)
      refine JC.seq (fun K9 hK9 => ?_)
      refine JC.block ?_
      refine JC.seq (fun K10 hK10 => ?_)
      refine JC.region ?_
      refine J.move rfl rfl ?_
      refine J.move rfl rfl ?_
      refine J.indexAddrS Ty.el24 Ty.s23 rfl rfl (by omega) (by omega) rfl ?_
      refine J.loadA (vs := cI xs[j]) Ty.a23 Ty.s23 rfl rfl (fun w1 hw => rowF_at (xs := zs) (k := xs.length) (c := cap) (Row.own (o := 0) (cs := fI zs ++ sp) hw (.head _) (by rw [List.drop_zero, List.take_left]) hcap) hget (by omega)) rfl ?_
      refine J.alloc Ty.zID rfl rfl (fun b7 => ?_)
      refine J.storeW Ty.s23 rfl rfl rfl rfl rfl (by simp [Value.oneCell']) (by repeat first | exact .here | apply Up.there) ?_
      refine J.nil ?_
      refine JX.thenN (hK10 _ _ ?_)
      refine JC.seq (fun K11 hK11 => ?_)
      refine JC.region ?_
      refine J.move rfl rfl ?_
      refine J.loadOA (vs := cI xs[j]) Ty.a23 Ty.s23 rfl (by repeat first | exact .head _ | apply List.Mem.tail | apply List.mem_append_right) (by exact rfl) rfl rfl ?_
      refine J.callVB (v := .bool (decide (xs[j] = self))) (fun w1 w2 hw hb => hw.step hb) Ty.bd63 rfl rfl rfl (fun w1 hw => by simpa using sorted1_spec s self xs[j] w1 (St.owns (l1 := [(s, cb (cI self) 23)]) (l := [(b7, cb (cI xs[j]) 23), (q, cb (fI zs ++ sp) 23)]) (hw.perm (by (refine perm_cnt (fun _ => ?_)); simp only [cntB_append, cntB_cons, cntB_nil, Nat.add_zero, Nat.zero_add]; try ac_rfl)))) ?_
      refine J.not rfl rfl ?_
      refine J.nil ?_
      refine JX.thenN (hK11 _ _ ?_)
      refine JC.cond rfl (fun h2 => ?_) (fun h2 => ?_)
      · skip
        have hxn : xs[j] ≠ self := by simp at h2; exact h2
        have hput := hI.put hlt hxn
        simp only at hput
        refine JC.seq (fun K12 hK12 => ?_)
        refine JC.region ?_
        refine J.move rfl rfl ?_
        refine J.move rfl rfl ?_
        refine J.loadOA (vs := cI xs[j]) Ty.a23 Ty.s23 rfl (by repeat first | exact .head _ | apply List.Mem.tail | apply List.mem_append_right) (by exact rfl) rfl rfl ?_
        refine J.indexAddrS Ty.el24 Ty.s23 rfl rfl (by omega) (by omega) rfl ?_
        refine J.storeO (cs := fI zs ++ sp) (vs := cI xs[j]) Ty.s23 rfl rfl rfl rfl (by simp [Value.oneCell']) (.there .here) (by have := fI_length zs; simp only [List.length_append]; omega) ?_
        refine J.conseq (I' := St w [q, s] [(b7, cb (cI xs[j]) 23), (q, cb (fI (zs.set i xs[j]) ++ sp) 23), (s, cb (cI self) 23)]) ?_ (fun w1 hw => by rw [← fI_set (show i < zs.length by omega)]; exact hw)
        refine J.nil ?_
        refine JX.thenN (hK12 _ _ ?_)
        refine JC.region ?_
        refine J.move rfl rfl ?_
        (first | refine J.addN rfl rfl (by omega) (by omega) rfl ?_ | refine J.bin rfl rfl rfl rfl ?_)
        refine J.assign rfl rfl ?_
        refine J.nil ?_
        refine JX.blockN ?_
        refine JX.thenN (hK9 _ _ ?_)
        refine JC.region ?_
        refine J.move rfl rfl ?_
        (first | refine J.addN rfl rfl (by omega) (by omega) rfl ?_ | refine J.bin rfl rfl rfl rfl ?_)
        refine J.assign rfl rfl ?_
        refine J.nil ?_
        refine JX.thenN ?_
        refine JX.again (⟨i + 1, j + 1, zs.set i xs[j]⟩ : DG) ?_ ?_ ?_
        · simp only; omega
        · exact ⟨rfl, rfl, rfl, rfl, trivial⟩
        · exact fun w1 hw => ⟨⟨by rw [hiv]; exact hput.1, by rw [hput.2, ← hiv]⟩, hw.drop (List.sublist_cons_self _ _)⟩
      · skip
        have hxe : xs[j] = self := by simp at h2; exact h2
        have hskip := hI.skip hlt hxe
        simp only at hskip
        refine JC.skip ?_
        refine JX.blockN ?_
        refine JX.thenN (hK9 _ _ ?_)
        refine JC.region ?_
        refine J.move rfl rfl ?_
        (first | refine J.addN rfl rfl (by omega) (by omega) rfl ?_ | refine J.bin rfl rfl rfl rfl ?_)
        refine J.assign rfl rfl ?_
        refine J.nil ?_
        refine JX.thenN ?_
        refine JX.again (⟨i, j + 1, zs⟩ : DG) ?_ ?_ ?_
        · simp only; omega
        · exact ⟨rfl, rfl, rfl, rfl, trivial⟩
        · exact fun w1 hw => ⟨⟨hskip.1, by rw [hskip.2]; exact hiv⟩, hw.drop (List.sublist_cons_self _ _)⟩
    · skip
      have hge : j = xs.length := by simp at h1; omega
      subst hge
      have hfin : i = (delI xs self).length := by rw [hiv, List.take_of_length_le (Nat.le_refl _)]
      have hile : i ≤ xs.length := by have := delI_le xs self; omega
      have htk := hI.tk
      simp only at htk
      rw [List.take_of_length_le (Nat.le_refl _), ← hfin] at htk
      refine JC.exit ?_
      refine JX.thenE ?_
      refine JX.thenE ?_
      refine JX.blockE ?_
      refine JX.thenN (hK5 _ _ ?_)
      refine JC.seq (fun K13 hK13 => ?_)
      refine JC.region ?_
      refine J.move rfl rfl ?_
      refine J.move rfl rfl ?_
      obtain ⟨oo, hoo, hoz⟩ : ∃ oo, (if cap = i then some (⟨q, 0, none⟩ : Addr) else (some (⟨q, 0, none⟩ : Addr)).map (·.add (i * 16))) = some ⟨q, oo, none⟩ ∧ (xs.length - i = 0 ∨ oo = i * 16) := by
        by_cases hci : cap = i
        · exact ⟨0, by rw [if_pos hci], .inl (by omega)⟩
        · exact ⟨i * 16, by rw [if_neg hci]; simp [Addr.add]; omega, .inr rfl⟩
      refine J.sliceS Ty.el24 Ty.s23 rfl rfl rfl rfl rfl (by omega) (by omega) (by omega) rfl ?_
      refine J.name 38 rfl (show _ = Value.slice (some ⟨q, oo, none⟩) (xs.length - i) (cap - i) by rw [← hoo]; rfl) ?_
      have hfz := fI_length zs
      obtain ⟨sp2, hc1, hc2⟩ := clear_end (sp := sp) (Z := (Builtin.zeroCells (cI zI).toArray (xs.length - i)).toList) hzl htk hile (by rw [zeroCells_length]; rfl) hoz
      refine J.clear (cs := fI zs ++ sp) (sz := 16) rfl Ty.el24 Ty.zID rfl (by decide) (fun u hu => fI_one (xs := [zI]) (List.mem_append_left [] hu)) rfl .here (by simp only [List.length_append]; rcases hoz with h | h <;> omega) ?_
      refine J.conseq (I' := St w [q, s] [(q, cb (fI (delI xs self) ++ sp2) 23), (s, cb (cI self) 23)]) ?_ (fun w1 hw => by rw [← hc1]; exact hw)
      refine J.nil ?_
      refine JX.thenN (hK13 _ _ ?_)
      refine JC.seq (fun K14 hK14 => ?_)
      refine JC.region ?_
      refine J.move rfl rfl ?_
      refine J.move rfl rfl ?_
      refine J.sliceS Ty.el24 Ty.s23 rfl rfl rfl rfl rfl (by omega) (by omega) (by omega) rfl ?_
      refine J.name 41 rfl (show _ = Value.slice (some ⟨q, 0, none⟩) (delI xs self).length cap by rw [← hfin]; split <;> simp [Addr.add]) ?_
      refine J.assign rfl rfl ?_
      refine J.nil ?_
      refine JX.thenN (hK14 _ _ ?_)
      refine JC.ret ?_
      refine JX.ret1 rfl rfl (fun w hw => ?_)
      first | exact ⟨sp, by rw [hxs], by rw [hxs]; exact hsz, by rw [hxs]; exact hw⟩ | exact ⟨sp2, rfl, by rw [hc2, List.length_append, hfz, hzl, ← fI_length xs, ← List.length_append]; exact hsz, hw⟩

end Go.Proofs.Ytbafhclandendaa
