/-
  SeekOrder: texts that its proof needs, part 3.
-/
import Derived.Test.YtbafhclandendaaZSeekOrderb
/-
  Symmetric merging, at candidates: contract.
-/
namespace Go.Proofs.Ytbafhclandendaa
open Go.J Go.RowKit
set_option linter.unusedVariables false
set_option linter.unusedSimpArgs false
set_option maxRecDepth 8000
theorem half_val (s : Nat) : Int.fdiv ((s : Nat) : Int) (2 ^ (min (1 : Int).toNat IntKind.u64.bits)) = ((s / 2 : Nat) : Int) := by
  rw [show (2 : Int) ^ (min (1 : Int).toNat IntKind.u64.bits) = 2 from rfl, Int.fdiv_eq_ediv_of_nonneg _ (by omega)]
  omega
theorem swap_mid' {α : Type} (l r : List α) (x y : α) : ((l ++ x :: y :: r).set l.length y).set (l.length + 1) x = l ++ y :: x :: r := by
  simp [List.set_append]
theorem take_get {α : Type} {l : List α} {k : Nat} {x : α} (h : l[k]? = some x) : l.take (k + 1) = l.take k ++ [x] := by rw [List.take_add_one, h]; rfl
theorem drop_get {α : Type} {l : List α} {k : Nat} {x : α} (h : l[k]? = some x) : l.drop k = x :: l.drop (k + 1) := by rw [List.drop_eq_getElem_cons (List.getElem?_eq_some_iff.1 h).1, (List.getElem?_eq_some_iff.1 h).2]
/-- of a rising row: if one is less than x, all ahead of it are -/
theorem all_lt {R : List CV} {k : Nat} {x y : CV} (hR : Srt ltC R) (hy : R[k]? = some y) (h : ltC y x) : ∀ z, z ∈ R.take (k + 1) → ltC z x := by
  intro z hz
  obtain ⟨p, hp⟩ := List.mem_iff_getElem?.1 hz
  have hl := (List.getElem?_eq_some_iff.1 hp).1
  rw [List.length_take] at hl
  rw [List.getElem?_take_of_lt (by omega)] at hp
  exact swoC.le_lt (hR.get' swoC hp hy (by omega)) h
theorem all_ge {R : List CV} {k : Nat} {x y : CV} (hR : Srt ltC R) (hy : R[k]? = some y) (h : ¬ ltC y x) : ∀ z, z ∈ R.drop k → ¬ ltC z x := by
  intro z hz
  obtain ⟨p, hp⟩ := List.mem_iff_getElem?.1 hz
  rw [List.getElem?_drop] at hp
  exact swoC.ntr (hR.get' swoC hy hp (by omega)) h
theorem all_le {L : List CV} {k : Nat} {x y : CV} (hL : Srt ltC L) (hx : L[k]? = some x) (h : ¬ ltC y x) : ∀ z, z ∈ L.take (k + 1) → ¬ ltC y z := by
  intro z hz
  obtain ⟨p, hp⟩ := List.mem_iff_getElem?.1 hz
  have hl := (List.getElem?_eq_some_iff.1 hp).1
  rw [List.length_take] at hl
  rw [List.getElem?_take_of_lt (by omega)] at hp
  exact swoC.ntr h (hL.get' swoC hp hx (by omega))
theorem all_gt {L : List CV} {k : Nat} {x y : CV} (hL : Srt ltC L) (hx : L[k]? = some x) (h : ltC y x) : ∀ z, z ∈ L.drop k → ltC y z := by
  intro z hz
  obtain ⟨p, hp⟩ := List.mem_iff_getElem?.1 hz
  rw [List.getElem?_drop] at hp
  exact swoC.lt_le h (hL.get' swoC hx hp (by omega))
theorem get_L {P L R T : List CV} {i : Nat} {x : CV} (h : L[i]? = some x) : (P ++ (L ++ (R ++ T)))[P.length + i]? = some x := by
  have hl := (List.getElem?_eq_some_iff.1 h).1
  rw [List.getElem?_append_right (by omega), Nat.add_sub_cancel_left, List.getElem?_append_left hl]
  exact h
theorem get_R {P L R T : List CV} {i : Nat} {x : CV} (h : R[i]? = some x) : (P ++ (L ++ (R ++ T)))[P.length + L.length + i]? = some x := by
  have hl := (List.getElem?_eq_some_iff.1 h).1
  rw [List.getElem?_append_right (by omega), List.getElem?_append_right (by omega), show P.length + L.length + i - P.length - L.length = i by omega, List.getElem?_append_left hl]
  exact h

set_option maxHeartbeats 4000000 in
theorem symMerge_left (q n c : Nat) (sp : List Value) (hnc : n ≤ c) (hnb : n ≤ 1099511627776) (P L R T : List CV) (w : World) (hw0 : Own w [(q, cb (fC (P ++ (L ++ (R ++ T))) ++ sp) 75)]) (hn : (P ++ (L ++ (R ++ T))).length = n) (hL0 : 0 < L.length) (hR0 : 0 < R.length) (hL : Srt ltC L) (hR : Srt ltC R) (hL1 : L.length = 1) (IH : ∀ (P1 L1 R1 T1 : List CV) (w1 : World), Own w1 [(q, cb (fC (P1 ++ (L1 ++ (R1 ++ T1))) ++ sp) 75)] → (P1 ++ (L1 ++ (R1 ++ T1))).length = n → 0 < L1.length → 0 < R1.length → Srt ltC L1 → Srt ltC R1 → L1.length + R1.length < L.length + R.length → ∀ a m b : Nat, P1.length = a → a + L1.length = m → m + R1.length = b → Calls Try.prog 82 [.slice (some ⟨q, 0, none⟩) n c, .int .i64 ((a : Nat) : Int), .int .i64 ((m : Nat) : Int), .int .i64 ((b : Nat) : Int), .func (.func 55) #[] #[]].toArray w1 fun r w' => ∃ Z : List CV, r = .returned (.tuple #[]) ∧ (SE ltC (L1 ++ R1) Z ∧ Srt ltC Z) ∧ St w1 [q] [(q, cb (fC (P1 ++ (Z ++ T1)) ++ sp) 75)] w') :
    Calls Try.prog 82 [.slice (some ⟨q, 0, none⟩) n c, .int .i64 ((P.length : Nat) : Int), .int .i64 (((P.length + L.length) : Nat) : Int), .int .i64 (((P.length + L.length + R.length) : Nat) : Int), .func (.func 55) #[] #[]].toArray w fun r w' => ∃ Z : List CV, r = .returned (.tuple #[]) ∧ (SE ltC (L ++ R) Z ∧ Srt ltC Z) ∧ St w [q] [(q, cb (fC (P ++ (Z ++ T)) ++ sp) 75)] w' := by
  obtain ⟨xe, hLe⟩ : ∃ x, L = [x] := List.length_eq_one_iff.1 hL1
  have gx : (P ++ (L ++ (R ++ T)))[P.length]? = some xe := by have := get_L (P := P) (R := R) (T := T) (L := L) (i := 0) (x := xe) (by rw [hLe]; rfl); exact this
  have hPn : P.length + L.length + R.length + T.length = n := by simp only [List.length_append] at hn; omega
  refine calls_of_J (args := [.slice (some ⟨q, 0, none⟩) n c, .int .i64 ((P.length : Nat) : Int), .int .i64 (((P.length + L.length) : Nat) : Int), .int .i64 (((P.length + L.length + R.length) : Nat) : Int), .func (.func 55) #[] #[]]) (e := [(0, .slice (some ⟨q, 0, none⟩) n c), (1, .int .i64 ((P.length : Nat) : Int)), (2, .int .i64 (((P.length + L.length) : Nat) : Int)), (3, .int .i64 (((P.length + L.length + R.length) : Nat) : Int)), (4, .func (.func 55) #[] #[])]) Try.func82 rfl rfl ⟨rfl, rfl, rfl, rfl, rfl, trivial⟩ (hw0.st) ?_
  refine JC.seq (fun K0 hK0 => ?_)
  refine JC.seq (fun K1 hK1 => ?_)
  refine JC.region ?_
  refine J.move rfl rfl ?_
  refine J.move rfl rfl ?_
  refine J.subN rfl rfl (by omega) (by omega) rfl ?_
  refine J.name 27 rfl (show _ = Value.int .i64 ((L.length : Nat) : Int) from congrArg (Value.int .i64) (by omega)) ?_
  refine J.bin rfl rfl rfl rfl ?_
  refine J.name 28 rfl (show _ = Value.bool true by simp; omega) ?_
  refine J.nil ?_
  refine JX.thenN (hK1 _ _ ?_)
  first | refine JC.condT rfl ?_ | refine JC.cond rfl (fun _ => ?_) (fun h => by first | (exfalso; simp at h; omega) | (simp at h))
  refine JC.seq (fun K2 hK2 => ?_)
  refine JC.region ?_
  refine J.move rfl rfl ?_
  refine J.assign rfl rfl ?_
  refine J.nil ?_
  refine JX.thenN (hK2 _ _ ?_)
  refine JC.seq (fun K3 hK3 => ?_)
  refine JC.region ?_
  refine J.move rfl rfl ?_
  refine J.assign rfl rfl ?_
  refine J.nil ?_
  refine JX.thenN (hK3 _ _ ?_)
  refine JC.seq (fun K4 hK4 => ?_)
  refine JC.block ?_
  refine JC.conseq (JC.cov (f := (fun st => [(0, .slice (some ⟨q, 0, none⟩) n c), (1, .int .i64 ((P.length : Nat) : Int)), (2, .int .i64 (((P.length + L.length) : Nat) : Int)), (3, .int .i64 (((P.length + L.length + R.length) : Nat) : Int)), (4, .func (.func 55) #[] #[]), (10, .int .i64 (((P.length + L.length + st.1) : Nat) : Int)), (11, .int .i64 (((P.length + L.length + st.2) : Nat) : Int))]) ((0, R.length) : Nat × Nat)) ⟨rfl, rfl, rfl, rfl, rfl, rfl, rfl, trivial⟩ (JC.loop (α := Nat × Nat) (fun st => [(0, .slice (some ⟨q, 0, none⟩) n c), (1, .int .i64 ((P.length : Nat) : Int)), (2, .int .i64 (((P.length + L.length) : Nat) : Int)), (3, .int .i64 (((P.length + L.length + R.length) : Nat) : Int)), (4, .func (.func 55) #[] #[]), (10, .int .i64 (((P.length + L.length + st.1) : Nat) : Int)), (11, .int .i64 (((P.length + L.length + st.2) : Nat) : Int))]) (fun st w' => (st.1 ≤ st.2 ∧ st.2 ≤ R.length ∧ (∀ y, y ∈ R.take st.1 → ltC y xe) ∧ ∀ y, y ∈ R.drop st.2 → ¬ ltC y xe) ∧ St w [q] [(q, cb (fC (P ++ (L ++ (R ++ T))) ++ sp) 75)] w') (fun st => st.2 - st.1) ((0, R.length) : Nat × Nat) (fun st => ?_))) (fun w hw => ⟨⟨Nat.zero_le _, Nat.le_refl _, by simp, by simp⟩, hw⟩)
  obtain ⟨i, j⟩ := st
  refine JC.pr (fun hI => ?_)
  obtain ⟨hij, hjR, hlt1, hge1⟩ := hI
  try simp only at hij hjR hlt1 hge1 ⊢
  refine JC.seq (fun K5 hK5 => ?_)
  refine JC.seq (fun K6 hK6 => ?_)
  refine JC.region ?_
  refine J.move rfl rfl ?_
  refine J.move rfl rfl ?_
  refine J.bin rfl rfl rfl rfl ?_
  refine J.nil ?_
  refine JX.thenN (hK6 _ _ ?_)
  refine JC.cond rfl (fun h1 => ?_) (fun h1 => ?_)
  · skip
    have hlt : i < j := by
      have h9 : (P.length + L.length + i : Int) < P.length + L.length + j := by simpa using h1
      omega
    obtain ⟨h, hh1, hh2, hh3⟩ : ∃ h, (P.length + L.length + i + (P.length + L.length + j)) / 2 = P.length + L.length + h ∧ i ≤ h ∧ h < j := ⟨(i + j) / 2, by omega, by omega, by omega⟩
    obtain ⟨ye, hye⟩ : ∃ y, R[h]? = some y := ⟨_, List.getElem?_eq_getElem (by omega)⟩
    have gy := get_R (P := P) (L := L) (T := T) hye
    refine JC.skip ?_
    refine JX.thenN (hK5 _ _ ?_)
    refine JC.block ?_
    refine JC.seq (fun K7 hK7 => ?_)
    refine JC.region ?_
    refine J.move rfl rfl ?_
    refine J.move rfl rfl ?_
    refine J.addN rfl rfl (by omega) (by omega) rfl ?_
    refine J.name 36 rfl (show _ = .int .i64 (((P.length + L.length + i + (P.length + L.length + j)) : Nat) : Int) from congrArg (Value.int .i64) (by omega)) ?_
    refine J.convInt Ty.u3 Ty.u31 rfl rfl ?_
    refine J.name 37 rfl (show _ = Value.int .u64 (((P.length + L.length + i + (P.length + L.length + j)) : Nat) : Int) from congrArg (Value.int .u64) (wrap_u64 (by omega) (by omega))) ?_
    refine J.shrN rfl rfl (by omega) rfl ?_
    refine J.name 38 rfl (show _ = Value.int .u64 (((P.length + L.length + h) : Nat) : Int) from congrArg (Value.int .u64) ((half_val (P.length + L.length + i + (P.length + L.length + j))).trans (congrArg (fun k : Nat => ((k : Nat) : Int)) hh1))) ?_
    refine J.convInt Ty.u31 Ty.u3 rfl rfl ?_
    refine J.name 39 rfl (show _ = .int .i64 (((P.length + L.length + h) : Nat) : Int) from congrArg (Value.int .i64) (wrap_i64 (by omega) (by omega))) ?_
    refine J.assign rfl rfl ?_
    refine J.nil ?_
    refine JX.thenN (hK7 _ _ ?_)
    refine JC.seq (fun K8 hK8 => ?_)
    apply JC.drawX (α := Nat × Unit) 11 (fun x => match x with | ⟨xu, uu⟩ => [.func (.func 55) #[] #[], .slice (some ⟨q, 0, none⟩) n c, .int .i64 (((P.length + L.length + h) : Nat) : Int), .pointer (some ⟨q, 0 + (((P.length + L.length + h) : Nat) : Int).toNat * 35, none⟩), .agg (cC ye).toArray, .slice (some ⟨q, 0, none⟩) n c, .int .i64 ((P.length : Nat) : Int), .pointer (some ⟨q, 0 + ((P.length : Nat) : Int).toNat * 35, none⟩), .agg (cC xe).toArray, .int .i64 (ordC ye xe), .bool (decide (ltC ye xe))]) (fun m x => match x with | ⟨xu, uu⟩ => fun w1 => (True) ∧ St w [q] ((q, cb (fC (P ++ (L ++ (R ++ T))) ++ sp) 75) :: []) w1) Ty.mixed rfl rfl rfl (by kernel_rfl) rfl rfl ?hinit ?hstep ?htail
    case hinit => exact fun w1 hw => ⟨(0, ()), trivial, hw.drew⟩
    case hstep =>
      refine ⟨fun m x hm hp => ?_, fun m x hm hp => ?_, fun m x hm hp => ?_, fun m x hm hp => ?_, fun m x hm hp => ?_, fun m x hm hp => ?_, fun m x hm hp => ?_, fun m x hm hp => ?_, fun m x hm hp => ?_, fun m x hm hp => ?_, fun m x hm hp => ?_, trivial⟩
      · skip
        obtain ⟨xu, uu⟩ := x
        show J _ _ _ _ _ (_) _
        refine J.pr (fun hF => ?_)
        refine J.move rfl rfl ?_
        exact J.finX rfl (fun _ hw => ⟨⟨xu, uu⟩, rfl, fun _ _ _ => rfl, hF, hw⟩)
      · skip
        obtain ⟨xu, uu⟩ := x
        show J _ _ _ _ _ (_) _
        refine J.pr (fun hF => ?_)
        refine J.move rfl rfl ?_
        exact J.finX rfl (fun _ hw => ⟨⟨xu, uu⟩, rfl, fun _ _ _ => rfl, hF, hw⟩)
      · skip
        obtain ⟨xu, uu⟩ := x
        show J _ _ _ _ _ (_) _
        refine J.pr (fun hF => ?_)
        refine J.move rfl rfl ?_
        exact J.finX rfl (fun _ hw => ⟨⟨xu, uu⟩, rfl, fun _ _ _ => rfl, hF, hw⟩)
      · skip
        obtain ⟨xu, uu⟩ := x
        show J _ _ _ _ _ ((42, .int .i64 (((P.length + L.length + h) : Nat) : Int)) :: (41, .slice (some ⟨q, 0, none⟩) n c) :: _) _
        refine J.pr (fun hF => ?_)
        refine J.indexAddrS Ty.el68 Ty.s75 rfl rfl (by omega) (by omega) rfl ?_
        exact J.finX rfl (fun _ hw => ⟨⟨xu, uu⟩, rfl, fun _ _ _ => rfl, hF, hw⟩)
      · skip
        obtain ⟨xu, uu⟩ := x
        show J _ _ _ _ _ ((43, .pointer (some ⟨q, 0 + (((P.length + L.length + h) : Nat) : Int).toNat * 35, none⟩)) :: _) _
        refine J.pr (fun hF => ?_)
        refine J.loadA (vs := cC ye) Ty.a75 Ty.s75 rfl rfl (fun w1 hw => rowG_at (c := cC) (sz := 35) (fun _ => rfl) (rowC_own (xs := P ++ (L ++ (R ++ T))) hw (.head _) hn hnc) gy (by rw [Int.toNat_natCast])) rfl ?_
        exact J.finX rfl (fun _ hw => ⟨⟨xu, uu⟩, rfl, fun _ _ _ => rfl, hF, hw⟩)
      · skip
        obtain ⟨xu, uu⟩ := x
        show J _ _ _ _ _ (_) _
        refine J.pr (fun hF => ?_)
        refine J.move rfl rfl ?_
        exact J.finX rfl (fun _ hw => ⟨⟨xu, uu⟩, rfl, fun _ _ _ => rfl, hF, hw⟩)
      · skip
        obtain ⟨xu, uu⟩ := x
        show J _ _ _ _ _ (_) _
        refine J.pr (fun hF => ?_)
        refine J.move rfl rfl ?_
        exact J.finX rfl (fun _ hw => ⟨⟨xu, uu⟩, rfl, fun _ _ _ => rfl, hF, hw⟩)
      · skip
        obtain ⟨xu, uu⟩ := x
        show J _ _ _ _ _ ((46, .int .i64 ((P.length : Nat) : Int)) :: (45, .slice (some ⟨q, 0, none⟩) n c) :: _) _
        refine J.pr (fun hF => ?_)
        refine J.indexAddrS Ty.el68 Ty.s75 rfl rfl (by omega) (by omega) rfl ?_
        exact J.finX rfl (fun _ hw => ⟨⟨xu, uu⟩, rfl, fun _ _ _ => rfl, hF, hw⟩)
      · skip
        obtain ⟨xu, uu⟩ := x
        show J _ _ _ _ _ ((47, .pointer (some ⟨q, 0 + ((P.length : Nat) : Int).toNat * 35, none⟩)) :: _) _
        refine J.pr (fun hF => ?_)
        refine J.loadA (vs := cC xe) Ty.a75 Ty.s75 rfl rfl (fun w1 hw => rowG_at (c := cC) (sz := 35) (fun _ => rfl) (rowC_own (xs := P ++ (L ++ (R ++ T))) hw (.head _) hn hnc) gx (by rw [Int.toNat_natCast])) rfl ?_
        exact J.finX rfl (fun _ hw => ⟨⟨xu, uu⟩, rfl, fun _ _ _ => rfl, hF, hw⟩)
      · skip
        obtain ⟨xu, uu⟩ := x
        show J _ _ _ _ _ ((48, .agg (cC xe).toArray) :: (44, .agg (cC ye).toArray) :: (40, .func (.func 55) #[] #[]) :: _) _
        refine J.pr (fun hF => ?_)
        refine J.callVB (v := .int .i64 (ordC ye xe)) (fun w1 w2 hw hb => hw.step hb) Ty.bd55 rfl rfl rfl (fun w1 hw => order_spec ye xe w1) ?_
        exact J.finX rfl (fun _ hw => ⟨⟨xu, uu⟩, rfl, fun _ _ _ => rfl, hF, hw⟩)
      · skip
        obtain ⟨xu, uu⟩ := x
        show J _ _ _ _ _ ((49, .int .i64 (ordC ye xe)) :: _) _
        refine J.pr (fun hF => ?_)
        refine J.bin rfl rfl rfl rfl ?_
        refine J.name 50 rfl (show _ = Value.bool (decide (ltC ye xe)) from rfl) ?_
        exact J.finX rfl (fun _ hw => ⟨⟨xu, uu⟩, rfl, fun _ _ _ => rfl, hF, hw⟩)
    case htail =>
      intro x
      obtain ⟨xu, uu⟩ := x
      show J _ _ _ _ _ ((50, .bool (decide (ltC ye xe))) :: (49, .int .i64 (ordC ye xe)) :: (48, .agg (cC xe).toArray) :: (47, .pointer (some ⟨q, 0 + ((P.length : Nat) : Int).toNat * 35, none⟩)) :: (46, .int .i64 ((P.length : Nat) : Int)) :: (45, .slice (some ⟨q, 0, none⟩) n c) :: (44, .agg (cC ye).toArray) :: (43, .pointer (some ⟨q, 0 + (((P.length + L.length + h) : Nat) : Int).toNat * 35, none⟩)) :: (42, .int .i64 (((P.length + L.length + h) : Nat) : Int)) :: (41, .slice (some ⟨q, 0, none⟩) n c) :: (40, .func (.func 55) #[] #[]) :: _) (fun w1 => (True) ∧ St w [q] ((q, cb (fC (P ++ (L ++ (R ++ T))) ++ sp) 75) :: []) w1)
      refine J.pr (fun hF => ?_)
      refine J.nil ?_
      refine JX.thenN (hK8 _ _ ?_)
      refine JC.cond rfl (fun h2 => ?_) (fun h2 => ?_)
      · skip
        have hcmp : ltC ye xe := by simpa using h2
        refine JC.region ?_
        refine J.move rfl rfl ?_
        refine J.addN rfl rfl (by omega) (by omega) rfl ?_
        refine J.name 52 rfl (show _ = .int .i64 (((P.length + L.length + (h + 1)) : Nat) : Int) from congrArg (Value.int .i64) (by omega)) ?_
        refine J.assign rfl rfl ?_
        refine J.nil ?_
        refine JX.blockN ?_
        refine JX.thenN ?_
        refine JX.again ((h + 1, j) : Nat × Nat) ?_ ?_ ?_
        · simp only; omega
        · exact ⟨rfl, rfl, rfl, rfl, rfl, rfl, rfl, trivial⟩
        · exact fun w1 hw => ⟨⟨by show _ ≤ _; omega, by show _ ≤ _; omega, all_lt hR hye hcmp, hge1⟩, hw⟩
      · skip
        have hcmp : ¬ ltC ye xe := by simpa using h2
        refine JC.region ?_
        refine J.move rfl rfl ?_
        refine J.assign rfl rfl ?_
        refine J.nil ?_
        refine JX.blockN ?_
        refine JX.thenN ?_
        refine JX.again ((i, h) : Nat × Nat) ?_ ?_ ?_
        · simp only; omega
        · exact ⟨rfl, rfl, rfl, rfl, rfl, rfl, rfl, trivial⟩
        · exact fun w1 hw => ⟨⟨by show _ ≤ _; omega, by show _ ≤ _; omega, hlt1, all_ge hR hye hcmp⟩, hw⟩
  · skip
    have hge : i = j := by
      have h9 : ¬ ((P.length + L.length + i : Int) < P.length + L.length + j) := by simpa using h1
      omega
    subst hge
    refine JC.exit ?_
    refine JX.thenE ?_
    refine JX.thenE ?_
    refine JX.blockE ?_
    refine JX.thenN (hK4 _ _ ?_)
    refine JC.seq (fun K9 hK9 => ?_)
    refine JC.seq (fun K10 hK10 => ?_)
    refine JC.region ?_
    refine J.move rfl rfl ?_
    refine J.assign rfl rfl ?_
    refine J.nil ?_
    refine JX.thenN (hK10 _ _ ?_)
    refine JC.block ?_
    refine JC.conseq (JC.cov (f := (fun k => [(0, .slice (some ⟨q, 0, none⟩) n c), (10, .int .i64 (((P.length + L.length + i) : Nat) : Int)), (13, .int .i64 (((P.length + k) : Nat) : Int))]) 0) ⟨rfl, rfl, rfl, trivial⟩ (JC.loop (α := Nat) (fun k => [(0, .slice (some ⟨q, 0, none⟩) n c), (10, .int .i64 (((P.length + L.length + i) : Nat) : Int)), (13, .int .i64 (((P.length + k) : Nat) : Int))]) (fun k w' => (k ≤ i) ∧ St w [q] [(q, cb (fC ((P ++ R.take k) ++ xe :: (R.drop k ++ T)) ++ sp) 75)] w') (fun k => i - k) 0 (fun k => ?_))) (fun w hw => ⟨Nat.zero_le _, by rw [hLe] at hw; simpa using hw⟩)
    refine JC.pr (fun hk => ?_)
    refine JC.seq (fun K11 hK11 => ?_)
    refine JC.seq (fun K12 hK12 => ?_)
    refine JC.region ?_
    refine J.move rfl rfl ?_
    refine J.move rfl rfl ?_
    refine J.subN rfl rfl (by omega) (by omega) rfl ?_
    refine J.name 57 rfl (show _ = .int .i64 (((P.length + i) : Nat) : Int) from congrArg (Value.int .i64) (by omega)) ?_
    refine J.bin rfl rfl rfl rfl ?_
    refine J.nil ?_
    refine JX.thenN (hK12 _ _ ?_)
    refine JC.cond rfl (fun h3 => ?_) (fun h3 => ?_)
    · skip
      have hlt : k < i := by
        have h9 : (P.length + k : Int) < P.length + i := by simpa using h3
        omega
      obtain ⟨ye, hye⟩ : ∃ y, R[k]? = some y := ⟨_, List.getElem?_eq_getElem (by omega)⟩
      have hkl : P.length + k = (P ++ R.take k).length := by rw [List.length_append, List.length_take]; omega
      rw [drop_get hye]
      have hnx : ((P ++ R.take k) ++ xe :: ye :: (R.drop (k + 1) ++ T)).length = n := by simp only [List.length_append, List.length_cons, List.length_take, List.length_drop]; omega
      have gx : ((P ++ R.take k) ++ xe :: ye :: (R.drop (k + 1) ++ T))[P.length + k]? = some xe := by rw [hkl]; exact get_mid _ _ _
      have gy : ((P ++ R.take k) ++ xe :: ye :: (R.drop (k + 1) ++ T))[P.length + k + 1]? = some ye := by rw [hkl]; exact get_mid2 _ _ _ _
      refine JC.conseq (I' := St w [q] [(q, cb (fC ((P ++ R.take k) ++ xe :: ye :: (R.drop (k + 1) ++ T)) ++ sp) 75)]) ?_ (fun w1 hw => by simpa only [List.cons_append] using hw)
      refine JC.skip ?_
      refine JX.thenN (hK11 _ _ ?_)
      refine JC.seq (fun K13 hK13 => ?_)
      refine JC.block ?_
      apply JC.drawX (α := Nat × Unit) 16 (fun x => match x with | ⟨xu, uu⟩ => [.slice (some ⟨q, 0, none⟩) n c, .int .i64 (((P.length + k) : Nat) : Int), .slice (some ⟨q, 0, none⟩) n c, .int .i64 (((P.length + k) : Nat) : Int), .int .i64 (((P.length + k + 1) : Nat) : Int), .slice (some ⟨q, 0, none⟩) n c, .int .i64 (((P.length + k) : Nat) : Int), .int .i64 (((P.length + k + 1) : Nat) : Int), .pointer (some ⟨q, 0 + (((P.length + k + 1) : Nat) : Int).toNat * 35, none⟩), .agg (cC ye).toArray, .slice (some ⟨q, 0, none⟩) n c, .int .i64 (((P.length + k) : Nat) : Int), .pointer (some ⟨q, 0 + (((P.length + k) : Nat) : Int).toNat * 35, none⟩), .agg (cC xe).toArray, .pointer (some ⟨q, 0 + (((P.length + k) : Nat) : Int).toNat * 35, none⟩), undef]) (fun m x => match x with | ⟨xu, uu⟩ => fun w1 => ((m 15 = true → m 9 = true ∧ m 13 = true)) ∧ St w [q] ((q, cb (bif m 15 then fC (((P ++ R.take k) ++ xe :: ye :: (R.drop (k + 1) ++ T)).set ((P.length + k)) ye) ++ sp else fC ((P ++ R.take k) ++ xe :: ye :: (R.drop (k + 1) ++ T)) ++ sp) 75) :: []) w1) Ty.mixed rfl rfl rfl (by kernel_rfl) rfl rfl ?hinit ?hstep ?htail
      case hinit => exact fun w1 hw => ⟨(0, ()), fun h => (by cases h), hw.drew⟩
      case hstep =>
        refine ⟨fun m x hm hp => ?_, fun m x hm hp => ?_, fun m x hm hp => ?_, fun m x hm hp => ?_, fun m x hm hp => ?_, fun m x hm hp => ?_, fun m x hm hp => ?_, fun m x hm hp => ?_, fun m x hm hp => ?_, fun m x hm hp => ?_, fun m x hm hp => ?_, fun m x hm hp => ?_, fun m x hm hp => ?_, fun m x hm hp => ?_, fun m x hm hp => ?_, fun m x hm hp => ?_, trivial⟩
        · skip
          obtain ⟨xu, uu⟩ := x
          show J _ _ _ _ _ (_) _
          refine J.pr (fun hF => ?_)
          refine J.move rfl rfl ?_
          exact J.finX rfl (fun _ hw => ⟨⟨xu, uu⟩, rfl, fun _ _ _ => rfl, hF, hw⟩)
        · skip
          obtain ⟨xu, uu⟩ := x
          show J _ _ _ _ _ (_) _
          refine J.pr (fun hF => ?_)
          refine J.move rfl rfl ?_
          exact J.finX rfl (fun _ hw => ⟨⟨xu, uu⟩, rfl, fun _ _ _ => rfl, hF, hw⟩)
        · skip
          obtain ⟨xu, uu⟩ := x
          show J _ _ _ _ _ (_) _
          refine J.pr (fun hF => ?_)
          refine J.move rfl rfl ?_
          exact J.finX rfl (fun _ hw => ⟨⟨xu, uu⟩, rfl, fun _ _ _ => rfl, hF, hw⟩)
        · skip
          obtain ⟨xu, uu⟩ := x
          show J _ _ _ _ _ (_) _
          refine J.pr (fun hF => ?_)
          refine J.move rfl rfl ?_
          exact J.finX rfl (fun _ hw => ⟨⟨xu, uu⟩, rfl, fun _ _ _ => rfl, hF, hw⟩)
        · skip
          obtain ⟨xu, uu⟩ := x
          show J _ _ _ _ _ ((64, .int .i64 (((P.length + k) : Nat) : Int)) :: _) _
          refine J.pr (fun hF => ?_)
          refine J.addN rfl rfl (by omega) (by omega) rfl ?_
          refine J.name 65 rfl (show _ = Value.int .i64 (((P.length + k + 1) : Nat) : Int) from congrArg (Value.int .i64) (by omega)) ?_
          exact J.finX rfl (fun _ hw => ⟨⟨xu, uu⟩, rfl, fun _ _ _ => rfl, hF, hw⟩)
        · skip
          obtain ⟨xu, uu⟩ := x
          show J _ _ _ _ _ (_) _
          refine J.pr (fun hF => ?_)
          refine J.move rfl rfl ?_
          exact J.finX rfl (fun _ hw => ⟨⟨xu, uu⟩, rfl, fun _ _ _ => rfl, hF, hw⟩)
        · skip
          obtain ⟨xu, uu⟩ := x
          show J _ _ _ _ _ (_) _
          refine J.pr (fun hF => ?_)
          refine J.move rfl rfl ?_
          exact J.finX rfl (fun _ hw => ⟨⟨xu, uu⟩, rfl, fun _ _ _ => rfl, hF, hw⟩)
        · skip
          obtain ⟨xu, uu⟩ := x
          show J _ _ _ _ _ ((67, .int .i64 (((P.length + k) : Nat) : Int)) :: _) _
          refine J.pr (fun hF => ?_)
          refine J.addN rfl rfl (by omega) (by omega) rfl ?_
          refine J.name 68 rfl (show _ = Value.int .i64 (((P.length + k + 1) : Nat) : Int) from congrArg (Value.int .i64) (by omega)) ?_
          exact J.finX rfl (fun _ hw => ⟨⟨xu, uu⟩, rfl, fun _ _ _ => rfl, hF, hw⟩)
        · skip
          obtain ⟨xu, uu⟩ := x
          show J _ _ _ _ _ ((68, .int .i64 (((P.length + k + 1) : Nat) : Int)) :: (66, .slice (some ⟨q, 0, none⟩) n c) :: _) _
          refine J.pr (fun hF => ?_)
          refine J.indexAddrS Ty.el68 Ty.s75 rfl rfl (by omega) (by omega) rfl ?_
          exact J.finX rfl (fun _ hw => ⟨⟨xu, uu⟩, rfl, fun _ _ _ => rfl, hF, hw⟩)
        · skip
          obtain ⟨xu, uu⟩ := x
          show J _ _ _ _ _ ((69, .pointer (some ⟨q, 0 + (((P.length + k + 1) : Nat) : Int).toNat * 35, none⟩)) :: _) _
          refine J.pr (fun hF => ?_)
          have h15 : m 15 = false := by cases h : m 15 with
            | false => rfl
            | true => rw [(hF h).1] at hm; cases hm
          refine J.conseq (I' := St w [q] ((q, cb (fC ((P ++ R.take k) ++ xe :: ye :: (R.drop (k + 1) ++ T)) ++ sp) 75) :: [])) ?_ (fun w1 hw => by simp only [h15, cond_false] at hw; exact hw)
          refine J.loadA (vs := cC ye) Ty.a75 Ty.s75 rfl rfl (fun w1 hw => rowG_at (c := cC) (sz := 35) (fun _ => rfl) (rowC_own (xs := (P ++ R.take k) ++ xe :: ye :: (R.drop (k + 1) ++ T)) hw (.head _) hnx hnc) gy (by rw [Int.toNat_natCast])) rfl ?_
          refine J.nil (JX.finB rfl (fun w1 hw => ⟨⟨⟨xu, uu⟩, rfl, fun j h1 h2 => ?_, ?_⟩, trivial⟩))
          · match j, h1 with
            | 0, _ => (first | rfl | trivial)
            | 1, _ => (first | rfl | trivial)
            | 2, _ => (first | rfl | trivial)
            | 3, _ => (first | rfl | trivial)
            | 4, _ => (first | rfl | trivial)
            | 5, _ => (first | rfl | trivial)
            | 6, _ => (first | rfl | trivial)
            | 7, _ => (first | rfl | trivial)
            | 8, _ => (first | rfl | trivial)
            | 9, _ => (first | rfl | trivial)
            | 10, _ => (first | rfl | trivial)
            | 11, _ => (first | rfl | trivial)
            | 12, _ => (first | rfl | trivial)
            | 13, _ => (first | rfl | trivial)
            | 14, _ => (first | rfl | trivial)
            | 15, _ => (first | rfl | trivial)
            | j + 16, h1 => omega
          show ((m 15 = true → true = true ∧ m 13 = true)) ∧ St w [q] ((q, cb (bif m 15 then fC (((P ++ R.take k) ++ xe :: ye :: (R.drop (k + 1) ++ T)).set ((P.length + k)) ye) ++ sp else fC ((P ++ R.take k) ++ xe :: ye :: (R.drop (k + 1) ++ T)) ++ sp) 75) :: []) w1
          simp only [h15, cond_false] at hw ⊢
          exact ⟨fun h => (by first | (rw [h15] at h; cases h) | cases h), hw⟩
        · skip
          obtain ⟨xu, uu⟩ := x
          show J _ _ _ _ _ (_) _
          refine J.pr (fun hF => ?_)
          refine J.move rfl rfl ?_
          exact J.finX rfl (fun _ hw => ⟨⟨xu, uu⟩, rfl, fun _ _ _ => rfl, hF, hw⟩)
        · skip
          obtain ⟨xu, uu⟩ := x
          show J _ _ _ _ _ (_) _
          refine J.pr (fun hF => ?_)
          refine J.move rfl rfl ?_
          exact J.finX rfl (fun _ hw => ⟨⟨xu, uu⟩, rfl, fun _ _ _ => rfl, hF, hw⟩)
        · skip
          obtain ⟨xu, uu⟩ := x
          show J _ _ _ _ _ ((72, .int .i64 (((P.length + k) : Nat) : Int)) :: (71, .slice (some ⟨q, 0, none⟩) n c) :: _) _
          refine J.pr (fun hF => ?_)
          refine J.indexAddrS Ty.el68 Ty.s75 rfl rfl (by omega) (by omega) rfl ?_
          exact J.finX rfl (fun _ hw => ⟨⟨xu, uu⟩, rfl, fun _ _ _ => rfl, hF, hw⟩)
        · skip
          obtain ⟨xu, uu⟩ := x
          show J _ _ _ _ _ ((73, .pointer (some ⟨q, 0 + (((P.length + k) : Nat) : Int).toNat * 35, none⟩)) :: _) _
          refine J.pr (fun hF => ?_)
          have h15 : m 15 = false := by cases h : m 15 with
            | false => rfl
            | true => rw [(hF h).2] at hm; cases hm
          refine J.conseq (I' := St w [q] ((q, cb (fC ((P ++ R.take k) ++ xe :: ye :: (R.drop (k + 1) ++ T)) ++ sp) 75) :: [])) ?_ (fun w1 hw => by simp only [h15, cond_false] at hw; exact hw)
          refine J.loadA (vs := cC xe) Ty.a75 Ty.s75 rfl rfl (fun w1 hw => rowG_at (c := cC) (sz := 35) (fun _ => rfl) (rowC_own (xs := (P ++ R.take k) ++ xe :: ye :: (R.drop (k + 1) ++ T)) hw (.head _) hnx hnc) gx (by rw [Int.toNat_natCast])) rfl ?_
          refine J.nil (JX.finB rfl (fun w1 hw => ⟨⟨⟨xu, uu⟩, rfl, fun j h1 h2 => ?_, ?_⟩, trivial⟩))
          · match j, h1 with
            | 0, _ => (first | rfl | trivial)
            | 1, _ => (first | rfl | trivial)
            | 2, _ => (first | rfl | trivial)
            | 3, _ => (first | rfl | trivial)
            | 4, _ => (first | rfl | trivial)
            | 5, _ => (first | rfl | trivial)
            | 6, _ => (first | rfl | trivial)
            | 7, _ => (first | rfl | trivial)
            | 8, _ => (first | rfl | trivial)
            | 9, _ => (first | rfl | trivial)
            | 10, _ => (first | rfl | trivial)
            | 11, _ => (first | rfl | trivial)
            | 12, _ => (first | rfl | trivial)
            | 13, _ => (first | rfl | trivial)
            | 14, _ => (first | rfl | trivial)
            | 15, _ => (first | rfl | trivial)
            | j + 16, h1 => omega
          show ((m 15 = true → m 9 = true ∧ true = true)) ∧ St w [q] ((q, cb (bif m 15 then fC (((P ++ R.take k) ++ xe :: ye :: (R.drop (k + 1) ++ T)).set ((P.length + k)) ye) ++ sp else fC ((P ++ R.take k) ++ xe :: ye :: (R.drop (k + 1) ++ T)) ++ sp) 75) :: []) w1
          simp only [h15, cond_false] at hw ⊢
          exact ⟨fun h => (by first | (rw [h15] at h; cases h) | cases h), hw⟩
        · skip
          obtain ⟨xu, uu⟩ := x
          show J _ _ _ _ _ ((74, .agg (cC xe).toArray) :: (70, .agg (cC ye).toArray) :: (69, .pointer (some ⟨q, 0 + (((P.length + k + 1) : Nat) : Int).toNat * 35, none⟩)) :: (68, .int .i64 (((P.length + k + 1) : Nat) : Int)) :: (67, .int .i64 (((P.length + k) : Nat) : Int)) :: (66, .slice (some ⟨q, 0, none⟩) n c) :: (62, .int .i64 (((P.length + k) : Nat) : Int)) :: (61, .slice (some ⟨q, 0, none⟩) n c) :: (62, .int .i64 (((P.length + k) : Nat) : Int)) :: (61, .slice (some ⟨q, 0, none⟩) n c) :: _) _
          have hp9 : m 9 = true := predsT hp (by kernel_rfl)
          have hp13 : m 13 = true := predsT hp (by kernel_rfl)
          refine J.pr (fun hF => ?_)
          refine J.indexAddrS Ty.el68 Ty.s75 rfl rfl (by omega) (by omega) rfl ?_
          exact J.finX rfl (fun _ hw => ⟨⟨xu, uu⟩, rfl, fun _ _ _ => rfl, hF, hw⟩)
        · skip
          obtain ⟨xu, uu⟩ := x
          show J _ _ _ _ _ ((74, .agg (cC xe).toArray) :: (70, .agg (cC ye).toArray) :: (69, .pointer (some ⟨q, 0 + (((P.length + k + 1) : Nat) : Int).toNat * 35, none⟩)) :: (68, .int .i64 (((P.length + k + 1) : Nat) : Int)) :: (67, .int .i64 (((P.length + k) : Nat) : Int)) :: (66, .slice (some ⟨q, 0, none⟩) n c) :: (62, .int .i64 (((P.length + k) : Nat) : Int)) :: (61, .slice (some ⟨q, 0, none⟩) n c) :: (70, .agg (cC ye).toArray) :: (75, .pointer (some ⟨q, 0 + (((P.length + k) : Nat) : Int).toNat * 35, none⟩)) :: _) _
          have hp9 : m 9 = true := predsT hp (by kernel_rfl)
          have hp9 : m 9 = true := predsT hp (by kernel_rfl)
          have hp13 : m 13 = true := predsT hp (by kernel_rfl)
          refine J.pr (fun hF => ?_)
          refine J.conseq (I' := St w [q] ((q, cb (fC ((P ++ R.take k) ++ xe :: ye :: (R.drop (k + 1) ++ T)) ++ sp) 75) :: [])) ?_ (fun w1 hw => by simp only [hm, cond_false] at hw; exact hw)
          refine J.storeO (cs := fC ((P ++ R.take k) ++ xe :: ye :: (R.drop (k + 1) ++ T)) ++ sp) (vs := cC ye) (l' := (q, cb (fC (((P ++ R.take k) ++ xe :: ye :: (R.drop (k + 1) ++ T)).set ((P.length + k)) ye) ++ sp) 75) :: []) Ty.s75 rfl rfl rfl rfl (one_cC _) (by rw [set_C (i := (P.length + k)) (by omega) (by rw [Int.toNat_natCast]; omega)]; exact .here) (by rw [List.length_append, fC_len, hnx]; omega) ?_
          refine J.nil (JX.finN undef (fun w1 hw => ⟨⟨xu, uu⟩, rfl, fun j h1 h2 => ?_, ?_⟩))
          · match j, h1 with
            | 0, _ => (first | rfl | trivial)
            | 1, _ => (first | rfl | trivial)
            | 2, _ => (first | rfl | trivial)
            | 3, _ => (first | rfl | trivial)
            | 4, _ => (first | rfl | trivial)
            | 5, _ => (first | rfl | trivial)
            | 6, _ => (first | rfl | trivial)
            | 7, _ => (first | rfl | trivial)
            | 8, _ => (first | rfl | trivial)
            | 9, _ => (first | rfl | trivial)
            | 10, _ => (first | rfl | trivial)
            | 11, _ => (first | rfl | trivial)
            | 12, _ => (first | rfl | trivial)
            | 13, _ => (first | rfl | trivial)
            | 14, _ => (first | rfl | trivial)
            | 15, _ => (first | rfl | trivial)
            | j + 16, h1 => omega
          show ((true = true → m 9 = true ∧ m 13 = true)) ∧ St w [q] ((q, cb (bif true then fC (((P ++ R.take k) ++ xe :: ye :: (R.drop (k + 1) ++ T)).set ((P.length + k)) ye) ++ sp else fC ((P ++ R.take k) ++ xe :: ye :: (R.drop (k + 1) ++ T)) ++ sp) 75) :: []) w1
          simp only [cond_true] at hw ⊢
          exact ⟨fun _ => ⟨hp9, hp13⟩, hw⟩
      case htail =>
        intro x
        obtain ⟨xu, uu⟩ := x
        show J _ _ _ _ _ ((75, .pointer (some ⟨q, 0 + (((P.length + k) : Nat) : Int).toNat * 35, none⟩)) :: (74, .agg (cC xe).toArray) :: (73, .pointer (some ⟨q, 0 + (((P.length + k) : Nat) : Int).toNat * 35, none⟩)) :: (72, .int .i64 (((P.length + k) : Nat) : Int)) :: (71, .slice (some ⟨q, 0, none⟩) n c) :: (70, .agg (cC ye).toArray) :: (69, .pointer (some ⟨q, 0 + (((P.length + k + 1) : Nat) : Int).toNat * 35, none⟩)) :: (68, .int .i64 (((P.length + k + 1) : Nat) : Int)) :: (67, .int .i64 (((P.length + k) : Nat) : Int)) :: (66, .slice (some ⟨q, 0, none⟩) n c) :: (65, .int .i64 (((P.length + k + 1) : Nat) : Int)) :: (64, .int .i64 (((P.length + k) : Nat) : Int)) :: (63, .slice (some ⟨q, 0, none⟩) n c) :: (62, .int .i64 (((P.length + k) : Nat) : Int)) :: (61, .slice (some ⟨q, 0, none⟩) n c) :: _) (fun w1 => ((true = true → true = true ∧ true = true)) ∧ St w [q] ((q, cb (bif true then fC (((P ++ R.take k) ++ xe :: ye :: (R.drop (k + 1) ++ T)).set ((P.length + k)) ye) ++ sp else fC ((P ++ R.take k) ++ xe :: ye :: (R.drop (k + 1) ++ T)) ++ sp) 75) :: []) w1)
        refine J.pr (fun hF => ?_)
        refine J.conseq (I' := St w [q] ((q, cb (fC (((P ++ R.take k) ++ xe :: ye :: (R.drop (k + 1) ++ T)).set ((P.length + k)) ye) ++ sp) 75) :: [])) ?_ (fun w1 hw => by simp only [cond_true] at hw; exact hw)
        refine J.indexAddrS Ty.el68 Ty.s75 rfl rfl (by omega) (by omega) rfl ?_
        refine J.storeO (cs := fC (((P ++ R.take k) ++ xe :: ye :: (R.drop (k + 1) ++ T)).set ((P.length + k)) ye) ++ sp) (vs := cC xe) (l' := (q, cb (fC ((P ++ R.take k) ++ ye :: xe :: (R.drop (k + 1) ++ T)) ++ sp) 75) :: []) Ty.s75 rfl rfl rfl rfl (one_cC _) (by rw [set_C (i := (P.length + k + 1)) (by rw [List.length_set]; omega) (by rw [Int.toNat_natCast]; omega), show P.length + k = (P ++ R.take k).length from hkl, swap_mid']; exact .here) (by rw [List.length_append, fC_len, List.length_set, hnx]; omega) ?_
        refine J.nil ?_
        refine JX.blockN ?_
        refine JX.thenN (hK13 _ _ ?_)
        refine JC.region ?_
        refine J.move rfl rfl ?_
        refine J.addN rfl rfl (by omega) (by omega) rfl ?_
        refine J.name 60 rfl (show _ = .int .i64 (((P.length + (k + 1)) : Nat) : Int) from congrArg (Value.int .i64) (by omega)) ?_
        refine J.assign rfl rfl ?_
        refine J.nil ?_
        refine JX.thenN ?_
        refine JX.again (k + 1) ?_ ?_ ?_
        · omega
        · exact ⟨rfl, rfl, rfl, trivial⟩
        · exact fun w1 hw => ⟨hlt, by rw [take_get hye]; simpa [List.append_assoc] using hw⟩
    · skip
      have hge : i = k := by
        have h9 : ¬ ((P.length + k : Int) < P.length + i) := by simpa using h3
        omega
      subst hge
      refine JC.exit ?_
      refine JX.thenE ?_
      refine JX.thenE ?_
      refine JX.blockE ?_
      refine JX.thenN (hK9 _ _ ?_)
      refine JC.ret ?_
      refine JX.thenR ?_
      refine JX.ret0 rfl (fun w1 hw => ?_)
      obtain ⟨a1, a2⟩ := ins_right swoC hR hlt1 hge1
      have hwf : St w [q] [(q, cb (fC (P ++ ((R.take i ++ xe :: R.drop i) ++ T)) ++ sp) 75)] w1 := by simpa only [List.append_assoc, List.cons_append] using hw
      exact ⟨R.take i ++ xe :: R.drop i, rfl, ⟨by rw [hLe]; exact a1, a2⟩, by simpa only [List.append_assoc, List.cons_append] using hwf⟩

set_option maxHeartbeats 4000000 in
theorem symMerge_right (q n c : Nat) (sp : List Value) (hnc : n ≤ c) (hnb : n ≤ 1099511627776) (P L R T : List CV) (w : World) (hw0 : Own w [(q, cb (fC (P ++ (L ++ (R ++ T))) ++ sp) 75)]) (hn : (P ++ (L ++ (R ++ T))).length = n) (hL0 : 0 < L.length) (hR0 : 0 < R.length) (hL : Srt ltC L) (hR : Srt ltC R) (hL2 : 2 ≤ L.length) (hR1 : R.length = 1) (IH : ∀ (P1 L1 R1 T1 : List CV) (w1 : World), Own w1 [(q, cb (fC (P1 ++ (L1 ++ (R1 ++ T1))) ++ sp) 75)] → (P1 ++ (L1 ++ (R1 ++ T1))).length = n → 0 < L1.length → 0 < R1.length → Srt ltC L1 → Srt ltC R1 → L1.length + R1.length < L.length + R.length → ∀ a m b : Nat, P1.length = a → a + L1.length = m → m + R1.length = b → Calls Try.prog 82 [.slice (some ⟨q, 0, none⟩) n c, .int .i64 ((a : Nat) : Int), .int .i64 ((m : Nat) : Int), .int .i64 ((b : Nat) : Int), .func (.func 55) #[] #[]].toArray w1 fun r w' => ∃ Z : List CV, r = .returned (.tuple #[]) ∧ (SE ltC (L1 ++ R1) Z ∧ Srt ltC Z) ∧ St w1 [q] [(q, cb (fC (P1 ++ (Z ++ T1)) ++ sp) 75)] w') :
    Calls Try.prog 82 [.slice (some ⟨q, 0, none⟩) n c, .int .i64 ((P.length : Nat) : Int), .int .i64 (((P.length + L.length) : Nat) : Int), .int .i64 (((P.length + L.length + R.length) : Nat) : Int), .func (.func 55) #[] #[]].toArray w fun r w' => ∃ Z : List CV, r = .returned (.tuple #[]) ∧ (SE ltC (L ++ R) Z ∧ Srt ltC Z) ∧ St w [q] [(q, cb (fC (P ++ (Z ++ T)) ++ sp) 75)] w' := by
  obtain ⟨ye, hRe⟩ : ∃ x, R = [x] := List.length_eq_one_iff.1 hR1
  have gy : (P ++ (L ++ (R ++ T)))[P.length + L.length]? = some ye := by have := get_R (P := P) (R := R) (T := T) (L := L) (i := 0) (x := ye) (by rw [hRe]; rfl); exact this
  have hPn : P.length + L.length + R.length + T.length = n := by simp only [List.length_append] at hn; omega
  refine calls_of_J (args := [.slice (some ⟨q, 0, none⟩) n c, .int .i64 ((P.length : Nat) : Int), .int .i64 (((P.length + L.length) : Nat) : Int), .int .i64 (((P.length + L.length + R.length) : Nat) : Int), .func (.func 55) #[] #[]]) (e := [(0, .slice (some ⟨q, 0, none⟩) n c), (1, .int .i64 ((P.length : Nat) : Int)), (2, .int .i64 (((P.length + L.length) : Nat) : Int)), (3, .int .i64 (((P.length + L.length + R.length) : Nat) : Int)), (4, .func (.func 55) #[] #[])]) Try.func82 rfl rfl ⟨rfl, rfl, rfl, rfl, rfl, trivial⟩ (hw0.st) ?_
  refine JC.seq (fun K0 hK0 => ?_)
  refine JC.seq (fun K1 hK1 => ?_)
  refine JC.region ?_
  refine J.move rfl rfl ?_
  refine J.move rfl rfl ?_
  refine J.subN rfl rfl (by omega) (by omega) rfl ?_
  refine J.name 27 rfl (show _ = Value.int .i64 ((L.length : Nat) : Int) from congrArg (Value.int .i64) (by omega)) ?_
  refine J.bin rfl rfl rfl rfl ?_
  refine J.name 28 rfl (show _ = Value.bool false by simp; omega) ?_
  refine J.nil ?_
  refine JX.thenN (hK1 _ _ ?_)
  first | refine JC.condF rfl ?_ | refine JC.cond rfl (fun h => by first | (exfalso; simp at h; omega) | (simp at h)) (fun _ => ?_)
  refine JC.skip ?_
  refine JX.thenN (hK0 _ _ ?_)
  refine JC.seq (fun K2 hK2 => ?_)
  refine JC.seq (fun K3 hK3 => ?_)
  refine JC.region ?_
  refine J.move rfl rfl ?_
  refine J.move rfl rfl ?_
  refine J.subN rfl rfl (by omega) (by omega) rfl ?_
  refine J.name 79 rfl (show _ = Value.int .i64 ((R.length : Nat) : Int) from congrArg (Value.int .i64) (by omega)) ?_
  refine J.bin rfl rfl rfl rfl ?_
  refine J.name 80 rfl (show _ = Value.bool true by simp; omega) ?_
  refine J.nil ?_
  refine JX.thenN (hK3 _ _ ?_)
  first | refine JC.condT rfl ?_ | refine JC.cond rfl (fun _ => ?_) (fun h => by first | (exfalso; simp at h; omega) | (simp at h))
  refine JC.seq (fun K4 hK4 => ?_)
  refine JC.region ?_
  refine J.move rfl rfl ?_
  refine J.assign rfl rfl ?_
  refine J.nil ?_
  refine JX.thenN (hK4 _ _ ?_)
  refine JC.seq (fun K5 hK5 => ?_)
  refine JC.region ?_
  refine J.move rfl rfl ?_
  refine J.assign rfl rfl ?_
  refine J.nil ?_
  refine JX.thenN (hK5 _ _ ?_)
  refine JC.seq (fun K6 hK6 => ?_)
  refine JC.block ?_
  refine JC.conseq (JC.cov (f := (fun st => [(0, .slice (some ⟨q, 0, none⟩) n c), (1, .int .i64 ((P.length : Nat) : Int)), (2, .int .i64 (((P.length + L.length) : Nat) : Int)), (3, .int .i64 (((P.length + L.length + R.length) : Nat) : Int)), (4, .func (.func 55) #[] #[]), (14, .int .i64 (((P.length + st.1) : Nat) : Int)), (15, .int .i64 (((P.length + st.2) : Nat) : Int))]) ((0, L.length) : Nat × Nat)) ⟨rfl, rfl, rfl, rfl, rfl, rfl, rfl, trivial⟩ (JC.loop (α := Nat × Nat) (fun st => [(0, .slice (some ⟨q, 0, none⟩) n c), (1, .int .i64 ((P.length : Nat) : Int)), (2, .int .i64 (((P.length + L.length) : Nat) : Int)), (3, .int .i64 (((P.length + L.length + R.length) : Nat) : Int)), (4, .func (.func 55) #[] #[]), (14, .int .i64 (((P.length + st.1) : Nat) : Int)), (15, .int .i64 (((P.length + st.2) : Nat) : Int))]) (fun st w' => (st.1 ≤ st.2 ∧ st.2 ≤ L.length ∧ (∀ x, x ∈ L.take st.1 → ¬ ltC ye x) ∧ ∀ x, x ∈ L.drop st.2 → ltC ye x) ∧ St w [q] [(q, cb (fC (P ++ (L ++ (R ++ T))) ++ sp) 75)] w') (fun st => st.2 - st.1) ((0, L.length) : Nat × Nat) (fun st => ?_))) (fun w hw => ⟨⟨Nat.zero_le _, Nat.le_refl _, by simp, by simp⟩, hw⟩)
  obtain ⟨i, j⟩ := st
  refine JC.pr (fun hI => ?_)
  obtain ⟨hij, hjL, hle1, hgt1⟩ := hI
  try simp only at hij hjL hle1 hgt1 ⊢
  refine JC.seq (fun K7 hK7 => ?_)
  refine JC.seq (fun K8 hK8 => ?_)
  refine JC.region ?_
  refine J.move rfl rfl ?_
  refine J.move rfl rfl ?_
  refine J.bin rfl rfl rfl rfl ?_
  refine J.nil ?_
  refine JX.thenN (hK8 _ _ ?_)
  refine JC.cond rfl (fun h5 => ?_) (fun h5 => ?_)
  · skip
    have hlt : i < j := by
      have h9 : (P.length + i : Int) < P.length + j := by simpa using h5
      omega
    obtain ⟨h, hh1, hh2, hh3⟩ : ∃ h, (P.length + i + (P.length + j)) / 2 = P.length + h ∧ i ≤ h ∧ h < j := ⟨(i + j) / 2, by omega, by omega, by omega⟩
    obtain ⟨xe, hxe⟩ : ∃ y, L[h]? = some y := ⟨_, List.getElem?_eq_getElem (by omega)⟩
    have gx := get_L (P := P) (R := R) (T := T) hxe
    refine JC.skip ?_
    refine JX.thenN (hK7 _ _ ?_)
    refine JC.block ?_
    refine JC.seq (fun K9 hK9 => ?_)
    refine JC.region ?_
    refine J.move rfl rfl ?_
    refine J.move rfl rfl ?_
    refine J.addN rfl rfl (by omega) (by omega) rfl ?_
    refine J.name 88 rfl (show _ = .int .i64 (((P.length + i + (P.length + j)) : Nat) : Int) from congrArg (Value.int .i64) (by omega)) ?_
    refine J.convInt Ty.u3 Ty.u31 rfl rfl ?_
    refine J.name 89 rfl (show _ = Value.int .u64 (((P.length + i + (P.length + j)) : Nat) : Int) from congrArg (Value.int .u64) (wrap_u64 (by omega) (by omega))) ?_
    refine J.shrN rfl rfl (by omega) rfl ?_
    refine J.name 90 rfl (show _ = Value.int .u64 (((P.length + h) : Nat) : Int) from congrArg (Value.int .u64) ((half_val (P.length + i + (P.length + j))).trans (congrArg (fun k : Nat => ((k : Nat) : Int)) hh1))) ?_
    refine J.convInt Ty.u31 Ty.u3 rfl rfl ?_
    refine J.name 91 rfl (show _ = .int .i64 (((P.length + h) : Nat) : Int) from congrArg (Value.int .i64) (wrap_i64 (by omega) (by omega))) ?_
    refine J.assign rfl rfl ?_
    refine J.nil ?_
    refine JX.thenN (hK9 _ _ ?_)
    refine JC.seq (fun K10 hK10 => ?_)
    apply JC.drawX (α := Nat × Unit) 12 (fun x => match x with | ⟨xu, uu⟩ => [.func (.func 55) #[] #[], .slice (some ⟨q, 0, none⟩) n c, .int .i64 (((P.length + L.length) : Nat) : Int), .pointer (some ⟨q, 0 + (((P.length + L.length) : Nat) : Int).toNat * 35, none⟩), .agg (cC ye).toArray, .slice (some ⟨q, 0, none⟩) n c, .int .i64 (((P.length + h) : Nat) : Int), .pointer (some ⟨q, 0 + (((P.length + h) : Nat) : Int).toNat * 35, none⟩), .agg (cC xe).toArray, .int .i64 (ordC ye xe), .bool (decide (ltC ye xe)), .bool (!decide (ltC ye xe))]) (fun m x => match x with | ⟨xu, uu⟩ => fun w1 => (True) ∧ St w [q] ((q, cb (fC (P ++ (L ++ (R ++ T))) ++ sp) 75) :: []) w1) Ty.mixed rfl rfl rfl (by kernel_rfl) rfl rfl ?hinit ?hstep ?htail
    case hinit => exact fun w1 hw => ⟨(0, ()), trivial, hw.drew⟩
    case hstep =>
      refine ⟨fun m x hm hp => ?_, fun m x hm hp => ?_, fun m x hm hp => ?_, fun m x hm hp => ?_, fun m x hm hp => ?_, fun m x hm hp => ?_, fun m x hm hp => ?_, fun m x hm hp => ?_, fun m x hm hp => ?_, fun m x hm hp => ?_, fun m x hm hp => ?_, fun m x hm hp => ?_, trivial⟩
      · skip
        obtain ⟨xu, uu⟩ := x
        show J _ _ _ _ _ (_) _
        refine J.pr (fun hF => ?_)
        refine J.move rfl rfl ?_
        exact J.finX rfl (fun _ hw => ⟨⟨xu, uu⟩, rfl, fun _ _ _ => rfl, hF, hw⟩)
      · skip
        obtain ⟨xu, uu⟩ := x
        show J _ _ _ _ _ (_) _
        refine J.pr (fun hF => ?_)
        refine J.move rfl rfl ?_
        exact J.finX rfl (fun _ hw => ⟨⟨xu, uu⟩, rfl, fun _ _ _ => rfl, hF, hw⟩)
      · skip
        obtain ⟨xu, uu⟩ := x
        show J _ _ _ _ _ (_) _
        refine J.pr (fun hF => ?_)
        refine J.move rfl rfl ?_
        exact J.finX rfl (fun _ hw => ⟨⟨xu, uu⟩, rfl, fun _ _ _ => rfl, hF, hw⟩)
      · skip
        obtain ⟨xu, uu⟩ := x
        show J _ _ _ _ _ ((94, .int .i64 (((P.length + L.length) : Nat) : Int)) :: (93, .slice (some ⟨q, 0, none⟩) n c) :: _) _
        refine J.pr (fun hF => ?_)
        refine J.indexAddrS Ty.el68 Ty.s75 rfl rfl (by omega) (by omega) rfl ?_
        exact J.finX rfl (fun _ hw => ⟨⟨xu, uu⟩, rfl, fun _ _ _ => rfl, hF, hw⟩)
      · skip
        obtain ⟨xu, uu⟩ := x
        show J _ _ _ _ _ ((95, .pointer (some ⟨q, 0 + (((P.length + L.length) : Nat) : Int).toNat * 35, none⟩)) :: _) _
        refine J.pr (fun hF => ?_)
        refine J.loadA (vs := cC ye) Ty.a75 Ty.s75 rfl rfl (fun w1 hw => rowG_at (c := cC) (sz := 35) (fun _ => rfl) (rowC_own (xs := P ++ (L ++ (R ++ T))) hw (.head _) hn hnc) gy (by rw [Int.toNat_natCast])) rfl ?_
        exact J.finX rfl (fun _ hw => ⟨⟨xu, uu⟩, rfl, fun _ _ _ => rfl, hF, hw⟩)
      · skip
        obtain ⟨xu, uu⟩ := x
        show J _ _ _ _ _ (_) _
        refine J.pr (fun hF => ?_)
        refine J.move rfl rfl ?_
        exact J.finX rfl (fun _ hw => ⟨⟨xu, uu⟩, rfl, fun _ _ _ => rfl, hF, hw⟩)
      · skip
        obtain ⟨xu, uu⟩ := x
        show J _ _ _ _ _ (_) _
        refine J.pr (fun hF => ?_)
        refine J.move rfl rfl ?_
        exact J.finX rfl (fun _ hw => ⟨⟨xu, uu⟩, rfl, fun _ _ _ => rfl, hF, hw⟩)
      · skip
        obtain ⟨xu, uu⟩ := x
        show J _ _ _ _ _ ((98, .int .i64 (((P.length + h) : Nat) : Int)) :: (97, .slice (some ⟨q, 0, none⟩) n c) :: _) _
        refine J.pr (fun hF => ?_)
        refine J.indexAddrS Ty.el68 Ty.s75 rfl rfl (by omega) (by omega) rfl ?_
        exact J.finX rfl (fun _ hw => ⟨⟨xu, uu⟩, rfl, fun _ _ _ => rfl, hF, hw⟩)
      · skip
        obtain ⟨xu, uu⟩ := x
        show J _ _ _ _ _ ((99, .pointer (some ⟨q, 0 + (((P.length + h) : Nat) : Int).toNat * 35, none⟩)) :: _) _
        refine J.pr (fun hF => ?_)
        refine J.loadA (vs := cC xe) Ty.a75 Ty.s75 rfl rfl (fun w1 hw => rowG_at (c := cC) (sz := 35) (fun _ => rfl) (rowC_own (xs := P ++ (L ++ (R ++ T))) hw (.head _) hn hnc) gx (by rw [Int.toNat_natCast])) rfl ?_
        exact J.finX rfl (fun _ hw => ⟨⟨xu, uu⟩, rfl, fun _ _ _ => rfl, hF, hw⟩)
      · skip
        obtain ⟨xu, uu⟩ := x
        show J _ _ _ _ _ ((100, .agg (cC xe).toArray) :: (96, .agg (cC ye).toArray) :: (92, .func (.func 55) #[] #[]) :: _) _
        refine J.pr (fun hF => ?_)
        refine J.callVB (v := .int .i64 (ordC ye xe)) (fun w1 w2 hw hb => hw.step hb) Ty.bd55 rfl rfl rfl (fun w1 hw => order_spec ye xe w1) ?_
        exact J.finX rfl (fun _ hw => ⟨⟨xu, uu⟩, rfl, fun _ _ _ => rfl, hF, hw⟩)
      · skip
        obtain ⟨xu, uu⟩ := x
        show J _ _ _ _ _ ((101, .int .i64 (ordC ye xe)) :: _) _
        refine J.pr (fun hF => ?_)
        refine J.bin rfl rfl rfl rfl ?_
        refine J.name 102 rfl (show _ = Value.bool (decide (ltC ye xe)) from rfl) ?_
        exact J.finX rfl (fun _ hw => ⟨⟨xu, uu⟩, rfl, fun _ _ _ => rfl, hF, hw⟩)
      · skip
        obtain ⟨xu, uu⟩ := x
        show J _ _ _ _ _ ((102, .bool (decide (ltC ye xe))) :: _) _
        refine J.pr (fun hF => ?_)
        refine J.not rfl rfl ?_
        exact J.finX rfl (fun _ hw => ⟨⟨xu, uu⟩, rfl, fun _ _ _ => rfl, hF, hw⟩)
    case htail =>
      intro x
      obtain ⟨xu, uu⟩ := x
      show J _ _ _ _ _ ((103, .bool (!decide (ltC ye xe))) :: (102, .bool (decide (ltC ye xe))) :: (101, .int .i64 (ordC ye xe)) :: (100, .agg (cC xe).toArray) :: (99, .pointer (some ⟨q, 0 + (((P.length + h) : Nat) : Int).toNat * 35, none⟩)) :: (98, .int .i64 (((P.length + h) : Nat) : Int)) :: (97, .slice (some ⟨q, 0, none⟩) n c) :: (96, .agg (cC ye).toArray) :: (95, .pointer (some ⟨q, 0 + (((P.length + L.length) : Nat) : Int).toNat * 35, none⟩)) :: (94, .int .i64 (((P.length + L.length) : Nat) : Int)) :: (93, .slice (some ⟨q, 0, none⟩) n c) :: (92, .func (.func 55) #[] #[]) :: _) (fun w1 => (True) ∧ St w [q] ((q, cb (fC (P ++ (L ++ (R ++ T))) ++ sp) 75) :: []) w1)
      refine J.pr (fun hF => ?_)
      refine J.nil ?_
      refine JX.thenN (hK10 _ _ ?_)
      refine JC.cond rfl (fun h6 => ?_) (fun h6 => ?_)
      · skip
        have hcmp : ¬ ltC ye xe := by simpa using h6
        refine JC.region ?_
        refine J.move rfl rfl ?_
        refine J.addN rfl rfl (by omega) (by omega) rfl ?_
        refine J.name 105 rfl (show _ = .int .i64 (((P.length + (h + 1)) : Nat) : Int) from congrArg (Value.int .i64) (by omega)) ?_
        refine J.assign rfl rfl ?_
        refine J.nil ?_
        refine JX.blockN ?_
        refine JX.thenN ?_
        refine JX.again ((h + 1, j) : Nat × Nat) ?_ ?_ ?_
        · simp only; omega
        · exact ⟨rfl, rfl, rfl, rfl, rfl, rfl, rfl, trivial⟩
        · exact fun w1 hw => ⟨⟨by show _ ≤ _; omega, by show _ ≤ _; omega, all_le hL hxe hcmp, hgt1⟩, hw⟩
      · skip
        have hcmp : ltC ye xe := by simpa using h6
        refine JC.region ?_
        refine J.move rfl rfl ?_
        refine J.assign rfl rfl ?_
        refine J.nil ?_
        refine JX.blockN ?_
        refine JX.thenN ?_
        refine JX.again ((i, h) : Nat × Nat) ?_ ?_ ?_
        · simp only; omega
        · exact ⟨rfl, rfl, rfl, rfl, rfl, rfl, rfl, trivial⟩
        · exact fun w1 hw => ⟨⟨by show _ ≤ _; omega, by show _ ≤ _; omega, hle1, all_gt hL hxe hcmp⟩, hw⟩
  · skip
    have hge : i = j := by
      have h9 : ¬ ((P.length + i : Int) < P.length + j) := by simpa using h5
      omega
    subst hge
    refine JC.exit ?_
    refine JX.thenE ?_
    refine JX.thenE ?_
    refine JX.blockE ?_
    refine JX.thenN (hK6 _ _ ?_)
    refine JC.seq (fun K11 hK11 => ?_)
    refine JC.seq (fun K12 hK12 => ?_)
    refine JC.region ?_
    refine J.move rfl rfl ?_
    refine J.assign rfl rfl ?_
    refine J.nil ?_
    refine JX.thenN (hK12 _ _ ?_)
    refine JC.block ?_
    refine JC.conseq (JC.cov (f := (fun k => [(0, .slice (some ⟨q, 0, none⟩) n c), (14, .int .i64 (((P.length + i) : Nat) : Int)), (17, .int .i64 (((P.length + k) : Nat) : Int))]) L.length) ⟨rfl, rfl, rfl, trivial⟩ (JC.loop (α := Nat) (fun k => [(0, .slice (some ⟨q, 0, none⟩) n c), (14, .int .i64 (((P.length + i) : Nat) : Int)), (17, .int .i64 (((P.length + k) : Nat) : Int))]) (fun k w' => (i ≤ k ∧ k ≤ L.length) ∧ St w [q] [(q, cb (fC ((P ++ L.take k) ++ ye :: (L.drop k ++ T)) ++ sp) 75)] w') (fun k => k) L.length (fun k => ?_))) (fun w hw => ⟨⟨by omega, Nat.le_refl _⟩, by rw [hRe] at hw; rw [List.take_length, List.drop_length]; simpa [List.append_assoc] using hw⟩)
    refine JC.pr (fun hk => ?_)
    refine JC.seq (fun K13 hK13 => ?_)
    refine JC.seq (fun K14 hK14 => ?_)
    refine JC.region ?_
    refine J.move rfl rfl ?_
    refine J.move rfl rfl ?_
    refine J.bin rfl rfl rfl rfl ?_
    refine J.nil ?_
    refine JX.thenN (hK14 _ _ ?_)
    refine JC.cond rfl (fun h7 => ?_) (fun h7 => ?_)
    · skip
      have hlt : i < k := by
        have h9 : (P.length + i : Int) < P.length + k := by simpa using h7
        omega
      obtain ⟨k0, rfl⟩ : ∃ k0, k = k0 + 1 := ⟨k - 1, by omega⟩
      obtain ⟨xe, hxk⟩ : ∃ y, L[k0]? = some y := ⟨_, List.getElem?_eq_getElem (by omega)⟩
      have hkl : P.length + k0 = (P ++ L.take k0).length := by rw [List.length_append, List.length_take]; omega
      rw [take_get hxk]
      have hnx : ((P ++ L.take k0) ++ xe :: ye :: (L.drop (k0 + 1) ++ T)).length = n := by simp only [List.length_append, List.length_cons, List.length_take, List.length_drop]; omega
      have gx : ((P ++ L.take k0) ++ xe :: ye :: (L.drop (k0 + 1) ++ T))[P.length + k0]? = some xe := by rw [hkl]; exact get_mid _ _ _
      have gy : ((P ++ L.take k0) ++ xe :: ye :: (L.drop (k0 + 1) ++ T))[P.length + k0 + 1]? = some ye := by rw [hkl]; exact get_mid2 _ _ _ _
      refine JC.conseq (I' := St w [q] [(q, cb (fC ((P ++ L.take k0) ++ xe :: ye :: (L.drop (k0 + 1) ++ T)) ++ sp) 75)]) ?_ (fun w1 hw => by simpa [List.append_assoc] using hw)
      refine JC.skip ?_
      refine JX.thenN (hK13 _ _ ?_)
      refine JC.seq (fun K15 hK15 => ?_)
      refine JC.block ?_
      apply JC.drawX (α := Nat × Unit) 16 (fun x => match x with | ⟨xu, uu⟩ => [.slice (some ⟨q, 0, none⟩) n c, .int .i64 (((P.length + k0 + 1) : Nat) : Int), .slice (some ⟨q, 0, none⟩) n c, .int .i64 (((P.length + k0 + 1) : Nat) : Int), .int .i64 (((P.length + k0) : Nat) : Int), .slice (some ⟨q, 0, none⟩) n c, .int .i64 (((P.length + k0 + 1) : Nat) : Int), .int .i64 (((P.length + k0) : Nat) : Int), .pointer (some ⟨q, 0 + (((P.length + k0) : Nat) : Int).toNat * 35, none⟩), .agg (cC xe).toArray, .slice (some ⟨q, 0, none⟩) n c, .int .i64 (((P.length + k0 + 1) : Nat) : Int), .pointer (some ⟨q, 0 + (((P.length + k0 + 1) : Nat) : Int).toNat * 35, none⟩), .agg (cC ye).toArray, .pointer (some ⟨q, 0 + (((P.length + k0 + 1) : Nat) : Int).toNat * 35, none⟩), undef]) (fun m x => match x with | ⟨xu, uu⟩ => fun w1 => ((m 15 = true → m 9 = true ∧ m 13 = true)) ∧ St w [q] ((q, cb (bif m 15 then fC (((P ++ L.take k0) ++ xe :: ye :: (L.drop (k0 + 1) ++ T)).set ((P.length + k0 + 1)) xe) ++ sp else fC ((P ++ L.take k0) ++ xe :: ye :: (L.drop (k0 + 1) ++ T)) ++ sp) 75) :: []) w1) Ty.mixed rfl rfl rfl (by kernel_rfl) rfl rfl ?hinit ?hstep ?htail
      case hinit => exact fun w1 hw => ⟨(0, ()), fun h => (by cases h), hw.drew⟩
      case hstep =>
        refine ⟨fun m x hm hp => ?_, fun m x hm hp => ?_, fun m x hm hp => ?_, fun m x hm hp => ?_, fun m x hm hp => ?_, fun m x hm hp => ?_, fun m x hm hp => ?_, fun m x hm hp => ?_, fun m x hm hp => ?_, fun m x hm hp => ?_, fun m x hm hp => ?_, fun m x hm hp => ?_, fun m x hm hp => ?_, fun m x hm hp => ?_, fun m x hm hp => ?_, fun m x hm hp => ?_, trivial⟩
        · skip
          obtain ⟨xu, uu⟩ := x
          show J _ _ _ _ _ (_) _
          refine J.pr (fun hF => ?_)
          refine J.move rfl rfl ?_
          exact J.finX rfl (fun _ hw => ⟨⟨xu, uu⟩, rfl, fun _ _ _ => rfl, hF, hw⟩)
        · skip
          obtain ⟨xu, uu⟩ := x
          show J _ _ _ _ _ (_) _
          refine J.pr (fun hF => ?_)
          refine J.move rfl rfl ?_
          exact J.finX rfl (fun _ hw => ⟨⟨xu, uu⟩, rfl, fun _ _ _ => rfl, hF, hw⟩)
        · skip
          obtain ⟨xu, uu⟩ := x
          show J _ _ _ _ _ (_) _
          refine J.pr (fun hF => ?_)
          refine J.move rfl rfl ?_
          exact J.finX rfl (fun _ hw => ⟨⟨xu, uu⟩, rfl, fun _ _ _ => rfl, hF, hw⟩)
        · skip
          obtain ⟨xu, uu⟩ := x
          show J _ _ _ _ _ (_) _
          refine J.pr (fun hF => ?_)
          refine J.move rfl rfl ?_
          exact J.finX rfl (fun _ hw => ⟨⟨xu, uu⟩, rfl, fun _ _ _ => rfl, hF, hw⟩)
        · skip
          obtain ⟨xu, uu⟩ := x
          show J _ _ _ _ _ ((116, .int .i64 (((P.length + k0 + 1) : Nat) : Int)) :: _) _
          refine J.pr (fun hF => ?_)
          refine J.subN rfl rfl (by omega) (by omega) rfl ?_
          refine J.name 117 rfl (show _ = Value.int .i64 (((P.length + k0) : Nat) : Int) from congrArg (Value.int .i64) (by omega)) ?_
          exact J.finX rfl (fun _ hw => ⟨⟨xu, uu⟩, rfl, fun _ _ _ => rfl, hF, hw⟩)
        · skip
          obtain ⟨xu, uu⟩ := x
          show J _ _ _ _ _ (_) _
          refine J.pr (fun hF => ?_)
          refine J.move rfl rfl ?_
          exact J.finX rfl (fun _ hw => ⟨⟨xu, uu⟩, rfl, fun _ _ _ => rfl, hF, hw⟩)
        · skip
          obtain ⟨xu, uu⟩ := x
          show J _ _ _ _ _ (_) _
          refine J.pr (fun hF => ?_)
          refine J.move rfl rfl ?_
          exact J.finX rfl (fun _ hw => ⟨⟨xu, uu⟩, rfl, fun _ _ _ => rfl, hF, hw⟩)
        · skip
          obtain ⟨xu, uu⟩ := x
          show J _ _ _ _ _ ((119, .int .i64 (((P.length + k0 + 1) : Nat) : Int)) :: _) _
          refine J.pr (fun hF => ?_)
          refine J.subN rfl rfl (by omega) (by omega) rfl ?_
          refine J.name 120 rfl (show _ = Value.int .i64 (((P.length + k0) : Nat) : Int) from congrArg (Value.int .i64) (by omega)) ?_
          exact J.finX rfl (fun _ hw => ⟨⟨xu, uu⟩, rfl, fun _ _ _ => rfl, hF, hw⟩)
        · skip
          obtain ⟨xu, uu⟩ := x
          show J _ _ _ _ _ ((120, .int .i64 (((P.length + k0) : Nat) : Int)) :: (118, .slice (some ⟨q, 0, none⟩) n c) :: _) _
          refine J.pr (fun hF => ?_)
          refine J.indexAddrS Ty.el68 Ty.s75 rfl rfl (by omega) (by omega) rfl ?_
          exact J.finX rfl (fun _ hw => ⟨⟨xu, uu⟩, rfl, fun _ _ _ => rfl, hF, hw⟩)
        · skip
          obtain ⟨xu, uu⟩ := x
          show J _ _ _ _ _ ((121, .pointer (some ⟨q, 0 + (((P.length + k0) : Nat) : Int).toNat * 35, none⟩)) :: _) _
          refine J.pr (fun hF => ?_)
          have h15 : m 15 = false := by cases h : m 15 with
            | false => rfl
            | true => rw [(hF h).1] at hm; cases hm
          refine J.conseq (I' := St w [q] ((q, cb (fC ((P ++ L.take k0) ++ xe :: ye :: (L.drop (k0 + 1) ++ T)) ++ sp) 75) :: [])) ?_ (fun w1 hw => by simp only [h15, cond_false] at hw; exact hw)
          refine J.loadA (vs := cC xe) Ty.a75 Ty.s75 rfl rfl (fun w1 hw => rowG_at (c := cC) (sz := 35) (fun _ => rfl) (rowC_own (xs := (P ++ L.take k0) ++ xe :: ye :: (L.drop (k0 + 1) ++ T)) hw (.head _) hnx hnc) gx (by rw [Int.toNat_natCast])) rfl ?_
          refine J.nil (JX.finB rfl (fun w1 hw => ⟨⟨⟨xu, uu⟩, rfl, fun j h1 h2 => ?_, ?_⟩, trivial⟩))
          · match j, h1 with
            | 0, _ => (first | rfl | trivial)
            | 1, _ => (first | rfl | trivial)
            | 2, _ => (first | rfl | trivial)
            | 3, _ => (first | rfl | trivial)
            | 4, _ => (first | rfl | trivial)
            | 5, _ => (first | rfl | trivial)
            | 6, _ => (first | rfl | trivial)
            | 7, _ => (first | rfl | trivial)
            | 8, _ => (first | rfl | trivial)
            | 9, _ => (first | rfl | trivial)
            | 10, _ => (first | rfl | trivial)
            | 11, _ => (first | rfl | trivial)
            | 12, _ => (first | rfl | trivial)
            | 13, _ => (first | rfl | trivial)
            | 14, _ => (first | rfl | trivial)
            | 15, _ => (first | rfl | trivial)
            | j + 16, h1 => omega
          show ((m 15 = true → true = true ∧ m 13 = true)) ∧ St w [q] ((q, cb (bif m 15 then fC (((P ++ L.take k0) ++ xe :: ye :: (L.drop (k0 + 1) ++ T)).set ((P.length + k0 + 1)) xe) ++ sp else fC ((P ++ L.take k0) ++ xe :: ye :: (L.drop (k0 + 1) ++ T)) ++ sp) 75) :: []) w1
          simp only [h15, cond_false] at hw ⊢
          exact ⟨fun h => (by first | (rw [h15] at h; cases h) | cases h), hw⟩
        · skip
          obtain ⟨xu, uu⟩ := x
          show J _ _ _ _ _ (_) _
          refine J.pr (fun hF => ?_)
          refine J.move rfl rfl ?_
          exact J.finX rfl (fun _ hw => ⟨⟨xu, uu⟩, rfl, fun _ _ _ => rfl, hF, hw⟩)
        · skip
          obtain ⟨xu, uu⟩ := x
          show J _ _ _ _ _ (_) _
          refine J.pr (fun hF => ?_)
          refine J.move rfl rfl ?_
          exact J.finX rfl (fun _ hw => ⟨⟨xu, uu⟩, rfl, fun _ _ _ => rfl, hF, hw⟩)
        · skip
          obtain ⟨xu, uu⟩ := x
          show J _ _ _ _ _ ((124, .int .i64 (((P.length + k0 + 1) : Nat) : Int)) :: (123, .slice (some ⟨q, 0, none⟩) n c) :: _) _
          refine J.pr (fun hF => ?_)
          refine J.indexAddrS Ty.el68 Ty.s75 rfl rfl (by omega) (by omega) rfl ?_
          exact J.finX rfl (fun _ hw => ⟨⟨xu, uu⟩, rfl, fun _ _ _ => rfl, hF, hw⟩)
        · skip
          obtain ⟨xu, uu⟩ := x
          show J _ _ _ _ _ ((125, .pointer (some ⟨q, 0 + (((P.length + k0 + 1) : Nat) : Int).toNat * 35, none⟩)) :: _) _
          refine J.pr (fun hF => ?_)
          have h15 : m 15 = false := by cases h : m 15 with
            | false => rfl
            | true => rw [(hF h).2] at hm; cases hm
          refine J.conseq (I' := St w [q] ((q, cb (fC ((P ++ L.take k0) ++ xe :: ye :: (L.drop (k0 + 1) ++ T)) ++ sp) 75) :: [])) ?_ (fun w1 hw => by simp only [h15, cond_false] at hw; exact hw)
          refine J.loadA (vs := cC ye) Ty.a75 Ty.s75 rfl rfl (fun w1 hw => rowG_at (c := cC) (sz := 35) (fun _ => rfl) (rowC_own (xs := (P ++ L.take k0) ++ xe :: ye :: (L.drop (k0 + 1) ++ T)) hw (.head _) hnx hnc) gy (by rw [Int.toNat_natCast])) rfl ?_
          refine J.nil (JX.finB rfl (fun w1 hw => ⟨⟨⟨xu, uu⟩, rfl, fun j h1 h2 => ?_, ?_⟩, trivial⟩))
          · match j, h1 with
            | 0, _ => (first | rfl | trivial)
            | 1, _ => (first | rfl | trivial)
            | 2, _ => (first | rfl | trivial)
            | 3, _ => (first | rfl | trivial)
            | 4, _ => (first | rfl | trivial)
            | 5, _ => (first | rfl | trivial)
            | 6, _ => (first | rfl | trivial)
            | 7, _ => (first | rfl | trivial)
            | 8, _ => (first | rfl | trivial)
            | 9, _ => (first | rfl | trivial)
            | 10, _ => (first | rfl | trivial)
            | 11, _ => (first | rfl | trivial)
            | 12, _ => (first | rfl | trivial)
            | 13, _ => (first | rfl | trivial)
            | 14, _ => (first | rfl | trivial)
            | 15, _ => (first | rfl | trivial)
            | j + 16, h1 => omega
          show ((m 15 = true → m 9 = true ∧ true = true)) ∧ St w [q] ((q, cb (bif m 15 then fC (((P ++ L.take k0) ++ xe :: ye :: (L.drop (k0 + 1) ++ T)).set ((P.length + k0 + 1)) xe) ++ sp else fC ((P ++ L.take k0) ++ xe :: ye :: (L.drop (k0 + 1) ++ T)) ++ sp) 75) :: []) w1
          simp only [h15, cond_false] at hw ⊢
          exact ⟨fun h => (by first | (rw [h15] at h; cases h) | cases h), hw⟩
        · skip
          obtain ⟨xu, uu⟩ := x
          show J _ _ _ _ _ ((126, .agg (cC ye).toArray) :: (122, .agg (cC xe).toArray) :: (121, .pointer (some ⟨q, 0 + (((P.length + k0) : Nat) : Int).toNat * 35, none⟩)) :: (120, .int .i64 (((P.length + k0) : Nat) : Int)) :: (119, .int .i64 (((P.length + k0 + 1) : Nat) : Int)) :: (118, .slice (some ⟨q, 0, none⟩) n c) :: (114, .int .i64 (((P.length + k0 + 1) : Nat) : Int)) :: (113, .slice (some ⟨q, 0, none⟩) n c) :: (114, .int .i64 (((P.length + k0 + 1) : Nat) : Int)) :: (113, .slice (some ⟨q, 0, none⟩) n c) :: _) _
          have hp9 : m 9 = true := predsT hp (by kernel_rfl)
          have hp13 : m 13 = true := predsT hp (by kernel_rfl)
          refine J.pr (fun hF => ?_)
          refine J.indexAddrS Ty.el68 Ty.s75 rfl rfl (by omega) (by omega) rfl ?_
          exact J.finX rfl (fun _ hw => ⟨⟨xu, uu⟩, rfl, fun _ _ _ => rfl, hF, hw⟩)
        · skip
          obtain ⟨xu, uu⟩ := x
          show J _ _ _ _ _ ((126, .agg (cC ye).toArray) :: (122, .agg (cC xe).toArray) :: (121, .pointer (some ⟨q, 0 + (((P.length + k0) : Nat) : Int).toNat * 35, none⟩)) :: (120, .int .i64 (((P.length + k0) : Nat) : Int)) :: (119, .int .i64 (((P.length + k0 + 1) : Nat) : Int)) :: (118, .slice (some ⟨q, 0, none⟩) n c) :: (114, .int .i64 (((P.length + k0 + 1) : Nat) : Int)) :: (113, .slice (some ⟨q, 0, none⟩) n c) :: (122, .agg (cC xe).toArray) :: (127, .pointer (some ⟨q, 0 + (((P.length + k0 + 1) : Nat) : Int).toNat * 35, none⟩)) :: _) _
          have hp9 : m 9 = true := predsT hp (by kernel_rfl)
          have hp9 : m 9 = true := predsT hp (by kernel_rfl)
          have hp13 : m 13 = true := predsT hp (by kernel_rfl)
          refine J.pr (fun hF => ?_)
          refine J.conseq (I' := St w [q] ((q, cb (fC ((P ++ L.take k0) ++ xe :: ye :: (L.drop (k0 + 1) ++ T)) ++ sp) 75) :: [])) ?_ (fun w1 hw => by simp only [hm, cond_false] at hw; exact hw)
          refine J.storeO (cs := fC ((P ++ L.take k0) ++ xe :: ye :: (L.drop (k0 + 1) ++ T)) ++ sp) (vs := cC xe) (l' := (q, cb (fC (((P ++ L.take k0) ++ xe :: ye :: (L.drop (k0 + 1) ++ T)).set ((P.length + k0 + 1)) xe) ++ sp) 75) :: []) Ty.s75 rfl rfl rfl rfl (one_cC _) (by rw [set_C (i := (P.length + k0 + 1)) (by omega) (by rw [Int.toNat_natCast]; omega)]; exact .here) (by rw [List.length_append, fC_len, hnx]; omega) ?_
          refine J.nil (JX.finN undef (fun w1 hw => ⟨⟨xu, uu⟩, rfl, fun j h1 h2 => ?_, ?_⟩))
          · match j, h1 with
            | 0, _ => (first | rfl | trivial)
            | 1, _ => (first | rfl | trivial)
            | 2, _ => (first | rfl | trivial)
            | 3, _ => (first | rfl | trivial)
            | 4, _ => (first | rfl | trivial)
            | 5, _ => (first | rfl | trivial)
            | 6, _ => (first | rfl | trivial)
            | 7, _ => (first | rfl | trivial)
            | 8, _ => (first | rfl | trivial)
            | 9, _ => (first | rfl | trivial)
            | 10, _ => (first | rfl | trivial)
            | 11, _ => (first | rfl | trivial)
            | 12, _ => (first | rfl | trivial)
            | 13, _ => (first | rfl | trivial)
            | 14, _ => (first | rfl | trivial)
            | 15, _ => (first | rfl | trivial)
            | j + 16, h1 => omega
          show ((true = true → m 9 = true ∧ m 13 = true)) ∧ St w [q] ((q, cb (bif true then fC (((P ++ L.take k0) ++ xe :: ye :: (L.drop (k0 + 1) ++ T)).set ((P.length + k0 + 1)) xe) ++ sp else fC ((P ++ L.take k0) ++ xe :: ye :: (L.drop (k0 + 1) ++ T)) ++ sp) 75) :: []) w1
          simp only [cond_true] at hw ⊢
          exact ⟨fun _ => ⟨hp9, hp13⟩, hw⟩
      case htail =>
        intro x
        obtain ⟨xu, uu⟩ := x
        show J _ _ _ _ _ ((127, .pointer (some ⟨q, 0 + (((P.length + k0 + 1) : Nat) : Int).toNat * 35, none⟩)) :: (126, .agg (cC ye).toArray) :: (125, .pointer (some ⟨q, 0 + (((P.length + k0 + 1) : Nat) : Int).toNat * 35, none⟩)) :: (124, .int .i64 (((P.length + k0 + 1) : Nat) : Int)) :: (123, .slice (some ⟨q, 0, none⟩) n c) :: (122, .agg (cC xe).toArray) :: (121, .pointer (some ⟨q, 0 + (((P.length + k0) : Nat) : Int).toNat * 35, none⟩)) :: (120, .int .i64 (((P.length + k0) : Nat) : Int)) :: (119, .int .i64 (((P.length + k0 + 1) : Nat) : Int)) :: (118, .slice (some ⟨q, 0, none⟩) n c) :: (117, .int .i64 (((P.length + k0) : Nat) : Int)) :: (116, .int .i64 (((P.length + k0 + 1) : Nat) : Int)) :: (115, .slice (some ⟨q, 0, none⟩) n c) :: (114, .int .i64 (((P.length + k0 + 1) : Nat) : Int)) :: (113, .slice (some ⟨q, 0, none⟩) n c) :: _) (fun w1 => ((true = true → true = true ∧ true = true)) ∧ St w [q] ((q, cb (bif true then fC (((P ++ L.take k0) ++ xe :: ye :: (L.drop (k0 + 1) ++ T)).set ((P.length + k0 + 1)) xe) ++ sp else fC ((P ++ L.take k0) ++ xe :: ye :: (L.drop (k0 + 1) ++ T)) ++ sp) 75) :: []) w1)
        refine J.pr (fun hF => ?_)
        refine J.conseq (I' := St w [q] ((q, cb (fC (((P ++ L.take k0) ++ xe :: ye :: (L.drop (k0 + 1) ++ T)).set ((P.length + k0 + 1)) xe) ++ sp) 75) :: [])) ?_ (fun w1 hw => by simp only [cond_true] at hw; exact hw)
        refine J.indexAddrS Ty.el68 Ty.s75 rfl rfl (by omega) (by omega) rfl ?_
        refine J.storeO (cs := fC (((P ++ L.take k0) ++ xe :: ye :: (L.drop (k0 + 1) ++ T)).set ((P.length + k0 + 1)) xe) ++ sp) (vs := cC ye) (l' := (q, cb (fC ((P ++ L.take k0) ++ ye :: xe :: (L.drop (k0 + 1) ++ T)) ++ sp) 75) :: []) Ty.s75 rfl rfl rfl rfl (one_cC _) (by rw [set_C (i := (P.length + k0)) (by rw [List.length_set]; omega) (by rw [Int.toNat_natCast]; omega), show P.length + k0 = (P ++ L.take k0).length from hkl, swap_mid]; exact .here) (by rw [List.length_append, fC_len, List.length_set, hnx]; omega) ?_
        refine J.nil ?_
        refine JX.blockN ?_
        refine JX.thenN (hK15 _ _ ?_)
        refine JC.region ?_
        refine J.move rfl rfl ?_
        refine J.subN rfl rfl (by omega) (by omega) rfl ?_
        refine J.name 112 rfl (show _ = .int .i64 (((P.length + k0) : Nat) : Int) from congrArg (Value.int .i64) (by omega)) ?_
        refine J.assign rfl rfl ?_
        refine J.nil ?_
        refine JX.thenN ?_
        refine JX.again k0 ?_ ?_ ?_
        · omega
        · exact ⟨rfl, rfl, rfl, trivial⟩
        · exact fun w1 hw => ⟨⟨by omega, by omega⟩, by rw [drop_get hxk]; simpa [List.append_assoc] using hw⟩
    · skip
      have hge : i = k := by
        have h9 : ¬ ((P.length + i : Int) < P.length + k) := by simpa using h7
        omega
      subst hge
      refine JC.exit ?_
      refine JX.thenE ?_
      refine JX.thenE ?_
      refine JX.blockE ?_
      refine JX.thenN (hK11 _ _ ?_)
      refine JC.ret ?_
      refine JX.thenR ?_
      refine JX.ret0 rfl (fun w1 hw => ?_)
      obtain ⟨a1, a2⟩ := ins_left swoC hL hle1 hgt1
      exact ⟨L.take i ++ ye :: L.drop i, rfl, ⟨by rw [hRe]; exact a1, a2⟩, by simpa only [List.append_assoc, List.cons_append] using hw⟩

end Go.Proofs.Ytbafhclandendaa
/-
  Symmetric merging, at candidates: contract.
-/
namespace Go.Proofs.Ytbafhclandendaa
open Go.J Go.RowKit
set_option linter.unusedVariables false
set_option linter.unusedSimpArgs false
set_option maxRecDepth 8000
theorem rotateAt_spec (q n c : Nat) (P L R T : List CV) (sp : List Value) (w : World) (hw0 : Own w [(q, cb (fC (P ++ (L ++ (R ++ T))) ++ sp) 75)]) (hL0 : 0 < L.length) (hR0 : 0 < R.length) (hn : P.length + L.length + R.length + T.length = n) (hnc : n ≤ c) (hnb : n ≤ 1099511627776) (aa mm bb : Nat) (haa : P.length = aa) (hmm : aa + L.length = mm) (hbb : mm + R.length = bb) :
    Calls Try.prog 95 [.slice (some ⟨q, 0, none⟩) n c, .int .i64 ((aa : Nat) : Int), .int .i64 ((mm : Nat) : Int), .int .i64 ((bb : Nat) : Int), .func (.func 55) #[] #[]].toArray w fun r w' => r = .returned (.tuple #[]) ∧ St w [q] [(q, cb (fC (P ++ (R ++ (L ++ T))) ++ sp) 75)] w' := by
  subst haa
  exact rotate_spec q n c P L R T sp w hw0 hL0 hR0 hn hnc hnb mm bb hmm hbb

set_option maxHeartbeats 4000000 in
theorem symMerge_main (q n c : Nat) (sp : List Value) (hnc : n ≤ c) (hnb : n ≤ 1099511627776) (P L R T : List CV) (w : World) (hw0 : Own w [(q, cb (fC (P ++ (L ++ (R ++ T))) ++ sp) 75)]) (hn : (P ++ (L ++ (R ++ T))).length = n) (hL0 : 0 < L.length) (hR0 : 0 < R.length) (hL : Srt ltC L) (hR : Srt ltC R) (hL2 : 2 ≤ L.length) (hR2 : 2 ≤ R.length) (IH : ∀ (P1 L1 R1 T1 : List CV) (w1 : World), Own w1 [(q, cb (fC (P1 ++ (L1 ++ (R1 ++ T1))) ++ sp) 75)] → (P1 ++ (L1 ++ (R1 ++ T1))).length = n → 0 < L1.length → 0 < R1.length → Srt ltC L1 → Srt ltC R1 → L1.length + R1.length < L.length + R.length → ∀ a m b : Nat, P1.length = a → a + L1.length = m → m + R1.length = b → Calls Try.prog 82 [.slice (some ⟨q, 0, none⟩) n c, .int .i64 ((a : Nat) : Int), .int .i64 ((m : Nat) : Int), .int .i64 ((b : Nat) : Int), .func (.func 55) #[] #[]].toArray w1 fun r w' => ∃ Z : List CV, r = .returned (.tuple #[]) ∧ (SE ltC (L1 ++ R1) Z ∧ Srt ltC Z) ∧ St w1 [q] [(q, cb (fC (P1 ++ (Z ++ T1)) ++ sp) 75)] w') :
    Calls Try.prog 82 [.slice (some ⟨q, 0, none⟩) n c, .int .i64 ((P.length : Nat) : Int), .int .i64 (((P.length + L.length) : Nat) : Int), .int .i64 (((P.length + L.length + R.length) : Nat) : Int), .func (.func 55) #[] #[]].toArray w fun r w' => ∃ Z : List CV, r = .returned (.tuple #[]) ∧ (SE ltC (L ++ R) Z ∧ Srt ltC Z) ∧ St w [q] [(q, cb (fC (P ++ (Z ++ T)) ++ sp) 75)] w' := by
  obtain ⟨mid, hmid⟩ : ∃ x, (P.length + (P.length + L.length + R.length)) / 2 = x := ⟨_, rfl⟩
  have hPn : P.length + L.length + R.length + T.length = n := by simp only [List.length_append] at hn; omega
  refine calls_of_J (args := [.slice (some ⟨q, 0, none⟩) n c, .int .i64 ((P.length : Nat) : Int), .int .i64 (((P.length + L.length) : Nat) : Int), .int .i64 (((P.length + L.length + R.length) : Nat) : Int), .func (.func 55) #[] #[]]) (e := [(0, .slice (some ⟨q, 0, none⟩) n c), (1, .int .i64 ((P.length : Nat) : Int)), (2, .int .i64 (((P.length + L.length) : Nat) : Int)), (3, .int .i64 (((P.length + L.length + R.length) : Nat) : Int)), (4, .func (.func 55) #[] #[])]) Try.func82 rfl rfl ⟨rfl, rfl, rfl, rfl, rfl, trivial⟩ (hw0.st) ?_
  refine JC.seq (fun K0 hK0 => ?_)
  refine JC.seq (fun K1 hK1 => ?_)
  refine JC.region ?_
  refine J.move rfl rfl ?_
  refine J.move rfl rfl ?_
  refine J.subN rfl rfl (by omega) (by omega) rfl ?_
  refine J.name 27 rfl (show _ = Value.int .i64 ((L.length : Nat) : Int) from congrArg (Value.int .i64) (by omega)) ?_
  refine J.bin rfl rfl rfl rfl ?_
  refine J.name 28 rfl (show _ = Value.bool false by simp; omega) ?_
  refine J.nil ?_
  refine JX.thenN (hK1 _ _ ?_)
  first | refine JC.condF rfl ?_ | refine JC.cond rfl (fun h => by first | (exfalso; simp at h; omega) | (simp at h)) (fun _ => ?_)
  refine JC.skip ?_
  refine JX.thenN (hK0 _ _ ?_)
  refine JC.seq (fun K2 hK2 => ?_)
  refine JC.seq (fun K3 hK3 => ?_)
  refine JC.region ?_
  refine J.move rfl rfl ?_
  refine J.move rfl rfl ?_
  refine J.subN rfl rfl (by omega) (by omega) rfl ?_
  refine J.name 79 rfl (show _ = Value.int .i64 ((R.length : Nat) : Int) from congrArg (Value.int .i64) (by omega)) ?_
  refine J.bin rfl rfl rfl rfl ?_
  refine J.name 80 rfl (show _ = Value.bool false by simp; omega) ?_
  refine J.nil ?_
  refine JX.thenN (hK3 _ _ ?_)
  first | refine JC.condF rfl ?_ | refine JC.cond rfl (fun h => by first | (exfalso; simp at h; omega) | (simp at h)) (fun _ => ?_)
  refine JC.skip ?_
  refine JX.thenN (hK2 _ _ ?_)
  refine JC.seq (fun K4 hK4 => ?_)
  refine JC.region ?_
  refine J.move rfl rfl ?_
  refine J.move rfl rfl ?_
  refine J.addN rfl rfl (by omega) (by omega) rfl ?_
  refine J.name 131 rfl (show _ = .int .i64 (((P.length + (P.length + L.length + R.length)) : Nat) : Int) from congrArg (Value.int .i64) (by omega)) ?_
  refine J.convInt Ty.u3 Ty.u31 rfl rfl ?_
  refine J.name 132 rfl (show _ = Value.int .u64 (((P.length + (P.length + L.length + R.length)) : Nat) : Int) from congrArg (Value.int .u64) (wrap_u64 (by omega) (by omega))) ?_
  refine J.shrN rfl rfl (by omega) rfl ?_
  refine J.name 133 rfl (show _ = Value.int .u64 ((mid : Nat) : Int) from congrArg (Value.int .u64) ((half_val (P.length + (P.length + L.length + R.length))).trans (congrArg (fun k : Nat => ((k : Nat) : Int)) hmid))) ?_
  refine J.convInt Ty.u31 Ty.u3 rfl rfl ?_
  refine J.name 134 rfl (show _ = .int .i64 ((mid : Nat) : Int) from congrArg (Value.int .i64) (wrap_i64 (by omega) (by omega))) ?_
  refine J.assign rfl rfl ?_
  refine J.nil ?_
  refine JX.thenN (hK4 _ _ ?_)
  refine JC.seq (fun K5 hK5 => ?_)
  refine JC.region ?_
  refine J.move rfl rfl ?_
  refine J.move rfl rfl ?_
  refine J.addN rfl rfl (by omega) (by omega) rfl ?_
  refine J.name 137 rfl (show _ = .int .i64 (((mid + P.length + L.length) : Nat) : Int) from congrArg (Value.int .i64) (by omega)) ?_
  refine J.assign rfl rfl ?_
  refine J.nil ?_
  refine JX.thenN (hK5 _ _ ?_)
  refine JC.seq (fun K6 hK6 => ?_)
  refine JC.region ?_
  refine J.assign rfl rfl ?_
  refine J.assign rfl rfl ?_
  refine J.nil ?_
  refine JX.thenN (hK6 _ _ ?_)
  refine JC.seqCut (α := Nat × Nat) (fun z => [(0, .slice (some ⟨q, 0, none⟩) n c), (1, .int .i64 ((P.length : Nat) : Int)), (2, .int .i64 (((P.length + L.length) : Nat) : Int)), (3, .int .i64 (((P.length + L.length + R.length) : Nat) : Int)), (4, .func (.func 55) #[] #[]), (18, .int .i64 ((mid : Nat) : Int)), (19, .int .i64 (((mid + P.length + L.length) : Nat) : Int)), (20, .int .i64 ((z.1 : Nat) : Int)), (21, .int .i64 ((z.2 : Nat) : Int))]) (fun z w' => (P.length ≤ z.1 ∧ z.1 ≤ z.2 ∧ z.2 ≤ P.length + L.length ∧ ((R.length ≤ mid - z.1 ∧ z.2 = mid ∧ z.1 + R.length = mid) ∨ (z.1 = P.length ∧ z.2 = P.length + L.length ∧ P.length + L.length ≤ mid)) ∧ (∀ c, z.1 ≤ c → c < z.2 → P.length + L.length ≤ mid + P.length + L.length - 1 - c ∧ mid + P.length + L.length - 1 - c < P.length + L.length + R.length ∧ c < mid)) ∧ St w [q] [(q, cb (fC (P ++ (L ++ (R ++ T))) ++ sp) 75)] w') (fun z => ?_) (fun K7 hK7 => ?_)
  · skip
    obtain ⟨lo, hi⟩ := z
    refine JC.pr (fun hz => ?_)
    obtain ⟨hlo1, hlohi, hhi1, hends, hpc⟩ := hz
    try simp only at hlo1 hlohi hhi1 hends hpc ⊢
    refine JC.seq (fun K8 hK8 => ?_)
    refine JC.region ?_
    refine J.move rfl rfl ?_
    refine J.subN rfl rfl (by omega) (by omega) rfl ?_
    refine J.name 148 rfl (show _ = .int .i64 (((mid + P.length + L.length - 1) : Nat) : Int) from congrArg (Value.int .i64) (by omega)) ?_
    refine J.assign rfl rfl ?_
    refine J.nil ?_
    refine JX.thenN (hK8 _ _ ?_)
    refine JC.seq (fun K9 hK9 => ?_)
    refine JC.block ?_
    refine JC.conseq (JC.cov (f := (fun st => [(0, .slice (some ⟨q, 0, none⟩) n c), (1, .int .i64 ((P.length : Nat) : Int)), (2, .int .i64 (((P.length + L.length) : Nat) : Int)), (3, .int .i64 (((P.length + L.length + R.length) : Nat) : Int)), (4, .func (.func 55) #[] #[]), (18, .int .i64 ((mid : Nat) : Int)), (19, .int .i64 (((mid + P.length + L.length) : Nat) : Int)), (22, .int .i64 (((mid + P.length + L.length - 1) : Nat) : Int)), (20, .int .i64 ((st.1 : Nat) : Int)), (21, .int .i64 ((st.2 : Nat) : Int))]) ((lo, hi) : Nat × Nat)) ⟨rfl, rfl, rfl, rfl, rfl, rfl, rfl, rfl, rfl, rfl, trivial⟩ (JC.loop (α := Nat × Nat) (fun st => [(0, .slice (some ⟨q, 0, none⟩) n c), (1, .int .i64 ((P.length : Nat) : Int)), (2, .int .i64 (((P.length + L.length) : Nat) : Int)), (3, .int .i64 (((P.length + L.length + R.length) : Nat) : Int)), (4, .func (.func 55) #[] #[]), (18, .int .i64 ((mid : Nat) : Int)), (19, .int .i64 (((mid + P.length + L.length) : Nat) : Int)), (22, .int .i64 (((mid + P.length + L.length - 1) : Nat) : Int)), (20, .int .i64 ((st.1 : Nat) : Int)), (21, .int .i64 ((st.2 : Nat) : Int))]) (fun st w' => (lo ≤ st.1 ∧ st.1 ≤ st.2 ∧ st.2 ≤ hi ∧ (st.1 = lo ∨ ∃ x y, L[st.1 - 1 - P.length]? = some x ∧ R[mid - st.1]? = some y ∧ P.length ≤ st.1 - 1 ∧ 1 ≤ st.1 ∧ ¬ ltC y x) ∧ (st.2 = hi ∨ ∃ x y, L[st.2 - P.length]? = some x ∧ R[mid - 1 - st.2]? = some y ∧ ltC y x ∧ st.2 < mid)) ∧ St w [q] [(q, cb (fC (P ++ (L ++ (R ++ T))) ++ sp) 75)] w') (fun st => st.2 - st.1) ((lo, hi) : Nat × Nat) (fun st => ?_))) (fun w hw => ⟨⟨Nat.le_refl _, hlohi, Nat.le_refl _, .inl rfl, .inl rfl⟩, hw⟩)
    obtain ⟨s, r⟩ := st
    refine JC.pr (fun hI => ?_)
    obtain ⟨hs1, hs2, hs3, hs4, hs5⟩ := hI
    try simp only at hs1 hs2 hs3 hs4 hs5 ⊢
    refine JC.seq (fun K10 hK10 => ?_)
    refine JC.seq (fun K11 hK11 => ?_)
    refine JC.region ?_
    refine J.move rfl rfl ?_
    refine J.move rfl rfl ?_
    refine J.bin rfl rfl rfl rfl ?_
    refine J.nil ?_
    refine JX.thenN (hK11 _ _ ?_)
    refine JC.cond rfl (fun h9 => ?_) (fun h9 => ?_)
    · skip
      have hlt : s < r := by simpa using h9
      obtain ⟨cx, hcx, hc1, hc2⟩ : ∃ x, (s + r) / 2 = x ∧ s ≤ x ∧ x < r := ⟨_, rfl, by omega, by omega⟩
      obtain ⟨hp1, hp2, hp3⟩ := hpc cx (by omega) (by omega)
      obtain ⟨xe, hxe⟩ : ∃ y, L[cx - P.length]? = some y := ⟨_, List.getElem?_eq_getElem (by omega)⟩
      obtain ⟨ye, hye⟩ : ∃ y, R[mid - 1 - cx]? = some y := ⟨_, List.getElem?_eq_getElem (by omega)⟩
      have gx : (P ++ (L ++ (R ++ T)))[cx]? = some xe := by have := get_L (P := P) (R := R) (T := T) hxe; rwa [show P.length + (cx - P.length) = cx by omega] at this
      have gy : (P ++ (L ++ (R ++ T)))[mid + P.length + L.length - 1 - cx]? = some ye := by have := get_R (P := P) (L := L) (T := T) hye; rwa [show P.length + L.length + (mid - 1 - cx) = mid + P.length + L.length - 1 - cx by omega] at this
      refine JC.skip ?_
      refine JX.thenN (hK10 _ _ ?_)
      refine JC.block ?_
      refine JC.seq (fun K12 hK12 => ?_)
      refine JC.region ?_
      refine J.move rfl rfl ?_
      refine J.move rfl rfl ?_
      refine J.addN rfl rfl (by omega) (by omega) rfl ?_
      refine J.name 154 rfl (show _ = .int .i64 (((s + r) : Nat) : Int) from congrArg (Value.int .i64) (by omega)) ?_
      refine J.convInt Ty.u3 Ty.u31 rfl rfl ?_
      refine J.name 155 rfl (show _ = Value.int .u64 (((s + r) : Nat) : Int) from congrArg (Value.int .u64) (wrap_u64 (by omega) (by omega))) ?_
      refine J.shrN rfl rfl (by omega) rfl ?_
      refine J.name 156 rfl (show _ = Value.int .u64 ((cx : Nat) : Int) from congrArg (Value.int .u64) ((half_val (s + r)).trans (congrArg (fun k : Nat => ((k : Nat) : Int)) hcx))) ?_
      refine J.convInt Ty.u31 Ty.u3 rfl rfl ?_
      refine J.name 157 rfl (show _ = .int .i64 ((cx : Nat) : Int) from congrArg (Value.int .i64) (wrap_i64 (by omega) (by omega))) ?_
      refine J.assign rfl rfl ?_
      refine J.nil ?_
      refine JX.thenN (hK12 _ _ ?_)
      refine JC.seq (fun K13 hK13 => ?_)
      apply JC.drawX (α := Nat × Unit) 14 (fun x => match x with | ⟨xu, uu⟩ => [.func (.func 55) #[] #[], .slice (some ⟨q, 0, none⟩) n c, .int .i64 (((mid + P.length + L.length - 1) : Nat) : Int), .int .i64 ((cx : Nat) : Int), .int .i64 (((mid + P.length + L.length - 1 - cx) : Nat) : Int), .pointer (some ⟨q, 0 + (((mid + P.length + L.length - 1 - cx) : Nat) : Int).toNat * 35, none⟩), .agg (cC ye).toArray, .slice (some ⟨q, 0, none⟩) n c, .int .i64 ((cx : Nat) : Int), .pointer (some ⟨q, 0 + ((cx : Nat) : Int).toNat * 35, none⟩), .agg (cC xe).toArray, .int .i64 (ordC ye xe), .bool (decide (ltC ye xe)), .bool (!decide (ltC ye xe))]) (fun m x => match x with | ⟨xu, uu⟩ => fun w1 => (True) ∧ St w [q] ((q, cb (fC (P ++ (L ++ (R ++ T))) ++ sp) 75) :: []) w1) Ty.mixed rfl rfl rfl (by kernel_rfl) rfl rfl ?hinit ?hstep ?htail
      case hinit => exact fun w1 hw => ⟨(0, ()), trivial, hw.drew⟩
      case hstep =>
        refine ⟨fun m x hm hp => ?_, fun m x hm hp => ?_, fun m x hm hp => ?_, fun m x hm hp => ?_, fun m x hm hp => ?_, fun m x hm hp => ?_, fun m x hm hp => ?_, fun m x hm hp => ?_, fun m x hm hp => ?_, fun m x hm hp => ?_, fun m x hm hp => ?_, fun m x hm hp => ?_, fun m x hm hp => ?_, fun m x hm hp => ?_, trivial⟩
        · skip
          obtain ⟨xu, uu⟩ := x
          show J _ _ _ _ _ (_) _
          refine J.pr (fun hF => ?_)
          refine J.move rfl rfl ?_
          exact J.finX rfl (fun _ hw => ⟨⟨xu, uu⟩, rfl, fun _ _ _ => rfl, hF, hw⟩)
        · skip
          obtain ⟨xu, uu⟩ := x
          show J _ _ _ _ _ (_) _
          refine J.pr (fun hF => ?_)
          refine J.move rfl rfl ?_
          exact J.finX rfl (fun _ hw => ⟨⟨xu, uu⟩, rfl, fun _ _ _ => rfl, hF, hw⟩)
        · skip
          obtain ⟨xu, uu⟩ := x
          show J _ _ _ _ _ (_) _
          refine J.pr (fun hF => ?_)
          refine J.move rfl rfl ?_
          exact J.finX rfl (fun _ hw => ⟨⟨xu, uu⟩, rfl, fun _ _ _ => rfl, hF, hw⟩)
        · skip
          obtain ⟨xu, uu⟩ := x
          show J _ _ _ _ _ (_) _
          refine J.pr (fun hF => ?_)
          refine J.move rfl rfl ?_
          exact J.finX rfl (fun _ hw => ⟨⟨xu, uu⟩, rfl, fun _ _ _ => rfl, hF, hw⟩)
        · skip
          obtain ⟨xu, uu⟩ := x
          show J _ _ _ _ _ ((161, .int .i64 ((cx : Nat) : Int)) :: (160, .int .i64 (((mid + P.length + L.length - 1) : Nat) : Int)) :: _) _
          refine J.pr (fun hF => ?_)
          refine J.subN rfl rfl (by omega) (by omega) rfl ?_
          refine J.name 162 rfl (show _ = Value.int .i64 (((mid + P.length + L.length - 1 - cx) : Nat) : Int) from congrArg (Value.int .i64) (by omega)) ?_
          exact J.finX rfl (fun _ hw => ⟨⟨xu, uu⟩, rfl, fun _ _ _ => rfl, hF, hw⟩)
        · skip
          obtain ⟨xu, uu⟩ := x
          show J _ _ _ _ _ ((162, .int .i64 (((mid + P.length + L.length - 1 - cx) : Nat) : Int)) :: (159, .slice (some ⟨q, 0, none⟩) n c) :: _) _
          refine J.pr (fun hF => ?_)
          refine J.indexAddrS Ty.el68 Ty.s75 rfl rfl (by omega) (by omega) rfl ?_
          exact J.finX rfl (fun _ hw => ⟨⟨xu, uu⟩, rfl, fun _ _ _ => rfl, hF, hw⟩)
        · skip
          obtain ⟨xu, uu⟩ := x
          show J _ _ _ _ _ ((163, .pointer (some ⟨q, 0 + (((mid + P.length + L.length - 1 - cx) : Nat) : Int).toNat * 35, none⟩)) :: _) _
          refine J.pr (fun hF => ?_)
          refine J.loadA (vs := cC ye) Ty.a75 Ty.s75 rfl rfl (fun w1 hw => rowG_at (c := cC) (sz := 35) (fun _ => rfl) (rowC_own (xs := P ++ (L ++ (R ++ T))) hw (.head _) hn hnc) gy (by rw [Int.toNat_natCast])) rfl ?_
          exact J.finX rfl (fun _ hw => ⟨⟨xu, uu⟩, rfl, fun _ _ _ => rfl, hF, hw⟩)
        · skip
          obtain ⟨xu, uu⟩ := x
          show J _ _ _ _ _ (_) _
          refine J.pr (fun hF => ?_)
          refine J.move rfl rfl ?_
          exact J.finX rfl (fun _ hw => ⟨⟨xu, uu⟩, rfl, fun _ _ _ => rfl, hF, hw⟩)
        · skip
          obtain ⟨xu, uu⟩ := x
          show J _ _ _ _ _ (_) _
          refine J.pr (fun hF => ?_)
          refine J.move rfl rfl ?_
          exact J.finX rfl (fun _ hw => ⟨⟨xu, uu⟩, rfl, fun _ _ _ => rfl, hF, hw⟩)
        · skip
          obtain ⟨xu, uu⟩ := x
          show J _ _ _ _ _ ((166, .int .i64 ((cx : Nat) : Int)) :: (165, .slice (some ⟨q, 0, none⟩) n c) :: _) _
          refine J.pr (fun hF => ?_)
          refine J.indexAddrS Ty.el68 Ty.s75 rfl rfl (by omega) (by omega) rfl ?_
          exact J.finX rfl (fun _ hw => ⟨⟨xu, uu⟩, rfl, fun _ _ _ => rfl, hF, hw⟩)
        · skip
          obtain ⟨xu, uu⟩ := x
          show J _ _ _ _ _ ((167, .pointer (some ⟨q, 0 + ((cx : Nat) : Int).toNat * 35, none⟩)) :: _) _
          refine J.pr (fun hF => ?_)
          refine J.loadA (vs := cC xe) Ty.a75 Ty.s75 rfl rfl (fun w1 hw => rowG_at (c := cC) (sz := 35) (fun _ => rfl) (rowC_own (xs := P ++ (L ++ (R ++ T))) hw (.head _) hn hnc) gx (by rw [Int.toNat_natCast])) rfl ?_
          exact J.finX rfl (fun _ hw => ⟨⟨xu, uu⟩, rfl, fun _ _ _ => rfl, hF, hw⟩)
        · skip
          obtain ⟨xu, uu⟩ := x
          show J _ _ _ _ _ ((168, .agg (cC xe).toArray) :: (164, .agg (cC ye).toArray) :: (158, .func (.func 55) #[] #[]) :: _) _
          refine J.pr (fun hF => ?_)
          refine J.callVB (v := .int .i64 (ordC ye xe)) (fun w1 w2 hw hb => hw.step hb) Ty.bd55 rfl rfl rfl (fun w1 hw => order_spec ye xe w1) ?_
          exact J.finX rfl (fun _ hw => ⟨⟨xu, uu⟩, rfl, fun _ _ _ => rfl, hF, hw⟩)
        · skip
          obtain ⟨xu, uu⟩ := x
          show J _ _ _ _ _ ((169, .int .i64 (ordC ye xe)) :: _) _
          refine J.pr (fun hF => ?_)
          refine J.bin rfl rfl rfl rfl ?_
          refine J.name 170 rfl (show _ = Value.bool (decide (ltC ye xe)) from rfl) ?_
          exact J.finX rfl (fun _ hw => ⟨⟨xu, uu⟩, rfl, fun _ _ _ => rfl, hF, hw⟩)
        · skip
          obtain ⟨xu, uu⟩ := x
          show J _ _ _ _ _ ((170, .bool (decide (ltC ye xe))) :: _) _
          refine J.pr (fun hF => ?_)
          refine J.not rfl rfl ?_
          exact J.finX rfl (fun _ hw => ⟨⟨xu, uu⟩, rfl, fun _ _ _ => rfl, hF, hw⟩)
      case htail =>
        intro x
        obtain ⟨xu, uu⟩ := x
        show J _ _ _ _ _ ((171, .bool (!decide (ltC ye xe))) :: (170, .bool (decide (ltC ye xe))) :: (169, .int .i64 (ordC ye xe)) :: (168, .agg (cC xe).toArray) :: (167, .pointer (some ⟨q, 0 + ((cx : Nat) : Int).toNat * 35, none⟩)) :: (166, .int .i64 ((cx : Nat) : Int)) :: (165, .slice (some ⟨q, 0, none⟩) n c) :: (164, .agg (cC ye).toArray) :: (163, .pointer (some ⟨q, 0 + (((mid + P.length + L.length - 1 - cx) : Nat) : Int).toNat * 35, none⟩)) :: (162, .int .i64 (((mid + P.length + L.length - 1 - cx) : Nat) : Int)) :: (161, .int .i64 ((cx : Nat) : Int)) :: (160, .int .i64 (((mid + P.length + L.length - 1) : Nat) : Int)) :: (159, .slice (some ⟨q, 0, none⟩) n c) :: (158, .func (.func 55) #[] #[]) :: _) (fun w1 => (True) ∧ St w [q] ((q, cb (fC (P ++ (L ++ (R ++ T))) ++ sp) 75) :: []) w1)
        refine J.pr (fun hF => ?_)
        refine J.nil ?_
        refine JX.thenN (hK13 _ _ ?_)
        refine JC.cond rfl (fun h10 => ?_) (fun h10 => ?_)
        · skip
          have hcmp : ¬ ltC ye xe := by simpa using h10
          refine JC.region ?_
          refine J.move rfl rfl ?_
          refine J.addN rfl rfl (by omega) (by omega) rfl ?_
          refine J.name 173 rfl (show _ = .int .i64 (((cx + 1) : Nat) : Int) from congrArg (Value.int .i64) (by omega)) ?_
          refine J.assign rfl rfl ?_
          refine J.nil ?_
          refine JX.blockN ?_
          refine JX.thenN ?_
          refine JX.again ((cx + 1, r) : Nat × Nat) ?_ ?_ ?_
          · simp only; omega
          · exact ⟨rfl, rfl, rfl, rfl, rfl, rfl, rfl, rfl, rfl, rfl, trivial⟩
          · exact fun w1 hw => ⟨⟨by show _ ≤ _; omega, by show _ ≤ _; omega, hs3, .inr ⟨xe, ye, by show L[cx + 1 - 1 - P.length]? = _; rw [Nat.add_sub_cancel]; exact hxe, by show R[mid - (cx + 1)]? = _; rw [show mid - (cx + 1) = mid - 1 - cx by omega]; exact hye, by show _ ≤ cx + 1 - 1; omega, by show 1 ≤ cx + 1; omega, hcmp⟩, hs5⟩, hw⟩
        · skip
          have hcmp : ltC ye xe := by simpa using h10
          refine JC.region ?_
          refine J.move rfl rfl ?_
          refine J.assign rfl rfl ?_
          refine J.nil ?_
          refine JX.blockN ?_
          refine JX.thenN ?_
          refine JX.again ((s, cx) : Nat × Nat) ?_ ?_ ?_
          · simp only; omega
          · exact ⟨rfl, rfl, rfl, rfl, rfl, rfl, rfl, rfl, rfl, rfl, trivial⟩
          · exact fun w1 hw => ⟨⟨hs1, by show _ ≤ _; omega, by show _ ≤ _; omega, hs4, .inr ⟨xe, ye, hxe, hye, hcmp, hp3⟩⟩, hw⟩
    · skip
      have hr : r = s := by
        have h9 : ¬ (s < r) := by simpa using h9
        omega
      subst hr
      have hcutLE : ∀ u, u ∈ (L.take (r - P.length)) → ∀ v, v ∈ (R.drop (mid - r)) → ¬ ltC v u := by
        rcases hs4 with h | ⟨x, y, h1, h2, h3, h4, h5⟩
        · rcases hends with ⟨e1, e2, e3⟩ | ⟨e1, e2, e3⟩
          · intro u hu v hv
            rw [List.drop_eq_nil_of_le (by omega)] at hv
            cases hv
          · intro u hu
            rw [show r - P.length = 0 by omega] at hu
            cases hu
        · have := cut_le swoC hL hR h1 h2 h5
          rwa [show r - 1 - P.length + 1 = r - P.length by omega] at this
      have hcutLT : ∀ u, u ∈ (L.drop (r - P.length)) → ∀ v, v ∈ (R.take (mid - r)) → ltC v u := by
        rcases hs5 with h | ⟨x, y, h1, h2, h5, h5m⟩
        · rcases hends with ⟨e1, e2, e3⟩ | ⟨e1, e2, e3⟩
          · intro u hu v hv
            rw [show mid - r = 0 by omega] at hv
            cases hv
          · intro u hu
            rw [List.drop_eq_nil_of_le (by omega)] at hu
            cases hu
        · have h6 := cut_lt swoC hL hR h1 h2 h5
          have h7 : 0 < mid - r := by omega
          rwa [show mid - 1 - r + 1 = mid - r by omega] at h6
      have hA1 : (L.take (r - P.length)).length = r - P.length := by rw [List.length_take]; omega
      have hA2 : (L.drop (r - P.length)).length = P.length + L.length - r := by rw [List.length_drop]; omega
      have hB1 : (R.take (mid - r)).length = mid - r := by rw [List.length_take]; omega
      have hB2 : (R.drop (mid - r)).length = R.length - (mid - r) := by rw [List.length_drop]
      have hLe : (L.take (r - P.length)) ++ (L.drop (r - P.length)) = L := List.take_append_drop _ _
      have hRe : (R.take (mid - r)) ++ (R.drop (mid - r)) = R := List.take_append_drop _ _
      have hsL := hL
      have hsR := hR
      rw [← hLe] at hsL
      rw [← hRe] at hsR
      refine JC.exit ?_
      refine JX.thenE ?_
      refine JX.thenE ?_
      refine JX.blockE ?_
      refine JX.thenN (hK9 _ _ ?_)
      refine JC.seq (fun K14 hK14 => ?_)
      refine JC.region ?_
      refine J.move rfl rfl ?_
      refine J.move rfl rfl ?_
      refine J.subN rfl rfl (by omega) (by omega) rfl ?_
      refine J.name 177 rfl (show _ = .int .i64 (((mid + P.length + L.length - r) : Nat) : Int) from congrArg (Value.int .i64) (by omega)) ?_
      refine J.assign rfl rfl ?_
      refine J.nil ?_
      refine JX.thenN (hK14 _ _ ?_)
      refine JC.seqCut (α := Unit) (fun _ => [(0, .slice (some ⟨q, 0, none⟩) n c), (1, .int .i64 ((P.length : Nat) : Int)), (2, .int .i64 (((P.length + L.length) : Nat) : Int)), (3, .int .i64 (((P.length + L.length + R.length) : Nat) : Int)), (4, .func (.func 55) #[] #[]), (18, .int .i64 ((mid : Nat) : Int)), (20, .int .i64 ((r : Nat) : Int)), (24, .int .i64 (((mid + P.length + L.length - r) : Nat) : Int))]) (fun _ w' => St w [q] [(q, cb (fC (P ++ (((L.take (r - P.length)) ++ (R.take (mid - r))) ++ (((L.drop (r - P.length)) ++ (R.drop (mid - r))) ++ T))) ++ sp) 75)] w') (fun _ => ?_) (fun K15 hK15 => ?_)
      · skip
        refine JC.seqCut (α := List CV) (fun _ => [(0, .slice (some ⟨q, 0, none⟩) n c), (1, .int .i64 ((P.length : Nat) : Int)), (2, .int .i64 (((P.length + L.length) : Nat) : Int)), (3, .int .i64 (((P.length + L.length + R.length) : Nat) : Int)), (4, .func (.func 55) #[] #[]), (18, .int .i64 ((mid : Nat) : Int)), (20, .int .i64 ((r : Nat) : Int)), (24, .int .i64 (((mid + P.length + L.length - r) : Nat) : Int))]) (fun ZA w' => (SE ltC ((L.take (r - P.length)) ++ (R.take (mid - r))) ZA ∧ Srt ltC ZA) ∧ St w [q] [(q, cb (fC (P ++ (ZA ++ (((L.drop (r - P.length)) ++ (R.drop (mid - r))) ++ T))) ++ sp) 75)] w') (fun ZA => ?_) (fun K16 hK16 => ?_)
        · skip
          refine JC.pr (fun hA => ?_)
          try simp only at hA ⊢
          refine JC.seq (fun K17 hK17 => ?_)
          have hZAl := hA.1.length swoC
          rw [List.length_append] at hZAl
          by_cases hcA : mid < (mid + P.length + L.length - r)
          · skip
            by_cases hcB : (mid + P.length + L.length - r) < P.length + L.length + R.length
            · skip
              refine JC.region ?_
              refine J.move rfl rfl ?_
              refine J.move rfl rfl ?_
              refine J.bin rfl rfl rfl rfl ?_
              refine J.name 208 rfl (show _ = Value.bool true by simp; omega) ?_
              refine J.move rfl rfl ?_
              first | refine J.skip rfl rfl rfl rfl rfl ?_ | refine J.skipU rfl rfl rfl rfl ?_ | (refine J.unguard rfl rfl rfl ?_; refine J.move rfl rfl ?_)
              first | refine J.skip rfl rfl rfl rfl rfl ?_ | refine J.skipU rfl rfl rfl rfl ?_ | (refine J.unguard rfl rfl rfl ?_; refine J.move rfl rfl ?_)
              refine J.unguard rfl rfl rfl ?_
              refine J.bin rfl rfl rfl rfl ?_
              refine J.name 212 rfl (show _ = Value.bool true by simp; omega) ?_
              (first | refine J.pickT rfl rfl rfl ?_ | refine J.pickF rfl rfl rfl ?_)
              refine J.nil ?_
              refine JX.thenN (hK17 _ _ ?_)
              first | refine JC.condT rfl ?_ | refine JC.cond rfl (fun _ => ?_) (fun h => by first | (exfalso; simp at h; omega) | (simp at h))
              refine JC.region ?_
              refine J.move rfl rfl ?_
              refine J.move rfl rfl ?_
              refine J.move rfl rfl ?_
              refine J.move rfl rfl ?_
              refine J.move rfl rfl ?_
              refine J.callS (α := List CV) (V := fun _ => .tuple #[]) (Pr := fun Z => SE ltC ((L.drop (r - P.length)) ++ (R.drop (mid - r))) Z ∧ Srt ltC Z) (L := fun Z => [(q, cb (fC (P ++ (ZA ++ (Z ++ T))) ++ sp) 75)]) (l1 := [(q, cb (fC (P ++ (ZA ++ (((L.drop (r - P.length)) ++ (R.drop (mid - r))) ++ T))) ++ sp) 75)]) (l := []) Ty.bd82 rfl rfl (fun w1 hw => (IH (P ++ ZA) (L.drop (r - P.length)) (R.drop (mid - r)) T w1 (by have h := hw.owns; simpa only [List.append_assoc] using h) (by simp only [List.length_append] at *; omega) (by omega) (by omega) (Srt.app.1 hsL).2.1 (Srt.app.1 hsR).2.1 (by simp only [List.length_append] at *; omega) _ _ _ (by first | rfl | (simp only [List.length_append] at *; omega)) (by omega) (by omega)).mono fun _ _ ⟨Z, h1, h2, h3⟩ => ⟨Z, h1, h2, by simpa only [List.append_assoc, List.map_cons, List.map_nil] using h3⟩) (fun ZB hB => ?_)
              simp only [List.append_nil]
              refine J.nil ?_
              refine JX.end0 rfl (fun w1 hw => ?_)
              have hfin := merge_step swoC hsL hsR hcutLT hcutLE hA.1 hA.2 hB.1 hB.2
              rw [hLe, hRe] at hfin
              exact ⟨ZA ++ ZB, rfl, hfin, by simpa only [List.append_assoc] using hw⟩
            · skip
              obtain ⟨ZB, hZB⟩ : ∃ Z, (L.drop (r - P.length)) ++ (R.drop (mid - r)) = Z := ⟨_, rfl⟩
              have hB : SE ltC ((L.drop (r - P.length)) ++ (R.drop (mid - r))) ZB ∧ Srt ltC ZB := by
                rw [← hZB]
                refine ⟨SE.refl _, ?_⟩
                rcases Nat.eq_zero_or_pos (L.drop (r - P.length)).length with h | h
                · rw [List.eq_nil_of_length_eq_zero h, List.nil_append]; exact (Srt.app.1 hsR).2.1
                · rw [show (R.drop (mid - r)) = [] from List.eq_nil_of_length_eq_zero (by omega), List.append_nil]; exact (Srt.app.1 hsL).2.1
              refine JC.conseq (I' := St w [q] [(q, cb (fC (P ++ (ZA ++ (ZB ++ T))) ++ sp) 75)]) ?_ (fun w1 hw => by rw [← hZB]; exact hw)
              refine JC.region ?_
              refine J.move rfl rfl ?_
              refine J.move rfl rfl ?_
              refine J.bin rfl rfl rfl rfl ?_
              refine J.name 208 rfl (show _ = Value.bool true by simp; omega) ?_
              refine J.move rfl rfl ?_
              first | refine J.skip rfl rfl rfl rfl rfl ?_ | refine J.skipU rfl rfl rfl rfl ?_ | (refine J.unguard rfl rfl rfl ?_; refine J.move rfl rfl ?_)
              first | refine J.skip rfl rfl rfl rfl rfl ?_ | refine J.skipU rfl rfl rfl rfl ?_ | (refine J.unguard rfl rfl rfl ?_; refine J.move rfl rfl ?_)
              refine J.unguard rfl rfl rfl ?_
              refine J.bin rfl rfl rfl rfl ?_
              refine J.name 212 rfl (show _ = Value.bool false by simp; omega) ?_
              (first | refine J.pickT rfl rfl rfl ?_ | refine J.pickF rfl rfl rfl ?_)
              refine J.nil ?_
              refine JX.thenN (hK17 _ _ ?_)
              first | refine JC.condF rfl ?_ | refine JC.cond rfl (fun h => by first | (exfalso; simp at h; omega) | (simp at h)) (fun _ => ?_)
              refine JC.skip ?_
              refine JX.end0 rfl (fun w1 hw => ?_)
              have hfin := merge_step swoC hsL hsR hcutLT hcutLE hA.1 hA.2 hB.1 hB.2
              rw [hLe, hRe] at hfin
              exact ⟨ZA ++ ZB, rfl, hfin, by simpa only [List.append_assoc] using hw⟩
          · skip
            obtain ⟨ZB, hZB⟩ : ∃ Z, (L.drop (r - P.length)) ++ (R.drop (mid - r)) = Z := ⟨_, rfl⟩
            have hB : SE ltC ((L.drop (r - P.length)) ++ (R.drop (mid - r))) ZB ∧ Srt ltC ZB := by
              rw [← hZB]
              refine ⟨SE.refl _, ?_⟩
              rcases Nat.eq_zero_or_pos (L.drop (r - P.length)).length with h | h
              · rw [List.eq_nil_of_length_eq_zero h, List.nil_append]; exact (Srt.app.1 hsR).2.1
              · rw [show (R.drop (mid - r)) = [] from List.eq_nil_of_length_eq_zero (by omega), List.append_nil]; exact (Srt.app.1 hsL).2.1
            refine JC.conseq (I' := St w [q] [(q, cb (fC (P ++ (ZA ++ (ZB ++ T))) ++ sp) 75)]) ?_ (fun w1 hw => by rw [← hZB]; exact hw)
            refine JC.region ?_
            refine J.move rfl rfl ?_
            refine J.move rfl rfl ?_
            refine J.bin rfl rfl rfl rfl ?_
            refine J.name 208 rfl (show _ = Value.bool false by simp; omega) ?_
            refine J.move rfl rfl ?_
            first | refine J.skip rfl rfl rfl rfl rfl ?_ | refine J.skipU rfl rfl rfl rfl ?_ | (refine J.unguard rfl rfl rfl ?_; refine J.move rfl rfl ?_)
            first | refine J.skip rfl rfl rfl rfl rfl ?_ | refine J.skipU rfl rfl rfl rfl ?_ | (refine J.unguard rfl rfl rfl ?_; refine J.move rfl rfl ?_)
            refine J.skip rfl rfl rfl rfl rfl ?_
            (first | refine J.pickT rfl rfl rfl ?_ | refine J.pickF rfl rfl rfl ?_)
            refine J.nil ?_
            refine JX.thenN (hK17 _ _ ?_)
            first | refine JC.condF rfl ?_ | refine JC.cond rfl (fun h => by first | (exfalso; simp at h; omega) | (simp at h)) (fun _ => ?_)
            refine JC.skip ?_
            refine JX.end0 rfl (fun w1 hw => ?_)
            have hfin := merge_step swoC hsL hsR hcutLT hcutLE hA.1 hA.2 hB.1 hB.2
            rw [hLe, hRe] at hfin
            exact ⟨ZA ++ ZB, rfl, hfin, by simpa only [List.append_assoc] using hw⟩
        · skip
          refine JC.seq (fun K18 hK18 => ?_)
          by_cases hcA : P.length < r
          · skip
            by_cases hcB : r < mid
            · skip
              refine JC.region ?_
              refine J.move rfl rfl ?_
              refine J.move rfl rfl ?_
              refine J.bin rfl rfl rfl rfl ?_
              refine J.name 194 rfl (show _ = Value.bool true by simp; omega) ?_
              refine J.move rfl rfl ?_
              first | refine J.skip rfl rfl rfl rfl rfl ?_ | refine J.skipU rfl rfl rfl rfl ?_ | (refine J.unguard rfl rfl rfl ?_; refine J.move rfl rfl ?_)
              first | refine J.skip rfl rfl rfl rfl rfl ?_ | refine J.skipU rfl rfl rfl rfl ?_ | (refine J.unguard rfl rfl rfl ?_; refine J.move rfl rfl ?_)
              refine J.unguard rfl rfl rfl ?_
              refine J.bin rfl rfl rfl rfl ?_
              refine J.name 198 rfl (show _ = Value.bool true by simp; omega) ?_
              (first | refine J.pickT rfl rfl rfl ?_ | refine J.pickF rfl rfl rfl ?_)
              refine J.nil ?_
              refine JX.thenN (hK18 _ _ ?_)
              first | refine JC.condT rfl ?_ | refine JC.cond rfl (fun _ => ?_) (fun h => by first | (exfalso; simp at h; omega) | (simp at h))
              refine JC.region ?_
              refine J.move rfl rfl ?_
              refine J.move rfl rfl ?_
              refine J.move rfl rfl ?_
              refine J.move rfl rfl ?_
              refine J.move rfl rfl ?_
              refine J.callS (α := List CV) (V := fun _ => .tuple #[]) (Pr := fun Z => SE ltC ((L.take (r - P.length)) ++ (R.take (mid - r))) Z ∧ Srt ltC Z) (L := fun Z => [(q, cb (fC (P ++ (Z ++ (((L.drop (r - P.length)) ++ (R.drop (mid - r))) ++ T))) ++ sp) 75)]) (l1 := [(q, cb (fC (P ++ (((L.take (r - P.length)) ++ (R.take (mid - r))) ++ (((L.drop (r - P.length)) ++ (R.drop (mid - r))) ++ T))) ++ sp) 75)]) (l := []) Ty.bd82 rfl rfl (fun w1 hw => (IH P (L.take (r - P.length)) (R.take (mid - r)) (((L.drop (r - P.length)) ++ (R.drop (mid - r))) ++ T) w1 (by have h := hw.owns; simpa only [List.append_assoc] using h) (by simp only [List.length_append] at *; omega) (by omega) (by omega) (Srt.app.1 hsL).1 (Srt.app.1 hsR).1 (by simp only [List.length_append] at *; omega) _ _ _ (by first | rfl | (simp only [List.length_append] at *; omega)) (by omega) (by omega)).mono fun _ _ ⟨Z, h1, h2, h3⟩ => ⟨Z, h1, h2, by simpa only [List.append_assoc, List.map_cons, List.map_nil] using h3⟩) (fun ZA hA => ?_)
              simp only [List.append_nil]
              refine J.nil ?_
              refine JX.thenN ?_
              exact JX.cut (hK16 ZA) ⟨rfl, rfl, rfl, rfl, rfl, rfl, rfl, rfl, trivial⟩ (fun w1 hw => ⟨hA, hw⟩)
            · skip
              obtain ⟨ZA, hZA⟩ : ∃ Z, (L.take (r - P.length)) ++ (R.take (mid - r)) = Z := ⟨_, rfl⟩
              have hA : SE ltC ((L.take (r - P.length)) ++ (R.take (mid - r))) ZA ∧ Srt ltC ZA := by
                rw [← hZA]
                refine ⟨SE.refl _, ?_⟩
                rcases Nat.eq_zero_or_pos (L.take (r - P.length)).length with h | h
                · rw [List.eq_nil_of_length_eq_zero h, List.nil_append]; exact (Srt.app.1 hsR).1
                · rw [show (R.take (mid - r)) = [] from List.eq_nil_of_length_eq_zero (by omega), List.append_nil]; exact (Srt.app.1 hsL).1
              refine JC.conseq (I' := St w [q] [(q, cb (fC (P ++ (ZA ++ (((L.drop (r - P.length)) ++ (R.drop (mid - r))) ++ T))) ++ sp) 75)]) ?_ (fun w1 hw => by rw [← hZA]; exact hw)
              refine JC.region ?_
              refine J.move rfl rfl ?_
              refine J.move rfl rfl ?_
              refine J.bin rfl rfl rfl rfl ?_
              refine J.name 194 rfl (show _ = Value.bool true by simp; omega) ?_
              refine J.move rfl rfl ?_
              first | refine J.skip rfl rfl rfl rfl rfl ?_ | refine J.skipU rfl rfl rfl rfl ?_ | (refine J.unguard rfl rfl rfl ?_; refine J.move rfl rfl ?_)
              first | refine J.skip rfl rfl rfl rfl rfl ?_ | refine J.skipU rfl rfl rfl rfl ?_ | (refine J.unguard rfl rfl rfl ?_; refine J.move rfl rfl ?_)
              refine J.unguard rfl rfl rfl ?_
              refine J.bin rfl rfl rfl rfl ?_
              refine J.name 198 rfl (show _ = Value.bool false by simp; omega) ?_
              (first | refine J.pickT rfl rfl rfl ?_ | refine J.pickF rfl rfl rfl ?_)
              refine J.nil ?_
              refine JX.thenN (hK18 _ _ ?_)
              first | refine JC.condF rfl ?_ | refine JC.cond rfl (fun h => by first | (exfalso; simp at h; omega) | (simp at h)) (fun _ => ?_)
              refine JC.skip ?_
              refine JX.thenN ?_
              exact JX.cut (hK16 ZA) ⟨rfl, rfl, rfl, rfl, rfl, rfl, rfl, rfl, trivial⟩ (fun w1 hw => ⟨hA, hw⟩)
          · skip
            obtain ⟨ZA, hZA⟩ : ∃ Z, (L.take (r - P.length)) ++ (R.take (mid - r)) = Z := ⟨_, rfl⟩
            have hA : SE ltC ((L.take (r - P.length)) ++ (R.take (mid - r))) ZA ∧ Srt ltC ZA := by
              rw [← hZA]
              refine ⟨SE.refl _, ?_⟩
              rcases Nat.eq_zero_or_pos (L.take (r - P.length)).length with h | h
              · rw [List.eq_nil_of_length_eq_zero h, List.nil_append]; exact (Srt.app.1 hsR).1
              · rw [show (R.take (mid - r)) = [] from List.eq_nil_of_length_eq_zero (by omega), List.append_nil]; exact (Srt.app.1 hsL).1
            refine JC.conseq (I' := St w [q] [(q, cb (fC (P ++ (ZA ++ (((L.drop (r - P.length)) ++ (R.drop (mid - r))) ++ T))) ++ sp) 75)]) ?_ (fun w1 hw => by rw [← hZA]; exact hw)
            refine JC.region ?_
            refine J.move rfl rfl ?_
            refine J.move rfl rfl ?_
            refine J.bin rfl rfl rfl rfl ?_
            refine J.name 194 rfl (show _ = Value.bool false by simp; omega) ?_
            refine J.move rfl rfl ?_
            first | refine J.skip rfl rfl rfl rfl rfl ?_ | refine J.skipU rfl rfl rfl rfl ?_ | (refine J.unguard rfl rfl rfl ?_; refine J.move rfl rfl ?_)
            first | refine J.skip rfl rfl rfl rfl rfl ?_ | refine J.skipU rfl rfl rfl rfl ?_ | (refine J.unguard rfl rfl rfl ?_; refine J.move rfl rfl ?_)
            refine J.skip rfl rfl rfl rfl rfl ?_
            (first | refine J.pickT rfl rfl rfl ?_ | refine J.pickF rfl rfl rfl ?_)
            refine J.nil ?_
            refine JX.thenN (hK18 _ _ ?_)
            first | refine JC.condF rfl ?_ | refine JC.cond rfl (fun h => by first | (exfalso; simp at h; omega) | (simp at h)) (fun _ => ?_)
            refine JC.skip ?_
            refine JX.thenN ?_
            exact JX.cut (hK16 ZA) ⟨rfl, rfl, rfl, rfl, rfl, rfl, rfl, rfl, trivial⟩ (fun w1 hw => ⟨hA, hw⟩)
      · skip
        refine JC.seq (fun K19 hK19 => ?_)
        by_cases hcA : r < P.length + L.length
        · skip
          by_cases hcB : P.length + L.length < (mid + P.length + L.length - r)
          · skip
            refine JC.conseq (I' := St w [q] [(q, cb (fC (P ++ (((L.take (r - P.length)) ++ (L.drop (r - P.length))) ++ (((R.take (mid - r)) ++ (R.drop (mid - r))) ++ T))) ++ sp) 75)]) ?_ (fun w1 hw => by rw [← hLe, ← hRe] at hw; simpa only [List.append_assoc] using hw)
            refine JC.region ?_
            refine J.move rfl rfl ?_
            refine J.move rfl rfl ?_
            refine J.bin rfl rfl rfl rfl ?_
            refine J.name 180 rfl (show _ = Value.bool true by simp; omega) ?_
            refine J.move rfl rfl ?_
            first | refine J.skip rfl rfl rfl rfl rfl ?_ | refine J.skipU rfl rfl rfl rfl ?_ | (refine J.unguard rfl rfl rfl ?_; refine J.move rfl rfl ?_)
            first | refine J.skip rfl rfl rfl rfl rfl ?_ | refine J.skipU rfl rfl rfl rfl ?_ | (refine J.unguard rfl rfl rfl ?_; refine J.move rfl rfl ?_)
            refine J.unguard rfl rfl rfl ?_
            refine J.bin rfl rfl rfl rfl ?_
            refine J.name 184 rfl (show _ = Value.bool true by simp; omega) ?_
            (first | refine J.pickT rfl rfl rfl ?_ | refine J.pickF rfl rfl rfl ?_)
            refine J.nil ?_
            refine JX.thenN (hK19 _ _ ?_)
            first | refine JC.condT rfl ?_ | refine JC.cond rfl (fun _ => ?_) (fun h => by first | (exfalso; simp at h; omega) | (simp at h))
            refine JC.region ?_
            refine J.move rfl rfl ?_
            refine J.move rfl rfl ?_
            refine J.move rfl rfl ?_
            refine J.move rfl rfl ?_
            refine J.move rfl rfl ?_
            refine J.callS (α := Unit) (V := fun _ => .tuple #[]) (Pr := fun _ => True) (L := fun _ => [(q, cb (fC (P ++ (((L.take (r - P.length)) ++ (R.take (mid - r))) ++ (((L.drop (r - P.length)) ++ (R.drop (mid - r))) ++ T))) ++ sp) 75)]) (l1 := [(q, cb (fC (P ++ (((L.take (r - P.length)) ++ (L.drop (r - P.length))) ++ (((R.take (mid - r)) ++ (R.drop (mid - r))) ++ T))) ++ sp) 75)]) (l := []) Ty.bd95 rfl rfl (fun w1 hw => (rotateAt_spec q n c (P ++ (L.take (r - P.length))) (L.drop (r - P.length)) (R.take (mid - r)) ((R.drop (mid - r)) ++ T) sp w1 (by have h := hw.owns; simpa only [List.append_assoc] using h) (by omega) (by omega) (by simp only [List.length_append]; omega) hnc hnb _ _ _ (by simp only [List.length_append]; omega) (by omega) (by omega)).mono fun _ _ ⟨h1, h2⟩ => ⟨(), h1, trivial, by simpa only [List.append_assoc, List.map_cons, List.map_nil] using h2⟩) (fun _ _ => ?_)
            simp only [List.append_nil]
            refine J.nil ?_
            refine JX.thenN ?_
            exact JX.cut (hK15 ()) ⟨rfl, rfl, rfl, rfl, rfl, rfl, rfl, rfl, trivial⟩ (fun w1 hw => hw)
          · skip
            have hno : (L.drop (r - P.length)) = [] ∨ (R.take (mid - r)) = [] := by
              rcases Nat.eq_zero_or_pos (L.drop (r - P.length)).length with h | h
              · exact .inl (List.eq_nil_of_length_eq_zero h)
              · exact .inr (List.eq_nil_of_length_eq_zero (by omega))
            refine JC.conseq (I' := St w [q] [(q, cb (fC (P ++ (((L.take (r - P.length)) ++ (R.take (mid - r))) ++ (((L.drop (r - P.length)) ++ (R.drop (mid - r))) ++ T))) ++ sp) 75)]) ?_ (fun w1 hw => by rw [← hLe, ← hRe] at hw; rcases hno with h | h <;> rw [h] at hw ⊢ <;> simpa only [List.append_assoc, List.nil_append, List.append_nil] using hw)
            refine JC.region ?_
            refine J.move rfl rfl ?_
            refine J.move rfl rfl ?_
            refine J.bin rfl rfl rfl rfl ?_
            refine J.name 180 rfl (show _ = Value.bool true by simp; omega) ?_
            refine J.move rfl rfl ?_
            first | refine J.skip rfl rfl rfl rfl rfl ?_ | refine J.skipU rfl rfl rfl rfl ?_ | (refine J.unguard rfl rfl rfl ?_; refine J.move rfl rfl ?_)
            first | refine J.skip rfl rfl rfl rfl rfl ?_ | refine J.skipU rfl rfl rfl rfl ?_ | (refine J.unguard rfl rfl rfl ?_; refine J.move rfl rfl ?_)
            refine J.unguard rfl rfl rfl ?_
            refine J.bin rfl rfl rfl rfl ?_
            refine J.name 184 rfl (show _ = Value.bool false by simp; omega) ?_
            (first | refine J.pickT rfl rfl rfl ?_ | refine J.pickF rfl rfl rfl ?_)
            refine J.nil ?_
            refine JX.thenN (hK19 _ _ ?_)
            first | refine JC.condF rfl ?_ | refine JC.cond rfl (fun h => by first | (exfalso; simp at h; omega) | (simp at h)) (fun _ => ?_)
            refine JC.skip ?_
            refine JX.thenN ?_
            exact JX.cut (hK15 ()) ⟨rfl, rfl, rfl, rfl, rfl, rfl, rfl, rfl, trivial⟩ (fun w1 hw => hw)
        · skip
          have hno : (L.drop (r - P.length)) = [] ∨ (R.take (mid - r)) = [] := by
            rcases Nat.eq_zero_or_pos (L.drop (r - P.length)).length with h | h
            · exact .inl (List.eq_nil_of_length_eq_zero h)
            · exact .inr (List.eq_nil_of_length_eq_zero (by omega))
          refine JC.conseq (I' := St w [q] [(q, cb (fC (P ++ (((L.take (r - P.length)) ++ (R.take (mid - r))) ++ (((L.drop (r - P.length)) ++ (R.drop (mid - r))) ++ T))) ++ sp) 75)]) ?_ (fun w1 hw => by rw [← hLe, ← hRe] at hw; rcases hno with h | h <;> rw [h] at hw ⊢ <;> simpa only [List.append_assoc, List.nil_append, List.append_nil] using hw)
          refine JC.region ?_
          refine J.move rfl rfl ?_
          refine J.move rfl rfl ?_
          refine J.bin rfl rfl rfl rfl ?_
          refine J.name 180 rfl (show _ = Value.bool false by simp; omega) ?_
          refine J.move rfl rfl ?_
          first | refine J.skip rfl rfl rfl rfl rfl ?_ | refine J.skipU rfl rfl rfl rfl ?_ | (refine J.unguard rfl rfl rfl ?_; refine J.move rfl rfl ?_)
          first | refine J.skip rfl rfl rfl rfl rfl ?_ | refine J.skipU rfl rfl rfl rfl ?_ | (refine J.unguard rfl rfl rfl ?_; refine J.move rfl rfl ?_)
          refine J.skip rfl rfl rfl rfl rfl ?_
          (first | refine J.pickT rfl rfl rfl ?_ | refine J.pickF rfl rfl rfl ?_)
          refine J.nil ?_
          refine JX.thenN (hK19 _ _ ?_)
          first | refine JC.condF rfl ?_ | refine JC.cond rfl (fun h => by first | (exfalso; simp at h; omega) | (simp at h)) (fun _ => ?_)
          refine JC.skip ?_
          refine JX.thenN ?_
          exact JX.cut (hK15 ()) ⟨rfl, rfl, rfl, rfl, rfl, rfl, rfl, rfl, trivial⟩ (fun w1 hw => hw)
  · skip
    refine JC.seq (fun K20 hK20 => ?_)
    by_cases hbig : mid < P.length + L.length
    · skip
      obtain ⟨lo, hlo⟩ : ∃ x, (mid + P.length + L.length - (P.length + L.length + R.length)) = x := ⟨_, rfl⟩
      obtain ⟨hi, hhi⟩ : ∃ x, mid = x := ⟨_, rfl⟩
      have hlohi : lo ≤ hi := by omega
      have hends : (P.length + L.length ≤ mid ∨ P.length + L.length > mid) → ((R.length ≤ mid - lo ∧ hi = mid ∧ lo + R.length = mid) ∨ (lo = P.length ∧ hi = P.length + L.length ∧ P.length + L.length ≤ mid)) := by intro _; omega
      replace hends := hends (by omega)
      have hlo1 : P.length ≤ lo := by omega
      have hhi1 : hi ≤ P.length + L.length := by omega
      have hpc : ∀ c, lo ≤ c → c < hi → P.length + L.length ≤ mid + P.length + L.length - 1 - c ∧ mid + P.length + L.length - 1 - c < P.length + L.length + R.length ∧ c < mid := by intro c _ _; omega
      refine JC.region ?_
      refine J.move rfl rfl ?_
      refine J.move rfl rfl ?_
      refine J.bin rfl rfl rfl rfl ?_
      refine J.name 140 rfl (show _ = Value.bool true by simp; omega) ?_
      refine J.nil ?_
      refine JX.thenN (hK20 _ _ ?_)
      first | refine JC.condT rfl ?_ | refine JC.cond rfl (fun _ => ?_) (fun h => by first | (exfalso; simp at h; omega) | (simp at h))
      refine JC.seq (fun K21 hK21 => ?_)
      refine JC.region ?_
      refine J.move rfl rfl ?_
      refine J.move rfl rfl ?_
      refine J.subN rfl rfl (by omega) (by omega) rfl ?_
      refine J.name 143 rfl (show _ = .int .i64 ((lo : Nat) : Int) from congrArg (Value.int .i64) (by omega)) ?_
      refine J.assign rfl rfl ?_
      refine J.nil ?_
      refine JX.thenN (hK21 _ _ ?_)
      refine JC.region ?_
      refine J.move rfl rfl ?_
      refine J.name 144 rfl (show _ = .int .i64 ((hi : Nat) : Int) from congrArg (Value.int .i64) (by omega)) ?_
      refine J.assign rfl rfl ?_
      refine J.nil ?_
      refine JX.thenN ?_
      exact JX.cut (hK7 ((lo, hi) : Nat × Nat)) ⟨rfl, rfl, rfl, rfl, rfl, rfl, rfl, rfl, rfl, trivial⟩ (fun w1 hw => ⟨⟨hlo1, hlohi, hhi1, hends, hpc⟩, hw⟩)
    · skip
      obtain ⟨lo, hlo⟩ : ∃ x, P.length = x := ⟨_, rfl⟩
      obtain ⟨hi, hhi⟩ : ∃ x, (P.length + L.length) = x := ⟨_, rfl⟩
      have hlohi : lo ≤ hi := by omega
      have hends : (P.length + L.length ≤ mid ∨ P.length + L.length > mid) → ((R.length ≤ mid - lo ∧ hi = mid ∧ lo + R.length = mid) ∨ (lo = P.length ∧ hi = P.length + L.length ∧ P.length + L.length ≤ mid)) := by intro _; omega
      replace hends := hends (by omega)
      have hlo1 : P.length ≤ lo := by omega
      have hhi1 : hi ≤ P.length + L.length := by omega
      have hpc : ∀ c, lo ≤ c → c < hi → P.length + L.length ≤ mid + P.length + L.length - 1 - c ∧ mid + P.length + L.length - 1 - c < P.length + L.length + R.length ∧ c < mid := by intro c _ _; omega
      refine JC.region ?_
      refine J.move rfl rfl ?_
      refine J.move rfl rfl ?_
      refine J.bin rfl rfl rfl rfl ?_
      refine J.name 140 rfl (show _ = Value.bool false by simp; omega) ?_
      refine J.nil ?_
      refine JX.thenN (hK20 _ _ ?_)
      first | refine JC.condF rfl ?_ | refine JC.cond rfl (fun h => by first | (exfalso; simp at h; omega) | (simp at h)) (fun _ => ?_)
      refine JC.seq (fun K22 hK22 => ?_)
      refine JC.region ?_
      refine J.move rfl rfl ?_
      refine J.name 145 rfl (show _ = .int .i64 ((lo : Nat) : Int) from congrArg (Value.int .i64) (by omega)) ?_
      refine J.assign rfl rfl ?_
      refine J.nil ?_
      refine JX.thenN (hK22 _ _ ?_)
      refine JC.region ?_
      refine J.move rfl rfl ?_
      refine J.name 146 rfl (show _ = .int .i64 ((hi : Nat) : Int) from congrArg (Value.int .i64) (by omega)) ?_
      refine J.assign rfl rfl ?_
      refine J.nil ?_
      refine JX.thenN ?_
      exact JX.cut (hK7 ((lo, hi) : Nat × Nat)) ⟨rfl, rfl, rfl, rfl, rfl, rfl, rfl, rfl, rfl, trivial⟩ (fun w1 hw => ⟨⟨hlo1, hlohi, hhi1, hends, hpc⟩, hw⟩)

theorem symMerge_spec (q n c : Nat) (sp : List Value) (hnc : n ≤ c) (hnb : n ≤ 1099511627776) : ∀ (k : Nat) (P L R T : List CV) (w : World), L.length + R.length ≤ k → Own w [(q, cb (fC (P ++ (L ++ (R ++ T))) ++ sp) 75)] → (P ++ (L ++ (R ++ T))).length = n → 0 < L.length → 0 < R.length → Srt ltC L → Srt ltC R → ∀ a m b : Nat, P.length = a → a + L.length = m → m + R.length = b →
    Calls Try.prog 82 [.slice (some ⟨q, 0, none⟩) n c, .int .i64 ((a : Nat) : Int), .int .i64 ((m : Nat) : Int), .int .i64 ((b : Nat) : Int), .func (.func 55) #[] #[]].toArray w fun r w' => ∃ Z : List CV, r = .returned (.tuple #[]) ∧ (SE ltC (L ++ R) Z ∧ Srt ltC Z) ∧ St w [q] [(q, cb (fC (P ++ (Z ++ T)) ++ sp) 75)] w' := by
  intro k
  induction k with
  | zero => intro P L R T w h _ _ hL0; omega
  | succ k ih =>
    intro P L R T w h hw hn hL0 hR0 hL hR a m b ha hm hb
    subst ha
    subst hm
    subst hb
    have IH := (fun (P1 L1 R1 T1 : List CV) (w1 : World) (hw1 : Own w1 [(q, cb (fC (P1 ++ (L1 ++ (R1 ++ T1))) ++ sp) 75)]) (hn1 : (P1 ++ (L1 ++ (R1 ++ T1))).length = n) (hL1 : 0 < L1.length) (hR1 : 0 < R1.length) (sL : Srt ltC L1) (sR : Srt ltC R1) (hlt : L1.length + R1.length < L.length + R.length) => ih P1 L1 R1 T1 w1 (by omega) hw1 hn1 hL1 hR1 sL sR)
    rcases Nat.lt_or_ge L.length 2 with h1 | h1
    · exact symMerge_left q n c sp hnc hnb P L R T w hw hn hL0 hR0 hL hR (by omega) IH
    rcases Nat.lt_or_ge R.length 2 with h2 | h2
    · exact symMerge_right q n c sp hnc hnb P L R T w hw hn hL0 hR0 hL hR h1 (by omega) IH
    exact symMerge_main q n c sp hnc hnb P L R T w hw hn hL0 hR0 hL hR h1 h2 IH
end Go.Proofs.Ytbafhclandendaa
/-
  Stable sorting of up to 40 candidates: contracts.
-/
namespace Go.Proofs.Ytbafhclandendaa
open Go.J Go.RowKit
set_option linter.unusedVariables false
set_option linter.unusedSimpArgs false
set_option maxRecDepth 8000
/-- blocks of 20, of which the first a candidates are sorted -/
structure StS where
  a : Nat
  D : List CV
structure StI (xs : List CV) (s : StS) : Prop where
  a : s.a = 0 ∨ s.a = 20 ∨ s.a = 40
  le : s.a ≤ xs.length
  len : s.D.length = s.a
  se : SE ltC (xs.take s.a) s.D
  s1 : Srt ltC (s.D.take 20)
  s2 : Srt ltC (s.D.drop 20)
theorem StI.start (xs : List CV) : StI xs ⟨0, []⟩ := ⟨.inl rfl, Nat.zero_le _, rfl, SE.refl _, .nil, .nil⟩
/-- one block more -/
theorem StI.more {xs S : List CV} {a b : Nat} {D : List CV} (h : StI xs ⟨a, D⟩) (hb : a ≤ b) (hbl : b ≤ xs.length) (hS : SE ltC ((xs.take b).drop a) S) (sS : Srt ltC S) (h20 : a = 0 → b ≤ 20) (h40 : a = 40 → b = 40) :
    SE ltC (xs.take b) (D ++ S) ∧ Srt ltC ((D ++ S).take 20) ∧ Srt ltC ((D ++ S).drop 20) ∧ (D ++ S).length = b := by
  obtain ⟨h1, h2, h3, h4, h5, h6⟩ := h
  simp only at h1 h2 h3 h4 h5 h6
  have hl := hS.length swoC
  rw [List.length_drop, List.length_take] at hl
  have e : xs.take b = xs.take a ++ (xs.take b).drop a := by
    have := (List.take_append_drop a (xs.take b)).symm
    rwa [List.take_take, Nat.min_eq_left hb] at this
  refine ⟨by rw [e]; exact h4.app hS, ?_, ?_, by rw [List.length_append]; omega⟩
  · rcases h1 with h | h | h
    · have : D = [] := List.eq_nil_of_length_eq_zero (by omega)
      rw [this, List.nil_append, List.take_of_length_le (by omega)]; exact sS
    · rw [List.take_append_of_le_length (by omega)]; exact h5
    · have : S = [] := List.eq_nil_of_length_eq_zero (by omega)
      rw [this, List.append_nil]; exact h5
  · rcases h1 with h | h | h
    · have : D = [] := List.eq_nil_of_length_eq_zero (by omega)
      rw [this, List.nil_append, List.drop_eq_nil_of_le (by omega)]; exact .nil
    · rw [List.drop_append_of_le_length (by omega), List.drop_eq_nil_of_le (by omega), List.nil_append]; exact sS
    · have : S = [] := List.eq_nil_of_length_eq_zero (by omega)
      rw [this, List.append_nil]; exact h6

theorem insertion0_spec (v : Value) (w : World) :
    Calls Try.prog 81 [v, .int .i64 ((0 : Nat) : Int), .int .i64 ((0 : Nat) : Int), .func (.func 55) #[] #[]].toArray w fun r w' => r = .returned (.tuple #[]) ∧ Bel w w' := by
  refine calls_of_J (args := [v, .int .i64 ((0 : Nat) : Int), .int .i64 ((0 : Nat) : Int), .func (.func 55) #[] #[]]) (e := [(0, v), (1, .int .i64 ((0 : Nat) : Int)), (2, .int .i64 ((0 : Nat) : Int)), (3, .func (.func 55) #[] #[])]) Try.func81 rfl rfl ⟨rfl, rfl, rfl, rfl, trivial⟩ (St.start w) ?_
  refine JC.seq (fun K0 hK0 => ?_)
  refine JC.region ?_
  refine J.move rfl rfl ?_
  refine J.addN rfl rfl (by omega) (by omega) rfl ?_
  refine J.name 11 rfl (show _ = Value.int .i64 ((1 : Nat) : Int) from congrArg (Value.int .i64) (by omega)) ?_
  refine J.assign rfl rfl ?_
  refine J.nil ?_
  refine JX.thenN (hK0 _ _ ?_)
  refine JC.block ?_
  refine JC.conseq (JC.cov (f := (fun u : Unit => [(0, v), (2, .int .i64 ((0 : Nat) : Int)), (8, .int .i64 ((1 : Nat) : Int))]) ()) ⟨rfl, rfl, rfl, trivial⟩ (JC.loop (α := Unit) (fun _ => [(0, v), (2, .int .i64 ((0 : Nat) : Int)), (8, .int .i64 ((1 : Nat) : Int))]) (fun _ w1 => St w [] [] w1) (fun _ => 0) () (fun u => ?_))) (fun w1 hw => hw)
  refine JC.seq (fun K1 hK1 => ?_)
  refine JC.seq (fun K2 hK2 => ?_)
  refine JC.region ?_
  refine J.move rfl rfl ?_
  refine J.move rfl rfl ?_
  refine J.bin rfl rfl rfl rfl ?_
  refine J.nil ?_
  refine JX.thenN (hK2 _ _ ?_)
  first | refine JC.condF rfl ?_ | refine JC.cond rfl (fun h => by first | (exfalso; simp at h; omega) | (simp at h)) (fun _ => ?_)
  refine JC.exit ?_
  refine JX.thenE ?_
  refine JX.thenE ?_
  refine JX.blockE ?_
  refine JX.end0 rfl (fun w1 hw => ?_)
  exact ⟨rfl, (hw.drop (List.nil_sublist _)).below⟩

theorem stable0_spec (v : Value) (w : World) :
    Calls Try.prog 72 [v, .int .i64 ((0 : Nat) : Int), .func (.func 55) #[] #[]].toArray w fun r w' => r = .returned (.tuple #[]) ∧ Bel w w' := by
  refine calls_of_J (args := [v, .int .i64 ((0 : Nat) : Int), .func (.func 55) #[] #[]]) (e := [(0, v), (1, .int .i64 ((0 : Nat) : Int)), (2, .func (.func 55) #[] #[])]) Try.func72 rfl rfl ⟨rfl, rfl, rfl, trivial⟩ (St.start w) ?_
  refine JC.seq (fun K0 hK0 => ?_)
  refine JC.region ?_
  refine J.assign rfl rfl ?_
  refine J.nil ?_
  refine JX.thenN (hK0 _ _ ?_)
  refine JC.seq (fun K1 hK1 => ?_)
  refine JC.region ?_
  refine J.move rfl rfl ?_
  refine J.assign rfl rfl ?_
  refine J.name 7 rfl (show _ = .int .i64 ((0 : Nat) : Int) from rfl) ?_
  refine J.assign rfl rfl ?_
  refine J.nil ?_
  refine JX.thenN (hK1 _ _ ?_)
  refine JC.seq (fun K2 hK2 => ?_)
  refine JC.block ?_
  refine JC.conseq (JC.cov (f := (fun u : Unit => [(0, v), (1, .int .i64 ((0 : Nat) : Int)), (2, .func (.func 55) #[] #[]), (6, .int .i64 20), (7, .int .i64 ((0 : Nat) : Int)), (8, .int .i64 20)]) ()) ⟨rfl, rfl, rfl, rfl, rfl, rfl, trivial⟩ (JC.loop (α := Unit) (fun _ => [(0, v), (1, .int .i64 ((0 : Nat) : Int)), (2, .func (.func 55) #[] #[]), (6, .int .i64 20), (7, .int .i64 ((0 : Nat) : Int)), (8, .int .i64 20)]) (fun _ w1 => St w [] [] w1) (fun _ => 0) () (fun u => ?_))) (fun w1 hw => hw)
  refine JC.seq (fun K3 hK3 => ?_)
  refine JC.seq (fun K4 hK4 => ?_)
  refine JC.region ?_
  refine J.move rfl rfl ?_
  refine J.move rfl rfl ?_
  refine J.bin rfl rfl rfl rfl ?_
  refine J.nil ?_
  refine JX.thenN (hK4 _ _ ?_)
  first | refine JC.condF rfl ?_ | refine JC.cond rfl (fun h => by first | (exfalso; simp at h; omega) | (simp at h)) (fun _ => ?_)
  refine JC.exit ?_
  refine JX.thenE ?_
  refine JX.thenE ?_
  refine JX.blockE ?_
  refine JX.thenN (hK2 _ _ ?_)
  refine JC.seq (fun K5 hK5 => ?_)
  refine JC.region ?_
  refine J.move rfl rfl ?_
  refine J.move rfl rfl ?_
  refine J.move rfl rfl ?_
  refine J.move rfl rfl ?_
  refine J.callB (v := .tuple #[]) (fun w1 w2 hw hb => hw.step hb) Ty.bd81 rfl rfl (fun w1 hw => insertion0_spec _ w1) ?_
  refine J.nil ?_
  refine JX.thenN (hK5 _ _ ?_)
  refine JC.block ?_
  refine JC.conseq (JC.cov (f := (fun u : Unit => [(0, v), (1, .int .i64 ((0 : Nat) : Int)), (6, .int .i64 20)]) ()) ⟨rfl, rfl, rfl, trivial⟩ (JC.loop (α := Unit) (fun _ => [(0, v), (1, .int .i64 ((0 : Nat) : Int)), (6, .int .i64 20)]) (fun _ w1 => St w [] [] w1) (fun _ => 0) () (fun u => ?_))) (fun w1 hw => hw)
  refine JC.seq (fun K6 hK6 => ?_)
  refine JC.seq (fun K7 hK7 => ?_)
  refine JC.region ?_
  refine J.move rfl rfl ?_
  refine J.move rfl rfl ?_
  refine J.bin rfl rfl rfl rfl ?_
  refine J.nil ?_
  refine JX.thenN (hK7 _ _ ?_)
  first | refine JC.condF rfl ?_ | refine JC.cond rfl (fun h => by first | (exfalso; simp at h; omega) | (simp at h)) (fun _ => ?_)
  refine JC.exit ?_
  refine JX.thenE ?_
  refine JX.thenE ?_
  refine JX.blockE ?_
  refine JX.end0 rfl (fun w1 hw => ?_)
  exact ⟨rfl, (hw.drop (List.nil_sublist _)).below⟩

theorem sortStable0_spec (a : Option Addr) (c : Nat) (w : World) :
    Calls Try.prog 54 [.slice a 0 c, .func (.func 55) #[] #[]].toArray w fun r w' => r = .returned (.tuple #[]) ∧ Bel w w' := by
  refine calls_of_J (args := [.slice a 0 c, .func (.func 55) #[] #[]]) (e := [(0, .slice a 0 c), (1, .func (.func 55) #[] #[])]) Try.func54 rfl rfl ⟨rfl, rfl, trivial⟩ (St.start w) ?_
  refine JC.region ?_
  refine J.move rfl rfl ?_
  refine J.move rfl rfl ?_
  refine J.lenS rfl Ty.u68 rfl rfl ?_
  refine J.move rfl rfl ?_
  refine J.callB (v := .tuple #[]) (fun w1 w2 hw hb => hw.step hb) Ty.bd72 rfl rfl (fun w1 hw => stable0_spec _ w1) ?_
  refine J.nil ?_
  refine JX.end0 rfl (fun w1 hw => ?_)
  exact ⟨rfl, (hw.drop (List.nil_sublist _)).below⟩

set_option maxHeartbeats 4000000 in
theorem stable_spec (q n c : Nat) (xs : List CV) (sp : List Value) (w : World) (hw0 : Own w [(q, cb (fC (xs) ++ sp) 75)]) (hn : xs.length = n) (hnc : n ≤ c) (hn40 : n ≤ 40) :
    Calls Try.prog 72 [.slice (some ⟨q, 0, none⟩) n c, .int .i64 ((n : Nat) : Int), .func (.func 55) #[] #[]].toArray w fun r w' => ∃ Z : List CV, r = .returned (.tuple #[]) ∧ (SE ltC xs Z ∧ Srt ltC Z) ∧ St w [q] [(q, cb (fC (Z) ++ sp) 75)] w' := by
  refine calls_of_J (args := [.slice (some ⟨q, 0, none⟩) n c, .int .i64 ((n : Nat) : Int), .func (.func 55) #[] #[]]) (e := [(0, .slice (some ⟨q, 0, none⟩) n c), (1, .int .i64 ((n : Nat) : Int)), (2, .func (.func 55) #[] #[])]) Try.func72 rfl rfl ⟨rfl, rfl, rfl, trivial⟩ (hw0.st) ?_
  refine JC.seq (fun K0 hK0 => ?_)
  refine JC.region ?_
  refine J.assign rfl rfl ?_
  refine J.nil ?_
  refine JX.thenN (hK0 _ _ ?_)
  refine JC.seq (fun K1 hK1 => ?_)
  refine JC.region ?_
  refine J.move rfl rfl ?_
  refine J.assign rfl rfl ?_
  refine J.name 7 rfl (show _ = .int .i64 ((0 : Nat) : Int) from rfl) ?_
  refine J.assign rfl rfl ?_
  refine J.name 8 rfl (show _ = .int .i64 (((0 + 20) : Nat) : Int) from rfl) ?_
  refine J.nil ?_
  refine JX.thenN (hK1 _ _ ?_)
  refine JC.seq (fun K2 hK2 => ?_)
  refine JC.block ?_
  refine JC.conseq (JC.cov (f := (fun st => [(0, .slice (some ⟨q, 0, none⟩) n c), (1, .int .i64 ((n : Nat) : Int)), (2, .func (.func 55) #[] #[]), (6, .int .i64 20), (7, .int .i64 ((st.a : Nat) : Int)), (8, .int .i64 (((st.a + 20) : Nat) : Int))]) (⟨0, []⟩ : StS)) ⟨rfl, rfl, rfl, rfl, rfl, rfl, trivial⟩ (JC.loop (α := StS) (fun st => [(0, .slice (some ⟨q, 0, none⟩) n c), (1, .int .i64 ((n : Nat) : Int)), (2, .func (.func 55) #[] #[]), (6, .int .i64 20), (7, .int .i64 ((st.a : Nat) : Int)), (8, .int .i64 (((st.a + 20) : Nat) : Int))]) (fun st w' => StI xs st ∧ St w [q] [(q, cb (fC (st.D ++ xs.drop st.a) ++ sp) 75)] w') (fun st => n - st.a) (⟨0, []⟩ : StS) (fun st => ?_))) (fun w hw => ⟨.start xs, hw⟩)
  obtain ⟨a, D⟩ := st
  refine JC.pr (fun hI => ?_)
  have hIa := hI.a
  have hIl := hI.len
  have hIle := hI.le
  try simp only at hIa hIl hIle ⊢
  refine JC.seq (fun K3 hK3 => ?_)
  refine JC.seq (fun K4 hK4 => ?_)
  refine JC.region ?_
  refine J.move rfl rfl ?_
  refine J.move rfl rfl ?_
  refine J.bin rfl rfl rfl rfl ?_
  refine J.nil ?_
  refine JX.thenN (hK4 _ _ ?_)
  refine JC.cond rfl (fun h0 => ?_) (fun h0 => ?_)
  · skip
    have hab : a + 20 ≤ n := by
      have h9 : (a + 20 : Int) ≤ n := by simpa using h0
      omega
    refine JC.skip ?_
    refine JX.thenN (hK3 _ _ ?_)
    refine JC.block ?_
    refine JC.seq (fun K5 hK5 => ?_)
    have hsp : xs.drop a = (xs.take (a + 20)).drop a ++ xs.drop (a + 20) := by
      have h1 := (List.take_append_drop (a + 20) xs).symm
      have h2 : xs.drop a = ((xs.take (a + 20)) ++ xs.drop (a + 20)).drop a := by rw [← h1]
      rw [h2, List.drop_append_of_le_length (by rw [List.length_take]; omega)]
    have hLX : ((xs.take (a + 20)).drop a).length = 20 := by rw [List.length_drop, List.length_take]; omega
    refine JC.conseq (I' := St w [q] [(q, cb (fC (D ++ ((xs.take (a + 20)).drop a ++ xs.drop (a + 20))) ++ sp) 75)]) ?_ (fun w1 hw => by rw [hsp] at hw; exact hw)
    refine JC.region ?_
    refine J.move rfl rfl ?_
    refine J.move rfl rfl ?_
    refine J.name 15 rfl (show _ = .int .i64 ((D.length : Nat) : Int) from congrArg (Value.int .i64) (by omega)) ?_
    refine J.move rfl rfl ?_
    refine J.name 16 rfl (show _ = .int .i64 (((D.length + ((xs.take (a + 20)).drop a).length) : Nat) : Int) from congrArg (Value.int .i64) (by omega)) ?_
    refine J.move rfl rfl ?_
    refine J.callS (α := List CV) (V := fun _ => .tuple #[]) (Pr := fun Z => SE ltC ((xs.take (a + 20)).drop a) Z ∧ Srt ltC Z) (L := fun Z => [(q, cb (fC (D ++ (Z ++ (xs.drop (a + 20)))) ++ sp) 75)]) (l1 := [(q, cb (fC (D ++ (((xs.take (a + 20)).drop a) ++ (xs.drop (a + 20)))) ++ sp) 75)]) (l := []) Ty.bd81 rfl rfl (fun w1 hw => insertion_spec q n c D ((xs.take (a + 20)).drop a) (xs.drop (a + 20)) sp w1 hw.owns (by simp only [List.length_append, List.length_drop, List.length_take, List.length_nil]; omega) hnc (by omega)) (fun S hS => ?_)
    simp only [List.append_nil]
    obtain ⟨hm1, hm2, hm3, hm4⟩ := hI.more (b := a + 20) (by omega) (by omega) hS.1 hS.2 (by omega) (by omega)
    refine J.conseq (I' := St w [q] [(q, cb (fC ((D ++ S) ++ xs.drop (a + 20)) ++ sp) 75)]) ?_ (fun w1 hw => by rw [List.append_assoc]; exact hw)
    refine J.nil ?_
    refine JX.thenN (hK5 _ _ ?_)
    refine JC.seq (fun K6 hK6 => ?_)
    refine JC.region ?_
    refine J.move rfl rfl ?_
    refine J.assign rfl rfl ?_
    refine J.nil ?_
    refine JX.thenN (hK6 _ _ ?_)
    refine JC.region ?_
    refine J.move rfl rfl ?_
    refine J.move rfl rfl ?_
    refine J.addN rfl rfl (by omega) (by omega) rfl ?_
    refine J.name 22 rfl (show _ = Value.int .i64 (((a + 20 + 20) : Nat) : Int) from congrArg (Value.int .i64) (by omega)) ?_
    refine J.assign rfl rfl ?_
    refine J.nil ?_
    refine JX.blockN ?_
    refine JX.thenN ?_
    refine JX.again (⟨a + 20, D ++ S⟩ : StS) ?_ ?_ ?_
    · simp only; omega
    · exact ⟨rfl, rfl, rfl, rfl, rfl, rfl, trivial⟩
    · exact fun w1 hw => ⟨⟨by show a + 20 = 0 ∨ a + 20 = 20 ∨ a + 20 = 40; omega, by show a + 20 ≤ xs.length; omega, hm4, hm1, hm2, hm3⟩, hw⟩
  · skip
    have hab : ¬ a + 20 ≤ n := by
      have h9 : ¬ ((a + 20 : Int) ≤ n) := by simpa using h0
      omega
    refine JC.exit ?_
    refine JX.thenE ?_
    refine JX.thenE ?_
    refine JX.blockE ?_
    refine JX.thenN (hK2 _ _ ?_)
    refine JC.seq (fun K7 hK7 => ?_)
    refine JC.conseq (I' := St w [q] [(q, cb (fC (D ++ (xs.drop a ++ [])) ++ sp) 75)]) ?_ (fun w1 hw => by rw [List.append_nil]; exact hw)
    refine JC.region ?_
    refine J.move rfl rfl ?_
    refine J.move rfl rfl ?_
    refine J.name 24 rfl (show _ = .int .i64 ((D.length : Nat) : Int) from congrArg (Value.int .i64) (by omega)) ?_
    refine J.move rfl rfl ?_
    refine J.name 25 rfl (show _ = .int .i64 (((D.length + (xs.drop a).length) : Nat) : Int) from congrArg (Value.int .i64) (by rw [List.length_drop]; omega)) ?_
    refine J.move rfl rfl ?_
    refine J.callS (α := List CV) (V := fun _ => .tuple #[]) (Pr := fun Z => SE ltC (xs.drop a) Z ∧ Srt ltC Z) (L := fun Z => [(q, cb (fC (D ++ (Z ++ ([]))) ++ sp) 75)]) (l1 := [(q, cb (fC (D ++ ((xs.drop a) ++ ([]))) ++ sp) 75)]) (l := []) Ty.bd81 rfl rfl (fun w1 hw => insertion_spec q n c D (xs.drop a) ([]) sp w1 hw.owns (by simp only [List.length_append, List.length_drop, List.length_take, List.length_nil]; omega) hnc (by omega)) (fun S hS => ?_)
    simp only [List.append_nil]
    obtain ⟨hm1, hm2, hm3, hm4⟩ := hI.more (b := n) (by omega) (by omega) (by rw [List.take_of_length_le (by omega)]; exact hS.1) hS.2 (by omega) (by omega)
    rw [List.take_of_length_le (by omega)] at hm1
    obtain ⟨Fx, hFx⟩ : ∃ F, D ++ S = F := ⟨_, rfl⟩
    rw [hFx] at hm1 hm2 hm3 hm4
    refine J.conseq (I' := St w [q] [(q, cb (fC (Fx) ++ sp) 75)]) ?_ (fun w1 hw => by rw [← hFx]; first | (rw [List.append_nil] at hw; exact hw) | exact hw)
    refine J.nil ?_
    refine JX.thenN (hK7 _ _ ?_)
    refine JC.block ?_
    refine JC.conseq (JC.cov (f := (fun st => [(0, .slice (some ⟨q, 0, none⟩) n c), (1, .int .i64 ((n : Nat) : Int)), (2, .func (.func 55) #[] #[]), (6, .int .i64 ((st.1 : Nat) : Int))]) ((20, Fx) : Nat × List CV)) ⟨rfl, rfl, rfl, rfl, trivial⟩ (JC.loop (α := Nat × List CV) (fun st => [(0, .slice (some ⟨q, 0, none⟩) n c), (1, .int .i64 ((n : Nat) : Int)), (2, .func (.func 55) #[] #[]), (6, .int .i64 ((st.1 : Nat) : Int))]) (fun st w' => ((st.1 = 20 ∨ st.1 = 40) ∧ SE ltC xs st.2 ∧ st.2.length = n ∧ (st.1 = 20 → Srt ltC (st.2.take 20) ∧ Srt ltC (st.2.drop 20)) ∧ (st.1 = 40 → Srt ltC st.2)) ∧ St w [q] [(q, cb (fC (st.2) ++ sp) 75)] w') (fun st => 100 - st.1) ((20, Fx) : Nat × List CV) (fun st => ?_))) (fun w hw => ⟨⟨.inl rfl, hm1, hm4, fun _ => ⟨hm2, hm3⟩, fun h => by cases h⟩, hw⟩)
    obtain ⟨bs, G⟩ := st
    refine JC.pr (fun hG => ?_)
    obtain ⟨hbs, hse, hGl, hG2, hG4⟩ := hG
    try simp only at hbs hse hGl hG2 hG4 ⊢
    refine JC.seq (fun K8 hK8 => ?_)
    refine JC.seq (fun K9 hK9 => ?_)
    refine JC.region ?_
    refine J.move rfl rfl ?_
    refine J.move rfl rfl ?_
    refine J.bin rfl rfl rfl rfl ?_
    refine J.nil ?_
    refine JX.thenN (hK9 _ _ ?_)
    refine JC.cond rfl (fun h1 => ?_) (fun h1 => ?_)
    · skip
      have hbn : bs < n := by simpa using h1
      obtain rfl : 20 = bs := by omega
      refine JC.skip ?_
      refine JX.thenN (hK8 _ _ ?_)
      refine JC.block ?_
      refine JC.seq (fun K10 hK10 => ?_)
      refine JC.region ?_
      refine J.move rfl rfl ?_
      refine J.bin rfl rfl rfl rfl ?_
      refine J.name 32 rfl (show _ = .int .i64 (((0 + 40) : Nat) : Int) from rfl) ?_
      refine J.assign rfl rfl ?_
      refine J.name 7 rfl (show _ = .int .i64 ((0 : Nat) : Int) from rfl) ?_
      refine J.assign rfl rfl ?_
      refine J.nil ?_
      refine JX.thenN (hK10 _ _ ?_)
      refine JC.seq (fun K11 hK11 => ?_)
      refine JC.block ?_
      refine JC.conseq (JC.cov (f := (fun st => [(0, .slice (some ⟨q, 0, none⟩) n c), (1, .int .i64 ((n : Nat) : Int)), (2, .func (.func 55) #[] #[]), (6, .int .i64 ((20 : Nat) : Int)), (7, .int .i64 ((st.1 : Nat) : Int)), (8, .int .i64 (((st.1 + 40) : Nat) : Int))]) ((0, G) : Nat × List CV)) ⟨rfl, rfl, rfl, rfl, rfl, rfl, trivial⟩ (JC.loop (α := Nat × List CV) (fun st => [(0, .slice (some ⟨q, 0, none⟩) n c), (1, .int .i64 ((n : Nat) : Int)), (2, .func (.func 55) #[] #[]), (6, .int .i64 ((20 : Nat) : Int)), (7, .int .i64 ((st.1 : Nat) : Int)), (8, .int .i64 (((st.1 + 40) : Nat) : Int))]) (fun st w' => (SE ltC xs st.2 ∧ st.2.length = n ∧ ((st.1 = 0 ∧ Srt ltC (st.2.take 20) ∧ Srt ltC (st.2.drop 20)) ∨ (st.1 = 40 ∧ n = 40 ∧ Srt ltC st.2))) ∧ St w [q] [(q, cb (fC (st.2) ++ sp) 75)] w') (fun st => 100 - st.1) ((0, G) : Nat × List CV) (fun st => ?_))) (fun w hw => ⟨⟨hse, hGl, .inl ⟨rfl, hG2 rfl⟩⟩, hw⟩)
      obtain ⟨a2, K⟩ := st
      refine JC.pr (fun hK => ?_)
      obtain ⟨hseK, hKl, hK2⟩ := hK
      try simp only at hseK hKl hK2 ⊢
      refine JC.seq (fun K12 hK12 => ?_)
      refine JC.seq (fun K13 hK13 => ?_)
      refine JC.region ?_
      refine J.move rfl rfl ?_
      refine J.move rfl rfl ?_
      refine J.bin rfl rfl rfl rfl ?_
      refine J.nil ?_
      refine JX.thenN (hK13 _ _ ?_)
      refine JC.cond rfl (fun h2 => ?_) (fun h2 => ?_)
      · skip
        have han : a2 + 40 ≤ n := by
          have h9 : (a2 + 40 : Int) ≤ n := by simpa using h2
          omega
        obtain ⟨ha0, hKs⟩ : a2 = 0 ∧ Srt ltC (K.take 20) ∧ Srt ltC (K.drop 20) := by
          rcases hK2 with h | ⟨h, _⟩
          · exact h
          · omega
        subst ha0
        refine JC.skip ?_
        refine JX.thenN (hK12 _ _ ?_)
        refine JC.block ?_
        refine JC.seq (fun K14 hK14 => ?_)
        refine JC.region ?_
        refine J.move rfl rfl ?_
        refine J.move rfl rfl ?_
        refine J.move rfl rfl ?_
        refine J.move rfl rfl ?_
        refine J.addN rfl rfl (by omega) (by omega) rfl ?_
        refine J.name 40 rfl (show _ = .int .i64 ((20 : Nat) : Int) from rfl) ?_
        refine J.move rfl rfl ?_
        refine J.name 41 rfl (show _ = .int .i64 ((n : Nat) : Int) from congrArg (Value.int .i64) (by omega)) ?_
        refine J.move rfl rfl ?_
        refine J.conseq (I' := St w [q] [(q, cb (fC (([] : List CV) ++ ((K.take 20 ++ (K.drop 20 ++ ([] : List CV))))) ++ sp) 75)]) ?_ (fun w1 hw => by rw [List.nil_append, List.append_nil, List.take_append_drop]; exact hw)
        refine J.callS (α := List CV) (V := fun _ => .tuple #[]) (Pr := fun Z => SE ltC (K.take 20 ++ K.drop 20) Z ∧ Srt ltC Z) (L := fun Z => [(q, cb (fC (([] : List CV) ++ (Z ++ ([] : List CV))) ++ sp) 75)]) (l1 := [(q, cb (fC (([] : List CV) ++ ((K.take 20 ++ (K.drop 20 ++ ([] : List CV))))) ++ sp) 75)]) (l := []) Ty.bd82 rfl rfl (fun w1 hw => symMerge_spec q n c sp hnc (by omega) _ [] (K.take 20) (K.drop 20) [] w1 (Nat.le_refl _) hw.owns (by simp only [List.length_append, List.length_take, List.length_drop, List.length_nil]; omega) (by rw [List.length_take]; omega) (by rw [List.length_drop]; omega) hKs.1 hKs.2 0 20 n rfl (by simp only [List.length_take, List.length_nil]; omega) (by rw [List.length_drop]; omega)) (fun Z hZ => ?_)
        simp only [List.append_nil, List.nil_append]
        rw [List.take_append_drop] at hZ
        have hZl : Z.length = n := by rw [← hZ.1.length swoC]; exact hKl
        have hseZ := hseK.trans hZ.1
        refine J.nil ?_
        refine JX.thenN (hK14 _ _ ?_)
        refine JC.seq (fun K15 hK15 => ?_)
        refine JC.region ?_
        refine J.move rfl rfl ?_
        refine J.assign rfl rfl ?_
        refine J.nil ?_
        refine JX.thenN (hK15 _ _ ?_)
        refine JC.region ?_
        refine J.move rfl rfl ?_
        refine J.move rfl rfl ?_
        refine J.bin rfl rfl rfl rfl ?_
        refine J.name 47 rfl (show _ = .int .i64 ((40 : Nat) : Int) from rfl) ?_
        refine J.addN rfl rfl (by omega) (by omega) rfl ?_
        refine J.name 48 rfl (show _ = .int .i64 (((40 + 40) : Nat) : Int) from rfl) ?_
        refine J.assign rfl rfl ?_
        refine J.nil ?_
        refine JX.blockN ?_
        refine JX.thenN ?_
        refine JX.again ((40, Z) : Nat × List CV) ?_ ?_ ?_
        · simp only; omega
        · exact ⟨rfl, rfl, rfl, rfl, rfl, rfl, trivial⟩
        · exact fun w1 hw => ⟨⟨hseZ, hZl, .inr ⟨rfl, by omega, hZ.2⟩⟩, hw⟩
      · skip
        have han : ¬ a2 + 40 ≤ n := by
          have h9 : ¬ ((a2 + 40 : Int) ≤ n) := by simpa using h2
          omega
        refine JC.exit ?_
        refine JX.thenE ?_
        refine JX.thenE ?_
        refine JX.blockE ?_
        refine JX.thenN (hK11 _ _ ?_)
        refine JC.seq (fun K16 hK16 => ?_)
        refine JC.seq (fun K17 hK17 => ?_)
        refine JC.region ?_
        refine J.move rfl rfl ?_
        refine J.move rfl rfl ?_
        refine J.addN rfl rfl (by omega) (by omega) rfl ?_
        refine J.name 51 rfl (show _ = Value.int .i64 (((a2 + 20) : Nat) : Int) from congrArg (Value.int .i64) (by omega)) ?_
        refine J.assign rfl rfl ?_
        refine J.nil ?_
        refine JX.thenN (hK17 _ _ ?_)
        refine JC.seq (fun K18 hK18 => ?_)
        refine JC.region ?_
        refine J.move rfl rfl ?_
        refine J.move rfl rfl ?_
        refine J.bin rfl rfl rfl rfl ?_
        refine J.nil ?_
        refine JX.thenN (hK18 _ _ ?_)
        refine JC.cond rfl (fun h3 => ?_) (fun h3 => ?_)
        · skip
          have ha20 : a2 + 20 < n := by
            have h9 : (a2 + 20 : Int) < n := by simpa using h3
            omega
          obtain ⟨ha0, hKs⟩ : a2 = 0 ∧ Srt ltC (K.take 20) ∧ Srt ltC (K.drop 20) := by
            rcases hK2 with h | ⟨h, _⟩
            · exact h
            · omega
          subst ha0
          refine JC.region ?_
          refine J.move rfl rfl ?_
          refine J.move rfl rfl ?_
          refine J.move rfl rfl ?_
          refine J.name 57 rfl (show _ = .int .i64 ((20 : Nat) : Int) from rfl) ?_
          refine J.move rfl rfl ?_
          refine J.move rfl rfl ?_
          refine J.conseq (I' := St w [q] [(q, cb (fC (([] : List CV) ++ ((K.take 20 ++ (K.drop 20 ++ ([] : List CV))))) ++ sp) 75)]) ?_ (fun w1 hw => by rw [List.nil_append, List.append_nil, List.take_append_drop]; exact hw)
          refine J.callS (α := List CV) (V := fun _ => .tuple #[]) (Pr := fun Z => SE ltC (K.take 20 ++ K.drop 20) Z ∧ Srt ltC Z) (L := fun Z => [(q, cb (fC (([] : List CV) ++ (Z ++ ([] : List CV))) ++ sp) 75)]) (l1 := [(q, cb (fC (([] : List CV) ++ ((K.take 20 ++ (K.drop 20 ++ ([] : List CV))))) ++ sp) 75)]) (l := []) Ty.bd82 rfl rfl (fun w1 hw => symMerge_spec q n c sp hnc (by omega) _ [] (K.take 20) (K.drop 20) [] w1 (Nat.le_refl _) hw.owns (by simp only [List.length_append, List.length_take, List.length_drop, List.length_nil]; omega) (by rw [List.length_take]; omega) (by rw [List.length_drop]; omega) hKs.1 hKs.2 0 20 n rfl (by simp only [List.length_take, List.length_nil]; omega) (by rw [List.length_drop]; omega)) (fun Z hZ => ?_)
          simp only [List.append_nil, List.nil_append]
          rw [List.take_append_drop] at hZ
          have hZl : Z.length = n := by rw [← hZ.1.length swoC]; exact hKl
          have hseZ := hseK.trans hZ.1
          refine J.nil ?_
          refine JX.thenN (hK16 _ _ ?_)
          refine JC.region ?_
          refine J.move rfl rfl ?_
          refine J.bin rfl rfl rfl rfl ?_
          refine J.name 62 rfl (show _ = .int .i64 ((40 : Nat) : Int) from rfl) ?_
          refine J.assign rfl rfl ?_
          refine J.nil ?_
          refine JX.blockN ?_
          refine JX.thenN ?_
          refine JX.again ((40, Z) : Nat × List CV) ?_ ?_ ?_
          · simp only; omega
          · exact ⟨rfl, rfl, rfl, rfl, trivial⟩
          · exact fun w1 hw => ⟨⟨.inr rfl, hseZ, hZl, fun h => by omega, fun _ => hZ.2⟩, hw⟩
        · skip
          have ha20 : ¬ a2 + 20 < n := by
            have h9 : ¬ ((a2 + 20 : Int) < n) := by simpa using h3
            omega
          have hsK : Srt ltC K := by
            rcases hK2 with ⟨h, _⟩ | ⟨_, _, h⟩
            · omega
            · exact h
          refine JC.skip ?_
          refine JX.thenN (hK16 _ _ ?_)
          refine JC.region ?_
          refine J.move rfl rfl ?_
          refine J.bin rfl rfl rfl rfl ?_
          refine J.name 62 rfl (show _ = .int .i64 ((40 : Nat) : Int) from rfl) ?_
          refine J.assign rfl rfl ?_
          refine J.nil ?_
          refine JX.blockN ?_
          refine JX.thenN ?_
          refine JX.again ((40, K) : Nat × List CV) ?_ ?_ ?_
          · simp only; omega
          · exact ⟨rfl, rfl, rfl, rfl, trivial⟩
          · exact fun w1 hw => ⟨⟨.inr rfl, hseK, hKl, fun h => by omega, fun _ => hsK⟩, hw⟩
    · skip
      have hbn : ¬ bs < n := by simpa using h1
      have hsG : Srt ltC G := by
        rcases hbs with h | h
        · have h1 := (hG2 h).1
          rwa [List.take_of_length_le (by omega)] at h1
        · exact hG4 h
      refine JC.exit ?_
      refine JX.thenE ?_
      refine JX.thenE ?_
      refine JX.blockE ?_
      refine JX.end0 rfl (fun w1 hw => ?_)
      exact ⟨G, rfl, ⟨hse, hsG⟩, hw⟩

theorem sortStable_spec (q n c : Nat) (xs : List CV) (sp : List Value) (w : World) (hw0 : Own w [(q, cb (fC (xs) ++ sp) 75)]) (hn : xs.length = n) (hnc : n ≤ c) (hn40 : n ≤ 40) :
    Calls Try.prog 54 [.slice (some ⟨q, 0, none⟩) n c, .func (.func 55) #[] #[]].toArray w fun r w' => ∃ Z : List CV, r = .returned (.tuple #[]) ∧ (SE ltC xs Z ∧ Srt ltC Z) ∧ St w [q] [(q, cb (fC (Z) ++ sp) 75)] w' := by
  refine calls_of_J (args := [.slice (some ⟨q, 0, none⟩) n c, .func (.func 55) #[] #[]]) (e := [(0, .slice (some ⟨q, 0, none⟩) n c), (1, .func (.func 55) #[] #[])]) Try.func54 rfl rfl ⟨rfl, rfl, trivial⟩ (hw0.st) ?_
  refine JC.region ?_
  refine J.move rfl rfl ?_
  refine J.move rfl rfl ?_
  refine J.lenS rfl Ty.u68 rfl rfl ?_
  refine J.move rfl rfl ?_
  refine J.callS (α := List CV) (V := fun _ => .tuple #[]) (Pr := fun Z => SE ltC xs Z ∧ Srt ltC Z) (L := fun Z => [(q, cb (fC (Z) ++ sp) 75)]) (l1 := [(q, cb (fC (xs) ++ sp) 75)]) (l := []) Ty.bd72 rfl rfl (fun w1 hw => stable_spec q n c xs sp w1 hw.owns hn hnc hn40) (fun Z hZ => ?_)
  simp only [List.append_nil]
  refine J.nil ?_
  refine JX.end0 rfl (fun w1 hw => ?_)
  exact ⟨Z, rfl, hZ, hw⟩

end Go.Proofs.Ytbafhclandendaa
/-
  Clone, IndexFunc, DeleteFunc at candidates, as seek.Asks calls them: contracts.
-/
namespace Go.Proofs.Ytbafhclandendaa
open Go.J Go.RowKit
set_option linter.unusedVariables false
set_option linter.unusedSimpArgs false
set_option maxRecDepth 8000
theorem offSub {S S' : List Nat} {v : Value} {xs : List Value} (h : Off S v xs) (hs : ∀ b, b ∈ S' → b ∈ S) : Off S' v xs := by
  rcases h with h | h
  · exact .inl h
  · exact .inr fun b o k c e hb => h b o k c e (hs b hb)
theorem one_fC {xs : List CV} {y : Value} (h : y ∈ fC xs) : y.oneCell' = true := by
  simp only [fC, List.mem_flatMap] at h
  obtain ⟨x, _, hy⟩ := h
  exact one_cC x y hy
/-- the candidates that are deleted: not wanted, or friends -/
def wnt (W F : List IDV) (x : CV) : Bool := !decide (x.id ∈ W) || decide (x.id ∈ F)
/-- where one stands first -/
def plc (f : CV → Bool) : List CV → Int
  | [] => -1
  | x :: xs => if f x = true then 0 else if plc f xs < 0 then -1 else plc f xs + 1
theorem plc_ge (f : CV → Bool) : ∀ xs : List CV, -1 ≤ plc f xs
  | [] => by simp [plc]
  | x :: xs => by
    have := plc_ge f xs
    simp only [plc]
    split
    · omega
    · split <;> omega
theorem plc_at {f : CV → Bool} : ∀ {xs : List CV} {i : Nat} (h : i < xs.length), (∀ j y, j < i → xs[j]? = some y → f y = false) → f xs[i] = true → plc f xs = (i : Int)
  | x :: xs, 0, _, _, he => by
    have : f x = true := he
    simp [plc, this]
  | x :: xs, i + 1, h, hb, he => by
    have h0 : ¬ f x = true := by rw [hb 0 x (by omega) rfl]; decide
    have ih := plc_at (f := f) (xs := xs) (i := i) (by simpa using h) (fun j y hj hy => hb (j + 1) y (by omega) (by simpa using hy)) (by simpa using he)
    simp only [plc]
    rw [if_neg h0, ih, if_neg (by omega)]
    omega
theorem plc_no {f : CV → Bool} : ∀ {xs : List CV}, (∀ y, y ∈ xs → f y = false) → plc f xs = -1
  | [], _ => rfl
  | x :: xs, hb => by
    have h0 : ¬ f x = true := by rw [hb x (.head _)]; decide
    have ih := plc_no (f := f) (xs := xs) (fun y hy => hb y (.tail _ hy))
    simp only [plc]
    rw [if_neg h0, ih, if_pos (by omega)]
theorem plc_spec {f : CV → Bool} : ∀ {xs : List CV}, 0 ≤ plc f xs → ∃ i y, plc f xs = ((i : Nat) : Int) ∧ xs[i]? = some y ∧ f y = true ∧ ∀ j z, j < i → xs[j]? = some z → f z = false
  | [], h => by simp [plc] at h
  | x :: xs, h => by
    simp only [plc] at h ⊢
    by_cases h0 : f x = true
    · exact ⟨0, x, by simp [h0], rfl, h0, fun j z hj => by omega⟩
    · rw [if_neg h0] at h ⊢
      by_cases h2 : plc f xs < 0
      · rw [if_pos h2] at h; omega
      · rw [if_neg h2]
        obtain ⟨i, y, h3, h4, h5, h6⟩ := plc_spec (f := f) (xs := xs) (by omega)
        refine ⟨i + 1, y, by omega, by simpa using h4, h5, fun j z hj hz => ?_⟩
        cases j with
        | zero => rw [← Option.some.inj hz]; simpa using h0
        | succ j => exact h6 j z (by omega) (by simpa using hz)
theorem plc_neg {f : CV → Bool} {xs : List CV} (h : plc f xs = -1) : ∀ y, y ∈ xs → f y = false := by
  induction xs with
  | nil => intro y hy; cases hy
  | cons x xs ih =>
    have hge := plc_ge f xs
    simp only [plc] at h
    by_cases h0 : f x = true
    · rw [if_pos h0] at h; omega
    · rw [if_neg h0] at h
      have h1 : plc f xs < 0 := by
        by_cases h2 : plc f xs < 0
        · exact h2
        · rw [if_neg h2] at h; omega
      intro y hy
      rcases List.mem_cons.1 hy with rfl | hy
      · simpa using h0
      · exact ih (by omega) y hy
def dels (f : CV → Bool) (xs : List CV) : List CV := xs.filter (fun x => !f x)
theorem dels_none {f : CV → Bool} {xs : List CV} (h : ∀ y, y ∈ xs → f y = false) : dels f xs = xs :=
  List.filter_eq_self.2 fun x hx => by rw [h x hx]; rfl
theorem dels_le (f : CV → Bool) (xs : List CV) : (dels f xs).length ≤ xs.length := List.length_filter_le _ _
structure DC where
  j : Nat
  zs : List CV
structure DCInv (f : CV → Bool) (xs : List CV) (s : DC) : Prop where
  hj : s.j ≤ xs.length
  hl : s.zs.length = xs.length
  tk : s.zs.take (dels f (xs.take s.j)).length = dels f (xs.take s.j)
  dr : s.zs.drop s.j = xs.drop s.j
theorem DCInv.get {f : CV → Bool} {xs : List CV} {s : DC} (h : DCInv f xs s) (hj : s.j < xs.length) : s.zs[s.j]? = some xs[s.j] := by
  have e : (s.zs.drop s.j)[0]? = (xs.drop s.j)[0]? := by rw [h.dr]
  rw [List.getElem?_drop, List.getElem?_drop, Nat.add_zero, List.getElem?_eq_getElem hj] at e
  exact e
theorem DCInv.skip {f : CV → Bool} {xs : List CV} {s : DC} (h : DCInv f xs s) (hj : s.j < xs.length) (he : f xs[s.j] = true) : DCInv f xs ⟨s.j + 1, s.zs⟩ ∧ dels f (xs.take (s.j + 1)) = dels f (xs.take s.j) := by
  have e : dels f (xs.take (s.j + 1)) = dels f (xs.take s.j) := by
    rw [take_add_one hj, dels, List.filter_append]
    simp [he, dels]
  refine ⟨⟨hj, h.hl, by simp only; rw [e]; exact h.tk, ?_⟩, e⟩
  simp only
  rw [← List.drop_drop, ← List.drop_drop, h.dr]
theorem DCInv.put {f : CV → Bool} {xs : List CV} {s : DC} (h : DCInv f xs s) (hj : s.j < xs.length) (he : ¬ f xs[s.j] = true) : DCInv f xs ⟨s.j + 1, s.zs.set (dels f (xs.take s.j)).length xs[s.j]⟩ ∧ (dels f (xs.take (s.j + 1))).length = (dels f (xs.take s.j)).length + 1 := by
  have e : dels f (xs.take (s.j + 1)) = dels f (xs.take s.j) ++ [xs[s.j]] := by
    rw [take_add_one hj, dels, List.filter_append]
    simp [he, dels]
  have hle : (dels f (xs.take s.j)).length ≤ s.j := by
    have := dels_le f (xs.take s.j)
    rw [List.length_take] at this
    omega
  refine ⟨⟨hj, by simp [h.hl], ?_, ?_⟩, by rw [e]; simp⟩
  · simp only
    rw [e, List.length_append, List.length_singleton]
    have hlt : (dels f (xs.take s.j)).length < (s.zs.set (dels f (xs.take s.j)).length xs[s.j]).length := by rw [List.length_set, h.hl]; omega
    rw [take_add_one hlt, List.getElem_set_self, List.take_set_of_le (Nat.le_refl _), h.tk]
  · simp only
    rw [List.drop_set_of_lt (by omega), ← List.drop_drop, ← List.drop_drop, h.dr]
theorem DCInv.start {f : CV → Bool} {xs : List CV} {i : Nat} {y : CV} (hi : xs[i]? = some y) (hy : f y = true) (hb : ∀ j z, j < i → xs[j]? = some z → f z = false) : DCInv f xs ⟨i + 1, xs⟩ ∧ (dels f (xs.take (i + 1))).length = i := by
  have hlt := (List.getElem?_eq_some_iff.1 hi).1
  have hx : xs[i] = y := (List.getElem?_eq_some_iff.1 hi).2
  have e1 : dels f (xs.take i) = xs.take i := dels_none (fun z hz => by
    obtain ⟨j, hj⟩ := List.mem_iff_getElem?.1 hz
    have hj' := (List.getElem?_eq_some_iff.1 hj).1
    rw [List.length_take] at hj'
    rw [List.getElem?_take_of_lt (by omega)] at hj
    exact hb j z (by omega) hj)
  have e2 : dels f (xs.take (i + 1)) = xs.take i := by
    rw [take_add_one hlt, dels, List.filter_append, hx]
    have := e1
    rw [dels] at this
    rw [this]
    simp [hy]
  have hl : (xs.take i).length = i := by rw [List.length_take]; omega
  refine ⟨⟨hlt, rfl, ?_, rfl⟩, by rw [e2, hl]⟩
  simp only
  rw [e2, hl]
/-- what is left when the end of a row is cleared -/
theorem clear_C {zs ws : List CV} {i n : Nat} {sp Z : List Value} (hz : zs.length = n) (hw : zs.take i = ws) (hi : i ≤ n) (hZ : Z.length = (n - i) * 35) {o : Nat} (ho : n - i = 0 ∨ o = i * 35) :
    ∃ sp', setMany (fC zs ++ sp) o Z = fC ws ++ sp' ∧ (fC ws ++ sp').length = (fC zs ++ sp).length := by
  have hl := fC_len zs
  have hx : fC zs = fC ws ++ fC (zs.drop i) := by
    rw [← hw, ← List.flatMap_append, List.take_append_drop]
  have hwl : (fC ws).length = i * 35 := by rw [fC_len, ← hw, List.length_take]; congr 1; omega
  rcases ho with h0 | rfl
  · have : Z = [] := List.eq_nil_of_length_eq_zero (by rw [hZ, h0])
    subst this
    have e : fC zs ++ sp = fC ws ++ (fC (zs.drop i) ++ sp) := by rw [hx, List.append_assoc]
    exact ⟨fC (zs.drop i) ++ sp, e, by rw [e]⟩
  · refine ⟨Z ++ (fC zs ++ sp).drop (i * 35 + Z.length), ?_, ?_⟩
    · rw [setMany_eq _ _ _ (by rw [List.length_append, hZ]; omega), hx, List.append_assoc (fC ws)]
      rw [show (fC ws ++ (fC (zs.drop i) ++ sp)).take (i * 35) = fC ws by rw [← hwl, List.take_left], List.append_assoc]
    · rw [hx]
      simp only [List.length_append, List.length_drop, hZ]
      have : (fC (zs.drop i)).length = (n - i) * 35 := by rw [fC_len, List.length_drop, hz]
      omega
structure DCG where
  i : Nat
  j : Nat
  zs : List CV

theorem asks1_spec (bw bf : Nat) (wv fv : Value) (W F : List IDV) (x : CV) (w : World) (hw0 : Own w [(bw, cb [wv] 24), (bf, cb [fv] 24)]) (hrW : Row w wv W.length (fI W)) (hrF : Row w fv F.length (fI F)) (hlW : W.length ≤ 1099511627776) (hlF : F.length ≤ 1099511627776) (hoW : Off [bw, bf] wv (fI W)) (hoF : Off [bw, bf] fv (fI F)) :
    Calls Try.prog 52 [.agg (cC x).toArray, .pointer (some ⟨bw, 0, none⟩), .pointer (some ⟨bf, 0, none⟩)].toArray w fun r w' => r = .returned (.bool (wnt W F x)) ∧ Bel w w' := by
  refine calls_of_J (args := [.agg (cC x).toArray, .pointer (some ⟨bw, 0, none⟩), .pointer (some ⟨bf, 0, none⟩)]) (e := [(0, .agg (cC x).toArray), (1, .pointer (some ⟨bw, 0, none⟩)), (2, .pointer (some ⟨bf, 0, none⟩))]) Try.func52 rfl rfl ⟨rfl, rfl, rfl, trivial⟩ (hw0.st) ?_
  refine JC.seq (fun K0 hK0 => ?_)
  refine JC.region ?_
  refine J.box rfl rfl rfl (fun b3 => ?_)
  refine J.assign rfl rfl ?_
  refine J.nil ?_
  refine JX.thenN (hK0 _ _ ?_)
  refine JC.seq (fun K1 hK1 => ?_)
  by_cases hm : x.id ∈ W
  · skip
    refine JC.region ?_
    refine J.load1 (v := wv) Ty.a24 rfl (fun w1 hw => by rw [cell_of (hw.own ((bw, cb [wv] 24)) (by repeat first | exact .head _ | apply List.Mem.tail | apply List.mem_append_right))]; rfl) rfl ?_
    refine J.fieldAddr Ty.fd75_0 rfl rfl ?_
    refine J.loadA (vs := cI x.id) Ty.a23 Ty.s23 rfl rfl (fun w1 hw => Cells.of_block (hw.own (b3, cb (cC x) 75) (by repeat first | exact .head _ | apply List.Mem.tail | apply List.mem_append_right)) rfl) rfl ?_
    refine J.callB (v := .bool (decide (x.id ∈ W))) (fun w1 w2 hw hb => hw.step hb) Ty.bd53 rfl rfl (fun w1 hw => has_spec wv W x.id w1 (hrW.st hoW hw) (by omega)) ?_
    refine J.not rfl rfl ?_
    refine J.name 9 rfl (show _ = Value.bool false by simp [hm]) ?_
    refine J.move rfl rfl ?_
    refine J.unguard rfl rfl rfl ?_
    refine J.load1 (v := fv) Ty.a24 rfl (fun w1 hw => by rw [cell_of (hw.own ((bf, cb [fv] 24)) (by repeat first | exact .head _ | apply List.Mem.tail | apply List.mem_append_right))]; rfl) rfl ?_
    refine J.unguard rfl rfl rfl ?_
    refine J.fieldAddr Ty.fd75_0 rfl rfl ?_
    refine J.unguard rfl rfl rfl ?_
    refine J.loadA (vs := cI x.id) Ty.a23 Ty.s23 rfl rfl (fun w1 hw => Cells.of_block (hw.own (b3, cb (cC x) 75) (by repeat first | exact .head _ | apply List.Mem.tail | apply List.mem_append_right)) rfl) rfl ?_
    refine J.unguard rfl rfl rfl ?_
    refine J.callB (v := .bool (decide (x.id ∈ F))) (fun w1 w2 hw hb => hw.step hb) Ty.bd53 rfl rfl (fun w1 hw => has_spec fv F x.id w1 (hrF.st hoF hw) (by omega)) ?_
    (first | refine J.pickT rfl rfl rfl ?_ | refine J.pickF rfl rfl rfl ?_)
    refine J.assign rfl rfl ?_
    refine J.nil ?_
    refine JX.thenN (hK1 _ _ ?_)
    refine JC.ret ?_
    refine JX.ret1 rfl rfl (fun w hw => ?_)
    exact ⟨by unfold wnt; simp [hm], hw.same hw0 (fun p hp => by simp at hp ⊢; rcases hp with rfl | rfl <;> simp)⟩
  · skip
    refine JC.region ?_
    refine J.load1 (v := wv) Ty.a24 rfl (fun w1 hw => by rw [cell_of (hw.own ((bw, cb [wv] 24)) (by repeat first | exact .head _ | apply List.Mem.tail | apply List.mem_append_right))]; rfl) rfl ?_
    refine J.fieldAddr Ty.fd75_0 rfl rfl ?_
    refine J.loadA (vs := cI x.id) Ty.a23 Ty.s23 rfl rfl (fun w1 hw => Cells.of_block (hw.own (b3, cb (cC x) 75) (by repeat first | exact .head _ | apply List.Mem.tail | apply List.mem_append_right)) rfl) rfl ?_
    refine J.callB (v := .bool (decide (x.id ∈ W))) (fun w1 w2 hw hb => hw.step hb) Ty.bd53 rfl rfl (fun w1 hw => has_spec wv W x.id w1 (hrW.st hoW hw) (by omega)) ?_
    refine J.not rfl rfl ?_
    refine J.name 9 rfl (show _ = Value.bool true by simp [hm]) ?_
    refine J.move rfl rfl ?_
    refine J.skip rfl rfl rfl rfl rfl ?_
    refine J.skip rfl rfl rfl rfl rfl ?_
    refine J.skip rfl rfl rfl rfl rfl ?_
    refine J.skip rfl rfl rfl rfl rfl ?_
    (first | refine J.pickT rfl rfl rfl ?_ | refine J.pickF rfl rfl rfl ?_)
    refine J.assign rfl rfl ?_
    refine J.nil ?_
    refine JX.thenN (hK1 _ _ ?_)
    refine JC.ret ?_
    refine JX.ret1 rfl rfl (fun w hw => ?_)
    exact ⟨by unfold wnt; simp [hm], hw.same hw0 (fun p hp => by simp at hp ⊢; rcases hp with rfl | rfl <;> simp)⟩

theorem indexFuncC_spec (v : Value) (xs : List CV) (bw bf : Nat) (wv fv : Value) (W F : List IDV) (w : World) (hw0 : Own w [(bw, cb [wv] 24), (bf, cb [fv] 24)]) (hr : Row w v xs.length (fC xs)) (hoff : Off [bw, bf] v (fC xs)) (hl : xs.length < 4611686018427387904) (hrW : Row w wv W.length (fI W)) (hrF : Row w fv F.length (fI F)) (hlW : W.length ≤ 1099511627776) (hlF : F.length ≤ 1099511627776) (hoW : Off [bw, bf] wv (fI W)) (hoF : Off [bw, bf] fv (fI F)) :
    Calls Try.prog 71 [v, .func (.func 52) #[] #[.pointer (some ⟨bw, 0, none⟩), .pointer (some ⟨bf, 0, none⟩)]].toArray w fun r w' => r = .returned (.int .i64 (plc (wnt W F) xs)) ∧ Bel w w' := by
  obtain ⟨a, c, rfl, hc, _⟩ := id hr
  refine calls_of_J (args := [.slice a xs.length c, .func (.func 52) #[] #[.pointer (some ⟨bw, 0, none⟩), .pointer (some ⟨bf, 0, none⟩)]]) (e := [(0, .slice a xs.length c), (1, .func (.func 52) #[] #[.pointer (some ⟨bw, 0, none⟩), .pointer (some ⟨bf, 0, none⟩)])]) Try.func71 rfl rfl ⟨rfl, rfl, trivial⟩ (hw0.st) ?_
  refine JC.seq (fun K0 hK0 => ?_)
  refine JC.region ?_
  refine J.assign rfl rfl ?_
  refine J.nil ?_
  refine JX.thenN (hK0 _ _ ?_)
  refine JC.seq (fun K1 hK1 => ?_)
  refine JC.seq (fun K2 hK2 => ?_)
  refine JC.region ?_
  refine J.move rfl rfl ?_
  refine J.lenS rfl Ty.u68 rfl rfl ?_
  refine J.move rfl rfl ?_
  refine J.nil ?_
  refine JX.thenN (hK2 _ _ ?_)
  refine JC.block ?_
  refine JC.conseq (JC.cov (f := (fun i => [(0, .slice a xs.length c), (1, .func (.func 52) #[] #[.pointer (some ⟨bw, 0, none⟩), .pointer (some ⟨bf, 0, none⟩)]), (6, .slice a xs.length c), (7, .int .i64 ((xs.length : Nat) : Int)), (8, .int .i64 ((i : Nat) : Int))]) 0) ⟨rfl, rfl, rfl, rfl, rfl, trivial⟩ (JC.loop (α := Nat) (fun i => [(0, .slice a xs.length c), (1, .func (.func 52) #[] #[.pointer (some ⟨bw, 0, none⟩), .pointer (some ⟨bf, 0, none⟩)]), (6, .slice a xs.length c), (7, .int .i64 ((xs.length : Nat) : Int)), (8, .int .i64 ((i : Nat) : Int))]) (fun i w' => (i ≤ xs.length ∧ ∀ j y, j < i → xs[j]? = some y → wnt W F y = false) ∧ St w [bw, bf] [(bw, cb [wv] 24), (bf, cb [fv] 24)] w') (fun i => xs.length - i) 0 (fun i => ?_))) (fun w hw => ⟨⟨Nat.zero_le _, fun j y hj => by omega⟩, hw⟩)
  refine JC.pr (fun hx => ?_)
  obtain ⟨hi, hpre⟩ := hx
  refine JC.seq (fun K3 hK3 => ?_)
  refine JC.region ?_
  refine J.bin rfl rfl rfl rfl ?_
  refine J.nil ?_
  refine JX.thenN (hK3 _ _ ?_)
  refine JC.seq (fun K4 hK4 => ?_)
  refine JC.cond rfl (fun h0 => ?_) (fun h0 => ?_)
  · skip
    have hlt : i < xs.length := by simp at h0; omega
    obtain ⟨ba, oa, ca, hva, hca, hcel⟩ := hr.some (by rw [fC_len]; omega)
    simp only [Value.slice.injEq] at hva
    obtain ⟨rfl, -, rfl⟩ := hva
    refine JC.skip ?_
    refine JX.thenN (hK4 _ _ ?_)
    refine JC.seq (fun K5 hK5 => ?_)
    refine JC.block ?_
    refine JC.seq (fun K6 hK6 => ?_)
    refine JC.region ?_
    refine J.move rfl rfl ?_
    refine J.assign rfl rfl ?_
    refine J.nil ?_
    refine JX.thenN (hK6 _ _ ?_)
    refine JC.seq (fun K7 hK7 => ?_)
    refine JC.region ?_
    refine J.move rfl rfl ?_
    refine J.move rfl rfl ?_
    refine J.move rfl rfl ?_
    refine J.indexAddrS Ty.el68 Ty.s75 rfl rfl (by omega) (by omega) rfl ?_
    refine J.loadA (vs := cC xs[i]) Ty.a75 Ty.s75 rfl rfl (fun w1 hw => rowG_at (c := cC) (sz := 35) (fun _ => rfl) (hr.st hoff hw) (List.getElem?_eq_getElem hlt) (by rw [Int.toNat_natCast])) rfl ?_
    refine J.callVB (v := .bool (wnt W F (xs[i]))) (fun w1 w2 hw hb => hw.step hb) Ty.bd52 rfl rfl rfl (fun w1 hw => by simpa using asks1_spec bw bf wv fv W F (xs[i]) w1 hw.owns' (hrW.st hoW hw) (hrF.st hoF hw) hlW hlF (offSub hoW (by simp)) (offSub hoF (by simp))) ?_
    refine J.nil ?_
    refine JX.thenN (hK7 _ _ ?_)
    refine JC.cond rfl (fun h1 => ?_) (fun h1 => ?_)
    · skip
      have he : wnt W F xs[i] = true := by simpa using h1
      refine JC.seq (fun K8 hK8 => ?_)
      refine JC.region ?_
      refine J.move rfl rfl ?_
      refine J.assign rfl rfl ?_
      refine J.nil ?_
      refine JX.thenN (hK8 _ _ ?_)
      refine JC.ret ?_
      refine JX.blockR ?_
      refine JX.thenR ?_
      refine JX.thenR ?_
      refine JX.blockR ?_
      refine JX.thenR ?_
      refine JX.ret1 rfl rfl (fun w hw => ?_)
      first | exact ⟨by rw [plc_at hlt hpre he], hw.same hw0 (fun p hp => hp)⟩ | exact ⟨by rw [plc_no (fun y hy => by obtain ⟨j, hj⟩ := List.mem_iff_getElem?.1 hy; exact hpre j y (by have := (List.getElem?_eq_some_iff.1 hj).1; omega) hj)], hw.same hw0 (fun p hp => hp)⟩
    · skip
      have hne : ¬ wnt W F xs[i] = true := by simp [h1]
      refine JC.skip ?_
      refine JX.blockN ?_
      refine JX.thenN (hK5 _ _ ?_)
      refine JC.region ?_
      (first | refine J.addN rfl rfl (by omega) (by omega) rfl ?_ | refine J.bin rfl rfl rfl rfl ?_)
      refine J.move rfl rfl ?_
      refine J.nil ?_
      refine JX.thenN ?_
      refine JX.again (i + 1) ?_ ?_ ?_
      · omega
      · exact ⟨rfl, rfl, rfl, rfl, rfl, trivial⟩
      · exact fun w1 hw => ⟨⟨hlt, fun j y hj hy => by
        rcases Nat.lt_or_ge j i with h | h
        · exact hpre j y h hy
        · have : j = i := by omega
          subst this
          rw [List.getElem?_eq_getElem hlt] at hy
          rw [← Option.some.inj hy]; simpa using hne⟩, hw⟩
  · skip
    have hge : i = xs.length := by simp at h0; omega
    refine JC.exit ?_
    refine JX.thenE ?_
    refine JX.thenE ?_
    refine JX.blockE ?_
    refine JX.thenN (hK1 _ _ ?_)
    refine JC.seq (fun K9 hK9 => ?_)
    refine JC.region ?_
    refine J.assign rfl rfl ?_
    refine J.nil ?_
    refine JX.thenN (hK9 _ _ ?_)
    refine JC.ret ?_
    refine JX.ret1 rfl rfl (fun w hw => ?_)
    first | exact ⟨by rw [plc_at hlt hpre he], hw.same hw0 (fun p hp => hp)⟩ | exact ⟨by rw [plc_no (fun y hy => by obtain ⟨j, hj⟩ := List.mem_iff_getElem?.1 hy; exact hpre j y (by have := (List.getElem?_eq_some_iff.1 hj).1; omega) hj)], hw.same hw0 (fun p hp => hp)⟩

theorem cloneC_nil (k c : Nat) (w : World) :
    Calls Try.prog 51 [.slice none k c].toArray w fun r w' => r = .returned (.slice none 0 0) ∧ Bel w w' := by
  refine calls_of_J (args := [.slice none k c]) (e := [(0, .slice none k c)]) Try.func51 rfl rfl ⟨rfl, trivial⟩ (St.start w) ?_
  refine JC.seq (fun K0 hK0 => ?_)
  refine JC.region ?_
  refine J.assign rfl rfl ?_
  refine J.nil ?_
  refine JX.thenN (hK0 _ _ ?_)
  refine JC.seq (fun K1 hK1 => ?_)
  refine JC.seq (fun K2 hK2 => ?_)
  refine JC.region ?_
  refine J.move rfl rfl ?_
  refine J.eqNilSl Ty.u68 rfl rfl rfl ?_
  refine J.nil ?_
  refine JX.thenN (hK2 _ _ ?_)
  first | refine JC.condT rfl ?_ | refine JC.cond rfl (fun _ => ?_) (fun h => by first | (exfalso; simp at h; omega) | (simp at h))
  refine JC.seq (fun K3 hK3 => ?_)
  refine JC.region ?_
  refine J.assign rfl rfl ?_
  refine J.nil ?_
  refine JX.thenN (hK3 _ _ ?_)
  refine JC.ret ?_
  refine JX.thenR ?_
  refine JX.ret1 rfl rfl (fun w hw => ?_)
  exact ⟨rfl, hw.below⟩

theorem cloneC_some (a : Addr) (c : Nat) (xs : List CV) (w : World) (hr : Row w (.slice (some a) xs.length c) xs.length (fC xs)) (hl : xs.length ≤ 1099511627776) :
    Calls Try.prog 51 [.slice (some a) xs.length c].toArray w fun r w' => ∃ x : Value × List (Nat × Obj), r = .returned x.1 ∧ Vec 75 35 x.1 (xs).length (fC (xs)) x.2 ∧ St w [] x.2 w' := by
  refine calls_of_J (args := [.slice (some a) xs.length c]) (e := [(0, .slice (some a) xs.length c)]) Try.func51 rfl rfl ⟨rfl, trivial⟩ (St.start w) ?_
  refine JC.seq (fun K0 hK0 => ?_)
  refine JC.region ?_
  refine J.assign rfl rfl ?_
  refine J.nil ?_
  refine JX.thenN (hK0 _ _ ?_)
  refine JC.seq (fun K1 hK1 => ?_)
  refine JC.seq (fun K2 hK2 => ?_)
  refine JC.region ?_
  refine J.move rfl rfl ?_
  refine J.eqNilSl Ty.u68 rfl rfl rfl ?_
  refine J.nil ?_
  refine JX.thenN (hK2 _ _ ?_)
  first | refine JC.condF rfl ?_ | refine JC.cond rfl (fun h => by first | (exfalso; simp at h; omega) | (simp at h)) (fun _ => ?_)
  refine JC.skip ?_
  refine JX.thenN (hK1 _ _ ?_)
  refine JC.seq (fun K3 hK3 => ?_)
  refine JC.region ?_
  refine J.buildSl (cs := []) Ty.el68 Ty.s75 zCan rfl rfl rfl rfl rfl rfl rfl (fun b5 => ?_)
  refine J.move rfl rfl ?_
  refine J.append (lp := [(b5, cb [] 75)]) (xs := []) (ys := fC xs) (k := 0) (m := xs.length) Ty.el68 Ty.s75 Ty.b75 zCan rfl (.inl ⟨75, Ty.u68⟩) rfl rfl ⟨rfl, .inr ⟨b5, 0, [], rfl, rfl, rfl, Nat.le_refl _⟩⟩ (fun w1 hw => .inl (hr.below (hw.drop (List.nil_sublist _)).below)) (fC_len xs) (fun y hy => one_fC hy) (by omega) (by omega) rfl (fun v7 lp7 hv7 => ?_)
  rw [Nat.zero_add, List.nil_append] at hv7
  refine J.assign rfl rfl ?_
  refine J.nil ?_
  refine JX.thenN (hK3 _ _ ?_)
  refine JC.ret ?_
  refine JX.ret1 rfl rfl (fun w hw => ?_)
  exact ⟨(v7, lp7), rfl, hv7, hw.perm (by simp)⟩

theorem deleteFuncC_spec (q cap : Nat) (xs : List CV) (sp : List Value) (bw bf : Nat) (wv fv : Value) (W F : List IDV) (w : World) (hw0 : Own w [(q, cb (fC (xs) ++ sp) 75), (bw, cb [wv] 24), (bf, cb [fv] 24)]) (hcap : xs.length ≤ cap) (hsz : (fC xs ++ sp).length = cap * 35) (hl : xs.length ≤ 1099511627776) (hrW : Row w wv W.length (fI W)) (hrF : Row w fv F.length (fI F)) (hlW : W.length ≤ 1099511627776) (hlF : F.length ≤ 1099511627776) (hoW : Off [q, bw, bf] wv (fI W)) (hoF : Off [q, bw, bf] fv (fI F)) :
    Calls Try.prog 50 [.slice (some ⟨q, 0, none⟩) xs.length cap, .func (.func 52) #[] #[.pointer (some ⟨bw, 0, none⟩), .pointer (some ⟨bf, 0, none⟩)]].toArray w fun r w' => ∃ sp' : List Value, r = .returned (.slice (some ⟨q, 0, none⟩) (dels (wnt W F) xs).length cap) ∧ (fC (dels (wnt W F) xs) ++ sp').length = cap * 35 ∧ St w [q, bw, bf] [(q, cb (fC (dels (wnt W F) xs) ++ sp') 75), (bw, cb [wv] 24), (bf, cb [fv] 24)] w' := by
  refine calls_of_J (args := [.slice (some ⟨q, 0, none⟩) xs.length cap, .func (.func 52) #[] #[.pointer (some ⟨bw, 0, none⟩), .pointer (some ⟨bf, 0, none⟩)]]) (e := [(0, .slice (some ⟨q, 0, none⟩) xs.length cap), (1, .func (.func 52) #[] #[.pointer (some ⟨bw, 0, none⟩), .pointer (some ⟨bf, 0, none⟩)])]) Try.func50 rfl rfl ⟨rfl, rfl, trivial⟩ (hw0.st) ?_
  refine JC.seq (fun K0 hK0 => ?_)
  refine JC.region ?_
  refine J.assign rfl rfl ?_
  refine J.nil ?_
  refine JX.thenN (hK0 _ _ ?_)
  refine JC.seq (fun K1 hK1 => ?_)
  refine JC.region ?_
  refine J.move rfl rfl ?_
  refine J.move rfl rfl ?_
  refine J.callB (v := .int .i64 (plc (wnt W F) xs)) (fun w1 w2 hw hb => hw.step hb) Ty.bd71 rfl rfl (fun w1 hw => indexFuncC_spec (.slice (some ⟨q, 0, none⟩) xs.length cap) xs bw bf wv fv W F w1 (St.owns (l1 := [(bw, cb [wv] 24), (bf, cb [fv] 24)]) (l := [(q, cb (fC (xs) ++ sp) 75)]) (hw.perm (by (refine perm_cnt (fun _ => ?_)); simp only [cntB_append, cntB_cons, cntB_nil, Nat.add_zero, Nat.zero_add]; try ac_rfl))) (Row.own hw (.head _) (by simp) hcap) (Off.mk (St.off (l1 := [(bw, cb [wv] 24), (bf, cb [fv] 24)]) (l := [(q, cb (fC (xs) ++ sp) 75)]) (hw.perm (by (refine perm_cnt (fun _ => ?_)); simp only [cntB_append, cntB_cons, cntB_nil, Nat.add_zero, Nat.zero_add]; try ac_rfl)) (.head _))) (by omega) (hrW.st hoW hw) (hrF.st hoF hw) hlW hlF (offSub hoW (by simp)) (offSub hoF (by simp))) ?_
  refine J.assign rfl rfl ?_
  refine J.nil ?_
  refine JX.thenN (hK1 _ _ ?_)
  refine JC.seq (fun K2 hK2 => ?_)
  refine JC.seq (fun K3 hK3 => ?_)
  refine JC.region ?_
  refine J.move rfl rfl ?_
  refine J.bin rfl rfl rfl rfl ?_
  refine J.nil ?_
  refine JX.thenN (hK3 _ _ ?_)
  refine JC.cond rfl (fun h0 => ?_) (fun h0 => ?_)
  · skip
    have hno : plc (wnt W F) xs = -1 := by simp at h0; exact h0
    have hxs : dels (wnt W F) xs = xs := dels_none (plc_neg hno)
    refine JC.seq (fun K4 hK4 => ?_)
    refine JC.region ?_
    refine J.move rfl rfl ?_
    refine J.assign rfl rfl ?_
    refine J.nil ?_
    refine JX.thenN (hK4 _ _ ?_)
    refine JC.ret ?_
    refine JX.thenR ?_
    refine JX.ret1 rfl rfl (fun w hw => ?_)
    first | exact ⟨sp, by rw [hxs], by rw [hxs]; exact hsz, by rw [hxs]; exact hw⟩ | exact ⟨sp2, rfl, by rw [hc2, List.length_append, hfz, hzl, ← fC_len xs, ← List.length_append]; exact hsz, hw⟩
  · skip
    have hge := plc_ge (wnt W F) xs
    have hne1 : plc (wnt W F) xs ≠ -1 := by simp at h0; exact h0
    obtain ⟨i0, y0, hi0, hi1, hiy, hi2⟩ := plc_spec (f := wnt W F) (xs := xs) (by omega)
    have hi3 := (List.getElem?_eq_some_iff.1 hi1).1
    have hst := DCInv.start hi1 hiy hi2
    refine JC.skip ?_
    refine JX.thenN (hK2 _ _ ?_)
    refine JC.seq (fun K5 hK5 => ?_)
    refine JC.seq (fun K6 hK6 => ?_)
    refine JC.region ?_
    refine J.name 5 rfl (congrArg (Value.int .i64) hi0) ?_
    refine J.move rfl rfl ?_
    (first | refine J.addN rfl rfl (by omega) (by omega) rfl ?_ | refine J.bin rfl rfl rfl rfl ?_)
    refine J.assign rfl rfl ?_
    refine J.nil ?_
    refine JX.thenN (hK6 _ _ ?_)
    refine JC.block ?_
    refine JC.conseq (JC.cov (f := (fun st => [(0, .slice (some ⟨q, 0, none⟩) xs.length cap), (1, .func (.func 52) #[] #[.pointer (some ⟨bw, 0, none⟩), .pointer (some ⟨bf, 0, none⟩)]), (5, .int .i64 ((st.i : Nat) : Int)), (6, .int .i64 ((st.j : Nat) : Int))]) (⟨i0, i0 + 1, xs⟩ : DCG)) ⟨rfl, rfl, rfl, rfl, trivial⟩ (JC.loop (α := DCG) (fun st => [(0, .slice (some ⟨q, 0, none⟩) xs.length cap), (1, .func (.func 52) #[] #[.pointer (some ⟨bw, 0, none⟩), .pointer (some ⟨bf, 0, none⟩)]), (5, .int .i64 ((st.i : Nat) : Int)), (6, .int .i64 ((st.j : Nat) : Int))]) (fun st w' => (DCInv (wnt W F) xs ⟨st.j, st.zs⟩ ∧ st.i = (dels (wnt W F) (xs.take st.j)).length) ∧ St w [q, bw, bf] [(q, cb (fC (st.zs) ++ sp) 75), (bw, cb [wv] 24), (bf, cb [fv] 24)] w') (fun st => xs.length - st.j) (⟨i0, i0 + 1, xs⟩ : DCG) (fun st => ?_))) (fun w hw => ⟨⟨hst.1, hst.2.symm⟩, hw⟩)
    obtain ⟨i, j, zs⟩ := st
    refine JC.pr (fun hx => ?_)
    obtain ⟨hI, hiv⟩ := hx
    have hjl := hI.hj
    have hzl := hI.hl
    simp only at hiv hjl hzl ⊢
    refine JC.seq (fun K7 hK7 => ?_)
    refine JC.seq (fun K8 hK8 => ?_)
    refine JC.region ?_
    refine J.move rfl rfl ?_
    refine J.move rfl rfl ?_
    refine J.lenS rfl Ty.u68 rfl rfl ?_
    refine J.bin rfl rfl rfl rfl ?_
    refine J.nil ?_
    refine JX.thenN (hK8 _ _ ?_)
    refine JC.cond rfl (fun h1 => ?_) (fun h1 => ?_)
    · skip
      have hlt : j < xs.length := by simp at h1; omega
      have hget : zs[j]? = some xs[j] := hI.get hlt
      have hile : i ≤ j := by
        have := dels_le (wnt W F) (xs.take j)
        rw [List.length_take] at this
        omega
      refine JC.skip ?_
      refine JX.thenN (hK7 _ _ ?_)
      refine JC.seq (fun K9 hK9 => ?_)
      refine JC.block ?_
      refine JC.seq (fun K10 hK10 => ?_)
      refine JC.region ?_
      refine J.move rfl rfl ?_
      refine J.move rfl rfl ?_
      refine J.indexAddrS Ty.el68 Ty.s75 rfl rfl (by omega) (by omega) rfl ?_
      refine J.loadA (vs := cC xs[j]) Ty.a75 Ty.s75 rfl rfl (fun w1 hw => rowG_at (c := cC) (sz := 35) (fun _ => rfl) (rowC_own (xs := zs) hw (.head _) hzl hcap) hget (by rw [Int.toNat_natCast])) rfl ?_
      refine J.alloc zCan rfl rfl (fun b7 => ?_)
      refine J.storeW Ty.s75 rfl rfl rfl rfl rfl (by simp [Value.oneCell']) (by repeat first | exact .here | apply Up.there) ?_
      refine J.nil ?_
      refine JX.thenN (hK10 _ _ ?_)
      refine JC.seq (fun K11 hK11 => ?_)
      refine JC.region ?_
      refine J.move rfl rfl ?_
      refine J.loadOA (vs := cC xs[j]) Ty.a75 Ty.s75 rfl (by repeat first | exact .head _ | apply List.Mem.tail | apply List.mem_append_right) (by exact rfl) rfl rfl ?_
      refine J.callVB (v := .bool (wnt W F (xs[j]))) (fun w1 w2 hw hb => hw.step hb) Ty.bd52 rfl rfl rfl (fun w1 hw => by simpa using asks1_spec bw bf wv fv W F (xs[j]) w1 (St.owns (l1 := [(bw, cb [wv] 24), (bf, cb [fv] 24)]) (l := [(b7, cb (cC xs[j]) 75), (q, cb (fC (zs) ++ sp) 75)]) (hw.perm (by (refine perm_cnt (fun _ => ?_)); simp only [cntB_append, cntB_cons, cntB_nil, Nat.add_zero, Nat.zero_add]; try ac_rfl))) (hrW.st hoW hw) (hrF.st hoF hw) hlW hlF (offSub hoW (by simp)) (offSub hoF (by simp))) ?_
      refine J.not rfl rfl ?_
      refine J.nil ?_
      refine JX.thenN (hK11 _ _ ?_)
      refine JC.cond rfl (fun h2 => ?_) (fun h2 => ?_)
      · skip
        have hxn : ¬ wnt W F xs[j] = true := by simp at h2; simp [h2]
        have hput := hI.put hlt hxn
        simp only at hput
        refine JC.seq (fun K12 hK12 => ?_)
        refine JC.region ?_
        refine J.move rfl rfl ?_
        refine J.move rfl rfl ?_
        refine J.loadOA (vs := cC xs[j]) Ty.a75 Ty.s75 rfl (by repeat first | exact .head _ | apply List.Mem.tail | apply List.mem_append_right) (by exact rfl) rfl rfl ?_
        refine J.indexAddrS Ty.el68 Ty.s75 rfl rfl (by omega) (by omega) rfl ?_
        refine J.storeO (cs := fC zs ++ sp) (vs := cC xs[j]) Ty.s75 rfl rfl rfl rfl (one_cC _) (.there .here) (by have := fC_len zs; simp only [List.length_append]; omega) ?_
        refine J.conseq (I' := St w [q, bw, bf] [(b7, cb (cC xs[j]) 75), (q, cb (fC (zs.set i xs[j]) ++ sp) 75), (bw, cb [wv] 24), (bf, cb [fv] 24)]) ?_ (fun w1 hw => by rw [← set_C (show i < zs.length by omega) (o := 0 + (i : Int).toNat * 35) (by omega)]; exact hw)
        refine J.nil ?_
        refine JX.thenN (hK12 _ _ ?_)
        refine JC.region ?_
        refine J.move rfl rfl ?_
        (first | refine J.addN rfl rfl (by omega) (by omega) rfl ?_ | refine J.bin rfl rfl rfl rfl ?_)
        refine J.assign rfl rfl ?_
        refine J.nil ?_
        refine JX.blockN ?_
        refine JX.thenN (hK9 _ _ ?_)
        refine JC.region ?_
        refine J.move rfl rfl ?_
        (first | refine J.addN rfl rfl (by omega) (by omega) rfl ?_ | refine J.bin rfl rfl rfl rfl ?_)
        refine J.assign rfl rfl ?_
        refine J.nil ?_
        refine JX.thenN ?_
        refine JX.again (⟨i + 1, j + 1, zs.set i xs[j]⟩ : DCG) ?_ ?_ ?_
        · simp only; omega
        · exact ⟨rfl, rfl, rfl, rfl, trivial⟩
        · exact fun w1 hw => ⟨⟨by rw [hiv]; exact hput.1, by rw [hput.2, ← hiv]⟩, hw.drop (List.sublist_cons_self _ _)⟩
      · skip
        have hxe : wnt W F xs[j] = true := by simp at h2; exact h2
        have hskip := hI.skip hlt hxe
        simp only at hskip
        refine JC.skip ?_
        refine JX.blockN ?_
        refine JX.thenN (hK9 _ _ ?_)
        refine JC.region ?_
        refine J.move rfl rfl ?_
        (first | refine J.addN rfl rfl (by omega) (by omega) rfl ?_ | refine J.bin rfl rfl rfl rfl ?_)
        refine J.assign rfl rfl ?_
        refine J.nil ?_
        refine JX.thenN ?_
        refine JX.again (⟨i, j + 1, zs⟩ : DCG) ?_ ?_ ?_
        · simp only; omega
        · exact ⟨rfl, rfl, rfl, rfl, trivial⟩
        · exact fun w1 hw => ⟨⟨hskip.1, by rw [hskip.2]; exact hiv⟩, hw.drop (List.sublist_cons_self _ _)⟩
    · skip
      have hge : j = xs.length := by simp at h1; omega
      subst hge
      have hfin : i = (dels (wnt W F) xs).length := by rw [hiv, List.take_of_length_le (Nat.le_refl _)]
      have hile : i ≤ xs.length := by have := dels_le (wnt W F) xs; omega
      have htk := hI.tk
      simp only at htk
      rw [List.take_of_length_le (Nat.le_refl _), ← hfin] at htk
      refine JC.exit ?_
      refine JX.thenE ?_
      refine JX.thenE ?_
      refine JX.blockE ?_
      refine JX.thenN (hK5 _ _ ?_)
      refine JC.seq (fun K13 hK13 => ?_)
      refine JC.region ?_
      refine J.move rfl rfl ?_
      refine J.move rfl rfl ?_
      obtain ⟨oo, hoo, hoz⟩ : ∃ oo, (if cap = i then some (⟨q, 0, none⟩ : Addr) else (some (⟨q, 0, none⟩ : Addr)).map (·.add (i * 35))) = some ⟨q, oo, none⟩ ∧ (xs.length - i = 0 ∨ oo = i * 35) := by
        by_cases hci : cap = i
        · exact ⟨0, by rw [if_pos hci], .inl (by omega)⟩
        · exact ⟨i * 35, by rw [if_neg hci]; simp [Addr.add]; omega, .inr rfl⟩
      refine J.sliceS Ty.el68 Ty.s75 rfl rfl rfl rfl rfl (by omega) (by omega) (by omega) rfl ?_
      refine J.name 38 rfl (show _ = Value.slice (some ⟨q, oo, none⟩) (xs.length - i) (cap - i) by rw [← hoo]; rfl) ?_
      have hfz := fC_len zs
      obtain ⟨sp2, hc1, hc2⟩ := clear_C (sp := sp) (Z := (Builtin.zeroCells (cC zCV).toArray (xs.length - i)).toList) hzl htk hile (by rw [zeroCells_length]; rfl) hoz
      refine J.clear (cs := fC zs ++ sp) (sz := 35) rfl Ty.el68 zCan rfl (by decide) (fun u hu => one_fC (xs := [zCV]) (List.mem_append_left [] hu)) rfl .here (by simp only [List.length_append]; rcases hoz with h | h <;> omega) ?_
      refine J.conseq (I' := St w [q, bw, bf] [(q, cb (fC (dels (wnt W F) xs) ++ sp2) 75), (bw, cb [wv] 24), (bf, cb [fv] 24)]) ?_ (fun w1 hw => by rw [← hc1]; exact hw)
      refine J.nil ?_
      refine JX.thenN (hK13 _ _ ?_)
      refine JC.seq (fun K14 hK14 => ?_)
      refine JC.region ?_
      refine J.move rfl rfl ?_
      refine J.move rfl rfl ?_
      refine J.sliceS Ty.el68 Ty.s75 rfl rfl rfl rfl rfl (by omega) (by omega) (by omega) rfl ?_
      refine J.name 41 rfl (show _ = Value.slice (some ⟨q, 0, none⟩) (dels (wnt W F) xs).length cap by rw [← hfin]; split <;> simp [Addr.add]) ?_
      refine J.assign rfl rfl ?_
      refine J.nil ?_
      refine JX.thenN (hK14 _ _ ?_)
      refine JC.ret ?_
      refine JX.ret1 rfl rfl (fun w hw => ?_)
      first | exact ⟨sp, by rw [hxs], by rw [hxs]; exact hsz, by rw [hxs]; exact hw⟩ | exact ⟨sp2, rfl, by rw [hc2, List.length_append, hfz, hzl, ← fC_len xs, ← List.length_append]; exact hsz, hw⟩

theorem deleteFuncC_nil (bw bf : Nat) (wv fv : Value) (W F : List IDV) (w : World) (hw0 : Own w [(bw, cb [wv] 24), (bf, cb [fv] 24)]) (hrW : Row w wv W.length (fI W)) (hrF : Row w fv F.length (fI F)) (hlW : W.length ≤ 1099511627776) (hlF : F.length ≤ 1099511627776) (hoW : Off [bw, bf] wv (fI W)) (hoF : Off [bw, bf] fv (fI F)) :
    Calls Try.prog 50 [.slice none 0 0, .func (.func 52) #[] #[.pointer (some ⟨bw, 0, none⟩), .pointer (some ⟨bf, 0, none⟩)]].toArray w fun r w' => r = .returned (.slice none 0 0) ∧ Bel w w' := by
  refine calls_of_J (args := [.slice none 0 0, .func (.func 52) #[] #[.pointer (some ⟨bw, 0, none⟩), .pointer (some ⟨bf, 0, none⟩)]]) (e := [(0, .slice none 0 0), (1, .func (.func 52) #[] #[.pointer (some ⟨bw, 0, none⟩), .pointer (some ⟨bf, 0, none⟩)])]) Try.func50 rfl rfl ⟨rfl, rfl, trivial⟩ (hw0.st) ?_
  refine JC.seq (fun K0 hK0 => ?_)
  refine JC.region ?_
  refine J.assign rfl rfl ?_
  refine J.nil ?_
  refine JX.thenN (hK0 _ _ ?_)
  refine JC.seq (fun K1 hK1 => ?_)
  refine JC.region ?_
  refine J.move rfl rfl ?_
  refine J.move rfl rfl ?_
  refine J.callB (v := .int .i64 (plc (wnt W F) [])) (fun w1 w2 hw hb => hw.step hb) Ty.bd71 rfl rfl (fun w1 hw => indexFuncC_spec _ [] bw bf wv fv W F w1 hw.owns' (Vec.nil 75 35 |>.row (l := []) (w0 := w1) (S := []) (St.start w1)) (.inl rfl) (by decide) (hrW.st hoW hw) (hrF.st hoF hw) hlW hlF hoW hoF) ?_
  refine J.assign rfl rfl ?_
  refine J.nil ?_
  refine JX.thenN (hK1 _ _ ?_)
  refine JC.seq (fun K2 hK2 => ?_)
  refine JC.seq (fun K3 hK3 => ?_)
  refine JC.region ?_
  refine J.move rfl rfl ?_
  refine J.bin rfl rfl rfl rfl ?_
  refine J.nil ?_
  refine JX.thenN (hK3 _ _ ?_)
  first | refine JC.condT rfl ?_ | refine JC.cond rfl (fun _ => ?_) (fun h => by first | (exfalso; simp at h; omega) | (simp at h))
  refine JC.seq (fun K4 hK4 => ?_)
  refine JC.region ?_
  refine J.move rfl rfl ?_
  refine J.assign rfl rfl ?_
  refine J.nil ?_
  refine JX.thenN (hK4 _ _ ?_)
  refine JC.ret ?_
  refine JX.thenR ?_
  refine JX.ret1 rfl rfl (fun w hw => ?_)
  exact ⟨rfl, hw.same hw0 (fun p hp => hp)⟩


theorem vecC {v : Value} {xs : List CV} {lp : List (Nat × Obj)} (h : Vec 75 35 v (xs).length (fC (xs)) lp) : (v = .slice none 0 0 ∧ xs = [] ∧ lp = []) ∨ ∃ b c sp, v = .slice (some ⟨b, 0, none⟩) xs.length c ∧ lp = [(b, cb (fC xs ++ sp) 75)] ∧ (fC xs ++ sp).length = c * 35 ∧ xs.length ≤ c := by
  rcases h.2 with ⟨h1, h2, h3⟩ | h
  · exact .inl ⟨h1, List.eq_nil_of_length_eq_zero h2, h3⟩
  · exact .inr h
theorem vecC_mk {xs : List CV} {b c : Nat} {sp : List Value} (h1 : (fC xs ++ sp).length = c * 35) : Vec 75 35 (.slice (some ⟨b, 0, none⟩) xs.length c) (xs).length (fC (xs)) [(b, cb (fC xs ++ sp) 75)] := by
  refine ⟨fC_len xs, .inr ⟨b, c, sp, rfl, rfl, h1, ?_⟩⟩
  rw [List.length_append, fC_len] at h1
  omega
theorem cloneC_spec (v : Value) (xs : List CV) (w : World) (hr : Row w v xs.length (fC xs)) (hl : xs.length ≤ 1099511627776) :
    Calls Try.prog 51 [v].toArray w fun r w' => ∃ x : Value × List (Nat × Obj), r = .returned x.1 ∧ Vec 75 35 x.1 (xs).length (fC (xs)) x.2 ∧ St w [] x.2 w' := by
  obtain ⟨a, c, rfl, hc, h⟩ := id hr
  cases a with
  | none =>
    have hx : fC xs = [] := by
      rcases h with h | ⟨b, o, h, _⟩
      · exact h
      · cases h
    have hx0 : xs.length = 0 := by have := fC_len xs; rw [hx] at this; simp at this; omega
    have hx1 := List.eq_nil_of_length_eq_zero hx0
    subst hx1
    refine (cloneC_nil _ c w).mono fun r w' ⟨h1, h2⟩ => ⟨(.slice none 0 0, []), h1, Vec.nil _ _, (St.start w).step h2⟩
  | some a => exact (cloneC_some a c xs w hr hl).mono fun r w' ⟨x, h1, h2, h3⟩ => ⟨x, h1, h2, h3⟩
theorem deleteFuncC_vec (v : Value) (xs : List CV) (lp : List (Nat × Obj)) (bw bf : Nat) (wv fv : Value) (W F : List IDV) (w : World) (hv : Vec 75 35 v (xs).length (fC (xs)) lp) (hw0 : Own w (lp ++ [(bw, cb [wv] 24), (bf, cb [fv] 24)])) (hl : xs.length ≤ 1099511627776) (hrW : Row w wv W.length (fI W)) (hrF : Row w fv F.length (fI F)) (hlW : W.length ≤ 1099511627776) (hlF : F.length ≤ 1099511627776) (hoW : Off ((lp ++ [(bw, cb [wv] 24), (bf, cb [fv] 24)]).map (·.1)) wv (fI W)) (hoF : Off ((lp ++ [(bw, cb [wv] 24), (bf, cb [fv] 24)]).map (·.1)) fv (fI F)) :
    Calls Try.prog 50 [v, .func (.func 52) #[] #[.pointer (some ⟨bw, 0, none⟩), .pointer (some ⟨bf, 0, none⟩)]].toArray w fun r w' => ∃ x : Value × List (Nat × Obj), r = .returned x.1 ∧ Vec 75 35 x.1 (dels (wnt W F) xs).length (fC (dels (wnt W F) xs)) x.2 ∧ St w ((lp ++ [(bw, cb [wv] 24), (bf, cb [fv] 24)]).map (·.1)) (x.2 ++ [(bw, cb [wv] 24), (bf, cb [fv] 24)]) w' := by
  rcases vecC hv with ⟨rfl, rfl, rfl⟩ | ⟨b, c, sp, rfl, rfl, h1, h2⟩
  · exact (deleteFuncC_nil bw bf wv fv W F w hw0 hrW hrF hlW hlF hoW hoF).mono fun r w' ⟨h1, h2⟩ => ⟨(.slice none 0 0, []), h1, Vec.nil _ _, hw0.keep h2⟩
  · exact (deleteFuncC_spec b c xs sp bw bf wv fv W F w hw0 h2 h1 hl hrW hrF hlW hlF hoW hoF).mono fun r w' ⟨sp', h3, h4, h5⟩ => ⟨(_, [_]), h3, vecC_mk h4, h5⟩
theorem sortC_vec (v : Value) (xs : List CV) (lp : List (Nat × Obj)) (w : World) (hv : Vec 75 35 v (xs).length (fC (xs)) lp) (hw0 : Own w lp) (hl : xs.length ≤ 40) :
    Calls Try.prog 54 [v, .func (.func 55) #[] #[]].toArray w fun r w' => ∃ x : List CV × List (Nat × Obj), r = .returned (.tuple #[]) ∧ (SE ltC xs x.1 ∧ Srt ltC x.1 ∧ Vec 75 35 v (x.1).length (fC (x.1)) x.2) ∧ St w (lp.map (·.1)) x.2 w' := by
  rcases vecC hv with ⟨rfl, rfl, rfl⟩ | ⟨b, c, sp, rfl, rfl, h1, h2⟩
  · exact (sortStable0_spec none 0 w).mono fun r w' ⟨h1, h2⟩ => ⟨([], []), h1, ⟨SE.refl _, .nil, Vec.nil _ _⟩, (St.start w).step h2⟩
  · refine (sortStable_spec b xs.length c xs sp w hw0 rfl h2 hl).mono fun r w' ⟨Z, h3, h4, h5⟩ => ?_
    have hlz := h4.1.length swoC
    refine ⟨(Z, [_]), h3, ⟨h4.1, h4.2, ?_⟩, h5⟩
    have := vecC_mk (xs := Z) (b := b) (c := c) (sp := sp) (by rw [List.length_append, fC_len, ← hlz, ← fC_len, ← List.length_append]; exact h1)
    rw [← hlz] at this ⊢
    exact this
end Go.Proofs.Ytbafhclandendaa
/-
  slices.CompactFunc at candidates: contract.
-/
namespace Go.Proofs.Ytbafhclandendaa
open Go.J Go.RowKit
set_option linter.unusedVariables false
set_option linter.unusedSimpArgs false
set_option maxRecDepth 8000
def stepC (acc : List CV) (x : CV) : List CV := if acc.getLast?.map (·.id) = some x.id then acc else acc ++ [x]
/-- the first of each row of neighbours of one identity -/
def dedC (xs : List CV) : List CV := xs.foldl stepC []
theorem dedC_take {xs : List CV} {j : Nat} (h : j < xs.length) : dedC (xs.take (j + 1)) = stepC (dedC (xs.take j)) xs[j] := by
  rw [take_add_one h, dedC, List.foldl_append]; rfl
theorem stepC_last (acc : List CV) (x : CV) : (stepC acc x).getLast?.map (·.id) = some x.id := by
  unfold stepC
  split
  · assumption
  · simp
theorem dedC_last {xs : List CV} {j : Nat} (h : j < xs.length) : (dedC (xs.take (j + 1))).getLast?.map (·.id) = some xs[j].id := by
  rw [dedC_take h, stepC_last]
theorem dedC_same {xs : List CV} {j : Nat} (h : j + 1 < xs.length) (he : xs[j + 1].id = xs[j].id) : dedC (xs.take (j + 1 + 1)) = dedC (xs.take (j + 1)) := by
  rw [dedC_take h, stepC, if_pos (by rw [dedC_last (by omega), he])]
theorem dedC_new {xs : List CV} {j : Nat} (h : j + 1 < xs.length) (he : xs[j + 1].id ≠ xs[j].id) : dedC (xs.take (j + 1 + 1)) = dedC (xs.take (j + 1)) ++ [xs[j + 1]] := by
  rw [dedC_take h, stepC, if_neg (by rw [dedC_last (by omega)]; intro e; exact he (Option.some.inj e).symm)]
theorem dedC_one {xs : List CV} (h : 0 < xs.length) : dedC (xs.take 1) = xs.take 1 := by
  rw [dedC_take h, take_add_one h]; rfl
theorem dedC_short {xs : List CV} (h : xs.length < 2) : dedC xs = xs := by
  match xs, h with
  | [], _ => rfl
  | [x], _ => rfl
  | x :: y :: r, h => simp at h; omega
structure DKC where
  k : Nat
  k2 : Nat
  zs : List CV
structure KInv (xs : List CV) (k0 : Nat) (s : DKC) : Prop where
  h1 : 1 ≤ s.k2
  hn : k0 + s.k2 ≤ xs.length
  hl : s.zs.length = xs.length
  hk : s.k = (dedC (xs.take (k0 + s.k2))).length
  tk : s.zs.take s.k = dedC (xs.take (k0 + s.k2))
  le : s.k ≤ k0 + s.k2 - 1
  dr : s.zs.drop (k0 + s.k2 - 1) = xs.drop (k0 + s.k2 - 1)
theorem KInv.get {xs : List CV} {k0 : Nat} {s : DKC} (h : KInv xs k0 s) {i : Nat} (hi : k0 + s.k2 - 1 ≤ i) (hlt : i < xs.length) : s.zs[i]? = some xs[i] := by
  have e : (s.zs.drop (k0 + s.k2 - 1))[i - (k0 + s.k2 - 1)]? = (xs.drop (k0 + s.k2 - 1))[i - (k0 + s.k2 - 1)]? := by rw [h.dr]
  rw [List.getElem?_drop, List.getElem?_drop, show k0 + s.k2 - 1 + (i - (k0 + s.k2 - 1)) = i by omega, List.getElem?_eq_getElem hlt] at e
  exact e
theorem drop_nextC {a b : List CV} {i : Nat} (h : a.drop i = b.drop i) : a.drop (i + 1) = b.drop (i + 1) := by
  rw [← List.drop_drop, ← List.drop_drop, h]
theorem KInv.skip {xs : List CV} {k0 : Nat} {s : DKC} (h : KInv xs k0 s) (hlt : k0 + s.k2 < xs.length) (he : xs[k0 + s.k2].id = (xs[k0 + s.k2 - 1]'(by omega)).id) : KInv xs k0 ⟨s.k, s.k2 + 1, s.zs⟩ := by
  obtain ⟨j, hj⟩ : ∃ j, k0 + s.k2 = j + 1 := ⟨k0 + s.k2 - 1, by have := h.h1; omega⟩
  have e : dedC (xs.take (k0 + (s.k2 + 1))) = dedC (xs.take (k0 + s.k2)) := by
    rw [show k0 + (s.k2 + 1) = j + 1 + 1 by omega, hj]
    have hlt' : j + 1 < xs.length := by omega
    refine dedC_same hlt' ?_
    simp only [hj] at he
    simpa using he
  have hle := h.le
  have hdr := h.dr
  refine ⟨by simp only; omega, by simp only; omega, h.hl, by simp only; rw [e]; exact h.hk, by simp only; rw [e]; exact h.tk, by simp only; omega, ?_⟩
  simp only
  rw [show k0 + (s.k2 + 1) - 1 = (k0 + s.k2 - 1) + 1 by have := h.h1; omega]
  exact drop_nextC hdr
theorem KInv.put {xs : List CV} {k0 : Nat} {s : DKC} (h : KInv xs k0 s) (hlt : k0 + s.k2 < xs.length) (he : xs[k0 + s.k2].id ≠ (xs[k0 + s.k2 - 1]'(by omega)).id) : KInv xs k0 ⟨s.k + 1, s.k2 + 1, s.zs.set s.k xs[k0 + s.k2]⟩ := by
  obtain ⟨j, hj⟩ : ∃ j, k0 + s.k2 = j + 1 := ⟨k0 + s.k2 - 1, by have := h.h1; omega⟩
  have e : dedC (xs.take (k0 + (s.k2 + 1))) = dedC (xs.take (k0 + s.k2)) ++ [xs[k0 + s.k2]] := by
    have hlt' : j + 1 < xs.length := by omega
    simp only [hj] at he ⊢
    rw [show k0 + (s.k2 + 1) = j + 1 + 1 by omega]
    exact dedC_new hlt' (by simpa using he)
  have hle := h.le
  have h1 := h.h1
  have hk := h.hk
  have hl := h.hl
  refine ⟨by simp only; omega, by simp only; omega, by simp only [List.length_set]; exact h.hl, by simp only; rw [e, List.length_append, List.length_singleton, ← hk], ?_, by simp only; omega, ?_⟩
  · simp only
    rw [e, take_add_one (by rw [List.length_set, hl]; omega), List.getElem_set_self, List.take_set_of_le (Nat.le_refl _), h.tk]
  · simp only
    rw [show k0 + (s.k2 + 1) - 1 = (k0 + s.k2 - 1) + 1 by omega, List.drop_set_of_lt (by omega)]
    exact drop_nextC h.dr
theorem KInv.start {xs : List CV} {k0 : Nat} (h1 : 1 ≤ k0) (hlt : k0 < xs.length) (hp : dedC (xs.take k0) = xs.take k0) (he : xs[k0].id = (xs[k0 - 1]'(by omega)).id) : KInv xs k0 ⟨k0, 1, xs⟩ := by
  obtain ⟨j, rfl⟩ : ∃ j, k0 = j + 1 := ⟨k0 - 1, by omega⟩
  have e : dedC (xs.take (j + 1 + 1)) = xs.take (j + 1) := by
    rw [dedC_same hlt (by simpa using he), hp]
  have hl : (xs.take (j + 1)).length = j + 1 := by rw [List.length_take]; omega
  exact ⟨Nat.le_refl _, by simp only; omega, rfl, by simp only; rw [e, hl], by simp only; rw [e], by simp only; omega, rfl⟩

theorem asks2_spec (x y : CV) (w : World) :
    Calls Try.prog 57 [.agg (cC x).toArray, .agg (cC y).toArray].toArray w fun r w' => r = .returned (.bool (decide (x.id = y.id))) ∧ Bel w w' := by
  refine calls_of_J (args := [.agg (cC x).toArray, .agg (cC y).toArray]) (e := [(0, .agg (cC x).toArray), (1, .agg (cC y).toArray)]) Try.func57 rfl rfl ⟨rfl, rfl, trivial⟩ (St.start w) ?_
  refine JC.seq (fun K0 hK0 => ?_)
  refine JC.region ?_
  refine J.box rfl rfl rfl (fun b2 => ?_)
  refine J.box rfl rfl rfl (fun b3 => ?_)
  refine J.assign rfl rfl ?_
  refine J.nil ?_
  refine JX.thenN (hK0 _ _ ?_)
  refine JC.seq (fun K1 hK1 => ?_)
  refine JC.region ?_
  refine J.fieldAddr Ty.fd75_0 rfl rfl ?_
  refine J.loadA (vs := cI x.id) Ty.a23 Ty.s23 rfl rfl (fun w1 hw => Cells.of_block (hw.own (b2, cb (cC x) 75) (by repeat first | exact .head _ | apply List.Mem.tail | apply List.mem_append_right)) rfl) rfl ?_
  refine J.fieldAddr Ty.fd75_0 rfl rfl ?_
  refine J.loadA (vs := cI y.id) Ty.a23 Ty.s23 rfl rfl (fun w1 hw => Cells.of_block (hw.own (b3, cb (cC y) 75) (by repeat first | exact .head _ | apply List.Mem.tail | apply List.mem_append_right)) rfl) rfl ?_
  refine J.eqI Ty.QI Ty.keyI rfl rfl rfl ?_
  refine J.assign rfl rfl ?_
  refine J.nil ?_
  refine JX.thenN (hK1 _ _ ?_)
  refine JC.ret ?_
  refine JX.ret1 rfl rfl (fun w hw => ?_)
  exact ⟨rfl, (hw.drop (List.nil_sublist _)).below⟩

theorem compactC_spec (q cap : Nat) (xs : List CV) (sp : List Value) (w : World) (hw0 : Own w [(q, cb (fC (xs) ++ sp) 75)]) (hcap : xs.length ≤ cap) (hsz : (fC xs ++ sp).length = cap * 35) (hl : xs.length ≤ 1099511627776) :
    Calls Try.prog 56 [.slice (some ⟨q, 0, none⟩) xs.length cap, .func (.func 57) #[] #[]].toArray w fun r w' => ∃ sp' : List Value, r = .returned (.slice (some ⟨q, 0, none⟩) (dedC xs).length cap) ∧ (fC (dedC xs) ++ sp').length = cap * 35 ∧ St w [q] [(q, cb (fC (dedC xs) ++ sp') 75)] w' := by
  refine calls_of_J (args := [.slice (some ⟨q, 0, none⟩) xs.length cap, .func (.func 57) #[] #[]]) (e := [(0, .slice (some ⟨q, 0, none⟩) xs.length cap), (1, .func (.func 57) #[] #[])]) Try.func56 rfl rfl ⟨rfl, rfl, trivial⟩ (hw0.st) ?_
  refine JC.seq (fun K0 hK0 => ?_)
  refine JC.region ?_
  refine J.assign rfl rfl ?_
  refine J.nil ?_
  refine JX.thenN (hK0 _ _ ?_)
  refine JC.seq (fun K1 hK1 => ?_)
  refine JC.seq (fun K2 hK2 => ?_)
  refine JC.region ?_
  refine J.move rfl rfl ?_
  refine J.lenS rfl Ty.u68 rfl rfl ?_
  refine J.bin rfl rfl rfl rfl ?_
  refine J.nil ?_
  refine JX.thenN (hK2 _ _ ?_)
  refine JC.cond rfl (fun h0 => ?_) (fun h0 => ?_)
  · skip
    have hxs : dedC xs = xs := dedC_short (by simp at h0; omega)
    refine JC.seq (fun K3 hK3 => ?_)
    refine JC.region ?_
    refine J.move rfl rfl ?_
    refine J.assign rfl rfl ?_
    refine J.nil ?_
    refine JX.thenN (hK3 _ _ ?_)
    refine JC.ret ?_
    refine JX.thenR ?_
    refine JX.ret1 rfl rfl (fun w hw => ?_)
    first | exact ⟨sp, by rw [hxs], by rw [hxs]; exact hsz, by rw [hxs]; exact hw⟩ | exact ⟨sp2, rfl, by rw [hc2, List.length_append, hfz, hzl, ← fC_len xs, ← List.length_append]; exact hsz, hw⟩
  · skip
    have hn2 : 2 ≤ xs.length := by simp at h0; omega
    refine JC.skip ?_
    refine JX.thenN (hK1 _ _ ?_)
    refine JC.seq (fun K4 hK4 => ?_)
    refine JC.seq (fun K5 hK5 => ?_)
    refine JC.region ?_
    refine J.assign rfl rfl ?_
    refine J.nil ?_
    refine JX.thenN (hK5 _ _ ?_)
    refine JC.block ?_
    refine JC.conseq (JC.cov (f := (fun k => [(0, .slice (some ⟨q, 0, none⟩) xs.length cap), (1, .func (.func 57) #[] #[]), (5, .int .i64 ((k : Nat) : Int))]) 1) ⟨rfl, rfl, rfl, trivial⟩ (JC.loop (α := Nat) (fun k => [(0, .slice (some ⟨q, 0, none⟩) xs.length cap), (1, .func (.func 57) #[] #[]), (5, .int .i64 ((k : Nat) : Int))]) (fun k w' => (1 ≤ k ∧ k ≤ xs.length ∧ dedC (xs.take k) = xs.take k) ∧ St w [q] [(q, cb (fC (xs) ++ sp) 75)] w') (fun k => xs.length - k) 1 (fun k => ?_))) (fun w hw => ⟨⟨Nat.le_refl _, by omega, dedC_one (by omega)⟩, hw⟩)
    refine JC.pr (fun hx => ?_)
    obtain ⟨hk1, hkn, hpre⟩ := hx
    refine JC.seq (fun K6 hK6 => ?_)
    refine JC.seq (fun K7 hK7 => ?_)
    refine JC.region ?_
    refine J.move rfl rfl ?_
    refine J.move rfl rfl ?_
    refine J.lenS rfl Ty.u68 rfl rfl ?_
    refine J.bin rfl rfl rfl rfl ?_
    refine J.nil ?_
    refine JX.thenN (hK7 _ _ ?_)
    refine JC.cond rfl (fun h1 => ?_) (fun h1 => ?_)
    · skip
      have hlt : k < xs.length := by simp at h1; omega
      refine JC.skip ?_
      refine JX.thenN (hK6 _ _ ?_)
      refine JC.seq (fun K8 hK8 => ?_)
      refine JC.block ?_
      refine JC.seq (fun K9 hK9 => ?_)
      apply JC.drawX (α := Nat × Unit) 11 (fun x => match x with | ⟨xu, uu⟩ => [.func (.func 57) #[] #[], .slice (some ⟨q, 0, none⟩) xs.length cap, .int .i64 ((k : Nat) : Int), .pointer (some ⟨q, 0 + (k : Int).toNat * 35, none⟩), .agg (cC xs[k]).toArray, .slice (some ⟨q, 0, none⟩) xs.length cap, .int .i64 ((k : Nat) : Int), .int .i64 ((k : Int) - 1), .pointer (some ⟨q, 0 + ((k : Int) - 1).toNat * 35, none⟩), .agg (cC (xs[k - 1]'(by omega))).toArray, .bool (decide (xs[k].id = (xs[k - 1]'(by omega)).id))]) (fun m x => match x with | ⟨xu, uu⟩ => fun w1 => (True) ∧ St w [q] ((q, cb (fC (xs) ++ sp) 75) :: []) w1) Ty.mixed rfl rfl rfl (by kernel_rfl) rfl rfl ?hinit ?hstep ?htail
      case hinit => exact fun w1 hw => ⟨(0, ()), trivial, hw.drew⟩
      case hstep =>
        refine ⟨fun m x hm hp => ?_, fun m x hm hp => ?_, fun m x hm hp => ?_, fun m x hm hp => ?_, fun m x hm hp => ?_, fun m x hm hp => ?_, fun m x hm hp => ?_, fun m x hm hp => ?_, fun m x hm hp => ?_, fun m x hm hp => ?_, fun m x hm hp => ?_, trivial⟩
        · skip
          obtain ⟨xu, uu⟩ := x
          show J _ _ _ _ _ (_) _
          refine J.pr (fun hF => ?_)
          refine J.move rfl rfl ?_
          exact J.finX rfl (fun _ hw => ⟨⟨xu, uu⟩, rfl, fun _ _ _ => rfl, hF, hw⟩)
        · skip
          obtain ⟨xu, uu⟩ := x
          show J _ _ _ _ _ (_) _
          refine J.pr (fun hF => ?_)
          refine J.move rfl rfl ?_
          exact J.finX rfl (fun _ hw => ⟨⟨xu, uu⟩, rfl, fun _ _ _ => rfl, hF, hw⟩)
        · skip
          obtain ⟨xu, uu⟩ := x
          show J _ _ _ _ _ (_) _
          refine J.pr (fun hF => ?_)
          refine J.move rfl rfl ?_
          exact J.finX rfl (fun _ hw => ⟨⟨xu, uu⟩, rfl, fun _ _ _ => rfl, hF, hw⟩)
        · skip
          obtain ⟨xu, uu⟩ := x
          show J _ _ _ _ _ ((20, .int .i64 ((k : Nat) : Int)) :: (19, .slice (some ⟨q, 0, none⟩) xs.length cap) :: _) _
          refine J.pr (fun hF => ?_)
          refine J.indexAddrS Ty.el68 Ty.s75 rfl rfl (by omega) (by omega) rfl ?_
          exact J.finX rfl (fun _ hw => ⟨⟨xu, uu⟩, rfl, fun _ _ _ => rfl, hF, hw⟩)
        · skip
          obtain ⟨xu, uu⟩ := x
          show J _ _ _ _ _ ((21, .pointer (some ⟨q, 0 + (k : Int).toNat * 35, none⟩)) :: _) _
          refine J.pr (fun hF => ?_)
          refine J.loadA (vs := cC xs[k]) Ty.a75 Ty.s75 rfl rfl (fun w1 hw => rowG_at (c := cC) (sz := 35) (xs := xs) (k := xs.length) (cc := cap) (fun _ => rfl) (Row.own (o := 0) (cs := fC xs ++ sp) hw (.head _) (by rw [List.drop_zero, List.take_left]) hcap) (List.getElem?_eq_getElem hlt) (by omega)) rfl ?_
          exact J.finX rfl (fun _ hw => ⟨⟨xu, uu⟩, rfl, fun _ _ _ => rfl, hF, hw⟩)
        · skip
          obtain ⟨xu, uu⟩ := x
          show J _ _ _ _ _ (_) _
          refine J.pr (fun hF => ?_)
          refine J.move rfl rfl ?_
          exact J.finX rfl (fun _ hw => ⟨⟨xu, uu⟩, rfl, fun _ _ _ => rfl, hF, hw⟩)
        · skip
          obtain ⟨xu, uu⟩ := x
          show J _ _ _ _ _ (_) _
          refine J.pr (fun hF => ?_)
          refine J.move rfl rfl ?_
          exact J.finX rfl (fun _ hw => ⟨⟨xu, uu⟩, rfl, fun _ _ _ => rfl, hF, hw⟩)
        · skip
          obtain ⟨xu, uu⟩ := x
          show J _ _ _ _ _ ((24, .int .i64 ((k : Nat) : Int)) :: _) _
          refine J.pr (fun hF => ?_)
          (first | refine J.subN rfl rfl (by omega) (by omega) rfl ?_ | refine J.bin rfl rfl rfl rfl ?_)
          exact J.finX rfl (fun _ hw => ⟨⟨xu, uu⟩, rfl, fun _ _ _ => rfl, hF, hw⟩)
        · skip
          obtain ⟨xu, uu⟩ := x
          show J _ _ _ _ _ ((25, .int .i64 ((k : Int) - 1)) :: (23, .slice (some ⟨q, 0, none⟩) xs.length cap) :: _) _
          refine J.pr (fun hF => ?_)
          refine J.indexAddrS Ty.el68 Ty.s75 rfl rfl (by omega) (by omega) rfl ?_
          exact J.finX rfl (fun _ hw => ⟨⟨xu, uu⟩, rfl, fun _ _ _ => rfl, hF, hw⟩)
        · skip
          obtain ⟨xu, uu⟩ := x
          show J _ _ _ _ _ ((26, .pointer (some ⟨q, 0 + ((k : Int) - 1).toNat * 35, none⟩)) :: _) _
          refine J.pr (fun hF => ?_)
          refine J.loadA (vs := cC (xs[k - 1]'(by omega))) Ty.a75 Ty.s75 rfl rfl (fun w1 hw => rowG_at (c := cC) (sz := 35) (xs := xs) (k := xs.length) (cc := cap) (fun _ => rfl) (Row.own (o := 0) (cs := fC xs ++ sp) hw (.head _) (by rw [List.drop_zero, List.take_left]) hcap) (List.getElem?_eq_getElem (show k - 1 < xs.length by omega)) (by omega)) rfl ?_
          exact J.finX rfl (fun _ hw => ⟨⟨xu, uu⟩, rfl, fun _ _ _ => rfl, hF, hw⟩)
        · skip
          obtain ⟨xu, uu⟩ := x
          show J _ _ _ _ _ ((27, .agg (cC (xs[k - 1]'(by omega))).toArray) :: (22, .agg (cC xs[k]).toArray) :: (18, .func (.func 57) #[] #[]) :: _) _
          refine J.pr (fun hF => ?_)
          refine J.callVB (v := .bool (decide (xs[k].id = (xs[k - 1]'(by omega)).id))) (fun w1 w2 hw hb => hw.step hb) Ty.bd57 rfl rfl rfl (fun w1 hw => asks2_spec xs[k] (xs[k - 1]'(by omega)) w1) ?_
          exact J.finX rfl (fun _ hw => ⟨⟨xu, uu⟩, rfl, fun _ _ _ => rfl, hF, hw⟩)
      case htail =>
        intro x
        obtain ⟨xu, uu⟩ := x
        show J _ _ _ _ _ ((28, .bool (decide (xs[k].id = (xs[k - 1]'(by omega)).id))) :: (27, .agg (cC (xs[k - 1]'(by omega))).toArray) :: (26, .pointer (some ⟨q, 0 + ((k : Int) - 1).toNat * 35, none⟩)) :: (25, .int .i64 ((k : Int) - 1)) :: (24, .int .i64 ((k : Nat) : Int)) :: (23, .slice (some ⟨q, 0, none⟩) xs.length cap) :: (22, .agg (cC xs[k]).toArray) :: (21, .pointer (some ⟨q, 0 + (k : Int).toNat * 35, none⟩)) :: (20, .int .i64 ((k : Nat) : Int)) :: (19, .slice (some ⟨q, 0, none⟩) xs.length cap) :: (18, .func (.func 57) #[] #[]) :: _) (fun w1 => (True) ∧ St w [q] ((q, cb (fC (xs) ++ sp) 75) :: []) w1)
        refine J.pr (fun hF => ?_)
        refine J.nil ?_
        refine JX.thenN (hK9 _ _ ?_)
        refine JC.cond rfl (fun h2 => ?_) (fun h2 => ?_)
        · skip
          have he2 : xs[k].id = (xs[k - 1]'(by omega)).id := by simp at h2; exact h2
          have hst := KInv.start hk1 hlt hpre he2
          obtain ⟨k0, hk0⟩ : ∃ k0, k0 = k := ⟨_, rfl⟩
          subst hk0
          refine JC.seq (fun K10 hK10 => ?_)
          refine JC.region ?_
          refine J.move rfl rfl ?_
          refine J.move rfl rfl ?_
          refine J.sliceS Ty.el68 Ty.s75 rfl rfl rfl rfl rfl (by omega) (by omega) (by omega) rfl ?_
          refine J.name 31 rfl (show _ = Value.slice (some ⟨q, k0 * 35, none⟩) (xs.length - k0) (cap - k0) by rw [if_neg (by omega)]; simp [Addr.add]; try omega) ?_
          refine J.assign rfl rfl ?_
          refine J.nil ?_
          refine JX.thenN (hK10 _ _ ?_)
          refine JC.seq (fun K11 hK11 => ?_)
          refine JC.seq (fun K12 hK12 => ?_)
          refine JC.region ?_
          refine J.assign rfl rfl ?_
          refine J.nil ?_
          refine JX.thenN (hK12 _ _ ?_)
          refine JC.block ?_
          refine JC.conseq (JC.cov (f := (fun st => [(0, .slice (some ⟨q, 0, none⟩) xs.length cap), (1, .func (.func 57) #[] #[]), (5, .int .i64 ((st.k : Nat) : Int)), (6, .slice (some ⟨q, k0 * 35, none⟩) (xs.length - k0) (cap - k0)), (7, .int .i64 ((st.k2 : Nat) : Int))]) (⟨k0, 1, xs⟩ : DKC)) ⟨rfl, rfl, rfl, rfl, rfl, trivial⟩ (JC.loop (α := DKC) (fun st => [(0, .slice (some ⟨q, 0, none⟩) xs.length cap), (1, .func (.func 57) #[] #[]), (5, .int .i64 ((st.k : Nat) : Int)), (6, .slice (some ⟨q, k0 * 35, none⟩) (xs.length - k0) (cap - k0)), (7, .int .i64 ((st.k2 : Nat) : Int))]) (fun st w' => KInv xs k0 st ∧ St w [q] [(q, cb (fC (st.zs) ++ sp) 75)] w') (fun st => xs.length - (k0 + st.k2)) (⟨k0, 1, xs⟩ : DKC) (fun st => ?_))) (fun w hw => ⟨hst, hw⟩)
          obtain ⟨k, k2, zs⟩ := st
          refine JC.pr (fun hI => ?_)
          have hI1 := hI.h1
          have hIn := hI.hn
          have hzl := hI.hl
          have hIle := hI.le
          simp only at hI1 hIn hzl hIle ⊢
          refine JC.seq (fun K13 hK13 => ?_)
          refine JC.seq (fun K14 hK14 => ?_)
          refine JC.region ?_
          refine J.move rfl rfl ?_
          refine J.move rfl rfl ?_
          refine J.lenS rfl Ty.u68 rfl rfl ?_
          refine J.bin rfl rfl rfl rfl ?_
          refine J.nil ?_
          refine JX.thenN (hK14 _ _ ?_)
          refine JC.cond rfl (fun h3 => ?_) (fun h3 => ?_)
          · skip
            have hlt2 : k0 + k2 < xs.length := by simp at h3; omega
            refine JC.skip ?_
            refine JX.thenN (hK13 _ _ ?_)
            refine JC.seq (fun K15 hK15 => ?_)
            refine JC.block ?_
            refine JC.seq (fun K16 hK16 => ?_)
            apply JC.drawX (α := Nat × Unit) 12 (fun x => match x with | ⟨xu, uu⟩ => [.func (.func 57) #[] #[], .slice (some ⟨q, k0 * 35, none⟩) (xs.length - k0) (cap - k0), .int .i64 ((k2 : Nat) : Int), .pointer (some ⟨q, k0 * 35 + (k2 : Int).toNat * 35, none⟩), .agg (cC (xs[k0 + k2]'hlt2)).toArray, .slice (some ⟨q, k0 * 35, none⟩) (xs.length - k0) (cap - k0), .int .i64 ((k2 : Nat) : Int), .int .i64 ((k2 : Int) - 1), .pointer (some ⟨q, k0 * 35 + ((k2 : Int) - 1).toNat * 35, none⟩), .agg (cC (xs[k0 + k2 - 1]'(by omega))).toArray, .bool (decide ((xs[k0 + k2]'hlt2).id = (xs[k0 + k2 - 1]'(by omega)).id)), .bool (!decide ((xs[k0 + k2]'hlt2).id = (xs[k0 + k2 - 1]'(by omega)).id))]) (fun m x => match x with | ⟨xu, uu⟩ => fun w1 => (True) ∧ St w [q] ((q, cb (fC (zs) ++ sp) 75) :: []) w1) Ty.mixed rfl rfl rfl (by kernel_rfl) rfl rfl ?hinit ?hstep ?htail
            case hinit => exact fun w1 hw => ⟨(0, ()), trivial, hw.drew⟩
            case hstep =>
              refine ⟨fun m x hm hp => ?_, fun m x hm hp => ?_, fun m x hm hp => ?_, fun m x hm hp => ?_, fun m x hm hp => ?_, fun m x hm hp => ?_, fun m x hm hp => ?_, fun m x hm hp => ?_, fun m x hm hp => ?_, fun m x hm hp => ?_, fun m x hm hp => ?_, fun m x hm hp => ?_, trivial⟩
              · skip
                obtain ⟨xu, uu⟩ := x
                show J _ _ _ _ _ (_) _
                refine J.pr (fun hF => ?_)
                refine J.move rfl rfl ?_
                exact J.finX rfl (fun _ hw => ⟨⟨xu, uu⟩, rfl, fun _ _ _ => rfl, hF, hw⟩)
              · skip
                obtain ⟨xu, uu⟩ := x
                show J _ _ _ _ _ (_) _
                refine J.pr (fun hF => ?_)
                refine J.move rfl rfl ?_
                exact J.finX rfl (fun _ hw => ⟨⟨xu, uu⟩, rfl, fun _ _ _ => rfl, hF, hw⟩)
              · skip
                obtain ⟨xu, uu⟩ := x
                show J _ _ _ _ _ (_) _
                refine J.pr (fun hF => ?_)
                refine J.move rfl rfl ?_
                exact J.finX rfl (fun _ hw => ⟨⟨xu, uu⟩, rfl, fun _ _ _ => rfl, hF, hw⟩)
              · skip
                obtain ⟨xu, uu⟩ := x
                show J _ _ _ _ _ ((40, .int .i64 ((k2 : Nat) : Int)) :: (39, .slice (some ⟨q, k0 * 35, none⟩) (xs.length - k0) (cap - k0)) :: _) _
                refine J.pr (fun hF => ?_)
                refine J.indexAddrS Ty.el68 Ty.s75 rfl rfl (by omega) (by omega) rfl ?_
                exact J.finX rfl (fun _ hw => ⟨⟨xu, uu⟩, rfl, fun _ _ _ => rfl, hF, hw⟩)
              · skip
                obtain ⟨xu, uu⟩ := x
                show J _ _ _ _ _ ((41, .pointer (some ⟨q, k0 * 35 + (k2 : Int).toNat * 35, none⟩)) :: _) _
                refine J.pr (fun hF => ?_)
                refine J.loadA (vs := cC (xs[k0 + k2]'hlt2)) Ty.a75 Ty.s75 rfl rfl (fun w1 hw => rowG_at (c := cC) (sz := 35) (xs := zs) (k := xs.length) (cc := cap) (fun _ => rfl) (Row.own (o := 0) (cs := fC zs ++ sp) hw (.head _) (by rw [List.drop_zero, List.take_left]) hcap) (hI.get (i := k0 + k2) (by simp only; omega) hlt2) (by omega)) rfl ?_
                exact J.finX rfl (fun _ hw => ⟨⟨xu, uu⟩, rfl, fun _ _ _ => rfl, hF, hw⟩)
              · skip
                obtain ⟨xu, uu⟩ := x
                show J _ _ _ _ _ (_) _
                refine J.pr (fun hF => ?_)
                refine J.move rfl rfl ?_
                exact J.finX rfl (fun _ hw => ⟨⟨xu, uu⟩, rfl, fun _ _ _ => rfl, hF, hw⟩)
              · skip
                obtain ⟨xu, uu⟩ := x
                show J _ _ _ _ _ (_) _
                refine J.pr (fun hF => ?_)
                refine J.move rfl rfl ?_
                exact J.finX rfl (fun _ hw => ⟨⟨xu, uu⟩, rfl, fun _ _ _ => rfl, hF, hw⟩)
              · skip
                obtain ⟨xu, uu⟩ := x
                show J _ _ _ _ _ ((44, .int .i64 ((k2 : Nat) : Int)) :: _) _
                refine J.pr (fun hF => ?_)
                (first | refine J.subN rfl rfl (by omega) (by omega) rfl ?_ | refine J.bin rfl rfl rfl rfl ?_)
                exact J.finX rfl (fun _ hw => ⟨⟨xu, uu⟩, rfl, fun _ _ _ => rfl, hF, hw⟩)
              · skip
                obtain ⟨xu, uu⟩ := x
                show J _ _ _ _ _ ((45, .int .i64 ((k2 : Int) - 1)) :: (43, .slice (some ⟨q, k0 * 35, none⟩) (xs.length - k0) (cap - k0)) :: _) _
                refine J.pr (fun hF => ?_)
                refine J.indexAddrS Ty.el68 Ty.s75 rfl rfl (by omega) (by omega) rfl ?_
                exact J.finX rfl (fun _ hw => ⟨⟨xu, uu⟩, rfl, fun _ _ _ => rfl, hF, hw⟩)
              · skip
                obtain ⟨xu, uu⟩ := x
                show J _ _ _ _ _ ((46, .pointer (some ⟨q, k0 * 35 + ((k2 : Int) - 1).toNat * 35, none⟩)) :: _) _
                refine J.pr (fun hF => ?_)
                refine J.loadA (vs := cC (xs[k0 + k2 - 1]'(by omega))) Ty.a75 Ty.s75 rfl rfl (fun w1 hw => rowG_at (c := cC) (sz := 35) (xs := zs) (k := xs.length) (cc := cap) (fun _ => rfl) (Row.own (o := 0) (cs := fC zs ++ sp) hw (.head _) (by rw [List.drop_zero, List.take_left]) hcap) (hI.get (i := k0 + k2 - 1) (Nat.le_refl _) (by omega)) (by omega)) rfl ?_
                exact J.finX rfl (fun _ hw => ⟨⟨xu, uu⟩, rfl, fun _ _ _ => rfl, hF, hw⟩)
              · skip
                obtain ⟨xu, uu⟩ := x
                show J _ _ _ _ _ ((47, .agg (cC (xs[k0 + k2 - 1]'(by omega))).toArray) :: (42, .agg (cC (xs[k0 + k2]'hlt2)).toArray) :: (38, .func (.func 57) #[] #[]) :: _) _
                refine J.pr (fun hF => ?_)
                refine J.callVB (v := .bool (decide ((xs[k0 + k2]'hlt2).id = (xs[k0 + k2 - 1]'(by omega)).id))) (fun w1 w2 hw hb => hw.step hb) Ty.bd57 rfl rfl rfl (fun w1 hw => asks2_spec (xs[k0 + k2]'hlt2) (xs[k0 + k2 - 1]'(by omega)) w1) ?_
                exact J.finX rfl (fun _ hw => ⟨⟨xu, uu⟩, rfl, fun _ _ _ => rfl, hF, hw⟩)
              · skip
                obtain ⟨xu, uu⟩ := x
                show J _ _ _ _ _ ((48, .bool (decide ((xs[k0 + k2]'hlt2).id = (xs[k0 + k2 - 1]'(by omega)).id))) :: _) _
                refine J.pr (fun hF => ?_)
                refine J.not rfl rfl ?_
                exact J.finX rfl (fun _ hw => ⟨⟨xu, uu⟩, rfl, fun _ _ _ => rfl, hF, hw⟩)
            case htail =>
              intro x
              obtain ⟨xu, uu⟩ := x
              show J _ _ _ _ _ ((49, .bool (!decide ((xs[k0 + k2]'hlt2).id = (xs[k0 + k2 - 1]'(by omega)).id))) :: (48, .bool (decide ((xs[k0 + k2]'hlt2).id = (xs[k0 + k2 - 1]'(by omega)).id))) :: (47, .agg (cC (xs[k0 + k2 - 1]'(by omega))).toArray) :: (46, .pointer (some ⟨q, k0 * 35 + ((k2 : Int) - 1).toNat * 35, none⟩)) :: (45, .int .i64 ((k2 : Int) - 1)) :: (44, .int .i64 ((k2 : Nat) : Int)) :: (43, .slice (some ⟨q, k0 * 35, none⟩) (xs.length - k0) (cap - k0)) :: (42, .agg (cC (xs[k0 + k2]'hlt2)).toArray) :: (41, .pointer (some ⟨q, k0 * 35 + (k2 : Int).toNat * 35, none⟩)) :: (40, .int .i64 ((k2 : Nat) : Int)) :: (39, .slice (some ⟨q, k0 * 35, none⟩) (xs.length - k0) (cap - k0)) :: (38, .func (.func 57) #[] #[]) :: _) (fun w1 => (True) ∧ St w [q] ((q, cb (fC (zs) ++ sp) 75) :: []) w1)
              refine J.pr (fun hF => ?_)
              refine J.nil ?_
              refine JX.thenN (hK16 _ _ ?_)
              refine JC.cond rfl (fun h4 => ?_) (fun h4 => ?_)
              · skip
                have hne : (xs[k0 + k2]'hlt2).id ≠ (xs[k0 + k2 - 1]'(by omega)).id := by simp at h4; exact h4
                refine JC.seq (fun K17 hK17 => ?_)
                refine JC.region ?_
                refine J.move rfl rfl ?_
                refine J.move rfl rfl ?_
                refine J.move rfl rfl ?_
                refine J.move rfl rfl ?_
                refine J.indexAddrS Ty.el68 Ty.s75 rfl rfl (by omega) (by omega) rfl ?_
                refine J.loadA (vs := cC (xs[k0 + k2]'hlt2)) Ty.a75 Ty.s75 rfl rfl (fun w1 hw => rowG_at (c := cC) (sz := 35) (xs := zs) (k := xs.length) (cc := cap) (fun _ => rfl) (Row.own (o := 0) (cs := fC zs ++ sp) hw (.head _) (by rw [List.drop_zero, List.take_left]) hcap) (hI.get (i := k0 + k2) (by simp only; omega) hlt2) (by omega)) rfl ?_
                refine J.indexAddrS Ty.el68 Ty.s75 rfl rfl (by omega) (by omega) rfl ?_
                refine J.storeO (cs := fC zs ++ sp) (vs := cC (xs[k0 + k2]'hlt2)) Ty.s75 rfl rfl rfl rfl (one_cC _) .here (by have := fC_len zs; simp only [List.length_append]; omega) ?_
                refine J.conseq (I' := St w [q] [(q, cb (fC (zs.set k (xs[k0 + k2]'hlt2)) ++ sp) 75)]) ?_ (fun w1 hw => by rw [← set_C (show k < zs.length by omega) (o := 0 + (k : Int).toNat * 35) (by omega)]; exact hw)
                refine J.nil ?_
                refine JX.thenN (hK17 _ _ ?_)
                refine JC.region ?_
                refine J.move rfl rfl ?_
                (first | refine J.addN rfl rfl (by omega) (by omega) rfl ?_ | refine J.bin rfl rfl rfl rfl ?_)
                refine J.assign rfl rfl ?_
                refine J.nil ?_
                refine JX.blockN ?_
                refine JX.thenN (hK15 _ _ ?_)
                refine JC.region ?_
                refine J.move rfl rfl ?_
                (first | refine J.addN rfl rfl (by omega) (by omega) rfl ?_ | refine J.bin rfl rfl rfl rfl ?_)
                refine J.assign rfl rfl ?_
                refine J.nil ?_
                refine JX.thenN ?_
                refine JX.again (⟨k + 1, k2 + 1, zs.set k (xs[k0 + k2]'hlt2)⟩ : DKC) ?_ ?_ ?_
                · simp only; omega
                · exact ⟨rfl, rfl, rfl, rfl, rfl, trivial⟩
                · exact fun w1 hw => ⟨hI.put hlt2 hne, hw⟩
              · skip
                have heq : (xs[k0 + k2]'hlt2).id = (xs[k0 + k2 - 1]'(by omega)).id := by simp at h4; exact h4
                refine JC.skip ?_
                refine JX.blockN ?_
                refine JX.thenN (hK15 _ _ ?_)
                refine JC.region ?_
                refine J.move rfl rfl ?_
                (first | refine J.addN rfl rfl (by omega) (by omega) rfl ?_ | refine J.bin rfl rfl rfl rfl ?_)
                refine J.assign rfl rfl ?_
                refine J.nil ?_
                refine JX.thenN ?_
                refine JX.again (⟨k, k2 + 1, zs⟩ : DKC) ?_ ?_ ?_
                · simp only; omega
                · exact ⟨rfl, rfl, rfl, rfl, rfl, trivial⟩
                · exact fun w1 hw => ⟨hI.skip hlt2 heq, hw⟩
          · skip
            have hge2 : k0 + k2 = xs.length := by simp at h3; omega
            have htk := hI.tk
            have hkk := hI.hk
            simp only at htk hkk
            rw [hge2, List.take_of_length_le (Nat.le_refl _)] at htk hkk
            refine JC.exit ?_
            refine JX.thenE ?_
            refine JX.thenE ?_
            refine JX.blockE ?_
            refine JX.thenN (hK11 _ _ ?_)
            refine JC.seq (fun K18 hK18 => ?_)
            refine JC.region ?_
            refine J.move rfl rfl ?_
            refine J.move rfl rfl ?_
            obtain ⟨oo, hoo, hoz⟩ : ∃ oo, (if cap = k then some (⟨q, 0, none⟩ : Addr) else (some (⟨q, 0, none⟩ : Addr)).map (·.add (k * 35))) = some ⟨q, oo, none⟩ ∧ (xs.length - k = 0 ∨ oo = k * 35) := by
              by_cases hci : cap = k
              · exact ⟨0, by rw [if_pos hci], .inl (by omega)⟩
              · exact ⟨k * 35, by rw [if_neg hci]; simp [Addr.add]; omega, .inr rfl⟩
            refine J.sliceS Ty.el68 Ty.s75 rfl rfl rfl rfl rfl (by omega) (by omega) (by omega) rfl ?_
            refine J.name 61 rfl (show _ = Value.slice (some ⟨q, oo, none⟩) (xs.length - k) (cap - k) by rw [← hoo]; rfl) ?_
            have hfz := fC_len zs
            obtain ⟨sp2, hc1, hc2⟩ := clear_C (sp := sp) (Z := (Builtin.zeroCells (cC zCV).toArray (xs.length - k)).toList) hzl htk (by omega) (by rw [zeroCells_length]; rfl) hoz
            refine J.clear (cs := fC zs ++ sp) (sz := 35) rfl Ty.el68 zCan rfl (by decide) (fun u hu => one_fC (xs := [zCV]) (List.mem_append_left [] hu)) rfl .here (by simp only [List.length_append]; rcases hoz with h | h <;> omega) ?_
            refine J.conseq (I' := St w [q] [(q, cb (fC (dedC xs) ++ sp2) 75)]) ?_ (fun w1 hw => by rw [← hc1]; exact hw)
            refine J.nil ?_
            refine JX.thenN (hK18 _ _ ?_)
            refine JC.seq (fun K19 hK19 => ?_)
            refine JC.region ?_
            refine J.move rfl rfl ?_
            refine J.move rfl rfl ?_
            refine J.sliceS Ty.el68 Ty.s75 rfl rfl rfl rfl rfl (by omega) (by omega) (by omega) rfl ?_
            refine J.name 64 rfl (show _ = Value.slice (some ⟨q, 0, none⟩) (dedC xs).length cap by rw [← hkk]; split <;> simp [Addr.add]) ?_
            refine J.assign rfl rfl ?_
            refine J.nil ?_
            refine JX.thenN (hK19 _ _ ?_)
            refine JC.ret ?_
            refine JX.blockR ?_
            refine JX.thenR ?_
            refine JX.thenR ?_
            refine JX.blockR ?_
            refine JX.thenR ?_
            refine JX.ret1 rfl rfl (fun w hw => ?_)
            first | exact ⟨sp, by rw [hxs], by rw [hxs]; exact hsz, by rw [hxs]; exact hw⟩ | exact ⟨sp2, rfl, by rw [hc2, List.length_append, hfz, hzl, ← fC_len xs, ← List.length_append]; exact hsz, hw⟩
        · skip
          have hnext : dedC (xs.take (k + 1)) = xs.take (k + 1) := by
            obtain ⟨j, rfl⟩ : ∃ j, k = j + 1 := ⟨k - 1, by omega⟩
            rw [dedC_new hlt (by simpa using h2), hpre, ← take_add_one hlt]
          refine JC.skip ?_
          refine JX.blockN ?_
          refine JX.thenN (hK8 _ _ ?_)
          refine JC.region ?_
          refine J.move rfl rfl ?_
          (first | refine J.addN rfl rfl (by omega) (by omega) rfl ?_ | refine J.bin rfl rfl rfl rfl ?_)
          refine J.assign rfl rfl ?_
          refine J.nil ?_
          refine JX.thenN ?_
          refine JX.again (k + 1) ?_ ?_ ?_
          · omega
          · exact ⟨rfl, rfl, rfl, trivial⟩
          · exact fun w1 hw => ⟨⟨by omega, hlt, hnext⟩, hw⟩
    · skip
      have hge : k = xs.length := by simp at h1; omega
      have hxs : dedC xs = xs := by rw [hge, List.take_of_length_le (Nat.le_refl _)] at hpre; exact hpre
      refine JC.exit ?_
      refine JX.thenE ?_
      refine JX.thenE ?_
      refine JX.blockE ?_
      refine JX.thenN (hK4 _ _ ?_)
      refine JC.seq (fun K20 hK20 => ?_)
      refine JC.region ?_
      refine J.move rfl rfl ?_
      refine J.assign rfl rfl ?_
      refine J.nil ?_
      refine JX.thenN (hK20 _ _ ?_)
      refine JC.ret ?_
      refine JX.ret1 rfl rfl (fun w hw => ?_)
      first | exact ⟨sp, by rw [hxs], by rw [hxs]; exact hsz, by rw [hxs]; exact hw⟩ | exact ⟨sp2, rfl, by rw [hc2, List.length_append, hfz, hzl, ← fC_len xs, ← List.length_append]; exact hsz, hw⟩

theorem compactC_nil (w : World) :
    Calls Try.prog 56 [.slice none 0 0, .func (.func 57) #[] #[]].toArray w fun r w' => r = .returned (.slice none 0 0) ∧ Bel w w' := by
  refine calls_of_J (args := [.slice none 0 0, .func (.func 57) #[] #[]]) (e := [(0, .slice none 0 0), (1, .func (.func 57) #[] #[])]) Try.func56 rfl rfl ⟨rfl, rfl, trivial⟩ (St.start w) ?_
  refine JC.seq (fun K0 hK0 => ?_)
  refine JC.region ?_
  refine J.assign rfl rfl ?_
  refine J.nil ?_
  refine JX.thenN (hK0 _ _ ?_)
  refine JC.seq (fun K1 hK1 => ?_)
  refine JC.seq (fun K2 hK2 => ?_)
  refine JC.region ?_
  refine J.move rfl rfl ?_
  refine J.lenS rfl Ty.u68 rfl rfl ?_
  refine J.bin rfl rfl rfl rfl ?_
  refine J.nil ?_
  refine JX.thenN (hK2 _ _ ?_)
  first | refine JC.condT rfl ?_ | refine JC.cond rfl (fun _ => ?_) (fun h => by first | (exfalso; simp at h; omega) | (simp at h))
  refine JC.seq (fun K3 hK3 => ?_)
  refine JC.region ?_
  refine J.move rfl rfl ?_
  refine J.assign rfl rfl ?_
  refine J.nil ?_
  refine JX.thenN (hK3 _ _ ?_)
  refine JC.ret ?_
  refine JX.thenR ?_
  refine JX.ret1 rfl rfl (fun w hw => ?_)
  exact ⟨rfl, hw.below⟩


theorem compactC_vec (v : Value) (xs : List CV) (lp : List (Nat × Obj)) (w : World) (hv : Vec 75 35 v (xs).length (fC (xs)) lp) (hw0 : Own w lp) (hl : xs.length ≤ 1099511627776) :
    Calls Try.prog 56 [v, .func (.func 57) #[] #[]].toArray w fun r w' => ∃ x : Value × List (Nat × Obj), r = .returned x.1 ∧ Vec 75 35 x.1 (dedC xs).length (fC (dedC xs)) x.2 ∧ St w (lp.map (·.1)) x.2 w' := by
  rcases vecC hv with ⟨rfl, rfl, rfl⟩ | ⟨b, c, sp, rfl, rfl, h1, h2⟩
  · exact (compactC_nil w).mono fun r w' ⟨h1, h2⟩ => ⟨(.slice none 0 0, []), h1, Vec.nil _ _, (St.start w).step h2⟩
  · exact (compactC_spec b c xs sp w hw0 h2 h1 hl).mono fun r w' ⟨sp', h3, h4, h5⟩ => ⟨(_, [_]), h3, vecC_mk h4, h5⟩
end Go.Proofs.Ytbafhclandendaa
/-
  For whom a node asks: plain laws.
-/
namespace Go.Proofs.Ytbafhclandendaa
open Go.J Go.RowKit
set_option linter.unusedVariables false
set_option linter.unusedSimpArgs false
set_option maxRecDepth 8000
/-- of two of one identity -/
def ahd (a b : CV) : Bool := if a.leg ≠ b.leg then decide (a.leg < b.leg) else if a.leg = 1 then ltQ a.p b.p else decide (a.n < b.n)
theorem ahd_ltC {a b : CV} (h : a.id = b.id) : ahd a b = true ↔ ltC a b := by
  rw [ltC_iff, h]
  unfold ahd
  by_cases hl : a.leg = b.leg
  · rw [if_neg (by simpa using hl)]
    by_cases h1 : a.leg = 1
    · have hb1 : b.leg = 1 := by omega
      have ea : k1 a = (valI a.p.who : Int) := if_pos h1
      have eb : k1 b = (valI b.p.who : Int) := if_pos hb1
      have fa : k2 a = a.p.n := if_pos h1
      have fb : k2 b = b.p.n := if_pos hb1
      rw [if_pos h1, ltQ_iff, ea, eb, fa, fb]
      omega
    · have hb1 : ¬ b.leg = 1 := by omega
      have ea : k1 a = a.n := if_neg h1
      have eb : k1 b = b.n := if_neg hb1
      have fa : k2 a = 0 := if_neg h1
      have fb : k2 b = 0 := if_neg hb1
      rw [if_neg h1, ea, eb, fa, fb]
      simp only [decide_eq_true_eq, true_and]
      constructor <;> intro h9 <;> omega
  · rw [if_pos (by simpa using hl)]
    simp only [decide_eq_true_eq, true_and]
    constructor <;> intro h9 <;> omega
def stepB (n : IDV) (acc : Option CV) (x : CV) : Option CV := if x.id = n then (match acc with | none => some x | some y => if ahd x y = true then some x else some y) else acc
/-- the best one of an identity -/
def bestC (n : IDV) (cs : List CV) : Option CV := cs.foldl (stepB n) none
theorem bestC_snoc (n : IDV) (cs : List CV) (x : CV) : bestC n (cs ++ [x]) = stepB n (bestC n cs) x := by rw [bestC, List.foldl_append]; rfl
theorem eqv_id {x y : CV} (h : eqv ltC x y = true) : y.id = x.id := by
  simp only [eqv, Bool.and_eq_true, Bool.not_eq_true', decide_eq_false_iff_not] at h
  rw [ltC_iff, ltC_iff] at h
  exact valI_inj (by omega)
structure BSpec (n : IDV) (cs : List CV) (y : CV) : Prop where
  id : y.id = n
  mem : y ∈ cs
  min : ∀ x, x ∈ cs → x.id = n → ¬ ltC x y
  hd : (cs.filter (eqv ltC y)).head? = some y
theorem snocRec {α : Type} {p : List α → Prop} (xs : List α) (nil : p []) (snoc : ∀ l x, p l → p (l ++ [x])) : p xs := by
  have : ∀ ys : List α, p ys.reverse := by
    intro ys
    induction ys with
    | nil => exact nil
    | cons y ys ih => rw [List.reverse_cons]; exact snoc _ _ ih
  have h := this xs.reverse
  rwa [List.reverse_reverse] at h
theorem bestC_spec (n : IDV) (cs : List CV) : (∀ y, bestC n cs = some y → BSpec n cs y) ∧ (bestC n cs = none → ∀ x, x ∈ cs → x.id ≠ n) := by
  induction cs using snocRec with
  | nil => exact ⟨fun y h => (by cases h), fun _ x hx => (by cases hx)⟩
  | snoc cs x ih =>
    rw [bestC_snoc]
    unfold stepB
    by_cases hx : x.id = n
    · rw [if_pos hx]
      cases hb : bestC n cs with
      | none =>
        have hno := ih.2 hb
        refine ⟨fun y hy => ?_, fun h => (by cases h)⟩
        obtain rfl := Option.some.inj hy
        refine ⟨hx, by simp, fun u hu hun => ?_, ?_⟩
        · rcases List.mem_append.1 hu with hu | hu
          · exact absurd hun (hno u hu)
          · rw [List.mem_singleton.1 hu]; exact swoC.irr _
        · rw [List.filter_append, show cs.filter (eqv ltC x) = [] from List.filter_eq_nil_iff.2 fun u hu he => hno u hu ((eqv_id he).trans hx)]
          simp [eqv_self swoC]
      | some y0 =>
        have h0 := ih.1 y0 hb
        by_cases ha : ahd x y0 = true
        · simp only [if_pos ha]
          have hlt : ltC x y0 := (ahd_ltC (hx.trans h0.id.symm)).1 ha
          refine ⟨fun y hy => ?_, fun h => (by cases h)⟩
          obtain rfl := Option.some.inj hy
          have hall : ∀ u, u ∈ cs → u.id = n → ltC x u := fun u hu hun => swoC.lt_le hlt (h0.min u hu hun)
          refine ⟨hx, by simp, fun u hu hun => ?_, ?_⟩
          · rcases List.mem_append.1 hu with hu | hu
            · exact swoC.asym (hall u hu hun)
            · rw [List.mem_singleton.1 hu]; exact swoC.irr _
          · rw [List.filter_append, show cs.filter (eqv ltC x) = [] from List.filter_eq_nil_iff.2 fun u hu he => by
              have h1 := hall u hu ((eqv_id he).trans hx)
              simp [eqv, h1] at he]
            simp [eqv_self swoC]
        · simp only [if_neg ha]
          have hnl : ¬ ltC x y0 := fun h => ha ((ahd_ltC (hx.trans h0.id.symm)).2 h)
          refine ⟨fun y hy => ?_, fun h => (by cases h)⟩
          obtain rfl := Option.some.inj hy
          refine ⟨h0.id, by simp [h0.mem], fun u hu hun => ?_, ?_⟩
          · rcases List.mem_append.1 hu with hu | hu
            · exact h0.min u hu hun
            · rw [List.mem_singleton.1 hu]; exact hnl
          · rw [List.filter_append, List.head?_append, h0.hd]; rfl
    · rw [if_neg hx]
      refine ⟨fun y hy => ?_, fun h u hu => ?_⟩
      · have h0 := ih.1 y hy
        refine ⟨h0.id, by simp [h0.mem], fun u hu hun => ?_, ?_⟩
        · rcases List.mem_append.1 hu with hu | hu
          · exact h0.min u hu hun
          · rw [List.mem_singleton.1 hu] at hun; exact absurd hun hx
        · rw [List.filter_append, List.head?_append, h0.hd]; rfl
      · rcases List.mem_append.1 hu with hu | hu
        · exact ih.2 h u hu
        · rw [List.mem_singleton.1 hu]; exact hx
/-- whom it asks for: document -/
def askL (W F : List IDV) (cs : List CV) : List CV := W.filterMap (fun n => if n ∈ F then none else bestC n cs)
structure DedS (Z D : List CV) : Prop where
  asc : (D.map (·.id)).Pairwise (fun a b => valI a < valI b)
  fnd : ∀ x, x ∈ D → Z.find? (fun z => decide (z.id = x.id)) = some x
  all : ∀ z, z ∈ Z → z.id ∈ D.map (·.id)
  lst : D.getLast?.map (·.id) = Z.getLast?.map (·.id)
theorem dedC_snoc (Z : List CV) (x : CV) : dedC (Z ++ [x]) = stepC (dedC Z) x := by rw [dedC, List.foldl_append]; rfl
theorem dedC_spec {Z : List CV} (hZ : Srt ltC Z) : DedS Z (dedC Z) := by
  induction Z using snocRec with
  | nil => exact ⟨.nil, fun x hx => (by cases hx), fun z hz => (by cases hz), rfl⟩
  | snoc Z x ih =>
    obtain ⟨hs1, _, hs2⟩ := Srt.app.1 hZ
    have h0 := ih hs1
    rw [dedC_snoc]
    have hle : ∀ z, z ∈ Z → valI z.id ≤ valI x.id := fun z hz => by
      have := hs2 z hz x (.head _)
      rw [ltC_iff] at this
      omega
    unfold stepC
    by_cases he : (dedC Z).getLast?.map (·.id) = some x.id
    · rw [if_pos he]
      refine ⟨h0.asc, fun y hy => by rw [List.find?_append, h0.fnd y hy]; rfl, fun z hz => ?_, by rw [he]; simp⟩
      rcases List.mem_append.1 hz with hz | hz
      · exact h0.all z hz
      · rw [List.mem_singleton.1 hz]
        obtain ⟨l, hl, hl2⟩ := Option.map_eq_some_iff.1 he
        exact List.mem_map.2 ⟨l, List.mem_of_getLast? hl, hl2⟩
    · rw [if_neg he]
      have hlt : ∀ z, z ∈ Z → valI z.id < valI x.id := by
        intro z hz
        cases hq : Z.getLast? with
        | none => rw [List.getLast?_eq_none_iff.1 hq] at hz; cases hz
        | some l =>
          have hlm := List.mem_of_getLast? hq
          have hne : l.id ≠ x.id := fun e => he (by rw [h0.lst, hq]; simp [e])
          have h1 : valI l.id < valI x.id := by
            have h2 := hle l hlm
            rcases Nat.lt_or_ge (valI l.id) (valI x.id) with h3 | h3
            · exact h3
            · exact absurd (valI_inj (by omega)) hne
          obtain ⟨i, hi⟩ := List.mem_iff_getElem?.1 hz
          have hil := (List.getElem?_eq_some_iff.1 hi).1
          rw [List.getLast?_eq_getElem?] at hq
          have h4 := hs1.get' swoC hi hq (by omega)
          rw [ltC_iff] at h4
          omega
      refine ⟨?_, fun y hy => ?_, fun z hz => ?_, by simp⟩
      · rw [List.map_append]
        refine List.pairwise_append.2 ⟨h0.asc, by simp, fun a ha b hb => ?_⟩
        obtain ⟨y, hy, rfl⟩ := List.mem_map.1 ha
        rw [List.mem_singleton.1 hb]
        exact hlt y (List.mem_of_find?_eq_some (h0.fnd y hy))
      · rcases List.mem_append.1 hy with hy | hy
        · rw [List.find?_append, h0.fnd y hy]; rfl
        · rw [List.mem_singleton.1 hy, List.find?_append, List.find?_eq_none.2 (fun z hz => by
            have := hlt z hz
            simp only [decide_eq_true_eq, true_and]
            intro e
            rw [e] at this
            omega)]
          simp
      · rw [List.map_append]
        rcases List.mem_append.1 hz with hz | hz
        · exact List.mem_append_left _ (h0.all z hz)
        · rw [List.mem_singleton.1 hz]; exact List.mem_append_right _ (.head _)
/-- the first of an identity in the sorted row is the best one -/
theorem find_best {W F : List IDV} {cs Z : List CV} (hse : SE ltC (dels (wnt W F) cs) Z) (hs : Srt ltC Z) {n : IDV} {y : CV} (hnW : n ∈ W) (hnF : n ∉ F) (hb : bestC n cs = some y) : Z.find? (fun z => decide (z.id = n)) = some y := by
  have h0 := (bestC_spec n cs).1 y hb
  have hin : ∀ u, u.id = n → (!wnt W F u) = true := fun u hu => by unfold wnt; rw [hu]; simp [hnW, hnF]
  have hyZ : y ∈ Z := (hse.mem swoC y).1 (List.mem_filter.2 ⟨h0.mem, hin y h0.id⟩)
  obtain ⟨z, hz⟩ : ∃ z, Z.find? (fun z => decide (z.id = n)) = some z := by
    cases h : Z.find? (fun z => decide (z.id = n)) with
    | some z => exact ⟨z, rfl⟩
    | none => exact absurd h0.id (by simpa using List.find?_eq_none.1 h y hyZ)
  rw [hz]
  obtain ⟨hzi, l, m, hZe, hl⟩ := List.find?_eq_some_iff_append.1 hz
  have hzi' : z.id = n := by simpa using hzi
  have hzZ : z ∈ Z := List.mem_of_find?_eq_some hz
  have hzc : z ∈ cs := (List.mem_filter.1 ((hse.mem swoC z).2 hzZ)).1
  have h1 : ¬ ltC z y := h0.min z hzc hzi'
  have h2 : ¬ ltC y z := by
    rw [hZe] at hyZ hs
    rcases List.mem_append.1 hyZ with h | h
    · have := hl y h; simp [h0.id] at this
    · rcases List.mem_cons.1 h with rfl | h
      · exact swoC.irr _
      · exact (List.pairwise_cons.1 (Srt.app.1 hs).2.1).1 y h
  have he : eqv ltC y z = true := by simp [eqv, h1, h2]
  have h3 : (Z.filter (eqv ltC y)).head? = some z := by
    rw [hZe, List.filter_append, show l.filter (eqv ltC y) = [] from List.filter_eq_nil_iff.2 fun u hu hq => by
      have := hl u hu
      simp [(eqv_id hq).trans h0.id] at this, List.nil_append, List.filter_cons_of_pos he]
    rfl
  have h4 : (dels (wnt W F) cs).filter (eqv ltC y) = cs.filter (eqv ltC y) := by
    rw [dels, List.filter_filter]
    refine List.filter_congr fun u hu => ?_
    cases hq : eqv ltC y u with
    | false => simp
    | true => rw [hin u ((eqv_id hq).trans h0.id)]; rfl
  rw [← hse y, h4, h0.hd] at h3
  exact h3.symm
theorem fm_congr {f g : IDV → Option IDV} : ∀ {l : List IDV}, (∀ n, n ∈ l → f n = g n) → l.filterMap f = l.filterMap g
  | [], _ => rfl
  | n :: l, h => by rw [List.filterMap_cons, List.filterMap_cons, h n (.head _), fm_congr fun m hm => h m (.tail _ hm)]
theorem by_ids {L : List CV} {f : IDV → CV} (h : ∀ x, x ∈ L → x = f x.id) : L = (L.map (·.id)).map f := by
  induction L with
  | nil => rfl
  | cons x L ih =>
    rw [List.map_cons, List.map_cons, ← h x (.head _), ← ih (fun y hy => h y (.tail _ hy))]
theorem ask_of {W F : List IDV} {cs Z : List CV} (hW : Asc W) (hc : ∀ n, n ∈ W → n ∉ F → ∃ x, x ∈ cs ∧ x.id = n) (hse : SE ltC (dels (wnt W F) cs) Z) (hs : Srt ltC Z) : dedC Z = askL W F cs := by
  have hd := dedC_spec hs
  have hbest : ∀ n, n ∈ W → n ∉ F → ∃ y, bestC n cs = some y := fun n h1 h2 => by
    cases hb : bestC n cs with
    | some y => exact ⟨y, rfl⟩
    | none =>
      obtain ⟨x, hx, hxn⟩ := hc n h1 h2
      exact absurd hxn ((bestC_spec n cs).2 hb x hx)
  have hZin : ∀ z, z ∈ Z → z.id ∈ W ∧ z.id ∉ F := fun z hz => by
    have := (List.mem_filter.1 ((hse.mem swoC z).2 hz)).2
    simpa [wnt] using this
  have hmemA : ∀ x, x ∈ askL W F cs ↔ x.id ∈ W ∧ x.id ∉ F ∧ bestC x.id cs = some x := by
    intro x
    unfold askL
    rw [List.mem_filterMap]
    constructor
    · rintro ⟨n, hn, he⟩
      by_cases hF : n ∈ F
      · rw [if_pos hF] at he; cases he
      · rw [if_neg hF] at he
        have hid := ((bestC_spec n cs).1 x he).id
        subst hid
        exact ⟨hn, hF, he⟩
    · rintro ⟨h1, h2, h3⟩
      exact ⟨x.id, h1, by rw [if_neg h2]; exact h3⟩
  have hids : (dedC Z).map (·.id) = (askL W F cs).map (·.id) := by
    have hA : (askL W F cs).map (·.id) = W.filter (fun n => decide (n ∉ F)) := by
      unfold askL
      rw [List.map_filterMap]
      rw [← List.filterMap_eq_filter]
      refine fm_congr fun n hn => ?_
      by_cases hF : n ∈ F
      · simp [hF, Option.guard]
      · obtain ⟨y, hy⟩ := hbest n hn hF
        simp [hF, hy, Option.guard, ((bestC_spec n cs).1 y hy).id]
    refine asc_ext hd.asc ?_ fun n => ?_
    · rw [hA]; exact hW.sublist List.filter_sublist
    · rw [hA, List.mem_filter]
      constructor
      · intro h
        obtain ⟨x, hx, rfl⟩ := List.mem_map.1 h
        have hxZ := List.mem_of_find?_eq_some (hd.fnd x hx)
        have := hZin x hxZ
        exact ⟨this.1, by simpa using this.2⟩
      · rintro ⟨h1, h2⟩
        have h2' : n ∉ F := by simpa using h2
        obtain ⟨y, hy⟩ := hbest n h1 h2'
        have hf := find_best hse hs h1 h2' hy
        have := hd.all y (List.mem_of_find?_eq_some hf)
        rwa [((bestC_spec n cs).1 y hy).id] at this
  have e1 := by_ids (L := dedC Z) (f := fun n => (Z.find? (fun z => decide (z.id = n))).getD zCV) (fun x hx => by show x = _; rw [hd.fnd x hx]; rfl)
  have e2 := by_ids (L := askL W F cs) (f := fun n => (Z.find? (fun z => decide (z.id = n))).getD zCV) (fun x hx => by
    obtain ⟨h1, h2, h3⟩ := (hmemA x).1 hx
    show x = _
    rw [find_best hse hs h1 h2 h3]; rfl)
  rw [e1, e2, hids]
/-- whom one asks for -/
noncomputable def askC (self : IDV) (F : List IDV) (cs : List CV) (half : Int) : List CV := askL (wantI self (F ++ cs.map (·.id)) half) F cs
theorem want_cand {self : IDV} {F : List IDV} {cs : List CV} {half : Int} : ∀ n, n ∈ wantI self (F ++ cs.map (·.id)) half → n ∉ F → ∃ x, x ∈ cs ∧ x.id = n := by
  intro n hn hF
  have := ((sortI_mem _ _ _).1 (mem_wantI.1 hn).1).1
  rcases List.mem_append.1 this with h | h
  · exact absurd h hF
  · obtain ⟨x, hx, rfl⟩ := List.mem_map.1 h
    exact ⟨x, hx, rfl⟩
theorem askC_of {self : IDV} {F : List IDV} {cs Z : List CV} {half : Int} (hse : SE ltC (dels (wnt (wantI self (F ++ cs.map (·.id)) half) F) cs) Z) (hs : Srt ltC Z) : dedC Z = askC self F cs half :=
  ask_of (wantI_asc _ _ _) want_cand hse hs
theorem askL_le (W F : List IDV) (cs : List CV) : (askL W F cs).length ≤ W.length := List.length_filterMap_le _ _
theorem askC_le (self : IDV) (F : List IDV) (cs : List CV) (half : Int) : (askC self F cs half).length ≤ F.length + cs.length := by
  have h1 := askL_le (wantI self (F ++ cs.map (·.id)) half) F cs
  have h2 := wantI_le self (F ++ cs.map (·.id)) half
  rw [List.length_append, List.length_map] at h2
  exact Nat.le_trans h1 h2
end Go.Proofs.Ytbafhclandendaa
/-
  seek.Asks: contract.
-/
namespace Go.Proofs.Ytbafhclandendaa
open Go.J Go.RowKit
set_option linter.unusedVariables false
set_option linter.unusedSimpArgs false
set_option maxRecDepth 8000
theorem ids_snoc {F : List IDV} {cs : List CV} {i : Nat} {x : CV} (h : cs[i]? = some x) : F ++ (cs.take (i + 1)).map (·.id) = (F ++ (cs.take i).map (·.id)) ++ [x.id] := by
  rw [take_get h, List.map_append, List.append_assoc]; rfl
theorem fI_snoc (xs : List IDV) (y : IDV) : fI (xs ++ [y]) = fI xs ++ cI y := by rw [fI_append]; simp [fI]
structure AkS where
  i : Nat
  v : Value
  lp : List (Nat × Obj)

theorem seekAsks_spec (self : IDV) (fv cv : Value) (F : List IDV) (cs : List CV) (half : Int) (w : World) (hrF : Row w fv F.length (fI F)) (hrC : Row w cv cs.length (fC cs)) (hlF : F.length ≤ 1000) (hlC : cs.length ≤ 40) :
    Calls Try.prog 37 [.agg (cI self).toArray, fv, cv, .int .i64 half].toArray w fun r w' => ∃ x : Value × List (Nat × Obj), r = .returned x.1 ∧ Vec 75 35 x.1 (askC self F cs half).length (fC (askC self F cs half)) x.2 ∧ St w [] x.2 w' := by
  obtain ⟨a, c, rfl, hc, _⟩ := id hrC
  obtain ⟨af, cf, rfl, hcf, _⟩ := id hrF
  refine calls_of_J (args := [.agg (cI self).toArray, .slice af F.length cf, .slice a cs.length c, .int .i64 half]) (e := [(0, .agg (cI self).toArray), (1, .slice af F.length cf), (2, .slice a cs.length c), (3, .int .i64 half)]) Try.func37 rfl rfl ⟨rfl, rfl, rfl, rfl, trivial⟩ (St.start w) ?_
  refine JC.seq (fun K0 hK0 => ?_)
  refine JC.region ?_
  refine J.box rfl rfl rfl (fun b4 => ?_)
  refine J.box rfl rfl rfl (fun b5 => ?_)
  refine J.assign rfl rfl ?_
  refine J.nil ?_
  refine JX.thenN (hK0 _ _ ?_)
  refine JC.seq (fun K1 hK1 => ?_)
  refine JC.region ?_
  refine J.load1 (v := .slice af F.length cf) Ty.a24 rfl (fun w1 hw => by rw [cell_of (hw.own ((b5, cb [.slice af F.length cf] 24)) (by repeat first | exact .head _ | apply List.Mem.tail | apply List.mem_append_right))]; rfl) rfl ?_
  refine J.perm ([] ++ ((b5, cb [.slice af F.length cf] 24) :: (b4, cb (cI self) 23) :: [])) (.refl _) ?_
  refine J.callS (α := Value × List (Nat × Obj)) (V := (·.1)) (Pr := fun x => Vec 23 16 x.1 (F).length (fI (F)) x.2) (L := (·.2)) (l1 := []) Ty.bd48 rfl rfl (fun w1 hw => clone_spec _ F w1 (hrF.below (hw.drop (List.nil_sublist _)).below) (by omega)) (fun x hv9 => ?_)
  obtain ⟨v9, l9⟩ := x
  simp only at hv9 ⊢
  refine J.assign rfl rfl ?_
  refine J.nil ?_
  refine JX.thenN (hK1 _ _ ?_)
  refine JC.seq (fun K2 hK2 => ?_)
  refine JC.seq (fun K3 hK3 => ?_)
  refine JC.region ?_
  refine J.move rfl rfl ?_
  refine J.lenS rfl Ty.u68 rfl rfl ?_
  refine J.move rfl rfl ?_
  refine J.nil ?_
  refine JX.thenN (hK3 _ _ ?_)
  refine JC.block ?_
  refine JC.conseq (JC.cov (f := (fun st => [(2, .slice a cs.length c), (3, .int .i64 half), (4, .pointer (some ⟨b4, 0, none⟩)), (5, .pointer (some ⟨b5, 0, none⟩)), (9, st.v), (16, .slice a cs.length c), (17, .int .i64 ((cs.length : Nat) : Int)), (18, .int .i64 ((st.i : Nat) : Int))]) (⟨0, v9, l9⟩ : AkS)) ⟨rfl, rfl, rfl, rfl, rfl, rfl, rfl, rfl, trivial⟩ (JC.loop (α := AkS) (fun st => [(2, .slice a cs.length c), (3, .int .i64 half), (4, .pointer (some ⟨b4, 0, none⟩)), (5, .pointer (some ⟨b5, 0, none⟩)), (9, st.v), (16, .slice a cs.length c), (17, .int .i64 ((cs.length : Nat) : Int)), (18, .int .i64 ((st.i : Nat) : Int))]) (fun st w' => (st.i ≤ cs.length ∧ Vec 23 16 st.v ((F ++ (cs.take st.i).map (·.id))).length (fI ((F ++ (cs.take st.i).map (·.id)))) st.lp) ∧ St w [] ((b4, cb (cI self) 23) :: (b5, cb [.slice af F.length cf] 24) :: st.lp) w') (fun st => cs.length - st.i) (⟨0, v9, l9⟩ : AkS) (fun st => ?_))) (fun w hw => ⟨⟨Nat.zero_le _, by simpa using hv9⟩, hw.perm (by (refine perm_cnt (fun _ => ?_)); simp only [cntB_append, cntB_cons, cntB_nil, Nat.add_zero, Nat.zero_add]; try ac_rfl)⟩)
  obtain ⟨i, v10, l10⟩ := st
  refine JC.pr (fun hI => ?_)
  obtain ⟨hi, hv10⟩ := hI
  try simp only at hi hv10 ⊢
  refine JC.seq (fun K4 hK4 => ?_)
  refine JC.region ?_
  refine J.bin rfl rfl rfl rfl ?_
  refine J.nil ?_
  refine JX.thenN (hK4 _ _ ?_)
  refine JC.seq (fun K5 hK5 => ?_)
  refine JC.cond rfl (fun h0 => ?_) (fun h0 => ?_)
  · skip
    have hlt : i < cs.length := by simp at h0; omega
    obtain ⟨xe, hxe⟩ : ∃ x, cs[i]? = some x := ⟨_, List.getElem?_eq_getElem hlt⟩
    obtain ⟨ba, oa, ca, hva, hca, hcel⟩ := hrC.some (by rw [fC_len]; omega)
    simp only [Value.slice.injEq] at hva
    obtain ⟨rfl, -, rfl⟩ := hva
    refine JC.skip ?_
    refine JX.thenN (hK5 _ _ ?_)
    refine JC.seq (fun K6 hK6 => ?_)
    refine JC.block ?_
    refine JC.seq (fun K7 hK7 => ?_)
    refine JC.region ?_
    refine J.indexAddrS Ty.el68 Ty.s75 rfl rfl (by omega) (by omega) rfl ?_
    refine J.loadA (vs := cC xe) Ty.a75 Ty.s75 rfl rfl (fun w1 hw => rowG_at (c := cC) (sz := 35) (fun _ => rfl) (hrC.below (hw.drop (List.nil_sublist _)).below) hxe (by rw [Int.toNat_natCast])) rfl ?_
    refine J.alloc zCan rfl rfl (fun b11 => ?_)
    refine J.storeW Ty.s75 rfl rfl rfl rfl rfl (by simp [Value.oneCell']) (by repeat first | exact .here | apply Up.there) ?_
    refine J.nil ?_
    refine JX.thenN (hK7 _ _ ?_)
    refine JC.region ?_
    refine J.move rfl rfl ?_
    refine J.fieldAddr Ty.fd75_0 rfl rfl ?_
    refine J.loadA (vs := cI xe.id) Ty.a23 Ty.s23 rfl rfl (fun w1 hw => Cells.of_block (hw.own ((b11, cb (cC xe) 75)) (by repeat first | exact .head _ | apply List.Mem.tail | apply List.mem_append_right)) rfl) rfl ?_
    refine J.buildSl (cs := cI xe.id) Ty.el24 Ty.s23 Ty.zID rfl rfl rfl rfl (by kernel_rfl) rfl rfl (fun b25 => ?_)
    refine J.perm (l10 ++ ((b25, cb (cI xe.id) 23) :: (b11, cb (cC xe) 75) :: ((b4, cb (cI self) 23) :: (b5, cb [.slice af F.length cf] 24) :: []))) (by (refine perm_cnt (fun _ => ?_)); simp only [cntB_append, cntB_cons, cntB_nil, Nat.add_zero, Nat.zero_add]; try ac_rfl) ?_
    refine J.append (lp := l10) (xs := fI ((F ++ (cs.take i).map (·.id)))) (ys := cI xe.id) (k := ((F ++ (cs.take i).map (·.id))).length) (m := 1) Ty.el24 Ty.s23 Ty.b23 Ty.zID rfl (.inl ⟨23, Ty.u24⟩) rfl rfl hv10 (fun w1 hw => .inl (Row.own (cs := cI xe.id) (tb := 23) (fr := (0, 0)) hw (List.mem_append_right _ (.head _)) (List.take_of_length_le (Nat.le_refl _)) (Nat.le_refl _))) rfl (one_cI _) (by simp only [List.length_append, List.length_map, List.length_take]; omega) (by simp only [List.length_append, List.length_map, List.length_take]; omega) rfl (fun v13 l13 hv13 => ?_)
    rw [← fI_snoc, ← ids_snoc hxe, show (F ++ (cs.take i).map (·.id)).length + 1 = (F ++ (cs.take (i + 1)).map (·.id)).length by rw [ids_snoc hxe]; exact (List.length_append (bs := [xe.id])).symm] at hv13
    refine J.assign rfl rfl ?_
    refine J.nil ?_
    refine JX.blockN ?_
    refine JX.thenN (hK6 _ _ ?_)
    refine JC.region ?_
    (first | refine J.addN rfl rfl (by omega) (by omega) rfl ?_ | refine J.bin rfl rfl rfl rfl ?_)
    refine J.move rfl rfl ?_
    refine J.nil ?_
    refine JX.thenN ?_
    refine JX.again (⟨i + 1, v13, l13⟩ : AkS) ?_ ?_ ?_
    · simp only; omega
    · exact ⟨rfl, rfl, rfl, rfl, rfl, rfl, rfl, rfl, trivial⟩
    · exact fun w1 hw => ⟨⟨hlt, hv13⟩, (hw.perm (by (refine perm_cnt (fun _ => ?_)); simp only [cntB_append, cntB_cons, cntB_nil, Nat.add_zero, Nat.zero_add]; try ac_rfl : List.Perm _ ((b25, cb (cI xe.id) 23) :: (b11, cb (cC xe) 75) :: ((b4, cb (cI self) 23) :: (b5, cb [.slice af F.length cf] 24) :: l13)))).drop (List.Sublist.cons _ (List.Sublist.cons _ (List.Sublist.refl _)))⟩
  · skip
    have hge : i = cs.length := by simp at h0; omega
    rw [hge, List.take_of_length_le (Nat.le_refl _)] at hv10
    refine JC.exit ?_
    refine JX.thenE ?_
    refine JX.thenE ?_
    refine JX.blockE ?_
    refine JX.thenN (hK2 _ _ ?_)
    refine JC.seq (fun K8 hK8 => ?_)
    refine JC.region ?_
    refine J.loadA (vs := cI self) Ty.a23 Ty.s23 rfl rfl (fun w1 hw => Cells.of_block (hw.own ((b4, cb (cI self) 23)) (by repeat first | exact .head _ | apply List.Mem.tail | apply List.mem_append_right)) rfl) rfl ?_
    refine J.move rfl rfl ?_
    refine J.move rfl rfl ?_
    refine J.perm ([] ++ ((b4, cb (cI self) 23) :: (b5, cb [.slice af F.length cf] 24) :: l10)) (.refl _) ?_
    refine J.callS (α := Value × List (Nat × Obj)) (V := (·.1)) (Pr := fun x => Vec 23 16 x.1 ((wantI self (F ++ cs.map (·.id)) half)).length (fI ((wantI self (F ++ cs.map (·.id)) half))) x.2) (L := (·.2)) (l1 := []) Ty.bd49 rfl rfl (fun w1 hw => want_spec self v10 (F ++ cs.map (·.id)) half w1 (vec_rowM hv10 hw (fun q hq => by first | (simp [hq]; done) | (simp at hq; simp [hq]; done) | (simp at hq; subst hq; simp))) (by simp only [List.length_append, List.length_map]; omega)) (fun x hvw => ?_)
    obtain ⟨vw, lw⟩ := x
    simp only at hvw ⊢
    obtain ⟨al, cl, rfl, hcl⟩ := hvw.form
    have hwl := wantI_le self (F ++ cs.map (·.id)) half
    rw [List.length_append, List.length_map] at hwl
    refine J.alloc Ty.z24 rfl rfl (fun b12 => ?_)
    refine J.storeO Ty.s24 rfl rfl rfl rfl (by simp [Value.oneCell']) (by repeat first | exact .here | apply Up.there) (by simp) ?_
    refine J.nil ?_
    refine JX.thenN (hK8 _ _ ?_)
    refine JC.seq (fun K9 hK9 => ?_)
    refine JC.region ?_
    refine J.move rfl rfl ?_
    refine J.perm ([] ++ ((b12, cb [.slice al (wantI self (F ++ cs.map (·.id)) half).length cl] 24) :: (lw ++ ((b4, cb (cI self) 23) :: (b5, cb [.slice af F.length cf] 24) :: l10)))) (.refl _) ?_
    refine J.callS (α := Value × List (Nat × Obj)) (V := (·.1)) (Pr := fun x => Vec 75 35 x.1 (cs).length (fC (cs)) x.2) (L := (·.2)) (l1 := []) Ty.bd51 rfl rfl (fun w1 hw => cloneC_spec _ cs w1 (hrC.below (hw.drop (List.nil_sublist _)).below) (by omega)) (fun x hvc => ?_)
    obtain ⟨vc, lc⟩ := x
    simp only at hvc ⊢
    refine J.makeFn rfl rfl ?_
    refine J.perm ((lc ++ [(b12, cb [.slice al (wantI self (F ++ cs.map (·.id)) half).length cl] 24), (b5, cb [.slice af F.length cf] 24)]) ++ (lw ++ ((b4, cb (cI self) 23) :: l10))) (by (refine perm_cnt (fun _ => ?_)); simp only [cntB_append, cntB_cons, cntB_nil, Nat.add_zero, Nat.zero_add]; try ac_rfl) ?_
    refine J.callS (α := Value × List (Nat × Obj)) (V := (·.1)) (Pr := fun x => Vec 75 35 x.1 (dels (wnt (wantI self (F ++ cs.map (·.id)) half) F) cs).length (fC (dels (wnt (wantI self (F ++ cs.map (·.id)) half) F) cs)) x.2) (L := fun x => x.2 ++ [(b12, cb [.slice al (wantI self (F ++ cs.map (·.id)) half).length cl] 24), (b5, cb [.slice af F.length cf] 24)]) (l1 := lc ++ [(b12, cb [.slice al (wantI self (F ++ cs.map (·.id)) half).length cl] 24), (b5, cb [.slice af F.length cf] 24)]) Ty.bd50 rfl rfl (fun w1 hw => deleteFuncC_vec vc cs lc b12 b5 _ _ (wantI self (F ++ cs.map (·.id)) half) F w1 hvc hw.owns (by omega) (vec_rowM hvw hw (fun q hq => by first | (simp [hq]; done) | (simp at hq; simp [hq]; done) | (simp at hq; subst hq; simp))) (hrF.below (hw.drop (List.nil_sublist _)).below) (by omega) (by omega) (hvw.off hw) (hrF.offNew hw (fun p hp => List.mem_append_left _ hp))) (fun x hvd => ?_)
    obtain ⟨vd, ld⟩ := x
    simp only at hvd ⊢
    have hdl := dels_le (wnt (wantI self (F ++ cs.map (·.id)) half) F) cs
    refine J.perm (ld ++ ((b12, cb [.slice al (wantI self (F ++ cs.map (·.id)) half).length cl] 24) :: (b5, cb [.slice af F.length cf] 24) :: (lw ++ ((b4, cb (cI self) 23) :: l10)))) (by (refine perm_cnt (fun _ => ?_)); simp only [cntB_append, cntB_cons, cntB_nil, Nat.add_zero, Nat.zero_add]; try ac_rfl) ?_
    refine J.assign rfl rfl ?_
    refine J.nil ?_
    refine JX.thenN (hK9 _ _ ?_)
    refine JC.seq (fun K10 hK10 => ?_)
    refine JC.region ?_
    refine J.move rfl rfl ?_
    refine J.callS (α := List CV × List (Nat × Obj)) (V := fun _ => .tuple #[]) (Pr := fun x => SE ltC (dels (wnt (wantI self (F ++ cs.map (·.id)) half) F) cs) x.1 ∧ Srt ltC x.1 ∧ Vec 75 35 vd (x.1).length (fC (x.1)) x.2) (L := (·.2)) (l1 := ld) Ty.bd54 rfl rfl (fun w1 hw => sortC_vec vd _ ld w1 hvd hw.owns (by omega)) (fun x hvz => ?_)
    obtain ⟨Z, lz⟩ := x
    obtain ⟨hse, hsz, hvz⟩ := hvz
    simp only at hse hsz hvz ⊢
    have hzl := hse.length swoC
    have hask := askC_of hse hsz
    have hal := askC_le self F cs half
    refine J.nil ?_
    refine JX.thenN (hK10 _ _ ?_)
    refine JC.seq (fun K11 hK11 => ?_)
    refine JC.region ?_
    refine J.move rfl rfl ?_
    refine J.callS (α := Value × List (Nat × Obj)) (V := (·.1)) (Pr := fun x => Vec 75 35 x.1 (dedC Z).length (fC (dedC Z)) x.2) (L := (·.2)) (l1 := lz) Ty.bd56 rfl rfl (fun w1 hw => compactC_vec vd Z lz w1 hvz hw.owns (by omega)) (fun x hve => ?_)
    obtain ⟨ve, le⟩ := x
    simp only at hve ⊢
    rw [hask] at hve
    refine J.append (lp := []) (xs := []) (ys := fC (askC self F cs half)) (k := 0) (m := (askC self F cs half).length) Ty.el68 Ty.s75 Ty.b75 zCan rfl (.inl ⟨75, Ty.u68⟩) rfl rfl (Vec.nil _ _) (fun w1 hw => .inl (vec_rowM hve hw (fun q hq => by first | (simp [hq]; done) | (simp at hq; simp [hq]; done) | (simp at hq; subst hq; simp)))) (fC_len _) (fun y hy => one_fC hy) (by omega) (by omega) rfl (fun v40 lp40 hv40 => ?_)
    rw [Nat.zero_add, List.nil_append] at hv40
    refine J.assign rfl rfl ?_
    refine J.nil ?_
    refine JX.thenN (hK11 _ _ ?_)
    refine JC.ret ?_
    refine JX.ret1 rfl rfl (fun w hw => ?_)
    exact ⟨(v40, lp40), rfl, hv40, hw.drop (List.sublist_append_left _ _)⟩

end Go.Proofs.Ytbafhclandendaa
/-
  The document's Less, Ahead, Asks: contracts.
-/
namespace Go.Proofs.Ytbafhclandendaa
open Go.J Go.RowKit
set_option linter.unusedVariables false
set_option linter.unusedSimpArgs false
set_option maxRecDepth 8000
theorem candF_at {w : World} {b o k c i q r : Nat} {xs : List CV} {x : CV} {vs : List Value} (h : Row w (.slice (some ⟨b, o, none⟩) k c) k (fC xs)) (hx : xs[i]? = some x) (hv : ((cC x).drop r).take vs.length = vs) (hq : q = o + i * 35 + r) : Cells w b q vs := by
  have h1 := rowG_at (c := cC) (sz := 35) (fun _ => rfl) h hx (q := o + i * 35) rfl
  intro j hj
  have h2 : (((cC x).drop r).take vs.length)[j]? = vs[j]? := by rw [hv]
  rw [List.getElem?_take_of_lt hj, List.getElem?_drop] at h2
  have hlt : r + j < (cC x).length := by
    rcases Nat.lt_or_ge (r + j) (cC x).length with h | h
    · exact h
    · rw [List.getElem?_eq_none h, List.getElem?_eq_getElem hj] at h2
      cases h2
  have h3 := h1 (r + j) hlt
  rw [show q + j = o + i * 35 + (r + j) by omega, h3, h2]
/-- where the best one of what was looked at stands -/
def AtI (cs : List CV) (n : IDV) (j : Nat) (a : Int) : Prop := (bestC n (cs.take j) = none ∧ a = -1) ∨ ∃ p y, a = ((p : Nat) : Int) ∧ cs[p]? = some y ∧ bestC n (cs.take j) = some y
theorem best_take {cs : List CV} {n : IDV} {j : Nat} {x : CV} (h : cs[j]? = some x) : bestC n (cs.take (j + 1)) = stepB n (bestC n (cs.take j)) x := by rw [take_get h, bestC_snoc]
theorem AtI.keep {cs : List CV} {n : IDV} {j : Nat} {a : Int} {x : CV} (h : AtI cs n j a) (hx : cs[j]? = some x) (hn : x.id ≠ n) : AtI cs n (j + 1) a := by
  have e : bestC n (cs.take (j + 1)) = bestC n (cs.take j) := (best_take hx).trans (if_neg hn)
  unfold AtI
  rw [e]
  exact h
theorem AtI.first {cs : List CV} {n : IDV} {j : Nat} {x : CV} (hb : bestC n (cs.take j) = none) (hx : cs[j]? = some x) (hn : x.id = n) : AtI cs n (j + 1) ((j : Nat) : Int) :=
  .inr ⟨j, x, rfl, hx, by rw [best_take hx, hb]; exact if_pos hn⟩
theorem fC_snoc (xs : List CV) (x : CV) : fC (xs ++ [x]) = fC xs ++ cC x := by simp [fC]
structure RaS where
  k : Nat
  v : Value
  lp : List (Nat × Obj)

end Go.Proofs.Ytbafhclandendaa
/-
  Candidates that are one; cut, plain, the example of layer 17: contracts.
-/
namespace Go.Proofs.Ytbafhclandendaa
open Go.J Go.RowKit
set_option linter.unusedVariables false
set_option linter.unusedSimpArgs false
set_option maxRecDepth 8000
def okC (x : CV) : Prop := okN x.leg ∧ okN x.n ∧ okN x.p.n
theorem cC_eq {x y : CV} : cC x = cC y ↔ x = y := by
  obtain ⟨i, l, n, p⟩ := x
  obtain ⟨i', l', n', p'⟩ := y
  show cI i ++ [.int .i64 l, .int .i64 n] ++ cP p = cI i' ++ [.int .i64 l', .int .i64 n'] ++ cP p' ↔ _
  rw [app_iff (by rfl), app_iff (by rfl), cI_eq, cP_eq]
  simp [and_assoc]
namespace Ty
theorem cPa : Try.prog.cellsOf 73 = 17 := by kernel_rfl
theorem cI6 : Try.prog.cellsOf 3 = 1 := by kernel_rfl
theorem cLL : Try.prog.cellsOf 2 = 1 := by kernel_rfl
theorem fkPa : fieldsK Try.prog 73 = some [(23, 0), (2, 16)] := by kernel_rfl
theorem litsP (p : PV) (hp : okN p.n) (d : Nat) : Try.prog.keyLits (d + 3) 73 (cP p) = some [(Go.J.lI p.who).flatten, [.int .i64 p.n]].flatten := by
  refine lits_struct (d := d + 2) fkPa (by rw [cPa]; rfl) ?_
  have h1 := litsI p.who d
  have h2 : Try.prog.keyLits (d + 2) 2 [.int .i64 p.n] = some [.int .i64 p.n] := lits_int (d := d + 1) u2 hp
  simp only [List.mapM_cons, List.mapM_nil, cID, cLL]
  rw [show ((cP p).drop 0).take 16 = cI p.who from rfl, show ((cP p).drop 16).take 1 = [.int .i64 p.n] from rfl, h1, h2]; rfl
theorem cCa : Try.prog.cellsOf 75 = 35 := by kernel_rfl
theorem fkCa : fieldsK Try.prog 75 = some [(23, 0), (3, 16), (3, 17), (73, 18)] := by kernel_rfl
theorem litsC (x : CV) (hx : okC x) (d : Nat) : Try.prog.keyLits (d + 4) 75 (cC x) = some [(Go.J.lI x.id).flatten, [.int .i64 x.leg], [.int .i64 x.n], [(Go.J.lI x.p.who).flatten, [.int .i64 x.p.n]].flatten].flatten := by
  refine lits_struct (d := d + 3) fkCa (by rw [cCa]; rfl) ?_
  have h1 := litsI x.id (d + 1)
  have h2 : Try.prog.keyLits (d + 3) 3 [.int .i64 x.leg] = some [.int .i64 x.leg] := lits_int (d := d + 2) u3 hx.1
  have h3 : Try.prog.keyLits (d + 3) 3 [.int .i64 x.n] = some [.int .i64 x.n] := lits_int (d := d + 2) u3 hx.2.1
  have h4 := litsP x.p hx.2.2 d
  simp only [List.mapM_cons, List.mapM_nil, cID, cI6, cPa]
  rw [show ((cC x).drop 0).take 16 = cI x.id from rfl, show ((cC x).drop 16).take 1 = [.int .i64 x.leg] from rfl, show ((cC x).drop 17).take 1 = [.int .i64 x.n] from rfl, show ((cC x).drop 18).take 17 = cP x.p from rfl, h1, h2, h3, h4]; rfl
theorem keyC (x : CV) (hx : okC x) : ∃ l, keyOf Try.prog 75 (.agg (cC x).toArray) = some l := key_of size_ (by kernel_rfl) (by kernel_rfl) (by rw [cCa]; rfl) (litsC x hx _)
theorem QC : EqL Try.prog 75 := EqL.of (m := 6) (by kernel_rfl) (by omega) (by kernel_rfl) (by kernel_rfl) (by kernel_rfl)
end Ty
theorem J.eqC {ops : Array Oper} {Q : Exit → Act → World → Prop} {n : Nat} {e : Env} {I : World → Prop} {rest : List Oper} {d t yt : Nat} {p : String} {af : Array Edge} {x y : Operand} {a b : CV} (hx : ev e x = some (.agg (cC a).toArray)) (hy : ev e y = some (.agg (cC b).toArray)) (ha : okC a) (hb : okC b) (hd : Nat.blt d n = true)
    (h : J Try.prog ops Q n rest ((d, .bool (decide (a = b))) :: e) I) : J Try.prog ops Q n (⟨some d, .binOp .eql 75 x y yt, t, p, af, none⟩ :: rest) e I := by
  obtain ⟨_, k1⟩ := Ty.keyC a ha
  obtain ⟨_, k2⟩ := Ty.keyC b hb
  refine J.eqA Ty.QC hx hy k1 k2 hd fun r hr => ?_
  rw [arr_inj, cC_eq] at hr
  rw [dec_of hr]; exact h
theorem row_cutC {w : World} {v : Value} {xs : List CV} (h : Row w v xs.length (fC xs)) (most : Nat) : Row w (cutV v (min xs.length most)) (xs.take most).length (fC (xs.take most)) := by
  obtain ⟨a, c, rfl, hc, h⟩ := _root_.id h
  have e : (xs.take most).length = min xs.length most := by rw [List.length_take]; omega
  have hfl := fC_len xs
  rw [e, fC_take]
  refine ⟨_, _, rfl, Nat.le_refl _, ?_⟩
  by_cases hm : min xs.length most = 0
  · left
    rcases Nat.eq_zero_or_pos most with h0 | h0
    · rw [h0]; simp
    · have : xs = [] := List.eq_nil_of_length_eq_zero (by omega)
      rw [this]; simp
  · rcases h with h | ⟨b, o, rfl, hcl⟩
    · left; rw [h, List.take_nil]
    · right
      refine ⟨b, o, by rw [if_neg hm]; simp [Addr.add], ?_⟩
      intro j hj
      rw [List.length_take] at hj
      rw [List.getElem?_take_of_lt (by omega)]
      exact hcl j (by omega)
def fx1 : CV := ⟨nI 7, 1, 0, ⟨zI, 3⟩⟩
def fx2 : CV := ⟨nI 7, 0, 2, zP⟩
def fx3 : CV := ⟨nI 20, 3, 1, zP⟩
def fxC : List CV := [fx1, fx2, fx3]
theorem fx_ask : askC (nI 5) [nI 9] fxC 1 = [fx2, fx3] := by unfold askC; rw [wantI_C]; decide +kernel
theorem fx_ok2 : okC fx2 := ⟨by decide +kernel, by decide +kernel, by decide +kernel⟩
theorem fx_ok3 : okC fx3 := ⟨by decide +kernel, by decide +kernel, by decide +kernel⟩
structure PlS where
  i : Nat
  v : Value
  lp : List (Nat × Obj)

theorem cut17_spec (v : Value) (xs : List IDV) (most : Nat) (w : World) (hr : Row w v xs.length (fI xs)) :
    Calls Try.prog 34 [v, .int .i64 ((most : Nat) : Int)].toArray w fun r w' => r = .returned (cutV v (min xs.length most)) ∧ Bel w w' := by
  obtain ⟨a, c, rfl, hc, _⟩ := _root_.id hr
  refine calls_of_J (args := [.slice a xs.length c, .int .i64 ((most : Nat) : Int)]) (e := [(0, .slice a xs.length c), (1, .int .i64 ((most : Nat) : Int))]) Try.func34 rfl rfl ⟨rfl, rfl, trivial⟩ (St.start w) ?_
  refine JC.seq (fun K0 hK0 => ?_)
  refine JC.region ?_
  refine J.assign rfl rfl ?_
  refine J.nil ?_
  refine JX.thenN (hK0 _ _ ?_)
  refine JC.seq (fun K1 hK1 => ?_)
  refine JC.region ?_
  refine J.move rfl rfl ?_
  refine J.move rfl rfl ?_
  refine J.lenS rfl Ty.u24 rfl rfl ?_
  refine J.move rfl rfl ?_
  refine J.min2 rfl rfl rfl ?_
  refine J.name 9 rfl (show _ = Value.int .i64 ((min xs.length most : Nat) : Int) by congr 1; omega) ?_
  refine J.move rfl rfl ?_
  refine J.lenS rfl Ty.u24 rfl rfl ?_
  refine J.move rfl rfl ?_
  refine J.min2 rfl rfl rfl ?_
  refine J.name 13 rfl (show _ = Value.int .i64 ((min xs.length most : Nat) : Int) by congr 1; omega) ?_
  refine J.sliceM Ty.el24 Ty.s23 rfl rfl rfl (by omega) rfl ?_
  refine J.assign rfl rfl ?_
  refine J.nil ?_
  refine JX.thenN (hK1 _ _ ?_)
  refine JC.ret ?_
  refine JX.ret1 rfl rfl (fun w hw => ?_)
  exact ⟨rfl, hw.below⟩

theorem cutC_spec (v : Value) (xs : List CV) (most : Nat) (w : World) (hr : Row w v xs.length (fC xs)) :
    Calls Try.prog 35 [v, .int .i64 ((most : Nat) : Int)].toArray w fun r w' => r = .returned (cutV v (min xs.length most)) ∧ Bel w w' := by
  obtain ⟨a, c, rfl, hc, _⟩ := _root_.id hr
  refine calls_of_J (args := [.slice a xs.length c, .int .i64 ((most : Nat) : Int)]) (e := [(0, .slice a xs.length c), (1, .int .i64 ((most : Nat) : Int))]) Try.func35 rfl rfl ⟨rfl, rfl, trivial⟩ (St.start w) ?_
  refine JC.seq (fun K0 hK0 => ?_)
  refine JC.region ?_
  refine J.assign rfl rfl ?_
  refine J.nil ?_
  refine JX.thenN (hK0 _ _ ?_)
  refine JC.seq (fun K1 hK1 => ?_)
  refine JC.region ?_
  refine J.move rfl rfl ?_
  refine J.move rfl rfl ?_
  refine J.lenS rfl Ty.u68 rfl rfl ?_
  refine J.move rfl rfl ?_
  refine J.min2 rfl rfl rfl ?_
  refine J.name 9 rfl (show _ = Value.int .i64 ((min xs.length most : Nat) : Int) by congr 1; omega) ?_
  refine J.move rfl rfl ?_
  refine J.lenS rfl Ty.u68 rfl rfl ?_
  refine J.move rfl rfl ?_
  refine J.min2 rfl rfl rfl ?_
  refine J.name 13 rfl (show _ = Value.int .i64 ((min xs.length most : Nat) : Int) by congr 1; omega) ?_
  refine J.sliceM Ty.el68 Ty.s75 rfl rfl rfl (by omega) rfl ?_
  refine J.assign rfl rfl ?_
  refine J.nil ?_
  refine JX.thenN (hK1 _ _ ?_)
  refine JC.ret ?_
  refine JX.ret1 rfl rfl (fun w hw => ?_)
  exact ⟨rfl, hw.below⟩

theorem n17_spec (k : UInt8) (w : World) :
    Calls Try.prog 59 [u8 k].toArray w fun r w' => r = .returned (.agg (cI (nI k)).toArray) ∧ Bel w w' := by
  refine calls_of_J (args := [u8 k]) (e := [(0, u8 k)]) Try.func59 rfl rfl ⟨rfl, trivial⟩ (St.start w) ?_
  refine JC.seq (fun K0 hK0 => ?_)
  refine JC.region ?_
  refine J.alloc Ty.zID rfl rfl (fun b2 => ?_)
  refine J.nil ?_
  refine JX.thenN (hK0 _ _ ?_)
  refine JC.seq (fun K1 hK1 => ?_)
  refine JC.region ?_
  refine J.move rfl rfl ?_
  refine J.buildA (cs := cI (nI k)) Ty.ar23 Ty.s5 Ty.z23 rfl (by kernel_rfl) rfl ?_
  refine J.storeW Ty.s23 rfl rfl rfl rfl rfl (by simp [Value.oneCell']) (by repeat first | exact .here | apply Up.there) ?_
  refine J.nil ?_
  refine JX.thenN (hK1 _ _ ?_)
  refine JC.ret ?_
  refine JX.retC rfl rfl Ty.a23 Ty.s23 (vs := cI (nI k)) rfl (fun w1 hw => Cells.of_block (hw.own _ (.head _)) rfl) (fun w1 hw => ?_)
  exact ⟨rfl, (hw.drop (List.nil_sublist _)).below⟩

set_option maxHeartbeats 1000000 in
theorem fixed17_spec (w : World) :
    Calls Try.prog 39 [].toArray w fun r w' => r = .returned (.bool true) ∧ Bel w w' := by
  refine calls_of_J (args := []) (e := []) Try.func39 rfl rfl trivial (St.start w) ?_
  refine JC.seq (fun K0 hK0 => ?_)
  refine JC.region ?_
  refine J.assign rfl rfl ?_
  refine J.nil ?_
  refine JX.thenN (hK0 _ _ ?_)
  refine JC.seq (fun K1 hK1 => ?_)
  refine JC.region ?_
  refine J.callB (v := .agg (cI (nI 5)).toArray) (fun w1 w2 hw hb => hw.step hb) Ty.bd59 rfl rfl (fun w1 hw => n17_spec 5 w1) ?_
  refine J.callB (v := .agg (cI (nI 9)).toArray) (fun w1 w2 hw hb => hw.step hb) Ty.bd59 rfl rfl (fun w1 hw => n17_spec 9 w1) ?_
  refine J.buildSl (cs := cI (nI 9)) Ty.el24 Ty.s23 Ty.zID rfl rfl rfl rfl (by kernel_rfl) rfl rfl (fun b4 => ?_)
  refine J.callB (v := .agg (cI (nI 7)).toArray) (fun w1 w2 hw hb => hw.step hb) Ty.bd59 rfl rfl (fun w1 hw => n17_spec 7 w1) ?_
  refine J.buildS (cs := cP ⟨zI, 3⟩) Ty.pl73 Ty.z73 rfl (by kernel_rfl) rfl ?_
  refine J.buildS (cs := cC fx1) Ty.pl75 zCan rfl (by kernel_rfl) rfl ?_
  refine J.callB (v := .agg (cI (nI 7)).toArray) (fun w1 w2 hw hb => hw.step hb) Ty.bd59 rfl rfl (fun w1 hw => n17_spec 7 w1) ?_
  refine J.buildS (cs := cC fx2) Ty.pl75 zCan rfl (by kernel_rfl) rfl ?_
  refine J.callB (v := .agg (cI (nI 20)).toArray) (fun w1 w2 hw hb => hw.step hb) Ty.bd59 rfl rfl (fun w1 hw => n17_spec 20 w1) ?_
  refine J.buildS (cs := cC fx3) Ty.pl75 zCan rfl (by kernel_rfl) rfl ?_
  refine J.buildSl (cs := fC fxC) Ty.el68 Ty.s75 zCan rfl rfl rfl rfl (by kernel_rfl) rfl rfl (fun b12 => ?_)
  refine J.perm ([] ++ ((b12, cb (fC fxC) 75) :: (b4, cb (cI (nI 9)) 23) :: [])) (.refl _) ?_
  refine J.callS (α := Value × List (Nat × Obj)) (V := (·.1)) (Pr := fun x => Vec 75 35 x.1 (askC (nI 5) [nI 9] fxC 1).length (fC (askC (nI 5) [nI 9] fxC 1)) x.2) (L := (·.2)) (l1 := []) Ty.bd37 rfl rfl (fun w1 hw => seekAsks_spec (nI 5) _ _ [nI 9] fxC 1 w1 (Row.own (cs := cI (nI 9)) (tb := 23) (fr := (0, 0)) hw (.tail _ (.head _)) rfl (Nat.le_refl _)) (Row.own (cs := fC fxC) (tb := 75) (fr := (0, 0)) hw (.head _) rfl (Nat.le_refl _)) (by decide) (by decide)) (fun x hvq => ?_)
  obtain ⟨vq, lq⟩ := x
  simp only at hvq ⊢
  rw [fx_ask] at hvq
  obtain ⟨bq, cq, sq, rfl, rfl, hsq, hcq⟩ : ∃ b c sp, vq = .slice (some ⟨b, 0, none⟩) 2 c ∧ lq = [(b, cb (fC [fx2, fx3] ++ sp) 75)] ∧ (fC [fx2, fx3] ++ sp).length = c * 35 ∧ 2 ≤ c := by
    rcases hvq.2 with ⟨_, h, _⟩ | h
    · cases h
    · exact h
  refine J.assign rfl rfl ?_
  refine J.nil ?_
  refine JX.thenN (hK1 _ _ ?_)
  refine JC.seq (fun K2 hK2 => ?_)
  apply JC.drawX (α := Nat × Unit) 23 (fun x => match x with | ⟨xu, uu⟩ => [.slice (some ⟨bq, 0, none⟩) 2 cq, .int .i64 2, .bool true, .bool true, .slice (some ⟨bq, 0, none⟩) 2 cq, .pointer (some ⟨bq, 0 + (0 : Int).toNat * 35, none⟩), .agg (cC fx2).toArray, .agg (cI (nI 7)).toArray, .agg (cC fx2).toArray, .bool true, .bool true, .bool true, .slice (some ⟨bq, 0, none⟩) 2 cq, .pointer (some ⟨bq, 0 + (1 : Int).toNat * 35, none⟩), .agg (cC fx3).toArray, .agg (cI (nI 20)).toArray, .agg (cC fx3).toArray, .bool true, .bool true, .bool true, .bool true, .bool true, .bool true]) (fun m x => match x with | ⟨xu, uu⟩ => fun w1 => (True) ∧ St w [] ((bq, cb (fC [fx2, fx3] ++ sq) 75) :: (b12, cb (fC fxC) 75) :: (b4, cb (cI (nI 9)) 23) :: []) w1) Ty.mixed rfl rfl rfl (by kernel_rfl) rfl rfl ?hinit ?hstep ?htail
  case hinit => exact fun w1 hw => ⟨(0, ()), trivial, hw.drew⟩
  case hstep =>
    refine ⟨fun m x hm hp => ?_, fun m x hm hp => ?_, fun m x hm hp => ?_, fun m x hm hp => ?_, fun m x hm hp => ?_, fun m x hm hp => ?_, fun m x hm hp => ?_, fun m x hm hp => ?_, fun m x hm hp => ?_, fun m x hm hp => ?_, fun m x hm hp => ?_, fun m x hm hp => ?_, fun m x hm hp => ?_, fun m x hm hp => ?_, fun m x hm hp => ?_, fun m x hm hp => ?_, fun m x hm hp => ?_, fun m x hm hp => ?_, fun m x hm hp => ?_, fun m x hm hp => ?_, fun m x hm hp => ?_, fun m x hm hp => ?_, fun m x hm hp => ?_, trivial⟩
    · skip
      obtain ⟨xu, uu⟩ := x
      show J _ _ _ _ _ (_) _
      refine J.pr (fun hF => ?_)
      refine J.move rfl rfl ?_
      exact J.finX rfl (fun _ hw => ⟨⟨xu, uu⟩, rfl, fun _ _ _ => rfl, hF, hw⟩)
    · skip
      obtain ⟨xu, uu⟩ := x
      show J _ _ _ _ _ ((14, .slice (some ⟨bq, 0, none⟩) 2 cq) :: _) _
      refine J.pr (fun hF => ?_)
      refine J.lenS rfl Ty.u68 rfl rfl ?_
      exact J.finX rfl (fun _ hw => ⟨⟨xu, uu⟩, rfl, fun _ _ _ => rfl, hF, hw⟩)
    · skip
      obtain ⟨xu, uu⟩ := x
      show J _ _ _ _ _ ((15, .int .i64 2) :: _) _
      refine J.pr (fun hF => ?_)
      refine J.bin rfl rfl rfl rfl ?_
      exact J.finX rfl (fun _ hw => ⟨⟨xu, uu⟩, rfl, fun _ _ _ => rfl, hF, hw⟩)
    · skip
      obtain ⟨xu, uu⟩ := x
      show J _ _ _ _ _ ((16, .bool true) :: _) _
      refine J.pr (fun hF => ?_)
      refine J.move rfl rfl ?_
      exact J.finX rfl (fun _ hw => ⟨⟨xu, uu⟩, rfl, fun _ _ _ => rfl, hF, hw⟩)
    · skip
      obtain ⟨xu, uu⟩ := x
      show J _ _ _ _ _ ((17, .bool true) :: _) _
      refine J.pr (fun hF => ?_)
      first | refine J.skip rfl rfl rfl rfl rfl ?_ | refine J.skipU rfl rfl rfl rfl ?_ | (refine J.unguard rfl rfl rfl ?_; refine J.move rfl rfl ?_)
      exact J.finX rfl (fun _ hw => ⟨⟨xu, uu⟩, rfl, fun _ _ _ => rfl, hF, hw⟩)
    · skip
      obtain ⟨xu, uu⟩ := x
      show J _ _ _ _ _ ((17, .bool true) :: (18, .slice (some ⟨bq, 0, none⟩) 2 cq) :: _) _
      refine J.pr (fun hF => ?_)
      refine J.unguard rfl rfl rfl ?_
      refine J.indexAddrS Ty.el68 Ty.s75 rfl rfl (by omega) (by omega) rfl ?_
      exact J.finX rfl (fun _ hw => ⟨⟨xu, uu⟩, rfl, fun _ _ _ => rfl, hF, hw⟩)
    · skip
      obtain ⟨xu, uu⟩ := x
      show J _ _ _ _ _ ((17, .bool true) :: (19, .pointer (some ⟨bq, 0 + (0 : Int).toNat * 35, none⟩)) :: _) _
      refine J.pr (fun hF => ?_)
      refine J.unguard rfl rfl rfl ?_
      refine J.loadA (vs := cC fx2) Ty.a75 Ty.s75 rfl rfl (fun w1 hw => rowG_at (c := cC) (sz := 35) (i := 0) (fun _ => rfl) (Row.own (cs := fC [fx2, fx3] ++ sq) (tb := 75) (fr := (0, 0)) hw (.head _) rfl hcq : Row w1 (.slice (some ⟨bq, 0, none⟩) 2 cq) 2 (fC [fx2, fx3])) rfl rfl) rfl ?_
      exact J.finX rfl (fun _ hw => ⟨⟨xu, uu⟩, rfl, fun _ _ _ => rfl, hF, hw⟩)
    · skip
      obtain ⟨xu, uu⟩ := x
      show J _ _ _ _ _ ((17, .bool true) :: (17, .bool true) :: _) _
      refine J.pr (fun hF => ?_)
      refine J.unguard rfl rfl rfl ?_
      refine J.callB (v := .agg (cI (nI 7)).toArray) (fun w1 w2 hw hb => hw.step hb) Ty.bd59 rfl rfl (fun w1 hw => n17_spec 7 w1) ?_
      exact J.finX rfl (fun _ hw => ⟨⟨xu, uu⟩, rfl, fun _ _ _ => rfl, hF, hw⟩)
    · skip
      obtain ⟨xu, uu⟩ := x
      show J _ _ _ _ _ ((17, .bool true) :: (21, .agg (cI (nI 7)).toArray) :: _) _
      refine J.pr (fun hF => ?_)
      refine J.unguard rfl rfl rfl ?_
      refine J.buildS (cs := cC fx2) Ty.pl75 zCan rfl (by kernel_rfl) rfl ?_
      exact J.finX rfl (fun _ hw => ⟨⟨xu, uu⟩, rfl, fun _ _ _ => rfl, hF, hw⟩)
    · skip
      obtain ⟨xu, uu⟩ := x
      show J _ _ _ _ _ ((17, .bool true) :: (22, .agg (cC fx2).toArray) :: (20, .agg (cC fx2).toArray) :: _) _
      refine J.pr (fun hF => ?_)
      refine J.unguard rfl rfl rfl ?_
      refine J.eqC rfl rfl fx_ok2 fx_ok2 rfl ?_
      refine J.name 23 rfl (show _ = Value.bool true by simp) ?_
      exact J.finX rfl (fun _ hw => ⟨⟨xu, uu⟩, rfl, fun _ _ _ => rfl, hF, hw⟩)
    · skip
      obtain ⟨xu, uu⟩ := x
      show J _ _ _ _ _ ((23, .bool true) :: (17, .bool true) :: _) _
      refine J.pr (fun hF => ?_)
      (first | refine J.pickT rfl rfl rfl ?_ | refine J.pickF rfl rfl rfl ?_)
      exact J.finX rfl (fun _ hw => ⟨⟨xu, uu⟩, rfl, fun _ _ _ => rfl, hF, hw⟩)
    · skip
      obtain ⟨xu, uu⟩ := x
      show J _ _ _ _ _ ((21, .agg (cI (nI 7)).toArray) :: (24, .bool true) :: _) _
      refine J.pr (fun hF => ?_)
      refine J.move rfl rfl ?_
      exact J.finX rfl (fun _ hw => ⟨⟨xu, uu⟩, rfl, fun _ _ _ => rfl, hF, hw⟩)
    · skip
      obtain ⟨xu, uu⟩ := x
      show J _ _ _ _ _ ((25, .bool true) :: _) _
      refine J.pr (fun hF => ?_)
      first | refine J.skip rfl rfl rfl rfl rfl ?_ | refine J.skipU rfl rfl rfl rfl ?_ | (refine J.unguard rfl rfl rfl ?_; refine J.move rfl rfl ?_)
      exact J.finX rfl (fun _ hw => ⟨⟨xu, uu⟩, rfl, fun _ _ _ => rfl, hF, hw⟩)
    · skip
      obtain ⟨xu, uu⟩ := x
      show J _ _ _ _ _ ((25, .bool true) :: (26, .slice (some ⟨bq, 0, none⟩) 2 cq) :: _) _
      refine J.pr (fun hF => ?_)
      refine J.unguard rfl rfl rfl ?_
      refine J.indexAddrS Ty.el68 Ty.s75 rfl rfl (by omega) (by omega) rfl ?_
      exact J.finX rfl (fun _ hw => ⟨⟨xu, uu⟩, rfl, fun _ _ _ => rfl, hF, hw⟩)
    · skip
      obtain ⟨xu, uu⟩ := x
      show J _ _ _ _ _ ((25, .bool true) :: (27, .pointer (some ⟨bq, 0 + (1 : Int).toNat * 35, none⟩)) :: _) _
      refine J.pr (fun hF => ?_)
      refine J.unguard rfl rfl rfl ?_
      refine J.loadA (vs := cC fx3) Ty.a75 Ty.s75 rfl rfl (fun w1 hw => rowG_at (c := cC) (sz := 35) (i := 1) (fun _ => rfl) (Row.own (cs := fC [fx2, fx3] ++ sq) (tb := 75) (fr := (0, 0)) hw (.head _) rfl hcq : Row w1 (.slice (some ⟨bq, 0, none⟩) 2 cq) 2 (fC [fx2, fx3])) rfl rfl) rfl ?_
      exact J.finX rfl (fun _ hw => ⟨⟨xu, uu⟩, rfl, fun _ _ _ => rfl, hF, hw⟩)
    · skip
      obtain ⟨xu, uu⟩ := x
      show J _ _ _ _ _ ((25, .bool true) :: (25, .bool true) :: _) _
      refine J.pr (fun hF => ?_)
      refine J.unguard rfl rfl rfl ?_
      refine J.callB (v := .agg (cI (nI 20)).toArray) (fun w1 w2 hw hb => hw.step hb) Ty.bd59 rfl rfl (fun w1 hw => n17_spec 20 w1) ?_
      exact J.finX rfl (fun _ hw => ⟨⟨xu, uu⟩, rfl, fun _ _ _ => rfl, hF, hw⟩)
    · skip
      obtain ⟨xu, uu⟩ := x
      show J _ _ _ _ _ ((25, .bool true) :: (29, .agg (cI (nI 20)).toArray) :: _) _
      refine J.pr (fun hF => ?_)
      refine J.unguard rfl rfl rfl ?_
      refine J.buildS (cs := cC fx3) Ty.pl75 zCan rfl (by kernel_rfl) rfl ?_
      exact J.finX rfl (fun _ hw => ⟨⟨xu, uu⟩, rfl, fun _ _ _ => rfl, hF, hw⟩)
    · skip
      obtain ⟨xu, uu⟩ := x
      show J _ _ _ _ _ ((25, .bool true) :: (30, .agg (cC fx3).toArray) :: (28, .agg (cC fx3).toArray) :: _) _
      refine J.pr (fun hF => ?_)
      refine J.unguard rfl rfl rfl ?_
      refine J.eqC rfl rfl fx_ok3 fx_ok3 rfl ?_
      refine J.name 31 rfl (show _ = Value.bool true by simp) ?_
      exact J.finX rfl (fun _ hw => ⟨⟨xu, uu⟩, rfl, fun _ _ _ => rfl, hF, hw⟩)
    · skip
      obtain ⟨xu, uu⟩ := x
      show J _ _ _ _ _ ((31, .bool true) :: (25, .bool true) :: _) _
      refine J.pr (fun hF => ?_)
      (first | refine J.pickT rfl rfl rfl ?_ | refine J.pickF rfl rfl rfl ?_)
      exact J.finX rfl (fun _ hw => ⟨⟨xu, uu⟩, rfl, fun _ _ _ => rfl, hF, hw⟩)
    · skip
      obtain ⟨xu, uu⟩ := x
      show J _ _ _ _ _ ((29, .agg (cI (nI 20)).toArray) :: (32, .bool true) :: _) _
      refine J.pr (fun hF => ?_)
      refine J.move rfl rfl ?_
      exact J.finX rfl (fun _ hw => ⟨⟨xu, uu⟩, rfl, fun _ _ _ => rfl, hF, hw⟩)
    · skip
      obtain ⟨xu, uu⟩ := x
      show J _ _ _ _ _ ((33, .bool true) :: _) _
      refine J.pr (fun hF => ?_)
      (first | refine J.pickT rfl rfl rfl ?_ | refine J.pickF rfl rfl rfl ?_)
      exact J.finX rfl (fun _ hw => ⟨⟨xu, uu⟩, rfl, fun _ _ _ => rfl, hF, hw⟩)
    · skip
      obtain ⟨xu, uu⟩ := x
      show J _ _ _ _ _ ((33, .bool true) :: (34, .bool true) :: _) _
      refine J.pr (fun hF => ?_)
      refine J.move rfl rfl ?_
      exact J.finX rfl (fun _ hw => ⟨⟨xu, uu⟩, rfl, fun _ _ _ => rfl, hF, hw⟩)
    · skip
      obtain ⟨xu, uu⟩ := x
      show J _ _ _ _ _ ((35, .bool true) :: _) _
      refine J.pr (fun hF => ?_)
      (first | refine J.pickT rfl rfl rfl ?_ | refine J.pickF rfl rfl rfl ?_)
      exact J.finX rfl (fun _ hw => ⟨⟨xu, uu⟩, rfl, fun _ _ _ => rfl, hF, hw⟩)
  case htail =>
    intro x
    obtain ⟨xu, uu⟩ := x
    show J _ _ _ _ _ ((36, .bool true) :: (35, .bool true) :: (34, .bool true) :: (33, .bool true) :: (32, .bool true) :: (31, .bool true) :: (30, .agg (cC fx3).toArray) :: (29, .agg (cI (nI 20)).toArray) :: (28, .agg (cC fx3).toArray) :: (27, .pointer (some ⟨bq, 0 + (1 : Int).toNat * 35, none⟩)) :: (26, .slice (some ⟨bq, 0, none⟩) 2 cq) :: (25, .bool true) :: (24, .bool true) :: (23, .bool true) :: (22, .agg (cC fx2).toArray) :: (21, .agg (cI (nI 7)).toArray) :: (20, .agg (cC fx2).toArray) :: (19, .pointer (some ⟨bq, 0 + (0 : Int).toNat * 35, none⟩)) :: (18, .slice (some ⟨bq, 0, none⟩) 2 cq) :: (17, .bool true) :: (16, .bool true) :: (15, .int .i64 2) :: (14, .slice (some ⟨bq, 0, none⟩) 2 cq) :: _) (fun w1 => (True) ∧ St w [] ((bq, cb (fC [fx2, fx3] ++ sq) 75) :: (b12, cb (fC fxC) 75) :: (b4, cb (cI (nI 9)) 23) :: []) w1)
    refine J.pr (fun hF => ?_)
    refine J.assign rfl rfl ?_
    refine J.nil ?_
    refine JX.thenN (hK2 _ _ ?_)
    refine JC.ret ?_
    refine JX.ret1 rfl rfl (fun w hw => ?_)
    exact ⟨rfl, (hw.drop (List.nil_sublist _)).below⟩

end Go.Proofs.Ytbafhclandendaa
