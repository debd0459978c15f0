/-
  SeekDone: texts that its proof needs, part 3.
-/
import Derived.Test.YtbafhclandendaaZSeekDoneb
/-
  Sorting by insertion, at candidates: contract.
-/
namespace Go.Proofs.Ytbafhclandendaa
open Go.J Go.RowKit
set_option linter.unusedVariables false
set_option linter.unusedSimpArgs false
set_option maxRecDepth 8000
theorem fC_len (xs : List CV) : (fC xs).length = xs.length * 35 := fG_length (c := cC) (sz := 35) (fun _ => rfl) xs
theorem fC_take (xs : List CV) (n : Nat) : fC (xs.take n) = (fC xs).take (n * 35) := by
  induction xs generalizing n with
  | nil => simp
  | cons x xs ih =>
    cases n with
    | zero => simp
    | succ n =>
      rw [List.take_succ_cons, show fC (x :: xs.take n) = cC x ++ fC (xs.take n) from rfl, ih, show fC (x :: xs) = cC x ++ fC xs from rfl, show (n + 1) * 35 = (cC x).length + n * 35 by rw [cC_len]; omega, List.take_length_add_append]
theorem fC_drop (xs : List CV) (n : Nat) : fC (xs.drop n) = (fC xs).drop (n * 35) := by
  induction xs generalizing n with
  | nil => simp
  | cons x xs ih =>
    cases n with
    | zero => simp
    | succ n =>
      rw [List.drop_succ_cons, ih, show fC (x :: xs) = cC x ++ fC xs from rfl, show (n + 1) * 35 = (cC x).length + n * 35 by rw [cC_len]; omega, List.drop_length_add_append]
theorem set_C {xs : List CV} {sp : List Value} {i o : Nat} {y : CV} (hi : i < xs.length) (ho : o = i * 35) : setMany (fC xs ++ sp) o (cC y) = fC (xs.set i y) ++ sp := by
  subst ho
  have hl := fC_len xs
  rw [setMany_eq _ _ _ (by rw [cC_len, List.length_append]; omega), cC_len, List.take_append_of_le_length (by omega), List.drop_append_of_le_length (by omega), List.set_eq_take_append_cons_drop, if_pos hi]
  rw [← fC_take, show i * 35 + 35 = (i + 1) * 35 by omega, ← fC_drop]
  simp only [fC, List.flatMap_append, List.flatMap_cons, List.append_assoc]
theorem rowC_own {w0 w : World} {S : List Nat} {l : List (Nat × Obj)} {q n c : Nat} {xs : List CV} {sp : List Value} (hw : St w0 S l w) (hm : (q, cb (fC xs ++ sp) 75) ∈ l) (hn : xs.length = n) (hc : n ≤ c) : Row w (.slice (some ⟨q, 0, none⟩) n c) n (fC xs) :=
  Row.own (cs := fC xs ++ sp) (tb := 75) (fr := (0, 0)) hw hm (by simp) hc
theorem get_mid {α : Type} (l r : List α) (x : α) : (l ++ x :: r)[l.length]? = some x := by simp
theorem get_mid2 {α : Type} (l r : List α) (x y : α) : (l ++ x :: y :: r)[l.length + 1]? = some y := by simp
theorem swap_mid {α : Type} (l r : List α) (x y : α) : ((l ++ x :: y :: r).set (l.length + 1) x).set l.length y = l ++ y :: x :: r := by
  simp [List.set_append]
theorem srt_one (L : List CV) : Srt ltC (L.take 1) := by
  match L with
  | [] => exact .nil
  | x :: l => exact List.pairwise_singleton _ _
structure InS where
  j : Nat
  U : List CV
  V : List CV

set_option maxHeartbeats 2000000 in
theorem insertion_spec (q n c : Nat) (P L T : List CV) (sp : List Value) (w : World) (hw0 : Own w [(q, cb (fC (P ++ (L ++ T)) ++ sp) 75)]) (hn : (P ++ (L ++ T)).length = n) (hnc : n ≤ c) (hnb : n ≤ 1099511627776) :
    Calls Try.prog 81 [.slice (some ⟨q, 0, none⟩) n c, .int .i64 ((P.length : Nat) : Int), .int .i64 (((P.length + L.length) : Nat) : Int), .func (.func 55) #[] #[]].toArray w fun r w' => ∃ S : List CV, r = .returned (.tuple #[]) ∧ (SE ltC L S ∧ Srt ltC S) ∧ St w [q] [(q, cb (fC (P ++ (S ++ T)) ++ sp) 75)] w' := by
  have hPn : P.length + L.length + T.length = n := by simp only [List.length_append] at hn; omega
  refine calls_of_J (args := [.slice (some ⟨q, 0, none⟩) n c, .int .i64 ((P.length : Nat) : Int), .int .i64 (((P.length + L.length) : Nat) : Int), .func (.func 55) #[] #[]]) (e := [(0, .slice (some ⟨q, 0, none⟩) n c), (1, .int .i64 ((P.length : Nat) : Int)), (2, .int .i64 (((P.length + L.length) : Nat) : Int)), (3, .func (.func 55) #[] #[])]) Try.func81 rfl rfl ⟨rfl, rfl, rfl, rfl, trivial⟩ (hw0.st) ?_
  refine JC.seq (fun K0 hK0 => ?_)
  refine JC.region ?_
  refine J.move rfl rfl ?_
  refine J.addN rfl rfl (by omega) (by omega) rfl ?_
  refine J.name 11 rfl (show _ = Value.int .i64 (((P.length + 1) : Nat) : Int) from congrArg (Value.int .i64) (by omega)) ?_
  refine J.assign rfl rfl ?_
  refine J.nil ?_
  refine JX.thenN (hK0 _ _ ?_)
  refine JC.block ?_
  refine JC.conseq (JC.cov (f := (fun st => [(0, .slice (some ⟨q, 0, none⟩) n c), (1, .int .i64 ((P.length : Nat) : Int)), (2, .int .i64 (((P.length + L.length) : Nat) : Int)), (3, .func (.func 55) #[] #[]), (8, .int .i64 (((P.length + st.1) : Nat) : Int))]) ((1, L.take 1) : Nat × List CV)) ⟨rfl, rfl, rfl, rfl, rfl, trivial⟩ (JC.loop (α := Nat × List CV) (fun st => [(0, .slice (some ⟨q, 0, none⟩) n c), (1, .int .i64 ((P.length : Nat) : Int)), (2, .int .i64 (((P.length + L.length) : Nat) : Int)), (3, .func (.func 55) #[] #[]), (8, .int .i64 (((P.length + st.1) : Nat) : Int))]) (fun st w' => (1 ≤ st.1 ∧ SE ltC (L.take st.1) st.2 ∧ Srt ltC st.2) ∧ St w [q] [(q, cb (fC (P ++ (st.2 ++ (L.drop st.1 ++ T))) ++ sp) 75)] w') (fun st => L.length - st.1) ((1, L.take 1) : Nat × List CV) (fun st => ?_))) (fun w hw => ⟨⟨Nat.le_refl _, SE.refl _, srt_one L⟩, by rw [show P ++ (L.take 1 ++ (L.drop 1 ++ T)) = P ++ (L ++ T) by rw [← List.append_assoc (L.take 1), List.take_append_drop]]; exact hw⟩)
  obtain ⟨k, S⟩ := st
  refine JC.pr (fun hI => ?_)
  obtain ⟨hk1, hse, hsrt⟩ := hI
  try simp only at hk1 hse hsrt ⊢
  have hSl := hse.length swoC
  rw [List.length_take] at hSl
  refine JC.seq (fun K1 hK1 => ?_)
  refine JC.seq (fun K2 hK2 => ?_)
  refine JC.region ?_
  refine J.move rfl rfl ?_
  refine J.move rfl rfl ?_
  refine J.bin rfl rfl rfl rfl ?_
  refine J.nil ?_
  refine JX.thenN (hK2 _ _ ?_)
  refine JC.cond rfl (fun h0 => ?_) (fun h0 => ?_)
  · skip
    have hkl : k < L.length := by simp at h0; omega
    obtain ⟨xe, hx⟩ : ∃ y, L[k]? = some y := ⟨_, List.getElem?_eq_getElem hkl⟩
    have hxd : L.drop k = xe :: L.drop (k + 1) := by rw [List.drop_eq_getElem_cons hkl, (List.getElem?_eq_some_iff.1 hx).2]
    refine JC.skip ?_
    refine JX.thenN (hK1 _ _ ?_)
    refine JC.seq (fun K3 hK3 => ?_)
    refine JC.block ?_
    refine JC.seq (fun K4 hK4 => ?_)
    refine JC.region ?_
    refine J.move rfl rfl ?_
    refine J.assign rfl rfl ?_
    refine J.nil ?_
    refine JX.thenN (hK4 _ _ ?_)
    refine JC.block ?_
    refine JC.conseq (JC.cov (f := (fun st => [(0, .slice (some ⟨q, 0, none⟩) n c), (1, .int .i64 ((P.length : Nat) : Int)), (2, .int .i64 (((P.length + L.length) : Nat) : Int)), (3, .func (.func 55) #[] #[]), (8, .int .i64 (((P.length + k) : Nat) : Int)), (9, .int .i64 ((st.j : Nat) : Int))]) (⟨P.length + k, S, []⟩ : InS)) ⟨rfl, rfl, rfl, rfl, rfl, rfl, trivial⟩ (JC.loop (α := InS) (fun st => [(0, .slice (some ⟨q, 0, none⟩) n c), (1, .int .i64 ((P.length : Nat) : Int)), (2, .int .i64 (((P.length + L.length) : Nat) : Int)), (3, .func (.func 55) #[] #[]), (8, .int .i64 (((P.length + k) : Nat) : Int)), (9, .int .i64 ((st.j : Nat) : Int))]) (fun st w' => (st.j = P.length + st.U.length ∧ SE ltC (L.take (k + 1)) (st.U ++ xe :: st.V) ∧ Srt ltC (st.U ++ st.V) ∧ ∀ v, v ∈ st.V → ltC xe v) ∧ St w [q] [(q, cb (fC (P ++ ((st.U ++ xe :: st.V) ++ (L.drop (k + 1) ++ T))) ++ sp) 75)] w') (fun st => st.j) (⟨P.length + k, S, []⟩ : InS) (fun st => ?_))) (fun w hw => ⟨⟨by show P.length + k = P.length + S.length; omega, by rw [List.take_add_one, hx]; exact hse.app (SE.refl [xe]), by rw [List.append_nil]; exact hsrt, by simp⟩, by rw [hxd] at hw; simpa [List.append_assoc] using hw⟩)
    obtain ⟨j, U, V⟩ := st
    refine JC.pr (fun hI => ?_)
    obtain ⟨hj, hse2, hUV, hV⟩ := hI
    try simp only at hj hse2 hUV hV ⊢
    refine JC.seq (fun K5 hK5 => ?_)
    refine JC.seq (fun K6 hK6 => ?_)
    rcases List.eq_nil_or_concat U with hU0 | ⟨U0, u, hU0⟩
    · skip
      subst hU0
      obtain rfl : j = P.length := by simpa using hj
      have hU : ∀ u, ([] : List CV).getLast? = some u → ¬ ltC xe u := by simp
      apply JC.drawX (α := Nat × Unit) 17 (fun x => match x with | ⟨xu, uu⟩ => [.int .i64 ((P.length : Nat) : Int), .int .i64 ((P.length : Nat) : Int), .bool false, .bool false, undef, undef, undef, undef, undef, undef, undef, undef, undef, undef, undef, undef, .bool false]) (fun m x => match x with | ⟨xu, uu⟩ => fun w1 => (True) ∧ St w [q] ((q, cb (fC (P ++ (([] ++ xe :: V) ++ (L.drop (k + 1) ++ T))) ++ sp) 75) :: []) w1) Ty.mixed rfl rfl rfl (by kernel_rfl) rfl rfl ?hinit ?hstep ?htail
      case hinit => exact fun w1 hw => ⟨(0, ()), trivial, hw.drew⟩
      case hstep =>
        refine ⟨fun m x hm hp => ?_, fun m x hm hp => ?_, fun m x hm hp => ?_, fun m x hm hp => ?_, fun m x hm hp => ?_, fun m x hm hp => ?_, fun m x hm hp => ?_, fun m x hm hp => ?_, fun m x hm hp => ?_, fun m x hm hp => ?_, fun m x hm hp => ?_, fun m x hm hp => ?_, fun m x hm hp => ?_, fun m x hm hp => ?_, fun m x hm hp => ?_, fun m x hm hp => ?_, fun m x hm hp => ?_, trivial⟩
        · skip
          obtain ⟨xu, uu⟩ := x
          show J _ _ _ _ _ (_) _
          refine J.pr (fun hF => ?_)
          refine J.move rfl rfl ?_
          exact J.finX rfl (fun _ hw => ⟨⟨xu, uu⟩, rfl, fun _ _ _ => rfl, hF, hw⟩)
        · skip
          obtain ⟨xu, uu⟩ := x
          show J _ _ _ _ _ (_) _
          refine J.pr (fun hF => ?_)
          refine J.move rfl rfl ?_
          exact J.finX rfl (fun _ hw => ⟨⟨xu, uu⟩, rfl, fun _ _ _ => rfl, hF, hw⟩)
        · skip
          obtain ⟨xu, uu⟩ := x
          show J _ _ _ _ _ ((19, .int .i64 ((P.length : Nat) : Int)) :: (18, .int .i64 ((P.length : Nat) : Int)) :: _) _
          refine J.pr (fun hF => ?_)
          refine J.bin rfl rfl rfl rfl ?_
          refine J.name 20 rfl (show _ = Value.bool false by simp) ?_
          exact J.finX rfl (fun _ hw => ⟨⟨xu, uu⟩, rfl, fun _ _ _ => rfl, hF, hw⟩)
        · skip
          obtain ⟨xu, uu⟩ := x
          show J _ _ _ _ _ ((20, .bool false) :: _) _
          refine J.pr (fun hF => ?_)
          refine J.move rfl rfl ?_
          exact J.finX rfl (fun _ hw => ⟨⟨xu, uu⟩, rfl, fun _ _ _ => rfl, hF, hw⟩)
        · skip
          obtain ⟨xu, uu⟩ := x
          show J _ _ _ _ _ ((21, .bool false) :: _) _
          refine J.pr (fun hF => ?_)
          first | refine J.skip rfl rfl rfl rfl rfl ?_ | refine J.skipU rfl rfl rfl rfl ?_ | (refine J.unguard rfl rfl rfl ?_; refine J.move rfl rfl ?_)
          exact J.finX rfl (fun _ hw => ⟨⟨xu, uu⟩, rfl, fun _ _ _ => rfl, hF, hw⟩)
        · skip
          obtain ⟨xu, uu⟩ := x
          show J _ _ _ _ _ ((21, .bool false) :: _) _
          refine J.pr (fun hF => ?_)
          first | refine J.skip rfl rfl rfl rfl rfl ?_ | refine J.skipU rfl rfl rfl rfl ?_ | (refine J.unguard rfl rfl rfl ?_; refine J.move rfl rfl ?_)
          exact J.finX rfl (fun _ hw => ⟨⟨xu, uu⟩, rfl, fun _ _ _ => rfl, hF, hw⟩)
        · skip
          obtain ⟨xu, uu⟩ := x
          show J _ _ _ _ _ ((21, .bool false) :: _) _
          refine J.pr (fun hF => ?_)
          first | refine J.skip rfl rfl rfl rfl rfl ?_ | refine J.skipU rfl rfl rfl rfl ?_ | (refine J.unguard rfl rfl rfl ?_; refine J.move rfl rfl ?_)
          exact J.finX rfl (fun _ hw => ⟨⟨xu, uu⟩, rfl, fun _ _ _ => rfl, hF, hw⟩)
        · skip
          obtain ⟨xu, uu⟩ := x
          show J _ _ _ _ _ ((21, .bool false) :: (24, undef) :: (23, undef) :: _) _
          refine J.pr (fun hF => ?_)
          first | refine J.skip rfl rfl rfl rfl rfl ?_ | refine J.skipU rfl rfl rfl rfl ?_ | (refine J.unguard rfl rfl rfl ?_; refine J.indexAddrS Ty.el68 Ty.s75 rfl rfl (by omega) (by omega) rfl ?_)
          exact J.finX rfl (fun _ hw => ⟨⟨xu, uu⟩, rfl, fun _ _ _ => rfl, hF, hw⟩)
        · skip
          obtain ⟨xu, uu⟩ := x
          show J _ _ _ _ _ ((21, .bool false) :: (25, undef) :: _) _
          refine J.pr (fun hF => ?_)
          first | refine J.skip rfl rfl rfl rfl rfl ?_ | refine J.skipU rfl rfl rfl rfl ?_ | (refine J.unguard rfl rfl rfl ?_; refine J.loadOA Ty.a75 Ty.s75 rfl (by repeat first | exact .head _ | apply List.Mem.tail | apply List.mem_append_right) (by exact rfl) rfl rfl ?_)
          exact J.finX rfl (fun _ hw => ⟨⟨xu, uu⟩, rfl, fun _ _ _ => rfl, hF, hw⟩)
        · skip
          obtain ⟨xu, uu⟩ := x
          show J _ _ _ _ _ ((21, .bool false) :: _) _
          refine J.pr (fun hF => ?_)
          first | refine J.skip rfl rfl rfl rfl rfl ?_ | refine J.skipU rfl rfl rfl rfl ?_ | (refine J.unguard rfl rfl rfl ?_; refine J.move rfl rfl ?_)
          exact J.finX rfl (fun _ hw => ⟨⟨xu, uu⟩, rfl, fun _ _ _ => rfl, hF, hw⟩)
        · skip
          obtain ⟨xu, uu⟩ := x
          show J _ _ _ _ _ ((21, .bool false) :: _) _
          refine J.pr (fun hF => ?_)
          first | refine J.skip rfl rfl rfl rfl rfl ?_ | refine J.skipU rfl rfl rfl rfl ?_ | (refine J.unguard rfl rfl rfl ?_; refine J.move rfl rfl ?_)
          exact J.finX rfl (fun _ hw => ⟨⟨xu, uu⟩, rfl, fun _ _ _ => rfl, hF, hw⟩)
        · skip
          obtain ⟨xu, uu⟩ := x
          show J _ _ _ _ _ ((21, .bool false) :: (28, undef) :: _) _
          refine J.pr (fun hF => ?_)
          first | refine J.skip rfl rfl rfl rfl rfl ?_ | refine J.skipU rfl rfl rfl rfl ?_ | (refine J.unguard rfl rfl rfl ?_; (first | refine J.subN rfl rfl (by omega) (by omega) rfl ?_ | refine J.bin rfl rfl rfl rfl ?_))
          exact J.finX rfl (fun _ hw => ⟨⟨xu, uu⟩, rfl, fun _ _ _ => rfl, hF, hw⟩)
        · skip
          obtain ⟨xu, uu⟩ := x
          show J _ _ _ _ _ ((21, .bool false) :: (29, undef) :: (27, undef) :: _) _
          refine J.pr (fun hF => ?_)
          first | refine J.skip rfl rfl rfl rfl rfl ?_ | refine J.skipU rfl rfl rfl rfl ?_ | (refine J.unguard rfl rfl rfl ?_; refine J.indexAddrS Ty.el68 Ty.s75 rfl rfl (by omega) (by omega) rfl ?_)
          exact J.finX rfl (fun _ hw => ⟨⟨xu, uu⟩, rfl, fun _ _ _ => rfl, hF, hw⟩)
        · skip
          obtain ⟨xu, uu⟩ := x
          show J _ _ _ _ _ ((21, .bool false) :: (30, undef) :: _) _
          refine J.pr (fun hF => ?_)
          first | refine J.skip rfl rfl rfl rfl rfl ?_ | refine J.skipU rfl rfl rfl rfl ?_ | (refine J.unguard rfl rfl rfl ?_; refine J.loadOA Ty.a75 Ty.s75 rfl (by repeat first | exact .head _ | apply List.Mem.tail | apply List.mem_append_right) (by exact rfl) rfl rfl ?_)
          exact J.finX rfl (fun _ hw => ⟨⟨xu, uu⟩, rfl, fun _ _ _ => rfl, hF, hw⟩)
        · skip
          obtain ⟨xu, uu⟩ := x
          show J _ _ _ _ _ ((21, .bool false) :: (21, .bool false) :: (31, undef) :: (26, undef) :: (22, undef) :: _) _
          refine J.pr (fun hF => ?_)
          first | refine J.skip rfl rfl rfl rfl rfl ?_ | refine J.skipU rfl rfl rfl rfl ?_ | (refine J.unguard rfl rfl rfl ?_; fail)
          exact J.finX rfl (fun _ hw => ⟨⟨xu, uu⟩, rfl, fun _ _ _ => rfl, hF, hw⟩)
        · skip
          obtain ⟨xu, uu⟩ := x
          show J _ _ _ _ _ ((21, .bool false) :: (32, undef) :: _) _
          refine J.pr (fun hF => ?_)
          first | refine J.skip rfl rfl rfl rfl rfl ?_ | refine J.skipU rfl rfl rfl rfl ?_ | (refine J.unguard rfl rfl rfl ?_; refine J.bin rfl rfl rfl rfl ?_)
          exact J.finX rfl (fun _ hw => ⟨⟨xu, uu⟩, rfl, fun _ _ _ => rfl, hF, hw⟩)
        · skip
          obtain ⟨xu, uu⟩ := x
          show J _ _ _ _ _ ((33, undef) :: (21, .bool false) :: _) _
          refine J.pr (fun hF => ?_)
          (first | refine J.pickT rfl rfl rfl ?_ | refine J.pickF rfl rfl rfl ?_)
          exact J.finX rfl (fun _ hw => ⟨⟨xu, uu⟩, rfl, fun _ _ _ => rfl, hF, hw⟩)
      case htail =>
        intro x
        obtain ⟨xu, uu⟩ := x
        show J _ _ _ _ _ ((34, .bool false) :: (33, undef) :: (32, undef) :: (31, undef) :: (30, undef) :: (29, undef) :: (28, undef) :: (27, undef) :: (26, undef) :: (25, undef) :: (24, undef) :: (23, undef) :: (22, undef) :: (21, .bool false) :: (20, .bool false) :: (19, .int .i64 ((P.length : Nat) : Int)) :: (18, .int .i64 ((P.length : Nat) : Int)) :: _) (fun w1 => (True) ∧ St w [q] ((q, cb (fC (P ++ (([] ++ xe :: V) ++ (L.drop (k + 1) ++ T))) ++ sp) 75) :: []) w1)
        refine J.pr (fun hF => ?_)
        refine J.nil ?_
        refine JX.thenN (hK6 _ _ ?_)
        first | refine JC.condF rfl ?_ | refine JC.cond rfl (fun h => by first | (exfalso; simp at h; omega) | (simp at h)) (fun _ => ?_)
        refine JC.exit ?_
        refine JX.thenE ?_
        refine JX.thenE ?_
        refine JX.blockE ?_
        refine JX.blockN ?_
        refine JX.thenN (hK3 _ _ ?_)
        refine JC.region ?_
        refine J.move rfl rfl ?_
        refine J.addN rfl rfl (by omega) (by omega) rfl ?_
        refine J.name 16 rfl (show _ = Value.int .i64 (((P.length + (k + 1)) : Nat) : Int) from congrArg (Value.int .i64) (by omega)) ?_
        refine J.assign rfl rfl ?_
        refine J.nil ?_
        refine JX.thenN ?_
        refine JX.again ((k + 1, ([] : List CV) ++ xe :: V) : Nat × List CV) ?_ ?_ ?_
        · simp only; omega
        · exact ⟨rfl, rfl, rfl, rfl, rfl, trivial⟩
        · exact fun w1 hw => ⟨⟨by show 1 ≤ k + 1; omega, hse2, ins_done swoC hUV hV hU⟩, hw⟩
    · skip
      rw [List.concat_eq_append] at hU0
      subst hU0
      obtain ⟨k0, rfl⟩ : ∃ k0, j = k0 + 1 := ⟨j - 1, by simp at hj; omega⟩
      have hk0 : k0 = (P ++ U0).length := by simp at hj ⊢; omega
      have hk2 : k0 = P.length + U0.length := by rw [hk0, List.length_append]
      have e0 : P ++ (((U0 ++ [u]) ++ xe :: V) ++ (L.drop (k + 1) ++ T)) = (P ++ U0) ++ u :: xe :: (V ++ (L.drop (k + 1) ++ T)) := by simp [List.append_assoc]
      rw [e0]
      have hl2 := hse2.length swoC
      simp only [List.length_take, List.length_append, List.length_cons, List.length_nil] at hl2
      have hnx : ((P ++ U0) ++ u :: xe :: (V ++ (L.drop (k + 1) ++ T))).length = n := by simp only [List.length_append, List.length_cons, List.length_drop]; omega
      have gu : ((P ++ U0) ++ u :: xe :: (V ++ (L.drop (k + 1) ++ T)))[k0]? = some u := by rw [hk0]; exact get_mid _ _ _
      have gx : ((P ++ U0) ++ u :: xe :: (V ++ (L.drop (k + 1) ++ T)))[k0 + 1]? = some xe := by rw [hk0]; exact get_mid2 _ _ _ _
      have hkn : k0 + 1 < n := by rw [← hnx]; exact (List.getElem?_eq_some_iff.1 gx).1
      apply JC.drawX (α := Nat × Unit) 17 (fun x => match x with | ⟨xu, uu⟩ => [.int .i64 (((k0 + 1) : Nat) : Int), .int .i64 ((P.length : Nat) : Int), .bool true, .bool true, .func (.func 55) #[] #[], .slice (some ⟨q, 0, none⟩) n c, .int .i64 (((k0 + 1) : Nat) : Int), .pointer (some ⟨q, 0 + (((k0 + 1) : Nat) : Int).toNat * 35, none⟩), .agg (cC xe).toArray, .slice (some ⟨q, 0, none⟩) n c, .int .i64 (((k0 + 1) : Nat) : Int), .int .i64 ((k0 : Nat) : Int), .pointer (some ⟨q, 0 + ((k0 : Nat) : Int).toNat * 35, none⟩), .agg (cC u).toArray, .int .i64 (ordC xe u), .bool (decide (ltC xe u)), .bool (decide (ltC xe u))]) (fun m x => match x with | ⟨xu, uu⟩ => fun w1 => (True) ∧ St w [q] ((q, cb (fC ((P ++ U0) ++ u :: xe :: (V ++ (L.drop (k + 1) ++ T))) ++ sp) 75) :: []) w1) Ty.mixed rfl rfl rfl (by kernel_rfl) rfl rfl ?hinit ?hstep ?htail
      case hinit => exact fun w1 hw => ⟨(0, ()), trivial, hw.drew⟩
      case hstep =>
        refine ⟨fun m x hm hp => ?_, fun m x hm hp => ?_, fun m x hm hp => ?_, fun m x hm hp => ?_, fun m x hm hp => ?_, fun m x hm hp => ?_, fun m x hm hp => ?_, fun m x hm hp => ?_, fun m x hm hp => ?_, fun m x hm hp => ?_, fun m x hm hp => ?_, fun m x hm hp => ?_, fun m x hm hp => ?_, fun m x hm hp => ?_, fun m x hm hp => ?_, fun m x hm hp => ?_, fun m x hm hp => ?_, trivial⟩
        · skip
          obtain ⟨xu, uu⟩ := x
          show J _ _ _ _ _ (_) _
          refine J.pr (fun hF => ?_)
          refine J.move rfl rfl ?_
          exact J.finX rfl (fun _ hw => ⟨⟨xu, uu⟩, rfl, fun _ _ _ => rfl, hF, hw⟩)
        · skip
          obtain ⟨xu, uu⟩ := x
          show J _ _ _ _ _ (_) _
          refine J.pr (fun hF => ?_)
          refine J.move rfl rfl ?_
          exact J.finX rfl (fun _ hw => ⟨⟨xu, uu⟩, rfl, fun _ _ _ => rfl, hF, hw⟩)
        · skip
          obtain ⟨xu, uu⟩ := x
          show J _ _ _ _ _ ((19, .int .i64 ((P.length : Nat) : Int)) :: (18, .int .i64 (((k0 + 1) : Nat) : Int)) :: _) _
          refine J.pr (fun hF => ?_)
          refine J.bin rfl rfl rfl rfl ?_
          refine J.name 20 rfl (show _ = Value.bool true by simp; omega) ?_
          exact J.finX rfl (fun _ hw => ⟨⟨xu, uu⟩, rfl, fun _ _ _ => rfl, hF, hw⟩)
        · skip
          obtain ⟨xu, uu⟩ := x
          show J _ _ _ _ _ ((20, .bool true) :: _) _
          refine J.pr (fun hF => ?_)
          refine J.move rfl rfl ?_
          exact J.finX rfl (fun _ hw => ⟨⟨xu, uu⟩, rfl, fun _ _ _ => rfl, hF, hw⟩)
        · skip
          obtain ⟨xu, uu⟩ := x
          show J _ _ _ _ _ ((21, .bool true) :: _) _
          refine J.pr (fun hF => ?_)
          first | refine J.skip rfl rfl rfl rfl rfl ?_ | refine J.skipU rfl rfl rfl rfl ?_ | (refine J.unguard rfl rfl rfl ?_; refine J.move rfl rfl ?_)
          exact J.finX rfl (fun _ hw => ⟨⟨xu, uu⟩, rfl, fun _ _ _ => rfl, hF, hw⟩)
        · skip
          obtain ⟨xu, uu⟩ := x
          show J _ _ _ _ _ ((21, .bool true) :: _) _
          refine J.pr (fun hF => ?_)
          first | refine J.skip rfl rfl rfl rfl rfl ?_ | refine J.skipU rfl rfl rfl rfl ?_ | (refine J.unguard rfl rfl rfl ?_; refine J.move rfl rfl ?_)
          exact J.finX rfl (fun _ hw => ⟨⟨xu, uu⟩, rfl, fun _ _ _ => rfl, hF, hw⟩)
        · skip
          obtain ⟨xu, uu⟩ := x
          show J _ _ _ _ _ ((21, .bool true) :: _) _
          refine J.pr (fun hF => ?_)
          first | refine J.skip rfl rfl rfl rfl rfl ?_ | refine J.skipU rfl rfl rfl rfl ?_ | (refine J.unguard rfl rfl rfl ?_; refine J.move rfl rfl ?_)
          exact J.finX rfl (fun _ hw => ⟨⟨xu, uu⟩, rfl, fun _ _ _ => rfl, hF, hw⟩)
        · skip
          obtain ⟨xu, uu⟩ := x
          show J _ _ _ _ _ ((21, .bool true) :: (24, .int .i64 (((k0 + 1) : Nat) : Int)) :: (23, .slice (some ⟨q, 0, none⟩) n c) :: _) _
          refine J.pr (fun hF => ?_)
          refine J.unguard rfl rfl rfl ?_
          refine J.indexAddrS Ty.el68 Ty.s75 rfl rfl (by omega) (by omega) rfl ?_
          exact J.finX rfl (fun _ hw => ⟨⟨xu, uu⟩, rfl, fun _ _ _ => rfl, hF, hw⟩)
        · skip
          obtain ⟨xu, uu⟩ := x
          show J _ _ _ _ _ ((21, .bool true) :: (25, .pointer (some ⟨q, 0 + (((k0 + 1) : Nat) : Int).toNat * 35, none⟩)) :: _) _
          refine J.pr (fun hF => ?_)
          refine J.unguard rfl rfl rfl ?_
          refine J.loadA (vs := cC xe) Ty.a75 Ty.s75 rfl rfl (fun w1 hw => rowG_at (c := cC) (sz := 35) (fun _ => rfl) (rowC_own (xs := (P ++ U0) ++ u :: xe :: (V ++ (L.drop (k + 1) ++ T))) hw (.head _) hnx hnc) gx (by rw [Int.toNat_natCast])) rfl ?_
          exact J.finX rfl (fun _ hw => ⟨⟨xu, uu⟩, rfl, fun _ _ _ => rfl, hF, hw⟩)
        · skip
          obtain ⟨xu, uu⟩ := x
          show J _ _ _ _ _ ((21, .bool true) :: _) _
          refine J.pr (fun hF => ?_)
          first | refine J.skip rfl rfl rfl rfl rfl ?_ | refine J.skipU rfl rfl rfl rfl ?_ | (refine J.unguard rfl rfl rfl ?_; refine J.move rfl rfl ?_)
          exact J.finX rfl (fun _ hw => ⟨⟨xu, uu⟩, rfl, fun _ _ _ => rfl, hF, hw⟩)
        · skip
          obtain ⟨xu, uu⟩ := x
          show J _ _ _ _ _ ((21, .bool true) :: _) _
          refine J.pr (fun hF => ?_)
          first | refine J.skip rfl rfl rfl rfl rfl ?_ | refine J.skipU rfl rfl rfl rfl ?_ | (refine J.unguard rfl rfl rfl ?_; refine J.move rfl rfl ?_)
          exact J.finX rfl (fun _ hw => ⟨⟨xu, uu⟩, rfl, fun _ _ _ => rfl, hF, hw⟩)
        · skip
          obtain ⟨xu, uu⟩ := x
          show J _ _ _ _ _ ((21, .bool true) :: (28, .int .i64 (((k0 + 1) : Nat) : Int)) :: _) _
          refine J.pr (fun hF => ?_)
          refine J.unguard rfl rfl rfl ?_
          refine J.subN rfl rfl (by omega) (by omega) rfl ?_
          refine J.name 29 rfl (show _ = Value.int .i64 ((k0 : Nat) : Int) from congrArg (Value.int .i64) (by omega)) ?_
          exact J.finX rfl (fun _ hw => ⟨⟨xu, uu⟩, rfl, fun _ _ _ => rfl, hF, hw⟩)
        · skip
          obtain ⟨xu, uu⟩ := x
          show J _ _ _ _ _ ((21, .bool true) :: (29, .int .i64 ((k0 : Nat) : Int)) :: (27, .slice (some ⟨q, 0, none⟩) n c) :: _) _
          refine J.pr (fun hF => ?_)
          refine J.unguard rfl rfl rfl ?_
          refine J.indexAddrS Ty.el68 Ty.s75 rfl rfl (by omega) (by omega) rfl ?_
          exact J.finX rfl (fun _ hw => ⟨⟨xu, uu⟩, rfl, fun _ _ _ => rfl, hF, hw⟩)
        · skip
          obtain ⟨xu, uu⟩ := x
          show J _ _ _ _ _ ((21, .bool true) :: (30, .pointer (some ⟨q, 0 + ((k0 : Nat) : Int).toNat * 35, none⟩)) :: _) _
          refine J.pr (fun hF => ?_)
          refine J.unguard rfl rfl rfl ?_
          refine J.loadA (vs := cC u) Ty.a75 Ty.s75 rfl rfl (fun w1 hw => rowG_at (c := cC) (sz := 35) (fun _ => rfl) (rowC_own (xs := (P ++ U0) ++ u :: xe :: (V ++ (L.drop (k + 1) ++ T))) hw (.head _) hnx hnc) gu (by rw [Int.toNat_natCast])) rfl ?_
          exact J.finX rfl (fun _ hw => ⟨⟨xu, uu⟩, rfl, fun _ _ _ => rfl, hF, hw⟩)
        · skip
          obtain ⟨xu, uu⟩ := x
          show J _ _ _ _ _ ((21, .bool true) :: (21, .bool true) :: (31, .agg (cC u).toArray) :: (26, .agg (cC xe).toArray) :: (22, .func (.func 55) #[] #[]) :: _) _
          refine J.pr (fun hF => ?_)
          refine J.unguard rfl rfl rfl ?_
          refine J.callVB (v := .int .i64 (ordC xe u)) (fun w1 w2 hw hb => hw.step hb) Ty.bd55 rfl rfl rfl (fun w1 hw => order_spec xe u w1) ?_
          exact J.finX rfl (fun _ hw => ⟨⟨xu, uu⟩, rfl, fun _ _ _ => rfl, hF, hw⟩)
        · skip
          obtain ⟨xu, uu⟩ := x
          show J _ _ _ _ _ ((21, .bool true) :: (32, .int .i64 (ordC xe u)) :: _) _
          refine J.pr (fun hF => ?_)
          refine J.unguard rfl rfl rfl ?_
          refine J.bin rfl rfl rfl rfl ?_
          refine J.name 33 rfl (show _ = Value.bool (decide (ltC xe u)) from rfl) ?_
          exact J.finX rfl (fun _ hw => ⟨⟨xu, uu⟩, rfl, fun _ _ _ => rfl, hF, hw⟩)
        · skip
          obtain ⟨xu, uu⟩ := x
          show J _ _ _ _ _ ((33, .bool (decide (ltC xe u))) :: (21, .bool true) :: _) _
          refine J.pr (fun hF => ?_)
          (first | refine J.pickT rfl rfl rfl ?_ | refine J.pickF rfl rfl rfl ?_)
          exact J.finX rfl (fun _ hw => ⟨⟨xu, uu⟩, rfl, fun _ _ _ => rfl, hF, hw⟩)
      case htail =>
        intro x
        obtain ⟨xu, uu⟩ := x
        show J _ _ _ _ _ ((34, .bool (decide (ltC xe u))) :: (33, .bool (decide (ltC xe u))) :: (32, .int .i64 (ordC xe u)) :: (31, .agg (cC u).toArray) :: (30, .pointer (some ⟨q, 0 + ((k0 : Nat) : Int).toNat * 35, none⟩)) :: (29, .int .i64 ((k0 : Nat) : Int)) :: (28, .int .i64 (((k0 + 1) : Nat) : Int)) :: (27, .slice (some ⟨q, 0, none⟩) n c) :: (26, .agg (cC xe).toArray) :: (25, .pointer (some ⟨q, 0 + (((k0 + 1) : Nat) : Int).toNat * 35, none⟩)) :: (24, .int .i64 (((k0 + 1) : Nat) : Int)) :: (23, .slice (some ⟨q, 0, none⟩) n c) :: (22, .func (.func 55) #[] #[]) :: (21, .bool true) :: (20, .bool true) :: (19, .int .i64 ((P.length : Nat) : Int)) :: (18, .int .i64 (((k0 + 1) : Nat) : Int)) :: _) (fun w1 => (True) ∧ St w [q] ((q, cb (fC ((P ++ U0) ++ u :: xe :: (V ++ (L.drop (k + 1) ++ T))) ++ sp) 75) :: []) w1)
        refine J.pr (fun hF => ?_)
        refine J.nil ?_
        refine JX.thenN (hK6 _ _ ?_)
        refine JC.cond rfl (fun h1 => ?_) (fun h1 => ?_)
        · skip
          have hlt : ltC xe u := by simpa using h1
          refine JC.skip ?_
          refine JX.thenN (hK5 _ _ ?_)
          refine JC.seq (fun K7 hK7 => ?_)
          refine JC.block ?_
          apply JC.drawX (α := Nat × Unit) 16 (fun x => match x with | ⟨xu, uu⟩ => [.slice (some ⟨q, 0, none⟩) n c, .int .i64 (((k0 + 1) : Nat) : Int), .slice (some ⟨q, 0, none⟩) n c, .int .i64 (((k0 + 1) : Nat) : Int), .int .i64 ((k0 : Nat) : Int), .slice (some ⟨q, 0, none⟩) n c, .int .i64 (((k0 + 1) : Nat) : Int), .int .i64 ((k0 : Nat) : Int), .pointer (some ⟨q, 0 + ((k0 : Nat) : Int).toNat * 35, none⟩), .agg (cC u).toArray, .slice (some ⟨q, 0, none⟩) n c, .int .i64 (((k0 + 1) : Nat) : Int), .pointer (some ⟨q, 0 + (((k0 + 1) : Nat) : Int).toNat * 35, none⟩), .agg (cC xe).toArray, .pointer (some ⟨q, 0 + (((k0 + 1) : Nat) : Int).toNat * 35, none⟩), undef]) (fun m x => match x with | ⟨xu, uu⟩ => fun w1 => ((m 15 = true → m 9 = true ∧ m 13 = true)) ∧ St w [q] ((q, cb (bif m 15 then fC (((P ++ U0) ++ u :: xe :: (V ++ (L.drop (k + 1) ++ T))).set ((k0 + 1)) u) ++ sp else fC ((P ++ U0) ++ u :: xe :: (V ++ (L.drop (k + 1) ++ T))) ++ sp) 75) :: []) w1) Ty.mixed rfl rfl rfl (by kernel_rfl) rfl rfl ?hinit ?hstep ?htail
          case hinit => exact fun w1 hw => ⟨(0, ()), fun h => (by cases h), hw.drew⟩
          case hstep =>
            refine ⟨fun m x hm hp => ?_, fun m x hm hp => ?_, fun m x hm hp => ?_, fun m x hm hp => ?_, fun m x hm hp => ?_, fun m x hm hp => ?_, fun m x hm hp => ?_, fun m x hm hp => ?_, fun m x hm hp => ?_, fun m x hm hp => ?_, fun m x hm hp => ?_, fun m x hm hp => ?_, fun m x hm hp => ?_, fun m x hm hp => ?_, fun m x hm hp => ?_, fun m x hm hp => ?_, trivial⟩
            · skip
              obtain ⟨xu, uu⟩ := x
              show J _ _ _ _ _ (_) _
              refine J.pr (fun hF => ?_)
              refine J.move rfl rfl ?_
              exact J.finX rfl (fun _ hw => ⟨⟨xu, uu⟩, rfl, fun _ _ _ => rfl, hF, hw⟩)
            · skip
              obtain ⟨xu, uu⟩ := x
              show J _ _ _ _ _ (_) _
              refine J.pr (fun hF => ?_)
              refine J.move rfl rfl ?_
              exact J.finX rfl (fun _ hw => ⟨⟨xu, uu⟩, rfl, fun _ _ _ => rfl, hF, hw⟩)
            · skip
              obtain ⟨xu, uu⟩ := x
              show J _ _ _ _ _ (_) _
              refine J.pr (fun hF => ?_)
              refine J.move rfl rfl ?_
              exact J.finX rfl (fun _ hw => ⟨⟨xu, uu⟩, rfl, fun _ _ _ => rfl, hF, hw⟩)
            · skip
              obtain ⟨xu, uu⟩ := x
              show J _ _ _ _ _ (_) _
              refine J.pr (fun hF => ?_)
              refine J.move rfl rfl ?_
              exact J.finX rfl (fun _ hw => ⟨⟨xu, uu⟩, rfl, fun _ _ _ => rfl, hF, hw⟩)
            · skip
              obtain ⟨xu, uu⟩ := x
              show J _ _ _ _ _ ((40, .int .i64 (((k0 + 1) : Nat) : Int)) :: _) _
              refine J.pr (fun hF => ?_)
              refine J.subN rfl rfl (by omega) (by omega) rfl ?_
              refine J.name 41 rfl (show _ = Value.int .i64 ((k0 : Nat) : Int) from congrArg (Value.int .i64) (by omega)) ?_
              exact J.finX rfl (fun _ hw => ⟨⟨xu, uu⟩, rfl, fun _ _ _ => rfl, hF, hw⟩)
            · skip
              obtain ⟨xu, uu⟩ := x
              show J _ _ _ _ _ (_) _
              refine J.pr (fun hF => ?_)
              refine J.move rfl rfl ?_
              exact J.finX rfl (fun _ hw => ⟨⟨xu, uu⟩, rfl, fun _ _ _ => rfl, hF, hw⟩)
            · skip
              obtain ⟨xu, uu⟩ := x
              show J _ _ _ _ _ (_) _
              refine J.pr (fun hF => ?_)
              refine J.move rfl rfl ?_
              exact J.finX rfl (fun _ hw => ⟨⟨xu, uu⟩, rfl, fun _ _ _ => rfl, hF, hw⟩)
            · skip
              obtain ⟨xu, uu⟩ := x
              show J _ _ _ _ _ ((43, .int .i64 (((k0 + 1) : Nat) : Int)) :: _) _
              refine J.pr (fun hF => ?_)
              refine J.subN rfl rfl (by omega) (by omega) rfl ?_
              refine J.name 44 rfl (show _ = Value.int .i64 ((k0 : Nat) : Int) from congrArg (Value.int .i64) (by omega)) ?_
              exact J.finX rfl (fun _ hw => ⟨⟨xu, uu⟩, rfl, fun _ _ _ => rfl, hF, hw⟩)
            · skip
              obtain ⟨xu, uu⟩ := x
              show J _ _ _ _ _ ((44, .int .i64 ((k0 : Nat) : Int)) :: (42, .slice (some ⟨q, 0, none⟩) n c) :: _) _
              refine J.pr (fun hF => ?_)
              refine J.indexAddrS Ty.el68 Ty.s75 rfl rfl (by omega) (by omega) rfl ?_
              exact J.finX rfl (fun _ hw => ⟨⟨xu, uu⟩, rfl, fun _ _ _ => rfl, hF, hw⟩)
            · skip
              obtain ⟨xu, uu⟩ := x
              show J _ _ _ _ _ ((45, .pointer (some ⟨q, 0 + ((k0 : Nat) : Int).toNat * 35, none⟩)) :: _) _
              refine J.pr (fun hF => ?_)
              have h15 : m 15 = false := by cases h : m 15 with
                | false => rfl
                | true => rw [(hF h).1] at hm; cases hm
              refine J.conseq (I' := St w [q] ((q, cb (fC ((P ++ U0) ++ u :: xe :: (V ++ (L.drop (k + 1) ++ T))) ++ sp) 75) :: [])) ?_ (fun w1 hw => by simp only [h15, cond_false] at hw; exact hw)
              refine J.loadA (vs := cC u) Ty.a75 Ty.s75 rfl rfl (fun w1 hw => rowG_at (c := cC) (sz := 35) (fun _ => rfl) (rowC_own (xs := (P ++ U0) ++ u :: xe :: (V ++ (L.drop (k + 1) ++ T))) hw (.head _) hnx hnc) gu (by rw [Int.toNat_natCast])) rfl ?_
              refine J.nil (JX.finB rfl (fun w1 hw => ⟨⟨⟨xu, uu⟩, rfl, fun j h1 h2 => ?_, ?_⟩, trivial⟩))
              · match j, h1 with
                | 0, _ => (first | rfl | trivial)
                | 1, _ => (first | rfl | trivial)
                | 2, _ => (first | rfl | trivial)
                | 3, _ => (first | rfl | trivial)
                | 4, _ => (first | rfl | trivial)
                | 5, _ => (first | rfl | trivial)
                | 6, _ => (first | rfl | trivial)
                | 7, _ => (first | rfl | trivial)
                | 8, _ => (first | rfl | trivial)
                | 9, _ => (first | rfl | trivial)
                | 10, _ => (first | rfl | trivial)
                | 11, _ => (first | rfl | trivial)
                | 12, _ => (first | rfl | trivial)
                | 13, _ => (first | rfl | trivial)
                | 14, _ => (first | rfl | trivial)
                | 15, _ => (first | rfl | trivial)
                | j + 16, h1 => omega
              show ((m 15 = true → true = true ∧ m 13 = true)) ∧ St w [q] ((q, cb (bif m 15 then fC (((P ++ U0) ++ u :: xe :: (V ++ (L.drop (k + 1) ++ T))).set ((k0 + 1)) u) ++ sp else fC ((P ++ U0) ++ u :: xe :: (V ++ (L.drop (k + 1) ++ T))) ++ sp) 75) :: []) w1
              simp only [h15, cond_false] at hw ⊢
              exact ⟨fun h => (by first | (rw [h15] at h; cases h) | cases h), hw⟩
            · skip
              obtain ⟨xu, uu⟩ := x
              show J _ _ _ _ _ (_) _
              refine J.pr (fun hF => ?_)
              refine J.move rfl rfl ?_
              exact J.finX rfl (fun _ hw => ⟨⟨xu, uu⟩, rfl, fun _ _ _ => rfl, hF, hw⟩)
            · skip
              obtain ⟨xu, uu⟩ := x
              show J _ _ _ _ _ (_) _
              refine J.pr (fun hF => ?_)
              refine J.move rfl rfl ?_
              exact J.finX rfl (fun _ hw => ⟨⟨xu, uu⟩, rfl, fun _ _ _ => rfl, hF, hw⟩)
            · skip
              obtain ⟨xu, uu⟩ := x
              show J _ _ _ _ _ ((48, .int .i64 (((k0 + 1) : Nat) : Int)) :: (47, .slice (some ⟨q, 0, none⟩) n c) :: _) _
              refine J.pr (fun hF => ?_)
              refine J.indexAddrS Ty.el68 Ty.s75 rfl rfl (by omega) (by omega) rfl ?_
              exact J.finX rfl (fun _ hw => ⟨⟨xu, uu⟩, rfl, fun _ _ _ => rfl, hF, hw⟩)
            · skip
              obtain ⟨xu, uu⟩ := x
              show J _ _ _ _ _ ((49, .pointer (some ⟨q, 0 + (((k0 + 1) : Nat) : Int).toNat * 35, none⟩)) :: _) _
              refine J.pr (fun hF => ?_)
              have h15 : m 15 = false := by cases h : m 15 with
                | false => rfl
                | true => rw [(hF h).2] at hm; cases hm
              refine J.conseq (I' := St w [q] ((q, cb (fC ((P ++ U0) ++ u :: xe :: (V ++ (L.drop (k + 1) ++ T))) ++ sp) 75) :: [])) ?_ (fun w1 hw => by simp only [h15, cond_false] at hw; exact hw)
              refine J.loadA (vs := cC xe) Ty.a75 Ty.s75 rfl rfl (fun w1 hw => rowG_at (c := cC) (sz := 35) (fun _ => rfl) (rowC_own (xs := (P ++ U0) ++ u :: xe :: (V ++ (L.drop (k + 1) ++ T))) hw (.head _) hnx hnc) gx (by rw [Int.toNat_natCast])) rfl ?_
              refine J.nil (JX.finB rfl (fun w1 hw => ⟨⟨⟨xu, uu⟩, rfl, fun j h1 h2 => ?_, ?_⟩, trivial⟩))
              · match j, h1 with
                | 0, _ => (first | rfl | trivial)
                | 1, _ => (first | rfl | trivial)
                | 2, _ => (first | rfl | trivial)
                | 3, _ => (first | rfl | trivial)
                | 4, _ => (first | rfl | trivial)
                | 5, _ => (first | rfl | trivial)
                | 6, _ => (first | rfl | trivial)
                | 7, _ => (first | rfl | trivial)
                | 8, _ => (first | rfl | trivial)
                | 9, _ => (first | rfl | trivial)
                | 10, _ => (first | rfl | trivial)
                | 11, _ => (first | rfl | trivial)
                | 12, _ => (first | rfl | trivial)
                | 13, _ => (first | rfl | trivial)
                | 14, _ => (first | rfl | trivial)
                | 15, _ => (first | rfl | trivial)
                | j + 16, h1 => omega
              show ((m 15 = true → m 9 = true ∧ true = true)) ∧ St w [q] ((q, cb (bif m 15 then fC (((P ++ U0) ++ u :: xe :: (V ++ (L.drop (k + 1) ++ T))).set ((k0 + 1)) u) ++ sp else fC ((P ++ U0) ++ u :: xe :: (V ++ (L.drop (k + 1) ++ T))) ++ sp) 75) :: []) w1
              simp only [h15, cond_false] at hw ⊢
              exact ⟨fun h => (by first | (rw [h15] at h; cases h) | cases h), hw⟩
            · skip
              obtain ⟨xu, uu⟩ := x
              show J _ _ _ _ _ ((50, .agg (cC xe).toArray) :: (46, .agg (cC u).toArray) :: (45, .pointer (some ⟨q, 0 + ((k0 : Nat) : Int).toNat * 35, none⟩)) :: (44, .int .i64 ((k0 : Nat) : Int)) :: (43, .int .i64 (((k0 + 1) : Nat) : Int)) :: (42, .slice (some ⟨q, 0, none⟩) n c) :: (38, .int .i64 (((k0 + 1) : Nat) : Int)) :: (37, .slice (some ⟨q, 0, none⟩) n c) :: (38, .int .i64 (((k0 + 1) : Nat) : Int)) :: (37, .slice (some ⟨q, 0, none⟩) n c) :: _) _
              have hp9 : m 9 = true := predsT hp (by kernel_rfl)
              have hp13 : m 13 = true := predsT hp (by kernel_rfl)
              refine J.pr (fun hF => ?_)
              refine J.indexAddrS Ty.el68 Ty.s75 rfl rfl (by omega) (by omega) rfl ?_
              exact J.finX rfl (fun _ hw => ⟨⟨xu, uu⟩, rfl, fun _ _ _ => rfl, hF, hw⟩)
            · skip
              obtain ⟨xu, uu⟩ := x
              show J _ _ _ _ _ ((50, .agg (cC xe).toArray) :: (46, .agg (cC u).toArray) :: (45, .pointer (some ⟨q, 0 + ((k0 : Nat) : Int).toNat * 35, none⟩)) :: (44, .int .i64 ((k0 : Nat) : Int)) :: (43, .int .i64 (((k0 + 1) : Nat) : Int)) :: (42, .slice (some ⟨q, 0, none⟩) n c) :: (38, .int .i64 (((k0 + 1) : Nat) : Int)) :: (37, .slice (some ⟨q, 0, none⟩) n c) :: (46, .agg (cC u).toArray) :: (51, .pointer (some ⟨q, 0 + (((k0 + 1) : Nat) : Int).toNat * 35, none⟩)) :: _) _
              have hp9 : m 9 = true := predsT hp (by kernel_rfl)
              have hp9 : m 9 = true := predsT hp (by kernel_rfl)
              have hp13 : m 13 = true := predsT hp (by kernel_rfl)
              refine J.pr (fun hF => ?_)
              refine J.conseq (I' := St w [q] ((q, cb (fC ((P ++ U0) ++ u :: xe :: (V ++ (L.drop (k + 1) ++ T))) ++ sp) 75) :: [])) ?_ (fun w1 hw => by simp only [hm, cond_false] at hw; exact hw)
              refine J.storeO (cs := fC ((P ++ U0) ++ u :: xe :: (V ++ (L.drop (k + 1) ++ T))) ++ sp) (vs := cC u) (l' := (q, cb (fC (((P ++ U0) ++ u :: xe :: (V ++ (L.drop (k + 1) ++ T))).set ((k0 + 1)) u) ++ sp) 75) :: []) Ty.s75 rfl rfl rfl rfl (one_cC _) (by rw [set_C (i := (k0 + 1)) (by omega) (by rw [Int.toNat_natCast]; omega)]; exact .here) (by rw [List.length_append, fC_len, hnx]; omega) ?_
              refine J.nil (JX.finN undef (fun w1 hw => ⟨⟨xu, uu⟩, rfl, fun j h1 h2 => ?_, ?_⟩))
              · match j, h1 with
                | 0, _ => (first | rfl | trivial)
                | 1, _ => (first | rfl | trivial)
                | 2, _ => (first | rfl | trivial)
                | 3, _ => (first | rfl | trivial)
                | 4, _ => (first | rfl | trivial)
                | 5, _ => (first | rfl | trivial)
                | 6, _ => (first | rfl | trivial)
                | 7, _ => (first | rfl | trivial)
                | 8, _ => (first | rfl | trivial)
                | 9, _ => (first | rfl | trivial)
                | 10, _ => (first | rfl | trivial)
                | 11, _ => (first | rfl | trivial)
                | 12, _ => (first | rfl | trivial)
                | 13, _ => (first | rfl | trivial)
                | 14, _ => (first | rfl | trivial)
                | 15, _ => (first | rfl | trivial)
                | j + 16, h1 => omega
              show ((true = true → m 9 = true ∧ m 13 = true)) ∧ St w [q] ((q, cb (bif true then fC (((P ++ U0) ++ u :: xe :: (V ++ (L.drop (k + 1) ++ T))).set ((k0 + 1)) u) ++ sp else fC ((P ++ U0) ++ u :: xe :: (V ++ (L.drop (k + 1) ++ T))) ++ sp) 75) :: []) w1
              simp only [cond_true] at hw ⊢
              exact ⟨fun _ => ⟨hp9, hp13⟩, hw⟩
          case htail =>
            intro x
            obtain ⟨xu, uu⟩ := x
            show J _ _ _ _ _ ((51, .pointer (some ⟨q, 0 + (((k0 + 1) : Nat) : Int).toNat * 35, none⟩)) :: (50, .agg (cC xe).toArray) :: (49, .pointer (some ⟨q, 0 + (((k0 + 1) : Nat) : Int).toNat * 35, none⟩)) :: (48, .int .i64 (((k0 + 1) : Nat) : Int)) :: (47, .slice (some ⟨q, 0, none⟩) n c) :: (46, .agg (cC u).toArray) :: (45, .pointer (some ⟨q, 0 + ((k0 : Nat) : Int).toNat * 35, none⟩)) :: (44, .int .i64 ((k0 : Nat) : Int)) :: (43, .int .i64 (((k0 + 1) : Nat) : Int)) :: (42, .slice (some ⟨q, 0, none⟩) n c) :: (41, .int .i64 ((k0 : Nat) : Int)) :: (40, .int .i64 (((k0 + 1) : Nat) : Int)) :: (39, .slice (some ⟨q, 0, none⟩) n c) :: (38, .int .i64 (((k0 + 1) : Nat) : Int)) :: (37, .slice (some ⟨q, 0, none⟩) n c) :: _) (fun w1 => ((true = true → true = true ∧ true = true)) ∧ St w [q] ((q, cb (bif true then fC (((P ++ U0) ++ u :: xe :: (V ++ (L.drop (k + 1) ++ T))).set ((k0 + 1)) u) ++ sp else fC ((P ++ U0) ++ u :: xe :: (V ++ (L.drop (k + 1) ++ T))) ++ sp) 75) :: []) w1)
            refine J.pr (fun hF => ?_)
            refine J.conseq (I' := St w [q] ((q, cb (fC (((P ++ U0) ++ u :: xe :: (V ++ (L.drop (k + 1) ++ T))).set ((k0 + 1)) u) ++ sp) 75) :: [])) ?_ (fun w1 hw => by simp only [cond_true] at hw; exact hw)
            refine J.indexAddrS Ty.el68 Ty.s75 rfl rfl (by omega) (by omega) rfl ?_
            refine J.storeO (cs := fC (((P ++ U0) ++ u :: xe :: (V ++ (L.drop (k + 1) ++ T))).set ((k0 + 1)) u) ++ sp) (vs := cC xe) (l' := (q, cb (fC ((P ++ U0) ++ xe :: u :: (V ++ (L.drop (k + 1) ++ T))) ++ sp) 75) :: []) Ty.s75 rfl rfl rfl rfl (one_cC _) (by rw [set_C (i := k0) (by rw [List.length_set]; omega) (by rw [Int.toNat_natCast]; omega), show k0 = (P ++ U0).length from hk0, swap_mid]; exact .here) (by rw [List.length_append, fC_len, List.length_set, hnx]; omega) ?_
            refine J.nil ?_
            refine JX.blockN ?_
            refine JX.thenN (hK7 _ _ ?_)
            refine JC.region ?_
            refine J.move rfl rfl ?_
            refine J.subN rfl rfl (by omega) (by omega) rfl ?_
            refine J.name 36 rfl (show _ = Value.int .i64 ((k0 : Nat) : Int) from congrArg (Value.int .i64) (by omega)) ?_
            refine J.assign rfl rfl ?_
            refine J.nil ?_
            refine JX.thenN ?_
            refine JX.again (⟨k0, U0, u :: V⟩ : InS) ?_ ?_ ?_
            · simp only; omega
            · exact ⟨rfl, rfl, rfl, rfl, rfl, rfl, trivial⟩
            · exact fun w1 hw => ⟨⟨by show k0 = P.length + U0.length; omega, hse2.trans (ins_swap swoC hlt), by simpa [List.append_assoc] using hUV, fun v hv => (List.mem_cons.1 hv).elim (fun e => by rw [e]; exact hlt) (hV v)⟩, by simpa [List.append_assoc] using hw⟩
        · skip
          have hlt : ¬ ltC xe u := by simpa using h1
          have hU : ∀ y, (U0 ++ [u]).getLast? = some y → ¬ ltC xe y := by
            intro y hy
            rw [List.getLast?_concat] at hy
            cases hy
            exact hlt
          refine JC.conseq (I' := St w [q] [(q, cb (fC (P ++ (((U0 ++ [u]) ++ xe :: V) ++ (L.drop (k + 1) ++ T))) ++ sp) 75)]) ?_ (fun w1 hw => by rw [e0]; exact hw)
          refine JC.exit ?_
          refine JX.thenE ?_
          refine JX.thenE ?_
          refine JX.blockE ?_
          refine JX.blockN ?_
          refine JX.thenN (hK3 _ _ ?_)
          refine JC.region ?_
          refine J.move rfl rfl ?_
          refine J.addN rfl rfl (by omega) (by omega) rfl ?_
          refine J.name 16 rfl (show _ = Value.int .i64 (((P.length + (k + 1)) : Nat) : Int) from congrArg (Value.int .i64) (by omega)) ?_
          refine J.assign rfl rfl ?_
          refine J.nil ?_
          refine JX.thenN ?_
          refine JX.again ((k + 1, (U0 ++ [u]) ++ xe :: V) : Nat × List CV) ?_ ?_ ?_
          · simp only; omega
          · exact ⟨rfl, rfl, rfl, rfl, rfl, trivial⟩
          · exact fun w1 hw => ⟨⟨by show 1 ≤ k + 1; omega, hse2, ins_done swoC hUV hV hU⟩, hw⟩
  · skip
    have hge : L.length ≤ k := by simp at h0; omega
    rw [List.take_of_length_le hge] at hse
    refine JC.exit ?_
    refine JX.thenE ?_
    refine JX.thenE ?_
    refine JX.blockE ?_
    refine JX.end0 rfl (fun w1 hw => ?_)
    refine ⟨S, rfl, ⟨hse, hsrt⟩, ?_⟩
    rw [List.drop_eq_nil_of_le hge, List.nil_append] at hw
    exact hw

end Go.Proofs.Ytbafhclandendaa
/-
  Ranges of candidates that change places; rotating: contracts.
-/
namespace Go.Proofs.Ytbafhclandendaa
open Go.J Go.RowKit
set_option linter.unusedVariables false
set_option linter.unusedSimpArgs false
set_option maxRecDepth 8000
theorem get_far {α : Type} (l m r : List α) (x y : α) : (l ++ x :: (m ++ y :: r))[l.length + 1 + m.length]? = some y := by
  rw [List.getElem?_append_right (by omega), show l.length + 1 + m.length - l.length = m.length + 1 by omega, List.getElem?_cons_succ, List.getElem?_append_right (by omega), Nat.sub_self, List.getElem?_cons_zero]
theorem swap_far {α : Type} (l m r : List α) (x y : α) : ((l ++ x :: (m ++ y :: r)).set l.length y).set (l.length + 1 + m.length) x = l ++ y :: (m ++ x :: r) := by
  rw [List.set_append_right _ _ (Nat.le_refl _), Nat.sub_self, List.set_cons_zero, List.set_append_right _ _ (by omega), show l.length + 1 + m.length - l.length = m.length + 1 by omega, List.set_cons_succ, List.set_append_right _ _ (Nat.le_refl _), Nat.sub_self, List.set_cons_zero]
/-- two ranges, of which the first i have changed places -/
def swR (P A M B T : List CV) (i : Nat) : List CV := P ++ ((B.take i ++ A.drop i) ++ (M ++ ((A.take i ++ B.drop i) ++ T)))
theorem swR_len (P A M B T : List CV) (i : Nat) (h : A.length = B.length) : (swR P A M B T i).length = P.length + A.length + M.length + B.length + T.length := by
  unfold swR
  simp only [List.length_append, List.length_take, List.length_drop]
  omega
theorem swR_at {P A M B T : List CV} {i : Nat} {x y : CV} (hx : A[i]? = some x) (hy : B[i]? = some y) : swR P A M B T i = (P ++ B.take i) ++ x :: ((A.drop (i + 1) ++ (M ++ A.take i)) ++ y :: (B.drop (i + 1) ++ T)) := by
  have h1 := (List.getElem?_eq_some_iff.1 hx)
  have h2 := (List.getElem?_eq_some_iff.1 hy)
  unfold swR
  rw [List.drop_eq_getElem_cons h1.1, List.drop_eq_getElem_cons h2.1, h1.2, h2.2]
  simp only [List.append_assoc, List.cons_append]
theorem swR_next {P A M B T : List CV} {i : Nat} {x y : CV} (hx : A[i]? = some x) (hy : B[i]? = some y) : swR P A M B T (i + 1) = (P ++ B.take i) ++ y :: ((A.drop (i + 1) ++ (M ++ A.take i)) ++ x :: (B.drop (i + 1) ++ T)) := by
  unfold swR
  rw [List.take_add_one, List.take_add_one, hx, hy]
  simp only [List.append_assoc, Option.toList_some, List.cons_append, List.nil_append]
structure RoS where
  P : List CV
  X : List CV
  Y : List CV
  T : List CV
theorem split_at {α : Type} (l : List α) {k : Nat} (h : k ≤ l.length) : ∃ a b, l = a ++ b ∧ a.length = k ∧ b.length = l.length - k := ⟨l.take k, l.drop k, (List.take_append_drop _ _).symm, by rw [List.length_take]; omega, by rw [List.length_drop]⟩

set_option maxHeartbeats 2000000 in
theorem swapRange_spec (q n c : Nat) (P A M B T : List CV) (sp : List Value) (w : World) (hw0 : Own w [(q, cb (fC (P ++ (A ++ (M ++ (B ++ T)))) ++ sp) 75)]) (hAB : A.length = B.length) (hn : P.length + A.length + M.length + B.length + T.length = n) (hnc : n ≤ c) (hnb : n ≤ 1099511627776) :
    Calls Try.prog 101 [.slice (some ⟨q, 0, none⟩) n c, .int .i64 ((P.length : Nat) : Int), .int .i64 (((P.length + A.length + M.length) : Nat) : Int), .int .i64 ((A.length : Nat) : Int), .func (.func 55) #[] #[]].toArray w fun r w' => r = .returned (.tuple #[]) ∧ St w [q] [(q, cb (fC (P ++ (B ++ (M ++ (A ++ T)))) ++ sp) 75)] w' := by
  refine calls_of_J (args := [.slice (some ⟨q, 0, none⟩) n c, .int .i64 ((P.length : Nat) : Int), .int .i64 (((P.length + A.length + M.length) : Nat) : Int), .int .i64 ((A.length : Nat) : Int), .func (.func 55) #[] #[]]) (e := [(0, .slice (some ⟨q, 0, none⟩) n c), (1, .int .i64 ((P.length : Nat) : Int)), (2, .int .i64 (((P.length + A.length + M.length) : Nat) : Int)), (3, .int .i64 ((A.length : Nat) : Int)), (4, .func (.func 55) #[] #[])]) Try.func101 rfl rfl ⟨rfl, rfl, rfl, rfl, rfl, trivial⟩ (hw0.st) ?_
  refine JC.seq (fun K0 hK0 => ?_)
  refine JC.region ?_
  refine J.assign rfl rfl ?_
  refine J.nil ?_
  refine JX.thenN (hK0 _ _ ?_)
  refine JC.block ?_
  refine JC.conseq (JC.cov (f := (fun i => [(0, .slice (some ⟨q, 0, none⟩) n c), (1, .int .i64 ((P.length : Nat) : Int)), (2, .int .i64 (((P.length + A.length + M.length) : Nat) : Int)), (3, .int .i64 ((A.length : Nat) : Int)), (10, .int .i64 ((i : Nat) : Int))]) 0) ⟨rfl, rfl, rfl, rfl, rfl, trivial⟩ (JC.loop (α := Nat) (fun i => [(0, .slice (some ⟨q, 0, none⟩) n c), (1, .int .i64 ((P.length : Nat) : Int)), (2, .int .i64 (((P.length + A.length + M.length) : Nat) : Int)), (3, .int .i64 ((A.length : Nat) : Int)), (10, .int .i64 ((i : Nat) : Int))]) (fun i w' => (i ≤ A.length) ∧ St w [q] [(q, cb (fC (swR P A M B T i) ++ sp) 75)] w') (fun i => A.length - i) 0 (fun i => ?_))) (fun w hw => ⟨Nat.zero_le _, by rw [show swR P A M B T 0 = P ++ (A ++ (M ++ (B ++ T))) by simp [swR]]; exact hw⟩)
  refine JC.pr (fun hi => ?_)
  refine JC.seq (fun K1 hK1 => ?_)
  refine JC.seq (fun K2 hK2 => ?_)
  refine JC.region ?_
  refine J.move rfl rfl ?_
  refine J.move rfl rfl ?_
  refine J.bin rfl rfl rfl rfl ?_
  refine J.nil ?_
  refine JX.thenN (hK2 _ _ ?_)
  refine JC.cond rfl (fun h0 => ?_) (fun h0 => ?_)
  · skip
    have hlt : i < A.length := by simp at h0; omega
    obtain ⟨xe, hxe⟩ : ∃ y, A[i]? = some y := ⟨_, List.getElem?_eq_getElem hlt⟩
    obtain ⟨ye, hye⟩ : ∃ y, B[i]? = some y := ⟨_, List.getElem?_eq_getElem (by omega)⟩
    have e0 := swR_at (P := P) (M := M) (T := T) hxe hye
    rw [e0]
    have hnx : ((P ++ B.take i) ++ xe :: ((A.drop (i + 1) ++ (M ++ A.take i)) ++ ye :: (B.drop (i + 1) ++ T))).length = n := by rw [← e0, swR_len _ _ _ _ _ _ hAB]; exact hn
    have hl1 : (P ++ B.take i).length = P.length + i := by rw [List.length_append, List.length_take]; omega
    have hl2 : (A.drop (i + 1) ++ (M ++ A.take i)).length = A.length + M.length - 1 := by simp only [List.length_append, List.length_drop, List.length_take]; omega
    have gx : ((P ++ B.take i) ++ xe :: ((A.drop (i + 1) ++ (M ++ A.take i)) ++ ye :: (B.drop (i + 1) ++ T)))[(P.length + i)]? = some xe := by rw [← hl1]; exact get_mid _ _ _
    have gy : ((P ++ B.take i) ++ xe :: ((A.drop (i + 1) ++ (M ++ A.take i)) ++ ye :: (B.drop (i + 1) ++ T)))[(P.length + A.length + M.length + i)]? = some ye := by
      rw [show P.length + A.length + M.length + i = (P ++ B.take i).length + 1 + (A.drop (i + 1) ++ (M ++ A.take i)).length by omega]
      exact get_far _ _ _ _ _
    refine JC.skip ?_
    refine JX.thenN (hK1 _ _ ?_)
    refine JC.seq (fun K3 hK3 => ?_)
    refine JC.block ?_
    apply JC.drawX (α := Nat × Unit) 22 (fun x => match x with | ⟨xu, uu⟩ => [.slice (some ⟨q, 0, none⟩) n c, .int .i64 ((P.length : Nat) : Int), .int .i64 ((i : Nat) : Int), .int .i64 (((P.length + i) : Nat) : Int), .slice (some ⟨q, 0, none⟩) n c, .int .i64 (((P.length + A.length + M.length) : Nat) : Int), .int .i64 ((i : Nat) : Int), .int .i64 (((P.length + A.length + M.length + i) : Nat) : Int), .slice (some ⟨q, 0, none⟩) n c, .int .i64 (((P.length + A.length + M.length) : Nat) : Int), .int .i64 ((i : Nat) : Int), .int .i64 (((P.length + A.length + M.length + i) : Nat) : Int), .pointer (some ⟨q, 0 + (((P.length + A.length + M.length + i) : Nat) : Int).toNat * 35, none⟩), .agg (cC ye).toArray, .slice (some ⟨q, 0, none⟩) n c, .int .i64 ((P.length : Nat) : Int), .int .i64 ((i : Nat) : Int), .int .i64 (((P.length + i) : Nat) : Int), .pointer (some ⟨q, 0 + (((P.length + i) : Nat) : Int).toNat * 35, none⟩), .agg (cC xe).toArray, .pointer (some ⟨q, 0 + (((P.length + i) : Nat) : Int).toNat * 35, none⟩), undef]) (fun m x => match x with | ⟨xu, uu⟩ => fun w1 => ((m 21 = true → m 13 = true ∧ m 19 = true)) ∧ St w [q] ((q, cb (bif m 21 then fC (((P ++ B.take i) ++ xe :: ((A.drop (i + 1) ++ (M ++ A.take i)) ++ ye :: (B.drop (i + 1) ++ T))).set ((P.length + i)) ye) ++ sp else fC ((P ++ B.take i) ++ xe :: ((A.drop (i + 1) ++ (M ++ A.take i)) ++ ye :: (B.drop (i + 1) ++ T))) ++ sp) 75) :: []) w1) Ty.mixed rfl rfl rfl (by kernel_rfl) rfl rfl ?hinit ?hstep ?htail
    case hinit => exact fun w1 hw => ⟨(0, ()), fun h => (by cases h), hw.drew⟩
    case hstep =>
      refine ⟨fun m x hm hp => ?_, fun m x hm hp => ?_, fun m x hm hp => ?_, fun m x hm hp => ?_, fun m x hm hp => ?_, fun m x hm hp => ?_, fun m x hm hp => ?_, fun m x hm hp => ?_, fun m x hm hp => ?_, fun m x hm hp => ?_, fun m x hm hp => ?_, fun m x hm hp => ?_, fun m x hm hp => ?_, fun m x hm hp => ?_, fun m x hm hp => ?_, fun m x hm hp => ?_, fun m x hm hp => ?_, fun m x hm hp => ?_, fun m x hm hp => ?_, fun m x hm hp => ?_, fun m x hm hp => ?_, fun m x hm hp => ?_, trivial⟩
      · skip
        obtain ⟨xu, uu⟩ := x
        show J _ _ _ _ _ (_) _
        refine J.pr (fun hF => ?_)
        refine J.move rfl rfl ?_
        exact J.finX rfl (fun _ hw => ⟨⟨xu, uu⟩, rfl, fun _ _ _ => rfl, hF, hw⟩)
      · skip
        obtain ⟨xu, uu⟩ := x
        show J _ _ _ _ _ (_) _
        refine J.pr (fun hF => ?_)
        refine J.move rfl rfl ?_
        exact J.finX rfl (fun _ hw => ⟨⟨xu, uu⟩, rfl, fun _ _ _ => rfl, hF, hw⟩)
      · skip
        obtain ⟨xu, uu⟩ := x
        show J _ _ _ _ _ (_) _
        refine J.pr (fun hF => ?_)
        refine J.move rfl rfl ?_
        exact J.finX rfl (fun _ hw => ⟨⟨xu, uu⟩, rfl, fun _ _ _ => rfl, hF, hw⟩)
      · skip
        obtain ⟨xu, uu⟩ := x
        show J _ _ _ _ _ ((18, .int .i64 ((i : Nat) : Int)) :: (17, .int .i64 ((P.length : Nat) : Int)) :: _) _
        refine J.pr (fun hF => ?_)
        refine J.addN rfl rfl (by omega) (by omega) rfl ?_
        refine J.name 19 rfl (show _ = Value.int .i64 (((P.length + i) : Nat) : Int) from congrArg (Value.int .i64) (by omega)) ?_
        exact J.finX rfl (fun _ hw => ⟨⟨xu, uu⟩, rfl, fun _ _ _ => rfl, hF, hw⟩)
      · skip
        obtain ⟨xu, uu⟩ := x
        show J _ _ _ _ _ (_) _
        refine J.pr (fun hF => ?_)
        refine J.move rfl rfl ?_
        exact J.finX rfl (fun _ hw => ⟨⟨xu, uu⟩, rfl, fun _ _ _ => rfl, hF, hw⟩)
      · skip
        obtain ⟨xu, uu⟩ := x
        show J _ _ _ _ _ (_) _
        refine J.pr (fun hF => ?_)
        refine J.move rfl rfl ?_
        exact J.finX rfl (fun _ hw => ⟨⟨xu, uu⟩, rfl, fun _ _ _ => rfl, hF, hw⟩)
      · skip
        obtain ⟨xu, uu⟩ := x
        show J _ _ _ _ _ (_) _
        refine J.pr (fun hF => ?_)
        refine J.move rfl rfl ?_
        exact J.finX rfl (fun _ hw => ⟨⟨xu, uu⟩, rfl, fun _ _ _ => rfl, hF, hw⟩)
      · skip
        obtain ⟨xu, uu⟩ := x
        show J _ _ _ _ _ ((22, .int .i64 ((i : Nat) : Int)) :: (21, .int .i64 (((P.length + A.length + M.length) : Nat) : Int)) :: _) _
        refine J.pr (fun hF => ?_)
        refine J.addN rfl rfl (by omega) (by omega) rfl ?_
        refine J.name 23 rfl (show _ = Value.int .i64 (((P.length + A.length + M.length + i) : Nat) : Int) from congrArg (Value.int .i64) (by omega)) ?_
        exact J.finX rfl (fun _ hw => ⟨⟨xu, uu⟩, rfl, fun _ _ _ => rfl, hF, hw⟩)
      · skip
        obtain ⟨xu, uu⟩ := x
        show J _ _ _ _ _ (_) _
        refine J.pr (fun hF => ?_)
        refine J.move rfl rfl ?_
        exact J.finX rfl (fun _ hw => ⟨⟨xu, uu⟩, rfl, fun _ _ _ => rfl, hF, hw⟩)
      · skip
        obtain ⟨xu, uu⟩ := x
        show J _ _ _ _ _ (_) _
        refine J.pr (fun hF => ?_)
        refine J.move rfl rfl ?_
        exact J.finX rfl (fun _ hw => ⟨⟨xu, uu⟩, rfl, fun _ _ _ => rfl, hF, hw⟩)
      · skip
        obtain ⟨xu, uu⟩ := x
        show J _ _ _ _ _ (_) _
        refine J.pr (fun hF => ?_)
        refine J.move rfl rfl ?_
        exact J.finX rfl (fun _ hw => ⟨⟨xu, uu⟩, rfl, fun _ _ _ => rfl, hF, hw⟩)
      · skip
        obtain ⟨xu, uu⟩ := x
        show J _ _ _ _ _ ((26, .int .i64 ((i : Nat) : Int)) :: (25, .int .i64 (((P.length + A.length + M.length) : Nat) : Int)) :: _) _
        refine J.pr (fun hF => ?_)
        refine J.addN rfl rfl (by omega) (by omega) rfl ?_
        refine J.name 27 rfl (show _ = Value.int .i64 (((P.length + A.length + M.length + i) : Nat) : Int) from congrArg (Value.int .i64) (by omega)) ?_
        exact J.finX rfl (fun _ hw => ⟨⟨xu, uu⟩, rfl, fun _ _ _ => rfl, hF, hw⟩)
      · skip
        obtain ⟨xu, uu⟩ := x
        show J _ _ _ _ _ ((27, .int .i64 (((P.length + A.length + M.length + i) : Nat) : Int)) :: (24, .slice (some ⟨q, 0, none⟩) n c) :: _) _
        refine J.pr (fun hF => ?_)
        refine J.indexAddrS Ty.el68 Ty.s75 rfl rfl (by omega) (by omega) rfl ?_
        exact J.finX rfl (fun _ hw => ⟨⟨xu, uu⟩, rfl, fun _ _ _ => rfl, hF, hw⟩)
      · skip
        obtain ⟨xu, uu⟩ := x
        show J _ _ _ _ _ ((28, .pointer (some ⟨q, 0 + (((P.length + A.length + M.length + i) : Nat) : Int).toNat * 35, none⟩)) :: _) _
        refine J.pr (fun hF => ?_)
        have h21 : m 21 = false := by cases h : m 21 with
          | false => rfl
          | true => rw [(hF h).1] at hm; cases hm
        refine J.conseq (I' := St w [q] ((q, cb (fC ((P ++ B.take i) ++ xe :: ((A.drop (i + 1) ++ (M ++ A.take i)) ++ ye :: (B.drop (i + 1) ++ T))) ++ sp) 75) :: [])) ?_ (fun w1 hw => by simp only [h21, cond_false] at hw; exact hw)
        refine J.loadA (vs := cC ye) Ty.a75 Ty.s75 rfl rfl (fun w1 hw => rowG_at (c := cC) (sz := 35) (fun _ => rfl) (rowC_own (xs := (P ++ B.take i) ++ xe :: ((A.drop (i + 1) ++ (M ++ A.take i)) ++ ye :: (B.drop (i + 1) ++ T))) hw (.head _) hnx hnc) gy (by rw [Int.toNat_natCast])) rfl ?_
        refine J.nil (JX.finB rfl (fun w1 hw => ⟨⟨⟨xu, uu⟩, rfl, fun j h1 h2 => ?_, ?_⟩, trivial⟩))
        · match j, h1 with
          | 0, _ => (first | rfl | trivial)
          | 1, _ => (first | rfl | trivial)
          | 2, _ => (first | rfl | trivial)
          | 3, _ => (first | rfl | trivial)
          | 4, _ => (first | rfl | trivial)
          | 5, _ => (first | rfl | trivial)
          | 6, _ => (first | rfl | trivial)
          | 7, _ => (first | rfl | trivial)
          | 8, _ => (first | rfl | trivial)
          | 9, _ => (first | rfl | trivial)
          | 10, _ => (first | rfl | trivial)
          | 11, _ => (first | rfl | trivial)
          | 12, _ => (first | rfl | trivial)
          | 13, _ => (first | rfl | trivial)
          | 14, _ => (first | rfl | trivial)
          | 15, _ => (first | rfl | trivial)
          | 16, _ => (first | rfl | trivial)
          | 17, _ => (first | rfl | trivial)
          | 18, _ => (first | rfl | trivial)
          | 19, _ => (first | rfl | trivial)
          | 20, _ => (first | rfl | trivial)
          | 21, _ => (first | rfl | trivial)
          | j + 22, h1 => omega
        show ((m 21 = true → true = true ∧ m 19 = true)) ∧ St w [q] ((q, cb (bif m 21 then fC (((P ++ B.take i) ++ xe :: ((A.drop (i + 1) ++ (M ++ A.take i)) ++ ye :: (B.drop (i + 1) ++ T))).set ((P.length + i)) ye) ++ sp else fC ((P ++ B.take i) ++ xe :: ((A.drop (i + 1) ++ (M ++ A.take i)) ++ ye :: (B.drop (i + 1) ++ T))) ++ sp) 75) :: []) w1
        simp only [h21, cond_false] at hw ⊢
        exact ⟨fun h => (by first | (rw [h21] at h; cases h) | cases h), hw⟩
      · skip
        obtain ⟨xu, uu⟩ := x
        show J _ _ _ _ _ (_) _
        refine J.pr (fun hF => ?_)
        refine J.move rfl rfl ?_
        exact J.finX rfl (fun _ hw => ⟨⟨xu, uu⟩, rfl, fun _ _ _ => rfl, hF, hw⟩)
      · skip
        obtain ⟨xu, uu⟩ := x
        show J _ _ _ _ _ (_) _
        refine J.pr (fun hF => ?_)
        refine J.move rfl rfl ?_
        exact J.finX rfl (fun _ hw => ⟨⟨xu, uu⟩, rfl, fun _ _ _ => rfl, hF, hw⟩)
      · skip
        obtain ⟨xu, uu⟩ := x
        show J _ _ _ _ _ (_) _
        refine J.pr (fun hF => ?_)
        refine J.move rfl rfl ?_
        exact J.finX rfl (fun _ hw => ⟨⟨xu, uu⟩, rfl, fun _ _ _ => rfl, hF, hw⟩)
      · skip
        obtain ⟨xu, uu⟩ := x
        show J _ _ _ _ _ ((32, .int .i64 ((i : Nat) : Int)) :: (31, .int .i64 ((P.length : Nat) : Int)) :: _) _
        refine J.pr (fun hF => ?_)
        refine J.addN rfl rfl (by omega) (by omega) rfl ?_
        refine J.name 33 rfl (show _ = Value.int .i64 (((P.length + i) : Nat) : Int) from congrArg (Value.int .i64) (by omega)) ?_
        exact J.finX rfl (fun _ hw => ⟨⟨xu, uu⟩, rfl, fun _ _ _ => rfl, hF, hw⟩)
      · skip
        obtain ⟨xu, uu⟩ := x
        show J _ _ _ _ _ ((33, .int .i64 (((P.length + i) : Nat) : Int)) :: (30, .slice (some ⟨q, 0, none⟩) n c) :: _) _
        refine J.pr (fun hF => ?_)
        refine J.indexAddrS Ty.el68 Ty.s75 rfl rfl (by omega) (by omega) rfl ?_
        exact J.finX rfl (fun _ hw => ⟨⟨xu, uu⟩, rfl, fun _ _ _ => rfl, hF, hw⟩)
      · skip
        obtain ⟨xu, uu⟩ := x
        show J _ _ _ _ _ ((34, .pointer (some ⟨q, 0 + (((P.length + i) : Nat) : Int).toNat * 35, none⟩)) :: _) _
        refine J.pr (fun hF => ?_)
        have h21 : m 21 = false := by cases h : m 21 with
          | false => rfl
          | true => rw [(hF h).2] at hm; cases hm
        refine J.conseq (I' := St w [q] ((q, cb (fC ((P ++ B.take i) ++ xe :: ((A.drop (i + 1) ++ (M ++ A.take i)) ++ ye :: (B.drop (i + 1) ++ T))) ++ sp) 75) :: [])) ?_ (fun w1 hw => by simp only [h21, cond_false] at hw; exact hw)
        refine J.loadA (vs := cC xe) Ty.a75 Ty.s75 rfl rfl (fun w1 hw => rowG_at (c := cC) (sz := 35) (fun _ => rfl) (rowC_own (xs := (P ++ B.take i) ++ xe :: ((A.drop (i + 1) ++ (M ++ A.take i)) ++ ye :: (B.drop (i + 1) ++ T))) hw (.head _) hnx hnc) gx (by rw [Int.toNat_natCast])) rfl ?_
        refine J.nil (JX.finB rfl (fun w1 hw => ⟨⟨⟨xu, uu⟩, rfl, fun j h1 h2 => ?_, ?_⟩, trivial⟩))
        · match j, h1 with
          | 0, _ => (first | rfl | trivial)
          | 1, _ => (first | rfl | trivial)
          | 2, _ => (first | rfl | trivial)
          | 3, _ => (first | rfl | trivial)
          | 4, _ => (first | rfl | trivial)
          | 5, _ => (first | rfl | trivial)
          | 6, _ => (first | rfl | trivial)
          | 7, _ => (first | rfl | trivial)
          | 8, _ => (first | rfl | trivial)
          | 9, _ => (first | rfl | trivial)
          | 10, _ => (first | rfl | trivial)
          | 11, _ => (first | rfl | trivial)
          | 12, _ => (first | rfl | trivial)
          | 13, _ => (first | rfl | trivial)
          | 14, _ => (first | rfl | trivial)
          | 15, _ => (first | rfl | trivial)
          | 16, _ => (first | rfl | trivial)
          | 17, _ => (first | rfl | trivial)
          | 18, _ => (first | rfl | trivial)
          | 19, _ => (first | rfl | trivial)
          | 20, _ => (first | rfl | trivial)
          | 21, _ => (first | rfl | trivial)
          | j + 22, h1 => omega
        show ((m 21 = true → m 13 = true ∧ true = true)) ∧ St w [q] ((q, cb (bif m 21 then fC (((P ++ B.take i) ++ xe :: ((A.drop (i + 1) ++ (M ++ A.take i)) ++ ye :: (B.drop (i + 1) ++ T))).set ((P.length + i)) ye) ++ sp else fC ((P ++ B.take i) ++ xe :: ((A.drop (i + 1) ++ (M ++ A.take i)) ++ ye :: (B.drop (i + 1) ++ T))) ++ sp) 75) :: []) w1
        simp only [h21, cond_false] at hw ⊢
        exact ⟨fun h => (by first | (rw [h21] at h; cases h) | cases h), hw⟩
      · skip
        obtain ⟨xu, uu⟩ := x
        show J _ _ _ _ _ ((35, .agg (cC xe).toArray) :: (29, .agg (cC ye).toArray) :: (28, .pointer (some ⟨q, 0 + (((P.length + A.length + M.length + i) : Nat) : Int).toNat * 35, none⟩)) :: (27, .int .i64 (((P.length + A.length + M.length + i) : Nat) : Int)) :: (26, .int .i64 ((i : Nat) : Int)) :: (25, .int .i64 (((P.length + A.length + M.length) : Nat) : Int)) :: (24, .slice (some ⟨q, 0, none⟩) n c) :: (19, .int .i64 (((P.length + i) : Nat) : Int)) :: (18, .int .i64 ((i : Nat) : Int)) :: (17, .int .i64 ((P.length : Nat) : Int)) :: (16, .slice (some ⟨q, 0, none⟩) n c) :: (19, .int .i64 (((P.length + i) : Nat) : Int)) :: (16, .slice (some ⟨q, 0, none⟩) n c) :: _) _
        have hp13 : m 13 = true := predsT hp (by kernel_rfl)
        have hp19 : m 19 = true := predsT hp (by kernel_rfl)
        refine J.pr (fun hF => ?_)
        refine J.indexAddrS Ty.el68 Ty.s75 rfl rfl (by omega) (by omega) rfl ?_
        exact J.finX rfl (fun _ hw => ⟨⟨xu, uu⟩, rfl, fun _ _ _ => rfl, hF, hw⟩)
      · skip
        obtain ⟨xu, uu⟩ := x
        show J _ _ _ _ _ ((35, .agg (cC xe).toArray) :: (29, .agg (cC ye).toArray) :: (28, .pointer (some ⟨q, 0 + (((P.length + A.length + M.length + i) : Nat) : Int).toNat * 35, none⟩)) :: (27, .int .i64 (((P.length + A.length + M.length + i) : Nat) : Int)) :: (26, .int .i64 ((i : Nat) : Int)) :: (25, .int .i64 (((P.length + A.length + M.length) : Nat) : Int)) :: (24, .slice (some ⟨q, 0, none⟩) n c) :: (19, .int .i64 (((P.length + i) : Nat) : Int)) :: (18, .int .i64 ((i : Nat) : Int)) :: (17, .int .i64 ((P.length : Nat) : Int)) :: (16, .slice (some ⟨q, 0, none⟩) n c) :: (29, .agg (cC ye).toArray) :: (36, .pointer (some ⟨q, 0 + (((P.length + i) : Nat) : Int).toNat * 35, none⟩)) :: _) _
        have hp13 : m 13 = true := predsT hp (by kernel_rfl)
        have hp13 : m 13 = true := predsT hp (by kernel_rfl)
        have hp19 : m 19 = true := predsT hp (by kernel_rfl)
        refine J.pr (fun hF => ?_)
        refine J.conseq (I' := St w [q] ((q, cb (fC ((P ++ B.take i) ++ xe :: ((A.drop (i + 1) ++ (M ++ A.take i)) ++ ye :: (B.drop (i + 1) ++ T))) ++ sp) 75) :: [])) ?_ (fun w1 hw => by simp only [hm, cond_false] at hw; exact hw)
        refine J.storeO (cs := fC ((P ++ B.take i) ++ xe :: ((A.drop (i + 1) ++ (M ++ A.take i)) ++ ye :: (B.drop (i + 1) ++ T))) ++ sp) (vs := cC ye) (l' := (q, cb (fC (((P ++ B.take i) ++ xe :: ((A.drop (i + 1) ++ (M ++ A.take i)) ++ ye :: (B.drop (i + 1) ++ T))).set ((P.length + i)) ye) ++ sp) 75) :: []) Ty.s75 rfl rfl rfl rfl (one_cC _) (by rw [set_C (i := (P.length + i)) (by omega) (by rw [Int.toNat_natCast]; omega)]; exact .here) (by rw [List.length_append, fC_len, hnx]; omega) ?_
        refine J.nil (JX.finN undef (fun w1 hw => ⟨⟨xu, uu⟩, rfl, fun j h1 h2 => ?_, ?_⟩))
        · match j, h1 with
          | 0, _ => (first | rfl | trivial)
          | 1, _ => (first | rfl | trivial)
          | 2, _ => (first | rfl | trivial)
          | 3, _ => (first | rfl | trivial)
          | 4, _ => (first | rfl | trivial)
          | 5, _ => (first | rfl | trivial)
          | 6, _ => (first | rfl | trivial)
          | 7, _ => (first | rfl | trivial)
          | 8, _ => (first | rfl | trivial)
          | 9, _ => (first | rfl | trivial)
          | 10, _ => (first | rfl | trivial)
          | 11, _ => (first | rfl | trivial)
          | 12, _ => (first | rfl | trivial)
          | 13, _ => (first | rfl | trivial)
          | 14, _ => (first | rfl | trivial)
          | 15, _ => (first | rfl | trivial)
          | 16, _ => (first | rfl | trivial)
          | 17, _ => (first | rfl | trivial)
          | 18, _ => (first | rfl | trivial)
          | 19, _ => (first | rfl | trivial)
          | 20, _ => (first | rfl | trivial)
          | 21, _ => (first | rfl | trivial)
          | j + 22, h1 => omega
        show ((true = true → m 13 = true ∧ m 19 = true)) ∧ St w [q] ((q, cb (bif true then fC (((P ++ B.take i) ++ xe :: ((A.drop (i + 1) ++ (M ++ A.take i)) ++ ye :: (B.drop (i + 1) ++ T))).set ((P.length + i)) ye) ++ sp else fC ((P ++ B.take i) ++ xe :: ((A.drop (i + 1) ++ (M ++ A.take i)) ++ ye :: (B.drop (i + 1) ++ T))) ++ sp) 75) :: []) w1
        simp only [cond_true] at hw ⊢
        exact ⟨fun _ => ⟨hp13, hp19⟩, hw⟩
    case htail =>
      intro x
      obtain ⟨xu, uu⟩ := x
      show J _ _ _ _ _ ((36, .pointer (some ⟨q, 0 + (((P.length + i) : Nat) : Int).toNat * 35, none⟩)) :: (35, .agg (cC xe).toArray) :: (34, .pointer (some ⟨q, 0 + (((P.length + i) : Nat) : Int).toNat * 35, none⟩)) :: (33, .int .i64 (((P.length + i) : Nat) : Int)) :: (32, .int .i64 ((i : Nat) : Int)) :: (31, .int .i64 ((P.length : Nat) : Int)) :: (30, .slice (some ⟨q, 0, none⟩) n c) :: (29, .agg (cC ye).toArray) :: (28, .pointer (some ⟨q, 0 + (((P.length + A.length + M.length + i) : Nat) : Int).toNat * 35, none⟩)) :: (27, .int .i64 (((P.length + A.length + M.length + i) : Nat) : Int)) :: (26, .int .i64 ((i : Nat) : Int)) :: (25, .int .i64 (((P.length + A.length + M.length) : Nat) : Int)) :: (24, .slice (some ⟨q, 0, none⟩) n c) :: (23, .int .i64 (((P.length + A.length + M.length + i) : Nat) : Int)) :: (22, .int .i64 ((i : Nat) : Int)) :: (21, .int .i64 (((P.length + A.length + M.length) : Nat) : Int)) :: (20, .slice (some ⟨q, 0, none⟩) n c) :: (19, .int .i64 (((P.length + i) : Nat) : Int)) :: (18, .int .i64 ((i : Nat) : Int)) :: (17, .int .i64 ((P.length : Nat) : Int)) :: (16, .slice (some ⟨q, 0, none⟩) n c) :: _) (fun w1 => ((true = true → true = true ∧ true = true)) ∧ St w [q] ((q, cb (bif true then fC (((P ++ B.take i) ++ xe :: ((A.drop (i + 1) ++ (M ++ A.take i)) ++ ye :: (B.drop (i + 1) ++ T))).set ((P.length + i)) ye) ++ sp else fC ((P ++ B.take i) ++ xe :: ((A.drop (i + 1) ++ (M ++ A.take i)) ++ ye :: (B.drop (i + 1) ++ T))) ++ sp) 75) :: []) w1)
      refine J.pr (fun hF => ?_)
      refine J.conseq (I' := St w [q] ((q, cb (fC (((P ++ B.take i) ++ xe :: ((A.drop (i + 1) ++ (M ++ A.take i)) ++ ye :: (B.drop (i + 1) ++ T))).set ((P.length + i)) ye) ++ sp) 75) :: [])) ?_ (fun w1 hw => by simp only [cond_true] at hw; exact hw)
      refine J.indexAddrS Ty.el68 Ty.s75 rfl rfl (by omega) (by omega) rfl ?_
      refine J.storeO (cs := fC (((P ++ B.take i) ++ xe :: ((A.drop (i + 1) ++ (M ++ A.take i)) ++ ye :: (B.drop (i + 1) ++ T))).set ((P.length + i)) ye) ++ sp) (vs := cC xe) (l' := (q, cb (fC ((P ++ B.take i) ++ ye :: ((A.drop (i + 1) ++ (M ++ A.take i)) ++ xe :: (B.drop (i + 1) ++ T))) ++ sp) 75) :: []) Ty.s75 rfl rfl rfl rfl (one_cC _) (by rw [set_C (i := (P.length + A.length + M.length + i)) (by rw [List.length_set]; omega) (by rw [Int.toNat_natCast]; omega), show P.length + A.length + M.length + i = (P ++ B.take i).length + 1 + (A.drop (i + 1) ++ (M ++ A.take i)).length by omega, show P.length + i = (P ++ B.take i).length by omega, swap_far]; exact .here) (by rw [List.length_append, fC_len, List.length_set, hnx]; omega) ?_
      refine J.nil ?_
      refine JX.blockN ?_
      refine JX.thenN (hK3 _ _ ?_)
      refine JC.region ?_
      refine J.move rfl rfl ?_
      refine J.addN rfl rfl (by omega) (by omega) rfl ?_
      refine J.name 15 rfl (show _ = Value.int .i64 (((i + 1) : Nat) : Int) from congrArg (Value.int .i64) (by omega)) ?_
      refine J.assign rfl rfl ?_
      refine J.nil ?_
      refine JX.thenN ?_
      refine JX.again (i + 1) ?_ ?_ ?_
      · omega
      · exact ⟨rfl, rfl, rfl, rfl, rfl, trivial⟩
      · exact fun w1 hw => ⟨hlt, by rw [swR_next hxe hye]; exact hw⟩
  · skip
    have hge : i = A.length := by simp at h0; omega
    refine JC.exit ?_
    refine JX.thenE ?_
    refine JX.thenE ?_
    refine JX.blockE ?_
    refine JX.end0 rfl (fun w1 hw => ?_)
    refine ⟨rfl, ?_⟩
    rw [hge, show swR P A M B T A.length = P ++ (B ++ (M ++ (A ++ T))) by unfold swR; rw [hAB, List.take_length, List.drop_length, ← hAB, List.take_length, List.drop_length]; simp] at hw
    exact hw

set_option maxHeartbeats 2000000 in
theorem rotate_spec (q n c : Nat) (P L R T : List CV) (sp : List Value) (w : World) (hw0 : Own w [(q, cb (fC (P ++ (L ++ (R ++ T))) ++ sp) 75)]) (hL0 : 0 < L.length) (hR0 : 0 < R.length) (hn : P.length + L.length + R.length + T.length = n) (hnc : n ≤ c) (hnb : n ≤ 1099511627776) (mm bb : Nat) (hmm : P.length + L.length = mm) (hbb : mm + R.length = bb) :
    Calls Try.prog 95 [.slice (some ⟨q, 0, none⟩) n c, .int .i64 ((P.length : Nat) : Int), .int .i64 ((mm : Nat) : Int), .int .i64 ((bb : Nat) : Int), .func (.func 55) #[] #[]].toArray w fun r w' => r = .returned (.tuple #[]) ∧ St w [q] [(q, cb (fC (P ++ (R ++ (L ++ T))) ++ sp) 75)] w' := by
  refine calls_of_J (args := [.slice (some ⟨q, 0, none⟩) n c, .int .i64 ((P.length : Nat) : Int), .int .i64 ((mm : Nat) : Int), .int .i64 ((bb : Nat) : Int), .func (.func 55) #[] #[]]) (e := [(0, .slice (some ⟨q, 0, none⟩) n c), (1, .int .i64 ((P.length : Nat) : Int)), (2, .int .i64 ((mm : Nat) : Int)), (3, .int .i64 ((bb : Nat) : Int)), (4, .func (.func 55) #[] #[])]) Try.func95 rfl rfl ⟨rfl, rfl, rfl, rfl, rfl, trivial⟩ (hw0.st) ?_
  refine JC.seq (fun K0 hK0 => ?_)
  refine JC.region ?_
  refine J.move rfl rfl ?_
  refine J.move rfl rfl ?_
  refine J.subN rfl rfl (by omega) (by omega) rfl ?_
  refine J.name 14 rfl (show _ = Value.int .i64 ((L.length : Nat) : Int) from congrArg (Value.int .i64) (by omega)) ?_
  refine J.assign rfl rfl ?_
  refine J.nil ?_
  refine JX.thenN (hK0 _ _ ?_)
  refine JC.seq (fun K1 hK1 => ?_)
  refine JC.region ?_
  refine J.move rfl rfl ?_
  refine J.move rfl rfl ?_
  refine J.subN rfl rfl (by omega) (by omega) rfl ?_
  refine J.name 17 rfl (show _ = Value.int .i64 ((R.length : Nat) : Int) from congrArg (Value.int .i64) (by omega)) ?_
  refine J.assign rfl rfl ?_
  refine J.nil ?_
  refine JX.thenN (hK1 _ _ ?_)
  refine JC.seq (fun K2 hK2 => ?_)
  refine JC.block ?_
  refine JC.conseq (JC.cov (f := (fun st => [(0, .slice (some ⟨q, 0, none⟩) n c), (2, .int .i64 ((mm : Nat) : Int)), (4, .func (.func 55) #[] #[]), (10, .int .i64 ((st.X.length : Nat) : Int)), (11, .int .i64 ((st.Y.length : Nat) : Int))]) (⟨P, L, R, T⟩ : RoS)) ⟨rfl, rfl, rfl, rfl, rfl, trivial⟩ (JC.loop (α := RoS) (fun st => [(0, .slice (some ⟨q, 0, none⟩) n c), (2, .int .i64 ((mm : Nat) : Int)), (4, .func (.func 55) #[] #[]), (10, .int .i64 ((st.X.length : Nat) : Int)), (11, .int .i64 ((st.Y.length : Nat) : Int))]) (fun st w' => (st.P.length + st.X.length = mm ∧ 0 < st.X.length ∧ 0 < st.Y.length ∧ st.P ++ (st.Y ++ (st.X ++ st.T)) = P ++ (R ++ (L ++ T)) ∧ st.P.length + st.X.length + st.Y.length + st.T.length = n) ∧ St w [q] [(q, cb (fC (st.P ++ (st.X ++ (st.Y ++ st.T))) ++ sp) 75)] w') (fun st => st.X.length + st.Y.length) (⟨P, L, R, T⟩ : RoS) (fun st => ?_))) (fun w hw => ⟨⟨hmm, hL0, hR0, rfl, hn⟩, hw⟩)
  obtain ⟨Pi, X, Y, Ti⟩ := st
  refine JC.pr (fun hI => ?_)
  obtain ⟨hm1, hX, hY, hfin, hni⟩ := hI
  try simp only at hm1 hX hY hfin hni ⊢
  refine JC.seq (fun K3 hK3 => ?_)
  refine JC.seq (fun K4 hK4 => ?_)
  refine JC.region ?_
  refine J.move rfl rfl ?_
  refine J.move rfl rfl ?_
  refine J.bin rfl rfl rfl rfl ?_
  refine J.nil ?_
  refine JX.thenN (hK4 _ _ ?_)
  refine JC.cond rfl (fun h0 => ?_) (fun h0 => ?_)
  · skip
    have hcne : X.length ≠ Y.length := by
      have h9 : ¬ ((X.length : Int) = Y.length) := by simpa using h0
      omega
    refine JC.skip ?_
    refine JX.thenN (hK3 _ _ ?_)
    refine JC.block ?_
    refine JC.seq (fun K5 hK5 => ?_)
    refine JC.region ?_
    refine J.move rfl rfl ?_
    refine J.move rfl rfl ?_
    refine J.bin rfl rfl rfl rfl ?_
    refine J.nil ?_
    refine JX.thenN (hK5 _ _ ?_)
    refine JC.cond rfl (fun h1 => ?_) (fun h1 => ?_)
    · skip
      have hcc : Y.length < X.length := by simpa using h1
      refine JC.seq (fun K6 hK6 => ?_)
      obtain ⟨X1, X2, hXe, hX1, hX2⟩ := split_at X (k := Y.length) (by omega)
      subst hXe
      simp only [List.length_append] at hm1 hX hni hX2 hcc
      refine JC.conseq (I' := St w [q] [(q, cb (fC (Pi ++ (X1 ++ (X2 ++ (Y ++ Ti)))) ++ sp) 75)]) ?_ (fun w1 hw => by simpa only [List.append_assoc] using hw)
      refine JC.region ?_
      refine J.move rfl rfl ?_
      refine J.move rfl rfl ?_
      refine J.move rfl rfl ?_
      refine J.subN rfl rfl (by simp only [List.length_append]; omega) (by simp only [List.length_append]; omega) rfl ?_
      refine J.name 27 rfl (show _ = .int .i64 ((Pi.length : Nat) : Int) from congrArg (Value.int .i64) (by simp only [List.length_append]; omega)) ?_
      refine J.move rfl rfl ?_
      refine J.name 28 rfl (show _ = .int .i64 (((Pi.length + X1.length + X2.length) : Nat) : Int) from congrArg (Value.int .i64) (by omega)) ?_
      refine J.move rfl rfl ?_
      refine J.name 29 rfl (show _ = .int .i64 ((X1.length : Nat) : Int) from congrArg (Value.int .i64) (by omega)) ?_
      refine J.move rfl rfl ?_
      refine J.callS (α := Unit) (V := fun _ => .tuple #[]) (Pr := fun _ => True) (L := fun _ => [(q, cb (fC (Pi ++ (Y ++ (X2 ++ (X1 ++ Ti)))) ++ sp) 75)]) (l1 := [(q, cb (fC (Pi ++ (X1 ++ (X2 ++ (Y ++ Ti)))) ++ sp) 75)]) (l := []) Ty.bd101 rfl rfl (fun w1 hw => (swapRange_spec q n c Pi X1 X2 Y Ti sp w1 hw.owns (by omega) (by simp only [List.length_append, List.length_nil] at *; omega) hnc hnb).mono fun _ _ ⟨h1, h2⟩ => ⟨(), h1, trivial, h2⟩) (fun _ _ => ?_)
      simp only [List.append_nil]
      refine J.nil ?_
      refine JX.thenN (hK6 _ _ ?_)
      refine JC.region ?_
      refine J.move rfl rfl ?_
      refine J.move rfl rfl ?_
      refine J.subN rfl rfl (by simp only [List.length_append]; omega) (by simp only [List.length_append]; omega) rfl ?_
      refine J.name 34 rfl (show _ = .int .i64 ((X2.length : Nat) : Int) from congrArg (Value.int .i64) (by simp only [List.length_append]; omega)) ?_
      refine J.assign rfl rfl ?_
      refine J.nil ?_
      refine JX.blockN ?_
      refine JX.thenN ?_
      refine JX.again (⟨Pi ++ Y, X2, X1, Ti⟩ : RoS) ?_ ?_ ?_
      · simp only [List.length_append]; omega
      · exact ⟨rfl, rfl, rfl, rfl, congrArg (fun k : Nat => some (Value.int .i64 ((k : Nat) : Int))) hX1.symm, trivial⟩
      · exact fun w1 hw => ⟨⟨by simp only [List.length_append]; omega, by simp only; omega, by simp only; omega, by simpa only [List.append_assoc] using hfin, by simp only [List.length_append]; omega⟩, by simpa only [List.append_assoc] using hw⟩
    · skip
      have hcc : X.length < Y.length := by
        have h9 : ¬ Y.length < X.length := by simpa using h1
        omega
      refine JC.seq (fun K7 hK7 => ?_)
      obtain ⟨Y1, Y2, hYe, hY1, hY2⟩ := split_at Y (k := Y.length - X.length) (by omega)
      have hY3 : Y2.length = X.length := by omega
      subst hYe
      simp only [List.length_append] at hm1 hY hni hY1 hY2 hcc hcne
      refine JC.conseq (I' := St w [q] [(q, cb (fC (Pi ++ (X ++ (Y1 ++ (Y2 ++ Ti)))) ++ sp) 75)]) ?_ (fun w1 hw => by simpa only [List.append_assoc] using hw)
      refine JC.region ?_
      refine J.move rfl rfl ?_
      refine J.move rfl rfl ?_
      refine J.move rfl rfl ?_
      refine J.subN rfl rfl (by omega) (by omega) rfl ?_
      refine J.name 38 rfl (show _ = Value.int .i64 ((Pi.length : Nat) : Int) from congrArg (Value.int .i64) (by omega)) ?_
      refine J.move rfl rfl ?_
      refine J.move rfl rfl ?_
      refine J.addN rfl rfl (by simp only [List.length_append]; omega) (by simp only [List.length_append]; omega) rfl ?_
      refine J.name 41 rfl (show _ = .int .i64 (((mm + Y1.length + Y2.length) : Nat) : Int) from congrArg (Value.int .i64) (by simp only [List.length_append]; omega)) ?_
      refine J.move rfl rfl ?_
      refine J.subN rfl rfl (by omega) (by omega) rfl ?_
      refine J.name 43 rfl (show _ = Value.int .i64 (((Pi.length + X.length + Y1.length) : Nat) : Int) from congrArg (Value.int .i64) (by omega)) ?_
      refine J.move rfl rfl ?_
      refine J.move rfl rfl ?_
      refine J.callS (α := Unit) (V := fun _ => .tuple #[]) (Pr := fun _ => True) (L := fun _ => [(q, cb (fC (Pi ++ (Y2 ++ (Y1 ++ (X ++ Ti)))) ++ sp) 75)]) (l1 := [(q, cb (fC (Pi ++ (X ++ (Y1 ++ (Y2 ++ Ti)))) ++ sp) 75)]) (l := []) Ty.bd101 rfl rfl (fun w1 hw => (swapRange_spec q n c Pi X Y1 Y2 Ti sp w1 hw.owns (by omega) (by simp only [List.length_append, List.length_nil] at *; omega) hnc hnb).mono fun _ _ ⟨h1, h2⟩ => ⟨(), h1, trivial, h2⟩) (fun _ _ => ?_)
      simp only [List.append_nil]
      refine J.nil ?_
      refine JX.thenN (hK7 _ _ ?_)
      refine JC.region ?_
      refine J.move rfl rfl ?_
      refine J.move rfl rfl ?_
      refine J.subN rfl rfl (by simp only [List.length_append]; omega) (by simp only [List.length_append]; omega) rfl ?_
      refine J.name 49 rfl (show _ = .int .i64 ((Y1.length : Nat) : Int) from congrArg (Value.int .i64) (by simp only [List.length_append]; omega)) ?_
      refine J.assign rfl rfl ?_
      refine J.nil ?_
      refine JX.blockN ?_
      refine JX.thenN ?_
      refine JX.again (⟨Pi, Y2, Y1, X ++ Ti⟩ : RoS) ?_ ?_ ?_
      · simp only [List.length_append]; omega
      · exact ⟨rfl, rfl, rfl, congrArg (fun k : Nat => some (Value.int .i64 ((k : Nat) : Int))) hY3.symm, rfl, trivial⟩
      · exact fun w1 hw => ⟨⟨by simp only [List.length_append]; omega, by simp only; omega, by simp only; omega, by simpa only [List.append_assoc] using hfin, by simp only [List.length_append]; omega⟩, by simpa only [List.append_assoc] using hw⟩
  · skip
    have hceq : X.length = Y.length := by
      have h9 : ((X.length : Int) = Y.length) := by simpa using h0
      omega
    refine JC.exit ?_
    refine JX.thenE ?_
    refine JX.thenE ?_
    refine JX.blockE ?_
    refine JX.thenN (hK2 _ _ ?_)
    refine JC.conseq (I' := St w [q] [(q, cb (fC (Pi ++ (X ++ (([] : List CV) ++ (Y ++ Ti)))) ++ sp) 75)]) ?_ (fun w1 hw => by simpa only [List.append_assoc, List.nil_append] using hw)
    refine JC.region ?_
    refine J.move rfl rfl ?_
    refine J.move rfl rfl ?_
    refine J.move rfl rfl ?_
    refine J.subN rfl rfl (by omega) (by omega) rfl ?_
    refine J.name 53 rfl (show _ = Value.int .i64 ((Pi.length : Nat) : Int) from congrArg (Value.int .i64) (by omega)) ?_
    refine J.move rfl rfl ?_
    refine J.name 54 rfl (show _ = .int .i64 (((Pi.length + X.length + ([] : List CV).length) : Nat) : Int) from congrArg (Value.int .i64) (by simp only [List.length_nil]; omega)) ?_
    refine J.move rfl rfl ?_
    refine J.move rfl rfl ?_
    refine J.callS (α := Unit) (V := fun _ => .tuple #[]) (Pr := fun _ => True) (L := fun _ => [(q, cb (fC (Pi ++ (Y ++ (([] : List CV) ++ (X ++ Ti)))) ++ sp) 75)]) (l1 := [(q, cb (fC (Pi ++ (X ++ (([] : List CV) ++ (Y ++ Ti)))) ++ sp) 75)]) (l := []) Ty.bd101 rfl rfl (fun w1 hw => (swapRange_spec q n c Pi X ([] : List CV) Y Ti sp w1 hw.owns (by omega) (by simp only [List.length_append, List.length_nil] at *; omega) hnc hnb).mono fun _ _ ⟨h1, h2⟩ => ⟨(), h1, trivial, h2⟩) (fun _ _ => ?_)
    simp only [List.append_nil]
    refine J.nil ?_
    refine JX.end0 rfl (fun w1 hw => ?_)
    refine ⟨rfl, ?_⟩
    simp only [List.nil_append] at hw
    rw [hfin] at hw
    exact hw

end Go.Proofs.Ytbafhclandendaa
/-
  Symmetric merging, at candidates: contract.
-/
namespace Go.Proofs.Ytbafhclandendaa
open Go.J Go.RowKit
set_option linter.unusedVariables false
set_option linter.unusedSimpArgs false
set_option maxRecDepth 8000
theorem half_val (s : Nat) : Int.fdiv ((s : Nat) : Int) (2 ^ (min (1 : Int).toNat IntKind.u64.bits)) = ((s / 2 : Nat) : Int) := by
  rw [show (2 : Int) ^ (min (1 : Int).toNat IntKind.u64.bits) = 2 from rfl, Int.fdiv_eq_ediv_of_nonneg _ (by omega)]
  omega
theorem swap_mid' {α : Type} (l r : List α) (x y : α) : ((l ++ x :: y :: r).set l.length y).set (l.length + 1) x = l ++ y :: x :: r := by
  simp [List.set_append]
theorem take_get {α : Type} {l : List α} {k : Nat} {x : α} (h : l[k]? = some x) : l.take (k + 1) = l.take k ++ [x] := by rw [List.take_add_one, h]; rfl
theorem drop_get {α : Type} {l : List α} {k : Nat} {x : α} (h : l[k]? = some x) : l.drop k = x :: l.drop (k + 1) := by rw [List.drop_eq_getElem_cons (List.getElem?_eq_some_iff.1 h).1, (List.getElem?_eq_some_iff.1 h).2]
/-- of a rising row: if one is less than x, all ahead of it are -/
theorem all_lt {R : List CV} {k : Nat} {x y : CV} (hR : Srt ltC R) (hy : R[k]? = some y) (h : ltC y x) : ∀ z, z ∈ R.take (k + 1) → ltC z x := by
  intro z hz
  obtain ⟨p, hp⟩ := List.mem_iff_getElem?.1 hz
  have hl := (List.getElem?_eq_some_iff.1 hp).1
  rw [List.length_take] at hl
  rw [List.getElem?_take_of_lt (by omega)] at hp
  exact swoC.le_lt (hR.get' swoC hp hy (by omega)) h
theorem all_ge {R : List CV} {k : Nat} {x y : CV} (hR : Srt ltC R) (hy : R[k]? = some y) (h : ¬ ltC y x) : ∀ z, z ∈ R.drop k → ¬ ltC z x := by
  intro z hz
  obtain ⟨p, hp⟩ := List.mem_iff_getElem?.1 hz
  rw [List.getElem?_drop] at hp
  exact swoC.ntr (hR.get' swoC hy hp (by omega)) h
theorem all_le {L : List CV} {k : Nat} {x y : CV} (hL : Srt ltC L) (hx : L[k]? = some x) (h : ¬ ltC y x) : ∀ z, z ∈ L.take (k + 1) → ¬ ltC y z := by
  intro z hz
  obtain ⟨p, hp⟩ := List.mem_iff_getElem?.1 hz
  have hl := (List.getElem?_eq_some_iff.1 hp).1
  rw [List.length_take] at hl
  rw [List.getElem?_take_of_lt (by omega)] at hp
  exact swoC.ntr h (hL.get' swoC hp hx (by omega))
theorem all_gt {L : List CV} {k : Nat} {x y : CV} (hL : Srt ltC L) (hx : L[k]? = some x) (h : ltC y x) : ∀ z, z ∈ L.drop k → ltC y z := by
  intro z hz
  obtain ⟨p, hp⟩ := List.mem_iff_getElem?.1 hz
  rw [List.getElem?_drop] at hp
  exact swoC.lt_le h (hL.get' swoC hx hp (by omega))
theorem get_L {P L R T : List CV} {i : Nat} {x : CV} (h : L[i]? = some x) : (P ++ (L ++ (R ++ T)))[P.length + i]? = some x := by
  have hl := (List.getElem?_eq_some_iff.1 h).1
  rw [List.getElem?_append_right (by omega), Nat.add_sub_cancel_left, List.getElem?_append_left hl]
  exact h
theorem get_R {P L R T : List CV} {i : Nat} {x : CV} (h : R[i]? = some x) : (P ++ (L ++ (R ++ T)))[P.length + L.length + i]? = some x := by
  have hl := (List.getElem?_eq_some_iff.1 h).1
  rw [List.getElem?_append_right (by omega), List.getElem?_append_right (by omega), show P.length + L.length + i - P.length - L.length = i by omega, List.getElem?_append_left hl]
  exact h

set_option maxHeartbeats 4000000 in
theorem symMerge_left (q n c : Nat) (sp : List Value) (hnc : n ≤ c) (hnb : n ≤ 1099511627776) (P L R T : List CV) (w : World) (hw0 : Own w [(q, cb (fC (P ++ (L ++ (R ++ T))) ++ sp) 75)]) (hn : (P ++ (L ++ (R ++ T))).length = n) (hL0 : 0 < L.length) (hR0 : 0 < R.length) (hL : Srt ltC L) (hR : Srt ltC R) (hL1 : L.length = 1) (IH : ∀ (P1 L1 R1 T1 : List CV) (w1 : World), Own w1 [(q, cb (fC (P1 ++ (L1 ++ (R1 ++ T1))) ++ sp) 75)] → (P1 ++ (L1 ++ (R1 ++ T1))).length = n → 0 < L1.length → 0 < R1.length → Srt ltC L1 → Srt ltC R1 → L1.length + R1.length < L.length + R.length → ∀ a m b : Nat, P1.length = a → a + L1.length = m → m + R1.length = b → Calls Try.prog 82 [.slice (some ⟨q, 0, none⟩) n c, .int .i64 ((a : Nat) : Int), .int .i64 ((m : Nat) : Int), .int .i64 ((b : Nat) : Int), .func (.func 55) #[] #[]].toArray w1 fun r w' => ∃ Z : List CV, r = .returned (.tuple #[]) ∧ (SE ltC (L1 ++ R1) Z ∧ Srt ltC Z) ∧ St w1 [q] [(q, cb (fC (P1 ++ (Z ++ T1)) ++ sp) 75)] w') :
    Calls Try.prog 82 [.slice (some ⟨q, 0, none⟩) n c, .int .i64 ((P.length : Nat) : Int), .int .i64 (((P.length + L.length) : Nat) : Int), .int .i64 (((P.length + L.length + R.length) : Nat) : Int), .func (.func 55) #[] #[]].toArray w fun r w' => ∃ Z : List CV, r = .returned (.tuple #[]) ∧ (SE ltC (L ++ R) Z ∧ Srt ltC Z) ∧ St w [q] [(q, cb (fC (P ++ (Z ++ T)) ++ sp) 75)] w' := by
  obtain ⟨xe, hLe⟩ : ∃ x, L = [x] := List.length_eq_one_iff.1 hL1
  have gx : (P ++ (L ++ (R ++ T)))[P.length]? = some xe := by have := get_L (P := P) (R := R) (T := T) (L := L) (i := 0) (x := xe) (by rw [hLe]; rfl); exact this
  have hPn : P.length + L.length + R.length + T.length = n := by simp only [List.length_append] at hn; omega
  refine calls_of_J (args := [.slice (some ⟨q, 0, none⟩) n c, .int .i64 ((P.length : Nat) : Int), .int .i64 (((P.length + L.length) : Nat) : Int), .int .i64 (((P.length + L.length + R.length) : Nat) : Int), .func (.func 55) #[] #[]]) (e := [(0, .slice (some ⟨q, 0, none⟩) n c), (1, .int .i64 ((P.length : Nat) : Int)), (2, .int .i64 (((P.length + L.length) : Nat) : Int)), (3, .int .i64 (((P.length + L.length + R.length) : Nat) : Int)), (4, .func (.func 55) #[] #[])]) Try.func82 rfl rfl ⟨rfl, rfl, rfl, rfl, rfl, trivial⟩ (hw0.st) ?_
  refine JC.seq (fun K0 hK0 => ?_)
  refine JC.seq (fun K1 hK1 => ?_)
  refine JC.region ?_
  refine J.move rfl rfl ?_
  refine J.move rfl rfl ?_
  refine J.subN rfl rfl (by omega) (by omega) rfl ?_
  refine J.name 27 rfl (show _ = Value.int .i64 ((L.length : Nat) : Int) from congrArg (Value.int .i64) (by omega)) ?_
  refine J.bin rfl rfl rfl rfl ?_
  refine J.name 28 rfl (show _ = Value.bool true by simp; omega) ?_
  refine J.nil ?_
  refine JX.thenN (hK1 _ _ ?_)
  first | refine JC.condT rfl ?_ | refine JC.cond rfl (fun _ => ?_) (fun h => by first | (exfalso; simp at h; omega) | (simp at h))
  refine JC.seq (fun K2 hK2 => ?_)
  refine JC.region ?_
  refine J.move rfl rfl ?_
  refine J.assign rfl rfl ?_
  refine J.nil ?_
  refine JX.thenN (hK2 _ _ ?_)
  refine JC.seq (fun K3 hK3 => ?_)
  refine JC.region ?_
  refine J.move rfl rfl ?_
  refine J.assign rfl rfl ?_
  refine J.nil ?_
  refine JX.thenN (hK3 _ _ ?_)
  refine JC.seq (fun K4 hK4 => ?_)
  refine JC.block ?_
  refine JC.conseq (JC.cov (f := (fun st => [(0, .slice (some ⟨q, 0, none⟩) n c), (1, .int .i64 ((P.length : Nat) : Int)), (2, .int .i64 (((P.length + L.length) : Nat) : Int)), (3, .int .i64 (((P.length + L.length + R.length) : Nat) : Int)), (4, .func (.func 55) #[] #[]), (10, .int .i64 (((P.length + L.length + st.1) : Nat) : Int)), (11, .int .i64 (((P.length + L.length + st.2) : Nat) : Int))]) ((0, R.length) : Nat × Nat)) ⟨rfl, rfl, rfl, rfl, rfl, rfl, rfl, trivial⟩ (JC.loop (α := Nat × Nat) (fun st => [(0, .slice (some ⟨q, 0, none⟩) n c), (1, .int .i64 ((P.length : Nat) : Int)), (2, .int .i64 (((P.length + L.length) : Nat) : Int)), (3, .int .i64 (((P.length + L.length + R.length) : Nat) : Int)), (4, .func (.func 55) #[] #[]), (10, .int .i64 (((P.length + L.length + st.1) : Nat) : Int)), (11, .int .i64 (((P.length + L.length + st.2) : Nat) : Int))]) (fun st w' => (st.1 ≤ st.2 ∧ st.2 ≤ R.length ∧ (∀ y, y ∈ R.take st.1 → ltC y xe) ∧ ∀ y, y ∈ R.drop st.2 → ¬ ltC y xe) ∧ St w [q] [(q, cb (fC (P ++ (L ++ (R ++ T))) ++ sp) 75)] w') (fun st => st.2 - st.1) ((0, R.length) : Nat × Nat) (fun st => ?_))) (fun w hw => ⟨⟨Nat.zero_le _, Nat.le_refl _, by simp, by simp⟩, hw⟩)
  obtain ⟨i, j⟩ := st
  refine JC.pr (fun hI => ?_)
  obtain ⟨hij, hjR, hlt1, hge1⟩ := hI
  try simp only at hij hjR hlt1 hge1 ⊢
  refine JC.seq (fun K5 hK5 => ?_)
  refine JC.seq (fun K6 hK6 => ?_)
  refine JC.region ?_
  refine J.move rfl rfl ?_
  refine J.move rfl rfl ?_
  refine J.bin rfl rfl rfl rfl ?_
  refine J.nil ?_
  refine JX.thenN (hK6 _ _ ?_)
  refine JC.cond rfl (fun h1 => ?_) (fun h1 => ?_)
  · skip
    have hlt : i < j := by
      have h9 : (P.length + L.length + i : Int) < P.length + L.length + j := by simpa using h1
      omega
    obtain ⟨h, hh1, hh2, hh3⟩ : ∃ h, (P.length + L.length + i + (P.length + L.length + j)) / 2 = P.length + L.length + h ∧ i ≤ h ∧ h < j := ⟨(i + j) / 2, by omega, by omega, by omega⟩
    obtain ⟨ye, hye⟩ : ∃ y, R[h]? = some y := ⟨_, List.getElem?_eq_getElem (by omega)⟩
    have gy := get_R (P := P) (L := L) (T := T) hye
    refine JC.skip ?_
    refine JX.thenN (hK5 _ _ ?_)
    refine JC.block ?_
    refine JC.seq (fun K7 hK7 => ?_)
    refine JC.region ?_
    refine J.move rfl rfl ?_
    refine J.move rfl rfl ?_
    refine J.addN rfl rfl (by omega) (by omega) rfl ?_
    refine J.name 36 rfl (show _ = .int .i64 (((P.length + L.length + i + (P.length + L.length + j)) : Nat) : Int) from congrArg (Value.int .i64) (by omega)) ?_
    refine J.convInt Ty.u3 Ty.u31 rfl rfl ?_
    refine J.name 37 rfl (show _ = Value.int .u64 (((P.length + L.length + i + (P.length + L.length + j)) : Nat) : Int) from congrArg (Value.int .u64) (wrap_u64 (by omega) (by omega))) ?_
    refine J.shrN rfl rfl (by omega) rfl ?_
    refine J.name 38 rfl (show _ = Value.int .u64 (((P.length + L.length + h) : Nat) : Int) from congrArg (Value.int .u64) ((half_val (P.length + L.length + i + (P.length + L.length + j))).trans (congrArg (fun k : Nat => ((k : Nat) : Int)) hh1))) ?_
    refine J.convInt Ty.u31 Ty.u3 rfl rfl ?_
    refine J.name 39 rfl (show _ = .int .i64 (((P.length + L.length + h) : Nat) : Int) from congrArg (Value.int .i64) (wrap_i64 (by omega) (by omega))) ?_
    refine J.assign rfl rfl ?_
    refine J.nil ?_
    refine JX.thenN (hK7 _ _ ?_)
    refine JC.seq (fun K8 hK8 => ?_)
    apply JC.drawX (α := Nat × Unit) 11 (fun x => match x with | ⟨xu, uu⟩ => [.func (.func 55) #[] #[], .slice (some ⟨q, 0, none⟩) n c, .int .i64 (((P.length + L.length + h) : Nat) : Int), .pointer (some ⟨q, 0 + (((P.length + L.length + h) : Nat) : Int).toNat * 35, none⟩), .agg (cC ye).toArray, .slice (some ⟨q, 0, none⟩) n c, .int .i64 ((P.length : Nat) : Int), .pointer (some ⟨q, 0 + ((P.length : Nat) : Int).toNat * 35, none⟩), .agg (cC xe).toArray, .int .i64 (ordC ye xe), .bool (decide (ltC ye xe))]) (fun m x => match x with | ⟨xu, uu⟩ => fun w1 => (True) ∧ St w [q] ((q, cb (fC (P ++ (L ++ (R ++ T))) ++ sp) 75) :: []) w1) Ty.mixed rfl rfl rfl (by kernel_rfl) rfl rfl ?hinit ?hstep ?htail
    case hinit => exact fun w1 hw => ⟨(0, ()), trivial, hw.drew⟩
    case hstep =>
      refine ⟨fun m x hm hp => ?_, fun m x hm hp => ?_, fun m x hm hp => ?_, fun m x hm hp => ?_, fun m x hm hp => ?_, fun m x hm hp => ?_, fun m x hm hp => ?_, fun m x hm hp => ?_, fun m x hm hp => ?_, fun m x hm hp => ?_, fun m x hm hp => ?_, trivial⟩
      · skip
        obtain ⟨xu, uu⟩ := x
        show J _ _ _ _ _ (_) _
        refine J.pr (fun hF => ?_)
        refine J.move rfl rfl ?_
        exact J.finX rfl (fun _ hw => ⟨⟨xu, uu⟩, rfl, fun _ _ _ => rfl, hF, hw⟩)
      · skip
        obtain ⟨xu, uu⟩ := x
        show J _ _ _ _ _ (_) _
        refine J.pr (fun hF => ?_)
        refine J.move rfl rfl ?_
        exact J.finX rfl (fun _ hw => ⟨⟨xu, uu⟩, rfl, fun _ _ _ => rfl, hF, hw⟩)
      · skip
        obtain ⟨xu, uu⟩ := x
        show J _ _ _ _ _ (_) _
        refine J.pr (fun hF => ?_)
        refine J.move rfl rfl ?_
        exact J.finX rfl (fun _ hw => ⟨⟨xu, uu⟩, rfl, fun _ _ _ => rfl, hF, hw⟩)
      · skip
        obtain ⟨xu, uu⟩ := x
        show J _ _ _ _ _ ((42, .int .i64 (((P.length + L.length + h) : Nat) : Int)) :: (41, .slice (some ⟨q, 0, none⟩) n c) :: _) _
        refine J.pr (fun hF => ?_)
        refine J.indexAddrS Ty.el68 Ty.s75 rfl rfl (by omega) (by omega) rfl ?_
        exact J.finX rfl (fun _ hw => ⟨⟨xu, uu⟩, rfl, fun _ _ _ => rfl, hF, hw⟩)
      · skip
        obtain ⟨xu, uu⟩ := x
        show J _ _ _ _ _ ((43, .pointer (some ⟨q, 0 + (((P.length + L.length + h) : Nat) : Int).toNat * 35, none⟩)) :: _) _
        refine J.pr (fun hF => ?_)
        refine J.loadA (vs := cC ye) Ty.a75 Ty.s75 rfl rfl (fun w1 hw => rowG_at (c := cC) (sz := 35) (fun _ => rfl) (rowC_own (xs := P ++ (L ++ (R ++ T))) hw (.head _) hn hnc) gy (by rw [Int.toNat_natCast])) rfl ?_
        exact J.finX rfl (fun _ hw => ⟨⟨xu, uu⟩, rfl, fun _ _ _ => rfl, hF, hw⟩)
      · skip
        obtain ⟨xu, uu⟩ := x
        show J _ _ _ _ _ (_) _
        refine J.pr (fun hF => ?_)
        refine J.move rfl rfl ?_
        exact J.finX rfl (fun _ hw => ⟨⟨xu, uu⟩, rfl, fun _ _ _ => rfl, hF, hw⟩)
      · skip
        obtain ⟨xu, uu⟩ := x
        show J _ _ _ _ _ (_) _
        refine J.pr (fun hF => ?_)
        refine J.move rfl rfl ?_
        exact J.finX rfl (fun _ hw => ⟨⟨xu, uu⟩, rfl, fun _ _ _ => rfl, hF, hw⟩)
      · skip
        obtain ⟨xu, uu⟩ := x
        show J _ _ _ _ _ ((46, .int .i64 ((P.length : Nat) : Int)) :: (45, .slice (some ⟨q, 0, none⟩) n c) :: _) _
        refine J.pr (fun hF => ?_)
        refine J.indexAddrS Ty.el68 Ty.s75 rfl rfl (by omega) (by omega) rfl ?_
        exact J.finX rfl (fun _ hw => ⟨⟨xu, uu⟩, rfl, fun _ _ _ => rfl, hF, hw⟩)
      · skip
        obtain ⟨xu, uu⟩ := x
        show J _ _ _ _ _ ((47, .pointer (some ⟨q, 0 + ((P.length : Nat) : Int).toNat * 35, none⟩)) :: _) _
        refine J.pr (fun hF => ?_)
        refine J.loadA (vs := cC xe) Ty.a75 Ty.s75 rfl rfl (fun w1 hw => rowG_at (c := cC) (sz := 35) (fun _ => rfl) (rowC_own (xs := P ++ (L ++ (R ++ T))) hw (.head _) hn hnc) gx (by rw [Int.toNat_natCast])) rfl ?_
        exact J.finX rfl (fun _ hw => ⟨⟨xu, uu⟩, rfl, fun _ _ _ => rfl, hF, hw⟩)
      · skip
        obtain ⟨xu, uu⟩ := x
        show J _ _ _ _ _ ((48, .agg (cC xe).toArray) :: (44, .agg (cC ye).toArray) :: (40, .func (.func 55) #[] #[]) :: _) _
        refine J.pr (fun hF => ?_)
        refine J.callVB (v := .int .i64 (ordC ye xe)) (fun w1 w2 hw hb => hw.step hb) Ty.bd55 rfl rfl rfl (fun w1 hw => order_spec ye xe w1) ?_
        exact J.finX rfl (fun _ hw => ⟨⟨xu, uu⟩, rfl, fun _ _ _ => rfl, hF, hw⟩)
      · skip
        obtain ⟨xu, uu⟩ := x
        show J _ _ _ _ _ ((49, .int .i64 (ordC ye xe)) :: _) _
        refine J.pr (fun hF => ?_)
        refine J.bin rfl rfl rfl rfl ?_
        refine J.name 50 rfl (show _ = Value.bool (decide (ltC ye xe)) from rfl) ?_
        exact J.finX rfl (fun _ hw => ⟨⟨xu, uu⟩, rfl, fun _ _ _ => rfl, hF, hw⟩)
    case htail =>
      intro x
      obtain ⟨xu, uu⟩ := x
      show J _ _ _ _ _ ((50, .bool (decide (ltC ye xe))) :: (49, .int .i64 (ordC ye xe)) :: (48, .agg (cC xe).toArray) :: (47, .pointer (some ⟨q, 0 + ((P.length : Nat) : Int).toNat * 35, none⟩)) :: (46, .int .i64 ((P.length : Nat) : Int)) :: (45, .slice (some ⟨q, 0, none⟩) n c) :: (44, .agg (cC ye).toArray) :: (43, .pointer (some ⟨q, 0 + (((P.length + L.length + h) : Nat) : Int).toNat * 35, none⟩)) :: (42, .int .i64 (((P.length + L.length + h) : Nat) : Int)) :: (41, .slice (some ⟨q, 0, none⟩) n c) :: (40, .func (.func 55) #[] #[]) :: _) (fun w1 => (True) ∧ St w [q] ((q, cb (fC (P ++ (L ++ (R ++ T))) ++ sp) 75) :: []) w1)
      refine J.pr (fun hF => ?_)
      refine J.nil ?_
      refine JX.thenN (hK8 _ _ ?_)
      refine JC.cond rfl (fun h2 => ?_) (fun h2 => ?_)
      · skip
        have hcmp : ltC ye xe := by simpa using h2
        refine JC.region ?_
        refine J.move rfl rfl ?_
        refine J.addN rfl rfl (by omega) (by omega) rfl ?_
        refine J.name 52 rfl (show _ = .int .i64 (((P.length + L.length + (h + 1)) : Nat) : Int) from congrArg (Value.int .i64) (by omega)) ?_
        refine J.assign rfl rfl ?_
        refine J.nil ?_
        refine JX.blockN ?_
        refine JX.thenN ?_
        refine JX.again ((h + 1, j) : Nat × Nat) ?_ ?_ ?_
        · simp only; omega
        · exact ⟨rfl, rfl, rfl, rfl, rfl, rfl, rfl, trivial⟩
        · exact fun w1 hw => ⟨⟨by show _ ≤ _; omega, by show _ ≤ _; omega, all_lt hR hye hcmp, hge1⟩, hw⟩
      · skip
        have hcmp : ¬ ltC ye xe := by simpa using h2
        refine JC.region ?_
        refine J.move rfl rfl ?_
        refine J.assign rfl rfl ?_
        refine J.nil ?_
        refine JX.blockN ?_
        refine JX.thenN ?_
        refine JX.again ((i, h) : Nat × Nat) ?_ ?_ ?_
        · simp only; omega
        · exact ⟨rfl, rfl, rfl, rfl, rfl, rfl, rfl, trivial⟩
        · exact fun w1 hw => ⟨⟨by show _ ≤ _; omega, by show _ ≤ _; omega, hlt1, all_ge hR hye hcmp⟩, hw⟩
  · skip
    have hge : i = j := by
      have h9 : ¬ ((P.length + L.length + i : Int) < P.length + L.length + j) := by simpa using h1
      omega
    subst hge
    refine JC.exit ?_
    refine JX.thenE ?_
    refine JX.thenE ?_
    refine JX.blockE ?_
    refine JX.thenN (hK4 _ _ ?_)
    refine JC.seq (fun K9 hK9 => ?_)
    refine JC.seq (fun K10 hK10 => ?_)
    refine JC.region ?_
    refine J.move rfl rfl ?_
    refine J.assign rfl rfl ?_
    refine J.nil ?_
    refine JX.thenN (hK10 _ _ ?_)
    refine JC.block ?_
    refine JC.conseq (JC.cov (f := (fun k => [(0, .slice (some ⟨q, 0, none⟩) n c), (10, .int .i64 (((P.length + L.length + i) : Nat) : Int)), (13, .int .i64 (((P.length + k) : Nat) : Int))]) 0) ⟨rfl, rfl, rfl, trivial⟩ (JC.loop (α := Nat) (fun k => [(0, .slice (some ⟨q, 0, none⟩) n c), (10, .int .i64 (((P.length + L.length + i) : Nat) : Int)), (13, .int .i64 (((P.length + k) : Nat) : Int))]) (fun k w' => (k ≤ i) ∧ St w [q] [(q, cb (fC ((P ++ R.take k) ++ xe :: (R.drop k ++ T)) ++ sp) 75)] w') (fun k => i - k) 0 (fun k => ?_))) (fun w hw => ⟨Nat.zero_le _, by rw [hLe] at hw; simpa using hw⟩)
    refine JC.pr (fun hk => ?_)
    refine JC.seq (fun K11 hK11 => ?_)
    refine JC.seq (fun K12 hK12 => ?_)
    refine JC.region ?_
    refine J.move rfl rfl ?_
    refine J.move rfl rfl ?_
    refine J.subN rfl rfl (by omega) (by omega) rfl ?_
    refine J.name 57 rfl (show _ = .int .i64 (((P.length + i) : Nat) : Int) from congrArg (Value.int .i64) (by omega)) ?_
    refine J.bin rfl rfl rfl rfl ?_
    refine J.nil ?_
    refine JX.thenN (hK12 _ _ ?_)
    refine JC.cond rfl (fun h3 => ?_) (fun h3 => ?_)
    · skip
      have hlt : k < i := by
        have h9 : (P.length + k : Int) < P.length + i := by simpa using h3
        omega
      obtain ⟨ye, hye⟩ : ∃ y, R[k]? = some y := ⟨_, List.getElem?_eq_getElem (by omega)⟩
      have hkl : P.length + k = (P ++ R.take k).length := by rw [List.length_append, List.length_take]; omega
      rw [drop_get hye]
      have hnx : ((P ++ R.take k) ++ xe :: ye :: (R.drop (k + 1) ++ T)).length = n := by simp only [List.length_append, List.length_cons, List.length_take, List.length_drop]; omega
      have gx : ((P ++ R.take k) ++ xe :: ye :: (R.drop (k + 1) ++ T))[P.length + k]? = some xe := by rw [hkl]; exact get_mid _ _ _
      have gy : ((P ++ R.take k) ++ xe :: ye :: (R.drop (k + 1) ++ T))[P.length + k + 1]? = some ye := by rw [hkl]; exact get_mid2 _ _ _ _
      refine JC.conseq (I' := St w [q] [(q, cb (fC ((P ++ R.take k) ++ xe :: ye :: (R.drop (k + 1) ++ T)) ++ sp) 75)]) ?_ (fun w1 hw => by simpa only [List.cons_append] using hw)
      refine JC.skip ?_
      refine JX.thenN (hK11 _ _ ?_)
      refine JC.seq (fun K13 hK13 => ?_)
      refine JC.block ?_
      apply JC.drawX (α := Nat × Unit) 16 (fun x => match x with | ⟨xu, uu⟩ => [.slice (some ⟨q, 0, none⟩) n c, .int .i64 (((P.length + k) : Nat) : Int), .slice (some ⟨q, 0, none⟩) n c, .int .i64 (((P.length + k) : Nat) : Int), .int .i64 (((P.length + k + 1) : Nat) : Int), .slice (some ⟨q, 0, none⟩) n c, .int .i64 (((P.length + k) : Nat) : Int), .int .i64 (((P.length + k + 1) : Nat) : Int), .pointer (some ⟨q, 0 + (((P.length + k + 1) : Nat) : Int).toNat * 35, none⟩), .agg (cC ye).toArray, .slice (some ⟨q, 0, none⟩) n c, .int .i64 (((P.length + k) : Nat) : Int), .pointer (some ⟨q, 0 + (((P.length + k) : Nat) : Int).toNat * 35, none⟩), .agg (cC xe).toArray, .pointer (some ⟨q, 0 + (((P.length + k) : Nat) : Int).toNat * 35, none⟩), undef]) (fun m x => match x with | ⟨xu, uu⟩ => fun w1 => ((m 15 = true → m 9 = true ∧ m 13 = true)) ∧ St w [q] ((q, cb (bif m 15 then fC (((P ++ R.take k) ++ xe :: ye :: (R.drop (k + 1) ++ T)).set ((P.length + k)) ye) ++ sp else fC ((P ++ R.take k) ++ xe :: ye :: (R.drop (k + 1) ++ T)) ++ sp) 75) :: []) w1) Ty.mixed rfl rfl rfl (by kernel_rfl) rfl rfl ?hinit ?hstep ?htail
      case hinit => exact fun w1 hw => ⟨(0, ()), fun h => (by cases h), hw.drew⟩
      case hstep =>
        refine ⟨fun m x hm hp => ?_, fun m x hm hp => ?_, fun m x hm hp => ?_, fun m x hm hp => ?_, fun m x hm hp => ?_, fun m x hm hp => ?_, fun m x hm hp => ?_, fun m x hm hp => ?_, fun m x hm hp => ?_, fun m x hm hp => ?_, fun m x hm hp => ?_, fun m x hm hp => ?_, fun m x hm hp => ?_, fun m x hm hp => ?_, fun m x hm hp => ?_, fun m x hm hp => ?_, trivial⟩
        · skip
          obtain ⟨xu, uu⟩ := x
          show J _ _ _ _ _ (_) _
          refine J.pr (fun hF => ?_)
          refine J.move rfl rfl ?_
          exact J.finX rfl (fun _ hw => ⟨⟨xu, uu⟩, rfl, fun _ _ _ => rfl, hF, hw⟩)
        · skip
          obtain ⟨xu, uu⟩ := x
          show J _ _ _ _ _ (_) _
          refine J.pr (fun hF => ?_)
          refine J.move rfl rfl ?_
          exact J.finX rfl (fun _ hw => ⟨⟨xu, uu⟩, rfl, fun _ _ _ => rfl, hF, hw⟩)
        · skip
          obtain ⟨xu, uu⟩ := x
          show J _ _ _ _ _ (_) _
          refine J.pr (fun hF => ?_)
          refine J.move rfl rfl ?_
          exact J.finX rfl (fun _ hw => ⟨⟨xu, uu⟩, rfl, fun _ _ _ => rfl, hF, hw⟩)
        · skip
          obtain ⟨xu, uu⟩ := x
          show J _ _ _ _ _ (_) _
          refine J.pr (fun hF => ?_)
          refine J.move rfl rfl ?_
          exact J.finX rfl (fun _ hw => ⟨⟨xu, uu⟩, rfl, fun _ _ _ => rfl, hF, hw⟩)
        · skip
          obtain ⟨xu, uu⟩ := x
          show J _ _ _ _ _ ((64, .int .i64 (((P.length + k) : Nat) : Int)) :: _) _
          refine J.pr (fun hF => ?_)
          refine J.addN rfl rfl (by omega) (by omega) rfl ?_
          refine J.name 65 rfl (show _ = Value.int .i64 (((P.length + k + 1) : Nat) : Int) from congrArg (Value.int .i64) (by omega)) ?_
          exact J.finX rfl (fun _ hw => ⟨⟨xu, uu⟩, rfl, fun _ _ _ => rfl, hF, hw⟩)
        · skip
          obtain ⟨xu, uu⟩ := x
          show J _ _ _ _ _ (_) _
          refine J.pr (fun hF => ?_)
          refine J.move rfl rfl ?_
          exact J.finX rfl (fun _ hw => ⟨⟨xu, uu⟩, rfl, fun _ _ _ => rfl, hF, hw⟩)
        · skip
          obtain ⟨xu, uu⟩ := x
          show J _ _ _ _ _ (_) _
          refine J.pr (fun hF => ?_)
          refine J.move rfl rfl ?_
          exact J.finX rfl (fun _ hw => ⟨⟨xu, uu⟩, rfl, fun _ _ _ => rfl, hF, hw⟩)
        · skip
          obtain ⟨xu, uu⟩ := x
          show J _ _ _ _ _ ((67, .int .i64 (((P.length + k) : Nat) : Int)) :: _) _
          refine J.pr (fun hF => ?_)
          refine J.addN rfl rfl (by omega) (by omega) rfl ?_
          refine J.name 68 rfl (show _ = Value.int .i64 (((P.length + k + 1) : Nat) : Int) from congrArg (Value.int .i64) (by omega)) ?_
          exact J.finX rfl (fun _ hw => ⟨⟨xu, uu⟩, rfl, fun _ _ _ => rfl, hF, hw⟩)
        · skip
          obtain ⟨xu, uu⟩ := x
          show J _ _ _ _ _ ((68, .int .i64 (((P.length + k + 1) : Nat) : Int)) :: (66, .slice (some ⟨q, 0, none⟩) n c) :: _) _
          refine J.pr (fun hF => ?_)
          refine J.indexAddrS Ty.el68 Ty.s75 rfl rfl (by omega) (by omega) rfl ?_
          exact J.finX rfl (fun _ hw => ⟨⟨xu, uu⟩, rfl, fun _ _ _ => rfl, hF, hw⟩)
        · skip
          obtain ⟨xu, uu⟩ := x
          show J _ _ _ _ _ ((69, .pointer (some ⟨q, 0 + (((P.length + k + 1) : Nat) : Int).toNat * 35, none⟩)) :: _) _
          refine J.pr (fun hF => ?_)
          have h15 : m 15 = false := by cases h : m 15 with
            | false => rfl
            | true => rw [(hF h).1] at hm; cases hm
          refine J.conseq (I' := St w [q] ((q, cb (fC ((P ++ R.take k) ++ xe :: ye :: (R.drop (k + 1) ++ T)) ++ sp) 75) :: [])) ?_ (fun w1 hw => by simp only [h15, cond_false] at hw; exact hw)
          refine J.loadA (vs := cC ye) Ty.a75 Ty.s75 rfl rfl (fun w1 hw => rowG_at (c := cC) (sz := 35) (fun _ => rfl) (rowC_own (xs := (P ++ R.take k) ++ xe :: ye :: (R.drop (k + 1) ++ T)) hw (.head _) hnx hnc) gy (by rw [Int.toNat_natCast])) rfl ?_
          refine J.nil (JX.finB rfl (fun w1 hw => ⟨⟨⟨xu, uu⟩, rfl, fun j h1 h2 => ?_, ?_⟩, trivial⟩))
          · match j, h1 with
            | 0, _ => (first | rfl | trivial)
            | 1, _ => (first | rfl | trivial)
            | 2, _ => (first | rfl | trivial)
            | 3, _ => (first | rfl | trivial)
            | 4, _ => (first | rfl | trivial)
            | 5, _ => (first | rfl | trivial)
            | 6, _ => (first | rfl | trivial)
            | 7, _ => (first | rfl | trivial)
            | 8, _ => (first | rfl | trivial)
            | 9, _ => (first | rfl | trivial)
            | 10, _ => (first | rfl | trivial)
            | 11, _ => (first | rfl | trivial)
            | 12, _ => (first | rfl | trivial)
            | 13, _ => (first | rfl | trivial)
            | 14, _ => (first | rfl | trivial)
            | 15, _ => (first | rfl | trivial)
            | j + 16, h1 => omega
          show ((m 15 = true → true = true ∧ m 13 = true)) ∧ St w [q] ((q, cb (bif m 15 then fC (((P ++ R.take k) ++ xe :: ye :: (R.drop (k + 1) ++ T)).set ((P.length + k)) ye) ++ sp else fC ((P ++ R.take k) ++ xe :: ye :: (R.drop (k + 1) ++ T)) ++ sp) 75) :: []) w1
          simp only [h15, cond_false] at hw ⊢
          exact ⟨fun h => (by first | (rw [h15] at h; cases h) | cases h), hw⟩
        · skip
          obtain ⟨xu, uu⟩ := x
          show J _ _ _ _ _ (_) _
          refine J.pr (fun hF => ?_)
          refine J.move rfl rfl ?_
          exact J.finX rfl (fun _ hw => ⟨⟨xu, uu⟩, rfl, fun _ _ _ => rfl, hF, hw⟩)
        · skip
          obtain ⟨xu, uu⟩ := x
          show J _ _ _ _ _ (_) _
          refine J.pr (fun hF => ?_)
          refine J.move rfl rfl ?_
          exact J.finX rfl (fun _ hw => ⟨⟨xu, uu⟩, rfl, fun _ _ _ => rfl, hF, hw⟩)
        · skip
          obtain ⟨xu, uu⟩ := x
          show J _ _ _ _ _ ((72, .int .i64 (((P.length + k) : Nat) : Int)) :: (71, .slice (some ⟨q, 0, none⟩) n c) :: _) _
          refine J.pr (fun hF => ?_)
          refine J.indexAddrS Ty.el68 Ty.s75 rfl rfl (by omega) (by omega) rfl ?_
          exact J.finX rfl (fun _ hw => ⟨⟨xu, uu⟩, rfl, fun _ _ _ => rfl, hF, hw⟩)
        · skip
          obtain ⟨xu, uu⟩ := x
          show J _ _ _ _ _ ((73, .pointer (some ⟨q, 0 + (((P.length + k) : Nat) : Int).toNat * 35, none⟩)) :: _) _
          refine J.pr (fun hF => ?_)
          have h15 : m 15 = false := by cases h : m 15 with
            | false => rfl
            | true => rw [(hF h).2] at hm; cases hm
          refine J.conseq (I' := St w [q] ((q, cb (fC ((P ++ R.take k) ++ xe :: ye :: (R.drop (k + 1) ++ T)) ++ sp) 75) :: [])) ?_ (fun w1 hw => by simp only [h15, cond_false] at hw; exact hw)
          refine J.loadA (vs := cC xe) Ty.a75 Ty.s75 rfl rfl (fun w1 hw => rowG_at (c := cC) (sz := 35) (fun _ => rfl) (rowC_own (xs := (P ++ R.take k) ++ xe :: ye :: (R.drop (k + 1) ++ T)) hw (.head _) hnx hnc) gx (by rw [Int.toNat_natCast])) rfl ?_
          refine J.nil (JX.finB rfl (fun w1 hw => ⟨⟨⟨xu, uu⟩, rfl, fun j h1 h2 => ?_, ?_⟩, trivial⟩))
          · match j, h1 with
            | 0, _ => (first | rfl | trivial)
            | 1, _ => (first | rfl | trivial)
            | 2, _ => (first | rfl | trivial)
            | 3, _ => (first | rfl | trivial)
            | 4, _ => (first | rfl | trivial)
            | 5, _ => (first | rfl | trivial)
            | 6, _ => (first | rfl | trivial)
            | 7, _ => (first | rfl | trivial)
            | 8, _ => (first | rfl | trivial)
            | 9, _ => (first | rfl | trivial)
            | 10, _ => (first | rfl | trivial)
            | 11, _ => (first | rfl | trivial)
            | 12, _ => (first | rfl | trivial)
            | 13, _ => (first | rfl | trivial)
            | 14, _ => (first | rfl | trivial)
            | 15, _ => (first | rfl | trivial)
            | j + 16, h1 => omega
          show ((m 15 = true → m 9 = true ∧ true = true)) ∧ St w [q] ((q, cb (bif m 15 then fC (((P ++ R.take k) ++ xe :: ye :: (R.drop (k + 1) ++ T)).set ((P.length + k)) ye) ++ sp else fC ((P ++ R.take k) ++ xe :: ye :: (R.drop (k + 1) ++ T)) ++ sp) 75) :: []) w1
          simp only [h15, cond_false] at hw ⊢
          exact ⟨fun h => (by first | (rw [h15] at h; cases h) | cases h), hw⟩
        · skip
          obtain ⟨xu, uu⟩ := x
          show J _ _ _ _ _ ((74, .agg (cC xe).toArray) :: (70, .agg (cC ye).toArray) :: (69, .pointer (some ⟨q, 0 + (((P.length + k + 1) : Nat) : Int).toNat * 35, none⟩)) :: (68, .int .i64 (((P.length + k + 1) : Nat) : Int)) :: (67, .int .i64 (((P.length + k) : Nat) : Int)) :: (66, .slice (some ⟨q, 0, none⟩) n c) :: (62, .int .i64 (((P.length + k) : Nat) : Int)) :: (61, .slice (some ⟨q, 0, none⟩) n c) :: (62, .int .i64 (((P.length + k) : Nat) : Int)) :: (61, .slice (some ⟨q, 0, none⟩) n c) :: _) _
          have hp9 : m 9 = true := predsT hp (by kernel_rfl)
          have hp13 : m 13 = true := predsT hp (by kernel_rfl)
          refine J.pr (fun hF => ?_)
          refine J.indexAddrS Ty.el68 Ty.s75 rfl rfl (by omega) (by omega) rfl ?_
          exact J.finX rfl (fun _ hw => ⟨⟨xu, uu⟩, rfl, fun _ _ _ => rfl, hF, hw⟩)
        · skip
          obtain ⟨xu, uu⟩ := x
          show J _ _ _ _ _ ((74, .agg (cC xe).toArray) :: (70, .agg (cC ye).toArray) :: (69, .pointer (some ⟨q, 0 + (((P.length + k + 1) : Nat) : Int).toNat * 35, none⟩)) :: (68, .int .i64 (((P.length + k + 1) : Nat) : Int)) :: (67, .int .i64 (((P.length + k) : Nat) : Int)) :: (66, .slice (some ⟨q, 0, none⟩) n c) :: (62, .int .i64 (((P.length + k) : Nat) : Int)) :: (61, .slice (some ⟨q, 0, none⟩) n c) :: (70, .agg (cC ye).toArray) :: (75, .pointer (some ⟨q, 0 + (((P.length + k) : Nat) : Int).toNat * 35, none⟩)) :: _) _
          have hp9 : m 9 = true := predsT hp (by kernel_rfl)
          have hp9 : m 9 = true := predsT hp (by kernel_rfl)
          have hp13 : m 13 = true := predsT hp (by kernel_rfl)
          refine J.pr (fun hF => ?_)
          refine J.conseq (I' := St w [q] ((q, cb (fC ((P ++ R.take k) ++ xe :: ye :: (R.drop (k + 1) ++ T)) ++ sp) 75) :: [])) ?_ (fun w1 hw => by simp only [hm, cond_false] at hw; exact hw)
          refine J.storeO (cs := fC ((P ++ R.take k) ++ xe :: ye :: (R.drop (k + 1) ++ T)) ++ sp) (vs := cC ye) (l' := (q, cb (fC (((P ++ R.take k) ++ xe :: ye :: (R.drop (k + 1) ++ T)).set ((P.length + k)) ye) ++ sp) 75) :: []) Ty.s75 rfl rfl rfl rfl (one_cC _) (by rw [set_C (i := (P.length + k)) (by omega) (by rw [Int.toNat_natCast]; omega)]; exact .here) (by rw [List.length_append, fC_len, hnx]; omega) ?_
          refine J.nil (JX.finN undef (fun w1 hw => ⟨⟨xu, uu⟩, rfl, fun j h1 h2 => ?_, ?_⟩))
          · match j, h1 with
            | 0, _ => (first | rfl | trivial)
            | 1, _ => (first | rfl | trivial)
            | 2, _ => (first | rfl | trivial)
            | 3, _ => (first | rfl | trivial)
            | 4, _ => (first | rfl | trivial)
            | 5, _ => (first | rfl | trivial)
            | 6, _ => (first | rfl | trivial)
            | 7, _ => (first | rfl | trivial)
            | 8, _ => (first | rfl | trivial)
            | 9, _ => (first | rfl | trivial)
            | 10, _ => (first | rfl | trivial)
            | 11, _ => (first | rfl | trivial)
            | 12, _ => (first | rfl | trivial)
            | 13, _ => (first | rfl | trivial)
            | 14, _ => (first | rfl | trivial)
            | 15, _ => (first | rfl | trivial)
            | j + 16, h1 => omega
          show ((true = true → m 9 = true ∧ m 13 = true)) ∧ St w [q] ((q, cb (bif true then fC (((P ++ R.take k) ++ xe :: ye :: (R.drop (k + 1) ++ T)).set ((P.length + k)) ye) ++ sp else fC ((P ++ R.take k) ++ xe :: ye :: (R.drop (k + 1) ++ T)) ++ sp) 75) :: []) w1
          simp only [cond_true] at hw ⊢
          exact ⟨fun _ => ⟨hp9, hp13⟩, hw⟩
      case htail =>
        intro x
        obtain ⟨xu, uu⟩ := x
        show J _ _ _ _ _ ((75, .pointer (some ⟨q, 0 + (((P.length + k) : Nat) : Int).toNat * 35, none⟩)) :: (74, .agg (cC xe).toArray) :: (73, .pointer (some ⟨q, 0 + (((P.length + k) : Nat) : Int).toNat * 35, none⟩)) :: (72, .int .i64 (((P.length + k) : Nat) : Int)) :: (71, .slice (some ⟨q, 0, none⟩) n c) :: (70, .agg (cC ye).toArray) :: (69, .pointer (some ⟨q, 0 + (((P.length + k + 1) : Nat) : Int).toNat * 35, none⟩)) :: (68, .int .i64 (((P.length + k + 1) : Nat) : Int)) :: (67, .int .i64 (((P.length + k) : Nat) : Int)) :: (66, .slice (some ⟨q, 0, none⟩) n c) :: (65, .int .i64 (((P.length + k + 1) : Nat) : Int)) :: (64, .int .i64 (((P.length + k) : Nat) : Int)) :: (63, .slice (some ⟨q, 0, none⟩) n c) :: (62, .int .i64 (((P.length + k) : Nat) : Int)) :: (61, .slice (some ⟨q, 0, none⟩) n c) :: _) (fun w1 => ((true = true → true = true ∧ true = true)) ∧ St w [q] ((q, cb (bif true then fC (((P ++ R.take k) ++ xe :: ye :: (R.drop (k + 1) ++ T)).set ((P.length + k)) ye) ++ sp else fC ((P ++ R.take k) ++ xe :: ye :: (R.drop (k + 1) ++ T)) ++ sp) 75) :: []) w1)
        refine J.pr (fun hF => ?_)
        refine J.conseq (I' := St w [q] ((q, cb (fC (((P ++ R.take k) ++ xe :: ye :: (R.drop (k + 1) ++ T)).set ((P.length + k)) ye) ++ sp) 75) :: [])) ?_ (fun w1 hw => by simp only [cond_true] at hw; exact hw)
        refine J.indexAddrS Ty.el68 Ty.s75 rfl rfl (by omega) (by omega) rfl ?_
        refine J.storeO (cs := fC (((P ++ R.take k) ++ xe :: ye :: (R.drop (k + 1) ++ T)).set ((P.length + k)) ye) ++ sp) (vs := cC xe) (l' := (q, cb (fC ((P ++ R.take k) ++ ye :: xe :: (R.drop (k + 1) ++ T)) ++ sp) 75) :: []) Ty.s75 rfl rfl rfl rfl (one_cC _) (by rw [set_C (i := (P.length + k + 1)) (by rw [List.length_set]; omega) (by rw [Int.toNat_natCast]; omega), show P.length + k = (P ++ R.take k).length from hkl, swap_mid']; exact .here) (by rw [List.length_append, fC_len, List.length_set, hnx]; omega) ?_
        refine J.nil ?_
        refine JX.blockN ?_
        refine JX.thenN (hK13 _ _ ?_)
        refine JC.region ?_
        refine J.move rfl rfl ?_
        refine J.addN rfl rfl (by omega) (by omega) rfl ?_
        refine J.name 60 rfl (show _ = .int .i64 (((P.length + (k + 1)) : Nat) : Int) from congrArg (Value.int .i64) (by omega)) ?_
        refine J.assign rfl rfl ?_
        refine J.nil ?_
        refine JX.thenN ?_
        refine JX.again (k + 1) ?_ ?_ ?_
        · omega
        · exact ⟨rfl, rfl, rfl, trivial⟩
        · exact fun w1 hw => ⟨hlt, by rw [take_get hye]; simpa [List.append_assoc] using hw⟩
    · skip
      have hge : i = k := by
        have h9 : ¬ ((P.length + k : Int) < P.length + i) := by simpa using h3
        omega
      subst hge
      refine JC.exit ?_
      refine JX.thenE ?_
      refine JX.thenE ?_
      refine JX.blockE ?_
      refine JX.thenN (hK9 _ _ ?_)
      refine JC.ret ?_
      refine JX.thenR ?_
      refine JX.ret0 rfl (fun w1 hw => ?_)
      obtain ⟨a1, a2⟩ := ins_right swoC hR hlt1 hge1
      have hwf : St w [q] [(q, cb (fC (P ++ ((R.take i ++ xe :: R.drop i) ++ T)) ++ sp) 75)] w1 := by simpa only [List.append_assoc, List.cons_append] using hw
      exact ⟨R.take i ++ xe :: R.drop i, rfl, ⟨by rw [hLe]; exact a1, a2⟩, by simpa only [List.append_assoc, List.cons_append] using hwf⟩

set_option maxHeartbeats 4000000 in
theorem symMerge_right (q n c : Nat) (sp : List Value) (hnc : n ≤ c) (hnb : n ≤ 1099511627776) (P L R T : List CV) (w : World) (hw0 : Own w [(q, cb (fC (P ++ (L ++ (R ++ T))) ++ sp) 75)]) (hn : (P ++ (L ++ (R ++ T))).length = n) (hL0 : 0 < L.length) (hR0 : 0 < R.length) (hL : Srt ltC L) (hR : Srt ltC R) (hL2 : 2 ≤ L.length) (hR1 : R.length = 1) (IH : ∀ (P1 L1 R1 T1 : List CV) (w1 : World), Own w1 [(q, cb (fC (P1 ++ (L1 ++ (R1 ++ T1))) ++ sp) 75)] → (P1 ++ (L1 ++ (R1 ++ T1))).length = n → 0 < L1.length → 0 < R1.length → Srt ltC L1 → Srt ltC R1 → L1.length + R1.length < L.length + R.length → ∀ a m b : Nat, P1.length = a → a + L1.length = m → m + R1.length = b → Calls Try.prog 82 [.slice (some ⟨q, 0, none⟩) n c, .int .i64 ((a : Nat) : Int), .int .i64 ((m : Nat) : Int), .int .i64 ((b : Nat) : Int), .func (.func 55) #[] #[]].toArray w1 fun r w' => ∃ Z : List CV, r = .returned (.tuple #[]) ∧ (SE ltC (L1 ++ R1) Z ∧ Srt ltC Z) ∧ St w1 [q] [(q, cb (fC (P1 ++ (Z ++ T1)) ++ sp) 75)] w') :
    Calls Try.prog 82 [.slice (some ⟨q, 0, none⟩) n c, .int .i64 ((P.length : Nat) : Int), .int .i64 (((P.length + L.length) : Nat) : Int), .int .i64 (((P.length + L.length + R.length) : Nat) : Int), .func (.func 55) #[] #[]].toArray w fun r w' => ∃ Z : List CV, r = .returned (.tuple #[]) ∧ (SE ltC (L ++ R) Z ∧ Srt ltC Z) ∧ St w [q] [(q, cb (fC (P ++ (Z ++ T)) ++ sp) 75)] w' := by
  obtain ⟨ye, hRe⟩ : ∃ x, R = [x] := List.length_eq_one_iff.1 hR1
  have gy : (P ++ (L ++ (R ++ T)))[P.length + L.length]? = some ye := by have := get_R (P := P) (R := R) (T := T) (L := L) (i := 0) (x := ye) (by rw [hRe]; rfl); exact this
  have hPn : P.length + L.length + R.length + T.length = n := by simp only [List.length_append] at hn; omega
  refine calls_of_J (args := [.slice (some ⟨q, 0, none⟩) n c, .int .i64 ((P.length : Nat) : Int), .int .i64 (((P.length + L.length) : Nat) : Int), .int .i64 (((P.length + L.length + R.length) : Nat) : Int), .func (.func 55) #[] #[]]) (e := [(0, .slice (some ⟨q, 0, none⟩) n c), (1, .int .i64 ((P.length : Nat) : Int)), (2, .int .i64 (((P.length + L.length) : Nat) : Int)), (3, .int .i64 (((P.length + L.length + R.length) : Nat) : Int)), (4, .func (.func 55) #[] #[])]) Try.func82 rfl rfl ⟨rfl, rfl, rfl, rfl, rfl, trivial⟩ (hw0.st) ?_
  refine JC.seq (fun K0 hK0 => ?_)
  refine JC.seq (fun K1 hK1 => ?_)
  refine JC.region ?_
  refine J.move rfl rfl ?_
  refine J.move rfl rfl ?_
  refine J.subN rfl rfl (by omega) (by omega) rfl ?_
  refine J.name 27 rfl (show _ = Value.int .i64 ((L.length : Nat) : Int) from congrArg (Value.int .i64) (by omega)) ?_
  refine J.bin rfl rfl rfl rfl ?_
  refine J.name 28 rfl (show _ = Value.bool false by simp; omega) ?_
  refine J.nil ?_
  refine JX.thenN (hK1 _ _ ?_)
  first | refine JC.condF rfl ?_ | refine JC.cond rfl (fun h => by first | (exfalso; simp at h; omega) | (simp at h)) (fun _ => ?_)
  refine JC.skip ?_
  refine JX.thenN (hK0 _ _ ?_)
  refine JC.seq (fun K2 hK2 => ?_)
  refine JC.seq (fun K3 hK3 => ?_)
  refine JC.region ?_
  refine J.move rfl rfl ?_
  refine J.move rfl rfl ?_
  refine J.subN rfl rfl (by omega) (by omega) rfl ?_
  refine J.name 79 rfl (show _ = Value.int .i64 ((R.length : Nat) : Int) from congrArg (Value.int .i64) (by omega)) ?_
  refine J.bin rfl rfl rfl rfl ?_
  refine J.name 80 rfl (show _ = Value.bool true by simp; omega) ?_
  refine J.nil ?_
  refine JX.thenN (hK3 _ _ ?_)
  first | refine JC.condT rfl ?_ | refine JC.cond rfl (fun _ => ?_) (fun h => by first | (exfalso; simp at h; omega) | (simp at h))
  refine JC.seq (fun K4 hK4 => ?_)
  refine JC.region ?_
  refine J.move rfl rfl ?_
  refine J.assign rfl rfl ?_
  refine J.nil ?_
  refine JX.thenN (hK4 _ _ ?_)
  refine JC.seq (fun K5 hK5 => ?_)
  refine JC.region ?_
  refine J.move rfl rfl ?_
  refine J.assign rfl rfl ?_
  refine J.nil ?_
  refine JX.thenN (hK5 _ _ ?_)
  refine JC.seq (fun K6 hK6 => ?_)
  refine JC.block ?_
  refine JC.conseq (JC.cov (f := (fun st => [(0, .slice (some ⟨q, 0, none⟩) n c), (1, .int .i64 ((P.length : Nat) : Int)), (2, .int .i64 (((P.length + L.length) : Nat) : Int)), (3, .int .i64 (((P.length + L.length + R.length) : Nat) : Int)), (4, .func (.func 55) #[] #[]), (14, .int .i64 (((P.length + st.1) : Nat) : Int)), (15, .int .i64 (((P.length + st.2) : Nat) : Int))]) ((0, L.length) : Nat × Nat)) ⟨rfl, rfl, rfl, rfl, rfl, rfl, rfl, trivial⟩ (JC.loop (α := Nat × Nat) (fun st => [(0, .slice (some ⟨q, 0, none⟩) n c), (1, .int .i64 ((P.length : Nat) : Int)), (2, .int .i64 (((P.length + L.length) : Nat) : Int)), (3, .int .i64 (((P.length + L.length + R.length) : Nat) : Int)), (4, .func (.func 55) #[] #[]), (14, .int .i64 (((P.length + st.1) : Nat) : Int)), (15, .int .i64 (((P.length + st.2) : Nat) : Int))]) (fun st w' => (st.1 ≤ st.2 ∧ st.2 ≤ L.length ∧ (∀ x, x ∈ L.take st.1 → ¬ ltC ye x) ∧ ∀ x, x ∈ L.drop st.2 → ltC ye x) ∧ St w [q] [(q, cb (fC (P ++ (L ++ (R ++ T))) ++ sp) 75)] w') (fun st => st.2 - st.1) ((0, L.length) : Nat × Nat) (fun st => ?_))) (fun w hw => ⟨⟨Nat.zero_le _, Nat.le_refl _, by simp, by simp⟩, hw⟩)
  obtain ⟨i, j⟩ := st
  refine JC.pr (fun hI => ?_)
  obtain ⟨hij, hjL, hle1, hgt1⟩ := hI
  try simp only at hij hjL hle1 hgt1 ⊢
  refine JC.seq (fun K7 hK7 => ?_)
  refine JC.seq (fun K8 hK8 => ?_)
  refine JC.region ?_
  refine J.move rfl rfl ?_
  refine J.move rfl rfl ?_
  refine J.bin rfl rfl rfl rfl ?_
  refine J.nil ?_
  refine JX.thenN (hK8 _ _ ?_)
  refine JC.cond rfl (fun h5 => ?_) (fun h5 => ?_)
  · skip
    have hlt : i < j := by
      have h9 : (P.length + i : Int) < P.length + j := by simpa using h5
      omega
    obtain ⟨h, hh1, hh2, hh3⟩ : ∃ h, (P.length + i + (P.length + j)) / 2 = P.length + h ∧ i ≤ h ∧ h < j := ⟨(i + j) / 2, by omega, by omega, by omega⟩
    obtain ⟨xe, hxe⟩ : ∃ y, L[h]? = some y := ⟨_, List.getElem?_eq_getElem (by omega)⟩
    have gx := get_L (P := P) (R := R) (T := T) hxe
    refine JC.skip ?_
    refine JX.thenN (hK7 _ _ ?_)
    refine JC.block ?_
    refine JC.seq (fun K9 hK9 => ?_)
    refine JC.region ?_
    refine J.move rfl rfl ?_
    refine J.move rfl rfl ?_
    refine J.addN rfl rfl (by omega) (by omega) rfl ?_
    refine J.name 88 rfl (show _ = .int .i64 (((P.length + i + (P.length + j)) : Nat) : Int) from congrArg (Value.int .i64) (by omega)) ?_
    refine J.convInt Ty.u3 Ty.u31 rfl rfl ?_
    refine J.name 89 rfl (show _ = Value.int .u64 (((P.length + i + (P.length + j)) : Nat) : Int) from congrArg (Value.int .u64) (wrap_u64 (by omega) (by omega))) ?_
    refine J.shrN rfl rfl (by omega) rfl ?_
    refine J.name 90 rfl (show _ = Value.int .u64 (((P.length + h) : Nat) : Int) from congrArg (Value.int .u64) ((half_val (P.length + i + (P.length + j))).trans (congrArg (fun k : Nat => ((k : Nat) : Int)) hh1))) ?_
    refine J.convInt Ty.u31 Ty.u3 rfl rfl ?_
    refine J.name 91 rfl (show _ = .int .i64 (((P.length + h) : Nat) : Int) from congrArg (Value.int .i64) (wrap_i64 (by omega) (by omega))) ?_
    refine J.assign rfl rfl ?_
    refine J.nil ?_
    refine JX.thenN (hK9 _ _ ?_)
    refine JC.seq (fun K10 hK10 => ?_)
    apply JC.drawX (α := Nat × Unit) 12 (fun x => match x with | ⟨xu, uu⟩ => [.func (.func 55) #[] #[], .slice (some ⟨q, 0, none⟩) n c, .int .i64 (((P.length + L.length) : Nat) : Int), .pointer (some ⟨q, 0 + (((P.length + L.length) : Nat) : Int).toNat * 35, none⟩), .agg (cC ye).toArray, .slice (some ⟨q, 0, none⟩) n c, .int .i64 (((P.length + h) : Nat) : Int), .pointer (some ⟨q, 0 + (((P.length + h) : Nat) : Int).toNat * 35, none⟩), .agg (cC xe).toArray, .int .i64 (ordC ye xe), .bool (decide (ltC ye xe)), .bool (!decide (ltC ye xe))]) (fun m x => match x with | ⟨xu, uu⟩ => fun w1 => (True) ∧ St w [q] ((q, cb (fC (P ++ (L ++ (R ++ T))) ++ sp) 75) :: []) w1) Ty.mixed rfl rfl rfl (by kernel_rfl) rfl rfl ?hinit ?hstep ?htail
    case hinit => exact fun w1 hw => ⟨(0, ()), trivial, hw.drew⟩
    case hstep =>
      refine ⟨fun m x hm hp => ?_, fun m x hm hp => ?_, fun m x hm hp => ?_, fun m x hm hp => ?_, fun m x hm hp => ?_, fun m x hm hp => ?_, fun m x hm hp => ?_, fun m x hm hp => ?_, fun m x hm hp => ?_, fun m x hm hp => ?_, fun m x hm hp => ?_, fun m x hm hp => ?_, trivial⟩
      · skip
        obtain ⟨xu, uu⟩ := x
        show J _ _ _ _ _ (_) _
        refine J.pr (fun hF => ?_)
        refine J.move rfl rfl ?_
        exact J.finX rfl (fun _ hw => ⟨⟨xu, uu⟩, rfl, fun _ _ _ => rfl, hF, hw⟩)
      · skip
        obtain ⟨xu, uu⟩ := x
        show J _ _ _ _ _ (_) _
        refine J.pr (fun hF => ?_)
        refine J.move rfl rfl ?_
        exact J.finX rfl (fun _ hw => ⟨⟨xu, uu⟩, rfl, fun _ _ _ => rfl, hF, hw⟩)
      · skip
        obtain ⟨xu, uu⟩ := x
        show J _ _ _ _ _ (_) _
        refine J.pr (fun hF => ?_)
        refine J.move rfl rfl ?_
        exact J.finX rfl (fun _ hw => ⟨⟨xu, uu⟩, rfl, fun _ _ _ => rfl, hF, hw⟩)
      · skip
        obtain ⟨xu, uu⟩ := x
        show J _ _ _ _ _ ((94, .int .i64 (((P.length + L.length) : Nat) : Int)) :: (93, .slice (some ⟨q, 0, none⟩) n c) :: _) _
        refine J.pr (fun hF => ?_)
        refine J.indexAddrS Ty.el68 Ty.s75 rfl rfl (by omega) (by omega) rfl ?_
        exact J.finX rfl (fun _ hw => ⟨⟨xu, uu⟩, rfl, fun _ _ _ => rfl, hF, hw⟩)
      · skip
        obtain ⟨xu, uu⟩ := x
        show J _ _ _ _ _ ((95, .pointer (some ⟨q, 0 + (((P.length + L.length) : Nat) : Int).toNat * 35, none⟩)) :: _) _
        refine J.pr (fun hF => ?_)
        refine J.loadA (vs := cC ye) Ty.a75 Ty.s75 rfl rfl (fun w1 hw => rowG_at (c := cC) (sz := 35) (fun _ => rfl) (rowC_own (xs := P ++ (L ++ (R ++ T))) hw (.head _) hn hnc) gy (by rw [Int.toNat_natCast])) rfl ?_
        exact J.finX rfl (fun _ hw => ⟨⟨xu, uu⟩, rfl, fun _ _ _ => rfl, hF, hw⟩)
      · skip
        obtain ⟨xu, uu⟩ := x
        show J _ _ _ _ _ (_) _
        refine J.pr (fun hF => ?_)
        refine J.move rfl rfl ?_
        exact J.finX rfl (fun _ hw => ⟨⟨xu, uu⟩, rfl, fun _ _ _ => rfl, hF, hw⟩)
      · skip
        obtain ⟨xu, uu⟩ := x
        show J _ _ _ _ _ (_) _
        refine J.pr (fun hF => ?_)
        refine J.move rfl rfl ?_
        exact J.finX rfl (fun _ hw => ⟨⟨xu, uu⟩, rfl, fun _ _ _ => rfl, hF, hw⟩)
      · skip
        obtain ⟨xu, uu⟩ := x
        show J _ _ _ _ _ ((98, .int .i64 (((P.length + h) : Nat) : Int)) :: (97, .slice (some ⟨q, 0, none⟩) n c) :: _) _
        refine J.pr (fun hF => ?_)
        refine J.indexAddrS Ty.el68 Ty.s75 rfl rfl (by omega) (by omega) rfl ?_
        exact J.finX rfl (fun _ hw => ⟨⟨xu, uu⟩, rfl, fun _ _ _ => rfl, hF, hw⟩)
      · skip
        obtain ⟨xu, uu⟩ := x
        show J _ _ _ _ _ ((99, .pointer (some ⟨q, 0 + (((P.length + h) : Nat) : Int).toNat * 35, none⟩)) :: _) _
        refine J.pr (fun hF => ?_)
        refine J.loadA (vs := cC xe) Ty.a75 Ty.s75 rfl rfl (fun w1 hw => rowG_at (c := cC) (sz := 35) (fun _ => rfl) (rowC_own (xs := P ++ (L ++ (R ++ T))) hw (.head _) hn hnc) gx (by rw [Int.toNat_natCast])) rfl ?_
        exact J.finX rfl (fun _ hw => ⟨⟨xu, uu⟩, rfl, fun _ _ _ => rfl, hF, hw⟩)
      · skip
        obtain ⟨xu, uu⟩ := x
        show J _ _ _ _ _ ((100, .agg (cC xe).toArray) :: (96, .agg (cC ye).toArray) :: (92, .func (.func 55) #[] #[]) :: _) _
        refine J.pr (fun hF => ?_)
        refine J.callVB (v := .int .i64 (ordC ye xe)) (fun w1 w2 hw hb => hw.step hb) Ty.bd55 rfl rfl rfl (fun w1 hw => order_spec ye xe w1) ?_
        exact J.finX rfl (fun _ hw => ⟨⟨xu, uu⟩, rfl, fun _ _ _ => rfl, hF, hw⟩)
      · skip
        obtain ⟨xu, uu⟩ := x
        show J _ _ _ _ _ ((101, .int .i64 (ordC ye xe)) :: _) _
        refine J.pr (fun hF => ?_)
        refine J.bin rfl rfl rfl rfl ?_
        refine J.name 102 rfl (show _ = Value.bool (decide (ltC ye xe)) from rfl) ?_
        exact J.finX rfl (fun _ hw => ⟨⟨xu, uu⟩, rfl, fun _ _ _ => rfl, hF, hw⟩)
      · skip
        obtain ⟨xu, uu⟩ := x
        show J _ _ _ _ _ ((102, .bool (decide (ltC ye xe))) :: _) _
        refine J.pr (fun hF => ?_)
        refine J.not rfl rfl ?_
        exact J.finX rfl (fun _ hw => ⟨⟨xu, uu⟩, rfl, fun _ _ _ => rfl, hF, hw⟩)
    case htail =>
      intro x
      obtain ⟨xu, uu⟩ := x
      show J _ _ _ _ _ ((103, .bool (!decide (ltC ye xe))) :: (102, .bool (decide (ltC ye xe))) :: (101, .int .i64 (ordC ye xe)) :: (100, .agg (cC xe).toArray) :: (99, .pointer (some ⟨q, 0 + (((P.length + h) : Nat) : Int).toNat * 35, none⟩)) :: (98, .int .i64 (((P.length + h) : Nat) : Int)) :: (97, .slice (some ⟨q, 0, none⟩) n c) :: (96, .agg (cC ye).toArray) :: (95, .pointer (some ⟨q, 0 + (((P.length + L.length) : Nat) : Int).toNat * 35, none⟩)) :: (94, .int .i64 (((P.length + L.length) : Nat) : Int)) :: (93, .slice (some ⟨q, 0, none⟩) n c) :: (92, .func (.func 55) #[] #[]) :: _) (fun w1 => (True) ∧ St w [q] ((q, cb (fC (P ++ (L ++ (R ++ T))) ++ sp) 75) :: []) w1)
      refine J.pr (fun hF => ?_)
      refine J.nil ?_
      refine JX.thenN (hK10 _ _ ?_)
      refine JC.cond rfl (fun h6 => ?_) (fun h6 => ?_)
      · skip
        have hcmp : ¬ ltC ye xe := by simpa using h6
        refine JC.region ?_
        refine J.move rfl rfl ?_
        refine J.addN rfl rfl (by omega) (by omega) rfl ?_
        refine J.name 105 rfl (show _ = .int .i64 (((P.length + (h + 1)) : Nat) : Int) from congrArg (Value.int .i64) (by omega)) ?_
        refine J.assign rfl rfl ?_
        refine J.nil ?_
        refine JX.blockN ?_
        refine JX.thenN ?_
        refine JX.again ((h + 1, j) : Nat × Nat) ?_ ?_ ?_
        · simp only; omega
        · exact ⟨rfl, rfl, rfl, rfl, rfl, rfl, rfl, trivial⟩
        · exact fun w1 hw => ⟨⟨by show _ ≤ _; omega, by show _ ≤ _; omega, all_le hL hxe hcmp, hgt1⟩, hw⟩
      · skip
        have hcmp : ltC ye xe := by simpa using h6
        refine JC.region ?_
        refine J.move rfl rfl ?_
        refine J.assign rfl rfl ?_
        refine J.nil ?_
        refine JX.blockN ?_
        refine JX.thenN ?_
        refine JX.again ((i, h) : Nat × Nat) ?_ ?_ ?_
        · simp only; omega
        · exact ⟨rfl, rfl, rfl, rfl, rfl, rfl, rfl, trivial⟩
        · exact fun w1 hw => ⟨⟨by show _ ≤ _; omega, by show _ ≤ _; omega, hle1, all_gt hL hxe hcmp⟩, hw⟩
  · skip
    have hge : i = j := by
      have h9 : ¬ ((P.length + i : Int) < P.length + j) := by simpa using h5
      omega
    subst hge
    refine JC.exit ?_
    refine JX.thenE ?_
    refine JX.thenE ?_
    refine JX.blockE ?_
    refine JX.thenN (hK6 _ _ ?_)
    refine JC.seq (fun K11 hK11 => ?_)
    refine JC.seq (fun K12 hK12 => ?_)
    refine JC.region ?_
    refine J.move rfl rfl ?_
    refine J.assign rfl rfl ?_
    refine J.nil ?_
    refine JX.thenN (hK12 _ _ ?_)
    refine JC.block ?_
    refine JC.conseq (JC.cov (f := (fun k => [(0, .slice (some ⟨q, 0, none⟩) n c), (14, .int .i64 (((P.length + i) : Nat) : Int)), (17, .int .i64 (((P.length + k) : Nat) : Int))]) L.length) ⟨rfl, rfl, rfl, trivial⟩ (JC.loop (α := Nat) (fun k => [(0, .slice (some ⟨q, 0, none⟩) n c), (14, .int .i64 (((P.length + i) : Nat) : Int)), (17, .int .i64 (((P.length + k) : Nat) : Int))]) (fun k w' => (i ≤ k ∧ k ≤ L.length) ∧ St w [q] [(q, cb (fC ((P ++ L.take k) ++ ye :: (L.drop k ++ T)) ++ sp) 75)] w') (fun k => k) L.length (fun k => ?_))) (fun w hw => ⟨⟨by omega, Nat.le_refl _⟩, by rw [hRe] at hw; rw [List.take_length, List.drop_length]; simpa [List.append_assoc] using hw⟩)
    refine JC.pr (fun hk => ?_)
    refine JC.seq (fun K13 hK13 => ?_)
    refine JC.seq (fun K14 hK14 => ?_)
    refine JC.region ?_
    refine J.move rfl rfl ?_
    refine J.move rfl rfl ?_
    refine J.bin rfl rfl rfl rfl ?_
    refine J.nil ?_
    refine JX.thenN (hK14 _ _ ?_)
    refine JC.cond rfl (fun h7 => ?_) (fun h7 => ?_)
    · skip
      have hlt : i < k := by
        have h9 : (P.length + i : Int) < P.length + k := by simpa using h7
        omega
      obtain ⟨k0, rfl⟩ : ∃ k0, k = k0 + 1 := ⟨k - 1, by omega⟩
      obtain ⟨xe, hxk⟩ : ∃ y, L[k0]? = some y := ⟨_, List.getElem?_eq_getElem (by omega)⟩
      have hkl : P.length + k0 = (P ++ L.take k0).length := by rw [List.length_append, List.length_take]; omega
      rw [take_get hxk]
      have hnx : ((P ++ L.take k0) ++ xe :: ye :: (L.drop (k0 + 1) ++ T)).length = n := by simp only [List.length_append, List.length_cons, List.length_take, List.length_drop]; omega
      have gx : ((P ++ L.take k0) ++ xe :: ye :: (L.drop (k0 + 1) ++ T))[P.length + k0]? = some xe := by rw [hkl]; exact get_mid _ _ _
      have gy : ((P ++ L.take k0) ++ xe :: ye :: (L.drop (k0 + 1) ++ T))[P.length + k0 + 1]? = some ye := by rw [hkl]; exact get_mid2 _ _ _ _
      refine JC.conseq (I' := St w [q] [(q, cb (fC ((P ++ L.take k0) ++ xe :: ye :: (L.drop (k0 + 1) ++ T)) ++ sp) 75)]) ?_ (fun w1 hw => by simpa [List.append_assoc] using hw)
      refine JC.skip ?_
      refine JX.thenN (hK13 _ _ ?_)
      refine JC.seq (fun K15 hK15 => ?_)
      refine JC.block ?_
      apply JC.drawX (α := Nat × Unit) 16 (fun x => match x with | ⟨xu, uu⟩ => [.slice (some ⟨q, 0, none⟩) n c, .int .i64 (((P.length + k0 + 1) : Nat) : Int), .slice (some ⟨q, 0, none⟩) n c, .int .i64 (((P.length + k0 + 1) : Nat) : Int), .int .i64 (((P.length + k0) : Nat) : Int), .slice (some ⟨q, 0, none⟩) n c, .int .i64 (((P.length + k0 + 1) : Nat) : Int), .int .i64 (((P.length + k0) : Nat) : Int), .pointer (some ⟨q, 0 + (((P.length + k0) : Nat) : Int).toNat * 35, none⟩), .agg (cC xe).toArray, .slice (some ⟨q, 0, none⟩) n c, .int .i64 (((P.length + k0 + 1) : Nat) : Int), .pointer (some ⟨q, 0 + (((P.length + k0 + 1) : Nat) : Int).toNat * 35, none⟩), .agg (cC ye).toArray, .pointer (some ⟨q, 0 + (((P.length + k0 + 1) : Nat) : Int).toNat * 35, none⟩), undef]) (fun m x => match x with | ⟨xu, uu⟩ => fun w1 => ((m 15 = true → m 9 = true ∧ m 13 = true)) ∧ St w [q] ((q, cb (bif m 15 then fC (((P ++ L.take k0) ++ xe :: ye :: (L.drop (k0 + 1) ++ T)).set ((P.length + k0 + 1)) xe) ++ sp else fC ((P ++ L.take k0) ++ xe :: ye :: (L.drop (k0 + 1) ++ T)) ++ sp) 75) :: []) w1) Ty.mixed rfl rfl rfl (by kernel_rfl) rfl rfl ?hinit ?hstep ?htail
      case hinit => exact fun w1 hw => ⟨(0, ()), fun h => (by cases h), hw.drew⟩
      case hstep =>
        refine ⟨fun m x hm hp => ?_, fun m x hm hp => ?_, fun m x hm hp => ?_, fun m x hm hp => ?_, fun m x hm hp => ?_, fun m x hm hp => ?_, fun m x hm hp => ?_, fun m x hm hp => ?_, fun m x hm hp => ?_, fun m x hm hp => ?_, fun m x hm hp => ?_, fun m x hm hp => ?_, fun m x hm hp => ?_, fun m x hm hp => ?_, fun m x hm hp => ?_, fun m x hm hp => ?_, trivial⟩
        · skip
          obtain ⟨xu, uu⟩ := x
          show J _ _ _ _ _ (_) _
          refine J.pr (fun hF => ?_)
          refine J.move rfl rfl ?_
          exact J.finX rfl (fun _ hw => ⟨⟨xu, uu⟩, rfl, fun _ _ _ => rfl, hF, hw⟩)
        · skip
          obtain ⟨xu, uu⟩ := x
          show J _ _ _ _ _ (_) _
          refine J.pr (fun hF => ?_)
          refine J.move rfl rfl ?_
          exact J.finX rfl (fun _ hw => ⟨⟨xu, uu⟩, rfl, fun _ _ _ => rfl, hF, hw⟩)
        · skip
          obtain ⟨xu, uu⟩ := x
          show J _ _ _ _ _ (_) _
          refine J.pr (fun hF => ?_)
          refine J.move rfl rfl ?_
          exact J.finX rfl (fun _ hw => ⟨⟨xu, uu⟩, rfl, fun _ _ _ => rfl, hF, hw⟩)
        · skip
          obtain ⟨xu, uu⟩ := x
          show J _ _ _ _ _ (_) _
          refine J.pr (fun hF => ?_)
          refine J.move rfl rfl ?_
          exact J.finX rfl (fun _ hw => ⟨⟨xu, uu⟩, rfl, fun _ _ _ => rfl, hF, hw⟩)
        · skip
          obtain ⟨xu, uu⟩ := x
          show J _ _ _ _ _ ((116, .int .i64 (((P.length + k0 + 1) : Nat) : Int)) :: _) _
          refine J.pr (fun hF => ?_)
          refine J.subN rfl rfl (by omega) (by omega) rfl ?_
          refine J.name 117 rfl (show _ = Value.int .i64 (((P.length + k0) : Nat) : Int) from congrArg (Value.int .i64) (by omega)) ?_
          exact J.finX rfl (fun _ hw => ⟨⟨xu, uu⟩, rfl, fun _ _ _ => rfl, hF, hw⟩)
        · skip
          obtain ⟨xu, uu⟩ := x
          show J _ _ _ _ _ (_) _
          refine J.pr (fun hF => ?_)
          refine J.move rfl rfl ?_
          exact J.finX rfl (fun _ hw => ⟨⟨xu, uu⟩, rfl, fun _ _ _ => rfl, hF, hw⟩)
        · skip
          obtain ⟨xu, uu⟩ := x
          show J _ _ _ _ _ (_) _
          refine J.pr (fun hF => ?_)
          refine J.move rfl rfl ?_
          exact J.finX rfl (fun _ hw => ⟨⟨xu, uu⟩, rfl, fun _ _ _ => rfl, hF, hw⟩)
        · skip
          obtain ⟨xu, uu⟩ := x
          show J _ _ _ _ _ ((119, .int .i64 (((P.length + k0 + 1) : Nat) : Int)) :: _) _
          refine J.pr (fun hF => ?_)
          refine J.subN rfl rfl (by omega) (by omega) rfl ?_
          refine J.name 120 rfl (show _ = Value.int .i64 (((P.length + k0) : Nat) : Int) from congrArg (Value.int .i64) (by omega)) ?_
          exact J.finX rfl (fun _ hw => ⟨⟨xu, uu⟩, rfl, fun _ _ _ => rfl, hF, hw⟩)
        · skip
          obtain ⟨xu, uu⟩ := x
          show J _ _ _ _ _ ((120, .int .i64 (((P.length + k0) : Nat) : Int)) :: (118, .slice (some ⟨q, 0, none⟩) n c) :: _) _
          refine J.pr (fun hF => ?_)
          refine J.indexAddrS Ty.el68 Ty.s75 rfl rfl (by omega) (by omega) rfl ?_
          exact J.finX rfl (fun _ hw => ⟨⟨xu, uu⟩, rfl, fun _ _ _ => rfl, hF, hw⟩)
        · skip
          obtain ⟨xu, uu⟩ := x
          show J _ _ _ _ _ ((121, .pointer (some ⟨q, 0 + (((P.length + k0) : Nat) : Int).toNat * 35, none⟩)) :: _) _
          refine J.pr (fun hF => ?_)
          have h15 : m 15 = false := by cases h : m 15 with
            | false => rfl
            | true => rw [(hF h).1] at hm; cases hm
          refine J.conseq (I' := St w [q] ((q, cb (fC ((P ++ L.take k0) ++ xe :: ye :: (L.drop (k0 + 1) ++ T)) ++ sp) 75) :: [])) ?_ (fun w1 hw => by simp only [h15, cond_false] at hw; exact hw)
          refine J.loadA (vs := cC xe) Ty.a75 Ty.s75 rfl rfl (fun w1 hw => rowG_at (c := cC) (sz := 35) (fun _ => rfl) (rowC_own (xs := (P ++ L.take k0) ++ xe :: ye :: (L.drop (k0 + 1) ++ T)) hw (.head _) hnx hnc) gx (by rw [Int.toNat_natCast])) rfl ?_
          refine J.nil (JX.finB rfl (fun w1 hw => ⟨⟨⟨xu, uu⟩, rfl, fun j h1 h2 => ?_, ?_⟩, trivial⟩))
          · match j, h1 with
            | 0, _ => (first | rfl | trivial)
            | 1, _ => (first | rfl | trivial)
            | 2, _ => (first | rfl | trivial)
            | 3, _ => (first | rfl | trivial)
            | 4, _ => (first | rfl | trivial)
            | 5, _ => (first | rfl | trivial)
            | 6, _ => (first | rfl | trivial)
            | 7, _ => (first | rfl | trivial)
            | 8, _ => (first | rfl | trivial)
            | 9, _ => (first | rfl | trivial)
            | 10, _ => (first | rfl | trivial)
            | 11, _ => (first | rfl | trivial)
            | 12, _ => (first | rfl | trivial)
            | 13, _ => (first | rfl | trivial)
            | 14, _ => (first | rfl | trivial)
            | 15, _ => (first | rfl | trivial)
            | j + 16, h1 => omega
          show ((m 15 = true → true = true ∧ m 13 = true)) ∧ St w [q] ((q, cb (bif m 15 then fC (((P ++ L.take k0) ++ xe :: ye :: (L.drop (k0 + 1) ++ T)).set ((P.length + k0 + 1)) xe) ++ sp else fC ((P ++ L.take k0) ++ xe :: ye :: (L.drop (k0 + 1) ++ T)) ++ sp) 75) :: []) w1
          simp only [h15, cond_false] at hw ⊢
          exact ⟨fun h => (by first | (rw [h15] at h; cases h) | cases h), hw⟩
        · skip
          obtain ⟨xu, uu⟩ := x
          show J _ _ _ _ _ (_) _
          refine J.pr (fun hF => ?_)
          refine J.move rfl rfl ?_
          exact J.finX rfl (fun _ hw => ⟨⟨xu, uu⟩, rfl, fun _ _ _ => rfl, hF, hw⟩)
        · skip
          obtain ⟨xu, uu⟩ := x
          show J _ _ _ _ _ (_) _
          refine J.pr (fun hF => ?_)
          refine J.move rfl rfl ?_
          exact J.finX rfl (fun _ hw => ⟨⟨xu, uu⟩, rfl, fun _ _ _ => rfl, hF, hw⟩)
        · skip
          obtain ⟨xu, uu⟩ := x
          show J _ _ _ _ _ ((124, .int .i64 (((P.length + k0 + 1) : Nat) : Int)) :: (123, .slice (some ⟨q, 0, none⟩) n c) :: _) _
          refine J.pr (fun hF => ?_)
          refine J.indexAddrS Ty.el68 Ty.s75 rfl rfl (by omega) (by omega) rfl ?_
          exact J.finX rfl (fun _ hw => ⟨⟨xu, uu⟩, rfl, fun _ _ _ => rfl, hF, hw⟩)
        · skip
          obtain ⟨xu, uu⟩ := x
          show J _ _ _ _ _ ((125, .pointer (some ⟨q, 0 + (((P.length + k0 + 1) : Nat) : Int).toNat * 35, none⟩)) :: _) _
          refine J.pr (fun hF => ?_)
          have h15 : m 15 = false := by cases h : m 15 with
            | false => rfl
            | true => rw [(hF h).2] at hm; cases hm
          refine J.conseq (I' := St w [q] ((q, cb (fC ((P ++ L.take k0) ++ xe :: ye :: (L.drop (k0 + 1) ++ T)) ++ sp) 75) :: [])) ?_ (fun w1 hw => by simp only [h15, cond_false] at hw; exact hw)
          refine J.loadA (vs := cC ye) Ty.a75 Ty.s75 rfl rfl (fun w1 hw => rowG_at (c := cC) (sz := 35) (fun _ => rfl) (rowC_own (xs := (P ++ L.take k0) ++ xe :: ye :: (L.drop (k0 + 1) ++ T)) hw (.head _) hnx hnc) gy (by rw [Int.toNat_natCast])) rfl ?_
          refine J.nil (JX.finB rfl (fun w1 hw => ⟨⟨⟨xu, uu⟩, rfl, fun j h1 h2 => ?_, ?_⟩, trivial⟩))
          · match j, h1 with
            | 0, _ => (first | rfl | trivial)
            | 1, _ => (first | rfl | trivial)
            | 2, _ => (first | rfl | trivial)
            | 3, _ => (first | rfl | trivial)
            | 4, _ => (first | rfl | trivial)
            | 5, _ => (first | rfl | trivial)
            | 6, _ => (first | rfl | trivial)
            | 7, _ => (first | rfl | trivial)
            | 8, _ => (first | rfl | trivial)
            | 9, _ => (first | rfl | trivial)
            | 10, _ => (first | rfl | trivial)
            | 11, _ => (first | rfl | trivial)
            | 12, _ => (first | rfl | trivial)
            | 13, _ => (first | rfl | trivial)
            | 14, _ => (first | rfl | trivial)
            | 15, _ => (first | rfl | trivial)
            | j + 16, h1 => omega
          show ((m 15 = true → m 9 = true ∧ true = true)) ∧ St w [q] ((q, cb (bif m 15 then fC (((P ++ L.take k0) ++ xe :: ye :: (L.drop (k0 + 1) ++ T)).set ((P.length + k0 + 1)) xe) ++ sp else fC ((P ++ L.take k0) ++ xe :: ye :: (L.drop (k0 + 1) ++ T)) ++ sp) 75) :: []) w1
          simp only [h15, cond_false] at hw ⊢
          exact ⟨fun h => (by first | (rw [h15] at h; cases h) | cases h), hw⟩
        · skip
          obtain ⟨xu, uu⟩ := x
          show J _ _ _ _ _ ((126, .agg (cC ye).toArray) :: (122, .agg (cC xe).toArray) :: (121, .pointer (some ⟨q, 0 + (((P.length + k0) : Nat) : Int).toNat * 35, none⟩)) :: (120, .int .i64 (((P.length + k0) : Nat) : Int)) :: (119, .int .i64 (((P.length + k0 + 1) : Nat) : Int)) :: (118, .slice (some ⟨q, 0, none⟩) n c) :: (114, .int .i64 (((P.length + k0 + 1) : Nat) : Int)) :: (113, .slice (some ⟨q, 0, none⟩) n c) :: (114, .int .i64 (((P.length + k0 + 1) : Nat) : Int)) :: (113, .slice (some ⟨q, 0, none⟩) n c) :: _) _
          have hp9 : m 9 = true := predsT hp (by kernel_rfl)
          have hp13 : m 13 = true := predsT hp (by kernel_rfl)
          refine J.pr (fun hF => ?_)
          refine J.indexAddrS Ty.el68 Ty.s75 rfl rfl (by omega) (by omega) rfl ?_
          exact J.finX rfl (fun _ hw => ⟨⟨xu, uu⟩, rfl, fun _ _ _ => rfl, hF, hw⟩)
        · skip
          obtain ⟨xu, uu⟩ := x
          show J _ _ _ _ _ ((126, .agg (cC ye).toArray) :: (122, .agg (cC xe).toArray) :: (121, .pointer (some ⟨q, 0 + (((P.length + k0) : Nat) : Int).toNat * 35, none⟩)) :: (120, .int .i64 (((P.length + k0) : Nat) : Int)) :: (119, .int .i64 (((P.length + k0 + 1) : Nat) : Int)) :: (118, .slice (some ⟨q, 0, none⟩) n c) :: (114, .int .i64 (((P.length + k0 + 1) : Nat) : Int)) :: (113, .slice (some ⟨q, 0, none⟩) n c) :: (122, .agg (cC xe).toArray) :: (127, .pointer (some ⟨q, 0 + (((P.length + k0 + 1) : Nat) : Int).toNat * 35, none⟩)) :: _) _
          have hp9 : m 9 = true := predsT hp (by kernel_rfl)
          have hp9 : m 9 = true := predsT hp (by kernel_rfl)
          have hp13 : m 13 = true := predsT hp (by kernel_rfl)
          refine J.pr (fun hF => ?_)
          refine J.conseq (I' := St w [q] ((q, cb (fC ((P ++ L.take k0) ++ xe :: ye :: (L.drop (k0 + 1) ++ T)) ++ sp) 75) :: [])) ?_ (fun w1 hw => by simp only [hm, cond_false] at hw; exact hw)
          refine J.storeO (cs := fC ((P ++ L.take k0) ++ xe :: ye :: (L.drop (k0 + 1) ++ T)) ++ sp) (vs := cC xe) (l' := (q, cb (fC (((P ++ L.take k0) ++ xe :: ye :: (L.drop (k0 + 1) ++ T)).set ((P.length + k0 + 1)) xe) ++ sp) 75) :: []) Ty.s75 rfl rfl rfl rfl (one_cC _) (by rw [set_C (i := (P.length + k0 + 1)) (by omega) (by rw [Int.toNat_natCast]; omega)]; exact .here) (by rw [List.length_append, fC_len, hnx]; omega) ?_
          refine J.nil (JX.finN undef (fun w1 hw => ⟨⟨xu, uu⟩, rfl, fun j h1 h2 => ?_, ?_⟩))
          · match j, h1 with
            | 0, _ => (first | rfl | trivial)
            | 1, _ => (first | rfl | trivial)
            | 2, _ => (first | rfl | trivial)
            | 3, _ => (first | rfl | trivial)
            | 4, _ => (first | rfl | trivial)
            | 5, _ => (first | rfl | trivial)
            | 6, _ => (first | rfl | trivial)
            | 7, _ => (first | rfl | trivial)
            | 8, _ => (first | rfl | trivial)
            | 9, _ => (first | rfl | trivial)
            | 10, _ => (first | rfl | trivial)
            | 11, _ => (first | rfl | trivial)
            | 12, _ => (first | rfl | trivial)
            | 13, _ => (first | rfl | trivial)
            | 14, _ => (first | rfl | trivial)
            | 15, _ => (first | rfl | trivial)
            | j + 16, h1 => omega
          show ((true = true → m 9 = true ∧ m 13 = true)) ∧ St w [q] ((q, cb (bif true then fC (((P ++ L.take k0) ++ xe :: ye :: (L.drop (k0 + 1) ++ T)).set ((P.length + k0 + 1)) xe) ++ sp else fC ((P ++ L.take k0) ++ xe :: ye :: (L.drop (k0 + 1) ++ T)) ++ sp) 75) :: []) w1
          simp only [cond_true] at hw ⊢
          exact ⟨fun _ => ⟨hp9, hp13⟩, hw⟩
      case htail =>
        intro x
        obtain ⟨xu, uu⟩ := x
        show J _ _ _ _ _ ((127, .pointer (some ⟨q, 0 + (((P.length + k0 + 1) : Nat) : Int).toNat * 35, none⟩)) :: (126, .agg (cC ye).toArray) :: (125, .pointer (some ⟨q, 0 + (((P.length + k0 + 1) : Nat) : Int).toNat * 35, none⟩)) :: (124, .int .i64 (((P.length + k0 + 1) : Nat) : Int)) :: (123, .slice (some ⟨q, 0, none⟩) n c) :: (122, .agg (cC xe).toArray) :: (121, .pointer (some ⟨q, 0 + (((P.length + k0) : Nat) : Int).toNat * 35, none⟩)) :: (120, .int .i64 (((P.length + k0) : Nat) : Int)) :: (119, .int .i64 (((P.length + k0 + 1) : Nat) : Int)) :: (118, .slice (some ⟨q, 0, none⟩) n c) :: (117, .int .i64 (((P.length + k0) : Nat) : Int)) :: (116, .int .i64 (((P.length + k0 + 1) : Nat) : Int)) :: (115, .slice (some ⟨q, 0, none⟩) n c) :: (114, .int .i64 (((P.length + k0 + 1) : Nat) : Int)) :: (113, .slice (some ⟨q, 0, none⟩) n c) :: _) (fun w1 => ((true = true → true = true ∧ true = true)) ∧ St w [q] ((q, cb (bif true then fC (((P ++ L.take k0) ++ xe :: ye :: (L.drop (k0 + 1) ++ T)).set ((P.length + k0 + 1)) xe) ++ sp else fC ((P ++ L.take k0) ++ xe :: ye :: (L.drop (k0 + 1) ++ T)) ++ sp) 75) :: []) w1)
        refine J.pr (fun hF => ?_)
        refine J.conseq (I' := St w [q] ((q, cb (fC (((P ++ L.take k0) ++ xe :: ye :: (L.drop (k0 + 1) ++ T)).set ((P.length + k0 + 1)) xe) ++ sp) 75) :: [])) ?_ (fun w1 hw => by simp only [cond_true] at hw; exact hw)
        refine J.indexAddrS Ty.el68 Ty.s75 rfl rfl (by omega) (by omega) rfl ?_
        refine J.storeO (cs := fC (((P ++ L.take k0) ++ xe :: ye :: (L.drop (k0 + 1) ++ T)).set ((P.length + k0 + 1)) xe) ++ sp) (vs := cC ye) (l' := (q, cb (fC ((P ++ L.take k0) ++ ye :: xe :: (L.drop (k0 + 1) ++ T)) ++ sp) 75) :: []) Ty.s75 rfl rfl rfl rfl (one_cC _) (by rw [set_C (i := (P.length + k0)) (by rw [List.length_set]; omega) (by rw [Int.toNat_natCast]; omega), show P.length + k0 = (P ++ L.take k0).length from hkl, swap_mid]; exact .here) (by rw [List.length_append, fC_len, List.length_set, hnx]; omega) ?_
        refine J.nil ?_
        refine JX.blockN ?_
        refine JX.thenN (hK15 _ _ ?_)
        refine JC.region ?_
        refine J.move rfl rfl ?_
        refine J.subN rfl rfl (by omega) (by omega) rfl ?_
        refine J.name 112 rfl (show _ = .int .i64 (((P.length + k0) : Nat) : Int) from congrArg (Value.int .i64) (by omega)) ?_
        refine J.assign rfl rfl ?_
        refine J.nil ?_
        refine JX.thenN ?_
        refine JX.again k0 ?_ ?_ ?_
        · omega
        · exact ⟨rfl, rfl, rfl, trivial⟩
        · exact fun w1 hw => ⟨⟨by omega, by omega⟩, by rw [drop_get hxk]; simpa [List.append_assoc] using hw⟩
    · skip
      have hge : i = k := by
        have h9 : ¬ ((P.length + i : Int) < P.length + k) := by simpa using h7
        omega
      subst hge
      refine JC.exit ?_
      refine JX.thenE ?_
      refine JX.thenE ?_
      refine JX.blockE ?_
      refine JX.thenN (hK11 _ _ ?_)
      refine JC.ret ?_
      refine JX.thenR ?_
      refine JX.ret0 rfl (fun w1 hw => ?_)
      obtain ⟨a1, a2⟩ := ins_left swoC hL hle1 hgt1
      exact ⟨L.take i ++ ye :: L.drop i, rfl, ⟨by rw [hRe]; exact a1, a2⟩, by simpa only [List.append_assoc, List.cons_append] using hw⟩

end Go.Proofs.Ytbafhclandendaa
/-
  Symmetric merging, at candidates: contract.
-/
namespace Go.Proofs.Ytbafhclandendaa
open Go.J Go.RowKit
set_option linter.unusedVariables false
set_option linter.unusedSimpArgs false
set_option maxRecDepth 8000
theorem rotateAt_spec (q n c : Nat) (P L R T : List CV) (sp : List Value) (w : World) (hw0 : Own w [(q, cb (fC (P ++ (L ++ (R ++ T))) ++ sp) 75)]) (hL0 : 0 < L.length) (hR0 : 0 < R.length) (hn : P.length + L.length + R.length + T.length = n) (hnc : n ≤ c) (hnb : n ≤ 1099511627776) (aa mm bb : Nat) (haa : P.length = aa) (hmm : aa + L.length = mm) (hbb : mm + R.length = bb) :
    Calls Try.prog 95 [.slice (some ⟨q, 0, none⟩) n c, .int .i64 ((aa : Nat) : Int), .int .i64 ((mm : Nat) : Int), .int .i64 ((bb : Nat) : Int), .func (.func 55) #[] #[]].toArray w fun r w' => r = .returned (.tuple #[]) ∧ St w [q] [(q, cb (fC (P ++ (R ++ (L ++ T))) ++ sp) 75)] w' := by
  subst haa
  exact rotate_spec q n c P L R T sp w hw0 hL0 hR0 hn hnc hnb mm bb hmm hbb

set_option maxHeartbeats 4000000 in
theorem symMerge_main (q n c : Nat) (sp : List Value) (hnc : n ≤ c) (hnb : n ≤ 1099511627776) (P L R T : List CV) (w : World) (hw0 : Own w [(q, cb (fC (P ++ (L ++ (R ++ T))) ++ sp) 75)]) (hn : (P ++ (L ++ (R ++ T))).length = n) (hL0 : 0 < L.length) (hR0 : 0 < R.length) (hL : Srt ltC L) (hR : Srt ltC R) (hL2 : 2 ≤ L.length) (hR2 : 2 ≤ R.length) (IH : ∀ (P1 L1 R1 T1 : List CV) (w1 : World), Own w1 [(q, cb (fC (P1 ++ (L1 ++ (R1 ++ T1))) ++ sp) 75)] → (P1 ++ (L1 ++ (R1 ++ T1))).length = n → 0 < L1.length → 0 < R1.length → Srt ltC L1 → Srt ltC R1 → L1.length + R1.length < L.length + R.length → ∀ a m b : Nat, P1.length = a → a + L1.length = m → m + R1.length = b → Calls Try.prog 82 [.slice (some ⟨q, 0, none⟩) n c, .int .i64 ((a : Nat) : Int), .int .i64 ((m : Nat) : Int), .int .i64 ((b : Nat) : Int), .func (.func 55) #[] #[]].toArray w1 fun r w' => ∃ Z : List CV, r = .returned (.tuple #[]) ∧ (SE ltC (L1 ++ R1) Z ∧ Srt ltC Z) ∧ St w1 [q] [(q, cb (fC (P1 ++ (Z ++ T1)) ++ sp) 75)] w') :
    Calls Try.prog 82 [.slice (some ⟨q, 0, none⟩) n c, .int .i64 ((P.length : Nat) : Int), .int .i64 (((P.length + L.length) : Nat) : Int), .int .i64 (((P.length + L.length + R.length) : Nat) : Int), .func (.func 55) #[] #[]].toArray w fun r w' => ∃ Z : List CV, r = .returned (.tuple #[]) ∧ (SE ltC (L ++ R) Z ∧ Srt ltC Z) ∧ St w [q] [(q, cb (fC (P ++ (Z ++ T)) ++ sp) 75)] w' := by
  obtain ⟨mid, hmid⟩ : ∃ x, (P.length + (P.length + L.length + R.length)) / 2 = x := ⟨_, rfl⟩
  have hPn : P.length + L.length + R.length + T.length = n := by simp only [List.length_append] at hn; omega
  refine calls_of_J (args := [.slice (some ⟨q, 0, none⟩) n c, .int .i64 ((P.length : Nat) : Int), .int .i64 (((P.length + L.length) : Nat) : Int), .int .i64 (((P.length + L.length + R.length) : Nat) : Int), .func (.func 55) #[] #[]]) (e := [(0, .slice (some ⟨q, 0, none⟩) n c), (1, .int .i64 ((P.length : Nat) : Int)), (2, .int .i64 (((P.length + L.length) : Nat) : Int)), (3, .int .i64 (((P.length + L.length + R.length) : Nat) : Int)), (4, .func (.func 55) #[] #[])]) Try.func82 rfl rfl ⟨rfl, rfl, rfl, rfl, rfl, trivial⟩ (hw0.st) ?_
  refine JC.seq (fun K0 hK0 => ?_)
  refine JC.seq (fun K1 hK1 => ?_)
  refine JC.region ?_
  refine J.move rfl rfl ?_
  refine J.move rfl rfl ?_
  refine J.subN rfl rfl (by omega) (by omega) rfl ?_
  refine J.name 27 rfl (show _ = Value.int .i64 ((L.length : Nat) : Int) from congrArg (Value.int .i64) (by omega)) ?_
  refine J.bin rfl rfl rfl rfl ?_
  refine J.name 28 rfl (show _ = Value.bool false by simp; omega) ?_
  refine J.nil ?_
  refine JX.thenN (hK1 _ _ ?_)
  first | refine JC.condF rfl ?_ | refine JC.cond rfl (fun h => by first | (exfalso; simp at h; omega) | (simp at h)) (fun _ => ?_)
  refine JC.skip ?_
  refine JX.thenN (hK0 _ _ ?_)
  refine JC.seq (fun K2 hK2 => ?_)
  refine JC.seq (fun K3 hK3 => ?_)
  refine JC.region ?_
  refine J.move rfl rfl ?_
  refine J.move rfl rfl ?_
  refine J.subN rfl rfl (by omega) (by omega) rfl ?_
  refine J.name 79 rfl (show _ = Value.int .i64 ((R.length : Nat) : Int) from congrArg (Value.int .i64) (by omega)) ?_
  refine J.bin rfl rfl rfl rfl ?_
  refine J.name 80 rfl (show _ = Value.bool false by simp; omega) ?_
  refine J.nil ?_
  refine JX.thenN (hK3 _ _ ?_)
  first | refine JC.condF rfl ?_ | refine JC.cond rfl (fun h => by first | (exfalso; simp at h; omega) | (simp at h)) (fun _ => ?_)
  refine JC.skip ?_
  refine JX.thenN (hK2 _ _ ?_)
  refine JC.seq (fun K4 hK4 => ?_)
  refine JC.region ?_
  refine J.move rfl rfl ?_
  refine J.move rfl rfl ?_
  refine J.addN rfl rfl (by omega) (by omega) rfl ?_
  refine J.name 131 rfl (show _ = .int .i64 (((P.length + (P.length + L.length + R.length)) : Nat) : Int) from congrArg (Value.int .i64) (by omega)) ?_
  refine J.convInt Ty.u3 Ty.u31 rfl rfl ?_
  refine J.name 132 rfl (show _ = Value.int .u64 (((P.length + (P.length + L.length + R.length)) : Nat) : Int) from congrArg (Value.int .u64) (wrap_u64 (by omega) (by omega))) ?_
  refine J.shrN rfl rfl (by omega) rfl ?_
  refine J.name 133 rfl (show _ = Value.int .u64 ((mid : Nat) : Int) from congrArg (Value.int .u64) ((half_val (P.length + (P.length + L.length + R.length))).trans (congrArg (fun k : Nat => ((k : Nat) : Int)) hmid))) ?_
  refine J.convInt Ty.u31 Ty.u3 rfl rfl ?_
  refine J.name 134 rfl (show _ = .int .i64 ((mid : Nat) : Int) from congrArg (Value.int .i64) (wrap_i64 (by omega) (by omega))) ?_
  refine J.assign rfl rfl ?_
  refine J.nil ?_
  refine JX.thenN (hK4 _ _ ?_)
  refine JC.seq (fun K5 hK5 => ?_)
  refine JC.region ?_
  refine J.move rfl rfl ?_
  refine J.move rfl rfl ?_
  refine J.addN rfl rfl (by omega) (by omega) rfl ?_
  refine J.name 137 rfl (show _ = .int .i64 (((mid + P.length + L.length) : Nat) : Int) from congrArg (Value.int .i64) (by omega)) ?_
  refine J.assign rfl rfl ?_
  refine J.nil ?_
  refine JX.thenN (hK5 _ _ ?_)
  refine JC.seq (fun K6 hK6 => ?_)
  refine JC.region ?_
  refine J.assign rfl rfl ?_
  refine J.assign rfl rfl ?_
  refine J.nil ?_
  refine JX.thenN (hK6 _ _ ?_)
  refine JC.seqCut (α := Nat × Nat) (fun z => [(0, .slice (some ⟨q, 0, none⟩) n c), (1, .int .i64 ((P.length : Nat) : Int)), (2, .int .i64 (((P.length + L.length) : Nat) : Int)), (3, .int .i64 (((P.length + L.length + R.length) : Nat) : Int)), (4, .func (.func 55) #[] #[]), (18, .int .i64 ((mid : Nat) : Int)), (19, .int .i64 (((mid + P.length + L.length) : Nat) : Int)), (20, .int .i64 ((z.1 : Nat) : Int)), (21, .int .i64 ((z.2 : Nat) : Int))]) (fun z w' => (P.length ≤ z.1 ∧ z.1 ≤ z.2 ∧ z.2 ≤ P.length + L.length ∧ ((R.length ≤ mid - z.1 ∧ z.2 = mid ∧ z.1 + R.length = mid) ∨ (z.1 = P.length ∧ z.2 = P.length + L.length ∧ P.length + L.length ≤ mid)) ∧ (∀ c, z.1 ≤ c → c < z.2 → P.length + L.length ≤ mid + P.length + L.length - 1 - c ∧ mid + P.length + L.length - 1 - c < P.length + L.length + R.length ∧ c < mid)) ∧ St w [q] [(q, cb (fC (P ++ (L ++ (R ++ T))) ++ sp) 75)] w') (fun z => ?_) (fun K7 hK7 => ?_)
  · skip
    obtain ⟨lo, hi⟩ := z
    refine JC.pr (fun hz => ?_)
    obtain ⟨hlo1, hlohi, hhi1, hends, hpc⟩ := hz
    try simp only at hlo1 hlohi hhi1 hends hpc ⊢
    refine JC.seq (fun K8 hK8 => ?_)
    refine JC.region ?_
    refine J.move rfl rfl ?_
    refine J.subN rfl rfl (by omega) (by omega) rfl ?_
    refine J.name 148 rfl (show _ = .int .i64 (((mid + P.length + L.length - 1) : Nat) : Int) from congrArg (Value.int .i64) (by omega)) ?_
    refine J.assign rfl rfl ?_
    refine J.nil ?_
    refine JX.thenN (hK8 _ _ ?_)
    refine JC.seq (fun K9 hK9 => ?_)
    refine JC.block ?_
    refine JC.conseq (JC.cov (f := (fun st => [(0, .slice (some ⟨q, 0, none⟩) n c), (1, .int .i64 ((P.length : Nat) : Int)), (2, .int .i64 (((P.length + L.length) : Nat) : Int)), (3, .int .i64 (((P.length + L.length + R.length) : Nat) : Int)), (4, .func (.func 55) #[] #[]), (18, .int .i64 ((mid : Nat) : Int)), (19, .int .i64 (((mid + P.length + L.length) : Nat) : Int)), (22, .int .i64 (((mid + P.length + L.length - 1) : Nat) : Int)), (20, .int .i64 ((st.1 : Nat) : Int)), (21, .int .i64 ((st.2 : Nat) : Int))]) ((lo, hi) : Nat × Nat)) ⟨rfl, rfl, rfl, rfl, rfl, rfl, rfl, rfl, rfl, rfl, trivial⟩ (JC.loop (α := Nat × Nat) (fun st => [(0, .slice (some ⟨q, 0, none⟩) n c), (1, .int .i64 ((P.length : Nat) : Int)), (2, .int .i64 (((P.length + L.length) : Nat) : Int)), (3, .int .i64 (((P.length + L.length + R.length) : Nat) : Int)), (4, .func (.func 55) #[] #[]), (18, .int .i64 ((mid : Nat) : Int)), (19, .int .i64 (((mid + P.length + L.length) : Nat) : Int)), (22, .int .i64 (((mid + P.length + L.length - 1) : Nat) : Int)), (20, .int .i64 ((st.1 : Nat) : Int)), (21, .int .i64 ((st.2 : Nat) : Int))]) (fun st w' => (lo ≤ st.1 ∧ st.1 ≤ st.2 ∧ st.2 ≤ hi ∧ (st.1 = lo ∨ ∃ x y, L[st.1 - 1 - P.length]? = some x ∧ R[mid - st.1]? = some y ∧ P.length ≤ st.1 - 1 ∧ 1 ≤ st.1 ∧ ¬ ltC y x) ∧ (st.2 = hi ∨ ∃ x y, L[st.2 - P.length]? = some x ∧ R[mid - 1 - st.2]? = some y ∧ ltC y x ∧ st.2 < mid)) ∧ St w [q] [(q, cb (fC (P ++ (L ++ (R ++ T))) ++ sp) 75)] w') (fun st => st.2 - st.1) ((lo, hi) : Nat × Nat) (fun st => ?_))) (fun w hw => ⟨⟨Nat.le_refl _, hlohi, Nat.le_refl _, .inl rfl, .inl rfl⟩, hw⟩)
    obtain ⟨s, r⟩ := st
    refine JC.pr (fun hI => ?_)
    obtain ⟨hs1, hs2, hs3, hs4, hs5⟩ := hI
    try simp only at hs1 hs2 hs3 hs4 hs5 ⊢
    refine JC.seq (fun K10 hK10 => ?_)
    refine JC.seq (fun K11 hK11 => ?_)
    refine JC.region ?_
    refine J.move rfl rfl ?_
    refine J.move rfl rfl ?_
    refine J.bin rfl rfl rfl rfl ?_
    refine J.nil ?_
    refine JX.thenN (hK11 _ _ ?_)
    refine JC.cond rfl (fun h9 => ?_) (fun h9 => ?_)
    · skip
      have hlt : s < r := by simpa using h9
      obtain ⟨cx, hcx, hc1, hc2⟩ : ∃ x, (s + r) / 2 = x ∧ s ≤ x ∧ x < r := ⟨_, rfl, by omega, by omega⟩
      obtain ⟨hp1, hp2, hp3⟩ := hpc cx (by omega) (by omega)
      obtain ⟨xe, hxe⟩ : ∃ y, L[cx - P.length]? = some y := ⟨_, List.getElem?_eq_getElem (by omega)⟩
      obtain ⟨ye, hye⟩ : ∃ y, R[mid - 1 - cx]? = some y := ⟨_, List.getElem?_eq_getElem (by omega)⟩
      have gx : (P ++ (L ++ (R ++ T)))[cx]? = some xe := by have := get_L (P := P) (R := R) (T := T) hxe; rwa [show P.length + (cx - P.length) = cx by omega] at this
      have gy : (P ++ (L ++ (R ++ T)))[mid + P.length + L.length - 1 - cx]? = some ye := by have := get_R (P := P) (L := L) (T := T) hye; rwa [show P.length + L.length + (mid - 1 - cx) = mid + P.length + L.length - 1 - cx by omega] at this
      refine JC.skip ?_
      refine JX.thenN (hK10 _ _ ?_)
      refine JC.block ?_
      refine JC.seq (fun K12 hK12 => ?_)
      refine JC.region ?_
      refine J.move rfl rfl ?_
      refine J.move rfl rfl ?_
      refine J.addN rfl rfl (by omega) (by omega) rfl ?_
      refine J.name 154 rfl (show _ = .int .i64 (((s + r) : Nat) : Int) from congrArg (Value.int .i64) (by omega)) ?_
      refine J.convInt Ty.u3 Ty.u31 rfl rfl ?_
      refine J.name 155 rfl (show _ = Value.int .u64 (((s + r) : Nat) : Int) from congrArg (Value.int .u64) (wrap_u64 (by omega) (by omega))) ?_
      refine J.shrN rfl rfl (by omega) rfl ?_
      refine J.name 156 rfl (show _ = Value.int .u64 ((cx : Nat) : Int) from congrArg (Value.int .u64) ((half_val (s + r)).trans (congrArg (fun k : Nat => ((k : Nat) : Int)) hcx))) ?_
      refine J.convInt Ty.u31 Ty.u3 rfl rfl ?_
      refine J.name 157 rfl (show _ = .int .i64 ((cx : Nat) : Int) from congrArg (Value.int .i64) (wrap_i64 (by omega) (by omega))) ?_
      refine J.assign rfl rfl ?_
      refine J.nil ?_
      refine JX.thenN (hK12 _ _ ?_)
      refine JC.seq (fun K13 hK13 => ?_)
      apply JC.drawX (α := Nat × Unit) 14 (fun x => match x with | ⟨xu, uu⟩ => [.func (.func 55) #[] #[], .slice (some ⟨q, 0, none⟩) n c, .int .i64 (((mid + P.length + L.length - 1) : Nat) : Int), .int .i64 ((cx : Nat) : Int), .int .i64 (((mid + P.length + L.length - 1 - cx) : Nat) : Int), .pointer (some ⟨q, 0 + (((mid + P.length + L.length - 1 - cx) : Nat) : Int).toNat * 35, none⟩), .agg (cC ye).toArray, .slice (some ⟨q, 0, none⟩) n c, .int .i64 ((cx : Nat) : Int), .pointer (some ⟨q, 0 + ((cx : Nat) : Int).toNat * 35, none⟩), .agg (cC xe).toArray, .int .i64 (ordC ye xe), .bool (decide (ltC ye xe)), .bool (!decide (ltC ye xe))]) (fun m x => match x with | ⟨xu, uu⟩ => fun w1 => (True) ∧ St w [q] ((q, cb (fC (P ++ (L ++ (R ++ T))) ++ sp) 75) :: []) w1) Ty.mixed rfl rfl rfl (by kernel_rfl) rfl rfl ?hinit ?hstep ?htail
      case hinit => exact fun w1 hw => ⟨(0, ()), trivial, hw.drew⟩
      case hstep =>
        refine ⟨fun m x hm hp => ?_, fun m x hm hp => ?_, fun m x hm hp => ?_, fun m x hm hp => ?_, fun m x hm hp => ?_, fun m x hm hp => ?_, fun m x hm hp => ?_, fun m x hm hp => ?_, fun m x hm hp => ?_, fun m x hm hp => ?_, fun m x hm hp => ?_, fun m x hm hp => ?_, fun m x hm hp => ?_, fun m x hm hp => ?_, trivial⟩
        · skip
          obtain ⟨xu, uu⟩ := x
          show J _ _ _ _ _ (_) _
          refine J.pr (fun hF => ?_)
          refine J.move rfl rfl ?_
          exact J.finX rfl (fun _ hw => ⟨⟨xu, uu⟩, rfl, fun _ _ _ => rfl, hF, hw⟩)
        · skip
          obtain ⟨xu, uu⟩ := x
          show J _ _ _ _ _ (_) _
          refine J.pr (fun hF => ?_)
          refine J.move rfl rfl ?_
          exact J.finX rfl (fun _ hw => ⟨⟨xu, uu⟩, rfl, fun _ _ _ => rfl, hF, hw⟩)
        · skip
          obtain ⟨xu, uu⟩ := x
          show J _ _ _ _ _ (_) _
          refine J.pr (fun hF => ?_)
          refine J.move rfl rfl ?_
          exact J.finX rfl (fun _ hw => ⟨⟨xu, uu⟩, rfl, fun _ _ _ => rfl, hF, hw⟩)
        · skip
          obtain ⟨xu, uu⟩ := x
          show J _ _ _ _ _ (_) _
          refine J.pr (fun hF => ?_)
          refine J.move rfl rfl ?_
          exact J.finX rfl (fun _ hw => ⟨⟨xu, uu⟩, rfl, fun _ _ _ => rfl, hF, hw⟩)
        · skip
          obtain ⟨xu, uu⟩ := x
          show J _ _ _ _ _ ((161, .int .i64 ((cx : Nat) : Int)) :: (160, .int .i64 (((mid + P.length + L.length - 1) : Nat) : Int)) :: _) _
          refine J.pr (fun hF => ?_)
          refine J.subN rfl rfl (by omega) (by omega) rfl ?_
          refine J.name 162 rfl (show _ = Value.int .i64 (((mid + P.length + L.length - 1 - cx) : Nat) : Int) from congrArg (Value.int .i64) (by omega)) ?_
          exact J.finX rfl (fun _ hw => ⟨⟨xu, uu⟩, rfl, fun _ _ _ => rfl, hF, hw⟩)
        · skip
          obtain ⟨xu, uu⟩ := x
          show J _ _ _ _ _ ((162, .int .i64 (((mid + P.length + L.length - 1 - cx) : Nat) : Int)) :: (159, .slice (some ⟨q, 0, none⟩) n c) :: _) _
          refine J.pr (fun hF => ?_)
          refine J.indexAddrS Ty.el68 Ty.s75 rfl rfl (by omega) (by omega) rfl ?_
          exact J.finX rfl (fun _ hw => ⟨⟨xu, uu⟩, rfl, fun _ _ _ => rfl, hF, hw⟩)
        · skip
          obtain ⟨xu, uu⟩ := x
          show J _ _ _ _ _ ((163, .pointer (some ⟨q, 0 + (((mid + P.length + L.length - 1 - cx) : Nat) : Int).toNat * 35, none⟩)) :: _) _
          refine J.pr (fun hF => ?_)
          refine J.loadA (vs := cC ye) Ty.a75 Ty.s75 rfl rfl (fun w1 hw => rowG_at (c := cC) (sz := 35) (fun _ => rfl) (rowC_own (xs := P ++ (L ++ (R ++ T))) hw (.head _) hn hnc) gy (by rw [Int.toNat_natCast])) rfl ?_
          exact J.finX rfl (fun _ hw => ⟨⟨xu, uu⟩, rfl, fun _ _ _ => rfl, hF, hw⟩)
        · skip
          obtain ⟨xu, uu⟩ := x
          show J _ _ _ _ _ (_) _
          refine J.pr (fun hF => ?_)
          refine J.move rfl rfl ?_
          exact J.finX rfl (fun _ hw => ⟨⟨xu, uu⟩, rfl, fun _ _ _ => rfl, hF, hw⟩)
        · skip
          obtain ⟨xu, uu⟩ := x
          show J _ _ _ _ _ (_) _
          refine J.pr (fun hF => ?_)
          refine J.move rfl rfl ?_
          exact J.finX rfl (fun _ hw => ⟨⟨xu, uu⟩, rfl, fun _ _ _ => rfl, hF, hw⟩)
        · skip
          obtain ⟨xu, uu⟩ := x
          show J _ _ _ _ _ ((166, .int .i64 ((cx : Nat) : Int)) :: (165, .slice (some ⟨q, 0, none⟩) n c) :: _) _
          refine J.pr (fun hF => ?_)
          refine J.indexAddrS Ty.el68 Ty.s75 rfl rfl (by omega) (by omega) rfl ?_
          exact J.finX rfl (fun _ hw => ⟨⟨xu, uu⟩, rfl, fun _ _ _ => rfl, hF, hw⟩)
        · skip
          obtain ⟨xu, uu⟩ := x
          show J _ _ _ _ _ ((167, .pointer (some ⟨q, 0 + ((cx : Nat) : Int).toNat * 35, none⟩)) :: _) _
          refine J.pr (fun hF => ?_)
          refine J.loadA (vs := cC xe) Ty.a75 Ty.s75 rfl rfl (fun w1 hw => rowG_at (c := cC) (sz := 35) (fun _ => rfl) (rowC_own (xs := P ++ (L ++ (R ++ T))) hw (.head _) hn hnc) gx (by rw [Int.toNat_natCast])) rfl ?_
          exact J.finX rfl (fun _ hw => ⟨⟨xu, uu⟩, rfl, fun _ _ _ => rfl, hF, hw⟩)
        · skip
          obtain ⟨xu, uu⟩ := x
          show J _ _ _ _ _ ((168, .agg (cC xe).toArray) :: (164, .agg (cC ye).toArray) :: (158, .func (.func 55) #[] #[]) :: _) _
          refine J.pr (fun hF => ?_)
          refine J.callVB (v := .int .i64 (ordC ye xe)) (fun w1 w2 hw hb => hw.step hb) Ty.bd55 rfl rfl rfl (fun w1 hw => order_spec ye xe w1) ?_
          exact J.finX rfl (fun _ hw => ⟨⟨xu, uu⟩, rfl, fun _ _ _ => rfl, hF, hw⟩)
        · skip
          obtain ⟨xu, uu⟩ := x
          show J _ _ _ _ _ ((169, .int .i64 (ordC ye xe)) :: _) _
          refine J.pr (fun hF => ?_)
          refine J.bin rfl rfl rfl rfl ?_
          refine J.name 170 rfl (show _ = Value.bool (decide (ltC ye xe)) from rfl) ?_
          exact J.finX rfl (fun _ hw => ⟨⟨xu, uu⟩, rfl, fun _ _ _ => rfl, hF, hw⟩)
        · skip
          obtain ⟨xu, uu⟩ := x
          show J _ _ _ _ _ ((170, .bool (decide (ltC ye xe))) :: _) _
          refine J.pr (fun hF => ?_)
          refine J.not rfl rfl ?_
          exact J.finX rfl (fun _ hw => ⟨⟨xu, uu⟩, rfl, fun _ _ _ => rfl, hF, hw⟩)
      case htail =>
        intro x
        obtain ⟨xu, uu⟩ := x
        show J _ _ _ _ _ ((171, .bool (!decide (ltC ye xe))) :: (170, .bool (decide (ltC ye xe))) :: (169, .int .i64 (ordC ye xe)) :: (168, .agg (cC xe).toArray) :: (167, .pointer (some ⟨q, 0 + ((cx : Nat) : Int).toNat * 35, none⟩)) :: (166, .int .i64 ((cx : Nat) : Int)) :: (165, .slice (some ⟨q, 0, none⟩) n c) :: (164, .agg (cC ye).toArray) :: (163, .pointer (some ⟨q, 0 + (((mid + P.length + L.length - 1 - cx) : Nat) : Int).toNat * 35, none⟩)) :: (162, .int .i64 (((mid + P.length + L.length - 1 - cx) : Nat) : Int)) :: (161, .int .i64 ((cx : Nat) : Int)) :: (160, .int .i64 (((mid + P.length + L.length - 1) : Nat) : Int)) :: (159, .slice (some ⟨q, 0, none⟩) n c) :: (158, .func (.func 55) #[] #[]) :: _) (fun w1 => (True) ∧ St w [q] ((q, cb (fC (P ++ (L ++ (R ++ T))) ++ sp) 75) :: []) w1)
        refine J.pr (fun hF => ?_)
        refine J.nil ?_
        refine JX.thenN (hK13 _ _ ?_)
        refine JC.cond rfl (fun h10 => ?_) (fun h10 => ?_)
        · skip
          have hcmp : ¬ ltC ye xe := by simpa using h10
          refine JC.region ?_
          refine J.move rfl rfl ?_
          refine J.addN rfl rfl (by omega) (by omega) rfl ?_
          refine J.name 173 rfl (show _ = .int .i64 (((cx + 1) : Nat) : Int) from congrArg (Value.int .i64) (by omega)) ?_
          refine J.assign rfl rfl ?_
          refine J.nil ?_
          refine JX.blockN ?_
          refine JX.thenN ?_
          refine JX.again ((cx + 1, r) : Nat × Nat) ?_ ?_ ?_
          · simp only; omega
          · exact ⟨rfl, rfl, rfl, rfl, rfl, rfl, rfl, rfl, rfl, rfl, trivial⟩
          · exact fun w1 hw => ⟨⟨by show _ ≤ _; omega, by show _ ≤ _; omega, hs3, .inr ⟨xe, ye, by show L[cx + 1 - 1 - P.length]? = _; rw [Nat.add_sub_cancel]; exact hxe, by show R[mid - (cx + 1)]? = _; rw [show mid - (cx + 1) = mid - 1 - cx by omega]; exact hye, by show _ ≤ cx + 1 - 1; omega, by show 1 ≤ cx + 1; omega, hcmp⟩, hs5⟩, hw⟩
        · skip
          have hcmp : ltC ye xe := by simpa using h10
          refine JC.region ?_
          refine J.move rfl rfl ?_
          refine J.assign rfl rfl ?_
          refine J.nil ?_
          refine JX.blockN ?_
          refine JX.thenN ?_
          refine JX.again ((s, cx) : Nat × Nat) ?_ ?_ ?_
          · simp only; omega
          · exact ⟨rfl, rfl, rfl, rfl, rfl, rfl, rfl, rfl, rfl, rfl, trivial⟩
          · exact fun w1 hw => ⟨⟨hs1, by show _ ≤ _; omega, by show _ ≤ _; omega, hs4, .inr ⟨xe, ye, hxe, hye, hcmp, hp3⟩⟩, hw⟩
    · skip
      have hr : r = s := by
        have h9 : ¬ (s < r) := by simpa using h9
        omega
      subst hr
      have hcutLE : ∀ u, u ∈ (L.take (r - P.length)) → ∀ v, v ∈ (R.drop (mid - r)) → ¬ ltC v u := by
        rcases hs4 with h | ⟨x, y, h1, h2, h3, h4, h5⟩
        · rcases hends with ⟨e1, e2, e3⟩ | ⟨e1, e2, e3⟩
          · intro u hu v hv
            rw [List.drop_eq_nil_of_le (by omega)] at hv
            cases hv
          · intro u hu
            rw [show r - P.length = 0 by omega] at hu
            cases hu
        · have := cut_le swoC hL hR h1 h2 h5
          rwa [show r - 1 - P.length + 1 = r - P.length by omega] at this
      have hcutLT : ∀ u, u ∈ (L.drop (r - P.length)) → ∀ v, v ∈ (R.take (mid - r)) → ltC v u := by
        rcases hs5 with h | ⟨x, y, h1, h2, h5, h5m⟩
        · rcases hends with ⟨e1, e2, e3⟩ | ⟨e1, e2, e3⟩
          · intro u hu v hv
            rw [show mid - r = 0 by omega] at hv
            cases hv
          · intro u hu
            rw [List.drop_eq_nil_of_le (by omega)] at hu
            cases hu
        · have h6 := cut_lt swoC hL hR h1 h2 h5
          have h7 : 0 < mid - r := by omega
          rwa [show mid - 1 - r + 1 = mid - r by omega] at h6
      have hA1 : (L.take (r - P.length)).length = r - P.length := by rw [List.length_take]; omega
      have hA2 : (L.drop (r - P.length)).length = P.length + L.length - r := by rw [List.length_drop]; omega
      have hB1 : (R.take (mid - r)).length = mid - r := by rw [List.length_take]; omega
      have hB2 : (R.drop (mid - r)).length = R.length - (mid - r) := by rw [List.length_drop]
      have hLe : (L.take (r - P.length)) ++ (L.drop (r - P.length)) = L := List.take_append_drop _ _
      have hRe : (R.take (mid - r)) ++ (R.drop (mid - r)) = R := List.take_append_drop _ _
      have hsL := hL
      have hsR := hR
      rw [← hLe] at hsL
      rw [← hRe] at hsR
      refine JC.exit ?_
      refine JX.thenE ?_
      refine JX.thenE ?_
      refine JX.blockE ?_
      refine JX.thenN (hK9 _ _ ?_)
      refine JC.seq (fun K14 hK14 => ?_)
      refine JC.region ?_
      refine J.move rfl rfl ?_
      refine J.move rfl rfl ?_
      refine J.subN rfl rfl (by omega) (by omega) rfl ?_
      refine J.name 177 rfl (show _ = .int .i64 (((mid + P.length + L.length - r) : Nat) : Int) from congrArg (Value.int .i64) (by omega)) ?_
      refine J.assign rfl rfl ?_
      refine J.nil ?_
      refine JX.thenN (hK14 _ _ ?_)
      refine JC.seqCut (α := Unit) (fun _ => [(0, .slice (some ⟨q, 0, none⟩) n c), (1, .int .i64 ((P.length : Nat) : Int)), (2, .int .i64 (((P.length + L.length) : Nat) : Int)), (3, .int .i64 (((P.length + L.length + R.length) : Nat) : Int)), (4, .func (.func 55) #[] #[]), (18, .int .i64 ((mid : Nat) : Int)), (20, .int .i64 ((r : Nat) : Int)), (24, .int .i64 (((mid + P.length + L.length - r) : Nat) : Int))]) (fun _ w' => St w [q] [(q, cb (fC (P ++ (((L.take (r - P.length)) ++ (R.take (mid - r))) ++ (((L.drop (r - P.length)) ++ (R.drop (mid - r))) ++ T))) ++ sp) 75)] w') (fun _ => ?_) (fun K15 hK15 => ?_)
      · skip
        refine JC.seqCut (α := List CV) (fun _ => [(0, .slice (some ⟨q, 0, none⟩) n c), (1, .int .i64 ((P.length : Nat) : Int)), (2, .int .i64 (((P.length + L.length) : Nat) : Int)), (3, .int .i64 (((P.length + L.length + R.length) : Nat) : Int)), (4, .func (.func 55) #[] #[]), (18, .int .i64 ((mid : Nat) : Int)), (20, .int .i64 ((r : Nat) : Int)), (24, .int .i64 (((mid + P.length + L.length - r) : Nat) : Int))]) (fun ZA w' => (SE ltC ((L.take (r - P.length)) ++ (R.take (mid - r))) ZA ∧ Srt ltC ZA) ∧ St w [q] [(q, cb (fC (P ++ (ZA ++ (((L.drop (r - P.length)) ++ (R.drop (mid - r))) ++ T))) ++ sp) 75)] w') (fun ZA => ?_) (fun K16 hK16 => ?_)
        · skip
          refine JC.pr (fun hA => ?_)
          try simp only at hA ⊢
          refine JC.seq (fun K17 hK17 => ?_)
          have hZAl := hA.1.length swoC
          rw [List.length_append] at hZAl
          by_cases hcA : mid < (mid + P.length + L.length - r)
          · skip
            by_cases hcB : (mid + P.length + L.length - r) < P.length + L.length + R.length
            · skip
              refine JC.region ?_
              refine J.move rfl rfl ?_
              refine J.move rfl rfl ?_
              refine J.bin rfl rfl rfl rfl ?_
              refine J.name 208 rfl (show _ = Value.bool true by simp; omega) ?_
              refine J.move rfl rfl ?_
              first | refine J.skip rfl rfl rfl rfl rfl ?_ | refine J.skipU rfl rfl rfl rfl ?_ | (refine J.unguard rfl rfl rfl ?_; refine J.move rfl rfl ?_)
              first | refine J.skip rfl rfl rfl rfl rfl ?_ | refine J.skipU rfl rfl rfl rfl ?_ | (refine J.unguard rfl rfl rfl ?_; refine J.move rfl rfl ?_)
              refine J.unguard rfl rfl rfl ?_
              refine J.bin rfl rfl rfl rfl ?_
              refine J.name 212 rfl (show _ = Value.bool true by simp; omega) ?_
              (first | refine J.pickT rfl rfl rfl ?_ | refine J.pickF rfl rfl rfl ?_)
              refine J.nil ?_
              refine JX.thenN (hK17 _ _ ?_)
              first | refine JC.condT rfl ?_ | refine JC.cond rfl (fun _ => ?_) (fun h => by first | (exfalso; simp at h; omega) | (simp at h))
              refine JC.region ?_
              refine J.move rfl rfl ?_
              refine J.move rfl rfl ?_
              refine J.move rfl rfl ?_
              refine J.move rfl rfl ?_
              refine J.move rfl rfl ?_
              refine J.callS (α := List CV) (V := fun _ => .tuple #[]) (Pr := fun Z => SE ltC ((L.drop (r - P.length)) ++ (R.drop (mid - r))) Z ∧ Srt ltC Z) (L := fun Z => [(q, cb (fC (P ++ (ZA ++ (Z ++ T))) ++ sp) 75)]) (l1 := [(q, cb (fC (P ++ (ZA ++ (((L.drop (r - P.length)) ++ (R.drop (mid - r))) ++ T))) ++ sp) 75)]) (l := []) Ty.bd82 rfl rfl (fun w1 hw => (IH (P ++ ZA) (L.drop (r - P.length)) (R.drop (mid - r)) T w1 (by have h := hw.owns; simpa only [List.append_assoc] using h) (by simp only [List.length_append] at *; omega) (by omega) (by omega) (Srt.app.1 hsL).2.1 (Srt.app.1 hsR).2.1 (by simp only [List.length_append] at *; omega) _ _ _ (by first | rfl | (simp only [List.length_append] at *; omega)) (by omega) (by omega)).mono fun _ _ ⟨Z, h1, h2, h3⟩ => ⟨Z, h1, h2, by simpa only [List.append_assoc, List.map_cons, List.map_nil] using h3⟩) (fun ZB hB => ?_)
              simp only [List.append_nil]
              refine J.nil ?_
              refine JX.end0 rfl (fun w1 hw => ?_)
              have hfin := merge_step swoC hsL hsR hcutLT hcutLE hA.1 hA.2 hB.1 hB.2
              rw [hLe, hRe] at hfin
              exact ⟨ZA ++ ZB, rfl, hfin, by simpa only [List.append_assoc] using hw⟩
            · skip
              obtain ⟨ZB, hZB⟩ : ∃ Z, (L.drop (r - P.length)) ++ (R.drop (mid - r)) = Z := ⟨_, rfl⟩
              have hB : SE ltC ((L.drop (r - P.length)) ++ (R.drop (mid - r))) ZB ∧ Srt ltC ZB := by
                rw [← hZB]
                refine ⟨SE.refl _, ?_⟩
                rcases Nat.eq_zero_or_pos (L.drop (r - P.length)).length with h | h
                · rw [List.eq_nil_of_length_eq_zero h, List.nil_append]; exact (Srt.app.1 hsR).2.1
                · rw [show (R.drop (mid - r)) = [] from List.eq_nil_of_length_eq_zero (by omega), List.append_nil]; exact (Srt.app.1 hsL).2.1
              refine JC.conseq (I' := St w [q] [(q, cb (fC (P ++ (ZA ++ (ZB ++ T))) ++ sp) 75)]) ?_ (fun w1 hw => by rw [← hZB]; exact hw)
              refine JC.region ?_
              refine J.move rfl rfl ?_
              refine J.move rfl rfl ?_
              refine J.bin rfl rfl rfl rfl ?_
              refine J.name 208 rfl (show _ = Value.bool true by simp; omega) ?_
              refine J.move rfl rfl ?_
              first | refine J.skip rfl rfl rfl rfl rfl ?_ | refine J.skipU rfl rfl rfl rfl ?_ | (refine J.unguard rfl rfl rfl ?_; refine J.move rfl rfl ?_)
              first | refine J.skip rfl rfl rfl rfl rfl ?_ | refine J.skipU rfl rfl rfl rfl ?_ | (refine J.unguard rfl rfl rfl ?_; refine J.move rfl rfl ?_)
              refine J.unguard rfl rfl rfl ?_
              refine J.bin rfl rfl rfl rfl ?_
              refine J.name 212 rfl (show _ = Value.bool false by simp; omega) ?_
              (first | refine J.pickT rfl rfl rfl ?_ | refine J.pickF rfl rfl rfl ?_)
              refine J.nil ?_
              refine JX.thenN (hK17 _ _ ?_)
              first | refine JC.condF rfl ?_ | refine JC.cond rfl (fun h => by first | (exfalso; simp at h; omega) | (simp at h)) (fun _ => ?_)
              refine JC.skip ?_
              refine JX.end0 rfl (fun w1 hw => ?_)
              have hfin := merge_step swoC hsL hsR hcutLT hcutLE hA.1 hA.2 hB.1 hB.2
              rw [hLe, hRe] at hfin
              exact ⟨ZA ++ ZB, rfl, hfin, by simpa only [List.append_assoc] using hw⟩
          · skip
            obtain ⟨ZB, hZB⟩ : ∃ Z, (L.drop (r - P.length)) ++ (R.drop (mid - r)) = Z := ⟨_, rfl⟩
            have hB : SE ltC ((L.drop (r - P.length)) ++ (R.drop (mid - r))) ZB ∧ Srt ltC ZB := by
              rw [← hZB]
              refine ⟨SE.refl _, ?_⟩
              rcases Nat.eq_zero_or_pos (L.drop (r - P.length)).length with h | h
              · rw [List.eq_nil_of_length_eq_zero h, List.nil_append]; exact (Srt.app.1 hsR).2.1
              · rw [show (R.drop (mid - r)) = [] from List.eq_nil_of_length_eq_zero (by omega), List.append_nil]; exact (Srt.app.1 hsL).2.1
            refine JC.conseq (I' := St w [q] [(q, cb (fC (P ++ (ZA ++ (ZB ++ T))) ++ sp) 75)]) ?_ (fun w1 hw => by rw [← hZB]; exact hw)
            refine JC.region ?_
            refine J.move rfl rfl ?_
            refine J.move rfl rfl ?_
            refine J.bin rfl rfl rfl rfl ?_
            refine J.name 208 rfl (show _ = Value.bool false by simp; omega) ?_
            refine J.move rfl rfl ?_
            first | refine J.skip rfl rfl rfl rfl rfl ?_ | refine J.skipU rfl rfl rfl rfl ?_ | (refine J.unguard rfl rfl rfl ?_; refine J.move rfl rfl ?_)
            first | refine J.skip rfl rfl rfl rfl rfl ?_ | refine J.skipU rfl rfl rfl rfl ?_ | (refine J.unguard rfl rfl rfl ?_; refine J.move rfl rfl ?_)
            refine J.skip rfl rfl rfl rfl rfl ?_
            (first | refine J.pickT rfl rfl rfl ?_ | refine J.pickF rfl rfl rfl ?_)
            refine J.nil ?_
            refine JX.thenN (hK17 _ _ ?_)
            first | refine JC.condF rfl ?_ | refine JC.cond rfl (fun h => by first | (exfalso; simp at h; omega) | (simp at h)) (fun _ => ?_)
            refine JC.skip ?_
            refine JX.end0 rfl (fun w1 hw => ?_)
            have hfin := merge_step swoC hsL hsR hcutLT hcutLE hA.1 hA.2 hB.1 hB.2
            rw [hLe, hRe] at hfin
            exact ⟨ZA ++ ZB, rfl, hfin, by simpa only [List.append_assoc] using hw⟩
        · skip
          refine JC.seq (fun K18 hK18 => ?_)
          by_cases hcA : P.length < r
          · skip
            by_cases hcB : r < mid
            · skip
              refine JC.region ?_
              refine J.move rfl rfl ?_
              refine J.move rfl rfl ?_
              refine J.bin rfl rfl rfl rfl ?_
              refine J.name 194 rfl (show _ = Value.bool true by simp; omega) ?_
              refine J.move rfl rfl ?_
              first | refine J.skip rfl rfl rfl rfl rfl ?_ | refine J.skipU rfl rfl rfl rfl ?_ | (refine J.unguard rfl rfl rfl ?_; refine J.move rfl rfl ?_)
              first | refine J.skip rfl rfl rfl rfl rfl ?_ | refine J.skipU rfl rfl rfl rfl ?_ | (refine J.unguard rfl rfl rfl ?_; refine J.move rfl rfl ?_)
              refine J.unguard rfl rfl rfl ?_
              refine J.bin rfl rfl rfl rfl ?_
              refine J.name 198 rfl (show _ = Value.bool true by simp; omega) ?_
              (first | refine J.pickT rfl rfl rfl ?_ | refine J.pickF rfl rfl rfl ?_)
              refine J.nil ?_
              refine JX.thenN (hK18 _ _ ?_)
              first | refine JC.condT rfl ?_ | refine JC.cond rfl (fun _ => ?_) (fun h => by first | (exfalso; simp at h; omega) | (simp at h))
              refine JC.region ?_
              refine J.move rfl rfl ?_
              refine J.move rfl rfl ?_
              refine J.move rfl rfl ?_
              refine J.move rfl rfl ?_
              refine J.move rfl rfl ?_
              refine J.callS (α := List CV) (V := fun _ => .tuple #[]) (Pr := fun Z => SE ltC ((L.take (r - P.length)) ++ (R.take (mid - r))) Z ∧ Srt ltC Z) (L := fun Z => [(q, cb (fC (P ++ (Z ++ (((L.drop (r - P.length)) ++ (R.drop (mid - r))) ++ T))) ++ sp) 75)]) (l1 := [(q, cb (fC (P ++ (((L.take (r - P.length)) ++ (R.take (mid - r))) ++ (((L.drop (r - P.length)) ++ (R.drop (mid - r))) ++ T))) ++ sp) 75)]) (l := []) Ty.bd82 rfl rfl (fun w1 hw => (IH P (L.take (r - P.length)) (R.take (mid - r)) (((L.drop (r - P.length)) ++ (R.drop (mid - r))) ++ T) w1 (by have h := hw.owns; simpa only [List.append_assoc] using h) (by simp only [List.length_append] at *; omega) (by omega) (by omega) (Srt.app.1 hsL).1 (Srt.app.1 hsR).1 (by simp only [List.length_append] at *; omega) _ _ _ (by first | rfl | (simp only [List.length_append] at *; omega)) (by omega) (by omega)).mono fun _ _ ⟨Z, h1, h2, h3⟩ => ⟨Z, h1, h2, by simpa only [List.append_assoc, List.map_cons, List.map_nil] using h3⟩) (fun ZA hA => ?_)
              simp only [List.append_nil]
              refine J.nil ?_
              refine JX.thenN ?_
              exact JX.cut (hK16 ZA) ⟨rfl, rfl, rfl, rfl, rfl, rfl, rfl, rfl, trivial⟩ (fun w1 hw => ⟨hA, hw⟩)
            · skip
              obtain ⟨ZA, hZA⟩ : ∃ Z, (L.take (r - P.length)) ++ (R.take (mid - r)) = Z := ⟨_, rfl⟩
              have hA : SE ltC ((L.take (r - P.length)) ++ (R.take (mid - r))) ZA ∧ Srt ltC ZA := by
                rw [← hZA]
                refine ⟨SE.refl _, ?_⟩
                rcases Nat.eq_zero_or_pos (L.take (r - P.length)).length with h | h
                · rw [List.eq_nil_of_length_eq_zero h, List.nil_append]; exact (Srt.app.1 hsR).1
                · rw [show (R.take (mid - r)) = [] from List.eq_nil_of_length_eq_zero (by omega), List.append_nil]; exact (Srt.app.1 hsL).1
              refine JC.conseq (I' := St w [q] [(q, cb (fC (P ++ (ZA ++ (((L.drop (r - P.length)) ++ (R.drop (mid - r))) ++ T))) ++ sp) 75)]) ?_ (fun w1 hw => by rw [← hZA]; exact hw)
              refine JC.region ?_
              refine J.move rfl rfl ?_
              refine J.move rfl rfl ?_
              refine J.bin rfl rfl rfl rfl ?_
              refine J.name 194 rfl (show _ = Value.bool true by simp; omega) ?_
              refine J.move rfl rfl ?_
              first | refine J.skip rfl rfl rfl rfl rfl ?_ | refine J.skipU rfl rfl rfl rfl ?_ | (refine J.unguard rfl rfl rfl ?_; refine J.move rfl rfl ?_)
              first | refine J.skip rfl rfl rfl rfl rfl ?_ | refine J.skipU rfl rfl rfl rfl ?_ | (refine J.unguard rfl rfl rfl ?_; refine J.move rfl rfl ?_)
              refine J.unguard rfl rfl rfl ?_
              refine J.bin rfl rfl rfl rfl ?_
              refine J.name 198 rfl (show _ = Value.bool false by simp; omega) ?_
              (first | refine J.pickT rfl rfl rfl ?_ | refine J.pickF rfl rfl rfl ?_)
              refine J.nil ?_
              refine JX.thenN (hK18 _ _ ?_)
              first | refine JC.condF rfl ?_ | refine JC.cond rfl (fun h => by first | (exfalso; simp at h; omega) | (simp at h)) (fun _ => ?_)
              refine JC.skip ?_
              refine JX.thenN ?_
              exact JX.cut (hK16 ZA) ⟨rfl, rfl, rfl, rfl, rfl, rfl, rfl, rfl, trivial⟩ (fun w1 hw => ⟨hA, hw⟩)
          · skip
            obtain ⟨ZA, hZA⟩ : ∃ Z, (L.take (r - P.length)) ++ (R.take (mid - r)) = Z := ⟨_, rfl⟩
            have hA : SE ltC ((L.take (r - P.length)) ++ (R.take (mid - r))) ZA ∧ Srt ltC ZA := by
              rw [← hZA]
              refine ⟨SE.refl _, ?_⟩
              rcases Nat.eq_zero_or_pos (L.take (r - P.length)).length with h | h
              · rw [List.eq_nil_of_length_eq_zero h, List.nil_append]; exact (Srt.app.1 hsR).1
              · rw [show (R.take (mid - r)) = [] from List.eq_nil_of_length_eq_zero (by omega), List.append_nil]; exact (Srt.app.1 hsL).1
            refine JC.conseq (I' := St w [q] [(q, cb (fC (P ++ (ZA ++ (((L.drop (r - P.length)) ++ (R.drop (mid - r))) ++ T))) ++ sp) 75)]) ?_ (fun w1 hw => by rw [← hZA]; exact hw)
            refine JC.region ?_
            refine J.move rfl rfl ?_
            refine J.move rfl rfl ?_
            refine J.bin rfl rfl rfl rfl ?_
            refine J.name 194 rfl (show _ = Value.bool false by simp; omega) ?_
            refine J.move rfl rfl ?_
            first | refine J.skip rfl rfl rfl rfl rfl ?_ | refine J.skipU rfl rfl rfl rfl ?_ | (refine J.unguard rfl rfl rfl ?_; refine J.move rfl rfl ?_)
            first | refine J.skip rfl rfl rfl rfl rfl ?_ | refine J.skipU rfl rfl rfl rfl ?_ | (refine J.unguard rfl rfl rfl ?_; refine J.move rfl rfl ?_)
            refine J.skip rfl rfl rfl rfl rfl ?_
            (first | refine J.pickT rfl rfl rfl ?_ | refine J.pickF rfl rfl rfl ?_)
            refine J.nil ?_
            refine JX.thenN (hK18 _ _ ?_)
            first | refine JC.condF rfl ?_ | refine JC.cond rfl (fun h => by first | (exfalso; simp at h; omega) | (simp at h)) (fun _ => ?_)
            refine JC.skip ?_
            refine JX.thenN ?_
            exact JX.cut (hK16 ZA) ⟨rfl, rfl, rfl, rfl, rfl, rfl, rfl, rfl, trivial⟩ (fun w1 hw => ⟨hA, hw⟩)
      · skip
        refine JC.seq (fun K19 hK19 => ?_)
        by_cases hcA : r < P.length + L.length
        · skip
          by_cases hcB : P.length + L.length < (mid + P.length + L.length - r)
          · skip
            refine JC.conseq (I' := St w [q] [(q, cb (fC (P ++ (((L.take (r - P.length)) ++ (L.drop (r - P.length))) ++ (((R.take (mid - r)) ++ (R.drop (mid - r))) ++ T))) ++ sp) 75)]) ?_ (fun w1 hw => by rw [← hLe, ← hRe] at hw; simpa only [List.append_assoc] using hw)
            refine JC.region ?_
            refine J.move rfl rfl ?_
            refine J.move rfl rfl ?_
            refine J.bin rfl rfl rfl rfl ?_
            refine J.name 180 rfl (show _ = Value.bool true by simp; omega) ?_
            refine J.move rfl rfl ?_
            first | refine J.skip rfl rfl rfl rfl rfl ?_ | refine J.skipU rfl rfl rfl rfl ?_ | (refine J.unguard rfl rfl rfl ?_; refine J.move rfl rfl ?_)
            first | refine J.skip rfl rfl rfl rfl rfl ?_ | refine J.skipU rfl rfl rfl rfl ?_ | (refine J.unguard rfl rfl rfl ?_; refine J.move rfl rfl ?_)
            refine J.unguard rfl rfl rfl ?_
            refine J.bin rfl rfl rfl rfl ?_
            refine J.name 184 rfl (show _ = Value.bool true by simp; omega) ?_
            (first | refine J.pickT rfl rfl rfl ?_ | refine J.pickF rfl rfl rfl ?_)
            refine J.nil ?_
            refine JX.thenN (hK19 _ _ ?_)
            first | refine JC.condT rfl ?_ | refine JC.cond rfl (fun _ => ?_) (fun h => by first | (exfalso; simp at h; omega) | (simp at h))
            refine JC.region ?_
            refine J.move rfl rfl ?_
            refine J.move rfl rfl ?_
            refine J.move rfl rfl ?_
            refine J.move rfl rfl ?_
            refine J.move rfl rfl ?_
            refine J.callS (α := Unit) (V := fun _ => .tuple #[]) (Pr := fun _ => True) (L := fun _ => [(q, cb (fC (P ++ (((L.take (r - P.length)) ++ (R.take (mid - r))) ++ (((L.drop (r - P.length)) ++ (R.drop (mid - r))) ++ T))) ++ sp) 75)]) (l1 := [(q, cb (fC (P ++ (((L.take (r - P.length)) ++ (L.drop (r - P.length))) ++ (((R.take (mid - r)) ++ (R.drop (mid - r))) ++ T))) ++ sp) 75)]) (l := []) Ty.bd95 rfl rfl (fun w1 hw => (rotateAt_spec q n c (P ++ (L.take (r - P.length))) (L.drop (r - P.length)) (R.take (mid - r)) ((R.drop (mid - r)) ++ T) sp w1 (by have h := hw.owns; simpa only [List.append_assoc] using h) (by omega) (by omega) (by simp only [List.length_append]; omega) hnc hnb _ _ _ (by simp only [List.length_append]; omega) (by omega) (by omega)).mono fun _ _ ⟨h1, h2⟩ => ⟨(), h1, trivial, by simpa only [List.append_assoc, List.map_cons, List.map_nil] using h2⟩) (fun _ _ => ?_)
            simp only [List.append_nil]
            refine J.nil ?_
            refine JX.thenN ?_
            exact JX.cut (hK15 ()) ⟨rfl, rfl, rfl, rfl, rfl, rfl, rfl, rfl, trivial⟩ (fun w1 hw => hw)
          · skip
            have hno : (L.drop (r - P.length)) = [] ∨ (R.take (mid - r)) = [] := by
              rcases Nat.eq_zero_or_pos (L.drop (r - P.length)).length with h | h
              · exact .inl (List.eq_nil_of_length_eq_zero h)
              · exact .inr (List.eq_nil_of_length_eq_zero (by omega))
            refine JC.conseq (I' := St w [q] [(q, cb (fC (P ++ (((L.take (r - P.length)) ++ (R.take (mid - r))) ++ (((L.drop (r - P.length)) ++ (R.drop (mid - r))) ++ T))) ++ sp) 75)]) ?_ (fun w1 hw => by rw [← hLe, ← hRe] at hw; rcases hno with h | h <;> rw [h] at hw ⊢ <;> simpa only [List.append_assoc, List.nil_append, List.append_nil] using hw)
            refine JC.region ?_
            refine J.move rfl rfl ?_
            refine J.move rfl rfl ?_
            refine J.bin rfl rfl rfl rfl ?_
            refine J.name 180 rfl (show _ = Value.bool true by simp; omega) ?_
            refine J.move rfl rfl ?_
            first | refine J.skip rfl rfl rfl rfl rfl ?_ | refine J.skipU rfl rfl rfl rfl ?_ | (refine J.unguard rfl rfl rfl ?_; refine J.move rfl rfl ?_)
            first | refine J.skip rfl rfl rfl rfl rfl ?_ | refine J.skipU rfl rfl rfl rfl ?_ | (refine J.unguard rfl rfl rfl ?_; refine J.move rfl rfl ?_)
            refine J.unguard rfl rfl rfl ?_
            refine J.bin rfl rfl rfl rfl ?_
            refine J.name 184 rfl (show _ = Value.bool false by simp; omega) ?_
            (first | refine J.pickT rfl rfl rfl ?_ | refine J.pickF rfl rfl rfl ?_)
            refine J.nil ?_
            refine JX.thenN (hK19 _ _ ?_)
            first | refine JC.condF rfl ?_ | refine JC.cond rfl (fun h => by first | (exfalso; simp at h; omega) | (simp at h)) (fun _ => ?_)
            refine JC.skip ?_
            refine JX.thenN ?_
            exact JX.cut (hK15 ()) ⟨rfl, rfl, rfl, rfl, rfl, rfl, rfl, rfl, trivial⟩ (fun w1 hw => hw)
        · skip
          have hno : (L.drop (r - P.length)) = [] ∨ (R.take (mid - r)) = [] := by
            rcases Nat.eq_zero_or_pos (L.drop (r - P.length)).length with h | h
            · exact .inl (List.eq_nil_of_length_eq_zero h)
            · exact .inr (List.eq_nil_of_length_eq_zero (by omega))
          refine JC.conseq (I' := St w [q] [(q, cb (fC (P ++ (((L.take (r - P.length)) ++ (R.take (mid - r))) ++ (((L.drop (r - P.length)) ++ (R.drop (mid - r))) ++ T))) ++ sp) 75)]) ?_ (fun w1 hw => by rw [← hLe, ← hRe] at hw; rcases hno with h | h <;> rw [h] at hw ⊢ <;> simpa only [List.append_assoc, List.nil_append, List.append_nil] using hw)
          refine JC.region ?_
          refine J.move rfl rfl ?_
          refine J.move rfl rfl ?_
          refine J.bin rfl rfl rfl rfl ?_
          refine J.name 180 rfl (show _ = Value.bool false by simp; omega) ?_
          refine J.move rfl rfl ?_
          first | refine J.skip rfl rfl rfl rfl rfl ?_ | refine J.skipU rfl rfl rfl rfl ?_ | (refine J.unguard rfl rfl rfl ?_; refine J.move rfl rfl ?_)
          first | refine J.skip rfl rfl rfl rfl rfl ?_ | refine J.skipU rfl rfl rfl rfl ?_ | (refine J.unguard rfl rfl rfl ?_; refine J.move rfl rfl ?_)
          refine J.skip rfl rfl rfl rfl rfl ?_
          (first | refine J.pickT rfl rfl rfl ?_ | refine J.pickF rfl rfl rfl ?_)
          refine J.nil ?_
          refine JX.thenN (hK19 _ _ ?_)
          first | refine JC.condF rfl ?_ | refine JC.cond rfl (fun h => by first | (exfalso; simp at h; omega) | (simp at h)) (fun _ => ?_)
          refine JC.skip ?_
          refine JX.thenN ?_
          exact JX.cut (hK15 ()) ⟨rfl, rfl, rfl, rfl, rfl, rfl, rfl, rfl, trivial⟩ (fun w1 hw => hw)
  · skip
    refine JC.seq (fun K20 hK20 => ?_)
    by_cases hbig : mid < P.length + L.length
    · skip
      obtain ⟨lo, hlo⟩ : ∃ x, (mid + P.length + L.length - (P.length + L.length + R.length)) = x := ⟨_, rfl⟩
      obtain ⟨hi, hhi⟩ : ∃ x, mid = x := ⟨_, rfl⟩
      have hlohi : lo ≤ hi := by omega
      have hends : (P.length + L.length ≤ mid ∨ P.length + L.length > mid) → ((R.length ≤ mid - lo ∧ hi = mid ∧ lo + R.length = mid) ∨ (lo = P.length ∧ hi = P.length + L.length ∧ P.length + L.length ≤ mid)) := by intro _; omega
      replace hends := hends (by omega)
      have hlo1 : P.length ≤ lo := by omega
      have hhi1 : hi ≤ P.length + L.length := by omega
      have hpc : ∀ c, lo ≤ c → c < hi → P.length + L.length ≤ mid + P.length + L.length - 1 - c ∧ mid + P.length + L.length - 1 - c < P.length + L.length + R.length ∧ c < mid := by intro c _ _; omega
      refine JC.region ?_
      refine J.move rfl rfl ?_
      refine J.move rfl rfl ?_
      refine J.bin rfl rfl rfl rfl ?_
      refine J.name 140 rfl (show _ = Value.bool true by simp; omega) ?_
      refine J.nil ?_
      refine JX.thenN (hK20 _ _ ?_)
      first | refine JC.condT rfl ?_ | refine JC.cond rfl (fun _ => ?_) (fun h => by first | (exfalso; simp at h; omega) | (simp at h))
      refine JC.seq (fun K21 hK21 => ?_)
      refine JC.region ?_
      refine J.move rfl rfl ?_
      refine J.move rfl rfl ?_
      refine J.subN rfl rfl (by omega) (by omega) rfl ?_
      refine J.name 143 rfl (show _ = .int .i64 ((lo : Nat) : Int) from congrArg (Value.int .i64) (by omega)) ?_
      refine J.assign rfl rfl ?_
      refine J.nil ?_
      refine JX.thenN (hK21 _ _ ?_)
      refine JC.region ?_
      refine J.move rfl rfl ?_
      refine J.name 144 rfl (show _ = .int .i64 ((hi : Nat) : Int) from congrArg (Value.int .i64) (by omega)) ?_
      refine J.assign rfl rfl ?_
      refine J.nil ?_
      refine JX.thenN ?_
      exact JX.cut (hK7 ((lo, hi) : Nat × Nat)) ⟨rfl, rfl, rfl, rfl, rfl, rfl, rfl, rfl, rfl, trivial⟩ (fun w1 hw => ⟨⟨hlo1, hlohi, hhi1, hends, hpc⟩, hw⟩)
    · skip
      obtain ⟨lo, hlo⟩ : ∃ x, P.length = x := ⟨_, rfl⟩
      obtain ⟨hi, hhi⟩ : ∃ x, (P.length + L.length) = x := ⟨_, rfl⟩
      have hlohi : lo ≤ hi := by omega
      have hends : (P.length + L.length ≤ mid ∨ P.length + L.length > mid) → ((R.length ≤ mid - lo ∧ hi = mid ∧ lo + R.length = mid) ∨ (lo = P.length ∧ hi = P.length + L.length ∧ P.length + L.length ≤ mid)) := by intro _; omega
      replace hends := hends (by omega)
      have hlo1 : P.length ≤ lo := by omega
      have hhi1 : hi ≤ P.length + L.length := by omega
      have hpc : ∀ c, lo ≤ c → c < hi → P.length + L.length ≤ mid + P.length + L.length - 1 - c ∧ mid + P.length + L.length - 1 - c < P.length + L.length + R.length ∧ c < mid := by intro c _ _; omega
      refine JC.region ?_
      refine J.move rfl rfl ?_
      refine J.move rfl rfl ?_
      refine J.bin rfl rfl rfl rfl ?_
      refine J.name 140 rfl (show _ = Value.bool false by simp; omega) ?_
      refine J.nil ?_
      refine JX.thenN (hK20 _ _ ?_)
      first | refine JC.condF rfl ?_ | refine JC.cond rfl (fun h => by first | (exfalso; simp at h; omega) | (simp at h)) (fun _ => ?_)
      refine JC.seq (fun K22 hK22 => ?_)
      refine JC.region ?_
      refine J.move rfl rfl ?_
      refine J.name 145 rfl (show _ = .int .i64 ((lo : Nat) : Int) from congrArg (Value.int .i64) (by omega)) ?_
      refine J.assign rfl rfl ?_
      refine J.nil ?_
      refine JX.thenN (hK22 _ _ ?_)
      refine JC.region ?_
      refine J.move rfl rfl ?_
      refine J.name 146 rfl (show _ = .int .i64 ((hi : Nat) : Int) from congrArg (Value.int .i64) (by omega)) ?_
      refine J.assign rfl rfl ?_
      refine J.nil ?_
      refine JX.thenN ?_
      exact JX.cut (hK7 ((lo, hi) : Nat × Nat)) ⟨rfl, rfl, rfl, rfl, rfl, rfl, rfl, rfl, rfl, trivial⟩ (fun w1 hw => ⟨⟨hlo1, hlohi, hhi1, hends, hpc⟩, hw⟩)

theorem symMerge_spec (q n c : Nat) (sp : List Value) (hnc : n ≤ c) (hnb : n ≤ 1099511627776) : ∀ (k : Nat) (P L R T : List CV) (w : World), L.length + R.length ≤ k → Own w [(q, cb (fC (P ++ (L ++ (R ++ T))) ++ sp) 75)] → (P ++ (L ++ (R ++ T))).length = n → 0 < L.length → 0 < R.length → Srt ltC L → Srt ltC R → ∀ a m b : Nat, P.length = a → a + L.length = m → m + R.length = b →
    Calls Try.prog 82 [.slice (some ⟨q, 0, none⟩) n c, .int .i64 ((a : Nat) : Int), .int .i64 ((m : Nat) : Int), .int .i64 ((b : Nat) : Int), .func (.func 55) #[] #[]].toArray w fun r w' => ∃ Z : List CV, r = .returned (.tuple #[]) ∧ (SE ltC (L ++ R) Z ∧ Srt ltC Z) ∧ St w [q] [(q, cb (fC (P ++ (Z ++ T)) ++ sp) 75)] w' := by
  intro k
  induction k with
  | zero => intro P L R T w h _ _ hL0; omega
  | succ k ih =>
    intro P L R T w h hw hn hL0 hR0 hL hR a m b ha hm hb
    subst ha
    subst hm
    subst hb
    have IH := (fun (P1 L1 R1 T1 : List CV) (w1 : World) (hw1 : Own w1 [(q, cb (fC (P1 ++ (L1 ++ (R1 ++ T1))) ++ sp) 75)]) (hn1 : (P1 ++ (L1 ++ (R1 ++ T1))).length = n) (hL1 : 0 < L1.length) (hR1 : 0 < R1.length) (sL : Srt ltC L1) (sR : Srt ltC R1) (hlt : L1.length + R1.length < L.length + R.length) => ih P1 L1 R1 T1 w1 (by omega) hw1 hn1 hL1 hR1 sL sR)
    rcases Nat.lt_or_ge L.length 2 with h1 | h1
    · exact symMerge_left q n c sp hnc hnb P L R T w hw hn hL0 hR0 hL hR (by omega) IH
    rcases Nat.lt_or_ge R.length 2 with h2 | h2
    · exact symMerge_right q n c sp hnc hnb P L R T w hw hn hL0 hR0 hL hR h1 (by omega) IH
    exact symMerge_main q n c sp hnc hnb P L R T w hw hn hL0 hR0 hL hR h1 h2 IH
end Go.Proofs.Ytbafhclandendaa
/-
  Stable sorting of up to 40 candidates: contracts.
-/
namespace Go.Proofs.Ytbafhclandendaa
open Go.J Go.RowKit
set_option linter.unusedVariables false
set_option linter.unusedSimpArgs false
set_option maxRecDepth 8000
/-- blocks of 20, of which the first a candidates are sorted -/
structure StS where
  a : Nat
  D : List CV
structure StI (xs : List CV) (s : StS) : Prop where
  a : s.a = 0 ∨ s.a = 20 ∨ s.a = 40
  le : s.a ≤ xs.length
  len : s.D.length = s.a
  se : SE ltC (xs.take s.a) s.D
  s1 : Srt ltC (s.D.take 20)
  s2 : Srt ltC (s.D.drop 20)
theorem StI.start (xs : List CV) : StI xs ⟨0, []⟩ := ⟨.inl rfl, Nat.zero_le _, rfl, SE.refl _, .nil, .nil⟩
/-- one block more -/
theorem StI.more {xs S : List CV} {a b : Nat} {D : List CV} (h : StI xs ⟨a, D⟩) (hb : a ≤ b) (hbl : b ≤ xs.length) (hS : SE ltC ((xs.take b).drop a) S) (sS : Srt ltC S) (h20 : a = 0 → b ≤ 20) (h40 : a = 40 → b = 40) :
    SE ltC (xs.take b) (D ++ S) ∧ Srt ltC ((D ++ S).take 20) ∧ Srt ltC ((D ++ S).drop 20) ∧ (D ++ S).length = b := by
  obtain ⟨h1, h2, h3, h4, h5, h6⟩ := h
  simp only at h1 h2 h3 h4 h5 h6
  have hl := hS.length swoC
  rw [List.length_drop, List.length_take] at hl
  have e : xs.take b = xs.take a ++ (xs.take b).drop a := by
    have := (List.take_append_drop a (xs.take b)).symm
    rwa [List.take_take, Nat.min_eq_left hb] at this
  refine ⟨by rw [e]; exact h4.app hS, ?_, ?_, by rw [List.length_append]; omega⟩
  · rcases h1 with h | h | h
    · have : D = [] := List.eq_nil_of_length_eq_zero (by omega)
      rw [this, List.nil_append, List.take_of_length_le (by omega)]; exact sS
    · rw [List.take_append_of_le_length (by omega)]; exact h5
    · have : S = [] := List.eq_nil_of_length_eq_zero (by omega)
      rw [this, List.append_nil]; exact h5
  · rcases h1 with h | h | h
    · have : D = [] := List.eq_nil_of_length_eq_zero (by omega)
      rw [this, List.nil_append, List.drop_eq_nil_of_le (by omega)]; exact .nil
    · rw [List.drop_append_of_le_length (by omega), List.drop_eq_nil_of_le (by omega), List.nil_append]; exact sS
    · have : S = [] := List.eq_nil_of_length_eq_zero (by omega)
      rw [this, List.append_nil]; exact h6

theorem insertion0_spec (v : Value) (w : World) :
    Calls Try.prog 81 [v, .int .i64 ((0 : Nat) : Int), .int .i64 ((0 : Nat) : Int), .func (.func 55) #[] #[]].toArray w fun r w' => r = .returned (.tuple #[]) ∧ Bel w w' := by
  refine calls_of_J (args := [v, .int .i64 ((0 : Nat) : Int), .int .i64 ((0 : Nat) : Int), .func (.func 55) #[] #[]]) (e := [(0, v), (1, .int .i64 ((0 : Nat) : Int)), (2, .int .i64 ((0 : Nat) : Int)), (3, .func (.func 55) #[] #[])]) Try.func81 rfl rfl ⟨rfl, rfl, rfl, rfl, trivial⟩ (St.start w) ?_
  refine JC.seq (fun K0 hK0 => ?_)
  refine JC.region ?_
  refine J.move rfl rfl ?_
  refine J.addN rfl rfl (by omega) (by omega) rfl ?_
  refine J.name 11 rfl (show _ = Value.int .i64 ((1 : Nat) : Int) from congrArg (Value.int .i64) (by omega)) ?_
  refine J.assign rfl rfl ?_
  refine J.nil ?_
  refine JX.thenN (hK0 _ _ ?_)
  refine JC.block ?_
  refine JC.conseq (JC.cov (f := (fun u : Unit => [(0, v), (2, .int .i64 ((0 : Nat) : Int)), (8, .int .i64 ((1 : Nat) : Int))]) ()) ⟨rfl, rfl, rfl, trivial⟩ (JC.loop (α := Unit) (fun _ => [(0, v), (2, .int .i64 ((0 : Nat) : Int)), (8, .int .i64 ((1 : Nat) : Int))]) (fun _ w1 => St w [] [] w1) (fun _ => 0) () (fun u => ?_))) (fun w1 hw => hw)
  refine JC.seq (fun K1 hK1 => ?_)
  refine JC.seq (fun K2 hK2 => ?_)
  refine JC.region ?_
  refine J.move rfl rfl ?_
  refine J.move rfl rfl ?_
  refine J.bin rfl rfl rfl rfl ?_
  refine J.nil ?_
  refine JX.thenN (hK2 _ _ ?_)
  first | refine JC.condF rfl ?_ | refine JC.cond rfl (fun h => by first | (exfalso; simp at h; omega) | (simp at h)) (fun _ => ?_)
  refine JC.exit ?_
  refine JX.thenE ?_
  refine JX.thenE ?_
  refine JX.blockE ?_
  refine JX.end0 rfl (fun w1 hw => ?_)
  exact ⟨rfl, (hw.drop (List.nil_sublist _)).below⟩

theorem stable0_spec (v : Value) (w : World) :
    Calls Try.prog 72 [v, .int .i64 ((0 : Nat) : Int), .func (.func 55) #[] #[]].toArray w fun r w' => r = .returned (.tuple #[]) ∧ Bel w w' := by
  refine calls_of_J (args := [v, .int .i64 ((0 : Nat) : Int), .func (.func 55) #[] #[]]) (e := [(0, v), (1, .int .i64 ((0 : Nat) : Int)), (2, .func (.func 55) #[] #[])]) Try.func72 rfl rfl ⟨rfl, rfl, rfl, trivial⟩ (St.start w) ?_
  refine JC.seq (fun K0 hK0 => ?_)
  refine JC.region ?_
  refine J.assign rfl rfl ?_
  refine J.nil ?_
  refine JX.thenN (hK0 _ _ ?_)
  refine JC.seq (fun K1 hK1 => ?_)
  refine JC.region ?_
  refine J.move rfl rfl ?_
  refine J.assign rfl rfl ?_
  refine J.name 7 rfl (show _ = .int .i64 ((0 : Nat) : Int) from rfl) ?_
  refine J.assign rfl rfl ?_
  refine J.nil ?_
  refine JX.thenN (hK1 _ _ ?_)
  refine JC.seq (fun K2 hK2 => ?_)
  refine JC.block ?_
  refine JC.conseq (JC.cov (f := (fun u : Unit => [(0, v), (1, .int .i64 ((0 : Nat) : Int)), (2, .func (.func 55) #[] #[]), (6, .int .i64 20), (7, .int .i64 ((0 : Nat) : Int)), (8, .int .i64 20)]) ()) ⟨rfl, rfl, rfl, rfl, rfl, rfl, trivial⟩ (JC.loop (α := Unit) (fun _ => [(0, v), (1, .int .i64 ((0 : Nat) : Int)), (2, .func (.func 55) #[] #[]), (6, .int .i64 20), (7, .int .i64 ((0 : Nat) : Int)), (8, .int .i64 20)]) (fun _ w1 => St w [] [] w1) (fun _ => 0) () (fun u => ?_))) (fun w1 hw => hw)
  refine JC.seq (fun K3 hK3 => ?_)
  refine JC.seq (fun K4 hK4 => ?_)
  refine JC.region ?_
  refine J.move rfl rfl ?_
  refine J.move rfl rfl ?_
  refine J.bin rfl rfl rfl rfl ?_
  refine J.nil ?_
  refine JX.thenN (hK4 _ _ ?_)
  first | refine JC.condF rfl ?_ | refine JC.cond rfl (fun h => by first | (exfalso; simp at h; omega) | (simp at h)) (fun _ => ?_)
  refine JC.exit ?_
  refine JX.thenE ?_
  refine JX.thenE ?_
  refine JX.blockE ?_
  refine JX.thenN (hK2 _ _ ?_)
  refine JC.seq (fun K5 hK5 => ?_)
  refine JC.region ?_
  refine J.move rfl rfl ?_
  refine J.move rfl rfl ?_
  refine J.move rfl rfl ?_
  refine J.move rfl rfl ?_
  refine J.callB (v := .tuple #[]) (fun w1 w2 hw hb => hw.step hb) Ty.bd81 rfl rfl (fun w1 hw => insertion0_spec _ w1) ?_
  refine J.nil ?_
  refine JX.thenN (hK5 _ _ ?_)
  refine JC.block ?_
  refine JC.conseq (JC.cov (f := (fun u : Unit => [(0, v), (1, .int .i64 ((0 : Nat) : Int)), (6, .int .i64 20)]) ()) ⟨rfl, rfl, rfl, trivial⟩ (JC.loop (α := Unit) (fun _ => [(0, v), (1, .int .i64 ((0 : Nat) : Int)), (6, .int .i64 20)]) (fun _ w1 => St w [] [] w1) (fun _ => 0) () (fun u => ?_))) (fun w1 hw => hw)
  refine JC.seq (fun K6 hK6 => ?_)
  refine JC.seq (fun K7 hK7 => ?_)
  refine JC.region ?_
  refine J.move rfl rfl ?_
  refine J.move rfl rfl ?_
  refine J.bin rfl rfl rfl rfl ?_
  refine J.nil ?_
  refine JX.thenN (hK7 _ _ ?_)
  first | refine JC.condF rfl ?_ | refine JC.cond rfl (fun h => by first | (exfalso; simp at h; omega) | (simp at h)) (fun _ => ?_)
  refine JC.exit ?_
  refine JX.thenE ?_
  refine JX.thenE ?_
  refine JX.blockE ?_
  refine JX.end0 rfl (fun w1 hw => ?_)
  exact ⟨rfl, (hw.drop (List.nil_sublist _)).below⟩

theorem sortStable0_spec (a : Option Addr) (c : Nat) (w : World) :
    Calls Try.prog 54 [.slice a 0 c, .func (.func 55) #[] #[]].toArray w fun r w' => r = .returned (.tuple #[]) ∧ Bel w w' := by
  refine calls_of_J (args := [.slice a 0 c, .func (.func 55) #[] #[]]) (e := [(0, .slice a 0 c), (1, .func (.func 55) #[] #[])]) Try.func54 rfl rfl ⟨rfl, rfl, trivial⟩ (St.start w) ?_
  refine JC.region ?_
  refine J.move rfl rfl ?_
  refine J.move rfl rfl ?_
  refine J.lenS rfl Ty.u68 rfl rfl ?_
  refine J.move rfl rfl ?_
  refine J.callB (v := .tuple #[]) (fun w1 w2 hw hb => hw.step hb) Ty.bd72 rfl rfl (fun w1 hw => stable0_spec _ w1) ?_
  refine J.nil ?_
  refine JX.end0 rfl (fun w1 hw => ?_)
  exact ⟨rfl, (hw.drop (List.nil_sublist _)).below⟩

set_option maxHeartbeats 4000000 in
theorem stable_spec (q n c : Nat) (xs : List CV) (sp : List Value) (w : World) (hw0 : Own w [(q, cb (fC (xs) ++ sp) 75)]) (hn : xs.length = n) (hnc : n ≤ c) (hn40 : n ≤ 40) :
    Calls Try.prog 72 [.slice (some ⟨q, 0, none⟩) n c, .int .i64 ((n : Nat) : Int), .func (.func 55) #[] #[]].toArray w fun r w' => ∃ Z : List CV, r = .returned (.tuple #[]) ∧ (SE ltC xs Z ∧ Srt ltC Z) ∧ St w [q] [(q, cb (fC (Z) ++ sp) 75)] w' := by
  refine calls_of_J (args := [.slice (some ⟨q, 0, none⟩) n c, .int .i64 ((n : Nat) : Int), .func (.func 55) #[] #[]]) (e := [(0, .slice (some ⟨q, 0, none⟩) n c), (1, .int .i64 ((n : Nat) : Int)), (2, .func (.func 55) #[] #[])]) Try.func72 rfl rfl ⟨rfl, rfl, rfl, trivial⟩ (hw0.st) ?_
  refine JC.seq (fun K0 hK0 => ?_)
  refine JC.region ?_
  refine J.assign rfl rfl ?_
  refine J.nil ?_
  refine JX.thenN (hK0 _ _ ?_)
  refine JC.seq (fun K1 hK1 => ?_)
  refine JC.region ?_
  refine J.move rfl rfl ?_
  refine J.assign rfl rfl ?_
  refine J.name 7 rfl (show _ = .int .i64 ((0 : Nat) : Int) from rfl) ?_
  refine J.assign rfl rfl ?_
  refine J.name 8 rfl (show _ = .int .i64 (((0 + 20) : Nat) : Int) from rfl) ?_
  refine J.nil ?_
  refine JX.thenN (hK1 _ _ ?_)
  refine JC.seq (fun K2 hK2 => ?_)
  refine JC.block ?_
  refine JC.conseq (JC.cov (f := (fun st => [(0, .slice (some ⟨q, 0, none⟩) n c), (1, .int .i64 ((n : Nat) : Int)), (2, .func (.func 55) #[] #[]), (6, .int .i64 20), (7, .int .i64 ((st.a : Nat) : Int)), (8, .int .i64 (((st.a + 20) : Nat) : Int))]) (⟨0, []⟩ : StS)) ⟨rfl, rfl, rfl, rfl, rfl, rfl, trivial⟩ (JC.loop (α := StS) (fun st => [(0, .slice (some ⟨q, 0, none⟩) n c), (1, .int .i64 ((n : Nat) : Int)), (2, .func (.func 55) #[] #[]), (6, .int .i64 20), (7, .int .i64 ((st.a : Nat) : Int)), (8, .int .i64 (((st.a + 20) : Nat) : Int))]) (fun st w' => StI xs st ∧ St w [q] [(q, cb (fC (st.D ++ xs.drop st.a) ++ sp) 75)] w') (fun st => n - st.a) (⟨0, []⟩ : StS) (fun st => ?_))) (fun w hw => ⟨.start xs, hw⟩)
  obtain ⟨a, D⟩ := st
  refine JC.pr (fun hI => ?_)
  have hIa := hI.a
  have hIl := hI.len
  have hIle := hI.le
  try simp only at hIa hIl hIle ⊢
  refine JC.seq (fun K3 hK3 => ?_)
  refine JC.seq (fun K4 hK4 => ?_)
  refine JC.region ?_
  refine J.move rfl rfl ?_
  refine J.move rfl rfl ?_
  refine J.bin rfl rfl rfl rfl ?_
  refine J.nil ?_
  refine JX.thenN (hK4 _ _ ?_)
  refine JC.cond rfl (fun h0 => ?_) (fun h0 => ?_)
  · skip
    have hab : a + 20 ≤ n := by
      have h9 : (a + 20 : Int) ≤ n := by simpa using h0
      omega
    refine JC.skip ?_
    refine JX.thenN (hK3 _ _ ?_)
    refine JC.block ?_
    refine JC.seq (fun K5 hK5 => ?_)
    have hsp : xs.drop a = (xs.take (a + 20)).drop a ++ xs.drop (a + 20) := by
      have h1 := (List.take_append_drop (a + 20) xs).symm
      have h2 : xs.drop a = ((xs.take (a + 20)) ++ xs.drop (a + 20)).drop a := by rw [← h1]
      rw [h2, List.drop_append_of_le_length (by rw [List.length_take]; omega)]
    have hLX : ((xs.take (a + 20)).drop a).length = 20 := by rw [List.length_drop, List.length_take]; omega
    refine JC.conseq (I' := St w [q] [(q, cb (fC (D ++ ((xs.take (a + 20)).drop a ++ xs.drop (a + 20))) ++ sp) 75)]) ?_ (fun w1 hw => by rw [hsp] at hw; exact hw)
    refine JC.region ?_
    refine J.move rfl rfl ?_
    refine J.move rfl rfl ?_
    refine J.name 15 rfl (show _ = .int .i64 ((D.length : Nat) : Int) from congrArg (Value.int .i64) (by omega)) ?_
    refine J.move rfl rfl ?_
    refine J.name 16 rfl (show _ = .int .i64 (((D.length + ((xs.take (a + 20)).drop a).length) : Nat) : Int) from congrArg (Value.int .i64) (by omega)) ?_
    refine J.move rfl rfl ?_
    refine J.callS (α := List CV) (V := fun _ => .tuple #[]) (Pr := fun Z => SE ltC ((xs.take (a + 20)).drop a) Z ∧ Srt ltC Z) (L := fun Z => [(q, cb (fC (D ++ (Z ++ (xs.drop (a + 20)))) ++ sp) 75)]) (l1 := [(q, cb (fC (D ++ (((xs.take (a + 20)).drop a) ++ (xs.drop (a + 20)))) ++ sp) 75)]) (l := []) Ty.bd81 rfl rfl (fun w1 hw => insertion_spec q n c D ((xs.take (a + 20)).drop a) (xs.drop (a + 20)) sp w1 hw.owns (by simp only [List.length_append, List.length_drop, List.length_take, List.length_nil]; omega) hnc (by omega)) (fun S hS => ?_)
    simp only [List.append_nil]
    obtain ⟨hm1, hm2, hm3, hm4⟩ := hI.more (b := a + 20) (by omega) (by omega) hS.1 hS.2 (by omega) (by omega)
    refine J.conseq (I' := St w [q] [(q, cb (fC ((D ++ S) ++ xs.drop (a + 20)) ++ sp) 75)]) ?_ (fun w1 hw => by rw [List.append_assoc]; exact hw)
    refine J.nil ?_
    refine JX.thenN (hK5 _ _ ?_)
    refine JC.seq (fun K6 hK6 => ?_)
    refine JC.region ?_
    refine J.move rfl rfl ?_
    refine J.assign rfl rfl ?_
    refine J.nil ?_
    refine JX.thenN (hK6 _ _ ?_)
    refine JC.region ?_
    refine J.move rfl rfl ?_
    refine J.move rfl rfl ?_
    refine J.addN rfl rfl (by omega) (by omega) rfl ?_
    refine J.name 22 rfl (show _ = Value.int .i64 (((a + 20 + 20) : Nat) : Int) from congrArg (Value.int .i64) (by omega)) ?_
    refine J.assign rfl rfl ?_
    refine J.nil ?_
    refine JX.blockN ?_
    refine JX.thenN ?_
    refine JX.again (⟨a + 20, D ++ S⟩ : StS) ?_ ?_ ?_
    · simp only; omega
    · exact ⟨rfl, rfl, rfl, rfl, rfl, rfl, trivial⟩
    · exact fun w1 hw => ⟨⟨by show a + 20 = 0 ∨ a + 20 = 20 ∨ a + 20 = 40; omega, by show a + 20 ≤ xs.length; omega, hm4, hm1, hm2, hm3⟩, hw⟩
  · skip
    have hab : ¬ a + 20 ≤ n := by
      have h9 : ¬ ((a + 20 : Int) ≤ n) := by simpa using h0
      omega
    refine JC.exit ?_
    refine JX.thenE ?_
    refine JX.thenE ?_
    refine JX.blockE ?_
    refine JX.thenN (hK2 _ _ ?_)
    refine JC.seq (fun K7 hK7 => ?_)
    refine JC.conseq (I' := St w [q] [(q, cb (fC (D ++ (xs.drop a ++ [])) ++ sp) 75)]) ?_ (fun w1 hw => by rw [List.append_nil]; exact hw)
    refine JC.region ?_
    refine J.move rfl rfl ?_
    refine J.move rfl rfl ?_
    refine J.name 24 rfl (show _ = .int .i64 ((D.length : Nat) : Int) from congrArg (Value.int .i64) (by omega)) ?_
    refine J.move rfl rfl ?_
    refine J.name 25 rfl (show _ = .int .i64 (((D.length + (xs.drop a).length) : Nat) : Int) from congrArg (Value.int .i64) (by rw [List.length_drop]; omega)) ?_
    refine J.move rfl rfl ?_
    refine J.callS (α := List CV) (V := fun _ => .tuple #[]) (Pr := fun Z => SE ltC (xs.drop a) Z ∧ Srt ltC Z) (L := fun Z => [(q, cb (fC (D ++ (Z ++ ([]))) ++ sp) 75)]) (l1 := [(q, cb (fC (D ++ ((xs.drop a) ++ ([]))) ++ sp) 75)]) (l := []) Ty.bd81 rfl rfl (fun w1 hw => insertion_spec q n c D (xs.drop a) ([]) sp w1 hw.owns (by simp only [List.length_append, List.length_drop, List.length_take, List.length_nil]; omega) hnc (by omega)) (fun S hS => ?_)
    simp only [List.append_nil]
    obtain ⟨hm1, hm2, hm3, hm4⟩ := hI.more (b := n) (by omega) (by omega) (by rw [List.take_of_length_le (by omega)]; exact hS.1) hS.2 (by omega) (by omega)
    rw [List.take_of_length_le (by omega)] at hm1
    obtain ⟨Fx, hFx⟩ : ∃ F, D ++ S = F := ⟨_, rfl⟩
    rw [hFx] at hm1 hm2 hm3 hm4
    refine J.conseq (I' := St w [q] [(q, cb (fC (Fx) ++ sp) 75)]) ?_ (fun w1 hw => by rw [← hFx]; first | (rw [List.append_nil] at hw; exact hw) | exact hw)
    refine J.nil ?_
    refine JX.thenN (hK7 _ _ ?_)
    refine JC.block ?_
    refine JC.conseq (JC.cov (f := (fun st => [(0, .slice (some ⟨q, 0, none⟩) n c), (1, .int .i64 ((n : Nat) : Int)), (2, .func (.func 55) #[] #[]), (6, .int .i64 ((st.1 : Nat) : Int))]) ((20, Fx) : Nat × List CV)) ⟨rfl, rfl, rfl, rfl, trivial⟩ (JC.loop (α := Nat × List CV) (fun st => [(0, .slice (some ⟨q, 0, none⟩) n c), (1, .int .i64 ((n : Nat) : Int)), (2, .func (.func 55) #[] #[]), (6, .int .i64 ((st.1 : Nat) : Int))]) (fun st w' => ((st.1 = 20 ∨ st.1 = 40) ∧ SE ltC xs st.2 ∧ st.2.length = n ∧ (st.1 = 20 → Srt ltC (st.2.take 20) ∧ Srt ltC (st.2.drop 20)) ∧ (st.1 = 40 → Srt ltC st.2)) ∧ St w [q] [(q, cb (fC (st.2) ++ sp) 75)] w') (fun st => 100 - st.1) ((20, Fx) : Nat × List CV) (fun st => ?_))) (fun w hw => ⟨⟨.inl rfl, hm1, hm4, fun _ => ⟨hm2, hm3⟩, fun h => by cases h⟩, hw⟩)
    obtain ⟨bs, G⟩ := st
    refine JC.pr (fun hG => ?_)
    obtain ⟨hbs, hse, hGl, hG2, hG4⟩ := hG
    try simp only at hbs hse hGl hG2 hG4 ⊢
    refine JC.seq (fun K8 hK8 => ?_)
    refine JC.seq (fun K9 hK9 => ?_)
    refine JC.region ?_
    refine J.move rfl rfl ?_
    refine J.move rfl rfl ?_
    refine J.bin rfl rfl rfl rfl ?_
    refine J.nil ?_
    refine JX.thenN (hK9 _ _ ?_)
    refine JC.cond rfl (fun h1 => ?_) (fun h1 => ?_)
    · skip
      have hbn : bs < n := by simpa using h1
      obtain rfl : 20 = bs := by omega
      refine JC.skip ?_
      refine JX.thenN (hK8 _ _ ?_)
      refine JC.block ?_
      refine JC.seq (fun K10 hK10 => ?_)
      refine JC.region ?_
      refine J.move rfl rfl ?_
      refine J.bin rfl rfl rfl rfl ?_
      refine J.name 32 rfl (show _ = .int .i64 (((0 + 40) : Nat) : Int) from rfl) ?_
      refine J.assign rfl rfl ?_
      refine J.name 7 rfl (show _ = .int .i64 ((0 : Nat) : Int) from rfl) ?_
      refine J.assign rfl rfl ?_
      refine J.nil ?_
      refine JX.thenN (hK10 _ _ ?_)
      refine JC.seq (fun K11 hK11 => ?_)
      refine JC.block ?_
      refine JC.conseq (JC.cov (f := (fun st => [(0, .slice (some ⟨q, 0, none⟩) n c), (1, .int .i64 ((n : Nat) : Int)), (2, .func (.func 55) #[] #[]), (6, .int .i64 ((20 : Nat) : Int)), (7, .int .i64 ((st.1 : Nat) : Int)), (8, .int .i64 (((st.1 + 40) : Nat) : Int))]) ((0, G) : Nat × List CV)) ⟨rfl, rfl, rfl, rfl, rfl, rfl, trivial⟩ (JC.loop (α := Nat × List CV) (fun st => [(0, .slice (some ⟨q, 0, none⟩) n c), (1, .int .i64 ((n : Nat) : Int)), (2, .func (.func 55) #[] #[]), (6, .int .i64 ((20 : Nat) : Int)), (7, .int .i64 ((st.1 : Nat) : Int)), (8, .int .i64 (((st.1 + 40) : Nat) : Int))]) (fun st w' => (SE ltC xs st.2 ∧ st.2.length = n ∧ ((st.1 = 0 ∧ Srt ltC (st.2.take 20) ∧ Srt ltC (st.2.drop 20)) ∨ (st.1 = 40 ∧ n = 40 ∧ Srt ltC st.2))) ∧ St w [q] [(q, cb (fC (st.2) ++ sp) 75)] w') (fun st => 100 - st.1) ((0, G) : Nat × List CV) (fun st => ?_))) (fun w hw => ⟨⟨hse, hGl, .inl ⟨rfl, hG2 rfl⟩⟩, hw⟩)
      obtain ⟨a2, K⟩ := st
      refine JC.pr (fun hK => ?_)
      obtain ⟨hseK, hKl, hK2⟩ := hK
      try simp only at hseK hKl hK2 ⊢
      refine JC.seq (fun K12 hK12 => ?_)
      refine JC.seq (fun K13 hK13 => ?_)
      refine JC.region ?_
      refine J.move rfl rfl ?_
      refine J.move rfl rfl ?_
      refine J.bin rfl rfl rfl rfl ?_
      refine J.nil ?_
      refine JX.thenN (hK13 _ _ ?_)
      refine JC.cond rfl (fun h2 => ?_) (fun h2 => ?_)
      · skip
        have han : a2 + 40 ≤ n := by
          have h9 : (a2 + 40 : Int) ≤ n := by simpa using h2
          omega
        obtain ⟨ha0, hKs⟩ : a2 = 0 ∧ Srt ltC (K.take 20) ∧ Srt ltC (K.drop 20) := by
          rcases hK2 with h | ⟨h, _⟩
          · exact h
          · omega
        subst ha0
        refine JC.skip ?_
        refine JX.thenN (hK12 _ _ ?_)
        refine JC.block ?_
        refine JC.seq (fun K14 hK14 => ?_)
        refine JC.region ?_
        refine J.move rfl rfl ?_
        refine J.move rfl rfl ?_
        refine J.move rfl rfl ?_
        refine J.move rfl rfl ?_
        refine J.addN rfl rfl (by omega) (by omega) rfl ?_
        refine J.name 40 rfl (show _ = .int .i64 ((20 : Nat) : Int) from rfl) ?_
        refine J.move rfl rfl ?_
        refine J.name 41 rfl (show _ = .int .i64 ((n : Nat) : Int) from congrArg (Value.int .i64) (by omega)) ?_
        refine J.move rfl rfl ?_
        refine J.conseq (I' := St w [q] [(q, cb (fC (([] : List CV) ++ ((K.take 20 ++ (K.drop 20 ++ ([] : List CV))))) ++ sp) 75)]) ?_ (fun w1 hw => by rw [List.nil_append, List.append_nil, List.take_append_drop]; exact hw)
        refine J.callS (α := List CV) (V := fun _ => .tuple #[]) (Pr := fun Z => SE ltC (K.take 20 ++ K.drop 20) Z ∧ Srt ltC Z) (L := fun Z => [(q, cb (fC (([] : List CV) ++ (Z ++ ([] : List CV))) ++ sp) 75)]) (l1 := [(q, cb (fC (([] : List CV) ++ ((K.take 20 ++ (K.drop 20 ++ ([] : List CV))))) ++ sp) 75)]) (l := []) Ty.bd82 rfl rfl (fun w1 hw => symMerge_spec q n c sp hnc (by omega) _ [] (K.take 20) (K.drop 20) [] w1 (Nat.le_refl _) hw.owns (by simp only [List.length_append, List.length_take, List.length_drop, List.length_nil]; omega) (by rw [List.length_take]; omega) (by rw [List.length_drop]; omega) hKs.1 hKs.2 0 20 n rfl (by simp only [List.length_take, List.length_nil]; omega) (by rw [List.length_drop]; omega)) (fun Z hZ => ?_)
        simp only [List.append_nil, List.nil_append]
        rw [List.take_append_drop] at hZ
        have hZl : Z.length = n := by rw [← hZ.1.length swoC]; exact hKl
        have hseZ := hseK.trans hZ.1
        refine J.nil ?_
        refine JX.thenN (hK14 _ _ ?_)
        refine JC.seq (fun K15 hK15 => ?_)
        refine JC.region ?_
        refine J.move rfl rfl ?_
        refine J.assign rfl rfl ?_
        refine J.nil ?_
        refine JX.thenN (hK15 _ _ ?_)
        refine JC.region ?_
        refine J.move rfl rfl ?_
        refine J.move rfl rfl ?_
        refine J.bin rfl rfl rfl rfl ?_
        refine J.name 47 rfl (show _ = .int .i64 ((40 : Nat) : Int) from rfl) ?_
        refine J.addN rfl rfl (by omega) (by omega) rfl ?_
        refine J.name 48 rfl (show _ = .int .i64 (((40 + 40) : Nat) : Int) from rfl) ?_
        refine J.assign rfl rfl ?_
        refine J.nil ?_
        refine JX.blockN ?_
        refine JX.thenN ?_
        refine JX.again ((40, Z) : Nat × List CV) ?_ ?_ ?_
        · simp only; omega
        · exact ⟨rfl, rfl, rfl, rfl, rfl, rfl, trivial⟩
        · exact fun w1 hw => ⟨⟨hseZ, hZl, .inr ⟨rfl, by omega, hZ.2⟩⟩, hw⟩
      · skip
        have han : ¬ a2 + 40 ≤ n := by
          have h9 : ¬ ((a2 + 40 : Int) ≤ n) := by simpa using h2
          omega
        refine JC.exit ?_
        refine JX.thenE ?_
        refine JX.thenE ?_
        refine JX.blockE ?_
        refine JX.thenN (hK11 _ _ ?_)
        refine JC.seq (fun K16 hK16 => ?_)
        refine JC.seq (fun K17 hK17 => ?_)
        refine JC.region ?_
        refine J.move rfl rfl ?_
        refine J.move rfl rfl ?_
        refine J.addN rfl rfl (by omega) (by omega) rfl ?_
        refine J.name 51 rfl (show _ = Value.int .i64 (((a2 + 20) : Nat) : Int) from congrArg (Value.int .i64) (by omega)) ?_
        refine J.assign rfl rfl ?_
        refine J.nil ?_
        refine JX.thenN (hK17 _ _ ?_)
        refine JC.seq (fun K18 hK18 => ?_)
        refine JC.region ?_
        refine J.move rfl rfl ?_
        refine J.move rfl rfl ?_
        refine J.bin rfl rfl rfl rfl ?_
        refine J.nil ?_
        refine JX.thenN (hK18 _ _ ?_)
        refine JC.cond rfl (fun h3 => ?_) (fun h3 => ?_)
        · skip
          have ha20 : a2 + 20 < n := by
            have h9 : (a2 + 20 : Int) < n := by simpa using h3
            omega
          obtain ⟨ha0, hKs⟩ : a2 = 0 ∧ Srt ltC (K.take 20) ∧ Srt ltC (K.drop 20) := by
            rcases hK2 with h | ⟨h, _⟩
            · exact h
            · omega
          subst ha0
          refine JC.region ?_
          refine J.move rfl rfl ?_
          refine J.move rfl rfl ?_
          refine J.move rfl rfl ?_
          refine J.name 57 rfl (show _ = .int .i64 ((20 : Nat) : Int) from rfl) ?_
          refine J.move rfl rfl ?_
          refine J.move rfl rfl ?_
          refine J.conseq (I' := St w [q] [(q, cb (fC (([] : List CV) ++ ((K.take 20 ++ (K.drop 20 ++ ([] : List CV))))) ++ sp) 75)]) ?_ (fun w1 hw => by rw [List.nil_append, List.append_nil, List.take_append_drop]; exact hw)
          refine J.callS (α := List CV) (V := fun _ => .tuple #[]) (Pr := fun Z => SE ltC (K.take 20 ++ K.drop 20) Z ∧ Srt ltC Z) (L := fun Z => [(q, cb (fC (([] : List CV) ++ (Z ++ ([] : List CV))) ++ sp) 75)]) (l1 := [(q, cb (fC (([] : List CV) ++ ((K.take 20 ++ (K.drop 20 ++ ([] : List CV))))) ++ sp) 75)]) (l := []) Ty.bd82 rfl rfl (fun w1 hw => symMerge_spec q n c sp hnc (by omega) _ [] (K.take 20) (K.drop 20) [] w1 (Nat.le_refl _) hw.owns (by simp only [List.length_append, List.length_take, List.length_drop, List.length_nil]; omega) (by rw [List.length_take]; omega) (by rw [List.length_drop]; omega) hKs.1 hKs.2 0 20 n rfl (by simp only [List.length_take, List.length_nil]; omega) (by rw [List.length_drop]; omega)) (fun Z hZ => ?_)
          simp only [List.append_nil, List.nil_append]
          rw [List.take_append_drop] at hZ
          have hZl : Z.length = n := by rw [← hZ.1.length swoC]; exact hKl
          have hseZ := hseK.trans hZ.1
          refine J.nil ?_
          refine JX.thenN (hK16 _ _ ?_)
          refine JC.region ?_
          refine J.move rfl rfl ?_
          refine J.bin rfl rfl rfl rfl ?_
          refine J.name 62 rfl (show _ = .int .i64 ((40 : Nat) : Int) from rfl) ?_
          refine J.assign rfl rfl ?_
          refine J.nil ?_
          refine JX.blockN ?_
          refine JX.thenN ?_
          refine JX.again ((40, Z) : Nat × List CV) ?_ ?_ ?_
          · simp only; omega
          · exact ⟨rfl, rfl, rfl, rfl, trivial⟩
          · exact fun w1 hw => ⟨⟨.inr rfl, hseZ, hZl, fun h => by omega, fun _ => hZ.2⟩, hw⟩
        · skip
          have ha20 : ¬ a2 + 20 < n := by
            have h9 : ¬ ((a2 + 20 : Int) < n) := by simpa using h3
            omega
          have hsK : Srt ltC K := by
            rcases hK2 with ⟨h, _⟩ | ⟨_, _, h⟩
            · omega
            · exact h
          refine JC.skip ?_
          refine JX.thenN (hK16 _ _ ?_)
          refine JC.region ?_
          refine J.move rfl rfl ?_
          refine J.bin rfl rfl rfl rfl ?_
          refine J.name 62 rfl (show _ = .int .i64 ((40 : Nat) : Int) from rfl) ?_
          refine J.assign rfl rfl ?_
          refine J.nil ?_
          refine JX.blockN ?_
          refine JX.thenN ?_
          refine JX.again ((40, K) : Nat × List CV) ?_ ?_ ?_
          · simp only; omega
          · exact ⟨rfl, rfl, rfl, rfl, trivial⟩
          · exact fun w1 hw => ⟨⟨.inr rfl, hseK, hKl, fun h => by omega, fun _ => hsK⟩, hw⟩
    · skip
      have hbn : ¬ bs < n := by simpa using h1
      have hsG : Srt ltC G := by
        rcases hbs with h | h
        · have h1 := (hG2 h).1
          rwa [List.take_of_length_le (by omega)] at h1
        · exact hG4 h
      refine JC.exit ?_
      refine JX.thenE ?_
      refine JX.thenE ?_
      refine JX.blockE ?_
      refine JX.end0 rfl (fun w1 hw => ?_)
      exact ⟨G, rfl, ⟨hse, hsG⟩, hw⟩

theorem sortStable_spec (q n c : Nat) (xs : List CV) (sp : List Value) (w : World) (hw0 : Own w [(q, cb (fC (xs) ++ sp) 75)]) (hn : xs.length = n) (hnc : n ≤ c) (hn40 : n ≤ 40) :
    Calls Try.prog 54 [.slice (some ⟨q, 0, none⟩) n c, .func (.func 55) #[] #[]].toArray w fun r w' => ∃ Z : List CV, r = .returned (.tuple #[]) ∧ (SE ltC xs Z ∧ Srt ltC Z) ∧ St w [q] [(q, cb (fC (Z) ++ sp) 75)] w' := by
  refine calls_of_J (args := [.slice (some ⟨q, 0, none⟩) n c, .func (.func 55) #[] #[]]) (e := [(0, .slice (some ⟨q, 0, none⟩) n c), (1, .func (.func 55) #[] #[])]) Try.func54 rfl rfl ⟨rfl, rfl, trivial⟩ (hw0.st) ?_
  refine JC.region ?_
  refine J.move rfl rfl ?_
  refine J.move rfl rfl ?_
  refine J.lenS rfl Ty.u68 rfl rfl ?_
  refine J.move rfl rfl ?_
  refine J.callS (α := List CV) (V := fun _ => .tuple #[]) (Pr := fun Z => SE ltC xs Z ∧ Srt ltC Z) (L := fun Z => [(q, cb (fC (Z) ++ sp) 75)]) (l1 := [(q, cb (fC (xs) ++ sp) 75)]) (l := []) Ty.bd72 rfl rfl (fun w1 hw => stable_spec q n c xs sp w1 hw.owns hn hnc hn40) (fun Z hZ => ?_)
  simp only [List.append_nil]
  refine J.nil ?_
  refine JX.end0 rfl (fun w1 hw => ?_)
  exact ⟨Z, rfl, hZ, hw⟩

end Go.Proofs.Ytbafhclandendaa
/-
  Clone, IndexFunc, DeleteFunc at candidates, as seek.Asks calls them: contracts.
-/
namespace Go.Proofs.Ytbafhclandendaa
open Go.J Go.RowKit
set_option linter.unusedVariables false
set_option linter.unusedSimpArgs false
set_option maxRecDepth 8000
theorem offSub {S S' : List Nat} {v : Value} {xs : List Value} (h : Off S v xs) (hs : ∀ b, b ∈ S' → b ∈ S) : Off S' v xs := by
  rcases h with h | h
  · exact .inl h
  · exact .inr fun b o k c e hb => h b o k c e (hs b hb)
theorem one_fC {xs : List CV} {y : Value} (h : y ∈ fC xs) : y.oneCell' = true := by
  simp only [fC, List.mem_flatMap] at h
  obtain ⟨x, _, hy⟩ := h
  exact one_cC x y hy
/-- the candidates that are deleted: not wanted, or friends -/
def wnt (W F : List IDV) (x : CV) : Bool := !decide (x.id ∈ W) || decide (x.id ∈ F)
/-- where one stands first -/
def plc (f : CV → Bool) : List CV → Int
  | [] => -1
  | x :: xs => if f x = true then 0 else if plc f xs < 0 then -1 else plc f xs + 1
theorem plc_ge (f : CV → Bool) : ∀ xs : List CV, -1 ≤ plc f xs
  | [] => by simp [plc]
  | x :: xs => by
    have := plc_ge f xs
    simp only [plc]
    split
    · omega
    · split <;> omega
theorem plc_at {f : CV → Bool} : ∀ {xs : List CV} {i : Nat} (h : i < xs.length), (∀ j y, j < i → xs[j]? = some y → f y = false) → f xs[i] = true → plc f xs = (i : Int)
  | x :: xs, 0, _, _, he => by
    have : f x = true := he
    simp [plc, this]
  | x :: xs, i + 1, h, hb, he => by
    have h0 : ¬ f x = true := by rw [hb 0 x (by omega) rfl]; decide
    have ih := plc_at (f := f) (xs := xs) (i := i) (by simpa using h) (fun j y hj hy => hb (j + 1) y (by omega) (by simpa using hy)) (by simpa using he)
    simp only [plc]
    rw [if_neg h0, ih, if_neg (by omega)]
    omega
theorem plc_no {f : CV → Bool} : ∀ {xs : List CV}, (∀ y, y ∈ xs → f y = false) → plc f xs = -1
  | [], _ => rfl
  | x :: xs, hb => by
    have h0 : ¬ f x = true := by rw [hb x (.head _)]; decide
    have ih := plc_no (f := f) (xs := xs) (fun y hy => hb y (.tail _ hy))
    simp only [plc]
    rw [if_neg h0, ih, if_pos (by omega)]
theorem plc_spec {f : CV → Bool} : ∀ {xs : List CV}, 0 ≤ plc f xs → ∃ i y, plc f xs = ((i : Nat) : Int) ∧ xs[i]? = some y ∧ f y = true ∧ ∀ j z, j < i → xs[j]? = some z → f z = false
  | [], h => by simp [plc] at h
  | x :: xs, h => by
    simp only [plc] at h ⊢
    by_cases h0 : f x = true
    · exact ⟨0, x, by simp [h0], rfl, h0, fun j z hj => by omega⟩
    · rw [if_neg h0] at h ⊢
      by_cases h2 : plc f xs < 0
      · rw [if_pos h2] at h; omega
      · rw [if_neg h2]
        obtain ⟨i, y, h3, h4, h5, h6⟩ := plc_spec (f := f) (xs := xs) (by omega)
        refine ⟨i + 1, y, by omega, by simpa using h4, h5, fun j z hj hz => ?_⟩
        cases j with
        | zero => rw [← Option.some.inj hz]; simpa using h0
        | succ j => exact h6 j z (by omega) (by simpa using hz)
theorem plc_neg {f : CV → Bool} {xs : List CV} (h : plc f xs = -1) : ∀ y, y ∈ xs → f y = false := by
  induction xs with
  | nil => intro y hy; cases hy
  | cons x xs ih =>
    have hge := plc_ge f xs
    simp only [plc] at h
    by_cases h0 : f x = true
    · rw [if_pos h0] at h; omega
    · rw [if_neg h0] at h
      have h1 : plc f xs < 0 := by
        by_cases h2 : plc f xs < 0
        · exact h2
        · rw [if_neg h2] at h; omega
      intro y hy
      rcases List.mem_cons.1 hy with rfl | hy
      · simpa using h0
      · exact ih (by omega) y hy
def dels (f : CV → Bool) (xs : List CV) : List CV := xs.filter (fun x => !f x)
theorem dels_none {f : CV → Bool} {xs : List CV} (h : ∀ y, y ∈ xs → f y = false) : dels f xs = xs :=
  List.filter_eq_self.2 fun x hx => by rw [h x hx]; rfl
theorem dels_le (f : CV → Bool) (xs : List CV) : (dels f xs).length ≤ xs.length := List.length_filter_le _ _
structure DC where
  j : Nat
  zs : List CV
structure DCInv (f : CV → Bool) (xs : List CV) (s : DC) : Prop where
  hj : s.j ≤ xs.length
  hl : s.zs.length = xs.length
  tk : s.zs.take (dels f (xs.take s.j)).length = dels f (xs.take s.j)
  dr : s.zs.drop s.j = xs.drop s.j
theorem DCInv.get {f : CV → Bool} {xs : List CV} {s : DC} (h : DCInv f xs s) (hj : s.j < xs.length) : s.zs[s.j]? = some xs[s.j] := by
  have e : (s.zs.drop s.j)[0]? = (xs.drop s.j)[0]? := by rw [h.dr]
  rw [List.getElem?_drop, List.getElem?_drop, Nat.add_zero, List.getElem?_eq_getElem hj] at e
  exact e
theorem DCInv.skip {f : CV → Bool} {xs : List CV} {s : DC} (h : DCInv f xs s) (hj : s.j < xs.length) (he : f xs[s.j] = true) : DCInv f xs ⟨s.j + 1, s.zs⟩ ∧ dels f (xs.take (s.j + 1)) = dels f (xs.take s.j) := by
  have e : dels f (xs.take (s.j + 1)) = dels f (xs.take s.j) := by
    rw [take_add_one hj, dels, List.filter_append]
    simp [he, dels]
  refine ⟨⟨hj, h.hl, by simp only; rw [e]; exact h.tk, ?_⟩, e⟩
  simp only
  rw [← List.drop_drop, ← List.drop_drop, h.dr]
theorem DCInv.put {f : CV → Bool} {xs : List CV} {s : DC} (h : DCInv f xs s) (hj : s.j < xs.length) (he : ¬ f xs[s.j] = true) : DCInv f xs ⟨s.j + 1, s.zs.set (dels f (xs.take s.j)).length xs[s.j]⟩ ∧ (dels f (xs.take (s.j + 1))).length = (dels f (xs.take s.j)).length + 1 := by
  have e : dels f (xs.take (s.j + 1)) = dels f (xs.take s.j) ++ [xs[s.j]] := by
    rw [take_add_one hj, dels, List.filter_append]
    simp [he, dels]
  have hle : (dels f (xs.take s.j)).length ≤ s.j := by
    have := dels_le f (xs.take s.j)
    rw [List.length_take] at this
    omega
  refine ⟨⟨hj, by simp [h.hl], ?_, ?_⟩, by rw [e]; simp⟩
  · simp only
    rw [e, List.length_append, List.length_singleton]
    have hlt : (dels f (xs.take s.j)).length < (s.zs.set (dels f (xs.take s.j)).length xs[s.j]).length := by rw [List.length_set, h.hl]; omega
    rw [take_add_one hlt, List.getElem_set_self, List.take_set_of_le (Nat.le_refl _), h.tk]
  · simp only
    rw [List.drop_set_of_lt (by omega), ← List.drop_drop, ← List.drop_drop, h.dr]
theorem DCInv.start {f : CV → Bool} {xs : List CV} {i : Nat} {y : CV} (hi : xs[i]? = some y) (hy : f y = true) (hb : ∀ j z, j < i → xs[j]? = some z → f z = false) : DCInv f xs ⟨i + 1, xs⟩ ∧ (dels f (xs.take (i + 1))).length = i := by
  have hlt := (List.getElem?_eq_some_iff.1 hi).1
  have hx : xs[i] = y := (List.getElem?_eq_some_iff.1 hi).2
  have e1 : dels f (xs.take i) = xs.take i := dels_none (fun z hz => by
    obtain ⟨j, hj⟩ := List.mem_iff_getElem?.1 hz
    have hj' := (List.getElem?_eq_some_iff.1 hj).1
    rw [List.length_take] at hj'
    rw [List.getElem?_take_of_lt (by omega)] at hj
    exact hb j z (by omega) hj)
  have e2 : dels f (xs.take (i + 1)) = xs.take i := by
    rw [take_add_one hlt, dels, List.filter_append, hx]
    have := e1
    rw [dels] at this
    rw [this]
    simp [hy]
  have hl : (xs.take i).length = i := by rw [List.length_take]; omega
  refine ⟨⟨hlt, rfl, ?_, rfl⟩, by rw [e2, hl]⟩
  simp only
  rw [e2, hl]
/-- what is left when the end of a row is cleared -/
theorem clear_C {zs ws : List CV} {i n : Nat} {sp Z : List Value} (hz : zs.length = n) (hw : zs.take i = ws) (hi : i ≤ n) (hZ : Z.length = (n - i) * 35) {o : Nat} (ho : n - i = 0 ∨ o = i * 35) :
    ∃ sp', setMany (fC zs ++ sp) o Z = fC ws ++ sp' ∧ (fC ws ++ sp').length = (fC zs ++ sp).length := by
  have hl := fC_len zs
  have hx : fC zs = fC ws ++ fC (zs.drop i) := by
    rw [← hw, ← List.flatMap_append, List.take_append_drop]
  have hwl : (fC ws).length = i * 35 := by rw [fC_len, ← hw, List.length_take]; congr 1; omega
  rcases ho with h0 | rfl
  · have : Z = [] := List.eq_nil_of_length_eq_zero (by rw [hZ, h0])
    subst this
    have e : fC zs ++ sp = fC ws ++ (fC (zs.drop i) ++ sp) := by rw [hx, List.append_assoc]
    exact ⟨fC (zs.drop i) ++ sp, e, by rw [e]⟩
  · refine ⟨Z ++ (fC zs ++ sp).drop (i * 35 + Z.length), ?_, ?_⟩
    · rw [setMany_eq _ _ _ (by rw [List.length_append, hZ]; omega), hx, List.append_assoc (fC ws)]
      rw [show (fC ws ++ (fC (zs.drop i) ++ sp)).take (i * 35) = fC ws by rw [← hwl, List.take_left], List.append_assoc]
    · rw [hx]
      simp only [List.length_append, List.length_drop, hZ]
      have : (fC (zs.drop i)).length = (n - i) * 35 := by rw [fC_len, List.length_drop, hz]
      omega
structure DCG where
  i : Nat
  j : Nat
  zs : List CV

theorem asks1_spec (bw bf : Nat) (wv fv : Value) (W F : List IDV) (x : CV) (w : World) (hw0 : Own w [(bw, cb [wv] 24), (bf, cb [fv] 24)]) (hrW : Row w wv W.length (fI W)) (hrF : Row w fv F.length (fI F)) (hlW : W.length ≤ 1099511627776) (hlF : F.length ≤ 1099511627776) (hoW : Off [bw, bf] wv (fI W)) (hoF : Off [bw, bf] fv (fI F)) :
    Calls Try.prog 52 [.agg (cC x).toArray, .pointer (some ⟨bw, 0, none⟩), .pointer (some ⟨bf, 0, none⟩)].toArray w fun r w' => r = .returned (.bool (wnt W F x)) ∧ Bel w w' := by
  refine calls_of_J (args := [.agg (cC x).toArray, .pointer (some ⟨bw, 0, none⟩), .pointer (some ⟨bf, 0, none⟩)]) (e := [(0, .agg (cC x).toArray), (1, .pointer (some ⟨bw, 0, none⟩)), (2, .pointer (some ⟨bf, 0, none⟩))]) Try.func52 rfl rfl ⟨rfl, rfl, rfl, trivial⟩ (hw0.st) ?_
  refine JC.seq (fun K0 hK0 => ?_)
  refine JC.region ?_
  refine J.box rfl rfl rfl (fun b3 => ?_)
  refine J.assign rfl rfl ?_
  refine J.nil ?_
  refine JX.thenN (hK0 _ _ ?_)
  refine JC.seq (fun K1 hK1 => ?_)
  by_cases hm : x.id ∈ W
  · skip
    refine JC.region ?_
    refine J.load1 (v := wv) Ty.a24 rfl (fun w1 hw => by rw [cell_of (hw.own ((bw, cb [wv] 24)) (by repeat first | exact .head _ | apply List.Mem.tail | apply List.mem_append_right))]; rfl) rfl ?_
    refine J.fieldAddr Ty.fd75_0 rfl rfl ?_
    refine J.loadA (vs := cI x.id) Ty.a23 Ty.s23 rfl rfl (fun w1 hw => Cells.of_block (hw.own (b3, cb (cC x) 75) (by repeat first | exact .head _ | apply List.Mem.tail | apply List.mem_append_right)) rfl) rfl ?_
    refine J.callB (v := .bool (decide (x.id ∈ W))) (fun w1 w2 hw hb => hw.step hb) Ty.bd53 rfl rfl (fun w1 hw => has_spec wv W x.id w1 (hrW.st hoW hw) (by omega)) ?_
    refine J.not rfl rfl ?_
    refine J.name 9 rfl (show _ = Value.bool false by simp [hm]) ?_
    refine J.move rfl rfl ?_
    refine J.unguard rfl rfl rfl ?_
    refine J.load1 (v := fv) Ty.a24 rfl (fun w1 hw => by rw [cell_of (hw.own ((bf, cb [fv] 24)) (by repeat first | exact .head _ | apply List.Mem.tail | apply List.mem_append_right))]; rfl) rfl ?_
    refine J.unguard rfl rfl rfl ?_
    refine J.fieldAddr Ty.fd75_0 rfl rfl ?_
    refine J.unguard rfl rfl rfl ?_
    refine J.loadA (vs := cI x.id) Ty.a23 Ty.s23 rfl rfl (fun w1 hw => Cells.of_block (hw.own (b3, cb (cC x) 75) (by repeat first | exact .head _ | apply List.Mem.tail | apply List.mem_append_right)) rfl) rfl ?_
    refine J.unguard rfl rfl rfl ?_
    refine J.callB (v := .bool (decide (x.id ∈ F))) (fun w1 w2 hw hb => hw.step hb) Ty.bd53 rfl rfl (fun w1 hw => has_spec fv F x.id w1 (hrF.st hoF hw) (by omega)) ?_
    (first | refine J.pickT rfl rfl rfl ?_ | refine J.pickF rfl rfl rfl ?_)
    refine J.assign rfl rfl ?_
    refine J.nil ?_
    refine JX.thenN (hK1 _ _ ?_)
    refine JC.ret ?_
    refine JX.ret1 rfl rfl (fun w hw => ?_)
    exact ⟨by unfold wnt; simp [hm], hw.same hw0 (fun p hp => by simp at hp ⊢; rcases hp with rfl | rfl <;> simp)⟩
  · skip
    refine JC.region ?_
    refine J.load1 (v := wv) Ty.a24 rfl (fun w1 hw => by rw [cell_of (hw.own ((bw, cb [wv] 24)) (by repeat first | exact .head _ | apply List.Mem.tail | apply List.mem_append_right))]; rfl) rfl ?_
    refine J.fieldAddr Ty.fd75_0 rfl rfl ?_
    refine J.loadA (vs := cI x.id) Ty.a23 Ty.s23 rfl rfl (fun w1 hw => Cells.of_block (hw.own (b3, cb (cC x) 75) (by repeat first | exact .head _ | apply List.Mem.tail | apply List.mem_append_right)) rfl) rfl ?_
    refine J.callB (v := .bool (decide (x.id ∈ W))) (fun w1 w2 hw hb => hw.step hb) Ty.bd53 rfl rfl (fun w1 hw => has_spec wv W x.id w1 (hrW.st hoW hw) (by omega)) ?_
    refine J.not rfl rfl ?_
    refine J.name 9 rfl (show _ = Value.bool true by simp [hm]) ?_
    refine J.move rfl rfl ?_
    refine J.skip rfl rfl rfl rfl rfl ?_
    refine J.skip rfl rfl rfl rfl rfl ?_
    refine J.skip rfl rfl rfl rfl rfl ?_
    refine J.skip rfl rfl rfl rfl rfl ?_
    (first | refine J.pickT rfl rfl rfl ?_ | refine J.pickF rfl rfl rfl ?_)
    refine J.assign rfl rfl ?_
    refine J.nil ?_
    refine JX.thenN (hK1 _ _ ?_)
    refine JC.ret ?_
    refine JX.ret1 rfl rfl (fun w hw => ?_)
    exact ⟨by unfold wnt; simp [hm], hw.same hw0 (fun p hp => by simp at hp ⊢; rcases hp with rfl | rfl <;> simp)⟩

theorem indexFuncC_spec (v : Value) (xs : List CV) (bw bf : Nat) (wv fv : Value) (W F : List IDV) (w : World) (hw0 : Own w [(bw, cb [wv] 24), (bf, cb [fv] 24)]) (hr : Row w v xs.length (fC xs)) (hoff : Off [bw, bf] v (fC xs)) (hl : xs.length < 4611686018427387904) (hrW : Row w wv W.length (fI W)) (hrF : Row w fv F.length (fI F)) (hlW : W.length ≤ 1099511627776) (hlF : F.length ≤ 1099511627776) (hoW : Off [bw, bf] wv (fI W)) (hoF : Off [bw, bf] fv (fI F)) :
    Calls Try.prog 71 [v, .func (.func 52) #[] #[.pointer (some ⟨bw, 0, none⟩), .pointer (some ⟨bf, 0, none⟩)]].toArray w fun r w' => r = .returned (.int .i64 (plc (wnt W F) xs)) ∧ Bel w w' := by
  obtain ⟨a, c, rfl, hc, _⟩ := id hr
  refine calls_of_J (args := [.slice a xs.length c, .func (.func 52) #[] #[.pointer (some ⟨bw, 0, none⟩), .pointer (some ⟨bf, 0, none⟩)]]) (e := [(0, .slice a xs.length c), (1, .func (.func 52) #[] #[.pointer (some ⟨bw, 0, none⟩), .pointer (some ⟨bf, 0, none⟩)])]) Try.func71 rfl rfl ⟨rfl, rfl, trivial⟩ (hw0.st) ?_
  refine JC.seq (fun K0 hK0 => ?_)
  refine JC.region ?_
  refine J.assign rfl rfl ?_
  refine J.nil ?_
  refine JX.thenN (hK0 _ _ ?_)
  refine JC.seq (fun K1 hK1 => ?_)
  refine JC.seq (fun K2 hK2 => ?_)
  refine JC.region ?_
  refine J.move rfl rfl ?_
  refine J.lenS rfl Ty.u68 rfl rfl ?_
  refine J.move rfl rfl ?_
  refine J.nil ?_
  refine JX.thenN (hK2 _ _ ?_)
  refine JC.block ?_
  refine JC.conseq (JC.cov (f := (fun i => [(0, .slice a xs.length c), (1, .func (.func 52) #[] #[.pointer (some ⟨bw, 0, none⟩), .pointer (some ⟨bf, 0, none⟩)]), (6, .slice a xs.length c), (7, .int .i64 ((xs.length : Nat) : Int)), (8, .int .i64 ((i : Nat) : Int))]) 0) ⟨rfl, rfl, rfl, rfl, rfl, trivial⟩ (JC.loop (α := Nat) (fun i => [(0, .slice a xs.length c), (1, .func (.func 52) #[] #[.pointer (some ⟨bw, 0, none⟩), .pointer (some ⟨bf, 0, none⟩)]), (6, .slice a xs.length c), (7, .int .i64 ((xs.length : Nat) : Int)), (8, .int .i64 ((i : Nat) : Int))]) (fun i w' => (i ≤ xs.length ∧ ∀ j y, j < i → xs[j]? = some y → wnt W F y = false) ∧ St w [bw, bf] [(bw, cb [wv] 24), (bf, cb [fv] 24)] w') (fun i => xs.length - i) 0 (fun i => ?_))) (fun w hw => ⟨⟨Nat.zero_le _, fun j y hj => by omega⟩, hw⟩)
  refine JC.pr (fun hx => ?_)
  obtain ⟨hi, hpre⟩ := hx
  refine JC.seq (fun K3 hK3 => ?_)
  refine JC.region ?_
  refine J.bin rfl rfl rfl rfl ?_
  refine J.nil ?_
  refine JX.thenN (hK3 _ _ ?_)
  refine JC.seq (fun K4 hK4 => ?_)
  refine JC.cond rfl (fun h0 => ?_) (fun h0 => ?_)
  · skip
    have hlt : i < xs.length := by simp at h0; omega
    obtain ⟨ba, oa, ca, hva, hca, hcel⟩ := hr.some (by rw [fC_len]; omega)
    simp only [Value.slice.injEq] at hva
    obtain ⟨rfl, -, rfl⟩ := hva
    refine JC.skip ?_
    refine JX.thenN (hK4 _ _ ?_)
    refine JC.seq (fun K5 hK5 => ?_)
    refine JC.block ?_
    refine JC.seq (fun K6 hK6 => ?_)
    refine JC.region ?_
    refine J.move rfl rfl ?_
    refine J.assign rfl rfl ?_
    refine J.nil ?_
    refine JX.thenN (hK6 _ _ ?_)
    refine JC.seq (fun K7 hK7 => ?_)
    refine JC.region ?_
    refine J.move rfl rfl ?_
    refine J.move rfl rfl ?_
    refine J.move rfl rfl ?_
    refine J.indexAddrS Ty.el68 Ty.s75 rfl rfl (by omega) (by omega) rfl ?_
    refine J.loadA (vs := cC xs[i]) Ty.a75 Ty.s75 rfl rfl (fun w1 hw => rowG_at (c := cC) (sz := 35) (fun _ => rfl) (hr.st hoff hw) (List.getElem?_eq_getElem hlt) (by rw [Int.toNat_natCast])) rfl ?_
    refine J.callVB (v := .bool (wnt W F (xs[i]))) (fun w1 w2 hw hb => hw.step hb) Ty.bd52 rfl rfl rfl (fun w1 hw => by simpa using asks1_spec bw bf wv fv W F (xs[i]) w1 hw.owns' (hrW.st hoW hw) (hrF.st hoF hw) hlW hlF (offSub hoW (by simp)) (offSub hoF (by simp))) ?_
    refine J.nil ?_
    refine JX.thenN (hK7 _ _ ?_)
    refine JC.cond rfl (fun h1 => ?_) (fun h1 => ?_)
    · skip
      have he : wnt W F xs[i] = true := by simpa using h1
      refine JC.seq (fun K8 hK8 => ?_)
      refine JC.region ?_
      refine J.move rfl rfl ?_
      refine J.assign rfl rfl ?_
      refine J.nil ?_
      refine JX.thenN (hK8 _ _ ?_)
      refine JC.ret ?_
      refine JX.blockR ?_
      refine JX.thenR ?_
      refine JX.thenR ?_
      refine JX.blockR ?_
      refine JX.thenR ?_
      refine JX.ret1 rfl rfl (fun w hw => ?_)
      first | exact ⟨by rw [plc_at hlt hpre he], hw.same hw0 (fun p hp => hp)⟩ | exact ⟨by rw [plc_no (fun y hy => by obtain ⟨j, hj⟩ := List.mem_iff_getElem?.1 hy; exact hpre j y (by have := (List.getElem?_eq_some_iff.1 hj).1; omega) hj)], hw.same hw0 (fun p hp => hp)⟩
    · skip
      have hne : ¬ wnt W F xs[i] = true := by simp [h1]
      refine JC.skip ?_
      refine JX.blockN ?_
      refine JX.thenN (hK5 _ _ ?_)
      refine JC.region ?_
      (first | refine J.addN rfl rfl (by omega) (by omega) rfl ?_ | refine J.bin rfl rfl rfl rfl ?_)
      refine J.move rfl rfl ?_
      refine J.nil ?_
      refine JX.thenN ?_
      refine JX.again (i + 1) ?_ ?_ ?_
      · omega
      · exact ⟨rfl, rfl, rfl, rfl, rfl, trivial⟩
      · exact fun w1 hw => ⟨⟨hlt, fun j y hj hy => by
        rcases Nat.lt_or_ge j i with h | h
        · exact hpre j y h hy
        · have : j = i := by omega
          subst this
          rw [List.getElem?_eq_getElem hlt] at hy
          rw [← Option.some.inj hy]; simpa using hne⟩, hw⟩
  · skip
    have hge : i = xs.length := by simp at h0; omega
    refine JC.exit ?_
    refine JX.thenE ?_
    refine JX.thenE ?_
    refine JX.blockE ?_
    refine JX.thenN (hK1 _ _ ?_)
    refine JC.seq (fun K9 hK9 => ?_)
    refine JC.region ?_
    refine J.assign rfl rfl ?_
    refine J.nil ?_
    refine JX.thenN (hK9 _ _ ?_)
    refine JC.ret ?_
    refine JX.ret1 rfl rfl (fun w hw => ?_)
    first | exact ⟨by rw [plc_at hlt hpre he], hw.same hw0 (fun p hp => hp)⟩ | exact ⟨by rw [plc_no (fun y hy => by obtain ⟨j, hj⟩ := List.mem_iff_getElem?.1 hy; exact hpre j y (by have := (List.getElem?_eq_some_iff.1 hj).1; omega) hj)], hw.same hw0 (fun p hp => hp)⟩

theorem cloneC_nil (k c : Nat) (w : World) :
    Calls Try.prog 51 [.slice none k c].toArray w fun r w' => r = .returned (.slice none 0 0) ∧ Bel w w' := by
  refine calls_of_J (args := [.slice none k c]) (e := [(0, .slice none k c)]) Try.func51 rfl rfl ⟨rfl, trivial⟩ (St.start w) ?_
  refine JC.seq (fun K0 hK0 => ?_)
  refine JC.region ?_
  refine J.assign rfl rfl ?_
  refine J.nil ?_
  refine JX.thenN (hK0 _ _ ?_)
  refine JC.seq (fun K1 hK1 => ?_)
  refine JC.seq (fun K2 hK2 => ?_)
  refine JC.region ?_
  refine J.move rfl rfl ?_
  refine J.eqNilSl Ty.u68 rfl rfl rfl ?_
  refine J.nil ?_
  refine JX.thenN (hK2 _ _ ?_)
  first | refine JC.condT rfl ?_ | refine JC.cond rfl (fun _ => ?_) (fun h => by first | (exfalso; simp at h; omega) | (simp at h))
  refine JC.seq (fun K3 hK3 => ?_)
  refine JC.region ?_
  refine J.assign rfl rfl ?_
  refine J.nil ?_
  refine JX.thenN (hK3 _ _ ?_)
  refine JC.ret ?_
  refine JX.thenR ?_
  refine JX.ret1 rfl rfl (fun w hw => ?_)
  exact ⟨rfl, hw.below⟩

theorem cloneC_some (a : Addr) (c : Nat) (xs : List CV) (w : World) (hr : Row w (.slice (some a) xs.length c) xs.length (fC xs)) (hl : xs.length ≤ 1099511627776) :
    Calls Try.prog 51 [.slice (some a) xs.length c].toArray w fun r w' => ∃ x : Value × List (Nat × Obj), r = .returned x.1 ∧ Vec 75 35 x.1 (xs).length (fC (xs)) x.2 ∧ St w [] x.2 w' := by
  refine calls_of_J (args := [.slice (some a) xs.length c]) (e := [(0, .slice (some a) xs.length c)]) Try.func51 rfl rfl ⟨rfl, trivial⟩ (St.start w) ?_
  refine JC.seq (fun K0 hK0 => ?_)
  refine JC.region ?_
  refine J.assign rfl rfl ?_
  refine J.nil ?_
  refine JX.thenN (hK0 _ _ ?_)
  refine JC.seq (fun K1 hK1 => ?_)
  refine JC.seq (fun K2 hK2 => ?_)
  refine JC.region ?_
  refine J.move rfl rfl ?_
  refine J.eqNilSl Ty.u68 rfl rfl rfl ?_
  refine J.nil ?_
  refine JX.thenN (hK2 _ _ ?_)
  first | refine JC.condF rfl ?_ | refine JC.cond rfl (fun h => by first | (exfalso; simp at h; omega) | (simp at h)) (fun _ => ?_)
  refine JC.skip ?_
  refine JX.thenN (hK1 _ _ ?_)
  refine JC.seq (fun K3 hK3 => ?_)
  refine JC.region ?_
  refine J.buildSl (cs := []) Ty.el68 Ty.s75 zCan rfl rfl rfl rfl rfl rfl rfl (fun b5 => ?_)
  refine J.move rfl rfl ?_
  refine J.append (lp := [(b5, cb [] 75)]) (xs := []) (ys := fC xs) (k := 0) (m := xs.length) Ty.el68 Ty.s75 Ty.b75 zCan rfl (.inl ⟨75, Ty.u68⟩) rfl rfl ⟨rfl, .inr ⟨b5, 0, [], rfl, rfl, rfl, Nat.le_refl _⟩⟩ (fun w1 hw => .inl (hr.below (hw.drop (List.nil_sublist _)).below)) (fC_len xs) (fun y hy => one_fC hy) (by omega) (by omega) rfl (fun v7 lp7 hv7 => ?_)
  rw [Nat.zero_add, List.nil_append] at hv7
  refine J.assign rfl rfl ?_
  refine J.nil ?_
  refine JX.thenN (hK3 _ _ ?_)
  refine JC.ret ?_
  refine JX.ret1 rfl rfl (fun w hw => ?_)
  exact ⟨(v7, lp7), rfl, hv7, hw.perm (by simp)⟩

theorem deleteFuncC_spec (q cap : Nat) (xs : List CV) (sp : List Value) (bw bf : Nat) (wv fv : Value) (W F : List IDV) (w : World) (hw0 : Own w [(q, cb (fC (xs) ++ sp) 75), (bw, cb [wv] 24), (bf, cb [fv] 24)]) (hcap : xs.length ≤ cap) (hsz : (fC xs ++ sp).length = cap * 35) (hl : xs.length ≤ 1099511627776) (hrW : Row w wv W.length (fI W)) (hrF : Row w fv F.length (fI F)) (hlW : W.length ≤ 1099511627776) (hlF : F.length ≤ 1099511627776) (hoW : Off [q, bw, bf] wv (fI W)) (hoF : Off [q, bw, bf] fv (fI F)) :
    Calls Try.prog 50 [.slice (some ⟨q, 0, none⟩) xs.length cap, .func (.func 52) #[] #[.pointer (some ⟨bw, 0, none⟩), .pointer (some ⟨bf, 0, none⟩)]].toArray w fun r w' => ∃ sp' : List Value, r = .returned (.slice (some ⟨q, 0, none⟩) (dels (wnt W F) xs).length cap) ∧ (fC (dels (wnt W F) xs) ++ sp').length = cap * 35 ∧ St w [q, bw, bf] [(q, cb (fC (dels (wnt W F) xs) ++ sp') 75), (bw, cb [wv] 24), (bf, cb [fv] 24)] w' := by
  refine calls_of_J (args := [.slice (some ⟨q, 0, none⟩) xs.length cap, .func (.func 52) #[] #[.pointer (some ⟨bw, 0, none⟩), .pointer (some ⟨bf, 0, none⟩)]]) (e := [(0, .slice (some ⟨q, 0, none⟩) xs.length cap), (1, .func (.func 52) #[] #[.pointer (some ⟨bw, 0, none⟩), .pointer (some ⟨bf, 0, none⟩)])]) Try.func50 rfl rfl ⟨rfl, rfl, trivial⟩ (hw0.st) ?_
  refine JC.seq (fun K0 hK0 => ?_)
  refine JC.region ?_
  refine J.assign rfl rfl ?_
  refine J.nil ?_
  refine JX.thenN (hK0 _ _ ?_)
  refine JC.seq (fun K1 hK1 => ?_)
  refine JC.region ?_
  refine J.move rfl rfl ?_
  refine J.move rfl rfl ?_
  refine J.callB (v := .int .i64 (plc (wnt W F) xs)) (fun w1 w2 hw hb => hw.step hb) Ty.bd71 rfl rfl (fun w1 hw => indexFuncC_spec (.slice (some ⟨q, 0, none⟩) xs.length cap) xs bw bf wv fv W F w1 (St.owns (l1 := [(bw, cb [wv] 24), (bf, cb [fv] 24)]) (l := [(q, cb (fC (xs) ++ sp) 75)]) (hw.perm (by (refine perm_cnt (fun _ => ?_)); simp only [cntB_append, cntB_cons, cntB_nil, Nat.add_zero, Nat.zero_add]; try ac_rfl))) (Row.own hw (.head _) (by simp) hcap) (Off.mk (St.off (l1 := [(bw, cb [wv] 24), (bf, cb [fv] 24)]) (l := [(q, cb (fC (xs) ++ sp) 75)]) (hw.perm (by (refine perm_cnt (fun _ => ?_)); simp only [cntB_append, cntB_cons, cntB_nil, Nat.add_zero, Nat.zero_add]; try ac_rfl)) (.head _))) (by omega) (hrW.st hoW hw) (hrF.st hoF hw) hlW hlF (offSub hoW (by simp)) (offSub hoF (by simp))) ?_
  refine J.assign rfl rfl ?_
  refine J.nil ?_
  refine JX.thenN (hK1 _ _ ?_)
  refine JC.seq (fun K2 hK2 => ?_)
  refine JC.seq (fun K3 hK3 => ?_)
  refine JC.region ?_
  refine J.move rfl rfl ?_
  refine J.bin rfl rfl rfl rfl ?_
  refine J.nil ?_
  refine JX.thenN (hK3 _ _ ?_)
  refine JC.cond rfl (fun h0 => ?_) (fun h0 => ?_)
  · skip
    have hno : plc (wnt W F) xs = -1 := by simp at h0; exact h0
    have hxs : dels (wnt W F) xs = xs := dels_none (plc_neg hno)
    refine JC.seq (fun K4 hK4 => ?_)
    refine JC.region ?_
    refine J.move rfl rfl ?_
    refine J.assign rfl rfl ?_
    refine J.nil ?_
    refine JX.thenN (hK4 _ _ ?_)
    refine JC.ret ?_
    refine JX.thenR ?_
    refine JX.ret1 rfl rfl (fun w hw => ?_)
    first | exact ⟨sp, by rw [hxs], by rw [hxs]; exact hsz, by rw [hxs]; exact hw⟩ | exact ⟨sp2, rfl, by rw [hc2, List.length_append, hfz, hzl, ← fC_len xs, ← List.length_append]; exact hsz, hw⟩
  · skip
    have hge := plc_ge (wnt W F) xs
    have hne1 : plc (wnt W F) xs ≠ -1 := by simp at h0; exact h0
    obtain ⟨i0, y0, hi0, hi1, hiy, hi2⟩ := plc_spec (f := wnt W F) (xs := xs) (by omega)
    have hi3 := (List.getElem?_eq_some_iff.1 hi1).1
    have hst := DCInv.start hi1 hiy hi2
    refine JC.skip ?_
    refine JX.thenN (hK2 _ _ ?_)
    refine JC.seq (fun K5 hK5 => ?_)
    refine JC.seq (fun K6 hK6 => ?_)
    refine JC.region ?_
    refine J.name 5 rfl (congrArg (Value.int .i64) hi0) ?_
    refine J.move rfl rfl ?_
    (first | refine J.addN rfl rfl (by omega) (by omega) rfl ?_ | refine J.bin rfl rfl rfl rfl ?_)
    refine J.assign rfl rfl ?_
    refine J.nil ?_
    refine JX.thenN (hK6 _ _ ?_)
    refine JC.block ?_
    refine JC.conseq (JC.cov (f := (fun st => [(0, .slice (some ⟨q, 0, none⟩) xs.length cap), (1, .func (.func 52) #[] #[.pointer (some ⟨bw, 0, none⟩), .pointer (some ⟨bf, 0, none⟩)]), (5, .int .i64 ((st.i : Nat) : Int)), (6, .int .i64 ((st.j : Nat) : Int))]) (⟨i0, i0 + 1, xs⟩ : DCG)) ⟨rfl, rfl, rfl, rfl, trivial⟩ (JC.loop (α := DCG) (fun st => [(0, .slice (some ⟨q, 0, none⟩) xs.length cap), (1, .func (.func 52) #[] #[.pointer (some ⟨bw, 0, none⟩), .pointer (some ⟨bf, 0, none⟩)]), (5, .int .i64 ((st.i : Nat) : Int)), (6, .int .i64 ((st.j : Nat) : Int))]) (fun st w' => (DCInv (wnt W F) xs ⟨st.j, st.zs⟩ ∧ st.i = (dels (wnt W F) (xs.take st.j)).length) ∧ St w [q, bw, bf] [(q, cb (fC (st.zs) ++ sp) 75), (bw, cb [wv] 24), (bf, cb [fv] 24)] w') (fun st => xs.length - st.j) (⟨i0, i0 + 1, xs⟩ : DCG) (fun st => ?_))) (fun w hw => ⟨⟨hst.1, hst.2.symm⟩, hw⟩)
    obtain ⟨i, j, zs⟩ := st
    refine JC.pr (fun hx => ?_)
    obtain ⟨hI, hiv⟩ := hx
    have hjl := hI.hj
    have hzl := hI.hl
    simp only at hiv hjl hzl ⊢
    refine JC.seq (fun K7 hK7 => ?_)
    refine JC.seq (fun K8 hK8 => ?_)
    refine JC.region ?_
    refine J.move rfl rfl ?_
    refine J.move rfl rfl ?_
    refine J.lenS rfl Ty.u68 rfl rfl ?_
    refine J.bin rfl rfl rfl rfl ?_
    refine J.nil ?_
    refine JX.thenN (hK8 _ _ ?_)
    refine JC.cond rfl (fun h1 => ?_) (fun h1 => ?_)
    · skip
      have hlt : j < xs.length := by simp at h1; omega
      have hget : zs[j]? = some xs[j] := hI.get hlt
      have hile : i ≤ j := by
        have := dels_le (wnt W F) (xs.take j)
        rw [List.length_take] at this
        omega
      refine JC.skip ?_
      refine JX.thenN (hK7 _ _ ?_)
      refine JC.seq (fun K9 hK9 => ?_)
      refine JC.block ?_
      refine JC.seq (fun K10 hK10 => ?_)
      refine JC.region ?_
      refine J.move rfl rfl ?_
      refine J.move rfl rfl ?_
      refine J.indexAddrS Ty.el68 Ty.s75 rfl rfl (by omega) (by omega) rfl ?_
      refine J.loadA (vs := cC xs[j]) Ty.a75 Ty.s75 rfl rfl (fun w1 hw => rowG_at (c := cC) (sz := 35) (fun _ => rfl) (rowC_own (xs := zs) hw (.head _) hzl hcap) hget (by rw [Int.toNat_natCast])) rfl ?_
      refine J.alloc zCan rfl rfl (fun b7 => ?_)
      refine J.storeW Ty.s75 rfl rfl rfl rfl rfl (by simp [Value.oneCell']) (by repeat first | exact .here | apply Up.there) ?_
      refine J.nil ?_
      refine JX.thenN (hK10 _ _ ?_)
      refine JC.seq (fun K11 hK11 => ?_)
      refine JC.region ?_
      refine J.move rfl rfl ?_
      refine J.loadOA (vs := cC xs[j]) Ty.a75 Ty.s75 rfl (by repeat first | exact .head _ | apply List.Mem.tail | apply List.mem_append_right) (by exact rfl) rfl rfl ?_
      refine J.callVB (v := .bool (wnt W F (xs[j]))) (fun w1 w2 hw hb => hw.step hb) Ty.bd52 rfl rfl rfl (fun w1 hw => by simpa using asks1_spec bw bf wv fv W F (xs[j]) w1 (St.owns (l1 := [(bw, cb [wv] 24), (bf, cb [fv] 24)]) (l := [(b7, cb (cC xs[j]) 75), (q, cb (fC (zs) ++ sp) 75)]) (hw.perm (by (refine perm_cnt (fun _ => ?_)); simp only [cntB_append, cntB_cons, cntB_nil, Nat.add_zero, Nat.zero_add]; try ac_rfl))) (hrW.st hoW hw) (hrF.st hoF hw) hlW hlF (offSub hoW (by simp)) (offSub hoF (by simp))) ?_
      refine J.not rfl rfl ?_
      refine J.nil ?_
      refine JX.thenN (hK11 _ _ ?_)
      refine JC.cond rfl (fun h2 => ?_) (fun h2 => ?_)
      · skip
        have hxn : ¬ wnt W F xs[j] = true := by simp at h2; simp [h2]
        have hput := hI.put hlt hxn
        simp only at hput
        refine JC.seq (fun K12 hK12 => ?_)
        refine JC.region ?_
        refine J.move rfl rfl ?_
        refine J.move rfl rfl ?_
        refine J.loadOA (vs := cC xs[j]) Ty.a75 Ty.s75 rfl (by repeat first | exact .head _ | apply List.Mem.tail | apply List.mem_append_right) (by exact rfl) rfl rfl ?_
        refine J.indexAddrS Ty.el68 Ty.s75 rfl rfl (by omega) (by omega) rfl ?_
        refine J.storeO (cs := fC zs ++ sp) (vs := cC xs[j]) Ty.s75 rfl rfl rfl rfl (one_cC _) (.there .here) (by have := fC_len zs; simp only [List.length_append]; omega) ?_
        refine J.conseq (I' := St w [q, bw, bf] [(b7, cb (cC xs[j]) 75), (q, cb (fC (zs.set i xs[j]) ++ sp) 75), (bw, cb [wv] 24), (bf, cb [fv] 24)]) ?_ (fun w1 hw => by rw [← set_C (show i < zs.length by omega) (o := 0 + (i : Int).toNat * 35) (by omega)]; exact hw)
        refine J.nil ?_
        refine JX.thenN (hK12 _ _ ?_)
        refine JC.region ?_
        refine J.move rfl rfl ?_
        (first | refine J.addN rfl rfl (by omega) (by omega) rfl ?_ | refine J.bin rfl rfl rfl rfl ?_)
        refine J.assign rfl rfl ?_
        refine J.nil ?_
        refine JX.blockN ?_
        refine JX.thenN (hK9 _ _ ?_)
        refine JC.region ?_
        refine J.move rfl rfl ?_
        (first | refine J.addN rfl rfl (by omega) (by omega) rfl ?_ | refine J.bin rfl rfl rfl rfl ?_)
        refine J.assign rfl rfl ?_
        refine J.nil ?_
        refine JX.thenN ?_
        refine JX.again (⟨i + 1, j + 1, zs.set i xs[j]⟩ : DCG) ?_ ?_ ?_
        · simp only; omega
        · exact ⟨rfl, rfl, rfl, rfl, trivial⟩
        · exact fun w1 hw => ⟨⟨by rw [hiv]; exact hput.1, by rw [hput.2, ← hiv]⟩, hw.drop (List.sublist_cons_self _ _)⟩
      · skip
        have hxe : wnt W F xs[j] = true := by simp at h2; exact h2
        have hskip := hI.skip hlt hxe
        simp only at hskip
        refine JC.skip ?_
        refine JX.blockN ?_
        refine JX.thenN (hK9 _ _ ?_)
        refine JC.region ?_
        refine J.move rfl rfl ?_
        (first | refine J.addN rfl rfl (by omega) (by omega) rfl ?_ | refine J.bin rfl rfl rfl rfl ?_)
        refine J.assign rfl rfl ?_
        refine J.nil ?_
        refine JX.thenN ?_
        refine JX.again (⟨i, j + 1, zs⟩ : DCG) ?_ ?_ ?_
        · simp only; omega
        · exact ⟨rfl, rfl, rfl, rfl, trivial⟩
        · exact fun w1 hw => ⟨⟨hskip.1, by rw [hskip.2]; exact hiv⟩, hw.drop (List.sublist_cons_self _ _)⟩
    · skip
      have hge : j = xs.length := by simp at h1; omega
      subst hge
      have hfin : i = (dels (wnt W F) xs).length := by rw [hiv, List.take_of_length_le (Nat.le_refl _)]
      have hile : i ≤ xs.length := by have := dels_le (wnt W F) xs; omega
      have htk := hI.tk
      simp only at htk
      rw [List.take_of_length_le (Nat.le_refl _), ← hfin] at htk
      refine JC.exit ?_
      refine JX.thenE ?_
      refine JX.thenE ?_
      refine JX.blockE ?_
      refine JX.thenN (hK5 _ _ ?_)
      refine JC.seq (fun K13 hK13 => ?_)
      refine JC.region ?_
      refine J.move rfl rfl ?_
      refine J.move rfl rfl ?_
      obtain ⟨oo, hoo, hoz⟩ : ∃ oo, (if cap = i then some (⟨q, 0, none⟩ : Addr) else (some (⟨q, 0, none⟩ : Addr)).map (·.add (i * 35))) = some ⟨q, oo, none⟩ ∧ (xs.length - i = 0 ∨ oo = i * 35) := by
        by_cases hci : cap = i
        · exact ⟨0, by rw [if_pos hci], .inl (by omega)⟩
        · exact ⟨i * 35, by rw [if_neg hci]; simp [Addr.add]; omega, .inr rfl⟩
      refine J.sliceS Ty.el68 Ty.s75 rfl rfl rfl rfl rfl (by omega) (by omega) (by omega) rfl ?_
      refine J.name 38 rfl (show _ = Value.slice (some ⟨q, oo, none⟩) (xs.length - i) (cap - i) by rw [← hoo]; rfl) ?_
      have hfz := fC_len zs
      obtain ⟨sp2, hc1, hc2⟩ := clear_C (sp := sp) (Z := (Builtin.zeroCells (cC zCV).toArray (xs.length - i)).toList) hzl htk hile (by rw [zeroCells_length]; rfl) hoz
      refine J.clear (cs := fC zs ++ sp) (sz := 35) rfl Ty.el68 zCan rfl (by decide) (fun u hu => one_fC (xs := [zCV]) (List.mem_append_left [] hu)) rfl .here (by simp only [List.length_append]; rcases hoz with h | h <;> omega) ?_
      refine J.conseq (I' := St w [q, bw, bf] [(q, cb (fC (dels (wnt W F) xs) ++ sp2) 75), (bw, cb [wv] 24), (bf, cb [fv] 24)]) ?_ (fun w1 hw => by rw [← hc1]; exact hw)
      refine J.nil ?_
      refine JX.thenN (hK13 _ _ ?_)
      refine JC.seq (fun K14 hK14 => ?_)
      refine JC.region ?_
      refine J.move rfl rfl ?_
      refine J.move rfl rfl ?_
      refine J.sliceS Ty.el68 Ty.s75 rfl rfl rfl rfl rfl (by omega) (by omega) (by omega) rfl ?_
      refine J.name 41 rfl (show _ = Value.slice (some ⟨q, 0, none⟩) (dels (wnt W F) xs).length cap by rw [← hfin]; split <;> simp [Addr.add]) ?_
      refine J.assign rfl rfl ?_
      refine J.nil ?_
      refine JX.thenN (hK14 _ _ ?_)
      refine JC.ret ?_
      refine JX.ret1 rfl rfl (fun w hw => ?_)
      first | exact ⟨sp, by rw [hxs], by rw [hxs]; exact hsz, by rw [hxs]; exact hw⟩ | exact ⟨sp2, rfl, by rw [hc2, List.length_append, hfz, hzl, ← fC_len xs, ← List.length_append]; exact hsz, hw⟩

theorem deleteFuncC_nil (bw bf : Nat) (wv fv : Value) (W F : List IDV) (w : World) (hw0 : Own w [(bw, cb [wv] 24), (bf, cb [fv] 24)]) (hrW : Row w wv W.length (fI W)) (hrF : Row w fv F.length (fI F)) (hlW : W.length ≤ 1099511627776) (hlF : F.length ≤ 1099511627776) (hoW : Off [bw, bf] wv (fI W)) (hoF : Off [bw, bf] fv (fI F)) :
    Calls Try.prog 50 [.slice none 0 0, .func (.func 52) #[] #[.pointer (some ⟨bw, 0, none⟩), .pointer (some ⟨bf, 0, none⟩)]].toArray w fun r w' => r = .returned (.slice none 0 0) ∧ Bel w w' := by
  refine calls_of_J (args := [.slice none 0 0, .func (.func 52) #[] #[.pointer (some ⟨bw, 0, none⟩), .pointer (some ⟨bf, 0, none⟩)]]) (e := [(0, .slice none 0 0), (1, .func (.func 52) #[] #[.pointer (some ⟨bw, 0, none⟩), .pointer (some ⟨bf, 0, none⟩)])]) Try.func50 rfl rfl ⟨rfl, rfl, trivial⟩ (hw0.st) ?_
  refine JC.seq (fun K0 hK0 => ?_)
  refine JC.region ?_
  refine J.assign rfl rfl ?_
  refine J.nil ?_
  refine JX.thenN (hK0 _ _ ?_)
  refine JC.seq (fun K1 hK1 => ?_)
  refine JC.region ?_
  refine J.move rfl rfl ?_
  refine J.move rfl rfl ?_
  refine J.callB (v := .int .i64 (plc (wnt W F) [])) (fun w1 w2 hw hb => hw.step hb) Ty.bd71 rfl rfl (fun w1 hw => indexFuncC_spec _ [] bw bf wv fv W F w1 hw.owns' (Vec.nil 75 35 |>.row (l := []) (w0 := w1) (S := []) (St.start w1)) (.inl rfl) (by decide) (hrW.st hoW hw) (hrF.st hoF hw) hlW hlF hoW hoF) ?_
  refine J.assign rfl rfl ?_
  refine J.nil ?_
  refine JX.thenN (hK1 _ _ ?_)
  refine JC.seq (fun K2 hK2 => ?_)
  refine JC.seq (fun K3 hK3 => ?_)
  refine JC.region ?_
  refine J.move rfl rfl ?_
  refine J.bin rfl rfl rfl rfl ?_
  refine J.nil ?_
  refine JX.thenN (hK3 _ _ ?_)
  first | refine JC.condT rfl ?_ | refine JC.cond rfl (fun _ => ?_) (fun h => by first | (exfalso; simp at h; omega) | (simp at h))
  refine JC.seq (fun K4 hK4 => ?_)
  refine JC.region ?_
  refine J.move rfl rfl ?_
  refine J.assign rfl rfl ?_
  refine J.nil ?_
  refine JX.thenN (hK4 _ _ ?_)
  refine JC.ret ?_
  refine JX.thenR ?_
  refine JX.ret1 rfl rfl (fun w hw => ?_)
  exact ⟨rfl, hw.same hw0 (fun p hp => hp)⟩


theorem vecC {v : Value} {xs : List CV} {lp : List (Nat × Obj)} (h : Vec 75 35 v (xs).length (fC (xs)) lp) : (v = .slice none 0 0 ∧ xs = [] ∧ lp = []) ∨ ∃ b c sp, v = .slice (some ⟨b, 0, none⟩) xs.length c ∧ lp = [(b, cb (fC xs ++ sp) 75)] ∧ (fC xs ++ sp).length = c * 35 ∧ xs.length ≤ c := by
  rcases h.2 with ⟨h1, h2, h3⟩ | h
  · exact .inl ⟨h1, List.eq_nil_of_length_eq_zero h2, h3⟩
  · exact .inr h
theorem vecC_mk {xs : List CV} {b c : Nat} {sp : List Value} (h1 : (fC xs ++ sp).length = c * 35) : Vec 75 35 (.slice (some ⟨b, 0, none⟩) xs.length c) (xs).length (fC (xs)) [(b, cb (fC xs ++ sp) 75)] := by
  refine ⟨fC_len xs, .inr ⟨b, c, sp, rfl, rfl, h1, ?_⟩⟩
  rw [List.length_append, fC_len] at h1
  omega
theorem cloneC_spec (v : Value) (xs : List CV) (w : World) (hr : Row w v xs.length (fC xs)) (hl : xs.length ≤ 1099511627776) :
    Calls Try.prog 51 [v].toArray w fun r w' => ∃ x : Value × List (Nat × Obj), r = .returned x.1 ∧ Vec 75 35 x.1 (xs).length (fC (xs)) x.2 ∧ St w [] x.2 w' := by
  obtain ⟨a, c, rfl, hc, h⟩ := id hr
  cases a with
  | none =>
    have hx : fC xs = [] := by
      rcases h with h | ⟨b, o, h, _⟩
      · exact h
      · cases h
    have hx0 : xs.length = 0 := by have := fC_len xs; rw [hx] at this; simp at this; omega
    have hx1 := List.eq_nil_of_length_eq_zero hx0
    subst hx1
    refine (cloneC_nil _ c w).mono fun r w' ⟨h1, h2⟩ => ⟨(.slice none 0 0, []), h1, Vec.nil _ _, (St.start w).step h2⟩
  | some a => exact (cloneC_some a c xs w hr hl).mono fun r w' ⟨x, h1, h2, h3⟩ => ⟨x, h1, h2, h3⟩
theorem deleteFuncC_vec (v : Value) (xs : List CV) (lp : List (Nat × Obj)) (bw bf : Nat) (wv fv : Value) (W F : List IDV) (w : World) (hv : Vec 75 35 v (xs).length (fC (xs)) lp) (hw0 : Own w (lp ++ [(bw, cb [wv] 24), (bf, cb [fv] 24)])) (hl : xs.length ≤ 1099511627776) (hrW : Row w wv W.length (fI W)) (hrF : Row w fv F.length (fI F)) (hlW : W.length ≤ 1099511627776) (hlF : F.length ≤ 1099511627776) (hoW : Off ((lp ++ [(bw, cb [wv] 24), (bf, cb [fv] 24)]).map (·.1)) wv (fI W)) (hoF : Off ((lp ++ [(bw, cb [wv] 24), (bf, cb [fv] 24)]).map (·.1)) fv (fI F)) :
    Calls Try.prog 50 [v, .func (.func 52) #[] #[.pointer (some ⟨bw, 0, none⟩), .pointer (some ⟨bf, 0, none⟩)]].toArray w fun r w' => ∃ x : Value × List (Nat × Obj), r = .returned x.1 ∧ Vec 75 35 x.1 (dels (wnt W F) xs).length (fC (dels (wnt W F) xs)) x.2 ∧ St w ((lp ++ [(bw, cb [wv] 24), (bf, cb [fv] 24)]).map (·.1)) (x.2 ++ [(bw, cb [wv] 24), (bf, cb [fv] 24)]) w' := by
  rcases vecC hv with ⟨rfl, rfl, rfl⟩ | ⟨b, c, sp, rfl, rfl, h1, h2⟩
  · exact (deleteFuncC_nil bw bf wv fv W F w hw0 hrW hrF hlW hlF hoW hoF).mono fun r w' ⟨h1, h2⟩ => ⟨(.slice none 0 0, []), h1, Vec.nil _ _, hw0.keep h2⟩
  · exact (deleteFuncC_spec b c xs sp bw bf wv fv W F w hw0 h2 h1 hl hrW hrF hlW hlF hoW hoF).mono fun r w' ⟨sp', h3, h4, h5⟩ => ⟨(_, [_]), h3, vecC_mk h4, h5⟩
theorem sortC_vec (v : Value) (xs : List CV) (lp : List (Nat × Obj)) (w : World) (hv : Vec 75 35 v (xs).length (fC (xs)) lp) (hw0 : Own w lp) (hl : xs.length ≤ 40) :
    Calls Try.prog 54 [v, .func (.func 55) #[] #[]].toArray w fun r w' => ∃ x : List CV × List (Nat × Obj), r = .returned (.tuple #[]) ∧ (SE ltC xs x.1 ∧ Srt ltC x.1 ∧ Vec 75 35 v (x.1).length (fC (x.1)) x.2) ∧ St w (lp.map (·.1)) x.2 w' := by
  rcases vecC hv with ⟨rfl, rfl, rfl⟩ | ⟨b, c, sp, rfl, rfl, h1, h2⟩
  · exact (sortStable0_spec none 0 w).mono fun r w' ⟨h1, h2⟩ => ⟨([], []), h1, ⟨SE.refl _, .nil, Vec.nil _ _⟩, (St.start w).step h2⟩
  · refine (sortStable_spec b xs.length c xs sp w hw0 rfl h2 hl).mono fun r w' ⟨Z, h3, h4, h5⟩ => ?_
    have hlz := h4.1.length swoC
    refine ⟨(Z, [_]), h3, ⟨h4.1, h4.2, ?_⟩, h5⟩
    have := vecC_mk (xs := Z) (b := b) (c := c) (sp := sp) (by rw [List.length_append, fC_len, ← hlz, ← fC_len, ← List.length_append]; exact h1)
    rw [← hlz] at this ⊢
    exact this
end Go.Proofs.Ytbafhclandendaa
