/-
  RouteTurned: plain law and walk.
-/
import Derived.Test.YtohldionclgljaaNj
namespace Go.Proofs.Ytohldionclgljaa
open Go.J Go.RowKit
set_option linter.unusedVariables false
set_option linter.unusedSimpArgs false
set_option maxRecDepth 8000
theorem valI_zI : valI zI = 0 := by simp [valI, bI, zI, valB]
theorem valI_addI (a b : IDV) : valI (addI a b) = (valI a + valI b) % 2 ^ 128 := by
  unfold addI
  rw [valI_subI, valI_subI, valI_zI]
  have h1 := valI_lt a
  have h2 := valI_lt b
  omega
theorem addI_inj {a b c : IDV} : addI a c = addI b c ↔ a = b := by
  constructor
  · intro h
    have h := congrArg valI h
    rw [valI_addI, valI_addI] at h
    have h1 := valI_lt a
    have h2 := valI_lt b
    have h3 := valI_lt c
    exact valI_inj (by omega)
  · intro h; rw [h]
theorem dI_add (d a c : IDV) : dI (addI d c) (addI a c) = dI d a := by
  rw [dI_eq, dI_eq, valI_addI, valI_addI]
  have h1 := valI_lt a
  have h2 := valI_lt d
  have h3 := valI_lt c
  omega
theorem kN_add (d a c : IDV) : kN (addI d c) (addI a c) = kN d a := by
  rw [kN_eq, kN_eq, farI_of, farI_of, dI_add]
noncomputable def turnC (c : IDV) (x : CV) : CV := ⟨addI x.id c, x.near, x.p, x.n⟩
noncomputable def turnN (c : IDV) (x : NV) : NV := ⟨x.n, addI x.id c⟩
noncomputable def turnE (c : IDV) (x : EV) : EV := ⟨x.p, addI x.a c, addI x.b c, x.na, x.nb⟩
theorem bef_turn (d c : IDV) (a b : CV) : befV (addI d c) (turnC c a) (turnC c b) = befV d a b := by
  unfold befV
  by_cases h : a.id = b.id
  · simp [turnC, h, kN_add]
  · simp [turnC, h, addI_inj, kN_add]
theorem best_turn (d c : IDV) : ∀ (l : List CV) (b : CV), bestV (addI d c) (l.map (turnC c)) (turnC c b) = turnC c (bestV d l b)
  | [], _ => rfl
  | y :: l, b => by
    show bestV (addI d c) (l.map (turnC c)) (if befV (addI d c) (turnC c y) (turnC c b) = true then turnC c y else turnC c b) = turnC c (bestV d l (if befV d y b = true then y else b))
    rw [bef_turn]
    cases befV d y b with
    | true => rw [if_pos rfl, if_pos rfl]; exact best_turn d c l y
    | false => rw [if_neg (by decide), if_neg (by decide)]; exact best_turn d c l b
theorem right_turn (c : IDV) (x : EV) : rightP (turnE c x) ↔ rightP x := by
  unfold rightP
  simp only [turnE, ne_eq, addI_inj]
theorem tget_turn (c : IDV) (L : List EV) (p : PV) : tget (L.map (turnE c)) p = (tget L p).map (turnE c) := by
  unfold tget
  rw [List.find?_map]
  rfl
theorem tadd_turn (c : IDV) (L : List EV) (most : Int) (x : EV) : (tadd (L.map (turnE c)) most (turnE c x)).2 = (tadd L most x).2.map (turnE c) := by
  unfold tadd
  by_cases h1 : rightP x
  · rw [if_neg (show ¬¬ rightP (turnE c x) from fun h => h ((right_turn c x).2 h1)), if_neg (show ¬¬ rightP x from fun h => h h1), show tget (L.map (turnE c)) (turnE c x).p = (tget L x.p).map (turnE c) from tget_turn c L x.p, List.length_map]
    cases h2 : tget L x.p with
    | some y => simp
    | none =>
      simp only [Option.map_none, Option.isSome_none, Bool.false_eq_true, if_false]
      split <;> simp
  · rw [if_pos (show ¬ rightP (turnE c x) from fun h => h1 ((right_turn c x).1 h)), if_pos h1]
theorem laid_turn (c : IDV) (most : Int) (l : List EV) : laidL most (l.map (turnE c)) = (laidL most l).map (turnE c) := by
  have key : ∀ (l : List EV) (L : List EV), (l.map (turnE c)).foldl (fun L x => (tadd L most x).2) (L.map (turnE c)) = (l.foldl (fun L x => (tadd L most x).2) L).map (turnE c) := by
    intro l
    induction l with
    | nil => intro L; rfl
    | cons x l ih =>
      intro L
      simp only [List.map_cons, List.foldl_cons]
      rw [tadd_turn]
      exact ih _
  exact key l []
theorem ord_turn (c : IDV) (L : List EV) : ordE (L.map (turnE c)) = (ordE L).map (turnE c) := by
  unfold ordE
  exact (List.map_mergeSort (r := fun x y : EV => !ltP y.p x.p) (s := fun x y : EV => !ltP y.p x.p) (f := turnE c) (fun _ _ _ _ => rfl)).symm
theorem eC_turn (c : IDV) (x : EV) : eC (turnE c x) = (eC x).map (turnC c) := by
  unfold eC turnE
  split <;> split <;> simp [turnC]
theorem choose_turn (d self c : IDV) (ns : List NV) (en : List EV) : chooseV (addI d c) (addI self c) (ns.map (turnN c)) (ordE (laidL 128 (en.map (turnE c)))) = turnC c (chooseV d self ns (ordE (laidL 128 en))) := by
  unfold chooseV
  rw [laid_turn, ord_turn, show selfC (addI self c) = turnC c (selfC self) from rfl, ← best_turn, List.map_append]
  congr 1
  rw [List.map_map, List.map_map, List.flatMap_map]
  congr 1
  rw [List.map_flatMap]
  congr 1
  funext x
  exact eC_turn c x
theorem own1 {w0 w : World} {S : List Nat} {l : List (Nat × Obj)} {b : Nat} {o : Obj} (hw : St w0 S l w) (hm : (b, o) ∈ l) : Own w [(b, o)] :=
  ⟨fun p hp => by simp only [List.mem_singleton] at hp; subst hp; exact hw.own _ hm, List.pairwise_singleton _ _⟩
theorem zPl_ : zeroT Try.prog 27 = some (.agg (cI zI ++ [Value.slice none 0 0] ++ [Value.slice none 0 0]).toArray) := by kernel_rfl
theorem one_cPl (a : IDV) (x y z : Option Addr) (i j k l : Nat) : ∀ v, v ∈ cI a ++ [Value.slice x i j] ++ [Value.slice y k l] → v.oneCell' = true := by
  intro v hv
  rcases List.mem_append.1 hv with hv | hv
  · rcases List.mem_append.1 hv with hv | hv
    · exact one_cI _ v hv
    · simp at hv; subst hv; rfl
  · simp at hv; subst hv; rfl
theorem set_a (x : EV) (a : IDV) : setMany (cE x) (0 + 17) (cI a) = cE ⟨x.p, a, x.b, x.na, x.nb⟩ := by rw [setMany_eq _ _ _ (by simp)]; rfl
theorem set_b (x : EV) (b : IDV) : setMany (cE x) (0 + 33) (cI b) = cE ⟨x.p, x.a, b, x.na, x.nb⟩ := by rw [setMany_eq _ _ _ (by simp)]; rfl
theorem set_id (x : CV) (a : IDV) : setMany (cC x) (0 + 0) (cI a) = cC ⟨a, x.near, x.p, x.n⟩ := by rw [setMany_eq _ _ _ (by simp)]; rfl
theorem set_n (a : IDV) (x y z : Value) : setMany (cI a ++ [x] ++ [y]) (0 + 16) [z] = cI a ++ [z] ++ [y] := by rw [setMany_eq _ _ _ (by simp)]; rfl
theorem set_e (a : IDV) (x y z : Value) : setMany (cI a ++ [x] ++ [y]) (0 + 17) [z] = cI a ++ [x] ++ [z] := by rw [setMany_eq _ _ _ (by simp)]; rfl
theorem snocN {ns : List NV} {c : IDV} {i : Nat} {x : NV} {v : Value} {l : List (Nat × Obj)} (hx : ns[i]? = some x) (h : Vec 53 17 v (((ns.take i).map (turnN c)).length + 1) (fN ((ns.take i).map (turnN c)) ++ cN (turnN c x)) l) :
    Vec 53 17 v ((ns.take (i + 1)).map (turnN c)).length (fN ((ns.take (i + 1)).map (turnN c))) l := by
  rw [take_snocN hx, List.map_append, List.length_append]
  simpa [fN] using h
theorem snocE {en : List EV} {c : IDV} {i : Nat} {x : EV} {v : Value} {l : List (Nat × Obj)} (hx : en[i]? = some x) (h : Vec 55 51 v (((en.take i).map (turnE c)).length + 1) (fE ((en.take i).map (turnE c)) ++ cE (turnE c x)) l) :
    Vec 55 51 v ((en.take (i + 1)).map (turnE c)).length (fE ((en.take (i + 1)).map (turnE c))) l := by
  rw [take_snocN hx, List.map_append, List.length_append]
  simpa [fE] using h

set_option maxHeartbeats 2000000 in
theorem routeTurned_spec (d : IDV) (self : IDV) (nv : Value) (ns : List NV) (ev : Value) (en : List EV) (w : World) (hr : Row w nv ns.length (fN ns)) (hnl : ns.length ≤ 1048576) (hns : ∀ x, x ∈ ns → okN x.n) (hre : Row w ev en.length (fE en)) (hok : ∀ x, x ∈ en → okE x) (hxl0 : en.length ≤ 1048576) (by_ : IDV) (pc : List Value) (hpc : pc = cI self ++ [nv] ++ [ev]) :
    Calls Try.prog 7 [.agg (cI d).toArray, .agg pc.toArray, .agg (cI by_).toArray].toArray w fun r w' => r = .returned (.bool true) ∧ Bel w w' := by
  obtain ⟨an, cn, rfl, hcn, _⟩ := id hr
  obtain ⟨ae, ce, rfl, hce, _⟩ := id hre
  have hxl : en.length ≤ 1954687338213 := by omega
  refine calls_of_J (args := [.agg (cI d).toArray, .agg pc.toArray, .agg (cI by_).toArray]) (e := [(0, .agg (cI d).toArray), (1, .agg pc.toArray), (2, .agg (cI by_).toArray)]) Try.func7 rfl rfl ⟨rfl, rfl, rfl, trivial⟩ (St.start w) ?_
  refine JC.seq (fun K0 hK0 => ?_)
  refine JC.region ?_
  subst hpc
  refine J.box rfl rfl rfl (fun b3 => ?_)
  refine J.box rfl rfl rfl (fun b4 => ?_)
  refine J.box rfl rfl rfl (fun b5 => ?_)
  refine J.assign rfl rfl ?_
  refine J.nil ?_
  refine JX.thenN (hK0 _ _ ?_)
  refine JC.seq (fun K1 hK1 => ?_)
  refine JC.region ?_
  refine J.makeFn rfl rfl ?_
  refine J.assign rfl rfl ?_
  refine J.nil ?_
  refine JX.thenN (hK1 _ _ ?_)
  refine JC.seq (fun K2 hK2 => ?_)
  refine JC.region ?_
  refine J.move rfl rfl ?_
  refine J.fieldAddr Ty.fd27_0 rfl rfl ?_
  refine J.loadOA (vs := cI self) Ty.a23 Ty.s23 rfl (by repeat first | exact .head _ | apply List.Mem.tail | apply List.mem_append_right) (by exact rfl) rfl rfl ?_
  refine J.perm ((b5, cb (cI by_) 23) :: (b4, cb (cI self ++ [.slice an ns.length cn] ++ [.slice ae en.length ce]) 27) :: (b3, cb (cI d) 23) :: []) (by (refine perm_cnt (fun _ => ?_)); simp only [cntB_append, cntB_cons, cntB_nil, Nat.add_zero, Nat.zero_add]; try ac_rfl) ?_
  refine J.callVB (v := .agg (cI (addI self by_)).toArray) (fun w1 w2 hw hb => hw.step hb) Ty.bd25 rfl rfl rfl (fun w1 hw => by simpa using turn_spec b5 self by_ w1 (own1 hw (.head _))) ?_
  refine J.buildS (cs := cI (addI self by_) ++ [.slice none 0 0] ++ [.slice none 0 0]) Ty.pl27 zPl_ rfl (by kernel_rfl) rfl ?_
  refine J.alloc zPl_ rfl rfl (fun b8 => ?_)
  refine J.storeW (cs := cI zI ++ [.slice none 0 0] ++ [.slice none 0 0]) (vs := cI (addI self by_) ++ [.slice none 0 0] ++ [.slice none 0 0]) Ty.s27 rfl rfl rfl rfl rfl (one_cPl _ _ _ none _ _ _ _) .here ?_
  refine J.nil ?_
  refine JX.thenN (hK2 _ _ ?_)
  refine JC.seq (fun K3 hK3 => ?_)
  refine JC.seq (fun K4 hK4 => ?_)
  refine JC.region ?_
  refine J.fieldAddr Ty.fd27_1 rfl rfl ?_
  refine J.loadO Ty.a24 rfl (by repeat first | exact .head _ | apply List.Mem.tail | apply List.mem_append_right) (by exact rfl) rfl ?_
  refine J.lenS rfl Ty.u24 rfl rfl ?_
  refine J.move rfl rfl ?_
  refine J.nil ?_
  refine JX.thenN (hK4 _ _ ?_)
  refine JC.block ?_
  refine JC.conseq (JC.cov (f := (fun st => [(3, .pointer (some ⟨b3, 0, none⟩)), (4, .pointer (some ⟨b4, 0, none⟩)), (5, .pointer (some ⟨b5, 0, none⟩)), (7, .func (.func 25) #[] [.pointer (some ⟨b5, 0, none⟩)].toArray), (8, .pointer (some ⟨b8, 0, none⟩)), (26, .slice an ns.length cn), (27, .int .i64 ((ns.length : Nat) : Int)), (28, .int .i64 ((st.1 : Nat) : Int))]) ((0, none, 0, 0, []) : Nat × Option Addr × Nat × Nat × List (Nat × Obj))) ⟨rfl, rfl, rfl, rfl, rfl, rfl, rfl, rfl, trivial⟩ (JC.loop (α := Nat × Option Addr × Nat × Nat × List (Nat × Obj)) (fun st => [(3, .pointer (some ⟨b3, 0, none⟩)), (4, .pointer (some ⟨b4, 0, none⟩)), (5, .pointer (some ⟨b5, 0, none⟩)), (7, .func (.func 25) #[] [.pointer (some ⟨b5, 0, none⟩)].toArray), (8, .pointer (some ⟨b8, 0, none⟩)), (26, .slice an ns.length cn), (27, .int .i64 ((ns.length : Nat) : Int)), (28, .int .i64 ((st.1 : Nat) : Int))]) (fun st w' => (st.1 ≤ ns.length ∧ Vec 53 17 (.slice st.2.1 st.2.2.1 st.2.2.2.1) ((ns.take st.1).map (turnN by_)).length (fN ((ns.take st.1).map (turnN by_))) st.2.2.2.2) ∧ St w [] ((b8, cb (cI (addI self by_) ++ [.slice st.2.1 st.2.2.1 st.2.2.2.1] ++ [.slice none 0 0]) 27) :: (b5, cb (cI by_) 23) :: (b4, cb (cI self ++ [.slice an ns.length cn] ++ [.slice ae en.length ce]) 27) :: (b3, cb (cI d) 23) :: st.2.2.2.2) w') (fun st => ns.length - st.1) ((0, none, 0, 0, []) : Nat × Option Addr × Nat × Nat × List (Nat × Obj)) (fun st => ?_))) (fun w hw => ⟨⟨Nat.zero_le _, Vec.nil _ _⟩, hw⟩)
  obtain ⟨i, va, vk, vc, lk⟩ := st
  refine JC.pr (fun hx1 => ?_)
  obtain ⟨hi, hvk⟩ := hx1
  simp only at hi hvk ⊢
  have htl : ((ns.take i).map (turnN by_)).length = i := by simp; omega
  refine JC.seq (fun K5 hK5 => ?_)
  refine JC.region ?_
  refine J.bin rfl rfl rfl rfl ?_
  refine J.nil ?_
  refine JX.thenN (hK5 _ _ ?_)
  refine JC.seq (fun K6 hK6 => ?_)
  refine JC.cond rfl (fun h0 => ?_) (fun h0 => ?_)
  · skip
    have hlt : i < ns.length := by simp at h0; omega
    have hflx := fN_length ns
    obtain ⟨qn, on, cn9, hqe, _, _⟩ := Row.some hr (by omega)
    simp only [Value.slice.injEq] at hqe
    obtain ⟨han, _, _⟩ := hqe
    have hr2 : Row w (.slice (some ⟨qn, on, none⟩) ns.length cn) ns.length (fN ns) := by rw [← han]; exact hr
    obtain ⟨xa, hxa⟩ : ∃ x, ns[i]? = some x := ⟨_, List.getElem?_eq_getElem hlt⟩
    refine JC.skip ?_
    refine JX.thenN (hK6 _ _ ?_)
    refine JC.seq (fun K7 hK7 => ?_)
    refine JC.block ?_
    refine JC.seq (fun K8 hK8 => ?_)
    refine JC.region ?_
    refine J.indexAddrS Ty.el24 Ty.s53 ((rfl : ev _ _ = some (Value.slice an ns.length cn)).trans (congrArg (fun a => some (Value.slice a ns.length cn)) han)) rfl (by omega) (by omega) rfl ?_
    refine J.loadA (vs := cN xa) Ty.a53 Ty.s53 rfl rfl (fun w1 hw => rowG_at cN_length (hr2.below (hw.drop (List.nil_sublist _)).below) hxa (by omega)) rfl ?_
    refine J.alloc zNe_ rfl rfl (fun b10 => ?_)
    refine J.storeW (cs := cN zNe) (vs := cN xa) Ty.s53 rfl rfl rfl rfl rfl (one_cN _) .here ?_
    refine J.nil ?_
    refine JX.thenN (hK8 _ _ ?_)
    apply JC.drawX (α := Nat × Value × List (Nat × Obj)) 11 (fun x => match x with | ⟨x9, v10, l10⟩ => [.pointer (some ⟨b8, 0 + 16, none⟩), .slice va vk vc, .pointer (some ⟨b10, 0 + 0, none⟩), .int .i64 xa.n, .func (.func 25) #[] [.pointer (some ⟨b5, 0, none⟩)].toArray, .pointer (some ⟨b10, 0 + 1, none⟩), .agg (cI xa.id).toArray, .agg (cI (addI xa.id by_)).toArray, .agg (cN (turnN by_ xa)).toArray, .slice (some ⟨x9, 0, none⟩) 1 1, v10]) (fun m x => match x with | ⟨x9, v10, l10⟩ => fun w1 => ((m 10 = true → m 9 = true) ∧ (m 10 = true → Vec 53 17 v10 ((ns.take (i + 1)).map (turnN by_)).length (fN ((ns.take (i + 1)).map (turnN by_))) l10)) ∧ St w [] ((b10, cb (cN xa) 53) :: (b8, cb (cI (addI self by_) ++ [.slice va vk vc] ++ [.slice none 0 0]) 27) :: (b5, cb (cI by_) 23) :: (b4, cb (cI self ++ [.slice an ns.length cn] ++ [.slice ae en.length ce]) 27) :: (b3, cb (cI d) 23) :: ((bif m 9 then [(x9, cb (cN (turnN by_ xa)) 53)] else []) ++ (bif m 10 then l10 else lk))) w1) Ty.mixed rfl rfl rfl (by kernel_rfl) rfl rfl ?hinit ?hstep ?htail
    case hinit => exact fun w1 hw => ⟨(0, .slice none 0 0, []), ⟨fun h => (by cases h), fun h => (by cases h)⟩, hw.drew⟩
    case hstep =>
      refine ⟨fun m x hm hp => ?_, fun m x hm hp => ?_, fun m x hm hp => ?_, fun m x hm hp => ?_, fun m x hm hp => ?_, fun m x hm hp => ?_, fun m x hm hp => ?_, fun m x hm hp => ?_, fun m x hm hp => ?_, fun m x hm hp => ?_, fun m x hm hp => ?_, trivial⟩
      · skip
        obtain ⟨x9, v10, l10⟩ := x
        show J _ _ _ _ _ (_) _
        refine J.pr (fun hF => ?_)
        refine J.fieldAddr Ty.fd27_1 rfl rfl ?_
        exact J.finX rfl (fun _ hw => ⟨⟨x9, v10, l10⟩, rfl, fun _ _ _ => rfl, hF, hw⟩)
      · skip
        obtain ⟨x9, v10, l10⟩ := x
        show J _ _ _ _ _ ((32, .pointer (some ⟨b8, 0 + 16, none⟩)) :: _) _
        refine J.pr (fun hF => ?_)
        refine J.load1 (v := .slice va vk vc) Ty.a24 rfl (fun w1 hw => by rw [cell_of (hw.own _ (.tail _ (.head _)))]; rfl) rfl ?_
        exact J.finX rfl (fun _ hw => ⟨⟨x9, v10, l10⟩, rfl, fun _ _ _ => rfl, hF, hw⟩)
      · skip
        obtain ⟨x9, v10, l10⟩ := x
        show J _ _ _ _ _ (_) _
        refine J.pr (fun hF => ?_)
        refine J.fieldAddr Ty.fd53_0 rfl rfl ?_
        exact J.finX rfl (fun _ hw => ⟨⟨x9, v10, l10⟩, rfl, fun _ _ _ => rfl, hF, hw⟩)
      · skip
        obtain ⟨x9, v10, l10⟩ := x
        show J _ _ _ _ _ ((34, .pointer (some ⟨b10, 0 + 0, none⟩)) :: _) _
        refine J.pr (fun hF => ?_)
        refine J.load1 (v := .int .i64 xa.n) Ty.a3 rfl (fun w1 hw => by rw [cell_of (hw.own _ (.head _))]; rfl) rfl ?_
        exact J.finX rfl (fun _ hw => ⟨⟨x9, v10, l10⟩, rfl, fun _ _ _ => rfl, hF, hw⟩)
      · skip
        obtain ⟨x9, v10, l10⟩ := x
        show J _ _ _ _ _ (_) _
        refine J.pr (fun hF => ?_)
        refine J.move rfl rfl ?_
        exact J.finX rfl (fun _ hw => ⟨⟨x9, v10, l10⟩, rfl, fun _ _ _ => rfl, hF, hw⟩)
      · skip
        obtain ⟨x9, v10, l10⟩ := x
        show J _ _ _ _ _ (_) _
        refine J.pr (fun hF => ?_)
        refine J.fieldAddr Ty.fd53_1 rfl rfl ?_
        exact J.finX rfl (fun _ hw => ⟨⟨x9, v10, l10⟩, rfl, fun _ _ _ => rfl, hF, hw⟩)
      · skip
        obtain ⟨x9, v10, l10⟩ := x
        show J _ _ _ _ _ ((37, .pointer (some ⟨b10, 0 + 1, none⟩)) :: _) _
        refine J.pr (fun hF => ?_)
        refine J.loadA (vs := cI xa.id) Ty.a23 Ty.s23 rfl rfl (fun w1 hw => cells_part (k := 1) (Cells.of_block (vs := cN xa) (hw.own _ (.head _)) rfl) rfl (Nat.le_of_ble_eq_true rfl)) rfl ?_
        exact J.finX rfl (fun _ hw => ⟨⟨x9, v10, l10⟩, rfl, fun _ _ _ => rfl, hF, hw⟩)
      · skip
        obtain ⟨x9, v10, l10⟩ := x
        show J _ _ _ _ _ ((38, .agg (cI xa.id).toArray) :: (36, .func (.func 25) #[] [.pointer (some ⟨b5, 0, none⟩)].toArray) :: _) _
        refine J.pr (fun hF => ?_)
        refine J.callVB (v := .agg (cI (addI xa.id by_)).toArray) (fun w1 w2 hw hb => hw.step hb) Ty.bd25 rfl rfl rfl (fun w1 hw => by simpa using turn_spec b5 xa.id by_ w1 (own1 hw (.tail _ (.tail _ (.head _))))) ?_
        exact J.finX rfl (fun _ hw => ⟨⟨x9, v10, l10⟩, rfl, fun _ _ _ => rfl, hF, hw⟩)
      · skip
        obtain ⟨x9, v10, l10⟩ := x
        show J _ _ _ _ _ ((39, .agg (cI (addI xa.id by_)).toArray) :: (35, .int .i64 xa.n) :: _) _
        refine J.pr (fun hF => ?_)
        refine J.buildS (cs := cN (turnN by_ xa)) Ty.pl53 zNe_ rfl (by kernel_rfl) rfl ?_
        exact J.finX rfl (fun _ hw => ⟨⟨x9, v10, l10⟩, rfl, fun _ _ _ => rfl, hF, hw⟩)
      · skip
        obtain ⟨x9, v10, l10⟩ := x
        show J _ _ _ _ _ ((40, .agg (cN (turnN by_ xa)).toArray) :: _) _
        refine J.pr (fun hF => ?_)
        have h10 : m 10 = false := by cases h : m 10 with
          | false => rfl
          | true => rw [hF.1 h] at hm; cases hm
        refine J.buildSl (cs := cN (turnN by_ xa)) Ty.el24 Ty.s53 zNe_ rfl rfl rfl rfl (by kernel_rfl) rfl rfl (fun b9 => ?_)
        refine J.nil (JX.finB rfl (fun w1 hw => ⟨⟨⟨b9, v10, l10⟩, rfl, fun j h1 h2 => ?_, ?_⟩, trivial⟩))
        · match j, h1 with
          | 0, _ => (first | rfl | trivial)
          | 1, _ => (first | rfl | trivial)
          | 2, _ => (first | rfl | trivial)
          | 3, _ => (first | rfl | trivial)
          | 4, _ => (first | rfl | trivial)
          | 5, _ => (first | rfl | trivial)
          | 6, _ => (first | rfl | trivial)
          | 7, _ => (first | rfl | trivial)
          | 8, _ => (first | rfl | trivial)
          | 9, _ => exact absurd (h2.symm.trans hm) (by decide)
          | 10, _ => (first | rfl | trivial)
          | j + 11, h1 => omega
        show ((m 10 = true → true = true) ∧ (m 10 = true → Vec 53 17 v10 ((ns.take (i + 1)).map (turnN by_)).length (fN ((ns.take (i + 1)).map (turnN by_))) l10)) ∧ St w [] ((b10, cb (cN xa) 53) :: (b8, cb (cI (addI self by_) ++ [.slice va vk vc] ++ [.slice none 0 0]) 27) :: (b5, cb (cI by_) 23) :: (b4, cb (cI self ++ [.slice an ns.length cn] ++ [.slice ae en.length ce]) 27) :: (b3, cb (cI d) 23) :: ((bif true then [(b9, cb (cN (turnN by_ xa)) 53)] else []) ++ (bif m 10 then l10 else lk))) w1
        simp only [hm, h10, cond_true, cond_false] at hw ⊢
        exact ⟨⟨fun h => (by cases h), fun h => (by cases h)⟩, hw.perm (by (refine perm_cnt (fun _ => ?_)); simp only [cntB_append, cntB_cons, cntB_nil, Nat.add_zero, Nat.zero_add]; try ac_rfl)⟩
      · skip
        obtain ⟨x9, v10, l10⟩ := x
        show J _ _ _ _ _ ((39, .agg (cI (addI xa.id by_)).toArray) :: (41, .slice (some ⟨x9, 0, none⟩) 1 1) :: (33, .slice va vk vc) :: _) _
        have hp9 : m 9 = true := predsT hp (by kernel_rfl)
        refine J.pr (fun hF => ?_)
        refine J.conseq (I' := St w [] (lk ++ ((x9, cb (cN (turnN by_ xa)) 53) :: (b10, cb (cN xa) 53) :: (b8, cb (cI (addI self by_) ++ [.slice va vk vc] ++ [.slice none 0 0]) 27) :: (b5, cb (cI by_) 23) :: (b4, cb (cI self ++ [.slice an ns.length cn] ++ [.slice ae en.length ce]) 27) :: (b3, cb (cI d) 23) ::  []))) ?_ (fun w1 hw => by simp only [hm, hp9, cond_true, cond_false] at hw; exact hw.perm (by (refine perm_cnt (fun _ => ?_)); simp only [cntB_append, cntB_cons, cntB_nil, Nat.add_zero, Nat.zero_add]; try ac_rfl))
        refine J.append (lp := lk) (xs := fN ((ns.take i).map (turnN by_))) (ys := cN (turnN by_ xa)) (k := ((ns.take i).map (turnN by_)).length) (m := 1) Ty.el24 Ty.s53 Ty.b53 zNe_ rfl (.inl ⟨53, Ty.u24⟩) rfl rfl hvk (fun w3 hw3 => .inl (Row.own (cs := cN (turnN by_ xa)) (tb := 53) (fr := (0, 0)) hw3 (by repeat first | exact .head _ | apply List.Mem.tail | apply List.mem_append_right) rfl (Nat.le_refl _))) rfl (one_cN _) (by omega) (by omega) rfl (fun vn ln hvn => ?_)
        replace hvn := snocN hxa hvn
        refine J.nil (JX.finB rfl (fun w1 hw => ⟨⟨⟨x9, vn, ln⟩, rfl, fun j h1 h2 => ?_, ?_⟩, trivial⟩))
        · match j, h1 with
          | 0, _ => (first | rfl | trivial)
          | 1, _ => (first | rfl | trivial)
          | 2, _ => (first | rfl | trivial)
          | 3, _ => (first | rfl | trivial)
          | 4, _ => (first | rfl | trivial)
          | 5, _ => (first | rfl | trivial)
          | 6, _ => (first | rfl | trivial)
          | 7, _ => (first | rfl | trivial)
          | 8, _ => (first | rfl | trivial)
          | 9, _ => (first | rfl | trivial)
          | 10, _ => exact absurd (h2.symm.trans hm) (by decide)
          | j + 11, h1 => omega
        show ((true = true → m 9 = true) ∧ (true = true → Vec 53 17 vn ((ns.take (i + 1)).map (turnN by_)).length (fN ((ns.take (i + 1)).map (turnN by_))) ln)) ∧ St w [] ((b10, cb (cN xa) 53) :: (b8, cb (cI (addI self by_) ++ [.slice va vk vc] ++ [.slice none 0 0]) 27) :: (b5, cb (cI by_) 23) :: (b4, cb (cI self ++ [.slice an ns.length cn] ++ [.slice ae en.length ce]) 27) :: (b3, cb (cI d) 23) :: ((bif m 9 then [(x9, cb (cN (turnN by_ xa)) 53)] else []) ++ (bif true then ln else lk))) w1
        simp only [hm, hp9, cond_true, cond_false] at hw ⊢
        exact ⟨⟨fun _ => (by first | trivial | rfl), fun _ => hvn⟩, hw.perm (by (refine perm_cnt (fun _ => ?_)); simp only [cntB_append, cntB_cons, cntB_nil, Nat.add_zero, Nat.zero_add]; try ac_rfl)⟩
    case htail =>
      intro x
      obtain ⟨x9, v10, l10⟩ := x
      show J _ _ _ _ _ ((42, v10) :: (41, .slice (some ⟨x9, 0, none⟩) 1 1) :: (40, .agg (cN (turnN by_ xa)).toArray) :: (39, .agg (cI (addI xa.id by_)).toArray) :: (38, .agg (cI xa.id).toArray) :: (37, .pointer (some ⟨b10, 0 + 1, none⟩)) :: (36, .func (.func 25) #[] [.pointer (some ⟨b5, 0, none⟩)].toArray) :: (35, .int .i64 xa.n) :: (34, .pointer (some ⟨b10, 0 + 0, none⟩)) :: (33, .slice va vk vc) :: (32, .pointer (some ⟨b8, 0 + 16, none⟩)) :: _) (fun w1 => ((true = true → true = true) ∧ (true = true → Vec 53 17 v10 ((ns.take (i + 1)).map (turnN by_)).length (fN ((ns.take (i + 1)).map (turnN by_))) l10)) ∧ St w [] ((b10, cb (cN xa) 53) :: (b8, cb (cI (addI self by_) ++ [.slice va vk vc] ++ [.slice none 0 0]) 27) :: (b5, cb (cI by_) 23) :: (b4, cb (cI self ++ [.slice an ns.length cn] ++ [.slice ae en.length ce]) 27) :: (b3, cb (cI d) 23) :: ((bif true then [(x9, cb (cN (turnN by_ xa)) 53)] else []) ++ (bif true then l10 else lk))) w1)
      refine J.pr (fun hF => ?_)
      have hv10 := hF.2 rfl
      refine J.conseq (I' := St w [] ((b8, cb (cI (addI self by_) ++ [.slice va vk vc] ++ [.slice none 0 0]) 27) :: (b10, cb (cN xa) 53) :: (x9, cb (cN (turnN by_ xa)) 53) :: (b5, cb (cI by_) 23) :: (b4, cb (cI self ++ [.slice an ns.length cn] ++ [.slice ae en.length ce]) 27) :: (b3, cb (cI d) 23) :: l10)) ?_ (fun w1 hw => by simp only [cond_true] at hw; exact hw.perm (by (refine perm_cnt (fun _ => ?_)); simp only [cntB_append, cntB_cons, cntB_nil, Nat.add_zero, Nat.zero_add]; try ac_rfl))
      obtain ⟨wa, wk, wc, rfl⟩ : ∃ a k c, v10 = .slice a k c := by obtain ⟨a, c, h9, _⟩ := hv10.form; exact ⟨a, _, c, h9⟩
      refine J.fieldAddr Ty.fd27_1 rfl rfl ?_
      refine J.storeO (cs := cI (addI self by_) ++ [.slice va vk vc] ++ [.slice none 0 0]) (vs := [.slice wa wk wc]) Ty.s24 rfl rfl rfl rfl (by simp [Value.oneCell']) .here (by simp) ?_
      refine J.conseq (I' := St w [] ((b8, cb (cI (addI self by_) ++ [.slice wa wk wc] ++ [.slice none 0 0]) 27) :: (b10, cb (cN xa) 53) :: (x9, cb (cN (turnN by_ xa)) 53) :: (b5, cb (cI by_) 23) :: (b4, cb (cI self ++ [.slice an ns.length cn] ++ [.slice ae en.length ce]) 27) :: (b3, cb (cI d) 23) :: l10)) ?_ (fun w1 hw => by first | (rw [set_n] at hw; exact hw) | (rw [set_e] at hw; exact hw))
      refine J.nil ?_
      refine JX.blockN ?_
      refine JX.thenN (hK7 _ _ ?_)
      refine JC.region ?_
      (first | refine J.addN rfl rfl (by omega) (by omega) rfl ?_ | refine J.bin rfl rfl rfl rfl ?_)
      refine J.move rfl rfl ?_
      refine J.nil ?_
      refine JX.thenN ?_
      refine JX.again ((i + 1, wa, wk, wc, l10) : Nat × Option Addr × Nat × Nat × List (Nat × Obj)) ?_ ?_ ?_
      · simp only; omega
      · exact ⟨rfl, rfl, rfl, rfl, rfl, rfl, rfl, rfl, trivial⟩
      · exact fun w1 hw => ⟨⟨hlt, hv10⟩, (hw.perm (l' := [(x9, cb (cN (turnN by_ xa)) 53), (b10, cb (cN xa) 53)] ++ ((b8, cb (cI (addI self by_) ++ [.slice wa wk wc] ++ [.slice none 0 0]) 27) :: (b5, cb (cI by_) 23) :: (b4, cb (cI self ++ [.slice an ns.length cn] ++ [.slice ae en.length ce]) 27) :: (b3, cb (cI d) 23) :: l10)) (by (refine perm_cnt (fun _ => ?_)); simp only [cntB_append, cntB_cons, cntB_nil, Nat.add_zero, Nat.zero_add]; try ac_rfl)).drop (List.sublist_append_right _ _)⟩
  · skip
    have hge : i = ns.length := by simp at h0; omega
    subst hge
    rw [List.take_length] at hvk
    obtain ⟨nva, h9⟩ : ∃ q, q = va := ⟨_, rfl⟩
    subst h9
    obtain ⟨nvk, h9⟩ : ∃ q, q = vk := ⟨_, rfl⟩
    subst h9
    obtain ⟨nvc, h9⟩ : ∃ q, q = vc := ⟨_, rfl⟩
    subst h9
    obtain ⟨lN, h9⟩ : ∃ q, q = lk := ⟨_, rfl⟩
    subst h9
    have hvN := hvk
    obtain rfl : nvk = (ns.map (turnN by_)).length := by obtain ⟨a9, c9, hq9, _⟩ := hvN.form; simp only [Value.slice.injEq] at hq9; exact hq9.2.1
    refine JC.exit ?_
    refine JX.thenE ?_
    refine JX.thenE ?_
    refine JX.blockE ?_
    refine JX.thenN (hK3 _ _ ?_)
    refine JC.seq (fun K9 hK9 => ?_)
    refine JC.seq (fun K10 hK10 => ?_)
    refine JC.region ?_
    refine J.fieldAddr Ty.fd27_2 rfl rfl ?_
    refine J.loadO Ty.a25 rfl (by repeat first | exact .head _ | apply List.Mem.tail | apply List.mem_append_right) (by exact rfl) rfl ?_
    refine J.lenS rfl Ty.u25 rfl rfl ?_
    refine J.move rfl rfl ?_
    refine J.nil ?_
    refine JX.thenN (hK10 _ _ ?_)
    refine JC.block ?_
    refine JC.conseq (JC.cov (f := (fun st => [(3, .pointer (some ⟨b3, 0, none⟩)), (4, .pointer (some ⟨b4, 0, none⟩)), (5, .pointer (some ⟨b5, 0, none⟩)), (7, .func (.func 25) #[] [.pointer (some ⟨b5, 0, none⟩)].toArray), (8, .pointer (some ⟨b8, 0, none⟩)), (46, .slice ae en.length ce), (47, .int .i64 ((en.length : Nat) : Int)), (48, .int .i64 ((st.1 : Nat) : Int))]) ((0, none, 0, 0, []) : Nat × Option Addr × Nat × Nat × List (Nat × Obj))) ⟨rfl, rfl, rfl, rfl, rfl, rfl, rfl, rfl, trivial⟩ (JC.loop (α := Nat × Option Addr × Nat × Nat × List (Nat × Obj)) (fun st => [(3, .pointer (some ⟨b3, 0, none⟩)), (4, .pointer (some ⟨b4, 0, none⟩)), (5, .pointer (some ⟨b5, 0, none⟩)), (7, .func (.func 25) #[] [.pointer (some ⟨b5, 0, none⟩)].toArray), (8, .pointer (some ⟨b8, 0, none⟩)), (46, .slice ae en.length ce), (47, .int .i64 ((en.length : Nat) : Int)), (48, .int .i64 ((st.1 : Nat) : Int))]) (fun st w' => (st.1 ≤ en.length ∧ Vec 55 51 (.slice st.2.1 st.2.2.1 st.2.2.2.1) ((en.take st.1).map (turnE by_)).length (fE ((en.take st.1).map (turnE by_))) st.2.2.2.2) ∧ St w [] ((b8, cb (cI (addI self by_) ++ [.slice nva (ns.map (turnN by_)).length nvc] ++ [.slice st.2.1 st.2.2.1 st.2.2.2.1]) 27) :: (b5, cb (cI by_) 23) :: (b4, cb (cI self ++ [.slice an ns.length cn] ++ [.slice ae en.length ce]) 27) :: (b3, cb (cI d) 23) :: (lN ++ st.2.2.2.2)) w') (fun st => en.length - st.1) ((0, none, 0, 0, []) : Nat × Option Addr × Nat × Nat × List (Nat × Obj)) (fun st => ?_))) (fun w hw => ⟨⟨Nat.zero_le _, Vec.nil _ _⟩, hw.perm (by (refine perm_cnt (fun _ => ?_)); simp only [cntB_append, cntB_cons, cntB_nil, Nat.add_zero, Nat.zero_add]; try ac_rfl)⟩)
    obtain ⟨i, va, vk, vc, lk⟩ := st
    refine JC.pr (fun hx1 => ?_)
    obtain ⟨hi, hvk⟩ := hx1
    simp only at hi hvk ⊢
    have htl : ((en.take i).map (turnE by_)).length = i := by simp; omega
    refine JC.seq (fun K11 hK11 => ?_)
    refine JC.region ?_
    refine J.bin rfl rfl rfl rfl ?_
    refine J.nil ?_
    refine JX.thenN (hK11 _ _ ?_)
    refine JC.seq (fun K12 hK12 => ?_)
    refine JC.cond rfl (fun h1 => ?_) (fun h1 => ?_)
    · skip
      have hlt : i < en.length := by simp at h1; omega
      have hfle := fE_length en
      obtain ⟨qe, oe, ce9, hqe, _, _⟩ := Row.some hre (by omega)
      simp only [Value.slice.injEq] at hqe
      obtain ⟨hae, _, _⟩ := hqe
      have hre2 : Row w (.slice (some ⟨qe, oe, none⟩) en.length ce) en.length (fE en) := by rw [← hae]; exact hre
      obtain ⟨xe, hxe⟩ : ∃ x, en[i]? = some x := ⟨_, List.getElem?_eq_getElem hlt⟩
      refine JC.skip ?_
      refine JX.thenN (hK12 _ _ ?_)
      refine JC.seq (fun K13 hK13 => ?_)
      refine JC.block ?_
      refine JC.seq (fun K14 hK14 => ?_)
      refine JC.region ?_
      refine J.indexAddrS Ty.el25 Ty.s55 ((rfl : ev _ _ = some (Value.slice ae en.length ce)).trans (congrArg (fun a => some (Value.slice a en.length ce)) hae)) rfl (by omega) (by omega) rfl ?_
      refine J.loadA (vs := cE xe) Ty.a55 Ty.s55 rfl rfl (fun w1 hw => rowE_at (hre2.below (hw.drop (List.nil_sublist _)).below) hxe (by omega)) rfl ?_
      refine J.alloc Ty.zE_ rfl rfl (fun b12 => ?_)
      refine J.storeW (cs := cE zE) (vs := cE xe) Ty.s55 rfl rfl rfl rfl rfl (one_cE _) .here ?_
      refine J.nil ?_
      refine JX.thenN (hK14 _ _ ?_)
      refine JC.seq (fun K15 hK15 => ?_)
      apply JC.drawX (α := Unit × Unit) 12 (fun x => match x with | ⟨u1, u2⟩ => [.func (.func 25) #[] [.pointer (some ⟨b5, 0, none⟩)].toArray, .pointer (some ⟨b12, 0 + 17, none⟩), .agg (cI xe.a).toArray, .agg (cI (addI xe.a by_)).toArray, .func (.func 25) #[] [.pointer (some ⟨b5, 0, none⟩)].toArray, .pointer (some ⟨b12, 0 + 33, none⟩), .agg (cI xe.b).toArray, .agg (cI (addI xe.b by_)).toArray, .pointer (some ⟨b12, 0 + 17, none⟩), undef, .pointer (some ⟨b12, 0 + 33, none⟩), undef]) (fun m x => match x with | ⟨u1, u2⟩ => fun w1 => ((m 9 = true → m 2 = true ∧ m 6 = true) ∧ (m 11 = true → m 9 = true)) ∧ St w [] ((b12, cb (cE (bif m 11 then (turnE by_ xe) else bif m 9 then (⟨xe.p, addI xe.a by_, xe.b, xe.na, xe.nb⟩ : EV) else xe)) 55) :: (b8, cb (cI (addI self by_) ++ [.slice nva (ns.map (turnN by_)).length nvc] ++ [.slice va vk vc]) 27) :: (b5, cb (cI by_) 23) :: (b4, cb (cI self ++ [.slice an ns.length cn] ++ [.slice ae en.length ce]) 27) :: (b3, cb (cI d) 23) :: (lN ++ lk)) w1) Ty.mixed rfl rfl rfl (by kernel_rfl) rfl rfl ?hinit ?hstep ?htail
      case hinit => exact fun w1 hw => ⟨((), ()), ⟨fun h => (by cases h), fun h => (by cases h)⟩, hw.drew⟩
      case hstep =>
        refine ⟨fun m x hm hp => ?_, fun m x hm hp => ?_, fun m x hm hp => ?_, fun m x hm hp => ?_, fun m x hm hp => ?_, fun m x hm hp => ?_, fun m x hm hp => ?_, fun m x hm hp => ?_, fun m x hm hp => ?_, fun m x hm hp => ?_, fun m x hm hp => ?_, fun m x hm hp => ?_, trivial⟩
        · skip
          obtain ⟨u1, u2⟩ := x
          show J _ _ _ _ _ (_) _
          refine J.pr (fun hF => ?_)
          refine J.move rfl rfl ?_
          exact J.finX rfl (fun _ hw => ⟨⟨u1, u2⟩, rfl, fun _ _ _ => rfl, hF, hw⟩)
        · skip
          obtain ⟨u1, u2⟩ := x
          show J _ _ _ _ _ (_) _
          refine J.pr (fun hF => ?_)
          refine J.fieldAddr Ty.fd55_1 rfl rfl ?_
          exact J.finX rfl (fun _ hw => ⟨⟨u1, u2⟩, rfl, fun _ _ _ => rfl, hF, hw⟩)
        · skip
          obtain ⟨u1, u2⟩ := x
          show J _ _ _ _ _ ((53, .pointer (some ⟨b12, 0 + 17, none⟩)) :: _) _
          refine J.pr (fun hF => ?_)
          have h9 : m 9 = false := by cases h : m 9 with
            | false => rfl
            | true => rw [(hF.1 h).1] at hm; cases hm
          have h11 : m 11 = false := by cases h : m 11 with
            | false => rfl
            | true => rw [hF.2 h] at h9; cases h9
          refine J.conseq (I' := St w [] ((b12, cb (cE xe) 55) :: (b8, cb (cI (addI self by_) ++ [.slice nva (ns.map (turnN by_)).length nvc] ++ [.slice va vk vc]) 27) :: (b5, cb (cI by_) 23) :: (b4, cb (cI self ++ [.slice an ns.length cn] ++ [.slice ae en.length ce]) 27) :: (b3, cb (cI d) 23) :: (lN ++ lk))) ?_ (fun w1 hw => by simp only [h9, h11, cond_false] at hw; exact hw)
          refine J.loadA (vs := cI xe.a) Ty.a23 Ty.s23 rfl rfl (fun w1 hw => cells_part (k := 17) (Cells.of_block (vs := cE xe) (hw.own _ (.head _)) rfl) rfl (Nat.le_of_ble_eq_true rfl)) rfl ?_
          refine J.nil (JX.finB rfl (fun w1 hw => ⟨⟨⟨u1, u2⟩, rfl, fun j h1 h2 => ?_, ?_⟩, trivial⟩))
          · match j, h1 with
            | 0, _ => (first | rfl | trivial)
            | 1, _ => (first | rfl | trivial)
            | 2, _ => (first | rfl | trivial)
            | 3, _ => (first | rfl | trivial)
            | 4, _ => (first | rfl | trivial)
            | 5, _ => (first | rfl | trivial)
            | 6, _ => (first | rfl | trivial)
            | 7, _ => (first | rfl | trivial)
            | 8, _ => (first | rfl | trivial)
            | 9, _ => (first | rfl | trivial)
            | 10, _ => (first | rfl | trivial)
            | 11, _ => (first | rfl | trivial)
            | j + 12, h1 => omega
          show ((m 9 = true → true = true ∧ m 6 = true) ∧ (m 11 = true → m 9 = true)) ∧ St w [] ((b12, cb (cE (bif m 11 then (turnE by_ xe) else bif m 9 then (⟨xe.p, addI xe.a by_, xe.b, xe.na, xe.nb⟩ : EV) else xe)) 55) :: (b8, cb (cI (addI self by_) ++ [.slice nva (ns.map (turnN by_)).length nvc] ++ [.slice va vk vc]) 27) :: (b5, cb (cI by_) 23) :: (b4, cb (cI self ++ [.slice an ns.length cn] ++ [.slice ae en.length ce]) 27) :: (b3, cb (cI d) 23) :: (lN ++ lk)) w1
          simp only [h9, h11, cond_false]
          exact ⟨⟨fun h => (by cases h), fun h => (by cases h)⟩, hw⟩
        · skip
          obtain ⟨u1, u2⟩ := x
          show J _ _ _ _ _ ((54, .agg (cI xe.a).toArray) :: (52, .func (.func 25) #[] [.pointer (some ⟨b5, 0, none⟩)].toArray) :: _) _
          have hp2 : m 2 = true := predsT hp (by kernel_rfl)
          refine J.pr (fun hF => ?_)
          refine J.callVB (v := .agg (cI (addI xe.a by_)).toArray) (fun w1 w2 hw hb => hw.step hb) Ty.bd25 rfl rfl rfl (fun w1 hw => by simpa using turn_spec b5 xe.a by_ w1 (own1 hw (.tail _ (.tail _ (.head _))))) ?_
          exact J.finX rfl (fun _ hw => ⟨⟨u1, u2⟩, rfl, fun _ _ _ => rfl, hF, hw⟩)
        · skip
          obtain ⟨u1, u2⟩ := x
          show J _ _ _ _ _ (_) _
          refine J.pr (fun hF => ?_)
          refine J.move rfl rfl ?_
          exact J.finX rfl (fun _ hw => ⟨⟨u1, u2⟩, rfl, fun _ _ _ => rfl, hF, hw⟩)
        · skip
          obtain ⟨u1, u2⟩ := x
          show J _ _ _ _ _ (_) _
          refine J.pr (fun hF => ?_)
          refine J.fieldAddr Ty.fd55_2 rfl rfl ?_
          exact J.finX rfl (fun _ hw => ⟨⟨u1, u2⟩, rfl, fun _ _ _ => rfl, hF, hw⟩)
        · skip
          obtain ⟨u1, u2⟩ := x
          show J _ _ _ _ _ ((57, .pointer (some ⟨b12, 0 + 33, none⟩)) :: _) _
          refine J.pr (fun hF => ?_)
          have h9 : m 9 = false := by cases h : m 9 with
            | false => rfl
            | true => rw [(hF.1 h).2] at hm; cases hm
          have h11 : m 11 = false := by cases h : m 11 with
            | false => rfl
            | true => rw [hF.2 h] at h9; cases h9
          refine J.conseq (I' := St w [] ((b12, cb (cE xe) 55) :: (b8, cb (cI (addI self by_) ++ [.slice nva (ns.map (turnN by_)).length nvc] ++ [.slice va vk vc]) 27) :: (b5, cb (cI by_) 23) :: (b4, cb (cI self ++ [.slice an ns.length cn] ++ [.slice ae en.length ce]) 27) :: (b3, cb (cI d) 23) :: (lN ++ lk))) ?_ (fun w1 hw => by simp only [h9, h11, cond_false] at hw; exact hw)
          refine J.loadA (vs := cI xe.b) Ty.a23 Ty.s23 rfl rfl (fun w1 hw => cells_part (k := 33) (Cells.of_block (vs := cE xe) (hw.own _ (.head _)) rfl) rfl (Nat.le_of_ble_eq_true rfl)) rfl ?_
          refine J.nil (JX.finB rfl (fun w1 hw => ⟨⟨⟨u1, u2⟩, rfl, fun j h1 h2 => ?_, ?_⟩, trivial⟩))
          · match j, h1 with
            | 0, _ => (first | rfl | trivial)
            | 1, _ => (first | rfl | trivial)
            | 2, _ => (first | rfl | trivial)
            | 3, _ => (first | rfl | trivial)
            | 4, _ => (first | rfl | trivial)
            | 5, _ => (first | rfl | trivial)
            | 6, _ => (first | rfl | trivial)
            | 7, _ => (first | rfl | trivial)
            | 8, _ => (first | rfl | trivial)
            | 9, _ => (first | rfl | trivial)
            | 10, _ => (first | rfl | trivial)
            | 11, _ => (first | rfl | trivial)
            | j + 12, h1 => omega
          show ((m 9 = true → m 2 = true ∧ true = true) ∧ (m 11 = true → m 9 = true)) ∧ St w [] ((b12, cb (cE (bif m 11 then (turnE by_ xe) else bif m 9 then (⟨xe.p, addI xe.a by_, xe.b, xe.na, xe.nb⟩ : EV) else xe)) 55) :: (b8, cb (cI (addI self by_) ++ [.slice nva (ns.map (turnN by_)).length nvc] ++ [.slice va vk vc]) 27) :: (b5, cb (cI by_) 23) :: (b4, cb (cI self ++ [.slice an ns.length cn] ++ [.slice ae en.length ce]) 27) :: (b3, cb (cI d) 23) :: (lN ++ lk)) w1
          simp only [h9, h11, cond_false]
          exact ⟨⟨fun h => (by cases h), fun h => (by cases h)⟩, hw⟩
        · skip
          obtain ⟨u1, u2⟩ := x
          show J _ _ _ _ _ ((55, .agg (cI (addI xe.a by_)).toArray) :: (58, .agg (cI xe.b).toArray) :: (56, .func (.func 25) #[] [.pointer (some ⟨b5, 0, none⟩)].toArray) :: _) _
          have hp6 : m 6 = true := predsT hp (by kernel_rfl)
          refine J.pr (fun hF => ?_)
          refine J.callVB (v := .agg (cI (addI xe.b by_)).toArray) (fun w1 w2 hw hb => hw.step hb) Ty.bd25 rfl rfl rfl (fun w1 hw => by simpa using turn_spec b5 xe.b by_ w1 (own1 hw (.tail _ (.tail _ (.head _))))) ?_
          exact J.finX rfl (fun _ hw => ⟨⟨u1, u2⟩, rfl, fun _ _ _ => rfl, hF, hw⟩)
        · skip
          obtain ⟨u1, u2⟩ := x
          show J _ _ _ _ _ ((58, .agg (cI xe.b).toArray) :: (57, .pointer (some ⟨b12, 0 + 33, none⟩)) :: (55, .agg (cI (addI xe.a by_)).toArray) :: (54, .agg (cI xe.a).toArray) :: (53, .pointer (some ⟨b12, 0 + 17, none⟩)) :: (52, .func (.func 25) #[] [.pointer (some ⟨b5, 0, none⟩)].toArray) :: _) _
          have hp2 : m 2 = true := predsT hp (by kernel_rfl)
          have hp6 : m 6 = true := predsT hp (by kernel_rfl)
          refine J.pr (fun hF => ?_)
          refine J.fieldAddr Ty.fd55_1 rfl rfl ?_
          exact J.finX rfl (fun _ hw => ⟨⟨u1, u2⟩, rfl, fun _ _ _ => rfl, hF, hw⟩)
        · skip
          obtain ⟨u1, u2⟩ := x
          show J _ _ _ _ _ ((58, .agg (cI xe.b).toArray) :: (57, .pointer (some ⟨b12, 0 + 33, none⟩)) :: (55, .agg (cI (addI xe.a by_)).toArray) :: (54, .agg (cI xe.a).toArray) :: (53, .pointer (some ⟨b12, 0 + 17, none⟩)) :: (52, .func (.func 25) #[] [.pointer (some ⟨b5, 0, none⟩)].toArray) :: (59, .agg (cI (addI xe.b by_)).toArray) :: (55, .agg (cI (addI xe.a by_)).toArray) :: (60, .pointer (some ⟨b12, 0 + 17, none⟩)) :: _) _
          have hp2 : m 2 = true := predsT hp (by kernel_rfl)
          have hp6 : m 6 = true := predsT hp (by kernel_rfl)
          refine J.pr (fun hF => ?_)
          have h11 : m 11 = false := by cases h : m 11 with
            | false => rfl
            | true => rw [hF.2 h] at hm; cases hm
          refine J.conseq (I' := St w [] ((b12, cb (cE xe) 55) :: (b8, cb (cI (addI self by_) ++ [.slice nva (ns.map (turnN by_)).length nvc] ++ [.slice va vk vc]) 27) :: (b5, cb (cI by_) 23) :: (b4, cb (cI self ++ [.slice an ns.length cn] ++ [.slice ae en.length ce]) 27) :: (b3, cb (cI d) 23) :: (lN ++ lk))) ?_ (fun w1 hw => by simp only [hm, h11, cond_false] at hw; exact hw)
          refine J.storeO (cs := cE xe) (vs := cI (addI xe.a by_)) Ty.s23 rfl rfl rfl rfl (one_cI _) .here (by simp) ?_
          refine J.conseq (I' := St w [] ((b12, cb (cE (⟨xe.p, addI xe.a by_, xe.b, xe.na, xe.nb⟩ : EV)) 55) :: (b8, cb (cI (addI self by_) ++ [.slice nva (ns.map (turnN by_)).length nvc] ++ [.slice va vk vc]) 27) :: (b5, cb (cI by_) 23) :: (b4, cb (cI self ++ [.slice an ns.length cn] ++ [.slice ae en.length ce]) 27) :: (b3, cb (cI d) 23) :: (lN ++ lk))) ?_ (fun w1 hw => by rw [set_a] at hw; exact hw)
          refine J.nil (JX.finN undef (fun w1 hw => ⟨⟨u1, u2⟩, rfl, fun j h1 h2 => ?_, ?_⟩))
          · match j, h1 with
            | 0, _ => (first | rfl | trivial)
            | 1, _ => (first | rfl | trivial)
            | 2, _ => (first | rfl | trivial)
            | 3, _ => (first | rfl | trivial)
            | 4, _ => (first | rfl | trivial)
            | 5, _ => (first | rfl | trivial)
            | 6, _ => (first | rfl | trivial)
            | 7, _ => (first | rfl | trivial)
            | 8, _ => (first | rfl | trivial)
            | 9, _ => (first | rfl | trivial)
            | 10, _ => (first | rfl | trivial)
            | 11, _ => (first | rfl | trivial)
            | j + 12, h1 => omega
          show ((true = true → m 2 = true ∧ m 6 = true) ∧ (m 11 = true → true = true)) ∧ St w [] ((b12, cb (cE (bif m 11 then (turnE by_ xe) else bif true then (⟨xe.p, addI xe.a by_, xe.b, xe.na, xe.nb⟩ : EV) else xe)) 55) :: (b8, cb (cI (addI self by_) ++ [.slice nva (ns.map (turnN by_)).length nvc] ++ [.slice va vk vc]) 27) :: (b5, cb (cI by_) 23) :: (b4, cb (cI self ++ [.slice an ns.length cn] ++ [.slice ae en.length ce]) 27) :: (b3, cb (cI d) 23) :: (lN ++ lk)) w1
          simp only [h11, cond_true, cond_false]
          exact ⟨⟨fun _ => ⟨hp2, hp6⟩, fun h => (by cases h)⟩, hw⟩
        · skip
          obtain ⟨u1, u2⟩ := x
          show J _ _ _ _ _ ((60, .pointer (some ⟨b12, 0 + 17, none⟩)) :: (59, .agg (cI (addI xe.b by_)).toArray) :: (58, .agg (cI xe.b).toArray) :: (57, .pointer (some ⟨b12, 0 + 33, none⟩)) :: (56, .func (.func 25) #[] [.pointer (some ⟨b5, 0, none⟩)].toArray) :: (55, .agg (cI (addI xe.a by_)).toArray) :: (54, .agg (cI xe.a).toArray) :: (53, .pointer (some ⟨b12, 0 + 17, none⟩)) :: (52, .func (.func 25) #[] [.pointer (some ⟨b5, 0, none⟩)].toArray) :: _) _
          have hp2 : m 2 = true := predsT hp (by kernel_rfl)
          have hp6 : m 6 = true := predsT hp (by kernel_rfl)
          have hp9 : m 9 = true := predsT hp (by kernel_rfl)
          refine J.pr (fun hF => ?_)
          refine J.fieldAddr Ty.fd55_2 rfl rfl ?_
          exact J.finX rfl (fun _ hw => ⟨⟨u1, u2⟩, rfl, fun _ _ _ => rfl, hF, hw⟩)
        · skip
          obtain ⟨u1, u2⟩ := x
          show J _ _ _ _ _ ((60, .pointer (some ⟨b12, 0 + 17, none⟩)) :: (59, .agg (cI (addI xe.b by_)).toArray) :: (58, .agg (cI xe.b).toArray) :: (57, .pointer (some ⟨b12, 0 + 33, none⟩)) :: (56, .func (.func 25) #[] [.pointer (some ⟨b5, 0, none⟩)].toArray) :: (55, .agg (cI (addI xe.a by_)).toArray) :: (54, .agg (cI xe.a).toArray) :: (53, .pointer (some ⟨b12, 0 + 17, none⟩)) :: (52, .func (.func 25) #[] [.pointer (some ⟨b5, 0, none⟩)].toArray) :: (59, .agg (cI (addI xe.b by_)).toArray) :: (61, .pointer (some ⟨b12, 0 + 33, none⟩)) :: _) _
          have hp9 : m 9 = true := predsT hp (by kernel_rfl)
          have hp2 : m 2 = true := predsT hp (by kernel_rfl)
          have hp6 : m 6 = true := predsT hp (by kernel_rfl)
          have hp9 : m 9 = true := predsT hp (by kernel_rfl)
          refine J.pr (fun hF => ?_)
          refine J.conseq (I' := St w [] ((b12, cb (cE (⟨xe.p, addI xe.a by_, xe.b, xe.na, xe.nb⟩ : EV)) 55) :: (b8, cb (cI (addI self by_) ++ [.slice nva (ns.map (turnN by_)).length nvc] ++ [.slice va vk vc]) 27) :: (b5, cb (cI by_) 23) :: (b4, cb (cI self ++ [.slice an ns.length cn] ++ [.slice ae en.length ce]) 27) :: (b3, cb (cI d) 23) :: (lN ++ lk))) ?_ (fun w1 hw => by simp only [hm, hp9, cond_true, cond_false] at hw; exact hw)
          refine J.storeO (cs := cE (⟨xe.p, addI xe.a by_, xe.b, xe.na, xe.nb⟩ : EV)) (vs := cI (addI xe.b by_)) Ty.s23 rfl rfl rfl rfl (one_cI _) .here (by simp) ?_
          refine J.conseq (I' := St w [] ((b12, cb (cE (turnE by_ xe)) 55) :: (b8, cb (cI (addI self by_) ++ [.slice nva (ns.map (turnN by_)).length nvc] ++ [.slice va vk vc]) 27) :: (b5, cb (cI by_) 23) :: (b4, cb (cI self ++ [.slice an ns.length cn] ++ [.slice ae en.length ce]) 27) :: (b3, cb (cI d) 23) :: (lN ++ lk))) ?_ (fun w1 hw => by rw [set_b] at hw; exact hw)
          refine J.nil (JX.finN undef (fun w1 hw => ⟨⟨u1, u2⟩, rfl, fun j h1 h2 => ?_, ?_⟩))
          · match j, h1 with
            | 0, _ => (first | rfl | trivial)
            | 1, _ => (first | rfl | trivial)
            | 2, _ => (first | rfl | trivial)
            | 3, _ => (first | rfl | trivial)
            | 4, _ => (first | rfl | trivial)
            | 5, _ => (first | rfl | trivial)
            | 6, _ => (first | rfl | trivial)
            | 7, _ => (first | rfl | trivial)
            | 8, _ => (first | rfl | trivial)
            | 9, _ => (first | rfl | trivial)
            | 10, _ => (first | rfl | trivial)
            | 11, _ => (first | rfl | trivial)
            | j + 12, h1 => omega
          show ((m 9 = true → m 2 = true ∧ m 6 = true) ∧ (true = true → m 9 = true)) ∧ St w [] ((b12, cb (cE (bif true then (turnE by_ xe) else bif m 9 then (⟨xe.p, addI xe.a by_, xe.b, xe.na, xe.nb⟩ : EV) else xe)) 55) :: (b8, cb (cI (addI self by_) ++ [.slice nva (ns.map (turnN by_)).length nvc] ++ [.slice va vk vc]) 27) :: (b5, cb (cI by_) 23) :: (b4, cb (cI self ++ [.slice an ns.length cn] ++ [.slice ae en.length ce]) 27) :: (b3, cb (cI d) 23) :: (lN ++ lk)) w1
          simp only [cond_true]
          exact ⟨⟨hF.1, fun _ => hp9⟩, hw⟩
      case htail =>
        intro x
        obtain ⟨u1, u2⟩ := x
        show J _ _ _ _ _ ((61, .pointer (some ⟨b12, 0 + 33, none⟩)) :: (60, .pointer (some ⟨b12, 0 + 17, none⟩)) :: (59, .agg (cI (addI xe.b by_)).toArray) :: (58, .agg (cI xe.b).toArray) :: (57, .pointer (some ⟨b12, 0 + 33, none⟩)) :: (56, .func (.func 25) #[] [.pointer (some ⟨b5, 0, none⟩)].toArray) :: (55, .agg (cI (addI xe.a by_)).toArray) :: (54, .agg (cI xe.a).toArray) :: (53, .pointer (some ⟨b12, 0 + 17, none⟩)) :: (52, .func (.func 25) #[] [.pointer (some ⟨b5, 0, none⟩)].toArray) :: _) (fun w1 => ((true = true → true = true ∧ true = true) ∧ (true = true → true = true)) ∧ St w [] ((b12, cb (cE (bif true then (turnE by_ xe) else bif true then (⟨xe.p, addI xe.a by_, xe.b, xe.na, xe.nb⟩ : EV) else xe)) 55) :: (b8, cb (cI (addI self by_) ++ [.slice nva (ns.map (turnN by_)).length nvc] ++ [.slice va vk vc]) 27) :: (b5, cb (cI by_) 23) :: (b4, cb (cI self ++ [.slice an ns.length cn] ++ [.slice ae en.length ce]) 27) :: (b3, cb (cI d) 23) :: (lN ++ lk)) w1)
        refine J.pr (fun hF => ?_)
        refine J.conseq (I' := St w [] ((b12, cb (cE (turnE by_ xe)) 55) :: (b8, cb (cI (addI self by_) ++ [.slice nva (ns.map (turnN by_)).length nvc] ++ [.slice va vk vc]) 27) :: (b5, cb (cI by_) 23) :: (b4, cb (cI self ++ [.slice an ns.length cn] ++ [.slice ae en.length ce]) 27) :: (b3, cb (cI d) 23) :: (lN ++ lk))) ?_ (fun w1 hw => by simp only [cond_true] at hw; exact hw)
        refine J.nil ?_
        refine JX.thenN (hK15 _ _ ?_)
        refine JC.region ?_
        refine J.fieldAddr Ty.fd27_2 rfl rfl ?_
        refine J.loadO Ty.a25 rfl (by repeat first | exact .head _ | apply List.Mem.tail | apply List.mem_append_right) (by exact rfl) rfl ?_
        refine J.loadOA (vs := cE (turnE by_ xe)) Ty.a55 Ty.s55 rfl (by repeat first | exact .head _ | apply List.Mem.tail | apply List.mem_append_right) (by exact rfl) rfl rfl ?_
        refine J.buildSl (cs := cE (turnE by_ xe)) Ty.el25 Ty.s55 Ty.zE_ rfl rfl rfl rfl (by kernel_rfl) rfl rfl (fun b65 => ?_)
        refine J.perm (lk ++ ((b65, cb (cE (turnE by_ xe)) 55) :: (b12, cb (cE (turnE by_ xe)) 55) :: (b8, cb (cI (addI self by_) ++ [.slice nva (ns.map (turnN by_)).length nvc] ++ [.slice va vk vc]) 27) :: (b5, cb (cI by_) 23) :: (b4, cb (cI self ++ [.slice an ns.length cn] ++ [.slice ae en.length ce]) 27) :: (b3, cb (cI d) 23) :: lN)) (by (refine perm_cnt (fun _ => ?_)); simp only [cntB_append, cntB_cons, cntB_nil, Nat.add_zero, Nat.zero_add]; try ac_rfl) ?_
        refine J.append (lp := lk) (xs := fE ((en.take i).map (turnE by_))) (ys := cE (turnE by_ xe)) (k := ((en.take i).map (turnE by_)).length) (m := 1) Ty.el25 Ty.s55 Ty.b55 Ty.zE_ rfl (.inl ⟨55, Ty.u25⟩) rfl rfl hvk (fun w3 hw3 => .inl (Row.own (cs := cE (turnE by_ xe)) (tb := 55) (fr := (0, 0)) hw3 (by repeat first | exact .head _ | apply List.Mem.tail | apply List.mem_append_right) rfl (Nat.le_refl _))) rfl (one_cE _) (by omega) (by omega) rfl (fun v10 l10 hv10 => ?_)
        replace hv10 := snocE hxe hv10
        obtain ⟨wa, wk, wc, rfl⟩ : ∃ a k c, v10 = .slice a k c := by obtain ⟨a, c, h9, _⟩ := hv10.form; exact ⟨a, _, c, h9⟩
        refine J.perm ((b8, cb (cI (addI self by_) ++ [.slice nva (ns.map (turnN by_)).length nvc] ++ [.slice va vk vc]) 27) :: (b12, cb (cE (turnE by_ xe)) 55) :: (b65, cb (cE (turnE by_ xe)) 55) :: (b5, cb (cI by_) 23) :: (b4, cb (cI self ++ [.slice an ns.length cn] ++ [.slice ae en.length ce]) 27) :: (b3, cb (cI d) 23) :: (lN ++ l10)) (by (refine perm_cnt (fun _ => ?_)); simp only [cntB_append, cntB_cons, cntB_nil, Nat.add_zero, Nat.zero_add]; try ac_rfl) ?_
        refine J.fieldAddr Ty.fd27_2 rfl rfl ?_
        refine J.storeO (cs := cI (addI self by_) ++ [.slice nva (ns.map (turnN by_)).length nvc] ++ [.slice va vk vc]) (vs := [.slice wa wk wc]) Ty.s25 rfl rfl rfl rfl (by simp [Value.oneCell']) .here (by simp) ?_
        refine J.conseq (I' := St w [] ((b8, cb (cI (addI self by_) ++ [.slice nva (ns.map (turnN by_)).length nvc] ++ [.slice wa wk wc]) 27) :: (b12, cb (cE (turnE by_ xe)) 55) :: (b65, cb (cE (turnE by_ xe)) 55) :: (b5, cb (cI by_) 23) :: (b4, cb (cI self ++ [.slice an ns.length cn] ++ [.slice ae en.length ce]) 27) :: (b3, cb (cI d) 23) :: (lN ++ l10))) ?_ (fun w1 hw => by first | (rw [set_n] at hw; exact hw) | (rw [set_e] at hw; exact hw))
        refine J.nil ?_
        refine JX.blockN ?_
        refine JX.thenN (hK13 _ _ ?_)
        refine JC.region ?_
        (first | refine J.addN rfl rfl (by omega) (by omega) rfl ?_ | refine J.bin rfl rfl rfl rfl ?_)
        refine J.move rfl rfl ?_
        refine J.nil ?_
        refine JX.thenN ?_
        refine JX.again ((i + 1, wa, wk, wc, l10) : Nat × Option Addr × Nat × Nat × List (Nat × Obj)) ?_ ?_ ?_
        · simp only; omega
        · exact ⟨rfl, rfl, rfl, rfl, rfl, rfl, rfl, rfl, trivial⟩
        · exact fun w1 hw => ⟨⟨hlt, hv10⟩, (hw.perm (l' := [(b65, cb (cE (turnE by_ xe)) 55), (b12, cb (cE (turnE by_ xe)) 55)] ++ ((b8, cb (cI (addI self by_) ++ [.slice nva (ns.map (turnN by_)).length nvc] ++ [.slice wa wk wc]) 27) :: (b5, cb (cI by_) 23) :: (b4, cb (cI self ++ [.slice an ns.length cn] ++ [.slice ae en.length ce]) 27) :: (b3, cb (cI d) 23) :: (lN ++ l10))) (by (refine perm_cnt (fun _ => ?_)); simp only [cntB_append, cntB_cons, cntB_nil, Nat.add_zero, Nat.zero_add]; try ac_rfl)).drop (List.sublist_append_right _ _)⟩
    · skip
      have hge : i = en.length := by simp at h1; omega
      subst hge
      rw [List.take_length] at hvk
      obtain ⟨eva, h9⟩ : ∃ q, q = va := ⟨_, rfl⟩
      subst h9
      obtain ⟨evk, h9⟩ : ∃ q, q = vk := ⟨_, rfl⟩
      subst h9
      obtain ⟨evc, h9⟩ : ∃ q, q = vc := ⟨_, rfl⟩
      subst h9
      obtain ⟨lE, h9⟩ : ∃ q, q = lk := ⟨_, rfl⟩
      subst h9
      have hvE := hvk
      obtain rfl : evk = (en.map (turnE by_)).length := by obtain ⟨a9, c9, hq9, _⟩ := hvE.form; simp only [Value.slice.injEq] at hq9; exact hq9.2.1
      refine JC.exit ?_
      refine JX.thenE ?_
      refine JX.thenE ?_
      refine JX.blockE ?_
      refine JX.thenN (hK9 _ _ ?_)
      refine JC.seq (fun K16 hK16 => ?_)
      refine JC.region ?_
      refine J.fieldAddr Ty.fd27_2 rfl rfl ?_
      refine J.loadO Ty.a25 rfl (by repeat first | exact .head _ | apply List.Mem.tail | apply List.mem_append_right) (by exact rfl) rfl ?_
      refine J.perm ([] ++ ((b8, cb (cI (addI self by_) ++ [.slice nva (ns.map (turnN by_)).length nvc] ++ [.slice eva (en.map (turnE by_)).length evc]) 27) :: (b5, cb (cI by_) 23) :: (b4, cb (cI self ++ [.slice an ns.length cn] ++ [.slice ae en.length ce]) 27) :: (b3, cb (cI d) 23) :: (lN ++ lE))) (.refl _) ?_
      refine J.callS (α := LaidS) (V := fun x => .tuple #[.pointer (some ⟨x.t1, 0, none⟩), x.vr]) (Pr := fun x => Tab (laidL 128 (en)) x.es x.ck ∧ Vec 55 51 x.vr (ordE (laidL 128 (en))).length (fE (ordE (laidL 128 (en)))) x.lr) (L := fun x => x.blk 128) (l1 := []) Ty.bd14 rfl rfl (fun w1 hw => laid13_spec _ (en) w1 (hre.below (hw.drop (List.nil_sublist _)).below) hok hxl) (fun x hx9 => ?_)
      obtain ⟨t1, m1, rt, es, ck, vr, lr⟩ := x
      obtain ⟨hT, hvr⟩ := hx9
      simp only [LaidS.blk, List.cons_append] at hT hvr ⊢
      have hgood := (laidL_good 128 en).len
      have hl128 : (laidL 128 en).length ≤ 128 := by omega
      have hol := (ordE_perm (laidL 128 en)).length_eq
      have ho128 : (ordE (laidL 128 en)).length ≤ 128 := by omega
      refine J.perm ((t1, tabO 128 m1) :: (m1, .map es ck) :: (rt, rtabO vr 128) :: (b8, cb (cI (addI self by_) ++ [.slice nva (ns.map (turnN by_)).length nvc] ++ [.slice eva (en.map (turnE by_)).length evc]) 27) :: (b5, cb (cI by_) 23) :: (b4, cb (cI self ++ [.slice an ns.length cn] ++ [.slice ae en.length ce]) 27) :: (b3, cb (cI d) 23) :: (lN ++ (lE ++ lr))) (by (refine perm_cnt (fun _ => ?_)); simp only [cntB_append, cntB_cons, cntB_nil, Nat.add_zero, Nat.zero_add]; try ac_rfl) ?_
      refine J.move rfl rfl ?_
      refine J.extract rfl rfl rfl ?_
      refine J.extract rfl rfl rfl ?_
      refine J.assign rfl rfl ?_
      refine J.assign rfl rfl ?_
      refine J.nil ?_
      refine JX.thenN (hK16 _ _ ?_)
      refine JC.seq (fun K17 hK17 => ?_)
      refine JC.region ?_
      refine J.fieldAddr Ty.fd27_2 rfl rfl ?_
      refine J.loadO Ty.a25 rfl (by repeat first | exact .head _ | apply List.Mem.tail | apply List.mem_append_right) (by exact rfl) rfl ?_
      refine J.perm ([] ++ ((t1, tabO 128 m1) :: (m1, .map es ck) :: (rt, rtabO vr 128) :: (b8, cb (cI (addI self by_) ++ [.slice nva (ns.map (turnN by_)).length nvc] ++ [.slice eva (en.map (turnE by_)).length evc]) 27) :: (b5, cb (cI by_) 23) :: (b4, cb (cI self ++ [.slice an ns.length cn] ++ [.slice ae en.length ce]) 27) :: (b3, cb (cI d) 23) :: (lN ++ (lE ++ lr)))) (.refl _) ?_
      refine J.callS (α := LaidS) (V := fun x => .tuple #[.pointer (some ⟨x.t1, 0, none⟩), x.vr]) (Pr := fun x => Tab (laidL 128 ((en.map (turnE by_)))) x.es x.ck ∧ Vec 55 51 x.vr (ordE (laidL 128 ((en.map (turnE by_))))).length (fE (ordE (laidL 128 ((en.map (turnE by_)))))) x.lr) (L := fun x => x.blk 128) (l1 := []) Ty.bd14 rfl rfl (fun w1 hw => laid13_spec _ ((en.map (turnE by_))) w1 (vec_rowM hvE hw (fun q hq => by first | (simp [hq]; done) | (simp at hq; simp [hq]; done) | (simp at hq; subst hq; simp))) (fun x hx => by obtain ⟨y, hy, rfl⟩ := List.mem_map.1 hx; exact hok y hy) (by rw [List.length_map]; omega)) (fun x hx9 => ?_)
      obtain ⟨t2, m2, rt2, es2, ck2, vr2, lr2⟩ := x
      obtain ⟨hT2, hvr2⟩ := hx9
      simp only [LaidS.blk, List.cons_append] at hT2 hvr2 ⊢
      have hgood2 := (laidL_good 128 (en.map (turnE by_))).len
      have hl2 : (laidL 128 (en.map (turnE by_))).length ≤ 128 := by omega
      have hol2 := (ordE_perm (laidL 128 (en.map (turnE by_)))).length_eq
      have ho22 : (ordE (laidL 128 (en.map (turnE by_)))).length ≤ 128 := by omega
      refine J.perm ((t1, tabO 128 m1) :: (m1, .map es ck) :: (rt, rtabO vr 128) :: (t2, tabO 128 m2) :: (m2, .map es2 ck2) :: (rt2, rtabO vr2 128) :: (b8, cb (cI (addI self by_) ++ [.slice nva (ns.map (turnN by_)).length nvc] ++ [.slice eva (en.map (turnE by_)).length evc]) 27) :: (b5, cb (cI by_) 23) :: (b4, cb (cI self ++ [.slice an ns.length cn] ++ [.slice ae en.length ce]) 27) :: (b3, cb (cI d) 23) :: (lN ++ (lE ++ (lr ++ lr2)))) (by (refine perm_cnt (fun _ => ?_)); simp only [cntB_append, cntB_cons, cntB_nil, Nat.add_zero, Nat.zero_add]; try ac_rfl) ?_
      refine J.move rfl rfl ?_
      refine J.extract rfl rfl rfl ?_
      refine J.extract rfl rfl rfl ?_
      refine J.assign rfl rfl ?_
      refine J.assign rfl rfl ?_
      refine J.nil ?_
      refine JX.thenN (hK17 _ _ ?_)
      refine JC.seq (fun K18 hK18 => ?_)
      apply JC.drawX (α := Nat × Nat) 18 (fun x => match x with | ⟨x17, x18⟩ => [.agg (cI d).toArray, .pointer (some ⟨b4, 0 + 0, none⟩), .agg (cI self).toArray, .pointer (some ⟨b4, 0 + 16, none⟩), .slice an ns.length cn, .pointer (some ⟨t1, 0, none⟩), .agg (cC (chooseV d self ns (ordE (laidL 128 en)))).toArray, .func (.func 25) #[] [.pointer (some ⟨b5, 0, none⟩)].toArray, .agg (cI d).toArray, .agg (cI (addI d by_)).toArray, .pointer (some ⟨b8, 0 + 0, none⟩), .agg (cI (addI self by_)).toArray, .pointer (some ⟨b8, 0 + 16, none⟩), .slice nva (ns.map (turnN by_)).length nvc, .pointer (some ⟨t2, 0, none⟩), .agg (cC (turnC by_ (chooseV d self ns (ordE (laidL 128 en))))).toArray, .pointer (some ⟨x17, 0, none⟩), .pointer (some ⟨x18, 0, none⟩)]) (fun m x => match x with | ⟨x17, x18⟩ => fun w1 => (True) ∧ St w [] ((t1, tabO 128 m1) :: (m1, .map es ck) :: (rt, rtabO vr 128) :: (t2, tabO 128 m2) :: (m2, .map es2 ck2) :: (rt2, rtabO vr2 128) :: (b8, cb (cI (addI self by_) ++ [.slice nva (ns.map (turnN by_)).length nvc] ++ [.slice eva (en.map (turnE by_)).length evc]) 27) :: (b5, cb (cI by_) 23) :: (b4, cb (cI self ++ [.slice an ns.length cn] ++ [.slice ae en.length ce]) 27) :: (b3, cb (cI d) 23) :: (lN ++ (lE ++ (lr ++ ((bif m 16 then [(x17, cb (cC zC) 40)] else []) ++ ((bif m 17 then [(x18, cb (cC zC) 40)] else []) ++ lr2)))))) w1) Ty.mixed rfl rfl rfl (by kernel_rfl) rfl rfl ?hinit ?hstep ?htail
      case hinit => exact fun w1 hw => ⟨(0, 0), trivial, hw.drew⟩
      case hstep =>
        refine ⟨fun m x hm hp => ?_, fun m x hm hp => ?_, fun m x hm hp => ?_, fun m x hm hp => ?_, fun m x hm hp => ?_, fun m x hm hp => ?_, fun m x hm hp => ?_, fun m x hm hp => ?_, fun m x hm hp => ?_, fun m x hm hp => ?_, fun m x hm hp => ?_, fun m x hm hp => ?_, fun m x hm hp => ?_, fun m x hm hp => ?_, fun m x hm hp => ?_, fun m x hm hp => ?_, fun m x hm hp => ?_, fun m x hm hp => ?_, trivial⟩
        · skip
          obtain ⟨x17, x18⟩ := x
          show J _ _ _ _ _ (_) _
          refine J.pr (fun hF => ?_)
          refine J.loadA (vs := cI d) Ty.a23 Ty.s23 rfl rfl (fun w1 hw => Cells.of_block (hw.own _ (.tail _ (.tail _ (.tail _ (.tail _ (.tail _ (.tail _ (.tail _ (.tail _ (.tail _ (.head _))))))))))) rfl) rfl ?_
          exact J.finX rfl (fun _ hw => ⟨⟨x17, x18⟩, rfl, fun _ _ _ => rfl, hF, hw⟩)
        · skip
          obtain ⟨x17, x18⟩ := x
          show J _ _ _ _ _ (_) _
          refine J.pr (fun hF => ?_)
          refine J.fieldAddr Ty.fd27_0 rfl rfl ?_
          exact J.finX rfl (fun _ hw => ⟨⟨x17, x18⟩, rfl, fun _ _ _ => rfl, hF, hw⟩)
        · skip
          obtain ⟨x17, x18⟩ := x
          show J _ _ _ _ _ ((82, .pointer (some ⟨b4, 0 + 0, none⟩)) :: _) _
          refine J.pr (fun hF => ?_)
          refine J.loadA (vs := cI self) Ty.a23 Ty.s23 rfl rfl (fun w1 hw => Cells.of_block (hw.own _ (.tail _ (.tail _ (.tail _ (.tail _ (.tail _ (.tail _ (.tail _ (.tail _ (.head _)))))))))) rfl) rfl ?_
          exact J.finX rfl (fun _ hw => ⟨⟨x17, x18⟩, rfl, fun _ _ _ => rfl, hF, hw⟩)
        · skip
          obtain ⟨x17, x18⟩ := x
          show J _ _ _ _ _ (_) _
          refine J.pr (fun hF => ?_)
          refine J.fieldAddr Ty.fd27_1 rfl rfl ?_
          exact J.finX rfl (fun _ hw => ⟨⟨x17, x18⟩, rfl, fun _ _ _ => rfl, hF, hw⟩)
        · skip
          obtain ⟨x17, x18⟩ := x
          show J _ _ _ _ _ ((84, .pointer (some ⟨b4, 0 + 16, none⟩)) :: _) _
          refine J.pr (fun hF => ?_)
          refine J.load1 (v := .slice an ns.length cn) Ty.a24 rfl (fun w1 hw => by rw [cell_of (hw.own _ (.tail _ (.tail _ (.tail _ (.tail _ (.tail _ (.tail _ (.tail _ (.tail _ (.head _))))))))))]; rfl) rfl ?_
          exact J.finX rfl (fun _ hw => ⟨⟨x17, x18⟩, rfl, fun _ _ _ => rfl, hF, hw⟩)
        · skip
          obtain ⟨x17, x18⟩ := x
          show J _ _ _ _ _ (_) _
          refine J.pr (fun hF => ?_)
          refine J.move rfl rfl ?_
          exact J.finX rfl (fun _ hw => ⟨⟨x17, x18⟩, rfl, fun _ _ _ => rfl, hF, hw⟩)
        · skip
          obtain ⟨x17, x18⟩ := x
          show J _ _ _ _ _ ((86, .pointer (some ⟨t1, 0, none⟩)) :: (85, .slice an ns.length cn) :: (83, .agg (cI self).toArray) :: (81, .agg (cI d).toArray) :: _) _
          refine J.pr (fun hF => ?_)
          refine J.callB (v := .agg (cC (chooseV d self ns (ordE (laidL 128 en)))).toArray) (fun w1 w2 hw hb => hw.step hb) Ty.bd19 rfl rfl (fun w1 hw => choose_spec t1 m1 128 (laidL 128 en) es ck w1 (hw.own _ (.head _)) (hw.own _ (.tail _ (.head _))) hT hl128 d self _ ns (hr.below (hw.drop (List.nil_sublist _)).below) hnl hns) ?_
          exact J.finX rfl (fun _ hw => ⟨⟨x17, x18⟩, rfl, fun _ _ _ => rfl, hF, hw⟩)
        · skip
          obtain ⟨x17, x18⟩ := x
          show J _ _ _ _ _ (_) _
          refine J.pr (fun hF => ?_)
          refine J.move rfl rfl ?_
          exact J.finX rfl (fun _ hw => ⟨⟨x17, x18⟩, rfl, fun _ _ _ => rfl, hF, hw⟩)
        · skip
          obtain ⟨x17, x18⟩ := x
          show J _ _ _ _ _ (_) _
          refine J.pr (fun hF => ?_)
          refine J.loadA (vs := cI d) Ty.a23 Ty.s23 rfl rfl (fun w1 hw => Cells.of_block (hw.own _ (.tail _ (.tail _ (.tail _ (.tail _ (.tail _ (.tail _ (.tail _ (.tail _ (.tail _ (.head _))))))))))) rfl) rfl ?_
          exact J.finX rfl (fun _ hw => ⟨⟨x17, x18⟩, rfl, fun _ _ _ => rfl, hF, hw⟩)
        · skip
          obtain ⟨x17, x18⟩ := x
          show J _ _ _ _ _ ((87, .agg (cC (chooseV d self ns (ordE (laidL 128 en)))).toArray) :: (89, .agg (cI d).toArray) :: (88, .func (.func 25) #[] [.pointer (some ⟨b5, 0, none⟩)].toArray) :: _) _
          refine J.pr (fun hF => ?_)
          refine J.callVB (v := .agg (cI (addI d by_)).toArray) (fun w1 w2 hw hb => hw.step hb) Ty.bd25 rfl rfl rfl (fun w1 hw => by simpa using turn_spec b5 d by_ w1 (own1 hw (.tail _ (.tail _ (.tail _ (.tail _ (.tail _ (.tail _ (.tail _ (.head _)))))))))) ?_
          exact J.finX rfl (fun _ hw => ⟨⟨x17, x18⟩, rfl, fun _ _ _ => rfl, hF, hw⟩)
        · skip
          obtain ⟨x17, x18⟩ := x
          show J _ _ _ _ _ (_) _
          refine J.pr (fun hF => ?_)
          refine J.fieldAddr Ty.fd27_0 rfl rfl ?_
          exact J.finX rfl (fun _ hw => ⟨⟨x17, x18⟩, rfl, fun _ _ _ => rfl, hF, hw⟩)
        · skip
          obtain ⟨x17, x18⟩ := x
          show J _ _ _ _ _ ((91, .pointer (some ⟨b8, 0 + 0, none⟩)) :: _) _
          refine J.pr (fun hF => ?_)
          refine J.loadA (vs := cI (addI self by_)) Ty.a23 Ty.s23 rfl rfl (fun w1 hw => Cells.of_block (hw.own _ (.tail _ (.tail _ (.tail _ (.tail _ (.tail _ (.tail _ (.head _)))))))) rfl) rfl ?_
          exact J.finX rfl (fun _ hw => ⟨⟨x17, x18⟩, rfl, fun _ _ _ => rfl, hF, hw⟩)
        · skip
          obtain ⟨x17, x18⟩ := x
          show J _ _ _ _ _ (_) _
          refine J.pr (fun hF => ?_)
          refine J.fieldAddr Ty.fd27_1 rfl rfl ?_
          exact J.finX rfl (fun _ hw => ⟨⟨x17, x18⟩, rfl, fun _ _ _ => rfl, hF, hw⟩)
        · skip
          obtain ⟨x17, x18⟩ := x
          show J _ _ _ _ _ ((93, .pointer (some ⟨b8, 0 + 16, none⟩)) :: _) _
          refine J.pr (fun hF => ?_)
          refine J.load1 (v := .slice nva (ns.map (turnN by_)).length nvc) Ty.a24 rfl (fun w1 hw => by rw [cell_of (hw.own _ (.tail _ (.tail _ (.tail _ (.tail _ (.tail _ (.tail _ (.head _))))))))]; rfl) rfl ?_
          exact J.finX rfl (fun _ hw => ⟨⟨x17, x18⟩, rfl, fun _ _ _ => rfl, hF, hw⟩)
        · skip
          obtain ⟨x17, x18⟩ := x
          show J _ _ _ _ _ (_) _
          refine J.pr (fun hF => ?_)
          refine J.move rfl rfl ?_
          exact J.finX rfl (fun _ hw => ⟨⟨x17, x18⟩, rfl, fun _ _ _ => rfl, hF, hw⟩)
        · skip
          obtain ⟨x17, x18⟩ := x
          show J _ _ _ _ _ ((90, .agg (cI (addI d by_)).toArray) :: (95, .pointer (some ⟨t2, 0, none⟩)) :: (94, .slice nva (ns.map (turnN by_)).length nvc) :: (92, .agg (cI (addI self by_)).toArray) :: (90, .agg (cI (addI d by_)).toArray) :: _) _
          refine J.pr (fun hF => ?_)
          refine J.callB (v := .agg (cC (chooseV (addI d by_) (addI self by_) (ns.map (turnN by_)) (ordE (laidL 128 (en.map (turnE by_)))))).toArray) (fun w1 w2 hw hb => hw.step hb) Ty.bd19 rfl rfl (fun w1 hw => choose_spec t2 m2 128 (laidL 128 (en.map (turnE by_))) es2 ck2 w1 (hw.own _ (.tail _ (.tail _ (.tail _ (.head _))))) (hw.own _ (.tail _ (.tail _ (.tail _ (.tail _ (.head _)))))) hT2 hl2 (addI d by_) (addI self by_) _ (ns.map (turnN by_)) (vec_rowM hvN hw (fun q hq => by simp [hq])) (by rw [List.length_map]; exact hnl) (fun x hx => by obtain ⟨y, hy, rfl⟩ := List.mem_map.1 hx; exact hns y hy)) ?_
          refine J.name 96 rfl (show _ = .agg (cC (turnC by_ (chooseV d self ns (ordE (laidL 128 en))))).toArray by rw [choose_turn]) ?_
          exact J.finX rfl (fun _ hw => ⟨⟨x17, x18⟩, rfl, fun _ _ _ => rfl, hF, hw⟩)
        · skip
          obtain ⟨x17, x18⟩ := x
          show J _ _ _ _ _ (_) _
          refine J.pr (fun hF => ?_)
          refine J.alloc zC40 rfl rfl (fun b17 => ?_)
          refine J.nil (JX.finB rfl (fun w1 hw => ⟨⟨⟨b17, x18⟩, rfl, fun j h1 h2 => ?_, ?_⟩, trivial⟩))
          · match j, h1 with
            | 0, _ => (first | rfl | trivial)
            | 1, _ => (first | rfl | trivial)
            | 2, _ => (first | rfl | trivial)
            | 3, _ => (first | rfl | trivial)
            | 4, _ => (first | rfl | trivial)
            | 5, _ => (first | rfl | trivial)
            | 6, _ => (first | rfl | trivial)
            | 7, _ => (first | rfl | trivial)
            | 8, _ => (first | rfl | trivial)
            | 9, _ => (first | rfl | trivial)
            | 10, _ => (first | rfl | trivial)
            | 11, _ => (first | rfl | trivial)
            | 12, _ => (first | rfl | trivial)
            | 13, _ => (first | rfl | trivial)
            | 14, _ => (first | rfl | trivial)
            | 15, _ => (first | rfl | trivial)
            | 16, _ => exact absurd (h2.symm.trans hm) (by decide)
            | 17, _ => (first | rfl | trivial)
            | j + 18, h1 => omega
          show (True) ∧ St w [] ((t1, tabO 128 m1) :: (m1, .map es ck) :: (rt, rtabO vr 128) :: (t2, tabO 128 m2) :: (m2, .map es2 ck2) :: (rt2, rtabO vr2 128) :: (b8, cb (cI (addI self by_) ++ [.slice nva (ns.map (turnN by_)).length nvc] ++ [.slice eva (en.map (turnE by_)).length evc]) 27) :: (b5, cb (cI by_) 23) :: (b4, cb (cI self ++ [.slice an ns.length cn] ++ [.slice ae en.length ce]) 27) :: (b3, cb (cI d) 23) :: (lN ++ (lE ++ (lr ++ ((bif true then [(b17, cb (cC zC) 40)] else []) ++ ((bif m 17 then [(x18, cb (cC zC) 40)] else []) ++ lr2)))))) w1
          simp only [hm, cond_true, cond_false] at hw ⊢
          exact ⟨trivial, hw.perm (by (refine perm_cnt (fun _ => ?_)); simp only [cntB_append, cntB_cons, cntB_nil, Nat.add_zero, Nat.zero_add]; try ac_rfl)⟩
        · skip
          obtain ⟨x17, x18⟩ := x
          show J _ _ _ _ _ (_) _
          refine J.pr (fun hF => ?_)
          refine J.alloc zC40 rfl rfl (fun b18 => ?_)
          refine J.nil (JX.finB rfl (fun w1 hw => ⟨⟨⟨x17, b18⟩, rfl, fun j h1 h2 => ?_, ?_⟩, trivial⟩))
          · match j, h1 with
            | 0, _ => (first | rfl | trivial)
            | 1, _ => (first | rfl | trivial)
            | 2, _ => (first | rfl | trivial)
            | 3, _ => (first | rfl | trivial)
            | 4, _ => (first | rfl | trivial)
            | 5, _ => (first | rfl | trivial)
            | 6, _ => (first | rfl | trivial)
            | 7, _ => (first | rfl | trivial)
            | 8, _ => (first | rfl | trivial)
            | 9, _ => (first | rfl | trivial)
            | 10, _ => (first | rfl | trivial)
            | 11, _ => (first | rfl | trivial)
            | 12, _ => (first | rfl | trivial)
            | 13, _ => (first | rfl | trivial)
            | 14, _ => (first | rfl | trivial)
            | 15, _ => (first | rfl | trivial)
            | 16, _ => (first | rfl | trivial)
            | 17, _ => exact absurd (h2.symm.trans hm) (by decide)
            | j + 18, h1 => omega
          show (True) ∧ St w [] ((t1, tabO 128 m1) :: (m1, .map es ck) :: (rt, rtabO vr 128) :: (t2, tabO 128 m2) :: (m2, .map es2 ck2) :: (rt2, rtabO vr2 128) :: (b8, cb (cI (addI self by_) ++ [.slice nva (ns.map (turnN by_)).length nvc] ++ [.slice eva (en.map (turnE by_)).length evc]) 27) :: (b5, cb (cI by_) 23) :: (b4, cb (cI self ++ [.slice an ns.length cn] ++ [.slice ae en.length ce]) 27) :: (b3, cb (cI d) 23) :: (lN ++ (lE ++ (lr ++ ((bif m 16 then [(x17, cb (cC zC) 40)] else []) ++ ((bif true then [(b18, cb (cC zC) 40)] else []) ++ lr2)))))) w1
          simp only [hm, cond_true, cond_false] at hw ⊢
          exact ⟨trivial, hw.perm (by (refine perm_cnt (fun _ => ?_)); simp only [cntB_append, cntB_cons, cntB_nil, Nat.add_zero, Nat.zero_add]; try ac_rfl)⟩
      case htail =>
        intro x
        obtain ⟨x17, x18⟩ := x
        show J _ _ _ _ _ ((18, .pointer (some ⟨x18, 0, none⟩)) :: (17, .pointer (some ⟨x17, 0, none⟩)) :: (96, .agg (cC (turnC by_ (chooseV d self ns (ordE (laidL 128 en))))).toArray) :: (95, .pointer (some ⟨t2, 0, none⟩)) :: (94, .slice nva (ns.map (turnN by_)).length nvc) :: (93, .pointer (some ⟨b8, 0 + 16, none⟩)) :: (92, .agg (cI (addI self by_)).toArray) :: (91, .pointer (some ⟨b8, 0 + 0, none⟩)) :: (90, .agg (cI (addI d by_)).toArray) :: (89, .agg (cI d).toArray) :: (88, .func (.func 25) #[] [.pointer (some ⟨b5, 0, none⟩)].toArray) :: (87, .agg (cC (chooseV d self ns (ordE (laidL 128 en)))).toArray) :: (86, .pointer (some ⟨t1, 0, none⟩)) :: (85, .slice an ns.length cn) :: (84, .pointer (some ⟨b4, 0 + 16, none⟩)) :: (83, .agg (cI self).toArray) :: (82, .pointer (some ⟨b4, 0 + 0, none⟩)) :: (81, .agg (cI d).toArray) :: _) (fun w1 => (True) ∧ St w [] ((t1, tabO 128 m1) :: (m1, .map es ck) :: (rt, rtabO vr 128) :: (t2, tabO 128 m2) :: (m2, .map es2 ck2) :: (rt2, rtabO vr2 128) :: (b8, cb (cI (addI self by_) ++ [.slice nva (ns.map (turnN by_)).length nvc] ++ [.slice eva (en.map (turnE by_)).length evc]) 27) :: (b5, cb (cI by_) 23) :: (b4, cb (cI self ++ [.slice an ns.length cn] ++ [.slice ae en.length ce]) 27) :: (b3, cb (cI d) 23) :: (lN ++ (lE ++ (lr ++ ((bif true then [(x17, cb (cC zC) 40)] else []) ++ ((bif true then [(x18, cb (cC zC) 40)] else []) ++ lr2)))))) w1)
        refine J.pr (fun hF => ?_)
        refine J.conseq (I' := St w [] ((x17, cb (cC zC) 40) :: (x18, cb (cC zC) 40) :: (t1, tabO 128 m1) :: (m1, .map es ck) :: (rt, rtabO vr 128) :: (t2, tabO 128 m2) :: (m2, .map es2 ck2) :: (rt2, rtabO vr2 128) :: (b8, cb (cI (addI self by_) ++ [.slice nva (ns.map (turnN by_)).length nvc] ++ [.slice eva (en.map (turnE by_)).length evc]) 27) :: (b5, cb (cI by_) 23) :: (b4, cb (cI self ++ [.slice an ns.length cn] ++ [.slice ae en.length ce]) 27) :: (b3, cb (cI d) 23) :: (lN ++ (lE ++ (lr ++ lr2))))) ?_ (fun w1 hw => by simp only [cond_true] at hw; exact hw.perm (by (refine perm_cnt (fun _ => ?_)); simp only [cntB_append, cntB_cons, cntB_nil, Nat.add_zero, Nat.zero_add]; try ac_rfl))
        refine J.storeW (cs := cC zC) (vs := cC (chooseV d self ns (ordE (laidL 128 en)))) Ty.s40 rfl rfl rfl rfl rfl (one_cC _) .here ?_
        refine J.storeW (cs := cC zC) (vs := cC (turnC by_ (chooseV d self ns (ordE (laidL 128 en))))) Ty.s40 rfl rfl rfl rfl rfl (one_cC _) (.there .here) ?_
        refine J.nil ?_
        refine JX.thenN (hK18 _ _ ?_)
        refine JC.seq (fun K19 hK19 => ?_)
        refine JC.region ?_
        refine J.move rfl rfl ?_
        refine J.fieldAddr Ty.fd40_0 rfl rfl ?_
        refine J.loadOA (vs := cI (chooseV d self ns (ordE (laidL 128 en))).id) Ty.a23 Ty.s23 rfl (by repeat first | exact .head _ | apply List.Mem.tail | apply List.mem_append_right) (by exact rfl) rfl rfl ?_
        refine J.callVB (v := .agg (cI (addI (chooseV d self ns (ordE (laidL 128 en))).id by_)).toArray) (fun w1 w2 hw hb => hw.step hb) Ty.bd25 rfl rfl rfl (fun w1 hw => by simpa using turn_spec b5 (chooseV d self ns (ordE (laidL 128 en))).id by_ w1 (own1 hw (.tail _ (.tail _ (.tail _ (.tail _ (.tail _ (.tail _ (.tail _ (.tail _ (.tail _ (.head _)))))))))))) ?_
        refine J.fieldAddr Ty.fd40_0 rfl rfl ?_
        refine J.storeO (cs := cC (chooseV d self ns (ordE (laidL 128 en)))) (vs := cI (addI (chooseV d self ns (ordE (laidL 128 en))).id by_)) Ty.s23 rfl rfl rfl rfl (one_cI _) .here (by simp) ?_
        refine J.conseq (I' := St w [] ((x17, cb (cC (turnC by_ (chooseV d self ns (ordE (laidL 128 en))))) 40) :: (x18, cb (cC (turnC by_ (chooseV d self ns (ordE (laidL 128 en))))) 40) :: (t1, tabO 128 m1) :: (m1, .map es ck) :: (rt, rtabO vr 128) :: (t2, tabO 128 m2) :: (m2, .map es2 ck2) :: (rt2, rtabO vr2 128) :: (b8, cb (cI (addI self by_) ++ [.slice nva (ns.map (turnN by_)).length nvc] ++ [.slice eva (en.map (turnE by_)).length evc]) 27) :: (b5, cb (cI by_) 23) :: (b4, cb (cI self ++ [.slice an ns.length cn] ++ [.slice ae en.length ce]) 27) :: (b3, cb (cI d) 23) :: (lN ++ (lE ++ (lr ++ lr2))))) ?_ (fun w1 hw => by rw [set_id] at hw; exact hw)
        refine J.nil ?_
        refine JX.thenN (hK19 _ _ ?_)
        refine JC.seq (fun K20 hK20 => ?_)
        refine JC.region ?_
        have hkok := known_ok (self := self) hns (ordE_ok hT)
        have hcok : okC (chooseV d self ns (ordE (laidL 128 en))) := best_ok (b := selfC self) (self_ok self) (fun c hc => hkok c (.tail _ hc))
        refine J.callB (v := .bool true) (fun w1 w2 hw hb => hw.step hb) Ty.bd15 rfl rfl (fun w1 hw => fixed13_spec w1) ?_
        refine J.move rfl rfl ?_
        first | refine J.skip rfl rfl rfl rfl rfl ?_ | refine J.skipU rfl rfl rfl rfl ?_ | (refine J.unguard rfl rfl rfl ?_; refine J.loadOA (vs := cC (turnC by_ (chooseV d self ns (ordE (laidL 128 en))))) Ty.a40 Ty.s40 rfl (by repeat first | exact .head _ | apply List.Mem.tail | apply List.mem_append_right) (by exact rfl) rfl rfl ?_)
        first | refine J.skip rfl rfl rfl rfl rfl ?_ | refine J.skipU rfl rfl rfl rfl ?_ | (refine J.unguard rfl rfl rfl ?_; refine J.loadOA (vs := cC (turnC by_ (chooseV d self ns (ordE (laidL 128 en))))) Ty.a40 Ty.s40 rfl (by repeat first | exact .head _ | apply List.Mem.tail | apply List.mem_append_right) (by exact rfl) rfl rfl ?_)
        refine J.unguard rfl rfl rfl ?_
        obtain ⟨_, k1⟩ := keyC40 (turnC by_ (chooseV d self ns (ordE (laidL 128 en)))) hcok.1 hcok.2
        refine J.eqA QC40 rfl rfl k1 k1 rfl fun r hr => ?_
        obtain rfl : r = true := hr.2 rfl
        (first | refine J.pickT rfl rfl rfl ?_ | refine J.pickF rfl rfl rfl ?_)
        refine J.assign rfl rfl ?_
        refine J.nil ?_
        refine JX.thenN (hK20 _ _ ?_)
        refine JC.ret ?_
        refine JX.ret1 rfl rfl (fun w hw => ?_)
        exact ⟨rfl, (hw.drop (List.nil_sublist _)).below⟩

theorem routeTurned_walk (w : World) (dc : List Value) (d : IDV) (hd : RId w dc d) (pc : List Value) (x : PlV) (hx : RPl w pc x) (bc : List Value) (b : IDV) (hb : RId w bc b) (hq : x.n.xs.length ≤ 1048576 ∧ x.e.xs.length ≤ 1048576) :
    Calls Try.prog 7 [.agg dc.toArray, .agg pc.toArray, .agg bc.toArray].toArray w fun r w' => r = .returned (.bool true) ∧ Bel w w' := by
  cases hd
  cases hb
  exact routeTurned_spec d x.me x.n.v x.n.xs x.e.v x.e.xs w hx.row hq.1 hx.ok (rslE hx.e) (rslE_ok hx.e) hq.2 b pc hx.cells
end Go.Proofs.Ytohldionclgljaa
