/-
  ident.Sub: walk.
-/
import Derived.Test.YtohldionclgljaaGreatKb
namespace Go.Proofs.YtohldionclgljaaGreat
open Go.J Go.RowKit
set_option linter.unusedVariables false
set_option linter.unusedSimpArgs false
set_option maxRecDepth 4000
theorem set_map (l : List UInt8) (k : Nat) (x : UInt8) : setMany (l.map u8) (0 + k) [u8 x] = (l.set k x).map u8 := by
  simp only [setMany, Nat.zero_add, List.map_set]
theorem wrap_byte {n : Int} (h0 : 0 ≤ n) (h1 : n < 256) : Value.int .u8 (IntKind.u8.wrap n) = u8 (UInt8.ofNat n.toNat) := by
  rw [wrap_u8m]
  show Value.int .u8 _ = Value.int .u8 _
  congr 1
  simp
  omega
theorem wrap_u8i (x : UInt8) : Value.int .i64 (IntKind.i64.wrap ((x.toNat : Nat) : Int)) = .int .i64 ((x.toNat : Nat) : Int) := by
  have := x.toNat_lt
  rw [wrap_i64 (by omega) (by omega)]

theorem sub_spec (a b : IDV) (w : World) :
    Calls Tryz.prog 59 [.agg (cI a).toArray, .agg (cI b).toArray].toArray w fun r w' => r = .returned (.agg (cI (subI a b)).toArray) ∧ Bel w w' := by
  refine calls_of_J (args := [.agg (cI a).toArray, .agg (cI b).toArray]) (e := [(0, .agg (cI a).toArray), (1, .agg (cI b).toArray)]) Tryz.func59 rfl rfl ⟨rfl, rfl, trivial⟩ (St.start w) ?_
  refine JC.seq (fun K0 hK0 => ?_)
  refine JC.region ?_
  refine J.box rfl rfl rfl (fun b2 => ?_)
  refine J.box rfl rfl rfl (fun b3 => ?_)
  refine J.alloc Ty.zID rfl rfl (fun b4 => ?_)
  refine J.nil ?_
  refine JX.thenN (hK0 _ _ ?_)
  refine JC.seq (fun K1 hK1 => ?_)
  refine JC.region ?_
  refine J.alloc Ty.zID rfl rfl (fun b5 => ?_)
  refine J.nil ?_
  refine JX.thenN (hK1 _ _ ?_)
  refine JC.seq (fun K2 hK2 => ?_)
  refine JC.region ?_
  refine J.assign rfl rfl ?_
  refine J.nil ?_
  refine JX.thenN (hK2 _ _ ?_)
  refine JC.seq (fun K3 hK3 => ?_)
  refine JC.seq (fun K4 hK4 => ?_)
  refine JC.region ?_
  refine J.move rfl rfl ?_
  refine J.nil ?_
  refine JX.thenN (hK4 _ _ ?_)
  refine JC.block ?_
  refine JC.conseq (JC.cov (f := (fun st => [(2, .pointer (some ⟨b2, 0, none⟩)), (3, .pointer (some ⟨b3, 0, none⟩)), (4, .pointer (some ⟨b4, 0, none⟩)), (5, .pointer (some ⟨b5, 0, none⟩)), (6, .int .i64 ((st.br : Nat) : Int)), (10, .int .i64 ((st.i : Nat) : Int))]) (⟨0, List.replicate 16 0, 0⟩ : SB)) ⟨rfl, rfl, rfl, rfl, rfl, rfl, trivial⟩ (JC.loop (α := SB) (fun st => [(2, .pointer (some ⟨b2, 0, none⟩)), (3, .pointer (some ⟨b3, 0, none⟩)), (4, .pointer (some ⟨b4, 0, none⟩)), (5, .pointer (some ⟨b5, 0, none⟩)), (6, .int .i64 ((st.br : Nat) : Int)), (10, .int .i64 ((st.i : Nat) : Int))]) (fun st w' => SubInv a b st ∧ St w [] ((b5, cb (st.out.map u8) 24) :: (b4, cb (cI zI) 24) :: (b3, cb (cI b) 24) :: (b2, cb (cI a) 24) :: []) w') (fun st => 16 - st.i) (⟨0, List.replicate 16 0, 0⟩ : SB) (fun st => ?_))) (fun w hw => ⟨⟨by simp, rfl, by simp, by simp [valB]⟩, hw⟩)
  obtain ⟨i, out, br⟩ := st
  refine JC.pr (fun hI => ?_)
  have hi16 := hI.hi
  have hol := hI.hl
  have hbr := hI.hb
  simp only at hi16 hol hbr ⊢
  refine JC.seq (fun K5 hK5 => ?_)
  refine JC.region ?_
  refine J.bin rfl rfl rfl rfl ?_
  refine J.nil ?_
  refine JX.thenN (hK5 _ _ ?_)
  refine JC.seq (fun K6 hK6 => ?_)
  refine JC.cond rfl (fun h0 => ?_) (fun h0 => ?_)
  · skip
    have hlt : i < 16 := by simp at h0; omega
    obtain ⟨x, hx⟩ : ∃ x, (bI a)[15 - i]? = some x := ⟨_, List.getElem?_eq_getElem (show 15 - i < 16 by omega)⟩
    obtain ⟨y, hy⟩ : ∃ y, (bI b)[15 - i]? = some y := ⟨_, List.getElem?_eq_getElem (show 15 - i < 16 by omega)⟩
    have hx2 := x.toNat_lt
    have hy2 := y.toNat_lt
    refine JC.skip ?_
    refine JX.thenN (hK6 _ _ ?_)
    refine JC.seq (fun K7 hK7 => ?_)
    refine JC.block ?_
    refine JC.seq (fun K8 hK8 => ?_)
    refine JC.region ?_
    refine J.move rfl rfl ?_
    refine J.assign rfl rfl ?_
    refine J.nil ?_
    refine JX.thenN (hK8 _ _ ?_)
    refine JC.seq (fun K9 hK9 => ?_)
    refine JC.region ?_
    refine J.move rfl rfl ?_
    (first | refine J.subN rfl rfl (by omega) (by omega) rfl ?_ | refine J.bin rfl rfl rfl rfl ?_)
    refine J.assign rfl rfl ?_
    refine J.nil ?_
    refine JX.thenN (hK9 _ _ ?_)
    refine JC.seq (fun K10 hK10 => ?_)
    apply JC.drawL 11 [Eqv (.int .i64 ((15 : Int) - ((i : Nat) : Int))), Eqv (.pointer (some ⟨b2, 0 + ((15 : Int) - (i : Int)).toNat * 1, none⟩)), Eqv (u8 x), Eqv (.int .i64 ((x.toNat : Nat) : Int)), Eqv (.int .i64 ((15 : Int) - ((i : Nat) : Int))), Eqv (.pointer (some ⟨b3, 0 + ((15 : Int) - (i : Int)).toNat * 1, none⟩)), Eqv (u8 y), Eqv (.int .i64 ((y.toNat : Nat) : Int)), Eqv (.int .i64 (((x.toNat : Nat) : Int) - ((y.toNat : Nat) : Int))), Eqv (.int .i64 ((br : Nat) : Int)), Eqv (.int .i64 (((x.toNat : Nat) : Int) - ((y.toNat : Nat) : Int) - ((br : Nat) : Int)))] Ty.mixed rfl rfl rfl (by kernel_rfl) rfl rfl (fun w w' hw hb => hw.step hb) ⟨fun _ _ _ h _ => h, fun _ _ _ h _ => h, fun _ _ _ h _ => h, fun _ _ _ h _ => h, fun _ _ _ h _ => h, fun _ _ _ h _ => h, fun _ _ _ h _ => h, fun _ _ _ h _ => h, fun _ _ _ h _ => h, fun _ _ _ h _ => h, fun _ _ _ h _ => h, trivial⟩ ?hstep ?htail
    case hstep =>
      refine ⟨fun wi => ?_, fun wi => ?_, fun wi => ?_, fun wi => ?_, fun wi => ?_, fun wi => ?_, fun wi => ?_, fun wi => ?_, fun wi => ?_, fun wi => ?_, fun wi => ?_, trivial⟩
      · skip
        refine Fin.nil ?_
        refine J.move rfl rfl ?_
        exact J.finP rfl
      · skip
        refine Fin.consE rfl (Fin.nil ?_)
        refine J.indexAddrA Ty.ar24 Ty.s5 rfl rfl (by omega) (by omega) rfl ?_
        exact J.finP rfl
      · skip
        refine Fin.consE rfl (Fin.nil ?_)
        refine J.load1 (v := u8 x) Ty.a5 rfl (fun w1 hw => (cell_of (hw.2.own _ (.tail _ (.tail _ (.tail _ (.head _)))))).trans (by rw [show 0 + ((15 : Int) - (i : Int)).toNat * 1 = 15 - i by omega]; show ((bI _).map u8)[15 - i]? = _; rw [List.getElem?_map, hx]; rfl)) rfl ?_
        exact J.finP rfl
      · skip
        refine Fin.consE rfl (Fin.nil ?_)
        refine J.convInt Ty.u5 Ty.u3 rfl rfl ?_
        refine J.name 18 rfl (wrap_u8i _) ?_
        exact J.finP rfl
      · skip
        refine Fin.nil ?_
        refine J.move rfl rfl ?_
        exact J.finP rfl
      · skip
        refine Fin.consE rfl (Fin.nil ?_)
        refine J.indexAddrA Ty.ar24 Ty.s5 rfl rfl (by omega) (by omega) rfl ?_
        exact J.finP rfl
      · skip
        refine Fin.consE rfl (Fin.nil ?_)
        refine J.load1 (v := u8 y) Ty.a5 rfl (fun w1 hw => (cell_of (hw.2.own _ (.tail _ (.tail _ (.head _))))).trans (by rw [show 0 + ((15 : Int) - (i : Int)).toNat * 1 = 15 - i by omega]; show ((bI _).map u8)[15 - i]? = _; rw [List.getElem?_map, hy]; rfl)) rfl ?_
        exact J.finP rfl
      · skip
        refine Fin.consE rfl (Fin.nil ?_)
        refine J.convInt Ty.u5 Ty.u3 rfl rfl ?_
        refine J.name 22 rfl (wrap_u8i _) ?_
        exact J.finP rfl
      · skip
        refine Fin.consE rfl (Fin.consE rfl (Fin.nil ?_))
        refine J.subN rfl rfl (by omega) (by omega) rfl ?_
        exact J.finP rfl
      · skip
        refine Fin.nil ?_
        refine J.move rfl rfl ?_
        exact J.finP rfl
      · skip
        refine Fin.consE rfl (Fin.consE rfl (Fin.nil ?_))
        refine J.subN rfl rfl (by omega) (by omega) rfl ?_
        exact J.finP rfl
    case htail =>
      refine Fin.consE rfl (Fin.consE rfl (Fin.consE rfl (Fin.consE rfl (Fin.consE rfl (Fin.consE rfl (Fin.consE rfl (Fin.consE rfl (Fin.consE rfl (Fin.consE rfl (Fin.consE rfl (Fin.nil ?_)))))))))))
      refine J.assign rfl rfl ?_
      refine J.nil ?_
      refine JX.thenN (hK10 _ _ ?_)
      refine JC.seq (fun K11 hK11 => ?_)
      refine JC.region ?_
      refine J.assign rfl rfl ?_
      refine J.nil ?_
      refine JX.thenN (hK11 _ _ ?_)
      refine JC.seq (fun K12 hK12 => ?_)
      refine JC.seq (fun K13 hK13 => ?_)
      refine JC.region ?_
      refine J.move rfl rfl ?_
      refine J.bin rfl rfl rfl rfl ?_
      refine J.nil ?_
      refine JX.thenN (hK13 _ _ ?_)
      refine JC.cond rfl (fun h1 => ?_) (fun h1 => ?_)
      · skip
        have hneg : (((x.toNat : Nat) : Int) - ((y.toNat : Nat) : Int) - ((br : Nat) : Int)) < 0 := by simp at h1; omega
        refine JC.region ?_
        refine J.move rfl rfl ?_
        (first | refine J.addN rfl rfl (by omega) (by omega) rfl ?_ | refine J.bin rfl rfl rfl rfl ?_)
        refine J.assign rfl rfl ?_
        refine J.assign rfl rfl ?_
        refine J.nil ?_
        refine JX.thenN (hK12 _ _ ?_)
        refine JC.region ?_
        refine J.move rfl rfl ?_
        refine J.move rfl rfl ?_
        obtain ⟨nn, hnn1⟩ : ∃ nn : Nat, nn = (((((x.toNat : Nat) : Int) - ((y.toNat : Nat) : Int) - ((br : Nat) : Int)) + 256)).toNat := ⟨_, rfl⟩
        have hd0 : 0 ≤ ((((x.toNat : Nat) : Int) - ((y.toNat : Nat) : Int) - ((br : Nat) : Int)) + 256) ∧ ((((x.toNat : Nat) : Int) - ((y.toNat : Nat) : Int) - ((br : Nat) : Int)) + 256) < 256 := by omega
        have hnn : nn < 256 := by omega
        refine J.convInt Ty.u3 Ty.u5 rfl rfl ?_
        refine J.name 32 rfl ((wrap_byte hd0.1 hd0.2).trans (by rw [← hnn1])) ?_
        refine J.indexAddrA Ty.ar24 Ty.s5 rfl rfl (by omega) (by omega) rfl ?_
        refine J.storeO (cs := out.map u8) (vs := [u8 (UInt8.ofNat nn)]) Ty.s5 rfl rfl rfl rfl (by simp [Value.oneCell']) .here (by simp; omega) ?_
        refine J.conseq (I' := St w [] ((b5, cb ((out.set (15 - i) (UInt8.ofNat nn)).map u8) 24) :: (b4, cb (cI zI) 24) :: (b3, cb (cI b) 24) :: (b2, cb (cI a) 24) :: [])) ?_ (fun w1 hw => by rw [← set_map, show 0 + (15 - i) = 0 + ((15 : Int) - (i : Int)).toNat * 1 by omega]; exact hw)
        refine J.nil ?_
        refine JX.blockN ?_
        refine JX.thenN (hK7 _ _ ?_)
        refine JC.region ?_
        (first | refine J.addN rfl rfl (by omega) (by omega) rfl ?_ | refine J.bin rfl rfl rfl rfl ?_)
        refine J.move rfl rfl ?_
        refine J.nil ?_
        refine JX.thenN ?_
        refine JX.again (⟨i + 1, out.set (15 - i) (UInt8.ofNat nn), 1⟩ : SB) ?_ ?_ ?_
        · simp only; omega
        · exact ⟨rfl, rfl, rfl, rfl, rfl, rfl, trivial⟩
        · exact fun w1 hw => ⟨hI.step (by simp only; omega) hx hy (n := nn) (br := 1) (by omega) hnn (by simp only; omega), hw⟩
      · skip
        have hpos : 0 ≤ (((x.toNat : Nat) : Int) - ((y.toNat : Nat) : Int) - ((br : Nat) : Int)) := by simp at h1; omega
        refine JC.skip ?_
        refine JX.thenN (hK12 _ _ ?_)
        refine JC.region ?_
        refine J.move rfl rfl ?_
        refine J.move rfl rfl ?_
        obtain ⟨nn, hnn1⟩ : ∃ nn : Nat, nn = ((((x.toNat : Nat) : Int) - ((y.toNat : Nat) : Int) - ((br : Nat) : Int))).toNat := ⟨_, rfl⟩
        have hd0 : 0 ≤ (((x.toNat : Nat) : Int) - ((y.toNat : Nat) : Int) - ((br : Nat) : Int)) ∧ (((x.toNat : Nat) : Int) - ((y.toNat : Nat) : Int) - ((br : Nat) : Int)) < 256 := by omega
        have hnn : nn < 256 := by omega
        refine J.convInt Ty.u3 Ty.u5 rfl rfl ?_
        refine J.name 32 rfl ((wrap_byte hd0.1 hd0.2).trans (by rw [← hnn1])) ?_
        refine J.indexAddrA Ty.ar24 Ty.s5 rfl rfl (by omega) (by omega) rfl ?_
        refine J.storeO (cs := out.map u8) (vs := [u8 (UInt8.ofNat nn)]) Ty.s5 rfl rfl rfl rfl (by simp [Value.oneCell']) .here (by simp; omega) ?_
        refine J.conseq (I' := St w [] ((b5, cb ((out.set (15 - i) (UInt8.ofNat nn)).map u8) 24) :: (b4, cb (cI zI) 24) :: (b3, cb (cI b) 24) :: (b2, cb (cI a) 24) :: [])) ?_ (fun w1 hw => by rw [← set_map, show 0 + (15 - i) = 0 + ((15 : Int) - (i : Int)).toNat * 1 by omega]; exact hw)
        refine J.nil ?_
        refine JX.blockN ?_
        refine JX.thenN (hK7 _ _ ?_)
        refine JC.region ?_
        (first | refine J.addN rfl rfl (by omega) (by omega) rfl ?_ | refine J.bin rfl rfl rfl rfl ?_)
        refine J.move rfl rfl ?_
        refine J.nil ?_
        refine JX.thenN ?_
        refine JX.again (⟨i + 1, out.set (15 - i) (UInt8.ofNat nn), 0⟩ : SB) ?_ ?_ ?_
        · simp only; omega
        · exact ⟨rfl, rfl, rfl, rfl, rfl, rfl, trivial⟩
        · exact fun w1 hw => ⟨hI.step (by simp only; omega) hx hy (n := nn) (br := 0) (by omega) hnn (by simp only; omega), hw⟩
  · skip
    have hge : i = 16 := by simp at h0; omega
    subst hge
    obtain ⟨o, rfl⟩ := list16 out hol
    have hdone := hI.done
    refine JC.exit ?_
    refine JX.thenE ?_
    refine JX.thenE ?_
    refine JX.blockE ?_
    refine JX.thenN (hK3 _ _ ?_)
    refine JC.seq (fun K14 hK14 => ?_)
    refine JC.region ?_
    refine J.loadOA (vs := cI o) Ty.a24 Ty.s24 rfl (by repeat first | exact .head _ | apply List.Mem.tail | apply List.mem_append_right) (by exact rfl) rfl rfl ?_
    refine J.storeW (cs := cI zI) (vs := cI o) Ty.s24 rfl rfl rfl rfl rfl (by simp [Value.oneCell']) (.there .here) ?_
    refine J.nil ?_
    refine JX.thenN (hK14 _ _ ?_)
    refine JC.ret ?_
    refine JX.retC rfl rfl Ty.a24 Ty.s24 (vs := cI o) rfl (fun w1 hw => Cells.of_block (hw.own _ (.tail _ (.head _))) rfl) (fun w1 hw => ?_)
    rw [hdone]
    exact ⟨rfl, hw.below⟩

end Go.Proofs.YtohldionclgljaaGreat
