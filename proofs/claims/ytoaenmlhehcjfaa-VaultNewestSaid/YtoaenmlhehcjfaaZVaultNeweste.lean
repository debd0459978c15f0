/-
  VaultNewest: texts that its proof needs, part 5.
-/
import Derived.Test.YtoaenmlhehcjfaaZVaultNewestd
/-
  The law's holds: contract.
-/
namespace Go.Proofs.Ytoaenmlhehcjfaa
open Go.J Go.RowKit
set_option linter.unusedVariables false
set_option linter.unusedSimpArgs false
set_option maxRecDepth 8000

theorem okN_in {n : Int} (h1 : 0 ≤ n) (h2 : n < 4611686018427387904) : okN n := by
  obtain ⟨m, rfl⟩ : ∃ m : Nat, n = (m : Int) := ⟨n.toNat, by omega⟩
  exact okN_of (by omega)

set_option maxHeartbeats 2000000 in
theorem holds_spec (vb mb : Nat) (lv : Value) (inc : Int) (L : List HI) (es : Array MapEntry) (ck : Nat) (hT : Vm L es ck) (hV : VOK L) (hLn : L.length ≤ 1000) (v1 v2 : Value) (sure tried : List HI) (w : World) (hw0 : Own w [(vb, vaO lv mb inc), (mb, .map es ck)]) (hrows : ∀ x, x ∈ L → Row w x.sv x.bs.length (x.bs.map u8) ∧ Off [vb, mb] x.sv (x.bs.map u8) ∧ x.bs.length ≤ 1000) (hr1 : Row w v1 sure.length (sure.flatMap cH)) (hf1 : (∀ x, x ∈ sure → ∃ a c, x.sv = .slice a x.bs.length c)) (hl1 : sure.length ≤ 100000) (hsure : ∀ x, x ∈ sure → ∃ y, hget L x.key = some y ∧ newB x.ver y.ver = false) (hr2 : Row w v2 tried.length (tried.flatMap cH)) (he2 : (∀ x, x ∈ tried → (∃ a c, x.sv = .slice a x.bs.length c) ∧ Row w x.sv x.bs.length (x.bs.map u8) ∧ okN x.ver.n)) (hl2 : tried.length ≤ 100000) (htr : ∀ x, x ∈ L → x.it ∈ tried.map HI.it) :
    Calls Try.prog 23 [.pointer (some ⟨vb, 0, none⟩), v1, v2].toArray w fun r w' => r = .returned (.bool true) ∧ Bel w w' := by
  obtain ⟨a1, c1, rfl, hc1, _⟩ := id hr1
  obtain ⟨a2, c2, rfl, hc2, _⟩ := id hr2
  refine calls_of_J (args := [.pointer (some ⟨vb, 0, none⟩), .slice a1 sure.length c1, .slice a2 tried.length c2]) (e := [(0, .pointer (some ⟨vb, 0, none⟩)), (1, .slice a1 sure.length c1), (2, .slice a2 tried.length c2)]) Try.func23 rfl rfl ⟨rfl, rfl, rfl, trivial⟩ (St.start w) ?_
  refine JC.seq (fun K0 hK0 => ?_)
  refine JC.region ?_
  refine J.assign rfl rfl ?_
  refine J.nil ?_
  refine JX.thenN (hK0 _ _ ?_)
  refine JC.seq (fun K1 hK1 => ?_)
  refine JC.seq (fun K2 hK2 => ?_)
  refine JC.region ?_
  refine J.move rfl rfl ?_
  refine J.lenS rfl Ty.u44 rfl rfl ?_
  refine J.move rfl rfl ?_
  refine J.nil ?_
  refine JX.thenN (hK2 _ _ ?_)
  refine JC.block ?_
  refine JC.conseq (JC.cov (f := (fun i => [(0, .pointer (some ⟨vb, 0, none⟩)), (2, .slice a2 tried.length c2), (16, .slice a1 sure.length c1), (17, .int .i64 ((sure.length : Nat) : Int)), (18, .int .i64 ((i : Nat) : Int))]) 0) ⟨rfl, rfl, rfl, rfl, rfl, trivial⟩ (JC.loop (α := Nat) (fun i => [(0, .pointer (some ⟨vb, 0, none⟩)), (2, .slice a2 tried.length c2), (16, .slice a1 sure.length c1), (17, .int .i64 ((sure.length : Nat) : Int)), (18, .int .i64 ((i : Nat) : Int))]) (fun i w' => (i ≤ sure.length) ∧ St w [] [] w') (fun i => sure.length - i) 0 (fun i => ?_))) (fun w hw => ⟨Nat.zero_le _, hw⟩)
  refine JC.pr (fun hi => ?_)
  refine JC.seq (fun K3 hK3 => ?_)
  refine JC.region ?_
  refine J.bin rfl rfl rfl rfl ?_
  refine J.nil ?_
  refine JX.thenN (hK3 _ _ ?_)
  refine JC.seq (fun K4 hK4 => ?_)
  refine JC.cond rfl (fun h0 => ?_) (fun h0 => ?_)
  · skip
    have hlt : i < sure.length := by simp at h0; omega
    obtain ⟨x, hxg⟩ : ∃ x, sure[i]? = some x := ⟨_, List.getElem?_eq_getElem hlt⟩
    have hxm := List.mem_of_getElem? hxg
    obtain ⟨ax, cx, hsx⟩ := hf1 x hxm
    obtain ⟨y, hyg, hyn⟩ := hsure x hxm
    obtain ⟨hym, hyk⟩ := hget_some hyg
    obtain ⟨hyr, hyf, hyl⟩ := hrows y hym
    have hyv := (hV y hym).2
    obtain ⟨kx, vx, bx, sx, lx⟩ := x
    obtain ⟨ky, vy, by_, sy, ly⟩ := y
    simp only at hsx hyg hyn hyr hyf hyl hyk hyv
    subst hsx
    obtain ⟨q1, o1, c1', hv1, -, -⟩ := hr1.some (by rw [cHs_len]; omega)
    simp only [Value.slice.injEq] at hv1
    obtain ⟨rfl, -, -⟩ := hv1
    refine JC.skip ?_
    refine JX.thenN (hK4 _ _ ?_)
    refine JC.seq (fun K5 hK5 => ?_)
    refine JC.block ?_
    refine JC.seq (fun K6 hK6 => ?_)
    refine JC.region ?_
    refine J.indexAddrS Ty.el44 Ty.s28 rfl rfl (by omega) (by omega) rfl ?_
    refine J.loadA (vs := (cT kx vx (.slice ax bx.length cx))) Ty.a28 Ty.s28 rfl rfl (fun w1 hw => rowG_at (c := cH) (sz := 34) (fun _ => rfl) (hr1.below (hw.drop (List.nil_sublist _)).below) hxg (by rw [Int.toNat_natCast])) rfl ?_
    refine J.alloc Ty.zIt rfl rfl (fun b8 => ?_)
    refine J.storeW (cs := cH zH) (vs := (cT kx vx (.slice ax bx.length cx))) Ty.s28 rfl rfl rfl rfl rfl one_cT .here ?_
    refine J.nil ?_
    refine JX.thenN (hK6 _ _ ?_)
    refine JC.seq (fun K7 hK7 => ?_)
    refine JC.region ?_
    refine J.move rfl rfl ?_
    refine J.fieldAddr Ty.fd28_0 rfl rfl ?_
    refine J.loadA (vs := cI kx) Ty.a23 Ty.s23 rfl rfl (fun w1 hw => Cells.of_block (hw.own ((b8, cb (cT kx vx (.slice ax bx.length cx)) 28)) (by repeat first | exact .head _ | apply List.Mem.tail | apply List.mem_append_right)) rfl) rfl ?_
    refine J.perm ([] ++ ((b8, cb (cT kx vx (.slice ax bx.length cx)) 28) :: [])) (.refl _) ?_
    refine J.callS (α := Value × List (Nat × Obj)) (V := fun z => .tuple #[.agg (cT ky vy z.1).toArray, .bool true]) (Pr := fun z => Vec 5 1 z.1 (by_).length ((by_).map u8) z.2) (L := (·.2)) (l1 := []) Ty.bd22 rfl rfl (fun w1 hw => (vget_spec vb mb lv inc L es ck hT hV kx ⟨ky, vy, by_, sy, ly⟩ true w1 (hw0.at hw) (by rw [hyg]; rfl) (by rw [hyg]; rfl) (hyr.below (hw.drop (List.nil_sublist _)).below) hyf (by simp only; omega)).mono fun _ w2 ⟨z, h1, h2, h3⟩ => ⟨z, h1, h2, St.free (hw0.at hw) h3⟩) (fun z hz => ?_)
    obtain ⟨vg, lg⟩ := z
    try simp only at hz ⊢
    obtain ⟨ag, cg, rfl, hcg⟩ := hz.form
    refine J.move rfl rfl ?_
    refine J.extract rfl rfl rfl ?_
    refine J.extract rfl rfl rfl ?_
    refine J.alloc Ty.zIt rfl rfl (fun b9 => ?_)
    refine J.storeW (cs := cH zH) (vs := (cT ky vy (.slice ag by_.length cg))) Ty.s28 rfl rfl rfl rfl rfl one_cT .here ?_
    refine J.assign rfl rfl ?_
    refine J.nil ?_
    refine JX.thenN (hK7 _ _ ?_)
    refine JC.seq (fun K8 hK8 => ?_)
    refine JC.region ?_
    refine J.move rfl rfl ?_
    refine J.not rfl rfl ?_
    refine J.move rfl rfl ?_
    first | refine J.skip rfl rfl rfl rfl rfl ?_ | refine J.skipU rfl rfl rfl rfl ?_ | (refine J.unguard rfl rfl rfl ?_; refine J.fieldAddr Ty.fd28_1 rfl rfl ?_)
    refine J.unguard rfl rfl rfl ?_
    refine J.loadA (vs := cV vx) Ty.a25 Ty.s25 rfl rfl (fun w1 hw => Cells.of_block (hw.own ((b8, cb (cT kx vx (.slice ax bx.length cx)) 28)) (by repeat first | exact .head _ | apply List.Mem.tail | apply List.mem_append_right)) rfl) rfl ?_
    first | refine J.skip rfl rfl rfl rfl rfl ?_ | refine J.skipU rfl rfl rfl rfl ?_ | (refine J.unguard rfl rfl rfl ?_; refine J.fieldAddr Ty.fd28_1 rfl rfl ?_)
    refine J.unguard rfl rfl rfl ?_
    refine J.loadA (vs := cV vy) Ty.a25 Ty.s25 rfl rfl (fun w1 hw => Cells.of_block (hw.own ((b9, cb (cT ky vy (.slice ag by_.length cg)) 28)) (by repeat first | exact .head _ | apply List.Mem.tail | apply List.mem_append_right)) rfl) rfl ?_
    refine J.unguard rfl rfl rfl ?_
    refine J.callB (v := .bool false) (fun w1 w2 hw hb => hw.step hb) Ty.bd14 rfl rfl (fun w1 hw => by have h9 := rnewer_spec vx vy w1; rw [hyn] at h9; exact h9) ?_
    (first | refine J.pickT rfl rfl rfl ?_ | refine J.pickF rfl rfl rfl ?_)
    refine J.nil ?_
    refine JX.thenN (hK8 _ _ ?_)
    first | refine JC.condF rfl ?_ | refine JC.cond rfl (fun h => by first | (exfalso; simp at h; omega) | (simp at h)) (fun _ => ?_)
    refine JC.skip ?_
    refine JX.blockN ?_
    refine JX.thenN (hK5 _ _ ?_)
    refine JC.region ?_
    (first | refine J.addN rfl rfl (by omega) (by omega) rfl ?_ | refine J.bin rfl rfl rfl rfl ?_)
    refine J.move rfl rfl ?_
    refine J.nil ?_
    refine JX.thenN ?_
    refine JX.again (i + 1) ?_ ?_ ?_
    · omega
    · exact ⟨rfl, rfl, rfl, rfl, rfl, trivial⟩
    · exact fun w1 hw => ⟨hlt, hw.drop (List.nil_sublist _)⟩
  · skip
    try simp only [decide_eq_true_eq, decide_eq_false_iff_not, beq_iff_eq, bne_iff_ne, bne_eq_false_iff_eq, ne_eq, beq_eq_false_iff_ne, Bool.not_eq_true, Bool.not_eq_false, Int.not_lt, Int.not_le] at h0
    refine JC.exit ?_
    refine JX.thenE ?_
    refine JX.thenE ?_
    refine JX.blockE ?_
    refine JX.thenN (hK1 _ _ ?_)
    refine JC.seq (fun K9 hK9 => ?_)
    refine JC.seq (fun K10 hK10 => ?_)
    refine JC.region ?_
    refine J.move rfl rfl ?_
    refine J.perm ([] ++ []) (.refl _) ?_
    refine J.callS (α := List HI × Value × List (Nat × Obj)) (V := (·.2.1)) (Pr := fun x => SrtOf (L.map HI.it) (x.1.map HI.it) ∧ VOK x.1 ∧ Vec 28 34 x.2.1 (x.1).length ((x.1).flatMap cH) x.2.2) (L := fun x => x.2.2 ++ lpsH x.1) (l1 := []) Ty.bd20 rfl rfl (fun w1 hw => (vall_spec vb mb lv inc L es ck hT hV hLn w1 (hw0.at hw) (fun x hx => ⟨(hrows x hx).1.below (hw.drop (List.nil_sublist _)).below, (hrows x hx).2⟩)).mono fun _ w2 ⟨z, h1, h2, h3⟩ => ⟨z, h1, h2, St.free (hw0.at hw) (by rw [List.append_assoc]; exact h3)⟩) (fun x hx => ?_)
    obtain ⟨ys, vv, lv2⟩ := x
    obtain ⟨hsrt, hok, hvv⟩ := hx
    try simp only at hsrt hok hvv ⊢
    rw [List.append_nil]
    have hyl : ys.length = L.length := by have := hsrt.1.length_eq; rwa [List.length_map, List.length_map] at this
    obtain ⟨av, cv, rfl, hcv⟩ := hvv.form
    refine J.lenS rfl Ty.u44 rfl rfl ?_
    refine J.move rfl rfl ?_
    refine J.nil ?_
    refine JX.thenN (hK10 _ _ ?_)
    refine JC.block ?_
    refine JC.conseq (JC.cov (f := (fun j => [(2, .slice a2 tried.length c2), (40, .slice av ys.length cv), (41, .int .i64 ((ys.length : Nat) : Int)), (42, .int .i64 ((j : Nat) : Int))]) 0) ⟨rfl, rfl, rfl, rfl, trivial⟩ (JC.loop (α := Nat) (fun j => [(2, .slice a2 tried.length c2), (40, .slice av ys.length cv), (41, .int .i64 ((ys.length : Nat) : Int)), (42, .int .i64 ((j : Nat) : Int))]) (fun j w' => (j ≤ ys.length) ∧ St w [] (lv2 ++ lpsH ys) w') (fun j => ys.length - j) 0 (fun j => ?_))) (fun w hw => ⟨Nat.zero_le _, hw⟩)
    refine JC.pr (fun hj => ?_)
    refine JC.seq (fun K11 hK11 => ?_)
    refine JC.region ?_
    refine J.bin rfl rfl rfl rfl ?_
    refine J.nil ?_
    refine JX.thenN (hK11 _ _ ?_)
    refine JC.seq (fun K12 hK12 => ?_)
    refine JC.cond rfl (fun h2 => ?_) (fun h2 => ?_)
    · skip
      have hjl : j < ys.length := by simp at h2; omega
      obtain ⟨z, hzg⟩ : ∃ x, ys[j]? = some x := ⟨_, List.getElem?_eq_getElem hjl⟩
      have hzm := List.mem_of_getElem? hzg
      obtain ⟨⟨hz1, hz2⟩, hzv⟩ := hok z hzm
      have hsub : ∀ q, q ∈ z.lp → q ∈ lpsH ys := fun q hq => List.mem_flatMap.2 ⟨z, hzm, hq⟩
      have hzt : z.it ∈ tried.map HI.it := by
        obtain ⟨x0, hx0, hx1⟩ := List.mem_map.1 (hsrt.1.mem_iff.1 (List.mem_map.2 ⟨z, hzm, rfl⟩))
        rw [← hx1]; exact htr x0 hx0
      obtain ⟨kz, vz, bz, sz, lz⟩ := z
      simp only [HI.it] at hz1 hz2 hzv hsub hzt
      obtain ⟨az, cz, rfl, hcz⟩ := hzv.form
      have hzn : okN vz.n := okN_in hz1 hz2
      obtain ⟨qv, hqv⟩ : ∃ q, av = some ⟨q, 0, none⟩ := by
        rcases hvv.2 with ⟨_, h9, _⟩ | ⟨q, c9, sp, h9, _⟩
        · omega
        · simp only [Value.slice.injEq] at h9; exact ⟨q, h9.1⟩
      subst hqv
      refine JC.skip ?_
      refine JX.thenN (hK12 _ _ ?_)
      refine JC.seq (fun K13 hK13 => ?_)
      refine JC.block ?_
      refine JC.seq (fun K14 hK14 => ?_)
      refine JC.region ?_
      refine J.indexAddrS Ty.el44 Ty.s28 rfl rfl (by omega) (by omega) rfl ?_
      refine J.loadA (vs := (cT kz vz (.slice az bz.length cz))) Ty.a28 Ty.s28 rfl rfl (fun w1 hw => rowG_at (c := cH) (sz := 34) (fun _ => rfl) (vec_rowM hvv hw (fun q hq => by first | (simp [hq]; done) | (simp at hq; simp [hq]; done) | (simp at hq; subst hq; simp))) hzg (by simp)) rfl ?_
      refine J.alloc Ty.zIt rfl rfl (fun b12 => ?_)
      refine J.storeW (cs := cH zH) (vs := (cT kz vz (.slice az bz.length cz))) Ty.s28 rfl rfl rfl rfl rfl one_cT .here ?_
      refine J.nil ?_
      refine JX.thenN (hK14 _ _ ?_)
      refine JC.seq (fun K15 hK15 => ?_)
      refine JC.region ?_
      refine J.assign rfl rfl ?_
      refine J.name 13 rfl (show _ = Value.bool (decide ((⟨kz, vz, bz⟩ : ItV) ∈ (tried.take 0).map HI.it)) by simp) ?_
      refine J.nil ?_
      refine JX.thenN (hK15 _ _ ?_)
      refine JC.seq (fun K16 hK16 => ?_)
      refine JC.seq (fun K17 hK17 => ?_)
      refine JC.region ?_
      refine J.move rfl rfl ?_
      refine J.lenS rfl Ty.u44 rfl rfl ?_
      refine J.move rfl rfl ?_
      refine J.nil ?_
      refine JX.thenN (hK17 _ _ ?_)
      refine JC.block ?_
      refine JC.conseq (JC.cov (f := (fun k => [(2, .slice a2 tried.length c2), (40, .slice (some ⟨qv, 0, none⟩) ys.length cv), (41, .int .i64 ((ys.length : Nat) : Int)), (42, .int .i64 ((j : Nat) : Int)), (12, .pointer (some ⟨b12, 0, none⟩)), (13, .bool (decide ((⟨kz, vz, bz⟩ : ItV) ∈ (tried.take k).map HI.it))), (46, .slice a2 tried.length c2), (47, .int .i64 ((tried.length : Nat) : Int)), (48, .int .i64 ((k : Nat) : Int))]) 0) ⟨rfl, rfl, rfl, rfl, rfl, rfl, rfl, rfl, rfl, trivial⟩ (JC.loop (α := Nat) (fun k => [(2, .slice a2 tried.length c2), (40, .slice (some ⟨qv, 0, none⟩) ys.length cv), (41, .int .i64 ((ys.length : Nat) : Int)), (42, .int .i64 ((j : Nat) : Int)), (12, .pointer (some ⟨b12, 0, none⟩)), (13, .bool (decide ((⟨kz, vz, bz⟩ : ItV) ∈ (tried.take k).map HI.it))), (46, .slice a2 tried.length c2), (47, .int .i64 ((tried.length : Nat) : Int)), (48, .int .i64 ((k : Nat) : Int))]) (fun k w' => (k ≤ tried.length) ∧ St w [] ((b12, cb (cT kz vz (.slice az bz.length cz)) 28) :: (lv2 ++ lpsH ys)) w') (fun k => tried.length - k) 0 (fun k => ?_))) (fun w hw => ⟨Nat.zero_le _, hw⟩)
      refine JC.pr (fun hk => ?_)
      refine JC.seq (fun K18 hK18 => ?_)
      refine JC.region ?_
      refine J.bin rfl rfl rfl rfl ?_
      refine J.nil ?_
      refine JX.thenN (hK18 _ _ ?_)
      refine JC.seq (fun K19 hK19 => ?_)
      refine JC.cond rfl (fun h3 => ?_) (fun h3 => ?_)
      · skip
        have hkl : k < tried.length := by simp at h3; omega
        obtain ⟨t, htg⟩ : ∃ x, tried[k]? = some x := ⟨_, List.getElem?_eq_getElem hkl⟩
        obtain ⟨⟨at_, ct, hst⟩, htr_, htn⟩ := he2 t (List.mem_of_getElem? htg)
        obtain ⟨kt, vt, bt, st_, lt_⟩ := t
        simp only at hst htr_ htn
        subst hst
        obtain ⟨q2, o2, c2', hv2, -, -⟩ := hr2.some (by rw [cHs_len]; omega)
        simp only [Value.slice.injEq] at hv2
        obtain ⟨rfl, -, -⟩ := hv2
        refine JC.skip ?_
        refine JX.thenN (hK19 _ _ ?_)
        refine JC.seq (fun K20 hK20 => ?_)
        refine JC.block ?_
        refine JC.seq (fun K21 hK21 => ?_)
        refine JC.region ?_
        refine J.indexAddrS Ty.el44 Ty.s28 rfl rfl (by omega) (by omega) rfl ?_
        refine J.loadA (vs := (cT kt vt (.slice at_ bt.length ct))) Ty.a28 Ty.s28 rfl rfl (fun w1 hw => rowG_at (c := cH) (sz := 34) (fun _ => rfl) (hr2.below (hw.drop (List.nil_sublist _)).below) htg (by rw [Int.toNat_natCast])) rfl ?_
        refine J.alloc Ty.zIt rfl rfl (fun b15 => ?_)
        refine J.storeW (cs := cH zH) (vs := (cT kt vt (.slice at_ bt.length ct))) Ty.s28 rfl rfl rfl rfl rfl one_cT .here ?_
        refine J.nil ?_
        refine JX.thenN (hK21 _ _ ?_)
        have htk : ((⟨kz, vz, bz⟩ : ItV) ∈ (tried.take (k + 1)).map HI.it) ↔ ((⟨kz, vz, bz⟩ : ItV) ∈ (tried.take k).map HI.it ∨ (⟨kz, vz, bz⟩ : ItV) = ⟨kt, vt, bt⟩) := by rw [take_it htg, List.mem_append, List.mem_singleton]; rfl
        by_cases hin : (⟨kz, vz, bz⟩ : ItV) ∈ (tried.take k).map HI.it
        · skip
          refine JC.region ?_
          refine J.move rfl rfl ?_
          refine J.move rfl rfl ?_
          refine J.name 53 rfl (show _ = Value.bool true from congrArg Value.bool (decide_eq_true hin)) ?_
          refine J.skip rfl rfl rfl rfl rfl ?_
          refine J.skip rfl rfl rfl rfl rfl ?_
          refine J.skip rfl rfl rfl rfl rfl ?_
          (first | refine J.pickT rfl rfl rfl ?_ | refine J.pickF rfl rfl rfl ?_)
          refine J.assign rfl rfl ?_
          refine J.name 13 rfl (show _ = Value.bool (decide ((⟨kz, vz, bz⟩ : ItV) ∈ (tried.take (k + 1)).map HI.it)) from congrArg Value.bool (decide_eq_true (htk.2 (.inl hin))).symm) ?_
          refine J.nil ?_
          refine JX.blockN ?_
          refine JX.thenN (hK20 _ _ ?_)
          refine JC.region ?_
          (first | refine J.addN rfl rfl (by omega) (by omega) rfl ?_ | refine J.bin rfl rfl rfl rfl ?_)
          refine J.move rfl rfl ?_
          refine J.nil ?_
          refine JX.thenN ?_
          refine JX.again (k + 1) ?_ ?_ ?_
          · omega
          · exact ⟨rfl, rfl, rfl, rfl, rfl, rfl, rfl, rfl, rfl, trivial⟩
          · exact fun w1 hw => ⟨hkl, hw.drop (List.sublist_cons_self _ _)⟩
        · skip
          refine JC.region ?_
          refine J.move rfl rfl ?_
          refine J.move rfl rfl ?_
          refine J.name 53 rfl (show _ = Value.bool false from congrArg Value.bool (decide_eq_false hin)) ?_
          refine J.unguard rfl rfl rfl ?_
          refine J.loadA (vs := (cT kz vz (.slice az bz.length cz))) Ty.a28 Ty.s28 rfl rfl (fun w1 hw => Cells.of_block (hw.own ((b12, cb (cT kz vz (.slice az bz.length cz)) 28)) (by repeat first | exact .head _ | apply List.Mem.tail | apply List.mem_append_right)) rfl) rfl ?_
          refine J.unguard rfl rfl rfl ?_
          refine J.loadA (vs := (cT kt vt (.slice at_ bt.length ct))) Ty.a28 Ty.s28 rfl rfl (fun w1 hw => Cells.of_block (hw.own ((b15, cb (cT kt vt (.slice at_ bt.length ct)) 28)) (by repeat first | exact .head _ | apply List.Mem.tail | apply List.mem_append_right)) rfl) rfl ?_
          refine J.unguard rfl rfl rfl ?_
          refine J.callB (v := .bool (decide ((⟨kz, vz, bz⟩ : ItV) = ⟨kt, vt, bt⟩))) (fun w1 w2 hw hb => hw.step hb) Ty.bd35 rfl rfl (fun w1 hw => one_spec _ _ ⟨kz, vz, bz, .slice az bz.length cz, lz⟩ ⟨kt, vt, bt, .slice at_ bt.length ct, lt_⟩ w1 rfl rfl ⟨⟨_, _, rfl⟩, vec_rowM hzv hw (fun q hq => by simp [hsub q hq]), hzn⟩ ⟨⟨_, _, rfl⟩, (htr_.below (hw.drop (List.nil_sublist _)).below), htn⟩) ?_
          (first | refine J.pickT rfl rfl rfl ?_ | refine J.pickF rfl rfl rfl ?_)
          refine J.assign rfl rfl ?_
          refine J.name 13 rfl (show _ = Value.bool (decide ((⟨kz, vz, bz⟩ : ItV) ∈ (tried.take (k + 1)).map HI.it)) from congrArg Value.bool (decide_eq_decide.2 (htk.trans ⟨fun h => h.resolve_left hin, .inr⟩).symm)) ?_
          refine J.nil ?_
          refine JX.blockN ?_
          refine JX.thenN (hK20 _ _ ?_)
          refine JC.region ?_
          (first | refine J.addN rfl rfl (by omega) (by omega) rfl ?_ | refine J.bin rfl rfl rfl rfl ?_)
          refine J.move rfl rfl ?_
          refine J.nil ?_
          refine JX.thenN ?_
          refine JX.again (k + 1) ?_ ?_ ?_
          · omega
          · exact ⟨rfl, rfl, rfl, rfl, rfl, rfl, rfl, rfl, rfl, trivial⟩
          · exact fun w1 hw => ⟨hkl, hw.drop (List.sublist_cons_self _ _)⟩
      · skip
        have hge : k = tried.length := by simp at h3; omega
        have hin : decide ((⟨kz, vz, bz⟩ : ItV) ∈ (tried.take k).map HI.it) = true := by rw [hge, List.take_of_length_le (Nat.le_refl _)]; exact decide_eq_true hzt
        refine JC.exit ?_
        refine JX.thenE ?_
        refine JX.thenE ?_
        refine JX.blockE ?_
        refine JX.thenN (hK16 _ _ ?_)
        refine JC.seq (fun K22 hK22 => ?_)
        refine JC.region ?_
        refine J.move rfl rfl ?_
        refine J.name 59 rfl (show _ = Value.bool true from congrArg Value.bool hin) ?_
        refine J.not rfl rfl ?_
        refine J.nil ?_
        refine JX.thenN (hK22 _ _ ?_)
        first | refine JC.condF rfl ?_ | refine JC.cond rfl (fun h => by first | (exfalso; simp at h; omega) | (simp at h)) (fun _ => ?_)
        refine JC.skip ?_
        refine JX.blockN ?_
        refine JX.thenN (hK13 _ _ ?_)
        refine JC.region ?_
        (first | refine J.addN rfl rfl (by omega) (by omega) rfl ?_ | refine J.bin rfl rfl rfl rfl ?_)
        refine J.move rfl rfl ?_
        refine J.nil ?_
        refine JX.thenN ?_
        refine JX.again (j + 1) ?_ ?_ ?_
        · omega
        · exact ⟨rfl, rfl, rfl, rfl, trivial⟩
        · exact fun w1 hw => ⟨hjl, hw.drop (List.sublist_cons_self _ _)⟩
    · skip
      try simp only [decide_eq_true_eq, decide_eq_false_iff_not, beq_iff_eq, bne_iff_ne, bne_eq_false_iff_eq, ne_eq, beq_eq_false_iff_ne, Bool.not_eq_true, Bool.not_eq_false, Int.not_lt, Int.not_le] at h2
      refine JC.exit ?_
      refine JX.thenE ?_
      refine JX.thenE ?_
      refine JX.blockE ?_
      refine JX.thenN (hK9 _ _ ?_)
      refine JC.seq (fun K23 hK23 => ?_)
      refine JC.region ?_
      refine J.assign rfl rfl ?_
      refine J.nil ?_
      refine JX.thenN (hK23 _ _ ?_)
      refine JC.ret ?_
      refine JX.ret1 rfl rfl (fun w hw => ?_)
      exact ⟨rfl, (hw.drop (List.nil_sublist _)).below⟩

end Go.Proofs.Ytoaenmlhehcjfaa
/-
  Plain laws of merging; VaultNewest: the walk.
-/
namespace Go.Proofs.Ytoaenmlhehcjfaa
open Go.J Go.RowKit
set_option linter.unusedVariables false
set_option linter.unusedSimpArgs false
set_option maxRecDepth 8000
theorem newB_iff {a b : WV} : newB a b = true ↔ b.n < a.n ∨ (a.n = b.n ∧ valI b.who < valI a.who) := by
  unfold newB
  rw [Bool.or_eq_true, Bool.and_eq_true, decide_eq_true_eq, decide_eq_true_eq, decide_eq_true_eq]
theorem newB_le {x y t : WV} (h1 : newB x y = true) (h2 : newB t y = false) : newB t x = false := by
  rw [Bool.eq_false_iff, ne_eq, newB_iff] at h2 ⊢
  rw [newB_iff] at h1
  omega
theorem newB_self (x : WV) : newB x x = false := by
  rw [Bool.eq_false_iff, ne_eq, newB_iff]
  omega
theorem hget_set {L : List HI} (hd : L.Pairwise (fun x y => x.key ≠ y.key)) (x : HI) (k : IDV) : hget (hset L x) k = if k = x.key then some x else hget L k := by
  cases h : hget L x.key with
  | none =>
    have e : hset L x = L ++ [x] := by unfold hset; rw [h]; rfl
    rw [e]
    unfold hget
    rw [List.find?_append]
    by_cases hk : k = x.key
    · subst hk
      rw [if_pos rfl]
      have h0 : L.find? (fun h => decide (h.key = x.key)) = none := h
      rw [h0]
      simp
    · rw [if_neg hk]
      have : [x].find? (fun h => decide (h.key = k)) = none := by simp [Ne.symm hk]
      rw [this, Option.or_none]
  | some y =>
    obtain ⟨l1, l2, h1, h2⟩ := hset_split hd h
    have hyk := (hget_some h).2
    rw [h2]
    by_cases hk : k = x.key
    · subst hk
      rw [if_pos rfl]
      unfold hget
      rw [List.find?_append]
      have hn : l1.find? (fun h => decide (h.key = x.key)) = none := List.find?_eq_none.2 fun z hz => by
        rw [h1] at hd
        have := (List.pairwise_append.1 hd).2.2 z hz y (.head _)
        simp only [decide_eq_true_eq]
        exact fun e => this (e.trans hyk.symm)
      rw [hn]
      simp
    · rw [if_neg hk, h1]
      unfold hget
      rw [List.find?_append, List.find?_append, List.find?_cons, List.find?_cons]
      have e1 : decide (x.key = k) = false := decide_eq_false (Ne.symm hk)
      have e2 : decide (y.key = k) = false := decide_eq_false (fun e => hk (by rw [← e, hyk]))
      rw [e1, e2]
/-- of each key a version is kept that isn't older than any that was taken; and what is kept was handed in -/
structure Kept (L sure tried : List HI) : Prop where
  sure : ∀ x, x ∈ sure → ∃ y, hget L x.key = some y ∧ newB x.ver y.ver = false
  tried : ∀ x, x ∈ L → x.it ∈ tried.map HI.it
theorem Kept.nil : Kept [] [] [] := ⟨fun _ h => (by cases h), fun _ h => (by cases h)⟩
theorem Kept.more {L sure tried : List HI} (h : Kept L sure tried) (t : HI) : Kept L sure (tried ++ [t]) := ⟨h.sure, fun x hx => by rw [List.map_append]; exact List.mem_append_left _ (h.tried x hx)⟩
theorem Kept.old {L sure tried : List HI} (h : Kept L sure tried) (t : HI) (ht : ∃ y, hget L t.key = some y ∧ newB t.ver y.ver = false) : Kept L (sure ++ [t]) (tried ++ [t]) := ⟨fun x hx => by
  rcases List.mem_append.1 hx with hx | hx
  · exact h.sure x hx
  · rw [List.mem_singleton.1 hx]; exact ht, (h.more t).tried⟩
/-- a newer version is kept -/
theorem Kept.set {L sure tried : List HI} (hd : L.Pairwise (fun x y => x.key ≠ y.key)) (h : Kept L sure tried) (x t : HI) (ht : x.it = t.it) (hn : ∀ y, hget L x.key = some y → newB x.ver y.ver = true) : Kept (hset L x) (sure ++ [t]) (tried ++ [t]) := by
  have hk : x.key = t.key := congrArg ItV.key ht
  have hv : x.ver = t.ver := congrArg ItV.ver ht
  refine ⟨fun z hz => ?_, fun z hz => ?_⟩
  · rw [hget_set hd]
    rcases List.mem_append.1 hz with hz | hz
    · obtain ⟨y, hy1, hy2⟩ := h.sure z hz
      by_cases hkz : z.key = x.key
      · rw [if_pos hkz]
        exact ⟨x, rfl, newB_le (hn y (by rw [← hkz]; exact hy1)) hy2⟩
      · rw [if_neg hkz]; exact ⟨y, hy1, hy2⟩
    · rw [List.mem_singleton.1 hz, if_pos hk.symm]
      exact ⟨x, rfl, by rw [hv]; exact newB_self _⟩
  · rw [List.map_append]
    rcases hset_mem hz with rfl | hz
    · exact List.mem_append_right _ (by rw [ht]; exact .head _)
    · exact List.mem_append_left _ (h.tried z hz)
theorem row_off {w w1 : World} {l : List (Nat × Obj)} {v : Value} {k : Nat} {xs : List Value} {T : List Nat} (h : Row w v k xs) (hw : St w [] l w1) (hT : ∀ b, b ∈ T → b ∈ l.map (·.1)) : Off T v xs := by
  obtain ⟨a, c, rfl, hc, h⟩ := h
  by_cases hx : xs = []
  · exact .inl hx
  · rcases h with h | ⟨b, o, rfl, hcl⟩
    · exact absurd h hx
    · refine .inr fun b' o' k' c' e => ?_
      simp only [Value.slice.injEq, Option.some.injEq, Addr.mk.injEq] at e
      rw [← e.1.1]
      exact fun hm => St.notin hw (hcl.lt hx) (hT _ hm)
/-- what merging answers, by cases -/
theorem merge_cases {n : Nat} {q q' : LogP} {σ σ' : DS} {dn dn' : Bool} {L : List HI} {x : ItV} {e : Int} (h : vmergeP n q dn σ (L.map HI.it) x = (false, e, q', dn', σ')) (he : e = 0) : ∃ y, hget L x.key = some y ∧ newB x.ver y.ver = false := by
  subst he
  unfold vmergeP at h
  split at h
  · cases h
  · split at h
    · cases h
    · split at h
      · rename_i h3
        rw [hget_it, Option.isSome_map] at h3
        obtain ⟨y, hy⟩ := Option.isSome_iff_exists.1 h3.1
        rw [hy] at h3
        exact ⟨y, hy, h3.2⟩
      · generalize appendP n q dn σ (formB x) = z at h
        obtain ⟨e, q2, d2, s2⟩ := z
        simp only [Prod.mk.injEq, decide_eq_false_iff_not] at h
        exact absurd h.2.1 h.1
theorem merge_new {n : Nat} {q q' : LogP} {σ σ' : DS} {dn dn' : Bool} {L : List HI} {x : ItV} {e : Int} (h : vmergeP n q dn σ (L.map HI.it) x = (true, e, q', dn', σ')) : okIt x ∧ ∀ y, hget L x.key = some y → newB x.ver y.ver = true := by
  unfold vmergeP at h
  split at h
  · cases h
  · rename_i h1
    split at h
    · cases h
    · rename_i h2
      split at h
      · cases h
      · rename_i h3
        refine ⟨⟨by omega, by omega, by omega⟩, fun y hy => ?_⟩
        rw [hget_it, Option.isSome_map, hy] at h3
        cases hb : newB x.ver y.ver with
        | true => rfl
        | false => exact absurd ⟨rfl, hb⟩ h3
theorem merge_log {n : Nat} {q q' : LogP} {σ σ' : DS} {dn dn' : Bool} {L : List ItV} {x : ItV} {r : Bool} {e : Int} (hn : n ≤ 4096) (hI : LogI n q σ) (hg : q.gen + 1 < 9223372036854775808) (h : vmergeP n q dn σ L x = (r, e, q', dn', σ')) :
    LogI n q' σ' ∧ σ.k ≤ σ'.k ∧ σ'.k ≤ σ.k + 19 ∧ q'.gen ≤ q.gen + 1 ∧ ((r = true ∧ e = 0 ∧ q'.recs = q.recs ++ [formB x]) ∨ (r = false ∧ q' = q)) := by
  unfold vmergeP at h
  split at h
  · simp only [Prod.mk.injEq] at h
    obtain ⟨rfl, rfl, rfl, rfl, rfl⟩ := h
    exact ⟨hI, Int.le_refl _, by omega, by omega, .inr ⟨rfl, rfl⟩⟩
  · split at h
    · simp only [Prod.mk.injEq] at h
      obtain ⟨rfl, rfl, rfl, rfl, rfl⟩ := h
      exact ⟨hI, Int.le_refl _, by omega, by omega, .inr ⟨rfl, rfl⟩⟩
    · split at h
      · simp only [Prod.mk.injEq] at h
        obtain ⟨rfl, rfl, rfl, rfl, rfl⟩ := h
        exact ⟨hI, Int.le_refl _, by omega, by omega, .inr ⟨rfl, rfl⟩⟩
      · obtain ⟨e2, q2, d2, s2, h1, h2, h3, h4, h5, h6, h7, h8⟩ := append_law (down := dn) (rec_ := formB x) hn hI hg
        rw [h1] at h
        simp only [Prod.mk.injEq] at h
        obtain ⟨h9, rfl, rfl, rfl, rfl⟩ := h
        refine ⟨h2, h3, h4, h5, ?_⟩
        rcases h7 with ⟨ha, hb⟩ | ⟨ha, hb⟩
        · exact .inl ⟨by rw [← h9]; exact decide_eq_true ha, ha, hb⟩
        · exact .inr ⟨by rw [← h9]; exact decide_eq_false ha, hb⟩
structure NwS where
  i : Nat
  q : LogP
  dn : Bool
  σ : DS
  L : List HI
  es : Array MapEntry
  ck : Nat
  tk : List HI
  v5 : Value
  l5 : List (Nat × Obj)
structure NwI (w : World) (st : NwS) : Prop where
  i : st.i ≤ 61
  log : LogI 900 st.q st.σ
  k0 : 0 ≤ st.σ.k
  k : st.σ.k ≤ 100 + 19 * st.i
  gen : st.q.gen ≤ st.i + 1
  vm : Vm st.L st.es st.ck
  ok : VOK st.L
  len : st.L.length ≤ st.i
  short : ∀ x, x ∈ st.L → x.bs.length ≤ 64
  kept : Kept st.L st.tk st.tk
  tkl : st.tk.length ≤ st.i
  tke : ∀ x, x ∈ st.tk → (∃ a c, x.sv = .slice a x.bs.length c) ∧ Row w x.sv x.bs.length (x.bs.map u8) ∧ okN x.ver.n
  vec : Vec 28 34 st.v5 st.tk.length (st.tk.flatMap cH) st.l5

theorem srt_at {ys : List HI} (h : (ys.map HI.it).Pairwise (fun a b => valI a.key < valI b.key)) {i : Nat} {x y : HI} (hx : ys[i]? = some x) (hy : ys[i + 1]? = some y) : valI x.key < valI y.key := by
  rw [List.pairwise_map] at h
  obtain ⟨a1, a2⟩ := List.getElem?_eq_some_iff.1 hx
  obtain ⟨b1, b2⟩ := List.getElem?_eq_some_iff.1 hy
  have := List.pairwise_iff_getElem.1 h i (i + 1) a1 b1 (by omega)
  rwa [a2, b2] at this
def QN1 : LogP := ⟨1, 1, 1, [incB 1]⟩

set_option maxHeartbeats 4000000 in
theorem vaultNewestL_spec (v : Value) (xs : List HI) (w : World) (hr : Row w v xs.length (xs.flatMap cH)) (he : ∀ x, x ∈ xs → (∃ a c, x.sv = .slice a x.bs.length c) ∧ Row w x.sv x.bs.length (x.bs.map u8) ∧ okN x.ver.n ∧ x.bs.length ≤ 140737488351232) :
    Calls Try.prog 5 [v].toArray w fun r w' => r = .returned (.bool true) ∧ Bel w w' := by
  obtain ⟨a, c, rfl, hc, _⟩ := id hr
  obtain ⟨σ1, hO1, hI1, hp1, hk1, hk2⟩ := vopen_ok (n := 900) (inc := 0) (q := ⟨0, 0, 0, []⟩) (σ := ⟨List.replicate (64 * 900) 0, -1, 0⟩) (L := []) (by omega) (logI_zero (by omega) (by omega) _ _ (by omega)) rfl (by omega) (by show (-1 : Int) < 0; omega) (by simp) (by simp)
  have hO1 : vopenP 900 ⟨List.replicate (64 * 900) 0, -1, 0⟩ = (0, some (QN1, 1, []), σ1) := hO1
  have hI1 : LogI 900 QN1 σ1 := hI1
  simp only at hk1 hk2
  refine calls_of_J (args := [.slice a xs.length c]) (e := [(0, .slice a xs.length c)]) Try.func5 rfl rfl ⟨rfl, trivial⟩ (St.start w) ?_
  refine JC.seq (fun K0 hK0 => ?_)
  refine JC.region ?_
  refine J.assign rfl rfl ?_
  refine J.nil ?_
  refine JX.thenN (hK0 _ _ ?_)
  refine JC.seq (fun K1 hK1 => ?_)
  refine JC.region ?_
  refine J.callS (α := Nat × Nat) (l1 := []) (L := fun x => [(x.1, dkO x.2 (min (max (900 : Int) 0) 4096).toNat (-1) 0), (x.2, dkS (List.replicate (64 * (min (max (900 : Int) 0) 4096).toNat) 0))]) (V := fun x => .pointer (some ⟨x.1, 0, none⟩)) (Pr := fun _ => True) Ty.bd15 rfl rfl (fun w1 hw => new_spec 900 w1) (fun x _ => ?_)
  obtain ⟨d, s⟩ := x
  have hN : (min (max (900 : Int) 0) 4096).toNat = 900 := by decide
  simp only [hN, List.append_nil]
  refine J.callS (α := VO) (V := VO.val) (Pr := fun z => z.Pr 900 ⟨List.replicate (64 * 900) 0, -1, 0⟩) (L := fun z => z.lst d s 900) Ty.bd17 rfl rfl (fun w1 hw => vopen_spec d s 900 (List.replicate (64 * 900) 0) (-1) 0 w1 (St.owns hw) (by rw [List.length_replicate]) (by omega) (by omega) (by omega) (by omega)) (fun z hz => ?_)
  rcases z with ⟨ez, sz⟩ | ⟨v1, m1, l1, q1, inc1, L1, es1, ck1, sz⟩
  · exact absurd (congrArg (fun x => x.1) (hz.1.symm.trans hO1)) hz.2
  obtain ⟨hz1, hT1, hV1⟩ := hz
  rw [hO1] at hz1
  simp only [Prod.mk.injEq, Option.some.injEq, true_and] at hz1
  obtain ⟨⟨rfl, rfl, hL1⟩, rfl⟩ := hz1
  obtain rfl := List.map_eq_nil_iff.1 hL1.symm
  refine J.name 19 rfl (show _ = Value.tuple #[.pointer (some ⟨v1, 0, none⟩), .int .i64 0] from rfl) ?_
  refine J.perm ((v1, vaO (.pointer (some ⟨l1, 0, none⟩)) m1 ((1 : Nat) : Int)) :: (m1, .map es1 ck1) :: (l1, lgO d QN1 false) :: (d, dkO s 900 σ1.p σ1.k) :: (s, dkS σ1.B) :: []) (by simp only [VO.lst, lpsH, List.flatMap_nil, List.append_nil]; exact (by (refine perm_cnt (fun _ => ?_)); simp only [cntB_append, cntB_cons, cntB_nil, Nat.add_zero, Nat.zero_add]; try ac_rfl)) ?_
  refine J.move rfl rfl ?_
  refine J.extract rfl rfl rfl ?_
  refine J.extract rfl rfl rfl ?_
  refine J.assign rfl rfl ?_
  refine J.assign rfl rfl ?_
  refine J.nil ?_
  refine JX.thenN (hK1 _ _ ?_)
  refine JC.seq (fun K2 hK2 => ?_)
  refine JC.seq (fun K3 hK3 => ?_)
  refine JC.region ?_
  refine J.move rfl rfl ?_
  refine J.eqNil Ty.u38 rfl rfl rfl ?_
  refine J.move rfl rfl ?_
  first | refine J.skip rfl rfl rfl rfl rfl ?_ | refine J.skipU rfl rfl rfl rfl ?_ | (refine J.unguard rfl rfl rfl ?_; refine J.move rfl rfl ?_)
  refine J.unguard rfl rfl rfl ?_
  refine J.bin rfl rfl rfl rfl ?_
  refine J.name 26 rfl (show _ = Value.bool false by simp) ?_
  (first | refine J.pickT rfl rfl rfl ?_ | refine J.pickF rfl rfl rfl ?_)
  refine J.move rfl rfl ?_
  refine J.unguard rfl rfl rfl ?_
  refine J.callB (v := .bool true) (fun w1 w2 hw hb => hw.step hb) Ty.bd10 rfl rfl (fun w1 hw => fixed18_spec w1) ?_
  first | refine J.skip rfl rfl rfl rfl rfl ?_ | refine J.skipU rfl rfl rfl rfl ?_ | (refine J.unguard rfl rfl rfl ?_; refine J.not rfl rfl ?_)
  (first | refine J.pickT rfl rfl rfl ?_ | refine J.pickF rfl rfl rfl ?_)
  refine J.nil ?_
  refine JX.thenN (hK3 _ _ ?_)
  first | refine JC.condF rfl ?_ | refine JC.cond rfl (fun h => by first | (exfalso; simp at h; omega) | (simp at h)) (fun _ => ?_)
  refine JC.skip ?_
  refine JX.thenN (hK2 _ _ ?_)
  refine JC.seq (fun K4 hK4 => ?_)
  refine JC.region ?_
  refine J.assign rfl rfl ?_
  refine J.nil ?_
  refine JX.thenN (hK4 _ _ ?_)
  refine JC.seqCut (α := NwS) (fun st => [(3, .pointer (some ⟨v1, 0, none⟩)), (5, st.v5)]) (fun st w' => (NwI w st) ∧ St w [] ((v1, vaO (.pointer (some ⟨l1, 0, none⟩)) m1 ((1 : Nat) : Int)) :: (m1, .map st.es st.ck) :: (l1, lgO d st.q st.dn) :: (d, dkO s 900 st.σ.p st.σ.k) :: (s, dkS st.σ.B) :: (lpsH st.L ++ st.l5)) w') (fun st => ?_) (fun K5 hK5 => ?_)
  · skip
    obtain ⟨i, q, dn, σ, L, es, ck, tk, v5, l5⟩ := st
    refine JC.pr (fun hN => ?_)
    try simp only
    obtain ⟨ni, nlog, nk0, nk, ngen, nvm, nok, nlen, nsh, nkp, ntl, nte, nvec⟩ := id hN
    try simp only at ni nlog nk0 nk ngen nvm nok nlen nsh nkp ntl nte nvec
    obtain ⟨a5, c5, rfl, hc5⟩ := nvec.form
    have hsubL : ∀ x, x ∈ L → ∀ p, p ∈ x.lp → p ∈ lpsH L := fun x hx p hp => List.mem_flatMap.2 ⟨x, hx, hp⟩
    refine JC.seq (fun K6 hK6 => ?_)
    refine JC.region ?_
    refine J.move rfl rfl ?_
    refine J.perm ([(v1, vaO (.pointer (some ⟨l1, 0, none⟩)) m1 ((1 : Nat) : Int)), (m1, .map es ck)] ++ ((l1, lgO d q dn) :: (d, dkO s 900 σ.p σ.k) :: (s, dkS σ.B) :: (lpsH L ++ l5))) (by (refine perm_cnt (fun _ => ?_)); simp only [cntB_append, cntB_cons, cntB_nil, Nat.add_zero, Nat.zero_add]; try ac_rfl) ?_
    refine J.callS (α := List HI × Value × List (Nat × Obj)) (V := (·.2.1)) (Pr := fun x => SrtOf (L.map HI.it) (x.1.map HI.it) ∧ VOK x.1 ∧ Vec 28 34 x.2.1 (x.1).length ((x.1).flatMap cH) x.2.2) (L := fun x => x.2.2 ++ (lpsH x.1 ++ [(v1, vaO (.pointer (some ⟨l1, 0, none⟩)) m1 ((1 : Nat) : Int)), (m1, .map es ck)])) Ty.bd20 rfl rfl (fun w1 hw => vall_spec v1 m1 _ _ L es ck nvm nok (by omega) w1 (St.owns hw) (fun x hx => ⟨vec_rowM (nok x hx).2 hw (fun p hp => by simp [hsubL x hx p hp]), vec_offM (nok x hx).2 (fun p0 hp0 => St.off (l1 := [(v1, vaO (.pointer (some ⟨l1, 0, none⟩)) m1 ((1 : Nat) : Int)), (m1, .map es ck)]) hw (o := p0.2) (by simp [hsubL x hx p0 hp0])), by have := nsh x hx; omega⟩)) (fun x hx => ?_)
    obtain ⟨ys, vv, lv2⟩ := x
    obtain ⟨hsrt, hok, hvv⟩ := hx
    try simp only at hsrt hok hvv ⊢
    have hyl : ys.length = L.length := by have := hsrt.1.length_eq; rwa [List.length_map, List.length_map] at this
    obtain ⟨av, cv, rfl, hcv⟩ := hvv.form
    refine J.assign rfl rfl ?_
    refine J.nil ?_
    refine JX.thenN (hK6 _ _ ?_)
    refine JC.seq (fun K7 hK7 => ?_)
    refine JC.seq (fun K8 hK8 => ?_)
    refine JC.region ?_
    refine J.move rfl rfl ?_
    refine J.lenS rfl Ty.u44 rfl rfl ?_
    refine J.move rfl rfl ?_
    refine J.nil ?_
    refine JX.thenN (hK8 _ _ ?_)
    refine JC.block ?_
    refine JC.conseq (JC.cov (f := (fun j => [(3, .pointer (some ⟨v1, 0, none⟩)), (5, .slice a5 tk.length c5), (10, .slice av ys.length cv), (56, .slice av ys.length cv), (57, .int .i64 ((ys.length : Nat) : Int)), (58, .int .i64 ((j : Nat) : Int))]) 0) ⟨rfl, rfl, rfl, rfl, rfl, rfl, trivial⟩ (JC.loop (α := Nat) (fun j => [(3, .pointer (some ⟨v1, 0, none⟩)), (5, .slice a5 tk.length c5), (10, .slice av ys.length cv), (56, .slice av ys.length cv), (57, .int .i64 ((ys.length : Nat) : Int)), (58, .int .i64 ((j : Nat) : Int))]) (fun j w' => (j ≤ ys.length) ∧ St w [] (lv2 ++ (lpsH ys ++ ((v1, vaO (.pointer (some ⟨l1, 0, none⟩)) m1 ((1 : Nat) : Int)) :: (m1, .map es ck) :: (l1, lgO d q dn) :: (d, dkO s 900 σ.p σ.k) :: (s, dkS σ.B) :: (lpsH L ++ l5)))) w') (fun j => ys.length - j) 0 (fun j => ?_))) (fun w hw => ⟨Nat.zero_le _, hw.perm (by (refine perm_cnt (fun _ => ?_)); simp only [cntB_append, cntB_cons, cntB_nil, Nat.add_zero, Nat.zero_add]; try ac_rfl)⟩)
    refine JC.pr (fun hj => ?_)
    refine JC.seq (fun K9 hK9 => ?_)
    refine JC.region ?_
    refine J.bin rfl rfl rfl rfl ?_
    refine J.nil ?_
    refine JX.thenN (hK9 _ _ ?_)
    refine JC.seq (fun K10 hK10 => ?_)
    refine JC.cond rfl (fun h4 => ?_) (fun h4 => ?_)
    · skip
      have hjl : j < ys.length := by simp at h4; omega
      obtain ⟨z, hzg⟩ : ∃ x, ys[j]? = some x := ⟨_, List.getElem?_eq_getElem hjl⟩
      have hzv := (hok z (List.mem_of_getElem? hzg)).2
      obtain ⟨kz, vz, bz, sz, lz⟩ := z
      simp only at hzv
      obtain ⟨az, cz, rfl, hcz⟩ := hzv.form
      obtain ⟨qv, hqv⟩ : ∃ q, av = some ⟨q, 0, none⟩ := by
        rcases hvv.2 with ⟨_, h9, _⟩ | ⟨q, c9, sp, h9, _⟩
        · omega
        · simp only [Value.slice.injEq] at h9; exact ⟨q, h9.1⟩
      subst hqv
      refine JC.skip ?_
      refine JX.thenN (hK10 _ _ ?_)
      refine JC.seq (fun K11 hK11 => ?_)
      refine JC.block ?_
      refine JC.seq (fun K12 hK12 => ?_)
      refine JC.region ?_
      refine J.move rfl rfl ?_
      refine J.indexAddrS Ty.el44 Ty.s28 rfl rfl (by omega) (by omega) rfl ?_
      refine J.loadA (vs := (cT kz vz (.slice az bz.length cz))) Ty.a28 Ty.s28 rfl rfl (fun w1 hw => rowG_at (c := cH) (sz := 34) (fun _ => rfl) (vec_rowM hvv hw (fun q hq => by first | (simp [hq]; done) | (simp at hq; simp [hq]; done) | (simp at hq; subst hq; simp))) hzg (by simp)) rfl ?_
      refine J.alloc Ty.zIt rfl rfl (fun b12 => ?_)
      refine J.assign rfl rfl ?_
      refine J.storeW (cs := cH zH) (vs := (cT kz vz (.slice az bz.length cz))) Ty.s28 rfl rfl rfl rfl rfl one_cT .here ?_
      refine J.nil ?_
      refine JX.thenN (hK12 _ _ ?_)
      refine JC.seq (fun K13 hK13 => ?_)
      rcases Nat.eq_zero_or_pos j with hz0 | hz0
      · skip
        apply JC.drawX (α := Nat × Unit) 14 (fun x => match x with | ⟨xu, uu⟩ => [.int .i64 ((j : Nat) : Int), .bool false, .bool false, undef, undef, undef, undef, undef, undef, undef, undef, undef, undef, .bool false]) (fun m x => match x with | ⟨xu, uu⟩ => fun w1 => (True) ∧ St w [] ((b12, cb (cT kz vz (.slice az bz.length cz)) 28) :: (lv2 ++ (lpsH ys ++ ((v1, vaO (.pointer (some ⟨l1, 0, none⟩)) m1 ((1 : Nat) : Int)) :: (m1, .map es ck) :: (l1, lgO d q dn) :: (d, dkO s 900 σ.p σ.k) :: (s, dkS σ.B) :: (lpsH L ++ l5))))) w1) Ty.mixed rfl rfl rfl (by kernel_rfl) rfl rfl ?hinit ?hstep ?htail
        case hinit => exact fun w1 hw => ⟨(0, ()), trivial, hw.drew⟩
        case hstep =>
          refine ⟨fun m x hm hp => ?_, fun m x hm hp => ?_, fun m x hm hp => ?_, fun m x hm hp => ?_, fun m x hm hp => ?_, fun m x hm hp => ?_, fun m x hm hp => ?_, fun m x hm hp => ?_, fun m x hm hp => ?_, fun m x hm hp => ?_, fun m x hm hp => ?_, fun m x hm hp => ?_, fun m x hm hp => ?_, fun m x hm hp => ?_, trivial⟩
          · skip
            obtain ⟨xu, uu⟩ := x
            show J _ _ _ _ _ (_) _
            refine J.pr (fun hF => ?_)
            refine J.move rfl rfl ?_
            exact J.finX rfl (fun _ hw => ⟨⟨xu, uu⟩, rfl, fun _ _ _ => rfl, hF, hw⟩)
          · skip
            obtain ⟨xu, uu⟩ := x
            show J _ _ _ _ _ ((63, .int .i64 ((j : Nat) : Int)) :: _) _
            refine J.pr (fun hF => ?_)
            refine J.bin rfl rfl rfl rfl ?_
            refine J.name 64 rfl (show _ = Value.bool false by simp; try omega) ?_
            exact J.finX rfl (fun _ hw => ⟨⟨xu, uu⟩, rfl, fun _ _ _ => rfl, hF, hw⟩)
          · skip
            obtain ⟨xu, uu⟩ := x
            show J _ _ _ _ _ ((64, .bool false) :: _) _
            refine J.pr (fun hF => ?_)
            refine J.move rfl rfl ?_
            exact J.finX rfl (fun _ hw => ⟨⟨xu, uu⟩, rfl, fun _ _ _ => rfl, hF, hw⟩)
          · skip
            obtain ⟨xu, uu⟩ := x
            show J _ _ _ _ _ ((65, .bool false) :: _) _
            refine J.pr (fun hF => ?_)
            first | refine J.skip rfl rfl rfl rfl rfl ?_ | refine J.skipU rfl rfl rfl rfl ?_ | (refine J.unguard rfl rfl rfl ?_; refine J.move rfl rfl ?_)
            exact J.finX rfl (fun _ hw => ⟨⟨xu, uu⟩, rfl, fun _ _ _ => rfl, hF, hw⟩)
          · skip
            obtain ⟨xu, uu⟩ := x
            show J _ _ _ _ _ ((65, .bool false) :: _) _
            refine J.pr (fun hF => ?_)
            first | refine J.skip rfl rfl rfl rfl rfl ?_ | refine J.skipU rfl rfl rfl rfl ?_ | (refine J.unguard rfl rfl rfl ?_; refine J.move rfl rfl ?_)
            exact J.finX rfl (fun _ hw => ⟨⟨xu, uu⟩, rfl, fun _ _ _ => rfl, hF, hw⟩)
          · skip
            obtain ⟨xu, uu⟩ := x
            show J _ _ _ _ _ ((65, .bool false) :: (67, undef) :: _) _
            refine J.pr (fun hF => ?_)
            first | refine J.skip rfl rfl rfl rfl rfl ?_ | refine J.skipU rfl rfl rfl rfl ?_ | (refine J.unguard rfl rfl rfl ?_; (first | refine J.subN rfl rfl (by omega) (by omega) rfl ?_ | refine J.bin rfl rfl rfl rfl ?_))
            exact J.finX rfl (fun _ hw => ⟨⟨xu, uu⟩, rfl, fun _ _ _ => rfl, hF, hw⟩)
          · skip
            obtain ⟨xu, uu⟩ := x
            show J _ _ _ _ _ ((65, .bool false) :: (68, undef) :: (66, undef) :: _) _
            refine J.pr (fun hF => ?_)
            first | refine J.skip rfl rfl rfl rfl rfl ?_ | refine J.skipU rfl rfl rfl rfl ?_ | (refine J.unguard rfl rfl rfl ?_; refine J.indexAddrS Ty.el44 Ty.s28 rfl rfl (by omega) (by omega) rfl ?_)
            exact J.finX rfl (fun _ hw => ⟨⟨xu, uu⟩, rfl, fun _ _ _ => rfl, hF, hw⟩)
          · skip
            obtain ⟨xu, uu⟩ := x
            show J _ _ _ _ _ ((65, .bool false) :: (69, undef) :: _) _
            refine J.pr (fun hF => ?_)
            first | refine J.skip rfl rfl rfl rfl rfl ?_ | refine J.skipU rfl rfl rfl rfl ?_ | (refine J.unguard rfl rfl rfl ?_; refine J.fieldAddr Ty.fd28_0 rfl rfl ?_)
            exact J.finX rfl (fun _ hw => ⟨⟨xu, uu⟩, rfl, fun _ _ _ => rfl, hF, hw⟩)
          · skip
            obtain ⟨xu, uu⟩ := x
            show J _ _ _ _ _ ((65, .bool false) :: (70, undef) :: _) _
            refine J.pr (fun hF => ?_)
            first | refine J.skip rfl rfl rfl rfl rfl ?_ | refine J.skipU rfl rfl rfl rfl ?_ | (refine J.unguard rfl rfl rfl ?_; refine J.loadOA Ty.a23 Ty.s23 rfl (by repeat first | exact .head _ | apply List.Mem.tail | apply List.mem_append_right) (by exact rfl) rfl rfl ?_)
            exact J.finX rfl (fun _ hw => ⟨⟨xu, uu⟩, rfl, fun _ _ _ => rfl, hF, hw⟩)
          · skip
            obtain ⟨xu, uu⟩ := x
            show J _ _ _ _ _ ((65, .bool false) :: _) _
            refine J.pr (fun hF => ?_)
            first | refine J.skip rfl rfl rfl rfl rfl ?_ | refine J.skipU rfl rfl rfl rfl ?_ | (refine J.unguard rfl rfl rfl ?_; refine J.fieldAddr Ty.fd28_0 rfl rfl ?_)
            exact J.finX rfl (fun _ hw => ⟨⟨xu, uu⟩, rfl, fun _ _ _ => rfl, hF, hw⟩)
          · skip
            obtain ⟨xu, uu⟩ := x
            show J _ _ _ _ _ ((65, .bool false) :: (72, undef) :: _) _
            refine J.pr (fun hF => ?_)
            first | refine J.skip rfl rfl rfl rfl rfl ?_ | refine J.skipU rfl rfl rfl rfl ?_ | (refine J.unguard rfl rfl rfl ?_; refine J.loadOA Ty.a23 Ty.s23 rfl (by repeat first | exact .head _ | apply List.Mem.tail | apply List.mem_append_right) (by exact rfl) rfl rfl ?_)
            exact J.finX rfl (fun _ hw => ⟨⟨xu, uu⟩, rfl, fun _ _ _ => rfl, hF, hw⟩)
          · skip
            obtain ⟨xu, uu⟩ := x
            show J _ _ _ _ _ ((65, .bool false) :: (65, .bool false) :: (73, undef) :: (71, undef) :: _) _
            refine J.pr (fun hF => ?_)
            first | refine J.skip rfl rfl rfl rfl rfl ?_ | refine J.skipU rfl rfl rfl rfl ?_ | (refine J.unguard rfl rfl rfl ?_; fail)
            exact J.finX rfl (fun _ hw => ⟨⟨xu, uu⟩, rfl, fun _ _ _ => rfl, hF, hw⟩)
          · skip
            obtain ⟨xu, uu⟩ := x
            show J _ _ _ _ _ ((65, .bool false) :: (74, undef) :: _) _
            refine J.pr (fun hF => ?_)
            first | refine J.skip rfl rfl rfl rfl rfl ?_ | refine J.skipU rfl rfl rfl rfl ?_ | (refine J.unguard rfl rfl rfl ?_; refine J.not rfl rfl ?_)
            exact J.finX rfl (fun _ hw => ⟨⟨xu, uu⟩, rfl, fun _ _ _ => rfl, hF, hw⟩)
          · skip
            obtain ⟨xu, uu⟩ := x
            show J _ _ _ _ _ ((75, undef) :: (65, .bool false) :: _) _
            refine J.pr (fun hF => ?_)
            (first | refine J.pickT rfl rfl rfl ?_ | refine J.pickF rfl rfl rfl ?_)
            exact J.finX rfl (fun _ hw => ⟨⟨xu, uu⟩, rfl, fun _ _ _ => rfl, hF, hw⟩)
        case htail =>
          intro x
          obtain ⟨xu, uu⟩ := x
          show J _ _ _ _ _ ((76, .bool false) :: (75, undef) :: (74, undef) :: (73, undef) :: (72, undef) :: (71, undef) :: (70, undef) :: (69, undef) :: (68, undef) :: (67, undef) :: (66, undef) :: (65, .bool false) :: (64, .bool false) :: (63, .int .i64 ((j : Nat) : Int)) :: _) (fun w1 => (True) ∧ St w [] ((b12, cb (cT kz vz (.slice az bz.length cz)) 28) :: (lv2 ++ (lpsH ys ++ ((v1, vaO (.pointer (some ⟨l1, 0, none⟩)) m1 ((1 : Nat) : Int)) :: (m1, .map es ck) :: (l1, lgO d q dn) :: (d, dkO s 900 σ.p σ.k) :: (s, dkS σ.B) :: (lpsH L ++ l5))))) w1)
          refine J.pr (fun hF => ?_)
          refine J.nil ?_
          refine JX.thenN (hK13 _ _ ?_)
          first | refine JC.condF rfl ?_ | refine JC.cond rfl (fun h => by first | (exfalso; simp at h; omega) | (simp at h)) (fun _ => ?_)
          refine JC.skip ?_
          refine JX.blockN ?_
          refine JX.thenN (hK11 _ _ ?_)
          refine JC.region ?_
          (first | refine J.addN rfl rfl (by omega) (by omega) rfl ?_ | refine J.bin rfl rfl rfl rfl ?_)
          refine J.move rfl rfl ?_
          refine J.nil ?_
          refine JX.thenN ?_
          refine JX.again (j + 1) ?_ ?_ ?_
          · omega
          · exact ⟨rfl, rfl, rfl, rfl, rfl, rfl, trivial⟩
          · exact fun w1 hw => ⟨hjl, hw.drop (List.sublist_cons_self _ _)⟩
      · skip
        obtain ⟨jp, hjp⟩ : ∃ q, j = q + 1 := ⟨j - 1, by omega⟩
        obtain ⟨zp, hzp⟩ : ∃ x, ys[jp]? = some x := ⟨_, List.getElem?_eq_getElem (by omega)⟩
        have hrise : valI zp.key < valI kz := srt_at (x := zp) (y := ⟨kz, vz, bz, .slice az bz.length cz, lz⟩) hsrt.2 hzp (by rw [← hjp]; exact hzg)
        apply JC.drawX (α := Nat × Unit) 14 (fun x => match x with | ⟨xu, uu⟩ => [.int .i64 ((j : Nat) : Int), .bool true, .bool true, .slice (some ⟨qv, 0, none⟩) ys.length cv, .int .i64 ((j : Nat) : Int), .int .i64 ((jp : Nat) : Int), .pointer (some ⟨qv, 0 + ((jp : Nat) : Int).toNat * 34, none⟩), .pointer (some ⟨qv, 0 + ((jp : Nat) : Int).toNat * 34 + 0, none⟩), .agg (cI zp.key).toArray, .pointer (some ⟨b12, 0 + 0, none⟩), .agg (cI kz).toArray, .bool true, .bool false, .bool false]) (fun m x => match x with | ⟨xu, uu⟩ => fun w1 => (True) ∧ St w [] ((b12, cb (cT kz vz (.slice az bz.length cz)) 28) :: (lv2 ++ (lpsH ys ++ ((v1, vaO (.pointer (some ⟨l1, 0, none⟩)) m1 ((1 : Nat) : Int)) :: (m1, .map es ck) :: (l1, lgO d q dn) :: (d, dkO s 900 σ.p σ.k) :: (s, dkS σ.B) :: (lpsH L ++ l5))))) w1) Ty.mixed rfl rfl rfl (by kernel_rfl) rfl rfl ?hinit ?hstep ?htail
        case hinit => exact fun w1 hw => ⟨(0, ()), trivial, hw.drew⟩
        case hstep =>
          refine ⟨fun m x hm hp => ?_, fun m x hm hp => ?_, fun m x hm hp => ?_, fun m x hm hp => ?_, fun m x hm hp => ?_, fun m x hm hp => ?_, fun m x hm hp => ?_, fun m x hm hp => ?_, fun m x hm hp => ?_, fun m x hm hp => ?_, fun m x hm hp => ?_, fun m x hm hp => ?_, fun m x hm hp => ?_, fun m x hm hp => ?_, trivial⟩
          · skip
            obtain ⟨xu, uu⟩ := x
            show J _ _ _ _ _ (_) _
            refine J.pr (fun hF => ?_)
            refine J.move rfl rfl ?_
            exact J.finX rfl (fun _ hw => ⟨⟨xu, uu⟩, rfl, fun _ _ _ => rfl, hF, hw⟩)
          · skip
            obtain ⟨xu, uu⟩ := x
            show J _ _ _ _ _ ((63, .int .i64 ((j : Nat) : Int)) :: _) _
            refine J.pr (fun hF => ?_)
            refine J.bin rfl rfl rfl rfl ?_
            refine J.name 64 rfl (show _ = Value.bool true by simp; try omega) ?_
            exact J.finX rfl (fun _ hw => ⟨⟨xu, uu⟩, rfl, fun _ _ _ => rfl, hF, hw⟩)
          · skip
            obtain ⟨xu, uu⟩ := x
            show J _ _ _ _ _ ((64, .bool true) :: _) _
            refine J.pr (fun hF => ?_)
            refine J.move rfl rfl ?_
            exact J.finX rfl (fun _ hw => ⟨⟨xu, uu⟩, rfl, fun _ _ _ => rfl, hF, hw⟩)
          · skip
            obtain ⟨xu, uu⟩ := x
            show J _ _ _ _ _ ((65, .bool true) :: _) _
            refine J.pr (fun hF => ?_)
            first | refine J.skip rfl rfl rfl rfl rfl ?_ | refine J.skipU rfl rfl rfl rfl ?_ | (refine J.unguard rfl rfl rfl ?_; refine J.move rfl rfl ?_)
            exact J.finX rfl (fun _ hw => ⟨⟨xu, uu⟩, rfl, fun _ _ _ => rfl, hF, hw⟩)
          · skip
            obtain ⟨xu, uu⟩ := x
            show J _ _ _ _ _ ((65, .bool true) :: _) _
            refine J.pr (fun hF => ?_)
            first | refine J.skip rfl rfl rfl rfl rfl ?_ | refine J.skipU rfl rfl rfl rfl ?_ | (refine J.unguard rfl rfl rfl ?_; refine J.move rfl rfl ?_)
            exact J.finX rfl (fun _ hw => ⟨⟨xu, uu⟩, rfl, fun _ _ _ => rfl, hF, hw⟩)
          · skip
            obtain ⟨xu, uu⟩ := x
            show J _ _ _ _ _ ((65, .bool true) :: (67, .int .i64 ((j : Nat) : Int)) :: _) _
            refine J.pr (fun hF => ?_)
            refine J.unguard rfl rfl rfl ?_
            refine J.subN rfl rfl (by omega) (by omega) rfl ?_
            refine J.name 68 rfl (show _ = Value.int .i64 ((jp : Nat) : Int) from congrArg (Value.int .i64) (by omega)) ?_
            exact J.finX rfl (fun _ hw => ⟨⟨xu, uu⟩, rfl, fun _ _ _ => rfl, hF, hw⟩)
          · skip
            obtain ⟨xu, uu⟩ := x
            show J _ _ _ _ _ ((65, .bool true) :: (68, .int .i64 ((jp : Nat) : Int)) :: (66, .slice (some ⟨qv, 0, none⟩) ys.length cv) :: _) _
            refine J.pr (fun hF => ?_)
            refine J.unguard rfl rfl rfl ?_
            refine J.indexAddrS Ty.el44 Ty.s28 rfl rfl (by omega) (by omega) rfl ?_
            exact J.finX rfl (fun _ hw => ⟨⟨xu, uu⟩, rfl, fun _ _ _ => rfl, hF, hw⟩)
          · skip
            obtain ⟨xu, uu⟩ := x
            show J _ _ _ _ _ ((65, .bool true) :: (69, .pointer (some ⟨qv, 0 + ((jp : Nat) : Int).toNat * 34, none⟩)) :: _) _
            refine J.pr (fun hF => ?_)
            first | refine J.skip rfl rfl rfl rfl rfl ?_ | refine J.skipU rfl rfl rfl rfl ?_ | (refine J.unguard rfl rfl rfl ?_; refine J.fieldAddr Ty.fd28_0 rfl rfl ?_)
            exact J.finX rfl (fun _ hw => ⟨⟨xu, uu⟩, rfl, fun _ _ _ => rfl, hF, hw⟩)
          · skip
            obtain ⟨xu, uu⟩ := x
            show J _ _ _ _ _ ((65, .bool true) :: (70, .pointer (some ⟨qv, 0 + ((jp : Nat) : Int).toNat * 34 + 0, none⟩)) :: _) _
            refine J.pr (fun hF => ?_)
            refine J.unguard rfl rfl rfl ?_
            refine J.loadA (vs := cI zp.key) Ty.a23 Ty.s23 rfl rfl (fun w1 hw => itemF_at (r := 0) (vec_rowM hvv hw (fun q hq => by first | (simp [hq]; done) | (simp at hq; simp [hq]; done) | (simp at hq; subst hq; simp))) hzp rfl (by simp)) rfl ?_
            exact J.finX rfl (fun _ hw => ⟨⟨xu, uu⟩, rfl, fun _ _ _ => rfl, hF, hw⟩)
          · skip
            obtain ⟨xu, uu⟩ := x
            show J _ _ _ _ _ ((65, .bool true) :: _) _
            refine J.pr (fun hF => ?_)
            first | refine J.skip rfl rfl rfl rfl rfl ?_ | refine J.skipU rfl rfl rfl rfl ?_ | (refine J.unguard rfl rfl rfl ?_; refine J.fieldAddr Ty.fd28_0 rfl rfl ?_)
            exact J.finX rfl (fun _ hw => ⟨⟨xu, uu⟩, rfl, fun _ _ _ => rfl, hF, hw⟩)
          · skip
            obtain ⟨xu, uu⟩ := x
            show J _ _ _ _ _ ((65, .bool true) :: (72, .pointer (some ⟨b12, 0 + 0, none⟩)) :: _) _
            refine J.pr (fun hF => ?_)
            refine J.unguard rfl rfl rfl ?_
            refine J.loadA (vs := cI kz) Ty.a23 Ty.s23 rfl rfl (fun w1 hw => Cells.of_block (hw.own ((b12, cb (cT kz vz (.slice az bz.length cz)) 28)) (by repeat first | exact .head _ | apply List.Mem.tail | apply List.mem_append_right)) rfl) rfl ?_
            exact J.finX rfl (fun _ hw => ⟨⟨xu, uu⟩, rfl, fun _ _ _ => rfl, hF, hw⟩)
          · skip
            obtain ⟨xu, uu⟩ := x
            show J _ _ _ _ _ ((65, .bool true) :: (65, .bool true) :: (73, .agg (cI kz).toArray) :: (71, .agg (cI zp.key).toArray) :: _) _
            refine J.pr (fun hF => ?_)
            refine J.unguard rfl rfl rfl ?_
            refine J.callB (v := .bool (decide (valI zp.key < valI kz))) (fun w1 w2 hw hb => hw.step hb) Ty.bd21 rfl rfl (fun w1 hw => less_spec zp.key kz w1) ?_
            refine J.name 74 rfl (show _ = Value.bool true from congrArg Value.bool (decide_eq_true hrise)) ?_
            exact J.finX rfl (fun _ hw => ⟨⟨xu, uu⟩, rfl, fun _ _ _ => rfl, hF, hw⟩)
          · skip
            obtain ⟨xu, uu⟩ := x
            show J _ _ _ _ _ ((65, .bool true) :: (74, .bool true) :: _) _
            refine J.pr (fun hF => ?_)
            first | refine J.skip rfl rfl rfl rfl rfl ?_ | refine J.skipU rfl rfl rfl rfl ?_ | (refine J.unguard rfl rfl rfl ?_; refine J.not rfl rfl ?_)
            exact J.finX rfl (fun _ hw => ⟨⟨xu, uu⟩, rfl, fun _ _ _ => rfl, hF, hw⟩)
          · skip
            obtain ⟨xu, uu⟩ := x
            show J _ _ _ _ _ ((75, .bool false) :: (65, .bool true) :: _) _
            refine J.pr (fun hF => ?_)
            (first | refine J.pickT rfl rfl rfl ?_ | refine J.pickF rfl rfl rfl ?_)
            exact J.finX rfl (fun _ hw => ⟨⟨xu, uu⟩, rfl, fun _ _ _ => rfl, hF, hw⟩)
        case htail =>
          intro x
          obtain ⟨xu, uu⟩ := x
          show J _ _ _ _ _ ((76, .bool false) :: (75, .bool false) :: (74, .bool true) :: (73, .agg (cI kz).toArray) :: (72, .pointer (some ⟨b12, 0 + 0, none⟩)) :: (71, .agg (cI zp.key).toArray) :: (70, .pointer (some ⟨qv, 0 + ((jp : Nat) : Int).toNat * 34 + 0, none⟩)) :: (69, .pointer (some ⟨qv, 0 + ((jp : Nat) : Int).toNat * 34, none⟩)) :: (68, .int .i64 ((jp : Nat) : Int)) :: (67, .int .i64 ((j : Nat) : Int)) :: (66, .slice (some ⟨qv, 0, none⟩) ys.length cv) :: (65, .bool true) :: (64, .bool true) :: (63, .int .i64 ((j : Nat) : Int)) :: _) (fun w1 => (True) ∧ St w [] ((b12, cb (cT kz vz (.slice az bz.length cz)) 28) :: (lv2 ++ (lpsH ys ++ ((v1, vaO (.pointer (some ⟨l1, 0, none⟩)) m1 ((1 : Nat) : Int)) :: (m1, .map es ck) :: (l1, lgO d q dn) :: (d, dkO s 900 σ.p σ.k) :: (s, dkS σ.B) :: (lpsH L ++ l5))))) w1)
          refine J.pr (fun hF => ?_)
          refine J.nil ?_
          refine JX.thenN (hK13 _ _ ?_)
          first | refine JC.condF rfl ?_ | refine JC.cond rfl (fun h => by first | (exfalso; simp at h; omega) | (simp at h)) (fun _ => ?_)
          refine JC.skip ?_
          refine JX.blockN ?_
          refine JX.thenN (hK11 _ _ ?_)
          refine JC.region ?_
          (first | refine J.addN rfl rfl (by omega) (by omega) rfl ?_ | refine J.bin rfl rfl rfl rfl ?_)
          refine J.move rfl rfl ?_
          refine J.nil ?_
          refine JX.thenN ?_
          refine JX.again (j + 1) ?_ ?_ ?_
          · omega
          · exact ⟨rfl, rfl, rfl, rfl, rfl, rfl, trivial⟩
          · exact fun w1 hw => ⟨hjl, hw.drop (List.sublist_cons_self _ _)⟩
    · skip
      try simp only [decide_eq_true_eq, decide_eq_false_iff_not, beq_iff_eq, bne_iff_ne, bne_eq_false_iff_eq, ne_eq, beq_eq_false_iff_ne, Bool.not_eq_true, Bool.not_eq_false, Int.not_lt, Int.not_le] at h4
      refine JC.exit ?_
      refine JX.thenE ?_
      refine JX.thenE ?_
      refine JX.blockE ?_
      refine JX.thenN (hK7 _ _ ?_)
      refine JC.seq (fun K14 hK14 => ?_)
      refine JC.seq (fun K15 hK15 => ?_)
      refine JC.region ?_
      refine J.move rfl rfl ?_
      refine J.lenS rfl Ty.u44 rfl rfl ?_
      refine J.move rfl rfl ?_
      refine J.nil ?_
      refine JX.thenN (hK15 _ _ ?_)
      refine JC.block ?_
      refine JC.conseq (JC.cov (f := (fun k => [(3, .pointer (some ⟨v1, 0, none⟩)), (5, .slice a5 tk.length c5), (78, .slice a5 tk.length c5), (79, .int .i64 ((tk.length : Nat) : Int)), (80, .int .i64 ((k : Nat) : Int))]) 0) ⟨rfl, rfl, rfl, rfl, rfl, trivial⟩ (JC.loop (α := Nat) (fun k => [(3, .pointer (some ⟨v1, 0, none⟩)), (5, .slice a5 tk.length c5), (78, .slice a5 tk.length c5), (79, .int .i64 ((tk.length : Nat) : Int)), (80, .int .i64 ((k : Nat) : Int))]) (fun k w' => (k ≤ tk.length) ∧ St w [] ((v1, vaO (.pointer (some ⟨l1, 0, none⟩)) m1 ((1 : Nat) : Int)) :: (m1, .map es ck) :: (l1, lgO d q dn) :: (d, dkO s 900 σ.p σ.k) :: (s, dkS σ.B) :: (lpsH L ++ l5)) w') (fun k => tk.length - k) 0 (fun k => ?_))) (fun w hw => ⟨Nat.zero_le _, (hw.perm (by (refine perm_cnt (fun _ => ?_)); simp only [cntB_append, cntB_cons, cntB_nil, Nat.add_zero, Nat.zero_add]; try ac_rfl : List.Perm _ ((lv2 ++ lpsH ys) ++ ((v1, vaO (.pointer (some ⟨l1, 0, none⟩)) m1 ((1 : Nat) : Int)) :: (m1, .map es ck) :: (l1, lgO d q dn) :: (d, dkO s 900 σ.p σ.k) :: (s, dkS σ.B) :: (lpsH L ++ l5))))).drop (List.sublist_append_right _ _)⟩)
      refine JC.pr (fun hk => ?_)
      refine JC.seq (fun K16 hK16 => ?_)
      refine JC.region ?_
      refine J.bin rfl rfl rfl rfl ?_
      refine J.nil ?_
      refine JX.thenN (hK16 _ _ ?_)
      refine JC.seq (fun K17 hK17 => ?_)
      refine JC.cond rfl (fun h6 => ?_) (fun h6 => ?_)
      · skip
        have hkl : k < tk.length := by simp at h6; omega
        obtain ⟨t, htg⟩ : ∃ x, tk[k]? = some x := ⟨_, List.getElem?_eq_getElem hkl⟩
        obtain ⟨⟨at_, ct, hst⟩, htr_, htn⟩ := nte t (List.mem_of_getElem? htg)
        obtain ⟨y, hyg, hyn⟩ := nkp.sure t (List.mem_of_getElem? htg)
        obtain ⟨hym, hyk⟩ := hget_some hyg
        have hyv := (nok y hym).2
        have hysub := hsubL y hym
        have hysh := nsh y hym
        obtain ⟨kt, vt, bt, st_, lt_⟩ := t
        obtain ⟨ky, vy, by_, sy, ly⟩ := y
        simp only at hst htr_ htn hyg hyn hyv hysub hysh
        subst hst
        obtain ⟨q5, s5, rfl, rfl, hq5⟩ : ∃ b sp, a5 = some ⟨b, 0, none⟩ ∧ l5 = [(b, cb (tk.flatMap cH ++ sp) 28)] ∧ tk.length ≤ c5 := by
          rcases nvec.2 with ⟨_, h9, _⟩ | ⟨b, c, sp, h9, h10, _, h11⟩
          · omega
          · simp only [Value.slice.injEq] at h9
            obtain ⟨h9, -, rfl⟩ := h9
            exact ⟨b, sp, h9, h10, h11⟩
        refine JC.skip ?_
        refine JX.thenN (hK17 _ _ ?_)
        refine JC.seq (fun K18 hK18 => ?_)
        refine JC.block ?_
        refine JC.seq (fun K19 hK19 => ?_)
        refine JC.region ?_
        refine J.indexAddrS Ty.el44 Ty.s28 rfl rfl (by omega) (by omega) rfl ?_
        refine J.loadA (vs := (cT kt vt (.slice at_ bt.length ct))) Ty.a28 Ty.s28 rfl rfl (fun w1 hw => rowG_at (c := cH) (sz := 34) (fun _ => rfl) (vec_rowM nvec hw (fun q hq => by first | (simp [hq]; done) | (simp at hq; simp [hq]; done) | (simp at hq; subst hq; simp))) htg (by simp)) rfl ?_
        refine J.alloc Ty.zIt rfl rfl (fun b14 => ?_)
        refine J.storeW (cs := cH zH) (vs := (cT kt vt (.slice at_ bt.length ct))) Ty.s28 rfl rfl rfl rfl rfl one_cT .here ?_
        refine J.nil ?_
        refine JX.thenN (hK19 _ _ ?_)
        refine JC.seq (fun K20 hK20 => ?_)
        refine JC.region ?_
        refine J.move rfl rfl ?_
        refine J.fieldAddr Ty.fd28_0 rfl rfl ?_
        refine J.loadA (vs := cI kt) Ty.a23 Ty.s23 rfl rfl (fun w1 hw => Cells.of_block (hw.own ((b14, cb (cT kt vt (.slice at_ bt.length ct)) 28)) (by repeat first | exact .head _ | apply List.Mem.tail | apply List.mem_append_right)) rfl) rfl ?_
        refine J.perm ([(v1, vaO (.pointer (some ⟨l1, 0, none⟩)) m1 ((1 : Nat) : Int)), (m1, .map es ck)] ++ ((b14, cb (cT kt vt (.slice at_ bt.length ct)) 28) :: (l1, lgO d q dn) :: (d, dkO s 900 σ.p σ.k) :: (s, dkS σ.B) :: (lpsH L ++ [(q5, cb (tk.flatMap cH ++ s5) 28)]))) (by (refine perm_cnt (fun _ => ?_)); simp only [cntB_append, cntB_cons, cntB_nil, Nat.add_zero, Nat.zero_add]; try ac_rfl) ?_
        refine J.callS (α := Value × List (Nat × Obj)) (V := fun z => .tuple #[.agg (cT ky vy z.1).toArray, .bool true]) (Pr := fun z => Vec 5 1 z.1 (by_).length ((by_).map u8) z.2) (L := fun z => z.2 ++ [(v1, vaO (.pointer (some ⟨l1, 0, none⟩)) m1 ((1 : Nat) : Int)), (m1, .map es ck)]) Ty.bd22 rfl rfl (fun w1 hw => vget_spec v1 m1 _ _ L es ck nvm nok kt ⟨ky, vy, by_, sy, ly⟩ true w1 (St.owns hw) (by rw [hyg]; rfl) (by rw [hyg]; rfl) (vec_rowM hyv hw (fun p hp => by simp [hysub p hp])) (vec_offM hyv (fun p0 hp0 => St.off (l1 := [(v1, vaO (.pointer (some ⟨l1, 0, none⟩)) m1 ((1 : Nat) : Int)), (m1, .map es ck)]) hw (o := p0.2) (by simp [hysub p0 hp0]))) (by simp only; omega)) (fun z hz => ?_)
        obtain ⟨vg, lg⟩ := z
        try simp only at hz ⊢
        obtain ⟨ag, cg, rfl, hcg⟩ := hz.form
        refine J.move rfl rfl ?_
        refine J.extract rfl rfl rfl ?_
        refine J.extract rfl rfl rfl ?_
        refine J.alloc Ty.zIt rfl rfl (fun b15 => ?_)
        refine J.storeW (cs := cH zH) (vs := (cT ky vy (.slice ag by_.length cg))) Ty.s28 rfl rfl rfl rfl rfl one_cT .here ?_
        refine J.assign rfl rfl ?_
        refine J.nil ?_
        refine JX.thenN (hK20 _ _ ?_)
        refine JC.seq (fun K21 hK21 => ?_)
        refine JC.region ?_
        refine J.move rfl rfl ?_
        refine J.not rfl rfl ?_
        refine J.move rfl rfl ?_
        first | refine J.skip rfl rfl rfl rfl rfl ?_ | refine J.skipU rfl rfl rfl rfl ?_ | (refine J.unguard rfl rfl rfl ?_; refine J.fieldAddr Ty.fd28_1 rfl rfl ?_)
        refine J.unguard rfl rfl rfl ?_
        refine J.loadA (vs := cV vt) Ty.a25 Ty.s25 rfl rfl (fun w1 hw => Cells.of_block (hw.own ((b14, cb (cT kt vt (.slice at_ bt.length ct)) 28)) (by repeat first | exact .head _ | apply List.Mem.tail | apply List.mem_append_right)) rfl) rfl ?_
        first | refine J.skip rfl rfl rfl rfl rfl ?_ | refine J.skipU rfl rfl rfl rfl ?_ | (refine J.unguard rfl rfl rfl ?_; refine J.fieldAddr Ty.fd28_1 rfl rfl ?_)
        refine J.unguard rfl rfl rfl ?_
        refine J.loadA (vs := cV vy) Ty.a25 Ty.s25 rfl rfl (fun w1 hw => Cells.of_block (hw.own ((b15, cb (cT ky vy (.slice ag by_.length cg)) 28)) (by repeat first | exact .head _ | apply List.Mem.tail | apply List.mem_append_right)) rfl) rfl ?_
        refine J.unguard rfl rfl rfl ?_
        refine J.callB (v := .bool false) (fun w1 w2 hw hb => hw.step hb) Ty.bd14 rfl rfl (fun w1 hw => by have h9 := rnewer_spec vt vy w1; rw [hyn] at h9; exact h9) ?_
        (first | refine J.pickT rfl rfl rfl ?_ | refine J.pickF rfl rfl rfl ?_)
        refine J.nil ?_
        refine JX.thenN (hK21 _ _ ?_)
        first | refine JC.condF rfl ?_ | refine JC.cond rfl (fun h => by first | (exfalso; simp at h; omega) | (simp at h)) (fun _ => ?_)
        refine JC.skip ?_
        refine JX.blockN ?_
        refine JX.thenN (hK18 _ _ ?_)
        refine JC.region ?_
        (first | refine J.addN rfl rfl (by omega) (by omega) rfl ?_ | refine J.bin rfl rfl rfl rfl ?_)
        refine J.move rfl rfl ?_
        refine J.nil ?_
        refine JX.thenN ?_
        refine JX.again (k + 1) ?_ ?_ ?_
        · omega
        · exact ⟨rfl, rfl, rfl, rfl, rfl, trivial⟩
        · exact fun w1 hw => ⟨hkl, (hw.perm (by (refine perm_cnt (fun _ => ?_)); simp only [cntB_append, cntB_cons, cntB_nil, Nat.add_zero, Nat.zero_add]; try ac_rfl : List.Perm _ (((b15, cb (cT ky vy (.slice ag by_.length cg)) 28) :: (b14, cb (cT kt vt (.slice at_ bt.length ct)) 28) :: lg) ++ ((v1, vaO (.pointer (some ⟨l1, 0, none⟩)) m1 ((1 : Nat) : Int)) :: (m1, .map es ck) :: (l1, lgO d q dn) :: (d, dkO s 900 σ.p σ.k) :: (s, dkS σ.B) :: (lpsH L ++ [(q5, cb (tk.flatMap cH ++ s5) 28)]))))).drop (List.sublist_append_right _ _)⟩
      · skip
        try simp only [decide_eq_true_eq, decide_eq_false_iff_not, beq_iff_eq, bne_iff_ne, bne_eq_false_iff_eq, ne_eq, beq_eq_false_iff_ne, Bool.not_eq_true, Bool.not_eq_false, Int.not_lt, Int.not_le] at h6
        refine JC.exit ?_
        refine JX.thenE ?_
        refine JX.thenE ?_
        refine JX.blockE ?_
        refine JX.thenN (hK14 _ _ ?_)
        refine JC.seq (fun K22 hK22 => ?_)
        refine JC.region ?_
        refine J.move rfl rfl ?_
        refine J.move rfl rfl ?_
        refine J.move rfl rfl ?_
        refine J.perm ([(v1, vaO (.pointer (some ⟨l1, 0, none⟩)) m1 ((1 : Nat) : Int)), (m1, .map es ck)] ++ ((l1, lgO d q dn) :: (d, dkO s 900 σ.p σ.k) :: (s, dkS σ.B) :: (lpsH L ++ l5))) (.refl _) ?_
        refine J.callB (v := .bool true) (fun w1 w2 hw hb => hw.step hb) Ty.bd23 rfl rfl (fun w1 hw => holds_spec v1 m1 _ _ L es ck nvm nok (by omega) _ _ tk tk w1 (St.owns hw) (fun x hx => ⟨vec_rowM (nok x hx).2 hw (fun p hp => by simp [hsubL x hx p hp]), vec_offM (nok x hx).2 (fun p0 hp0 => St.off (l1 := [(v1, vaO (.pointer (some ⟨l1, 0, none⟩)) m1 ((1 : Nat) : Int)), (m1, .map es ck)]) hw (o := p0.2) (by simp [hsubL x hx p0 hp0])), by have := nsh x hx; omega⟩) (vec_rowM nvec hw (fun q hq => by first | (simp [hq]; done) | (simp at hq; simp [hq]; done) | (simp at hq; subst hq; simp))) (fun x hx => (nte x hx).1) (by omega) nkp.sure (vec_rowM nvec hw (fun q hq => by first | (simp [hq]; done) | (simp at hq; simp [hq]; done) | (simp at hq; subst hq; simp))) (fun x hx => ⟨(nte x hx).1, (nte x hx).2.1.below (hw.drop (List.nil_sublist _)).below, (nte x hx).2.2⟩) (by omega) nkp.tried) ?_
        refine J.assign rfl rfl ?_
        refine J.nil ?_
        refine JX.thenN (hK22 _ _ ?_)
        refine JC.ret ?_
        refine JX.ret1 rfl rfl (fun w hw => ?_)
        exact ⟨rfl, (hw.drop (List.nil_sublist _)).below⟩
  · skip
    refine JC.seq (fun K23 hK23 => ?_)
    refine JC.region ?_
    refine J.move rfl rfl ?_
    refine J.lenS rfl Ty.u44 rfl rfl ?_
    refine J.move rfl rfl ?_
    refine J.nil ?_
    refine JX.thenN (hK23 _ _ ?_)
    refine JC.block ?_
    refine JC.conseq (JC.cov (f := (fun st => [(3, .pointer (some ⟨v1, 0, none⟩)), (5, st.v5), (32, .slice a xs.length c), (33, .int .i64 ((xs.length : Nat) : Int)), (34, .int .i64 ((st.i : Nat) : Int))]) (⟨0, QN1, false, σ1, [], es1, ck1, [], .slice none 0 0, []⟩ : NwS)) ⟨rfl, rfl, rfl, rfl, rfl, trivial⟩ (JC.loop (α := NwS) (fun st => [(3, .pointer (some ⟨v1, 0, none⟩)), (5, st.v5), (32, .slice a xs.length c), (33, .int .i64 ((xs.length : Nat) : Int)), (34, .int .i64 ((st.i : Nat) : Int))]) (fun st w' => (st.i ≤ xs.length ∧ NwI w st) ∧ St w [] ((v1, vaO (.pointer (some ⟨l1, 0, none⟩)) m1 ((1 : Nat) : Int)) :: (m1, .map st.es st.ck) :: (l1, lgO d st.q st.dn) :: (d, dkO s 900 st.σ.p st.σ.k) :: (s, dkS st.σ.B) :: (lpsH st.L ++ st.l5)) w') (fun st => xs.length - st.i) (⟨0, QN1, false, σ1, [], es1, ck1, [], .slice none 0 0, []⟩ : NwS) (fun st => ?_))) (fun w hw => ⟨⟨Nat.zero_le _, ⟨Nat.zero_le _, hI1, by omega, by simp only; omega, Nat.le_refl _, hT1, hV1, Nat.le_refl _, fun _ h => (by cases h), Kept.nil, Nat.le_refl _, fun _ h => (by cases h), Vec.nil _ _⟩⟩, hw.perm (by simp only [lpsH, List.flatMap_nil, List.append_nil]; exact (by (refine perm_cnt (fun _ => ?_)); simp only [cntB_append, cntB_cons, cntB_nil, Nat.add_zero, Nat.zero_add]; try ac_rfl))⟩)
    obtain ⟨i, q, dn, σ, L, es, ck, tk, v5, l5⟩ := st
    refine JC.pr (fun hI => ?_)
    obtain ⟨hi, hN⟩ := hI
    try simp only at hi ⊢
    obtain ⟨ni, nlog, nk0, nk, ngen, nvm, nok, nlen, nsh, nkp, ntl, nte, nvec⟩ := id hN
    try simp only at ni nlog nk0 nk ngen nvm nok nlen nsh nkp ntl nte nvec
    refine JC.seq (fun K24 hK24 => ?_)
    refine JC.region ?_
    refine J.bin rfl rfl rfl rfl ?_
    refine J.nil ?_
    refine JX.thenN (hK24 _ _ ?_)
    refine JC.seq (fun K25 hK25 => ?_)
    refine JC.cond rfl (fun h1 => ?_) (fun h1 => ?_)
    · skip
      have hlt : i < xs.length := by simp at h1; omega
      obtain ⟨x, hxg⟩ : ∃ x, xs[i]? = some x := ⟨_, List.getElem?_eq_getElem hlt⟩
      obtain ⟨⟨ax, cx, hsx⟩, hxr, hxn, hxl⟩ := he x (List.mem_of_getElem? hxg)
      obtain ⟨kx, vx, bx, sx, lx⟩ := x
      simp only at hsx hxr hxn hxl
      subst hsx
      obtain ⟨q1, o1, c1', hv1, -, -⟩ := hr.some (by rw [cHs_len]; omega)
      simp only [Value.slice.injEq] at hv1
      obtain ⟨rfl, -, -⟩ := hv1
      refine JC.skip ?_
      refine JX.thenN (hK25 _ _ ?_)
      refine JC.seq (fun K26 hK26 => ?_)
      refine JC.block ?_
      refine JC.seq (fun K27 hK27 => ?_)
      refine JC.region ?_
      refine J.move rfl rfl ?_
      refine J.indexAddrS Ty.el44 Ty.s28 rfl rfl (by omega) (by omega) rfl ?_
      refine J.loadA (vs := (cT kx vx (.slice ax bx.length cx))) Ty.a28 Ty.s28 rfl rfl (fun w1 hw => rowG_at (c := cH) (sz := 34) (fun _ => rfl) (hr.below (hw.drop (List.nil_sublist _)).below) hxg (by rw [Int.toNat_natCast])) rfl ?_
      refine J.alloc Ty.zIt rfl rfl (fun b7 => ?_)
      refine J.assign rfl rfl ?_
      refine J.storeW (cs := cH zH) (vs := (cT kx vx (.slice ax bx.length cx))) Ty.s28 rfl rfl rfl rfl rfl one_cT .here ?_
      refine J.nil ?_
      refine JX.thenN (hK27 _ _ ?_)
      refine JC.seq (fun K28 hK28 => ?_)
      refine JC.seq (fun K29 hK29 => ?_)
      refine JC.region ?_
      refine J.move rfl rfl ?_
      refine J.bin rfl rfl rfl rfl ?_
      refine J.nil ?_
      refine JX.thenN (hK29 _ _ ?_)
      refine JC.cond rfl (fun h2 => ?_) (fun h2 => ?_)
      · skip
        try simp only [decide_eq_true_eq, decide_eq_false_iff_not, beq_iff_eq, bne_iff_ne, bne_eq_false_iff_eq, ne_eq, beq_eq_false_iff_ne, Bool.not_eq_true, Bool.not_eq_false, Int.not_lt, Int.not_le] at h2
        refine JC.exit ?_
        refine JX.thenE ?_
        refine JX.blockO rfl ?_
        refine JX.thenE ?_
        refine JX.thenE ?_
        refine JX.blockE ?_
        refine JX.thenN ?_
        exact JX.cut (hK5 ⟨i, q, dn, σ, L, es, ck, tk, v5, l5⟩) ⟨rfl, rfl, trivial⟩ (fun w1 hw => ⟨hN, hw.drop (List.sublist_cons_self _ _)⟩)
      · skip
        have hi60 : i ≤ 60 := by simp at h2; omega
        refine JC.skip ?_
        refine JX.thenN (hK28 _ _ ?_)
        refine JC.seq (fun K30 hK30 => ?_)
        refine JC.region ?_
        refine J.move rfl rfl ?_
        obtain ⟨xc, hxc⟩ : ∃ l, l = (cT kx vx (.slice ax bx.length cx)) := ⟨_, rfl⟩
        refine J.loadA (vs := xc) Ty.a28 Ty.s28 rfl (by rw [hxc]; rfl) (fun w1 hw => by rw [hxc]; exact Cells.of_block (hw.own ((b7, cb (cT kx vx (.slice ax bx.length cx)) 28)) (by repeat first | exact .head _ | apply List.Mem.tail | apply List.mem_append_right)) rfl) rfl ?_
        have hxd : xc = cT kx vx (.slice ax bx.length cx) := hxc
        refine J.perm (vltB v1 m1 l1 d s 900 q dn 1 es ck ⟨σ.B, σ.p, σ.k⟩ ++ ((b7, cb (cT kx vx (.slice ax bx.length cx)) 28) :: (lpsH L ++ l5))) (by (refine perm_cnt (fun _ => ?_)); simp only [cntB_append, cntB_cons, cntB_nil, Nat.add_zero, Nat.zero_add]; try ac_rfl) ?_
        refine J.callS (α := MerR) (V := MerR.val) (Pr := fun z => z.Pr 900 q dn ⟨σ.B, σ.p, σ.k⟩ L ⟨kx, vx, bx⟩) (L := fun z => z.lst v1 m1 l1 d s 900 1 es ck) Ty.bd19 rfl rfl (fun w1 hw => vmerge_spec v1 m1 l1 d s 900 1 q dn σ.B σ.p σ.k L es ck nvm nok nlog (by omega) nk0 (by omega) xc kx vx bx _ w1 hxd (St.owns hw) (hxr.below (hw.drop (List.nil_sublist _)).below) (row_off hxr hw (fun b hb => by simp only [List.map_append, List.map_cons, List.map_nil]; exact List.mem_append_left _ hb)) hxl) (fun z hz => ?_)
        rcases z with ⟨ez, q9, dn9, σ9⟩ | ⟨h9, es9, ck9, q9, dn9, σ9⟩
        · skip
          have hlg := merge_log (by omega) nlog (by omega) hz
          obtain ⟨g1, g2, g3, g4, g5⟩ := hlg
          refine J.name 44 rfl (show _ = Value.tuple #[.bool false, .int .i64 ez] from rfl) ?_
          refine J.perm ((b7, cb (cT kx vx (.slice ax bx.length cx)) 28) :: ((v1, vaO (.pointer (some ⟨l1, 0, none⟩)) m1 ((1 : Nat) : Int)) :: (m1, .map es ck) :: (l1, lgO d q9 dn9) :: (d, dkO s 900 σ9.p σ9.k) :: (s, dkS σ9.B) :: (lpsH L ++ l5))) (by simp only [MerR.lst]; exact (by (refine perm_cnt (fun _ => ?_)); simp only [cntB_append, cntB_cons, cntB_nil, Nat.add_zero, Nat.zero_add]; try ac_rfl)) ?_
          by_cases hez : ez = 0
          · skip
            have hold := merge_cases hz hez
            refine J.move rfl rfl ?_
            refine J.extract rfl rfl rfl ?_
            refine J.extract rfl rfl rfl ?_
            refine J.assign rfl rfl ?_
            refine J.assign rfl rfl ?_
            refine J.nil ?_
            refine JX.thenN (hK30 _ _ ?_)
            refine JC.seq (fun K31 hK31 => ?_)
            refine JC.region ?_
            refine J.move rfl rfl ?_
            refine J.bin rfl rfl rfl rfl ?_
            refine J.name 48 rfl (show _ = Value.bool true by simp [hez]) ?_
            refine J.nil ?_
            refine JX.thenN (hK31 _ _ ?_)
            first | refine JC.condT rfl ?_ | refine JC.cond rfl (fun _ => ?_) (fun h => by first | (exfalso; simp at h; omega) | (simp at h))
            refine JC.region ?_
            refine J.move rfl rfl ?_
            refine J.loadA (vs := (cT kx vx (.slice ax bx.length cx))) Ty.a28 Ty.s28 rfl rfl (fun w1 hw => Cells.of_block (hw.own ((b7, cb (cT kx vx (.slice ax bx.length cx)) 28)) (by repeat first | exact .head _ | apply List.Mem.tail | apply List.mem_append_right)) rfl) rfl ?_
            refine J.buildSl (cs := (cT kx vx (.slice ax bx.length cx))) Ty.el44 Ty.s28 Ty.zIt rfl rfl rfl rfl (by kernel_rfl) rfl rfl (fun b51 => ?_)
            refine J.perm (l5 ++ ((b51, cb (cT kx vx (.slice ax bx.length cx)) 28) :: (b7, cb (cT kx vx (.slice ax bx.length cx)) 28) :: ((v1, vaO (.pointer (some ⟨l1, 0, none⟩)) m1 ((1 : Nat) : Int)) :: (m1, .map es ck) :: (l1, lgO d q9 dn9) :: (d, dkO s 900 σ9.p σ9.k) :: (s, dkS σ9.B) :: (lpsH L)))) (by (refine perm_cnt (fun _ => ?_)); simp only [cntB_append, cntB_cons, cntB_nil, Nat.add_zero, Nat.zero_add]; try ac_rfl) ?_
            refine J.append (lp := l5) (xs := tk.flatMap cH) (ys := (cT kx vx (.slice ax bx.length cx))) (k := tk.length) (m := 1) Ty.el44 Ty.s28 Ty.b28 Ty.zIt rfl (.inl ⟨28, Ty.u44⟩) rfl rfl nvec (fun w1 hw => .inl (Row.own (cs := (cT kx vx (.slice ax bx.length cx))) (tb := 28) (fr := (0, 0)) hw (List.mem_append_right _ (.head _)) (List.take_of_length_le (Nat.le_refl _)) (Nat.le_refl _))) rfl one_cT (by omega) (by omega) rfl (fun v52 l52 hv52 => ?_)
            rw [show tk.flatMap cH ++ (cT kx vx (.slice ax bx.length cx)) = (tk ++ [(⟨kx, vx, bx, .slice ax bx.length cx, lx⟩ : HI)]).flatMap cH by rw [List.flatMap_append]; rfl, show tk.length + 1 = (tk ++ [(⟨kx, vx, bx, .slice ax bx.length cx, lx⟩ : HI)]).length by rw [List.length_append]; rfl] at hv52
            refine J.assign rfl rfl ?_
            refine J.nil ?_
            refine JX.blockN ?_
            refine JX.thenN (hK26 _ _ ?_)
            refine JC.region ?_
            (first | refine J.addN rfl rfl (by omega) (by omega) rfl ?_ | refine J.bin rfl rfl rfl rfl ?_)
            refine J.move rfl rfl ?_
            refine J.nil ?_
            refine JX.thenN ?_
            refine JX.again (⟨i + 1, q9, dn9, σ9, L, es, ck, (tk ++ [⟨kx, vx, bx, .slice ax bx.length cx, lx⟩]), v52, l52⟩ : NwS) ?_ ?_ ?_
            · simp only; omega
            · exact ⟨rfl, rfl, rfl, rfl, rfl, trivial⟩
            · exact fun w1 hw => ⟨⟨hlt, ⟨by simp only; omega, g1, by simp only; omega, by simp only; omega, by simp only; omega, nvm, nok, by simp only; omega, nsh, nkp.old ⟨kx, vx, bx, .slice ax bx.length cx, lx⟩ hold, by simp only [List.length_append, List.length_singleton]; omega, fun x hx => by
                rcases List.mem_append.1 hx with hx | hx
                · exact nte x hx
                · rw [List.mem_singleton.1 hx]; exact ⟨⟨_, _, rfl⟩, hxr, hxn⟩, hv52⟩⟩, (hw.perm (by (refine perm_cnt (fun _ => ?_)); simp only [cntB_append, cntB_cons, cntB_nil, Nat.add_zero, Nat.zero_add]; try ac_rfl : List.Perm _ (((b51, cb (cT kx vx (.slice ax bx.length cx)) 28) :: (b7, cb (cT kx vx (.slice ax bx.length cx)) 28) :: []) ++ ((v1, vaO (.pointer (some ⟨l1, 0, none⟩)) m1 ((1 : Nat) : Int)) :: (m1, .map es ck) :: (l1, lgO d q9 dn9) :: (d, dkO s 900 σ9.p σ9.k) :: (s, dkS σ9.B) :: (lpsH L ++ l52))))).drop (List.sublist_append_right _ _)⟩
          · skip
            refine J.move rfl rfl ?_
            refine J.extract rfl rfl rfl ?_
            refine J.extract rfl rfl rfl ?_
            refine J.assign rfl rfl ?_
            refine J.assign rfl rfl ?_
            refine J.nil ?_
            refine JX.thenN (hK30 _ _ ?_)
            refine JC.seq (fun K32 hK32 => ?_)
            refine JC.region ?_
            refine J.move rfl rfl ?_
            refine J.bin rfl rfl rfl rfl ?_
            refine J.name 48 rfl (show _ = Value.bool false by simp [hez]) ?_
            refine J.nil ?_
            refine JX.thenN (hK32 _ _ ?_)
            first | refine JC.condF rfl ?_ | refine JC.cond rfl (fun h => by first | (exfalso; simp at h; omega) | (simp at h)) (fun _ => ?_)
            refine JC.skip ?_
            refine JX.blockN ?_
            refine JX.thenN (hK26 _ _ ?_)
            refine JC.region ?_
            (first | refine J.addN rfl rfl (by omega) (by omega) rfl ?_ | refine J.bin rfl rfl rfl rfl ?_)
            refine J.move rfl rfl ?_
            refine J.nil ?_
            refine JX.thenN ?_
            refine JX.again (⟨i + 1, q9, dn9, σ9, L, es, ck, tk, v5, l5⟩ : NwS) ?_ ?_ ?_
            · simp only; omega
            · exact ⟨rfl, rfl, rfl, rfl, rfl, trivial⟩
            · exact fun w1 hw => ⟨⟨hlt, ⟨by simp only; omega, g1, by simp only; omega, by simp only; omega, by simp only; omega, nvm, nok, by simp only; omega, nsh, nkp, by simp only; omega, nte, nvec⟩⟩, hw.drop (List.sublist_cons_self _ _)⟩
        · skip
          obtain ⟨hz1, hz2, hz3, hz4⟩ := hz
          have hlg := merge_log (by omega) nlog (by omega) hz1
          obtain ⟨g1, g2, g3, g4, g5⟩ := hlg
          obtain ⟨hit, hnew⟩ := merge_new hz1
          have hk9 : h9.key = kx := congrArg ItV.key hz2
          have hv9 : h9.ver = vx := congrArg ItV.ver hz2
          have hb9 : h9.bs = bx := congrArg ItV.bs hz2
          have hsl := hset_len L h9
          refine J.name 44 rfl (show _ = Value.tuple #[.bool true, .int .i64 0] from rfl) ?_
          refine J.conseq (I' := St w [] ((b7, cb (cT kx vx (.slice ax bx.length cx)) 28) :: ((v1, vaO (.pointer (some ⟨l1, 0, none⟩)) m1 ((1 : Nat) : Int)) :: (m1, .map es9 ck9) :: (l1, lgO d q9 dn9) :: (d, dkO s 900 σ9.p σ9.k) :: (s, dkS σ9.B) :: (lpsH (hset L h9) ++ l5)))) ?_ (fun w1 hw => (by simp only [MerR.lst] at hw; exact ((hset_sub nvm.nodup h9).st (hw.perm (by (refine perm_cnt (fun _ => ?_)); simp only [cntB_append, cntB_cons, cntB_nil, Nat.add_zero, Nat.zero_add]; try ac_rfl : List.Perm _ ((h9.lp ++ lpsH L) ++ ((b7, cb (cT kx vx (.slice ax bx.length cx)) 28) :: (v1, vaO (.pointer (some ⟨l1, 0, none⟩)) m1 ((1 : Nat) : Int)) :: (m1, .map es9 ck9) :: (l1, lgO d q9 dn9) :: ((d, dkO s 900 σ9.p σ9.k) :: (s, dkS σ9.B) :: l5)))))).perm (by (refine perm_cnt (fun _ => ?_)); simp only [cntB_append, cntB_cons, cntB_nil, Nat.add_zero, Nat.zero_add]; try ac_rfl)))
          refine J.move rfl rfl ?_
          refine J.extract rfl rfl rfl ?_
          refine J.extract rfl rfl rfl ?_
          refine J.assign rfl rfl ?_
          refine J.assign rfl rfl ?_
          refine J.nil ?_
          refine JX.thenN (hK30 _ _ ?_)
          refine JC.seq (fun K33 hK33 => ?_)
          refine JC.region ?_
          refine J.move rfl rfl ?_
          refine J.bin rfl rfl rfl rfl ?_
          refine J.name 48 rfl (show _ = Value.bool true by simp) ?_
          refine J.nil ?_
          refine JX.thenN (hK33 _ _ ?_)
          first | refine JC.condT rfl ?_ | refine JC.cond rfl (fun _ => ?_) (fun h => by first | (exfalso; simp at h; omega) | (simp at h))
          refine JC.region ?_
          refine J.move rfl rfl ?_
          refine J.loadA (vs := (cT kx vx (.slice ax bx.length cx))) Ty.a28 Ty.s28 rfl rfl (fun w1 hw => Cells.of_block (hw.own ((b7, cb (cT kx vx (.slice ax bx.length cx)) 28)) (by repeat first | exact .head _ | apply List.Mem.tail | apply List.mem_append_right)) rfl) rfl ?_
          refine J.buildSl (cs := (cT kx vx (.slice ax bx.length cx))) Ty.el44 Ty.s28 Ty.zIt rfl rfl rfl rfl (by kernel_rfl) rfl rfl (fun b51 => ?_)
          refine J.perm (l5 ++ ((b51, cb (cT kx vx (.slice ax bx.length cx)) 28) :: (b7, cb (cT kx vx (.slice ax bx.length cx)) 28) :: ((v1, vaO (.pointer (some ⟨l1, 0, none⟩)) m1 ((1 : Nat) : Int)) :: (m1, .map es9 ck9) :: (l1, lgO d q9 dn9) :: (d, dkO s 900 σ9.p σ9.k) :: (s, dkS σ9.B) :: (lpsH (hset L h9))))) (by (refine perm_cnt (fun _ => ?_)); simp only [cntB_append, cntB_cons, cntB_nil, Nat.add_zero, Nat.zero_add]; try ac_rfl) ?_
          refine J.append (lp := l5) (xs := tk.flatMap cH) (ys := (cT kx vx (.slice ax bx.length cx))) (k := tk.length) (m := 1) Ty.el44 Ty.s28 Ty.b28 Ty.zIt rfl (.inl ⟨28, Ty.u44⟩) rfl rfl nvec (fun w1 hw => .inl (Row.own (cs := (cT kx vx (.slice ax bx.length cx))) (tb := 28) (fr := (0, 0)) hw (List.mem_append_right _ (.head _)) (List.take_of_length_le (Nat.le_refl _)) (Nat.le_refl _))) rfl one_cT (by omega) (by omega) rfl (fun v52 l52 hv52 => ?_)
          rw [show tk.flatMap cH ++ (cT kx vx (.slice ax bx.length cx)) = (tk ++ [(⟨kx, vx, bx, .slice ax bx.length cx, lx⟩ : HI)]).flatMap cH by rw [List.flatMap_append]; rfl, show tk.length + 1 = (tk ++ [(⟨kx, vx, bx, .slice ax bx.length cx, lx⟩ : HI)]).length by rw [List.length_append]; rfl] at hv52
          refine J.assign rfl rfl ?_
          refine J.nil ?_
          refine JX.blockN ?_
          refine JX.thenN (hK26 _ _ ?_)
          refine JC.region ?_
          (first | refine J.addN rfl rfl (by omega) (by omega) rfl ?_ | refine J.bin rfl rfl rfl rfl ?_)
          refine J.move rfl rfl ?_
          refine J.nil ?_
          refine JX.thenN ?_
          refine JX.again (⟨i + 1, q9, dn9, σ9, hset L h9, es9, ck9, (tk ++ [⟨kx, vx, bx, .slice ax bx.length cx, lx⟩]), v52, l52⟩ : NwS) ?_ ?_ ?_
          · simp only; omega
          · exact ⟨rfl, rfl, rfl, rfl, rfl, trivial⟩
          · exact fun w1 hw => ⟨⟨hlt, ⟨by simp only; omega, g1, by simp only; omega, by simp only; omega, by simp only; omega, hz4, nok.set hz3, by simp only; omega, fun x hx => by
              rcases hset_mem hx with rfl | hx
              · rw [hb9]; exact hit.2.2
              · exact nsh x hx, nkp.set nvm.nodup h9 ⟨kx, vx, bx, .slice ax bx.length cx, lx⟩ hz2 (fun y hy => by rw [hv9]; exact hnew y (by rw [← hk9]; exact hy)), by simp only [List.length_append, List.length_singleton]; omega, fun x hx => by
              rcases List.mem_append.1 hx with hx | hx
              · exact nte x hx
              · rw [List.mem_singleton.1 hx]; exact ⟨⟨_, _, rfl⟩, hxr, hxn⟩, hv52⟩⟩, (hw.perm (by (refine perm_cnt (fun _ => ?_)); simp only [cntB_append, cntB_cons, cntB_nil, Nat.add_zero, Nat.zero_add]; try ac_rfl : List.Perm _ (((b51, cb (cT kx vx (.slice ax bx.length cx)) 28) :: (b7, cb (cT kx vx (.slice ax bx.length cx)) 28) :: []) ++ ((v1, vaO (.pointer (some ⟨l1, 0, none⟩)) m1 ((1 : Nat) : Int)) :: (m1, .map es9 ck9) :: (l1, lgO d q9 dn9) :: (d, dkO s 900 σ9.p σ9.k) :: (s, dkS σ9.B) :: (lpsH (hset L h9) ++ l52))))).drop (List.sublist_append_right _ _)⟩
    · skip
      try simp only [decide_eq_true_eq, decide_eq_false_iff_not, beq_iff_eq, bne_iff_ne, bne_eq_false_iff_eq, ne_eq, beq_eq_false_iff_ne, Bool.not_eq_true, Bool.not_eq_false, Int.not_lt, Int.not_le] at h1
      refine JC.exit ?_
      refine JX.thenE ?_
      refine JX.thenE ?_
      refine JX.blockE ?_
      refine JX.thenN ?_
      exact JX.cut (hK5 ⟨i, q, dn, σ, L, es, ck, tk, v5, l5⟩) ⟨rfl, rfl, trivial⟩ (fun w1 hw => ⟨hN, hw.perm (by (refine perm_cnt (fun _ => ?_)); simp only [cntB_append, cntB_cons, cntB_nil, Nat.add_zero, Nat.zero_add]; try ac_rfl)⟩)

def toHI (x : ItX) : HI := ⟨x.key, x.ver, x.v.xs, x.v.v, []⟩
theorem rows_itx {w : World} {s : Sl ItX} {cs : List Value} (h : RSl 34 64 RIt w cs s) : Row w s.v (s.xs.map toHI).length ((s.xs.map toHI).flatMap cH) := by
  have h1 := rslG (c := fun x => cH (toHI x)) (sz := 34) (fun _ => rfl) (by omega) (fun _ _ _ h => h.1) h
  rw [List.length_map, List.flatMap_map]
  exact h1
theorem items_ok {w : World} {s : Sl ItX} {cs : List Value} (h : RSl 34 64 RIt w cs s) : ∀ x, x ∈ s.xs → okN x.ver.n ∧ RSl 1 1 RU8 w [x.v.v] x.v := by
  obtain ⟨_, _, _, h4⟩ := h
  intro x hx
  rcases h4 with h4 | ⟨b, o, _, h4⟩
  · rw [h4] at hx; cases hx
  · obtain ⟨i, hi⟩ := List.mem_iff_getElem?.1 hx
    obtain ⟨cs', _, _, h5⟩ := h4 i x hi
    exact ⟨h5.2.1, h5.2.2⟩
theorem vaultNewest_walk (w : World) (x : Sl ItX) (hx : RSl 34 64 RIt w [x.v] x) :
    Calls Try.prog 5 [x.v].toArray w fun r w' => r = .returned (.bool true) ∧ Bel w w' := by
  have h1 := rows_itx hx
  have h2 : x.v = .slice x.a (x.xs.map toHI).length x.c := by rw [List.length_map]
  exact vaultNewestL_spec x.v (x.xs.map toHI) w h1 (fun y hy => by
    obtain ⟨z, hz, rfl⟩ := List.mem_map.1 hy
    have h3 := items_ok hx z hz
    exact ⟨⟨_, _, rfl⟩, h3.2.row, h3.1, reach_len1 h3.2⟩)
end Go.Proofs.Ytoaenmlhehcjfaa
