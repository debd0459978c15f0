/-
  SetupAdds: texts that its proof needs, part 3.
-/
import Derived.Test.YtpldpkdlloolkaaZSetupAddsb
/-
  Frames with all their fields; two frames that are one: contracts.
-/
namespace Go.Proofs.Ytpldpkdlloolkaa
open Go.J Go.RowKit
set_option linter.unusedVariables false
set_option linter.unusedSimpArgs false
set_option maxRecDepth 8000
structure FV where
  k : Int
  p : PV
  toA : Bool
  a : IDV
  b : IDV
  n : Int
  fi : Int
  fn : Int
  ti : Int
  tn : Int
  tr : List Int
  ids : List IDV
  key : IDV
  vn : Int
  vw : IDV
  val : List UInt8
  op : Int
  ttl : Int
  txt : List UInt8
/-- a frame's slices -/
structure FSl where
  tr : Value
  ids : Value
  val : Value
  txt : Value
abbrev cIt (f : FV) (v : Value) : List Value := cI f.key ++ [iV f.vn] ++ cI f.vw ++ [v]
abbrev cFG (f : FV) (s : FSl) : List Value :=
  iV f.k :: (cP f.p ++ [.bool f.toA] ++ cI f.a ++ cI f.b ++ [iV f.n, iV f.fi, iV f.fn, iV f.ti, iV f.tn, s.tr, s.ids] ++ cIt f s.val ++ [iV f.op, iV f.ttl, s.txt])
structure FRows (w : World) (f : FV) (s : FSl) : Prop where
  tr : Row w s.tr f.tr.length (f.tr.map iV)
  ids : Row w s.ids f.ids.length (f.ids.flatMap cI)
  val : Row w s.val f.val.length (f.val.map u8)
  txt : Row w s.txt f.txt.length (f.txt.map u8)
structure OkF (f : FV) : Prop where
  p : okN f.p.n
  fi : okN f.fi
  fn : okN f.fn
  ti : okN f.ti
  tn : okN f.tn
  vn : okN f.vn
  ltr : f.tr.length < 4611686018427387904
  lids : f.ids.length < 4611686018427387904
end Go.Proofs.Ytpldpkdlloolkaa
/-
  What frame.Of says of any frame: contracts.
-/
namespace Go.Proofs.Ytpldpkdlloolkaa
open Go.J Go.RowKit
set_option linter.unusedVariables false
set_option linter.unusedSimpArgs false
set_option maxRecDepth 8000
/-- a frame's lists fit in memory -/
structure BigF (f : FV) : Prop where
  tr : f.tr.length ≤ 17592186044416
  ids : f.ids.length ≤ 8796093022208
  val : f.val.length ≤ 140737488355328
  txt : f.txt.length ≤ 140737488355328
/-- no Setup -/
def NoSetup (v : Value) : Prop := v = .nilIface ∨ ∃ T x, v = .iface T x ∧ Nat.beq T 107 = false
theorem zIt : zeroT Try.prog 50 = some (.agg (cI zI ++ [iV 0] ++ cI zI ++ [nilV]).toArray) := by kernel_rfl

theorem item_spec (f : FV) (v : Value) (w : World) (h1 : Row w v f.val.length (f.val.map u8)) (hb : f.val.length ≤ 140737488355328) :
    Calls Try.prog 69 [.agg (cIt f v).toArray].toArray w fun r w' => ∃ x : Option Addr × Nat, r = .returned (.agg (cIt f (.slice x.1 f.val.length x.2)).toArray) ∧ True ∧ St w [] [] w' := by
  obtain ⟨av1, cv1, rfl, hcv1, _⟩ := _root_.id h1
  refine calls_of_J (args := [.agg (cIt f (.slice av1 f.val.length cv1)).toArray]) (e := [(0, .agg (cIt f (.slice av1 f.val.length cv1)).toArray)]) Try.func69 rfl rfl ⟨rfl, trivial⟩ (St.start w) ?_
  refine JC.seq (fun K0 hK0 => ?_)
  refine JC.region ?_
  refine J.box rfl rfl rfl (fun b1 => ?_)
  refine J.alloc zIt rfl rfl (fun b2 => ?_)
  refine J.nil ?_
  refine JX.thenN (hK0 _ _ ?_)
  refine JC.seq (fun K1 hK1 => ?_)
  refine JC.region ?_
  refine J.fieldAddr Ty.fd50_2 rfl rfl ?_
  refine J.loadO (v := .slice av1 f.val.length cv1) Ty.a48 rfl (.tail _ (.head _)) rfl rfl ?_
  refine J.append (lp := []) (xs := []) (ys := f.val.map u8) (k := 0) (m := f.val.length) Ty.el48 Ty.s5 Ty.b5 Ty.z5 rfl (.inl ⟨5, Ty.u48⟩) rfl rfl (Vec.nil _ _) (fun w1 hw => .inl (h1.below hw.below)) (by simp) (by simp [Value.oneCell']) (by omega) (by omega) rfl (fun v8n lp8n hv8 => ?_)
  rw [Nat.zero_add, List.nil_append] at hv8
  obtain ⟨a8, c8, rfl, hc8⟩ := hv8.form
  refine J.perm ((b1, cb (cIt f (.slice av1 f.val.length cv1)) 50) :: (b2, cb (cI zI ++ [iV 0] ++ cI zI ++ [nilV]) 50) :: lp8n) (by (refine perm_cnt (fun _ => ?_)); simp only [cntB_append, cntB_cons, cntB_nil, Nat.add_zero, Nat.zero_add]; try ac_rfl) ?_
  refine J.fieldAddr Ty.fd50_2 rfl rfl ?_
  refine J.storeO (cs := cIt f (.slice av1 f.val.length cv1)) (vs := [.slice a8 f.val.length c8]) Ty.s48 rfl rfl rfl rfl (by simp [Value.oneCell']) .here (by simp) ?_
  refine J.perm ((b1, cb (cIt f (.slice a8 f.val.length c8)) 50) :: (b2, cb (cI zI ++ [iV 0] ++ cI zI ++ [nilV]) 50) :: lp8n) (.refl _) ?_
  refine J.nil ?_
  refine JX.thenN (hK1 _ _ ?_)
  refine JC.seq (fun K2 hK2 => ?_)
  refine JC.region ?_
  refine J.loadOA (vs := cIt f (.slice a8 f.val.length c8)) Ty.a50 Ty.s50 rfl (.head _) rfl rfl rfl ?_
  refine J.storeW (cs := cI zI ++ [iV 0] ++ cI zI ++ [nilV]) (vs := cIt f (.slice a8 f.val.length c8)) Ty.s50 rfl rfl rfl rfl rfl (by simp [Value.oneCell']) (.there .here) ?_
  refine J.perm ((b1, cb (cIt f (.slice a8 f.val.length c8)) 50) :: (b2, cb (cIt f (.slice a8 f.val.length c8)) 50) :: lp8n) (.refl _) ?_
  refine J.nil ?_
  refine JX.thenN (hK2 _ _ ?_)
  refine JC.ret ?_
  refine JX.retC rfl rfl Ty.a50 Ty.s50 (vs := cIt f (.slice a8 f.val.length c8)) rfl (fun w1 hw => Cells.of_block (hw.own _ (.tail _ (.head _))) rfl) (fun w1 hw => ?_)
  exact ⟨(a8, c8), rfl, trivial, hw.drop (List.nil_sublist _)⟩

set_option maxHeartbeats 1000000 in
theorem of_1 (f : FV) (s : FSl) (w : World) (hs : FRows w f s) (hg : BigF f) (hk : f.k = 1) :
    Calls Try.prog 55 [.agg (cFG f s).toArray].toArray w fun r w' => ∃ x : Value × Bool, r = .returned (.tuple #[x.1, .bool x.2]) ∧ NoSetup x.1 ∧ St w [] [] w' := by
  obtain ⟨vt1, vi1, vv1, vx1⟩ := s
  obtain ⟨at1, ct1, hh, _, _⟩ := _root_.id hs.tr
  simp only at hh
  subst hh
  obtain ⟨ai1, ci1, hh, _, _⟩ := _root_.id hs.ids
  simp only at hh
  subst hh
  obtain ⟨av1, cv1, hh, _, _⟩ := _root_.id hs.val
  simp only at hh
  subst hh
  obtain ⟨ax1, cx1, hh, _, _⟩ := _root_.id hs.txt
  simp only at hh
  subst hh
  refine calls_of_J (args := [.agg (cFG f ⟨.slice at1 f.tr.length ct1, .slice ai1 f.ids.length ci1, .slice av1 f.val.length cv1, .slice ax1 f.txt.length cx1⟩).toArray]) (e := [(0, .agg (cFG f ⟨.slice at1 f.tr.length ct1, .slice ai1 f.ids.length ci1, .slice av1 f.val.length cv1, .slice ax1 f.txt.length cx1⟩).toArray)]) Try.func55 rfl rfl ⟨rfl, trivial⟩ (St.start w) ?_
  refine JC.seq (fun K0 hK0 => ?_)
  refine JC.region ?_
  refine J.box rfl rfl rfl (fun b1 => ?_)
  refine J.assign rfl rfl ?_
  refine J.assign rfl rfl ?_
  refine J.nil ?_
  refine JX.thenN (hK0 _ _ ?_)
  refine JC.seq (fun K1 hK1 => ?_)
  refine JC.seq (fun K2 hK2 => ?_)
  refine JC.region ?_
  refine J.fieldAddr Ty.fd52_0 rfl rfl ?_
  refine J.loadO Ty.a3 rfl (by repeat first | exact .head _ | apply List.Mem.tail | apply List.mem_append_right) (by exact rfl) rfl ?_
  refine J.nil ?_
  refine JX.thenN (hK2 _ _ ?_)
  refine JC.block ?_
  refine JC.seq (fun K3 hK3 => ?_)
  refine JC.region ?_
  refine J.bin rfl rfl rfl rfl ?_
  refine J.name 7 rfl (show Value.bool _ = .bool true by simp; omega) ?_
  refine J.assign rfl rfl ?_
  refine J.nil ?_
  refine JX.thenN (hK3 _ _ ?_)
  first | refine JC.condT rfl ?_ | refine JC.cond rfl (fun _ => ?_) (fun h => by first | (exfalso; simp at h; omega) | (simp at h))
  refine JC.seq (fun K4 hK4 => ?_)
  refine JC.region ?_
  refine J.fieldAddr Ty.fd52_6 rfl rfl ?_
  refine J.loadOA (vs := [iV f.fi, iV f.fn]) Ty.a44 Ty.s44 rfl (.head _) rfl rfl rfl ?_
  refine J.fieldAddr Ty.fd52_7 rfl rfl ?_
  refine J.loadOA (vs := [iV f.ti, iV f.tn]) Ty.a44 Ty.s44 rfl (.head _) rfl rfl rfl ?_
  refine J.fieldAddr Ty.fd52_3 rfl rfl ?_
  refine J.loadOA (vs := cI f.a) Ty.a23 Ty.s23 rfl (.head _) rfl rfl rfl ?_
  refine J.buildS (cs := [iV f.fi, iV f.fn] ++ [iV f.ti, iV f.tn] ++ cI f.a) Ty.pl122 Ty.z122 rfl (by kernel_rfl) rfl ?_
  refine J.iface (by kernel_rfl) rfl rfl ?_
  refine J.assign rfl rfl ?_
  refine J.assign rfl rfl ?_
  refine J.nil ?_
  refine JX.thenN (hK4 _ _ ?_)
  refine JC.ret ?_
  refine JX.blockR ?_
  refine JX.thenR ?_
  refine JX.ret2 rfl rfl rfl (fun w hw => ?_)
  exact ⟨(_, _), rfl, .inr ⟨_, _, rfl, rfl⟩, hw.drop (List.nil_sublist _)⟩

set_option maxHeartbeats 1000000 in
theorem of_2 (f : FV) (s : FSl) (w : World) (hs : FRows w f s) (hg : BigF f) (hk : f.k = 2) :
    Calls Try.prog 55 [.agg (cFG f s).toArray].toArray w fun r w' => ∃ x : Value × Bool, r = .returned (.tuple #[x.1, .bool x.2]) ∧ NoSetup x.1 ∧ St w [] [] w' := by
  obtain ⟨vt1, vi1, vv1, vx1⟩ := s
  obtain ⟨at1, ct1, hh, _, _⟩ := _root_.id hs.tr
  simp only at hh
  subst hh
  obtain ⟨ai1, ci1, hh, _, _⟩ := _root_.id hs.ids
  simp only at hh
  subst hh
  obtain ⟨av1, cv1, hh, _, _⟩ := _root_.id hs.val
  simp only at hh
  subst hh
  obtain ⟨ax1, cx1, hh, _, _⟩ := _root_.id hs.txt
  simp only at hh
  subst hh
  refine calls_of_J (args := [.agg (cFG f ⟨.slice at1 f.tr.length ct1, .slice ai1 f.ids.length ci1, .slice av1 f.val.length cv1, .slice ax1 f.txt.length cx1⟩).toArray]) (e := [(0, .agg (cFG f ⟨.slice at1 f.tr.length ct1, .slice ai1 f.ids.length ci1, .slice av1 f.val.length cv1, .slice ax1 f.txt.length cx1⟩).toArray)]) Try.func55 rfl rfl ⟨rfl, trivial⟩ (St.start w) ?_
  refine JC.seq (fun K0 hK0 => ?_)
  refine JC.region ?_
  refine J.box rfl rfl rfl (fun b1 => ?_)
  refine J.assign rfl rfl ?_
  refine J.assign rfl rfl ?_
  refine J.nil ?_
  refine JX.thenN (hK0 _ _ ?_)
  refine JC.seq (fun K1 hK1 => ?_)
  refine JC.seq (fun K2 hK2 => ?_)
  refine JC.region ?_
  refine J.fieldAddr Ty.fd52_0 rfl rfl ?_
  refine J.loadO Ty.a3 rfl (by repeat first | exact .head _ | apply List.Mem.tail | apply List.mem_append_right) (by exact rfl) rfl ?_
  refine J.nil ?_
  refine JX.thenN (hK2 _ _ ?_)
  refine JC.block ?_
  refine JC.seq (fun K3 hK3 => ?_)
  refine JC.region ?_
  refine J.bin rfl rfl rfl rfl ?_
  refine J.name 7 rfl (show Value.bool _ = .bool false by simp; omega) ?_
  refine J.assign rfl rfl ?_
  refine J.nil ?_
  refine JX.thenN (hK3 _ _ ?_)
  first | refine JC.condF rfl ?_ | refine JC.cond rfl (fun h => by first | (exfalso; simp at h; omega) | (simp at h)) (fun _ => ?_)
  refine JC.seq (fun K4 hK4 => ?_)
  refine JC.region ?_
  refine J.bin rfl rfl rfl rfl ?_
  refine J.name 17 rfl (show Value.bool _ = .bool true by simp; omega) ?_
  refine J.assign rfl rfl ?_
  refine J.nil ?_
  refine JX.thenN (hK4 _ _ ?_)
  first | refine JC.condT rfl ?_ | refine JC.cond rfl (fun _ => ?_) (fun h => by first | (exfalso; simp at h; omega) | (simp at h))
  refine JC.seq (fun K5 hK5 => ?_)
  apply JC.drawX (α := Option Addr × Nat) 11 (fun x => match x with | ⟨a8, c8⟩ => [.pointer (some ⟨b1, 0 + 52, none⟩), .agg ([iV f.fi, iV f.fn]).toArray, .pointer (some ⟨b1, 0 + 54, none⟩), .agg ([iV f.ti, iV f.tn]).toArray, .pointer (some ⟨b1, 0 + 51, none⟩), iV f.n, .pointer (some ⟨b1, 0 + 94, none⟩), .slice ax1 f.txt.length cx1, .slice a8 f.txt.length c8, .agg ([iV f.fi, iV f.fn] ++ [iV f.ti, iV f.tn] ++ ([iV f.n] : List Value) ++ ([.slice a8 f.txt.length c8] : List Value)).toArray, .iface 124 (.agg ([iV f.fi, iV f.fn] ++ [iV f.ti, iV f.tn] ++ ([iV f.n] : List Value) ++ ([.slice a8 f.txt.length c8] : List Value)).toArray)]) (fun m x => match x with | ⟨a8, c8⟩ => fun w1 => ((m 9 = true → m 8 = true) ∧ (m 10 = true → m 8 = true)) ∧ St w [] ((b1, cb (cFG f ⟨.slice at1 f.tr.length ct1, .slice ai1 f.ids.length ci1, .slice av1 f.val.length cv1, .slice ax1 f.txt.length cx1⟩) 52) :: []) w1) Ty.mixed rfl rfl rfl (by kernel_rfl) rfl rfl ?hinit ?hstep ?htail
  case hinit => exact fun w1 hw => ⟨(none, 0), ⟨fun h => (by cases h), fun h => (by cases h)⟩, hw.drew⟩
  case hstep =>
    refine ⟨fun m x hm hp => ?_, fun m x hm hp => ?_, fun m x hm hp => ?_, fun m x hm hp => ?_, fun m x hm hp => ?_, fun m x hm hp => ?_, fun m x hm hp => ?_, fun m x hm hp => ?_, fun m x hm hp => ?_, fun m x hm hp => ?_, fun m x hm hp => ?_, trivial⟩
    · skip
      obtain ⟨a8, c8⟩ := x
      show J _ _ _ _ _ (_) _
      refine J.pr (fun hF => ?_)
      refine J.fieldAddr Ty.fd52_6 rfl rfl ?_
      exact J.finX rfl (fun _ hw => ⟨⟨a8, c8⟩, rfl, fun _ _ _ => rfl, hF, hw⟩)
    · skip
      obtain ⟨a8, c8⟩ := x
      show J _ _ _ _ _ ((18, .pointer (some ⟨b1, 0 + 52, none⟩)) :: _) _
      refine J.pr (fun hF => ?_)
      refine J.loadOA (vs := [iV f.fi, iV f.fn]) Ty.a44 Ty.s44 rfl (.head _) rfl rfl rfl ?_
      exact J.finX rfl (fun _ hw => ⟨⟨a8, c8⟩, rfl, fun _ _ _ => rfl, hF, hw⟩)
    · skip
      obtain ⟨a8, c8⟩ := x
      show J _ _ _ _ _ (_) _
      refine J.pr (fun hF => ?_)
      refine J.fieldAddr Ty.fd52_7 rfl rfl ?_
      exact J.finX rfl (fun _ hw => ⟨⟨a8, c8⟩, rfl, fun _ _ _ => rfl, hF, hw⟩)
    · skip
      obtain ⟨a8, c8⟩ := x
      show J _ _ _ _ _ ((20, .pointer (some ⟨b1, 0 + 54, none⟩)) :: _) _
      refine J.pr (fun hF => ?_)
      refine J.loadOA (vs := [iV f.ti, iV f.tn]) Ty.a44 Ty.s44 rfl (.head _) rfl rfl rfl ?_
      exact J.finX rfl (fun _ hw => ⟨⟨a8, c8⟩, rfl, fun _ _ _ => rfl, hF, hw⟩)
    · skip
      obtain ⟨a8, c8⟩ := x
      show J _ _ _ _ _ (_) _
      refine J.pr (fun hF => ?_)
      refine J.fieldAddr Ty.fd52_5 rfl rfl ?_
      exact J.finX rfl (fun _ hw => ⟨⟨a8, c8⟩, rfl, fun _ _ _ => rfl, hF, hw⟩)
    · skip
      obtain ⟨a8, c8⟩ := x
      show J _ _ _ _ _ ((22, .pointer (some ⟨b1, 0 + 51, none⟩)) :: _) _
      refine J.pr (fun hF => ?_)
      refine J.loadO (v := iV f.n) Ty.a2 rfl (.head _) rfl rfl ?_
      exact J.finX rfl (fun _ hw => ⟨⟨a8, c8⟩, rfl, fun _ _ _ => rfl, hF, hw⟩)
    · skip
      obtain ⟨a8, c8⟩ := x
      show J _ _ _ _ _ (_) _
      refine J.pr (fun hF => ?_)
      refine J.fieldAddr Ty.fd52_13 rfl rfl ?_
      exact J.finX rfl (fun _ hw => ⟨⟨a8, c8⟩, rfl, fun _ _ _ => rfl, hF, hw⟩)
    · skip
      obtain ⟨a8, c8⟩ := x
      show J _ _ _ _ _ ((24, .pointer (some ⟨b1, 0 + 94, none⟩)) :: _) _
      refine J.pr (fun hF => ?_)
      refine J.loadO (v := .slice ax1 f.txt.length cx1) Ty.a48 rfl (.head _) rfl rfl ?_
      exact J.finX rfl (fun _ hw => ⟨⟨a8, c8⟩, rfl, fun _ _ _ => rfl, hF, hw⟩)
    · skip
      obtain ⟨a8, c8⟩ := x
      show J _ _ _ _ _ ((25, .slice ax1 f.txt.length cx1) :: _) _
      refine J.pr (fun hF => ?_)
      have hbd := hg.txt
      refine J.append (lp := []) (xs := []) (ys := f.txt.map u8) (k := 0) (m := f.txt.length) Ty.el48 Ty.s5 Ty.b5 Ty.z5 rfl (.inl ⟨5, Ty.u48⟩) rfl rfl (Vec.nil _ _) (fun w1 hw => .inl (hs.txt.below hw.below)) (by simp) (by simp [Value.oneCell']) (by omega) (by omega) rfl (fun v8n lp8n hv8 => ?_)
      rw [Nat.zero_add, List.nil_append] at hv8
      obtain ⟨a8n, c8n, rfl, _⟩ := hv8.form
      refine J.conseq (I' := St w [] ((b1, cb (cFG f ⟨.slice at1 f.tr.length ct1, .slice ai1 f.ids.length ci1, .slice av1 f.val.length cv1, .slice ax1 f.txt.length cx1⟩) 52) :: [])) ?_ (fun w1 hw => hw.drop (List.sublist_append_right _ _))
      refine J.nil (JX.finB rfl (fun w1 hw => ⟨⟨⟨a8n, c8n⟩, rfl, fun j h1 h2 => ?_, ?_⟩, trivial⟩))
      · match j, h1 with
        | 0, _ => (first | rfl | trivial)
        | 1, _ => (first | rfl | trivial)
        | 2, _ => (first | rfl | trivial)
        | 3, _ => (first | rfl | trivial)
        | 4, _ => (first | rfl | trivial)
        | 5, _ => (first | rfl | trivial)
        | 6, _ => (first | rfl | trivial)
        | 7, _ => (first | rfl | trivial)
        | 8, _ => exact absurd (h2.symm.trans hm) (by decide)
        | 9, _ => exact absurd ((hF.1 h2).symm.trans hm) (by decide)
        | 10, _ => exact absurd ((hF.2 h2).symm.trans hm) (by decide)
        | j + 11, h1 => omega
      show ((m 9 = true → true = true) ∧ (m 10 = true → true = true)) ∧ St w [] ((b1, cb (cFG f ⟨.slice at1 f.tr.length ct1, .slice ai1 f.ids.length ci1, .slice av1 f.val.length cv1, .slice ax1 f.txt.length cx1⟩) 52) :: []) w1
      exact ⟨⟨fun _ => (by first | trivial | rfl), fun _ => (by first | trivial | rfl)⟩, hw⟩
    · skip
      obtain ⟨a8, c8⟩ := x
      show J _ _ _ _ _ ((26, .slice a8 f.txt.length c8) :: (23, iV f.n) :: (21, .agg ([iV f.ti, iV f.tn]).toArray) :: (19, .agg ([iV f.fi, iV f.fn]).toArray) :: _) _
      have hp8 : m 8 = true := predsT hp (by kernel_rfl)
      refine J.pr (fun hF => ?_)
      refine J.buildS (cs := [iV f.fi, iV f.fn] ++ [iV f.ti, iV f.tn] ++ ([iV f.n] : List Value) ++ ([.slice a8 f.txt.length c8] : List Value)) Ty.pl124 Ty.z124 rfl (by kernel_rfl) rfl ?_
      refine J.nil (JX.finB rfl (fun w1 hw => ⟨⟨⟨a8, c8⟩, rfl, fun j h1 h2 => ?_, ?_⟩, trivial⟩))
      · match j, h1 with
        | 0, _ => (first | rfl | trivial)
        | 1, _ => (first | rfl | trivial)
        | 2, _ => (first | rfl | trivial)
        | 3, _ => (first | rfl | trivial)
        | 4, _ => (first | rfl | trivial)
        | 5, _ => (first | rfl | trivial)
        | 6, _ => (first | rfl | trivial)
        | 7, _ => (first | rfl | trivial)
        | 8, _ => (first | rfl | trivial)
        | 9, _ => (first | rfl | trivial)
        | 10, _ => (first | rfl | trivial)
        | j + 11, h1 => omega
      show ((true = true → m 8 = true) ∧ (m 10 = true → m 8 = true)) ∧ St w [] ((b1, cb (cFG f ⟨.slice at1 f.tr.length ct1, .slice ai1 f.ids.length ci1, .slice av1 f.val.length cv1, .slice ax1 f.txt.length cx1⟩) 52) :: []) w1
      exact ⟨⟨fun _ => hp8, hF.2⟩, hw⟩
    · skip
      obtain ⟨a8, c8⟩ := x
      show J _ _ _ _ _ ((27, .agg ([iV f.fi, iV f.fn] ++ [iV f.ti, iV f.tn] ++ ([iV f.n] : List Value) ++ ([.slice a8 f.txt.length c8] : List Value)).toArray) :: _) _
      have hp9 : m 9 = true := predsT hp (by kernel_rfl)
      refine J.pr (fun hF => ?_)
      refine J.iface (by kernel_rfl) rfl rfl ?_
      refine J.nil (JX.finB rfl (fun w1 hw => ⟨⟨⟨a8, c8⟩, rfl, fun j h1 h2 => ?_, ?_⟩, trivial⟩))
      · match j, h1 with
        | 0, _ => (first | rfl | trivial)
        | 1, _ => (first | rfl | trivial)
        | 2, _ => (first | rfl | trivial)
        | 3, _ => (first | rfl | trivial)
        | 4, _ => (first | rfl | trivial)
        | 5, _ => (first | rfl | trivial)
        | 6, _ => (first | rfl | trivial)
        | 7, _ => (first | rfl | trivial)
        | 8, _ => (first | rfl | trivial)
        | 9, _ => (first | rfl | trivial)
        | 10, _ => (first | rfl | trivial)
        | j + 11, h1 => omega
      show ((m 9 = true → m 8 = true) ∧ (true = true → m 8 = true)) ∧ St w [] ((b1, cb (cFG f ⟨.slice at1 f.tr.length ct1, .slice ai1 f.ids.length ci1, .slice av1 f.val.length cv1, .slice ax1 f.txt.length cx1⟩) 52) :: []) w1
      exact ⟨⟨hF.1, fun _ => hF.1 hp9⟩, hw⟩
  case htail =>
    intro x
    obtain ⟨a8, c8⟩ := x
    show J _ _ _ _ _ ((28, .iface 124 (.agg ([iV f.fi, iV f.fn] ++ [iV f.ti, iV f.tn] ++ ([iV f.n] : List Value) ++ ([.slice a8 f.txt.length c8] : List Value)).toArray)) :: (27, .agg ([iV f.fi, iV f.fn] ++ [iV f.ti, iV f.tn] ++ ([iV f.n] : List Value) ++ ([.slice a8 f.txt.length c8] : List Value)).toArray) :: (26, .slice a8 f.txt.length c8) :: (25, .slice ax1 f.txt.length cx1) :: (24, .pointer (some ⟨b1, 0 + 94, none⟩)) :: (23, iV f.n) :: (22, .pointer (some ⟨b1, 0 + 51, none⟩)) :: (21, .agg ([iV f.ti, iV f.tn]).toArray) :: (20, .pointer (some ⟨b1, 0 + 54, none⟩)) :: (19, .agg ([iV f.fi, iV f.fn]).toArray) :: (18, .pointer (some ⟨b1, 0 + 52, none⟩)) :: _) (fun w1 => ((true = true → true = true) ∧ (true = true → true = true)) ∧ St w [] ((b1, cb (cFG f ⟨.slice at1 f.tr.length ct1, .slice ai1 f.ids.length ci1, .slice av1 f.val.length cv1, .slice ax1 f.txt.length cx1⟩) 52) :: []) w1)
    refine J.pr (fun hF => ?_)
    refine J.assign rfl rfl ?_
    refine J.assign rfl rfl ?_
    refine J.nil ?_
    refine JX.thenN (hK5 _ _ ?_)
    refine JC.ret ?_
    refine JX.blockR ?_
    refine JX.thenR ?_
    refine JX.ret2 rfl rfl rfl (fun w hw => ?_)
    exact ⟨(_, _), rfl, .inr ⟨_, _, rfl, rfl⟩, hw.drop (List.nil_sublist _)⟩

set_option maxHeartbeats 1000000 in
theorem of_3 (f : FV) (s : FSl) (w : World) (hs : FRows w f s) (hg : BigF f) (hk : f.k = 3) :
    Calls Try.prog 55 [.agg (cFG f s).toArray].toArray w fun r w' => ∃ x : Value × Bool, r = .returned (.tuple #[x.1, .bool x.2]) ∧ NoSetup x.1 ∧ St w [] [] w' := by
  obtain ⟨vt1, vi1, vv1, vx1⟩ := s
  obtain ⟨at1, ct1, hh, _, _⟩ := _root_.id hs.tr
  simp only at hh
  subst hh
  obtain ⟨ai1, ci1, hh, _, _⟩ := _root_.id hs.ids
  simp only at hh
  subst hh
  obtain ⟨av1, cv1, hh, _, _⟩ := _root_.id hs.val
  simp only at hh
  subst hh
  obtain ⟨ax1, cx1, hh, _, _⟩ := _root_.id hs.txt
  simp only at hh
  subst hh
  refine calls_of_J (args := [.agg (cFG f ⟨.slice at1 f.tr.length ct1, .slice ai1 f.ids.length ci1, .slice av1 f.val.length cv1, .slice ax1 f.txt.length cx1⟩).toArray]) (e := [(0, .agg (cFG f ⟨.slice at1 f.tr.length ct1, .slice ai1 f.ids.length ci1, .slice av1 f.val.length cv1, .slice ax1 f.txt.length cx1⟩).toArray)]) Try.func55 rfl rfl ⟨rfl, trivial⟩ (St.start w) ?_
  refine JC.seq (fun K0 hK0 => ?_)
  refine JC.region ?_
  refine J.box rfl rfl rfl (fun b1 => ?_)
  refine J.assign rfl rfl ?_
  refine J.assign rfl rfl ?_
  refine J.nil ?_
  refine JX.thenN (hK0 _ _ ?_)
  refine JC.seq (fun K1 hK1 => ?_)
  refine JC.seq (fun K2 hK2 => ?_)
  refine JC.region ?_
  refine J.fieldAddr Ty.fd52_0 rfl rfl ?_
  refine J.loadO Ty.a3 rfl (by repeat first | exact .head _ | apply List.Mem.tail | apply List.mem_append_right) (by exact rfl) rfl ?_
  refine J.nil ?_
  refine JX.thenN (hK2 _ _ ?_)
  refine JC.block ?_
  refine JC.seq (fun K3 hK3 => ?_)
  refine JC.region ?_
  refine J.bin rfl rfl rfl rfl ?_
  refine J.name 7 rfl (show Value.bool _ = .bool false by simp; omega) ?_
  refine J.assign rfl rfl ?_
  refine J.nil ?_
  refine JX.thenN (hK3 _ _ ?_)
  first | refine JC.condF rfl ?_ | refine JC.cond rfl (fun h => by first | (exfalso; simp at h; omega) | (simp at h)) (fun _ => ?_)
  refine JC.seq (fun K4 hK4 => ?_)
  refine JC.region ?_
  refine J.bin rfl rfl rfl rfl ?_
  refine J.name 17 rfl (show Value.bool _ = .bool false by simp; omega) ?_
  refine J.assign rfl rfl ?_
  refine J.nil ?_
  refine JX.thenN (hK4 _ _ ?_)
  first | refine JC.condF rfl ?_ | refine JC.cond rfl (fun h => by first | (exfalso; simp at h; omega) | (simp at h)) (fun _ => ?_)
  refine JC.seq (fun K5 hK5 => ?_)
  refine JC.region ?_
  refine J.bin rfl rfl rfl rfl ?_
  refine J.name 30 rfl (show Value.bool _ = .bool true by simp; omega) ?_
  refine J.assign rfl rfl ?_
  refine J.nil ?_
  refine JX.thenN (hK5 _ _ ?_)
  first | refine JC.condT rfl ?_ | refine JC.cond rfl (fun _ => ?_) (fun h => by first | (exfalso; simp at h; omega) | (simp at h))
  refine JC.seq (fun K6 hK6 => ?_)
  refine JC.region ?_
  refine J.fieldAddr Ty.fd52_6 rfl rfl ?_
  refine J.loadOA (vs := [iV f.fi, iV f.fn]) Ty.a44 Ty.s44 rfl (.head _) rfl rfl rfl ?_
  refine J.fieldAddr Ty.fd52_7 rfl rfl ?_
  refine J.loadOA (vs := [iV f.ti, iV f.tn]) Ty.a44 Ty.s44 rfl (.head _) rfl rfl rfl ?_
  refine J.fieldAddr Ty.fd52_5 rfl rfl ?_
  refine J.loadO (v := iV f.n) Ty.a2 rfl (.head _) rfl rfl ?_
  refine J.buildS (cs := [iV f.fi, iV f.fn] ++ [iV f.ti, iV f.tn] ++ ([iV f.n] : List Value)) Ty.pl126 Ty.z126 rfl (by kernel_rfl) rfl ?_
  refine J.iface (by kernel_rfl) rfl rfl ?_
  refine J.assign rfl rfl ?_
  refine J.assign rfl rfl ?_
  refine J.nil ?_
  refine JX.thenN (hK6 _ _ ?_)
  refine JC.ret ?_
  refine JX.blockR ?_
  refine JX.thenR ?_
  refine JX.ret2 rfl rfl rfl (fun w hw => ?_)
  exact ⟨(_, _), rfl, .inr ⟨_, _, rfl, rfl⟩, hw.drop (List.nil_sublist _)⟩

set_option maxHeartbeats 1000000 in
theorem of_5 (f : FV) (s : FSl) (w : World) (hs : FRows w f s) (hg : BigF f) (hk : f.k = 5) :
    Calls Try.prog 55 [.agg (cFG f s).toArray].toArray w fun r w' => ∃ x : Value × Bool, r = .returned (.tuple #[x.1, .bool x.2]) ∧ NoSetup x.1 ∧ St w [] [] w' := by
  obtain ⟨vt1, vi1, vv1, vx1⟩ := s
  obtain ⟨at1, ct1, hh, _, _⟩ := _root_.id hs.tr
  simp only at hh
  subst hh
  obtain ⟨ai1, ci1, hh, _, _⟩ := _root_.id hs.ids
  simp only at hh
  subst hh
  obtain ⟨av1, cv1, hh, _, _⟩ := _root_.id hs.val
  simp only at hh
  subst hh
  obtain ⟨ax1, cx1, hh, _, _⟩ := _root_.id hs.txt
  simp only at hh
  subst hh
  refine calls_of_J (args := [.agg (cFG f ⟨.slice at1 f.tr.length ct1, .slice ai1 f.ids.length ci1, .slice av1 f.val.length cv1, .slice ax1 f.txt.length cx1⟩).toArray]) (e := [(0, .agg (cFG f ⟨.slice at1 f.tr.length ct1, .slice ai1 f.ids.length ci1, .slice av1 f.val.length cv1, .slice ax1 f.txt.length cx1⟩).toArray)]) Try.func55 rfl rfl ⟨rfl, trivial⟩ (St.start w) ?_
  refine JC.seq (fun K0 hK0 => ?_)
  refine JC.region ?_
  refine J.box rfl rfl rfl (fun b1 => ?_)
  refine J.assign rfl rfl ?_
  refine J.assign rfl rfl ?_
  refine J.nil ?_
  refine JX.thenN (hK0 _ _ ?_)
  refine JC.seq (fun K1 hK1 => ?_)
  refine JC.seq (fun K2 hK2 => ?_)
  refine JC.region ?_
  refine J.fieldAddr Ty.fd52_0 rfl rfl ?_
  refine J.loadO Ty.a3 rfl (by repeat first | exact .head _ | apply List.Mem.tail | apply List.mem_append_right) (by exact rfl) rfl ?_
  refine J.nil ?_
  refine JX.thenN (hK2 _ _ ?_)
  refine JC.block ?_
  refine JC.seq (fun K3 hK3 => ?_)
  refine JC.region ?_
  refine J.bin rfl rfl rfl rfl ?_
  refine J.name 7 rfl (show Value.bool _ = .bool false by simp; omega) ?_
  refine J.assign rfl rfl ?_
  refine J.nil ?_
  refine JX.thenN (hK3 _ _ ?_)
  first | refine JC.condF rfl ?_ | refine JC.cond rfl (fun h => by first | (exfalso; simp at h; omega) | (simp at h)) (fun _ => ?_)
  refine JC.seq (fun K4 hK4 => ?_)
  refine JC.region ?_
  refine J.bin rfl rfl rfl rfl ?_
  refine J.name 17 rfl (show Value.bool _ = .bool false by simp; omega) ?_
  refine J.assign rfl rfl ?_
  refine J.nil ?_
  refine JX.thenN (hK4 _ _ ?_)
  first | refine JC.condF rfl ?_ | refine JC.cond rfl (fun h => by first | (exfalso; simp at h; omega) | (simp at h)) (fun _ => ?_)
  refine JC.seq (fun K5 hK5 => ?_)
  refine JC.region ?_
  refine J.bin rfl rfl rfl rfl ?_
  refine J.name 30 rfl (show Value.bool _ = .bool false by simp; omega) ?_
  refine J.assign rfl rfl ?_
  refine J.nil ?_
  refine JX.thenN (hK5 _ _ ?_)
  first | refine JC.condF rfl ?_ | refine JC.cond rfl (fun h => by first | (exfalso; simp at h; omega) | (simp at h)) (fun _ => ?_)
  refine JC.seq (fun K6 hK6 => ?_)
  refine JC.region ?_
  refine J.bin rfl rfl rfl rfl ?_
  refine J.name 40 rfl (show Value.bool _ = .bool false by simp; omega) ?_
  refine J.assign rfl rfl ?_
  refine J.nil ?_
  refine JX.thenN (hK6 _ _ ?_)
  first | refine JC.condF rfl ?_ | refine JC.cond rfl (fun h => by first | (exfalso; simp at h; omega) | (simp at h)) (fun _ => ?_)
  refine JC.seq (fun K7 hK7 => ?_)
  refine JC.region ?_
  refine J.bin rfl rfl rfl rfl ?_
  refine J.name 53 rfl (show Value.bool _ = .bool true by simp; omega) ?_
  refine J.assign rfl rfl ?_
  refine J.nil ?_
  refine JX.thenN (hK7 _ _ ?_)
  first | refine JC.condT rfl ?_ | refine JC.cond rfl (fun _ => ?_) (fun h => by first | (exfalso; simp at h; omega) | (simp at h))
  refine JC.seq (fun K8 hK8 => ?_)
  refine JC.region ?_
  refine J.fieldAddr Ty.fd52_1 rfl rfl ?_
  refine J.loadOA (vs := cP f.p) Ty.a25 Ty.s25 rfl (.head _) rfl rfl rfl ?_
  refine J.buildS (cs := cP f.p) Ty.pl114 Ty.z114 rfl (by kernel_rfl) rfl ?_
  refine J.iface (by kernel_rfl) rfl rfl ?_
  refine J.assign rfl rfl ?_
  refine J.assign rfl rfl ?_
  refine J.nil ?_
  refine JX.thenN (hK8 _ _ ?_)
  refine JC.ret ?_
  refine JX.blockR ?_
  refine JX.thenR ?_
  refine JX.ret2 rfl rfl rfl (fun w hw => ?_)
  exact ⟨(_, _), rfl, .inr ⟨_, _, rfl, rfl⟩, hw.drop (List.nil_sublist _)⟩

set_option maxHeartbeats 1000000 in
theorem of_6 (f : FV) (s : FSl) (w : World) (hs : FRows w f s) (hg : BigF f) (hk : f.k = 6) :
    Calls Try.prog 55 [.agg (cFG f s).toArray].toArray w fun r w' => ∃ x : Value × Bool, r = .returned (.tuple #[x.1, .bool x.2]) ∧ NoSetup x.1 ∧ St w [] [] w' := by
  obtain ⟨vt1, vi1, vv1, vx1⟩ := s
  obtain ⟨at1, ct1, hh, _, _⟩ := _root_.id hs.tr
  simp only at hh
  subst hh
  obtain ⟨ai1, ci1, hh, _, _⟩ := _root_.id hs.ids
  simp only at hh
  subst hh
  obtain ⟨av1, cv1, hh, _, _⟩ := _root_.id hs.val
  simp only at hh
  subst hh
  obtain ⟨ax1, cx1, hh, _, _⟩ := _root_.id hs.txt
  simp only at hh
  subst hh
  refine calls_of_J (args := [.agg (cFG f ⟨.slice at1 f.tr.length ct1, .slice ai1 f.ids.length ci1, .slice av1 f.val.length cv1, .slice ax1 f.txt.length cx1⟩).toArray]) (e := [(0, .agg (cFG f ⟨.slice at1 f.tr.length ct1, .slice ai1 f.ids.length ci1, .slice av1 f.val.length cv1, .slice ax1 f.txt.length cx1⟩).toArray)]) Try.func55 rfl rfl ⟨rfl, trivial⟩ (St.start w) ?_
  refine JC.seq (fun K0 hK0 => ?_)
  refine JC.region ?_
  refine J.box rfl rfl rfl (fun b1 => ?_)
  refine J.assign rfl rfl ?_
  refine J.assign rfl rfl ?_
  refine J.nil ?_
  refine JX.thenN (hK0 _ _ ?_)
  refine JC.seq (fun K1 hK1 => ?_)
  refine JC.seq (fun K2 hK2 => ?_)
  refine JC.region ?_
  refine J.fieldAddr Ty.fd52_0 rfl rfl ?_
  refine J.loadO Ty.a3 rfl (by repeat first | exact .head _ | apply List.Mem.tail | apply List.mem_append_right) (by exact rfl) rfl ?_
  refine J.nil ?_
  refine JX.thenN (hK2 _ _ ?_)
  refine JC.block ?_
  refine JC.seq (fun K3 hK3 => ?_)
  refine JC.region ?_
  refine J.bin rfl rfl rfl rfl ?_
  refine J.name 7 rfl (show Value.bool _ = .bool false by simp; omega) ?_
  refine J.assign rfl rfl ?_
  refine J.nil ?_
  refine JX.thenN (hK3 _ _ ?_)
  first | refine JC.condF rfl ?_ | refine JC.cond rfl (fun h => by first | (exfalso; simp at h; omega) | (simp at h)) (fun _ => ?_)
  refine JC.seq (fun K4 hK4 => ?_)
  refine JC.region ?_
  refine J.bin rfl rfl rfl rfl ?_
  refine J.name 17 rfl (show Value.bool _ = .bool false by simp; omega) ?_
  refine J.assign rfl rfl ?_
  refine J.nil ?_
  refine JX.thenN (hK4 _ _ ?_)
  first | refine JC.condF rfl ?_ | refine JC.cond rfl (fun h => by first | (exfalso; simp at h; omega) | (simp at h)) (fun _ => ?_)
  refine JC.seq (fun K5 hK5 => ?_)
  refine JC.region ?_
  refine J.bin rfl rfl rfl rfl ?_
  refine J.name 30 rfl (show Value.bool _ = .bool false by simp; omega) ?_
  refine J.assign rfl rfl ?_
  refine J.nil ?_
  refine JX.thenN (hK5 _ _ ?_)
  first | refine JC.condF rfl ?_ | refine JC.cond rfl (fun h => by first | (exfalso; simp at h; omega) | (simp at h)) (fun _ => ?_)
  refine JC.seq (fun K6 hK6 => ?_)
  refine JC.region ?_
  refine J.bin rfl rfl rfl rfl ?_
  refine J.name 40 rfl (show Value.bool _ = .bool false by simp; omega) ?_
  refine J.assign rfl rfl ?_
  refine J.nil ?_
  refine JX.thenN (hK6 _ _ ?_)
  first | refine JC.condF rfl ?_ | refine JC.cond rfl (fun h => by first | (exfalso; simp at h; omega) | (simp at h)) (fun _ => ?_)
  refine JC.seq (fun K7 hK7 => ?_)
  refine JC.region ?_
  refine J.bin rfl rfl rfl rfl ?_
  refine J.name 53 rfl (show Value.bool _ = .bool false by simp; omega) ?_
  refine J.assign rfl rfl ?_
  refine J.nil ?_
  refine JX.thenN (hK7 _ _ ?_)
  first | refine JC.condF rfl ?_ | refine JC.cond rfl (fun h => by first | (exfalso; simp at h; omega) | (simp at h)) (fun _ => ?_)
  refine JC.seq (fun K8 hK8 => ?_)
  refine JC.region ?_
  refine J.bin rfl rfl rfl rfl ?_
  refine J.name 59 rfl (show Value.bool _ = .bool true by simp; omega) ?_
  refine J.assign rfl rfl ?_
  refine J.nil ?_
  refine JX.thenN (hK8 _ _ ?_)
  first | refine JC.condT rfl ?_ | refine JC.cond rfl (fun _ => ?_) (fun h => by first | (exfalso; simp at h; omega) | (simp at h))
  refine JC.seq (fun K9 hK9 => ?_)
  refine JC.region ?_
  refine J.fieldAddr Ty.fd52_1 rfl rfl ?_
  refine J.loadOA (vs := cP f.p) Ty.a25 Ty.s25 rfl (.head _) rfl rfl rfl ?_
  refine J.fieldAddr Ty.fd52_2 rfl rfl ?_
  refine J.loadO (v := .bool f.toA) Ty.a4 rfl (.head _) rfl rfl ?_
  refine J.buildS (cs := cP f.p ++ ([.bool f.toA] : List Value)) Ty.pl128 Ty.z128 rfl (by kernel_rfl) rfl ?_
  refine J.iface (by kernel_rfl) rfl rfl ?_
  refine J.assign rfl rfl ?_
  refine J.assign rfl rfl ?_
  refine J.nil ?_
  refine JX.thenN (hK9 _ _ ?_)
  refine JC.ret ?_
  refine JX.blockR ?_
  refine JX.thenR ?_
  refine JX.ret2 rfl rfl rfl (fun w hw => ?_)
  exact ⟨(_, _), rfl, .inr ⟨_, _, rfl, rfl⟩, hw.drop (List.nil_sublist _)⟩

set_option maxHeartbeats 1000000 in
theorem of_7 (f : FV) (s : FSl) (w : World) (hs : FRows w f s) (hg : BigF f) (hk : f.k = 7) :
    Calls Try.prog 55 [.agg (cFG f s).toArray].toArray w fun r w' => ∃ x : Value × Bool, r = .returned (.tuple #[x.1, .bool x.2]) ∧ NoSetup x.1 ∧ St w [] [] w' := by
  obtain ⟨vt1, vi1, vv1, vx1⟩ := s
  obtain ⟨at1, ct1, hh, _, _⟩ := _root_.id hs.tr
  simp only at hh
  subst hh
  obtain ⟨ai1, ci1, hh, _, _⟩ := _root_.id hs.ids
  simp only at hh
  subst hh
  obtain ⟨av1, cv1, hh, _, _⟩ := _root_.id hs.val
  simp only at hh
  subst hh
  obtain ⟨ax1, cx1, hh, _, _⟩ := _root_.id hs.txt
  simp only at hh
  subst hh
  refine calls_of_J (args := [.agg (cFG f ⟨.slice at1 f.tr.length ct1, .slice ai1 f.ids.length ci1, .slice av1 f.val.length cv1, .slice ax1 f.txt.length cx1⟩).toArray]) (e := [(0, .agg (cFG f ⟨.slice at1 f.tr.length ct1, .slice ai1 f.ids.length ci1, .slice av1 f.val.length cv1, .slice ax1 f.txt.length cx1⟩).toArray)]) Try.func55 rfl rfl ⟨rfl, trivial⟩ (St.start w) ?_
  refine JC.seq (fun K0 hK0 => ?_)
  refine JC.region ?_
  refine J.box rfl rfl rfl (fun b1 => ?_)
  refine J.assign rfl rfl ?_
  refine J.assign rfl rfl ?_
  refine J.nil ?_
  refine JX.thenN (hK0 _ _ ?_)
  refine JC.seq (fun K1 hK1 => ?_)
  refine JC.seq (fun K2 hK2 => ?_)
  refine JC.region ?_
  refine J.fieldAddr Ty.fd52_0 rfl rfl ?_
  refine J.loadO Ty.a3 rfl (by repeat first | exact .head _ | apply List.Mem.tail | apply List.mem_append_right) (by exact rfl) rfl ?_
  refine J.nil ?_
  refine JX.thenN (hK2 _ _ ?_)
  refine JC.block ?_
  refine JC.seq (fun K3 hK3 => ?_)
  refine JC.region ?_
  refine J.bin rfl rfl rfl rfl ?_
  refine J.name 7 rfl (show Value.bool _ = .bool false by simp; omega) ?_
  refine J.assign rfl rfl ?_
  refine J.nil ?_
  refine JX.thenN (hK3 _ _ ?_)
  first | refine JC.condF rfl ?_ | refine JC.cond rfl (fun h => by first | (exfalso; simp at h; omega) | (simp at h)) (fun _ => ?_)
  refine JC.seq (fun K4 hK4 => ?_)
  refine JC.region ?_
  refine J.bin rfl rfl rfl rfl ?_
  refine J.name 17 rfl (show Value.bool _ = .bool false by simp; omega) ?_
  refine J.assign rfl rfl ?_
  refine J.nil ?_
  refine JX.thenN (hK4 _ _ ?_)
  first | refine JC.condF rfl ?_ | refine JC.cond rfl (fun h => by first | (exfalso; simp at h; omega) | (simp at h)) (fun _ => ?_)
  refine JC.seq (fun K5 hK5 => ?_)
  refine JC.region ?_
  refine J.bin rfl rfl rfl rfl ?_
  refine J.name 30 rfl (show Value.bool _ = .bool false by simp; omega) ?_
  refine J.assign rfl rfl ?_
  refine J.nil ?_
  refine JX.thenN (hK5 _ _ ?_)
  first | refine JC.condF rfl ?_ | refine JC.cond rfl (fun h => by first | (exfalso; simp at h; omega) | (simp at h)) (fun _ => ?_)
  refine JC.seq (fun K6 hK6 => ?_)
  refine JC.region ?_
  refine J.bin rfl rfl rfl rfl ?_
  refine J.name 40 rfl (show Value.bool _ = .bool false by simp; omega) ?_
  refine J.assign rfl rfl ?_
  refine J.nil ?_
  refine JX.thenN (hK6 _ _ ?_)
  first | refine JC.condF rfl ?_ | refine JC.cond rfl (fun h => by first | (exfalso; simp at h; omega) | (simp at h)) (fun _ => ?_)
  refine JC.seq (fun K7 hK7 => ?_)
  refine JC.region ?_
  refine J.bin rfl rfl rfl rfl ?_
  refine J.name 53 rfl (show Value.bool _ = .bool false by simp; omega) ?_
  refine J.assign rfl rfl ?_
  refine J.nil ?_
  refine JX.thenN (hK7 _ _ ?_)
  first | refine JC.condF rfl ?_ | refine JC.cond rfl (fun h => by first | (exfalso; simp at h; omega) | (simp at h)) (fun _ => ?_)
  refine JC.seq (fun K8 hK8 => ?_)
  refine JC.region ?_
  refine J.bin rfl rfl rfl rfl ?_
  refine J.name 59 rfl (show Value.bool _ = .bool false by simp; omega) ?_
  refine J.assign rfl rfl ?_
  refine J.nil ?_
  refine JX.thenN (hK8 _ _ ?_)
  first | refine JC.condF rfl ?_ | refine JC.cond rfl (fun h => by first | (exfalso; simp at h; omega) | (simp at h)) (fun _ => ?_)
  refine JC.seq (fun K9 hK9 => ?_)
  refine JC.region ?_
  refine J.bin rfl rfl rfl rfl ?_
  refine J.name 67 rfl (show Value.bool _ = .bool true by simp; omega) ?_
  refine J.assign rfl rfl ?_
  refine J.nil ?_
  refine JX.thenN (hK9 _ _ ?_)
  first | refine JC.condT rfl ?_ | refine JC.cond rfl (fun _ => ?_) (fun h => by first | (exfalso; simp at h; omega) | (simp at h))
  refine JC.seq (fun K10 hK10 => ?_)
  apply JC.drawX (α := Option Addr × Nat) 9 (fun x => match x with | ⟨a8, c8⟩ => [.pointer (some ⟨b1, 0 + 1, none⟩), .agg (cP f.p).toArray, .pointer (some ⟨b1, 0 + 18, none⟩), .bool f.toA, .pointer (some ⟨b1, 0 + 57, none⟩), .slice ai1 f.ids.length ci1, .slice a8 f.ids.length c8, .agg (cP f.p ++ ([.bool f.toA] : List Value) ++ ([.slice a8 f.ids.length c8] : List Value)).toArray, .iface 130 (.agg (cP f.p ++ ([.bool f.toA] : List Value) ++ ([.slice a8 f.ids.length c8] : List Value)).toArray)]) (fun m x => match x with | ⟨a8, c8⟩ => fun w1 => ((m 7 = true → m 6 = true) ∧ (m 8 = true → m 6 = true)) ∧ St w [] ((b1, cb (cFG f ⟨.slice at1 f.tr.length ct1, .slice ai1 f.ids.length ci1, .slice av1 f.val.length cv1, .slice ax1 f.txt.length cx1⟩) 52) :: []) w1) Ty.mixed rfl rfl rfl (by kernel_rfl) rfl rfl ?hinit ?hstep ?htail
  case hinit => exact fun w1 hw => ⟨(none, 0), ⟨fun h => (by cases h), fun h => (by cases h)⟩, hw.drew⟩
  case hstep =>
    refine ⟨fun m x hm hp => ?_, fun m x hm hp => ?_, fun m x hm hp => ?_, fun m x hm hp => ?_, fun m x hm hp => ?_, fun m x hm hp => ?_, fun m x hm hp => ?_, fun m x hm hp => ?_, fun m x hm hp => ?_, trivial⟩
    · skip
      obtain ⟨a8, c8⟩ := x
      show J _ _ _ _ _ (_) _
      refine J.pr (fun hF => ?_)
      refine J.fieldAddr Ty.fd52_1 rfl rfl ?_
      exact J.finX rfl (fun _ hw => ⟨⟨a8, c8⟩, rfl, fun _ _ _ => rfl, hF, hw⟩)
    · skip
      obtain ⟨a8, c8⟩ := x
      show J _ _ _ _ _ ((68, .pointer (some ⟨b1, 0 + 1, none⟩)) :: _) _
      refine J.pr (fun hF => ?_)
      refine J.loadOA (vs := cP f.p) Ty.a25 Ty.s25 rfl (.head _) rfl rfl rfl ?_
      exact J.finX rfl (fun _ hw => ⟨⟨a8, c8⟩, rfl, fun _ _ _ => rfl, hF, hw⟩)
    · skip
      obtain ⟨a8, c8⟩ := x
      show J _ _ _ _ _ (_) _
      refine J.pr (fun hF => ?_)
      refine J.fieldAddr Ty.fd52_2 rfl rfl ?_
      exact J.finX rfl (fun _ hw => ⟨⟨a8, c8⟩, rfl, fun _ _ _ => rfl, hF, hw⟩)
    · skip
      obtain ⟨a8, c8⟩ := x
      show J _ _ _ _ _ ((70, .pointer (some ⟨b1, 0 + 18, none⟩)) :: _) _
      refine J.pr (fun hF => ?_)
      refine J.loadO (v := .bool f.toA) Ty.a4 rfl (.head _) rfl rfl ?_
      exact J.finX rfl (fun _ hw => ⟨⟨a8, c8⟩, rfl, fun _ _ _ => rfl, hF, hw⟩)
    · skip
      obtain ⟨a8, c8⟩ := x
      show J _ _ _ _ _ (_) _
      refine J.pr (fun hF => ?_)
      refine J.fieldAddr Ty.fd52_9 rfl rfl ?_
      exact J.finX rfl (fun _ hw => ⟨⟨a8, c8⟩, rfl, fun _ _ _ => rfl, hF, hw⟩)
    · skip
      obtain ⟨a8, c8⟩ := x
      show J _ _ _ _ _ ((72, .pointer (some ⟨b1, 0 + 57, none⟩)) :: _) _
      refine J.pr (fun hF => ?_)
      refine J.loadO (v := .slice ai1 f.ids.length ci1) Ty.a45 rfl (.head _) rfl rfl ?_
      exact J.finX rfl (fun _ hw => ⟨⟨a8, c8⟩, rfl, fun _ _ _ => rfl, hF, hw⟩)
    · skip
      obtain ⟨a8, c8⟩ := x
      show J _ _ _ _ _ ((73, .slice ai1 f.ids.length ci1) :: _) _
      refine J.pr (fun hF => ?_)
      have hbd := hg.ids
      refine J.append (lp := []) (xs := []) (ys := f.ids.flatMap cI) (k := 0) (m := f.ids.length) Ty.el45 Ty.s23 Ty.b23 Ty.z23 rfl (.inl ⟨23, Ty.u45⟩) rfl rfl (Vec.nil _ _) (fun w1 hw => .inl (hs.ids.below hw.below)) (by rw [fG_length (c := cI) (sz := 16) (fun _ => rfl)]) (fun y hy => by obtain ⟨q, _, hq⟩ := List.mem_flatMap.1 hy; simp only [cI, List.mem_cons, List.not_mem_nil, or_false] at hq; rcases hq with rfl | rfl | rfl | rfl | rfl | rfl | rfl | rfl | rfl | rfl | rfl | rfl | rfl | rfl | rfl | rfl <;> rfl) (by omega) (by omega) rfl (fun v8n lp8n hv8 => ?_)
      rw [Nat.zero_add, List.nil_append] at hv8
      obtain ⟨a8n, c8n, rfl, _⟩ := hv8.form
      refine J.conseq (I' := St w [] ((b1, cb (cFG f ⟨.slice at1 f.tr.length ct1, .slice ai1 f.ids.length ci1, .slice av1 f.val.length cv1, .slice ax1 f.txt.length cx1⟩) 52) :: [])) ?_ (fun w1 hw => hw.drop (List.sublist_append_right _ _))
      refine J.nil (JX.finB rfl (fun w1 hw => ⟨⟨⟨a8n, c8n⟩, rfl, fun j h1 h2 => ?_, ?_⟩, trivial⟩))
      · match j, h1 with
        | 0, _ => (first | rfl | trivial)
        | 1, _ => (first | rfl | trivial)
        | 2, _ => (first | rfl | trivial)
        | 3, _ => (first | rfl | trivial)
        | 4, _ => (first | rfl | trivial)
        | 5, _ => (first | rfl | trivial)
        | 6, _ => exact absurd (h2.symm.trans hm) (by decide)
        | 7, _ => exact absurd ((hF.1 h2).symm.trans hm) (by decide)
        | 8, _ => exact absurd ((hF.2 h2).symm.trans hm) (by decide)
        | j + 9, h1 => omega
      show ((m 7 = true → true = true) ∧ (m 8 = true → true = true)) ∧ St w [] ((b1, cb (cFG f ⟨.slice at1 f.tr.length ct1, .slice ai1 f.ids.length ci1, .slice av1 f.val.length cv1, .slice ax1 f.txt.length cx1⟩) 52) :: []) w1
      exact ⟨⟨fun _ => (by first | trivial | rfl), fun _ => (by first | trivial | rfl)⟩, hw⟩
    · skip
      obtain ⟨a8, c8⟩ := x
      show J _ _ _ _ _ ((74, .slice a8 f.ids.length c8) :: (71, .bool f.toA) :: (69, .agg (cP f.p).toArray) :: _) _
      have hp6 : m 6 = true := predsT hp (by kernel_rfl)
      refine J.pr (fun hF => ?_)
      refine J.buildS (cs := cP f.p ++ ([.bool f.toA] : List Value) ++ ([.slice a8 f.ids.length c8] : List Value)) Ty.pl130 Ty.z130 rfl (by kernel_rfl) rfl ?_
      refine J.nil (JX.finB rfl (fun w1 hw => ⟨⟨⟨a8, c8⟩, rfl, fun j h1 h2 => ?_, ?_⟩, trivial⟩))
      · match j, h1 with
        | 0, _ => (first | rfl | trivial)
        | 1, _ => (first | rfl | trivial)
        | 2, _ => (first | rfl | trivial)
        | 3, _ => (first | rfl | trivial)
        | 4, _ => (first | rfl | trivial)
        | 5, _ => (first | rfl | trivial)
        | 6, _ => (first | rfl | trivial)
        | 7, _ => (first | rfl | trivial)
        | 8, _ => (first | rfl | trivial)
        | j + 9, h1 => omega
      show ((true = true → m 6 = true) ∧ (m 8 = true → m 6 = true)) ∧ St w [] ((b1, cb (cFG f ⟨.slice at1 f.tr.length ct1, .slice ai1 f.ids.length ci1, .slice av1 f.val.length cv1, .slice ax1 f.txt.length cx1⟩) 52) :: []) w1
      exact ⟨⟨fun _ => hp6, hF.2⟩, hw⟩
    · skip
      obtain ⟨a8, c8⟩ := x
      show J _ _ _ _ _ ((75, .agg (cP f.p ++ ([.bool f.toA] : List Value) ++ ([.slice a8 f.ids.length c8] : List Value)).toArray) :: _) _
      have hp7 : m 7 = true := predsT hp (by kernel_rfl)
      refine J.pr (fun hF => ?_)
      refine J.iface (by kernel_rfl) rfl rfl ?_
      refine J.nil (JX.finB rfl (fun w1 hw => ⟨⟨⟨a8, c8⟩, rfl, fun j h1 h2 => ?_, ?_⟩, trivial⟩))
      · match j, h1 with
        | 0, _ => (first | rfl | trivial)
        | 1, _ => (first | rfl | trivial)
        | 2, _ => (first | rfl | trivial)
        | 3, _ => (first | rfl | trivial)
        | 4, _ => (first | rfl | trivial)
        | 5, _ => (first | rfl | trivial)
        | 6, _ => (first | rfl | trivial)
        | 7, _ => (first | rfl | trivial)
        | 8, _ => (first | rfl | trivial)
        | j + 9, h1 => omega
      show ((m 7 = true → m 6 = true) ∧ (true = true → m 6 = true)) ∧ St w [] ((b1, cb (cFG f ⟨.slice at1 f.tr.length ct1, .slice ai1 f.ids.length ci1, .slice av1 f.val.length cv1, .slice ax1 f.txt.length cx1⟩) 52) :: []) w1
      exact ⟨⟨hF.1, fun _ => hF.1 hp7⟩, hw⟩
  case htail =>
    intro x
    obtain ⟨a8, c8⟩ := x
    show J _ _ _ _ _ ((76, .iface 130 (.agg (cP f.p ++ ([.bool f.toA] : List Value) ++ ([.slice a8 f.ids.length c8] : List Value)).toArray)) :: (75, .agg (cP f.p ++ ([.bool f.toA] : List Value) ++ ([.slice a8 f.ids.length c8] : List Value)).toArray) :: (74, .slice a8 f.ids.length c8) :: (73, .slice ai1 f.ids.length ci1) :: (72, .pointer (some ⟨b1, 0 + 57, none⟩)) :: (71, .bool f.toA) :: (70, .pointer (some ⟨b1, 0 + 18, none⟩)) :: (69, .agg (cP f.p).toArray) :: (68, .pointer (some ⟨b1, 0 + 1, none⟩)) :: _) (fun w1 => ((true = true → true = true) ∧ (true = true → true = true)) ∧ St w [] ((b1, cb (cFG f ⟨.slice at1 f.tr.length ct1, .slice ai1 f.ids.length ci1, .slice av1 f.val.length cv1, .slice ax1 f.txt.length cx1⟩) 52) :: []) w1)
    refine J.pr (fun hF => ?_)
    refine J.assign rfl rfl ?_
    refine J.assign rfl rfl ?_
    refine J.nil ?_
    refine JX.thenN (hK10 _ _ ?_)
    refine JC.ret ?_
    refine JX.blockR ?_
    refine JX.thenR ?_
    refine JX.ret2 rfl rfl rfl (fun w hw => ?_)
    exact ⟨(_, _), rfl, .inr ⟨_, _, rfl, rfl⟩, hw.drop (List.nil_sublist _)⟩

set_option maxHeartbeats 1000000 in
theorem of_8 (f : FV) (s : FSl) (w : World) (hs : FRows w f s) (hg : BigF f) (hk : f.k = 8) :
    Calls Try.prog 55 [.agg (cFG f s).toArray].toArray w fun r w' => ∃ x : Value × Bool, r = .returned (.tuple #[x.1, .bool x.2]) ∧ NoSetup x.1 ∧ St w [] [] w' := by
  obtain ⟨vt1, vi1, vv1, vx1⟩ := s
  obtain ⟨at1, ct1, hh, _, _⟩ := _root_.id hs.tr
  simp only at hh
  subst hh
  obtain ⟨ai1, ci1, hh, _, _⟩ := _root_.id hs.ids
  simp only at hh
  subst hh
  obtain ⟨av1, cv1, hh, _, _⟩ := _root_.id hs.val
  simp only at hh
  subst hh
  obtain ⟨ax1, cx1, hh, _, _⟩ := _root_.id hs.txt
  simp only at hh
  subst hh
  refine calls_of_J (args := [.agg (cFG f ⟨.slice at1 f.tr.length ct1, .slice ai1 f.ids.length ci1, .slice av1 f.val.length cv1, .slice ax1 f.txt.length cx1⟩).toArray]) (e := [(0, .agg (cFG f ⟨.slice at1 f.tr.length ct1, .slice ai1 f.ids.length ci1, .slice av1 f.val.length cv1, .slice ax1 f.txt.length cx1⟩).toArray)]) Try.func55 rfl rfl ⟨rfl, trivial⟩ (St.start w) ?_
  refine JC.seq (fun K0 hK0 => ?_)
  refine JC.region ?_
  refine J.box rfl rfl rfl (fun b1 => ?_)
  refine J.assign rfl rfl ?_
  refine J.assign rfl rfl ?_
  refine J.nil ?_
  refine JX.thenN (hK0 _ _ ?_)
  refine JC.seq (fun K1 hK1 => ?_)
  refine JC.seq (fun K2 hK2 => ?_)
  refine JC.region ?_
  refine J.fieldAddr Ty.fd52_0 rfl rfl ?_
  refine J.loadO Ty.a3 rfl (by repeat first | exact .head _ | apply List.Mem.tail | apply List.mem_append_right) (by exact rfl) rfl ?_
  refine J.nil ?_
  refine JX.thenN (hK2 _ _ ?_)
  refine JC.block ?_
  refine JC.seq (fun K3 hK3 => ?_)
  refine JC.region ?_
  refine J.bin rfl rfl rfl rfl ?_
  refine J.name 7 rfl (show Value.bool _ = .bool false by simp; omega) ?_
  refine J.assign rfl rfl ?_
  refine J.nil ?_
  refine JX.thenN (hK3 _ _ ?_)
  first | refine JC.condF rfl ?_ | refine JC.cond rfl (fun h => by first | (exfalso; simp at h; omega) | (simp at h)) (fun _ => ?_)
  refine JC.seq (fun K4 hK4 => ?_)
  refine JC.region ?_
  refine J.bin rfl rfl rfl rfl ?_
  refine J.name 17 rfl (show Value.bool _ = .bool false by simp; omega) ?_
  refine J.assign rfl rfl ?_
  refine J.nil ?_
  refine JX.thenN (hK4 _ _ ?_)
  first | refine JC.condF rfl ?_ | refine JC.cond rfl (fun h => by first | (exfalso; simp at h; omega) | (simp at h)) (fun _ => ?_)
  refine JC.seq (fun K5 hK5 => ?_)
  refine JC.region ?_
  refine J.bin rfl rfl rfl rfl ?_
  refine J.name 30 rfl (show Value.bool _ = .bool false by simp; omega) ?_
  refine J.assign rfl rfl ?_
  refine J.nil ?_
  refine JX.thenN (hK5 _ _ ?_)
  first | refine JC.condF rfl ?_ | refine JC.cond rfl (fun h => by first | (exfalso; simp at h; omega) | (simp at h)) (fun _ => ?_)
  refine JC.seq (fun K6 hK6 => ?_)
  refine JC.region ?_
  refine J.bin rfl rfl rfl rfl ?_
  refine J.name 40 rfl (show Value.bool _ = .bool false by simp; omega) ?_
  refine J.assign rfl rfl ?_
  refine J.nil ?_
  refine JX.thenN (hK6 _ _ ?_)
  first | refine JC.condF rfl ?_ | refine JC.cond rfl (fun h => by first | (exfalso; simp at h; omega) | (simp at h)) (fun _ => ?_)
  refine JC.seq (fun K7 hK7 => ?_)
  refine JC.region ?_
  refine J.bin rfl rfl rfl rfl ?_
  refine J.name 53 rfl (show Value.bool _ = .bool false by simp; omega) ?_
  refine J.assign rfl rfl ?_
  refine J.nil ?_
  refine JX.thenN (hK7 _ _ ?_)
  first | refine JC.condF rfl ?_ | refine JC.cond rfl (fun h => by first | (exfalso; simp at h; omega) | (simp at h)) (fun _ => ?_)
  refine JC.seq (fun K8 hK8 => ?_)
  refine JC.region ?_
  refine J.bin rfl rfl rfl rfl ?_
  refine J.name 59 rfl (show Value.bool _ = .bool false by simp; omega) ?_
  refine J.assign rfl rfl ?_
  refine J.nil ?_
  refine JX.thenN (hK8 _ _ ?_)
  first | refine JC.condF rfl ?_ | refine JC.cond rfl (fun h => by first | (exfalso; simp at h; omega) | (simp at h)) (fun _ => ?_)
  refine JC.seq (fun K9 hK9 => ?_)
  refine JC.region ?_
  refine J.bin rfl rfl rfl rfl ?_
  refine J.name 67 rfl (show Value.bool _ = .bool false by simp; omega) ?_
  refine J.assign rfl rfl ?_
  refine J.nil ?_
  refine JX.thenN (hK9 _ _ ?_)
  first | refine JC.condF rfl ?_ | refine JC.cond rfl (fun h => by first | (exfalso; simp at h; omega) | (simp at h)) (fun _ => ?_)
  refine JC.seq (fun K10 hK10 => ?_)
  refine JC.region ?_
  refine J.bin rfl rfl rfl rfl ?_
  refine J.name 78 rfl (show Value.bool _ = .bool true by simp; omega) ?_
  refine J.assign rfl rfl ?_
  refine J.nil ?_
  refine JX.thenN (hK10 _ _ ?_)
  first | refine JC.condT rfl ?_ | refine JC.cond rfl (fun _ => ?_) (fun h => by first | (exfalso; simp at h; omega) | (simp at h))
  refine JC.seq (fun K11 hK11 => ?_)
  apply JC.drawX (α := Option Addr × Nat) 15 (fun x => match x with | ⟨a8, c8⟩ => [.pointer (some ⟨b1, 0 + 19, none⟩), .agg (cI f.a).toArray, .pointer (some ⟨b1, 0 + 35, none⟩), .agg (cI f.b).toArray, .pointer (some ⟨b1, 0 + 92, none⟩), iV f.op, .pointer (some ⟨b1, 0 + 1, none⟩), .agg (cP f.p).toArray, .pointer (some ⟨b1, 0 + 18, none⟩), .bool f.toA, .pointer (some ⟨b1, 0 + 56, none⟩), .slice at1 f.tr.length ct1, .slice a8 f.tr.length c8, .agg (cI f.a ++ cI f.b ++ ([iV f.op] : List Value) ++ cP f.p ++ ([.bool f.toA] : List Value) ++ ([.slice a8 f.tr.length c8] : List Value)).toArray, .iface 132 (.agg (cI f.a ++ cI f.b ++ ([iV f.op] : List Value) ++ cP f.p ++ ([.bool f.toA] : List Value) ++ ([.slice a8 f.tr.length c8] : List Value)).toArray)]) (fun m x => match x with | ⟨a8, c8⟩ => fun w1 => ((m 13 = true → m 12 = true) ∧ (m 14 = true → m 12 = true)) ∧ St w [] ((b1, cb (cFG f ⟨.slice at1 f.tr.length ct1, .slice ai1 f.ids.length ci1, .slice av1 f.val.length cv1, .slice ax1 f.txt.length cx1⟩) 52) :: []) w1) Ty.mixed rfl rfl rfl (by kernel_rfl) rfl rfl ?hinit ?hstep ?htail
  case hinit => exact fun w1 hw => ⟨(none, 0), ⟨fun h => (by cases h), fun h => (by cases h)⟩, hw.drew⟩
  case hstep =>
    refine ⟨fun m x hm hp => ?_, fun m x hm hp => ?_, fun m x hm hp => ?_, fun m x hm hp => ?_, fun m x hm hp => ?_, fun m x hm hp => ?_, fun m x hm hp => ?_, fun m x hm hp => ?_, fun m x hm hp => ?_, fun m x hm hp => ?_, fun m x hm hp => ?_, fun m x hm hp => ?_, fun m x hm hp => ?_, fun m x hm hp => ?_, fun m x hm hp => ?_, trivial⟩
    · skip
      obtain ⟨a8, c8⟩ := x
      show J _ _ _ _ _ (_) _
      refine J.pr (fun hF => ?_)
      refine J.fieldAddr Ty.fd52_3 rfl rfl ?_
      exact J.finX rfl (fun _ hw => ⟨⟨a8, c8⟩, rfl, fun _ _ _ => rfl, hF, hw⟩)
    · skip
      obtain ⟨a8, c8⟩ := x
      show J _ _ _ _ _ ((79, .pointer (some ⟨b1, 0 + 19, none⟩)) :: _) _
      refine J.pr (fun hF => ?_)
      refine J.loadOA (vs := cI f.a) Ty.a23 Ty.s23 rfl (.head _) rfl rfl rfl ?_
      exact J.finX rfl (fun _ hw => ⟨⟨a8, c8⟩, rfl, fun _ _ _ => rfl, hF, hw⟩)
    · skip
      obtain ⟨a8, c8⟩ := x
      show J _ _ _ _ _ (_) _
      refine J.pr (fun hF => ?_)
      refine J.fieldAddr Ty.fd52_4 rfl rfl ?_
      exact J.finX rfl (fun _ hw => ⟨⟨a8, c8⟩, rfl, fun _ _ _ => rfl, hF, hw⟩)
    · skip
      obtain ⟨a8, c8⟩ := x
      show J _ _ _ _ _ ((81, .pointer (some ⟨b1, 0 + 35, none⟩)) :: _) _
      refine J.pr (fun hF => ?_)
      refine J.loadOA (vs := cI f.b) Ty.a23 Ty.s23 rfl (.head _) rfl rfl rfl ?_
      exact J.finX rfl (fun _ hw => ⟨⟨a8, c8⟩, rfl, fun _ _ _ => rfl, hF, hw⟩)
    · skip
      obtain ⟨a8, c8⟩ := x
      show J _ _ _ _ _ (_) _
      refine J.pr (fun hF => ?_)
      refine J.fieldAddr Ty.fd52_11 rfl rfl ?_
      exact J.finX rfl (fun _ hw => ⟨⟨a8, c8⟩, rfl, fun _ _ _ => rfl, hF, hw⟩)
    · skip
      obtain ⟨a8, c8⟩ := x
      show J _ _ _ _ _ ((83, .pointer (some ⟨b1, 0 + 92, none⟩)) :: _) _
      refine J.pr (fun hF => ?_)
      refine J.loadO (v := iV f.op) Ty.a3 rfl (.head _) rfl rfl ?_
      exact J.finX rfl (fun _ hw => ⟨⟨a8, c8⟩, rfl, fun _ _ _ => rfl, hF, hw⟩)
    · skip
      obtain ⟨a8, c8⟩ := x
      show J _ _ _ _ _ (_) _
      refine J.pr (fun hF => ?_)
      refine J.fieldAddr Ty.fd52_1 rfl rfl ?_
      exact J.finX rfl (fun _ hw => ⟨⟨a8, c8⟩, rfl, fun _ _ _ => rfl, hF, hw⟩)
    · skip
      obtain ⟨a8, c8⟩ := x
      show J _ _ _ _ _ ((85, .pointer (some ⟨b1, 0 + 1, none⟩)) :: _) _
      refine J.pr (fun hF => ?_)
      refine J.loadOA (vs := cP f.p) Ty.a25 Ty.s25 rfl (.head _) rfl rfl rfl ?_
      exact J.finX rfl (fun _ hw => ⟨⟨a8, c8⟩, rfl, fun _ _ _ => rfl, hF, hw⟩)
    · skip
      obtain ⟨a8, c8⟩ := x
      show J _ _ _ _ _ (_) _
      refine J.pr (fun hF => ?_)
      refine J.fieldAddr Ty.fd52_2 rfl rfl ?_
      exact J.finX rfl (fun _ hw => ⟨⟨a8, c8⟩, rfl, fun _ _ _ => rfl, hF, hw⟩)
    · skip
      obtain ⟨a8, c8⟩ := x
      show J _ _ _ _ _ ((87, .pointer (some ⟨b1, 0 + 18, none⟩)) :: _) _
      refine J.pr (fun hF => ?_)
      refine J.loadO (v := .bool f.toA) Ty.a4 rfl (.head _) rfl rfl ?_
      exact J.finX rfl (fun _ hw => ⟨⟨a8, c8⟩, rfl, fun _ _ _ => rfl, hF, hw⟩)
    · skip
      obtain ⟨a8, c8⟩ := x
      show J _ _ _ _ _ (_) _
      refine J.pr (fun hF => ?_)
      refine J.fieldAddr Ty.fd52_8 rfl rfl ?_
      exact J.finX rfl (fun _ hw => ⟨⟨a8, c8⟩, rfl, fun _ _ _ => rfl, hF, hw⟩)
    · skip
      obtain ⟨a8, c8⟩ := x
      show J _ _ _ _ _ ((89, .pointer (some ⟨b1, 0 + 56, none⟩)) :: _) _
      refine J.pr (fun hF => ?_)
      refine J.loadO (v := .slice at1 f.tr.length ct1) Ty.a26 rfl (.head _) rfl rfl ?_
      exact J.finX rfl (fun _ hw => ⟨⟨a8, c8⟩, rfl, fun _ _ _ => rfl, hF, hw⟩)
    · skip
      obtain ⟨a8, c8⟩ := x
      show J _ _ _ _ _ ((90, .slice at1 f.tr.length ct1) :: _) _
      refine J.pr (fun hF => ?_)
      have hbd := hg.tr
      refine J.append (lp := []) (xs := []) (ys := f.tr.map iV) (k := 0) (m := f.tr.length) Ty.el26 Ty.s3 Ty.b3 Ty.z3 rfl (.inl ⟨3, Ty.u26⟩) rfl rfl (Vec.nil _ _) (fun w1 hw => .inl (hs.tr.below hw.below)) (by simp) (by simp [Value.oneCell']) (by omega) (by omega) rfl (fun v8n lp8n hv8 => ?_)
      rw [Nat.zero_add, List.nil_append] at hv8
      obtain ⟨a8n, c8n, rfl, _⟩ := hv8.form
      refine J.conseq (I' := St w [] ((b1, cb (cFG f ⟨.slice at1 f.tr.length ct1, .slice ai1 f.ids.length ci1, .slice av1 f.val.length cv1, .slice ax1 f.txt.length cx1⟩) 52) :: [])) ?_ (fun w1 hw => hw.drop (List.sublist_append_right _ _))
      refine J.nil (JX.finB rfl (fun w1 hw => ⟨⟨⟨a8n, c8n⟩, rfl, fun j h1 h2 => ?_, ?_⟩, trivial⟩))
      · match j, h1 with
        | 0, _ => (first | rfl | trivial)
        | 1, _ => (first | rfl | trivial)
        | 2, _ => (first | rfl | trivial)
        | 3, _ => (first | rfl | trivial)
        | 4, _ => (first | rfl | trivial)
        | 5, _ => (first | rfl | trivial)
        | 6, _ => (first | rfl | trivial)
        | 7, _ => (first | rfl | trivial)
        | 8, _ => (first | rfl | trivial)
        | 9, _ => (first | rfl | trivial)
        | 10, _ => (first | rfl | trivial)
        | 11, _ => (first | rfl | trivial)
        | 12, _ => exact absurd (h2.symm.trans hm) (by decide)
        | 13, _ => exact absurd ((hF.1 h2).symm.trans hm) (by decide)
        | 14, _ => exact absurd ((hF.2 h2).symm.trans hm) (by decide)
        | j + 15, h1 => omega
      show ((m 13 = true → true = true) ∧ (m 14 = true → true = true)) ∧ St w [] ((b1, cb (cFG f ⟨.slice at1 f.tr.length ct1, .slice ai1 f.ids.length ci1, .slice av1 f.val.length cv1, .slice ax1 f.txt.length cx1⟩) 52) :: []) w1
      exact ⟨⟨fun _ => (by first | trivial | rfl), fun _ => (by first | trivial | rfl)⟩, hw⟩
    · skip
      obtain ⟨a8, c8⟩ := x
      show J _ _ _ _ _ ((91, .slice a8 f.tr.length c8) :: (88, .bool f.toA) :: (86, .agg (cP f.p).toArray) :: (84, iV f.op) :: (82, .agg (cI f.b).toArray) :: (80, .agg (cI f.a).toArray) :: _) _
      have hp12 : m 12 = true := predsT hp (by kernel_rfl)
      refine J.pr (fun hF => ?_)
      refine J.buildS (cs := cI f.a ++ cI f.b ++ ([iV f.op] : List Value) ++ cP f.p ++ ([.bool f.toA] : List Value) ++ ([.slice a8 f.tr.length c8] : List Value)) Ty.pl132 Ty.z132 rfl (by kernel_rfl) rfl ?_
      refine J.nil (JX.finB rfl (fun w1 hw => ⟨⟨⟨a8, c8⟩, rfl, fun j h1 h2 => ?_, ?_⟩, trivial⟩))
      · match j, h1 with
        | 0, _ => (first | rfl | trivial)
        | 1, _ => (first | rfl | trivial)
        | 2, _ => (first | rfl | trivial)
        | 3, _ => (first | rfl | trivial)
        | 4, _ => (first | rfl | trivial)
        | 5, _ => (first | rfl | trivial)
        | 6, _ => (first | rfl | trivial)
        | 7, _ => (first | rfl | trivial)
        | 8, _ => (first | rfl | trivial)
        | 9, _ => (first | rfl | trivial)
        | 10, _ => (first | rfl | trivial)
        | 11, _ => (first | rfl | trivial)
        | 12, _ => (first | rfl | trivial)
        | 13, _ => (first | rfl | trivial)
        | 14, _ => (first | rfl | trivial)
        | j + 15, h1 => omega
      show ((true = true → m 12 = true) ∧ (m 14 = true → m 12 = true)) ∧ St w [] ((b1, cb (cFG f ⟨.slice at1 f.tr.length ct1, .slice ai1 f.ids.length ci1, .slice av1 f.val.length cv1, .slice ax1 f.txt.length cx1⟩) 52) :: []) w1
      exact ⟨⟨fun _ => hp12, hF.2⟩, hw⟩
    · skip
      obtain ⟨a8, c8⟩ := x
      show J _ _ _ _ _ ((92, .agg (cI f.a ++ cI f.b ++ ([iV f.op] : List Value) ++ cP f.p ++ ([.bool f.toA] : List Value) ++ ([.slice a8 f.tr.length c8] : List Value)).toArray) :: _) _
      have hp13 : m 13 = true := predsT hp (by kernel_rfl)
      refine J.pr (fun hF => ?_)
      refine J.iface (by kernel_rfl) rfl rfl ?_
      refine J.nil (JX.finB rfl (fun w1 hw => ⟨⟨⟨a8, c8⟩, rfl, fun j h1 h2 => ?_, ?_⟩, trivial⟩))
      · match j, h1 with
        | 0, _ => (first | rfl | trivial)
        | 1, _ => (first | rfl | trivial)
        | 2, _ => (first | rfl | trivial)
        | 3, _ => (first | rfl | trivial)
        | 4, _ => (first | rfl | trivial)
        | 5, _ => (first | rfl | trivial)
        | 6, _ => (first | rfl | trivial)
        | 7, _ => (first | rfl | trivial)
        | 8, _ => (first | rfl | trivial)
        | 9, _ => (first | rfl | trivial)
        | 10, _ => (first | rfl | trivial)
        | 11, _ => (first | rfl | trivial)
        | 12, _ => (first | rfl | trivial)
        | 13, _ => (first | rfl | trivial)
        | 14, _ => (first | rfl | trivial)
        | j + 15, h1 => omega
      show ((m 13 = true → m 12 = true) ∧ (true = true → m 12 = true)) ∧ St w [] ((b1, cb (cFG f ⟨.slice at1 f.tr.length ct1, .slice ai1 f.ids.length ci1, .slice av1 f.val.length cv1, .slice ax1 f.txt.length cx1⟩) 52) :: []) w1
      exact ⟨⟨hF.1, fun _ => hF.1 hp13⟩, hw⟩
  case htail =>
    intro x
    obtain ⟨a8, c8⟩ := x
    show J _ _ _ _ _ ((93, .iface 132 (.agg (cI f.a ++ cI f.b ++ ([iV f.op] : List Value) ++ cP f.p ++ ([.bool f.toA] : List Value) ++ ([.slice a8 f.tr.length c8] : List Value)).toArray)) :: (92, .agg (cI f.a ++ cI f.b ++ ([iV f.op] : List Value) ++ cP f.p ++ ([.bool f.toA] : List Value) ++ ([.slice a8 f.tr.length c8] : List Value)).toArray) :: (91, .slice a8 f.tr.length c8) :: (90, .slice at1 f.tr.length ct1) :: (89, .pointer (some ⟨b1, 0 + 56, none⟩)) :: (88, .bool f.toA) :: (87, .pointer (some ⟨b1, 0 + 18, none⟩)) :: (86, .agg (cP f.p).toArray) :: (85, .pointer (some ⟨b1, 0 + 1, none⟩)) :: (84, iV f.op) :: (83, .pointer (some ⟨b1, 0 + 92, none⟩)) :: (82, .agg (cI f.b).toArray) :: (81, .pointer (some ⟨b1, 0 + 35, none⟩)) :: (80, .agg (cI f.a).toArray) :: (79, .pointer (some ⟨b1, 0 + 19, none⟩)) :: _) (fun w1 => ((true = true → true = true) ∧ (true = true → true = true)) ∧ St w [] ((b1, cb (cFG f ⟨.slice at1 f.tr.length ct1, .slice ai1 f.ids.length ci1, .slice av1 f.val.length cv1, .slice ax1 f.txt.length cx1⟩) 52) :: []) w1)
    refine J.pr (fun hF => ?_)
    refine J.assign rfl rfl ?_
    refine J.assign rfl rfl ?_
    refine J.nil ?_
    refine JX.thenN (hK11 _ _ ?_)
    refine JC.ret ?_
    refine JX.blockR ?_
    refine JX.thenR ?_
    refine JX.ret2 rfl rfl rfl (fun w hw => ?_)
    exact ⟨(_, _), rfl, .inr ⟨_, _, rfl, rfl⟩, hw.drop (List.nil_sublist _)⟩

set_option maxHeartbeats 1000000 in
theorem of_9 (f : FV) (s : FSl) (w : World) (hs : FRows w f s) (hg : BigF f) (hk : f.k = 9) :
    Calls Try.prog 55 [.agg (cFG f s).toArray].toArray w fun r w' => ∃ x : Value × Bool, r = .returned (.tuple #[x.1, .bool x.2]) ∧ NoSetup x.1 ∧ St w [] [] w' := by
  obtain ⟨vt1, vi1, vv1, vx1⟩ := s
  obtain ⟨at1, ct1, hh, _, _⟩ := _root_.id hs.tr
  simp only at hh
  subst hh
  obtain ⟨ai1, ci1, hh, _, _⟩ := _root_.id hs.ids
  simp only at hh
  subst hh
  obtain ⟨av1, cv1, hh, _, _⟩ := _root_.id hs.val
  simp only at hh
  subst hh
  obtain ⟨ax1, cx1, hh, _, _⟩ := _root_.id hs.txt
  simp only at hh
  subst hh
  refine calls_of_J (args := [.agg (cFG f ⟨.slice at1 f.tr.length ct1, .slice ai1 f.ids.length ci1, .slice av1 f.val.length cv1, .slice ax1 f.txt.length cx1⟩).toArray]) (e := [(0, .agg (cFG f ⟨.slice at1 f.tr.length ct1, .slice ai1 f.ids.length ci1, .slice av1 f.val.length cv1, .slice ax1 f.txt.length cx1⟩).toArray)]) Try.func55 rfl rfl ⟨rfl, trivial⟩ (St.start w) ?_
  refine JC.seq (fun K0 hK0 => ?_)
  refine JC.region ?_
  refine J.box rfl rfl rfl (fun b1 => ?_)
  refine J.assign rfl rfl ?_
  refine J.assign rfl rfl ?_
  refine J.nil ?_
  refine JX.thenN (hK0 _ _ ?_)
  refine JC.seq (fun K1 hK1 => ?_)
  refine JC.seq (fun K2 hK2 => ?_)
  refine JC.region ?_
  refine J.fieldAddr Ty.fd52_0 rfl rfl ?_
  refine J.loadO Ty.a3 rfl (by repeat first | exact .head _ | apply List.Mem.tail | apply List.mem_append_right) (by exact rfl) rfl ?_
  refine J.nil ?_
  refine JX.thenN (hK2 _ _ ?_)
  refine JC.block ?_
  refine JC.seq (fun K3 hK3 => ?_)
  refine JC.region ?_
  refine J.bin rfl rfl rfl rfl ?_
  refine J.name 7 rfl (show Value.bool _ = .bool false by simp; omega) ?_
  refine J.assign rfl rfl ?_
  refine J.nil ?_
  refine JX.thenN (hK3 _ _ ?_)
  first | refine JC.condF rfl ?_ | refine JC.cond rfl (fun h => by first | (exfalso; simp at h; omega) | (simp at h)) (fun _ => ?_)
  refine JC.seq (fun K4 hK4 => ?_)
  refine JC.region ?_
  refine J.bin rfl rfl rfl rfl ?_
  refine J.name 17 rfl (show Value.bool _ = .bool false by simp; omega) ?_
  refine J.assign rfl rfl ?_
  refine J.nil ?_
  refine JX.thenN (hK4 _ _ ?_)
  first | refine JC.condF rfl ?_ | refine JC.cond rfl (fun h => by first | (exfalso; simp at h; omega) | (simp at h)) (fun _ => ?_)
  refine JC.seq (fun K5 hK5 => ?_)
  refine JC.region ?_
  refine J.bin rfl rfl rfl rfl ?_
  refine J.name 30 rfl (show Value.bool _ = .bool false by simp; omega) ?_
  refine J.assign rfl rfl ?_
  refine J.nil ?_
  refine JX.thenN (hK5 _ _ ?_)
  first | refine JC.condF rfl ?_ | refine JC.cond rfl (fun h => by first | (exfalso; simp at h; omega) | (simp at h)) (fun _ => ?_)
  refine JC.seq (fun K6 hK6 => ?_)
  refine JC.region ?_
  refine J.bin rfl rfl rfl rfl ?_
  refine J.name 40 rfl (show Value.bool _ = .bool false by simp; omega) ?_
  refine J.assign rfl rfl ?_
  refine J.nil ?_
  refine JX.thenN (hK6 _ _ ?_)
  first | refine JC.condF rfl ?_ | refine JC.cond rfl (fun h => by first | (exfalso; simp at h; omega) | (simp at h)) (fun _ => ?_)
  refine JC.seq (fun K7 hK7 => ?_)
  refine JC.region ?_
  refine J.bin rfl rfl rfl rfl ?_
  refine J.name 53 rfl (show Value.bool _ = .bool false by simp; omega) ?_
  refine J.assign rfl rfl ?_
  refine J.nil ?_
  refine JX.thenN (hK7 _ _ ?_)
  first | refine JC.condF rfl ?_ | refine JC.cond rfl (fun h => by first | (exfalso; simp at h; omega) | (simp at h)) (fun _ => ?_)
  refine JC.seq (fun K8 hK8 => ?_)
  refine JC.region ?_
  refine J.bin rfl rfl rfl rfl ?_
  refine J.name 59 rfl (show Value.bool _ = .bool false by simp; omega) ?_
  refine J.assign rfl rfl ?_
  refine J.nil ?_
  refine JX.thenN (hK8 _ _ ?_)
  first | refine JC.condF rfl ?_ | refine JC.cond rfl (fun h => by first | (exfalso; simp at h; omega) | (simp at h)) (fun _ => ?_)
  refine JC.seq (fun K9 hK9 => ?_)
  refine JC.region ?_
  refine J.bin rfl rfl rfl rfl ?_
  refine J.name 67 rfl (show Value.bool _ = .bool false by simp; omega) ?_
  refine J.assign rfl rfl ?_
  refine J.nil ?_
  refine JX.thenN (hK9 _ _ ?_)
  first | refine JC.condF rfl ?_ | refine JC.cond rfl (fun h => by first | (exfalso; simp at h; omega) | (simp at h)) (fun _ => ?_)
  refine JC.seq (fun K10 hK10 => ?_)
  refine JC.region ?_
  refine J.bin rfl rfl rfl rfl ?_
  refine J.name 78 rfl (show Value.bool _ = .bool false by simp; omega) ?_
  refine J.assign rfl rfl ?_
  refine J.nil ?_
  refine JX.thenN (hK10 _ _ ?_)
  first | refine JC.condF rfl ?_ | refine JC.cond rfl (fun h => by first | (exfalso; simp at h; omega) | (simp at h)) (fun _ => ?_)
  refine JC.seq (fun K11 hK11 => ?_)
  refine JC.region ?_
  refine J.bin rfl rfl rfl rfl ?_
  refine J.name 95 rfl (show Value.bool _ = .bool true by simp; omega) ?_
  refine J.assign rfl rfl ?_
  refine J.nil ?_
  refine JX.thenN (hK11 _ _ ?_)
  first | refine JC.condT rfl ?_ | refine JC.cond rfl (fun _ => ?_) (fun h => by first | (exfalso; simp at h; omega) | (simp at h))
  refine JC.seq (fun K12 hK12 => ?_)
  refine JC.region ?_
  refine J.fieldAddr Ty.fd52_3 rfl rfl ?_
  refine J.loadOA (vs := cI f.a) Ty.a23 Ty.s23 rfl (.head _) rfl rfl rfl ?_
  refine J.fieldAddr Ty.fd52_5 rfl rfl ?_
  refine J.loadO (v := iV f.n) Ty.a2 rfl (.head _) rfl rfl ?_
  refine J.buildS (cs := cI f.a ++ ([iV f.n] : List Value)) Ty.pl134 Ty.z134 rfl (by kernel_rfl) rfl ?_
  refine J.iface (by kernel_rfl) rfl rfl ?_
  refine J.assign rfl rfl ?_
  refine J.assign rfl rfl ?_
  refine J.nil ?_
  refine JX.thenN (hK12 _ _ ?_)
  refine JC.ret ?_
  refine JX.blockR ?_
  refine JX.thenR ?_
  refine JX.ret2 rfl rfl rfl (fun w hw => ?_)
  exact ⟨(_, _), rfl, .inr ⟨_, _, rfl, rfl⟩, hw.drop (List.nil_sublist _)⟩

set_option maxHeartbeats 1000000 in
theorem of_10 (f : FV) (s : FSl) (w : World) (hs : FRows w f s) (hg : BigF f) (hk : f.k = 10) :
    Calls Try.prog 55 [.agg (cFG f s).toArray].toArray w fun r w' => ∃ x : Value × Bool, r = .returned (.tuple #[x.1, .bool x.2]) ∧ NoSetup x.1 ∧ St w [] [] w' := by
  obtain ⟨vt1, vi1, vv1, vx1⟩ := s
  obtain ⟨at1, ct1, hh, _, _⟩ := _root_.id hs.tr
  simp only at hh
  subst hh
  obtain ⟨ai1, ci1, hh, _, _⟩ := _root_.id hs.ids
  simp only at hh
  subst hh
  obtain ⟨av1, cv1, hh, _, _⟩ := _root_.id hs.val
  simp only at hh
  subst hh
  obtain ⟨ax1, cx1, hh, _, _⟩ := _root_.id hs.txt
  simp only at hh
  subst hh
  refine calls_of_J (args := [.agg (cFG f ⟨.slice at1 f.tr.length ct1, .slice ai1 f.ids.length ci1, .slice av1 f.val.length cv1, .slice ax1 f.txt.length cx1⟩).toArray]) (e := [(0, .agg (cFG f ⟨.slice at1 f.tr.length ct1, .slice ai1 f.ids.length ci1, .slice av1 f.val.length cv1, .slice ax1 f.txt.length cx1⟩).toArray)]) Try.func55 rfl rfl ⟨rfl, trivial⟩ (St.start w) ?_
  refine JC.seq (fun K0 hK0 => ?_)
  refine JC.region ?_
  refine J.box rfl rfl rfl (fun b1 => ?_)
  refine J.assign rfl rfl ?_
  refine J.assign rfl rfl ?_
  refine J.nil ?_
  refine JX.thenN (hK0 _ _ ?_)
  refine JC.seq (fun K1 hK1 => ?_)
  refine JC.seq (fun K2 hK2 => ?_)
  refine JC.region ?_
  refine J.fieldAddr Ty.fd52_0 rfl rfl ?_
  refine J.loadO Ty.a3 rfl (by repeat first | exact .head _ | apply List.Mem.tail | apply List.mem_append_right) (by exact rfl) rfl ?_
  refine J.nil ?_
  refine JX.thenN (hK2 _ _ ?_)
  refine JC.block ?_
  refine JC.seq (fun K3 hK3 => ?_)
  refine JC.region ?_
  refine J.bin rfl rfl rfl rfl ?_
  refine J.name 7 rfl (show Value.bool _ = .bool false by simp; omega) ?_
  refine J.assign rfl rfl ?_
  refine J.nil ?_
  refine JX.thenN (hK3 _ _ ?_)
  first | refine JC.condF rfl ?_ | refine JC.cond rfl (fun h => by first | (exfalso; simp at h; omega) | (simp at h)) (fun _ => ?_)
  refine JC.seq (fun K4 hK4 => ?_)
  refine JC.region ?_
  refine J.bin rfl rfl rfl rfl ?_
  refine J.name 17 rfl (show Value.bool _ = .bool false by simp; omega) ?_
  refine J.assign rfl rfl ?_
  refine J.nil ?_
  refine JX.thenN (hK4 _ _ ?_)
  first | refine JC.condF rfl ?_ | refine JC.cond rfl (fun h => by first | (exfalso; simp at h; omega) | (simp at h)) (fun _ => ?_)
  refine JC.seq (fun K5 hK5 => ?_)
  refine JC.region ?_
  refine J.bin rfl rfl rfl rfl ?_
  refine J.name 30 rfl (show Value.bool _ = .bool false by simp; omega) ?_
  refine J.assign rfl rfl ?_
  refine J.nil ?_
  refine JX.thenN (hK5 _ _ ?_)
  first | refine JC.condF rfl ?_ | refine JC.cond rfl (fun h => by first | (exfalso; simp at h; omega) | (simp at h)) (fun _ => ?_)
  refine JC.seq (fun K6 hK6 => ?_)
  refine JC.region ?_
  refine J.bin rfl rfl rfl rfl ?_
  refine J.name 40 rfl (show Value.bool _ = .bool false by simp; omega) ?_
  refine J.assign rfl rfl ?_
  refine J.nil ?_
  refine JX.thenN (hK6 _ _ ?_)
  first | refine JC.condF rfl ?_ | refine JC.cond rfl (fun h => by first | (exfalso; simp at h; omega) | (simp at h)) (fun _ => ?_)
  refine JC.seq (fun K7 hK7 => ?_)
  refine JC.region ?_
  refine J.bin rfl rfl rfl rfl ?_
  refine J.name 53 rfl (show Value.bool _ = .bool false by simp; omega) ?_
  refine J.assign rfl rfl ?_
  refine J.nil ?_
  refine JX.thenN (hK7 _ _ ?_)
  first | refine JC.condF rfl ?_ | refine JC.cond rfl (fun h => by first | (exfalso; simp at h; omega) | (simp at h)) (fun _ => ?_)
  refine JC.seq (fun K8 hK8 => ?_)
  refine JC.region ?_
  refine J.bin rfl rfl rfl rfl ?_
  refine J.name 59 rfl (show Value.bool _ = .bool false by simp; omega) ?_
  refine J.assign rfl rfl ?_
  refine J.nil ?_
  refine JX.thenN (hK8 _ _ ?_)
  first | refine JC.condF rfl ?_ | refine JC.cond rfl (fun h => by first | (exfalso; simp at h; omega) | (simp at h)) (fun _ => ?_)
  refine JC.seq (fun K9 hK9 => ?_)
  refine JC.region ?_
  refine J.bin rfl rfl rfl rfl ?_
  refine J.name 67 rfl (show Value.bool _ = .bool false by simp; omega) ?_
  refine J.assign rfl rfl ?_
  refine J.nil ?_
  refine JX.thenN (hK9 _ _ ?_)
  first | refine JC.condF rfl ?_ | refine JC.cond rfl (fun h => by first | (exfalso; simp at h; omega) | (simp at h)) (fun _ => ?_)
  refine JC.seq (fun K10 hK10 => ?_)
  refine JC.region ?_
  refine J.bin rfl rfl rfl rfl ?_
  refine J.name 78 rfl (show Value.bool _ = .bool false by simp; omega) ?_
  refine J.assign rfl rfl ?_
  refine J.nil ?_
  refine JX.thenN (hK10 _ _ ?_)
  first | refine JC.condF rfl ?_ | refine JC.cond rfl (fun h => by first | (exfalso; simp at h; omega) | (simp at h)) (fun _ => ?_)
  refine JC.seq (fun K11 hK11 => ?_)
  refine JC.region ?_
  refine J.bin rfl rfl rfl rfl ?_
  refine J.name 95 rfl (show Value.bool _ = .bool false by simp; omega) ?_
  refine J.assign rfl rfl ?_
  refine J.nil ?_
  refine JX.thenN (hK11 _ _ ?_)
  first | refine JC.condF rfl ?_ | refine JC.cond rfl (fun h => by first | (exfalso; simp at h; omega) | (simp at h)) (fun _ => ?_)
  refine JC.seq (fun K12 hK12 => ?_)
  refine JC.region ?_
  refine J.bin rfl rfl rfl rfl ?_
  refine J.name 103 rfl (show Value.bool _ = .bool true by simp; omega) ?_
  refine J.assign rfl rfl ?_
  refine J.nil ?_
  refine JX.thenN (hK12 _ _ ?_)
  first | refine JC.condT rfl ?_ | refine JC.cond rfl (fun _ => ?_) (fun h => by first | (exfalso; simp at h; omega) | (simp at h))
  refine JC.seq (fun K13 hK13 => ?_)
  apply JC.drawX (α := Option Addr × Nat × Option Addr × Nat) 18 (fun x => match x with | ⟨a7, c7, a8, c8⟩ => [.pointer (some ⟨b1, 0 + 19, none⟩), .agg (cI f.a).toArray, .pointer (some ⟨b1, 0 + 35, none⟩), .agg (cI f.b).toArray, .pointer (some ⟨b1, 0 + 51, none⟩), iV f.n, .pointer (some ⟨b1, 0 + 92, none⟩), iV f.op, .pointer (some ⟨b1, 0 + 93, none⟩), iV f.ttl, .pointer (some ⟨b1, 0 + 58, none⟩), .agg (cIt f (.slice av1 f.val.length cv1)).toArray, .agg (cIt f (.slice a7 f.val.length c7)).toArray, .pointer (some ⟨b1, 0 + 94, none⟩), .slice ax1 f.txt.length cx1, .slice a8 f.txt.length c8, .agg (cI f.a ++ cI f.b ++ ([iV f.n] : List Value) ++ ([iV f.op] : List Value) ++ ([iV f.ttl] : List Value) ++ cIt f (.slice a7 f.val.length c7) ++ ([.slice a8 f.txt.length c8] : List Value)).toArray, .iface 136 (.agg (cI f.a ++ cI f.b ++ ([iV f.n] : List Value) ++ ([iV f.op] : List Value) ++ ([iV f.ttl] : List Value) ++ cIt f (.slice a7 f.val.length c7) ++ ([.slice a8 f.txt.length c8] : List Value)).toArray)]) (fun m x => match x with | ⟨a7, c7, a8, c8⟩ => fun w1 => ((m 16 = true → m 12 = true) ∧ (m 16 = true → m 15 = true) ∧ (m 17 = true → m 12 = true) ∧ (m 17 = true → m 15 = true)) ∧ St w [] ((b1, cb (cFG f ⟨.slice at1 f.tr.length ct1, .slice ai1 f.ids.length ci1, .slice av1 f.val.length cv1, .slice ax1 f.txt.length cx1⟩) 52) :: []) w1) Ty.mixed rfl rfl rfl (by kernel_rfl) rfl rfl ?hinit ?hstep ?htail
  case hinit => exact fun w1 hw => ⟨(none, 0, none, 0), ⟨fun h => (by cases h), fun h => (by cases h), fun h => (by cases h), fun h => (by cases h)⟩, hw.drew⟩
  case hstep =>
    refine ⟨fun m x hm hp => ?_, fun m x hm hp => ?_, fun m x hm hp => ?_, fun m x hm hp => ?_, fun m x hm hp => ?_, fun m x hm hp => ?_, fun m x hm hp => ?_, fun m x hm hp => ?_, fun m x hm hp => ?_, fun m x hm hp => ?_, fun m x hm hp => ?_, fun m x hm hp => ?_, fun m x hm hp => ?_, fun m x hm hp => ?_, fun m x hm hp => ?_, fun m x hm hp => ?_, fun m x hm hp => ?_, fun m x hm hp => ?_, trivial⟩
    · skip
      obtain ⟨a7, c7, a8, c8⟩ := x
      show J _ _ _ _ _ (_) _
      refine J.pr (fun hF => ?_)
      refine J.fieldAddr Ty.fd52_3 rfl rfl ?_
      exact J.finX rfl (fun _ hw => ⟨⟨a7, c7, a8, c8⟩, rfl, fun _ _ _ => rfl, hF, hw⟩)
    · skip
      obtain ⟨a7, c7, a8, c8⟩ := x
      show J _ _ _ _ _ ((104, .pointer (some ⟨b1, 0 + 19, none⟩)) :: _) _
      refine J.pr (fun hF => ?_)
      refine J.loadOA (vs := cI f.a) Ty.a23 Ty.s23 rfl (.head _) rfl rfl rfl ?_
      exact J.finX rfl (fun _ hw => ⟨⟨a7, c7, a8, c8⟩, rfl, fun _ _ _ => rfl, hF, hw⟩)
    · skip
      obtain ⟨a7, c7, a8, c8⟩ := x
      show J _ _ _ _ _ (_) _
      refine J.pr (fun hF => ?_)
      refine J.fieldAddr Ty.fd52_4 rfl rfl ?_
      exact J.finX rfl (fun _ hw => ⟨⟨a7, c7, a8, c8⟩, rfl, fun _ _ _ => rfl, hF, hw⟩)
    · skip
      obtain ⟨a7, c7, a8, c8⟩ := x
      show J _ _ _ _ _ ((106, .pointer (some ⟨b1, 0 + 35, none⟩)) :: _) _
      refine J.pr (fun hF => ?_)
      refine J.loadOA (vs := cI f.b) Ty.a23 Ty.s23 rfl (.head _) rfl rfl rfl ?_
      exact J.finX rfl (fun _ hw => ⟨⟨a7, c7, a8, c8⟩, rfl, fun _ _ _ => rfl, hF, hw⟩)
    · skip
      obtain ⟨a7, c7, a8, c8⟩ := x
      show J _ _ _ _ _ (_) _
      refine J.pr (fun hF => ?_)
      refine J.fieldAddr Ty.fd52_5 rfl rfl ?_
      exact J.finX rfl (fun _ hw => ⟨⟨a7, c7, a8, c8⟩, rfl, fun _ _ _ => rfl, hF, hw⟩)
    · skip
      obtain ⟨a7, c7, a8, c8⟩ := x
      show J _ _ _ _ _ ((108, .pointer (some ⟨b1, 0 + 51, none⟩)) :: _) _
      refine J.pr (fun hF => ?_)
      refine J.loadO (v := iV f.n) Ty.a2 rfl (.head _) rfl rfl ?_
      exact J.finX rfl (fun _ hw => ⟨⟨a7, c7, a8, c8⟩, rfl, fun _ _ _ => rfl, hF, hw⟩)
    · skip
      obtain ⟨a7, c7, a8, c8⟩ := x
      show J _ _ _ _ _ (_) _
      refine J.pr (fun hF => ?_)
      refine J.fieldAddr Ty.fd52_11 rfl rfl ?_
      exact J.finX rfl (fun _ hw => ⟨⟨a7, c7, a8, c8⟩, rfl, fun _ _ _ => rfl, hF, hw⟩)
    · skip
      obtain ⟨a7, c7, a8, c8⟩ := x
      show J _ _ _ _ _ ((110, .pointer (some ⟨b1, 0 + 92, none⟩)) :: _) _
      refine J.pr (fun hF => ?_)
      refine J.loadO (v := iV f.op) Ty.a3 rfl (.head _) rfl rfl ?_
      exact J.finX rfl (fun _ hw => ⟨⟨a7, c7, a8, c8⟩, rfl, fun _ _ _ => rfl, hF, hw⟩)
    · skip
      obtain ⟨a7, c7, a8, c8⟩ := x
      show J _ _ _ _ _ (_) _
      refine J.pr (fun hF => ?_)
      refine J.fieldAddr Ty.fd52_12 rfl rfl ?_
      exact J.finX rfl (fun _ hw => ⟨⟨a7, c7, a8, c8⟩, rfl, fun _ _ _ => rfl, hF, hw⟩)
    · skip
      obtain ⟨a7, c7, a8, c8⟩ := x
      show J _ _ _ _ _ ((112, .pointer (some ⟨b1, 0 + 93, none⟩)) :: _) _
      refine J.pr (fun hF => ?_)
      refine J.loadO (v := iV f.ttl) Ty.a3 rfl (.head _) rfl rfl ?_
      exact J.finX rfl (fun _ hw => ⟨⟨a7, c7, a8, c8⟩, rfl, fun _ _ _ => rfl, hF, hw⟩)
    · skip
      obtain ⟨a7, c7, a8, c8⟩ := x
      show J _ _ _ _ _ (_) _
      refine J.pr (fun hF => ?_)
      refine J.fieldAddr Ty.fd52_10 rfl rfl ?_
      exact J.finX rfl (fun _ hw => ⟨⟨a7, c7, a8, c8⟩, rfl, fun _ _ _ => rfl, hF, hw⟩)
    · skip
      obtain ⟨a7, c7, a8, c8⟩ := x
      show J _ _ _ _ _ ((114, .pointer (some ⟨b1, 0 + 58, none⟩)) :: _) _
      refine J.pr (fun hF => ?_)
      refine J.loadOA (vs := cIt f (.slice av1 f.val.length cv1)) Ty.a50 Ty.s50 rfl (.head _) rfl rfl rfl ?_
      exact J.finX rfl (fun _ hw => ⟨⟨a7, c7, a8, c8⟩, rfl, fun _ _ _ => rfl, hF, hw⟩)
    · skip
      obtain ⟨a7, c7, a8, c8⟩ := x
      show J _ _ _ _ _ ((115, .agg (cIt f (.slice av1 f.val.length cv1)).toArray) :: _) _
      refine J.pr (fun hF => ?_)
      refine J.callS (α := Option Addr × Nat) (V := fun x => .agg (cIt f (.slice x.1 f.val.length x.2)).toArray) (Pr := fun _ => True) (L := fun _ => []) (l1 := []) Ty.bd69 rfl rfl (fun w1 hw => item_spec f _ w1 (hs.val.below hw.below) hg.val) (fun x _ => ?_)
      obtain ⟨a7n, c7n⟩ := x
      simp only
      refine J.perm ((b1, cb (cFG f ⟨.slice at1 f.tr.length ct1, .slice ai1 f.ids.length ci1, .slice av1 f.val.length cv1, .slice ax1 f.txt.length cx1⟩) 52) :: []) (.refl _) ?_
      refine J.nil (JX.finB rfl (fun w1 hw => ⟨⟨⟨a7n, c7n, a8, c8⟩, rfl, fun j h1 h2 => ?_, ?_⟩, trivial⟩))
      · match j, h1 with
        | 0, _ => (first | rfl | trivial)
        | 1, _ => (first | rfl | trivial)
        | 2, _ => (first | rfl | trivial)
        | 3, _ => (first | rfl | trivial)
        | 4, _ => (first | rfl | trivial)
        | 5, _ => (first | rfl | trivial)
        | 6, _ => (first | rfl | trivial)
        | 7, _ => (first | rfl | trivial)
        | 8, _ => (first | rfl | trivial)
        | 9, _ => (first | rfl | trivial)
        | 10, _ => (first | rfl | trivial)
        | 11, _ => (first | rfl | trivial)
        | 12, _ => exact absurd (h2.symm.trans hm) (by decide)
        | 13, _ => (first | rfl | trivial)
        | 14, _ => (first | rfl | trivial)
        | 15, _ => (first | rfl | trivial)
        | 16, _ => exact absurd ((hF.1 h2).symm.trans hm) (by decide)
        | 17, _ => exact absurd ((hF.2.2.1 h2).symm.trans hm) (by decide)
        | j + 18, h1 => omega
      show ((m 16 = true → true = true) ∧ (m 16 = true → m 15 = true) ∧ (m 17 = true → true = true) ∧ (m 17 = true → m 15 = true)) ∧ St w [] ((b1, cb (cFG f ⟨.slice at1 f.tr.length ct1, .slice ai1 f.ids.length ci1, .slice av1 f.val.length cv1, .slice ax1 f.txt.length cx1⟩) 52) :: []) w1
      exact ⟨⟨fun _ => (by first | trivial | rfl), hF.2.1, fun _ => (by first | trivial | rfl), hF.2.2.2⟩, hw⟩
    · skip
      obtain ⟨a7, c7, a8, c8⟩ := x
      show J _ _ _ _ _ (_) _
      refine J.pr (fun hF => ?_)
      refine J.fieldAddr Ty.fd52_13 rfl rfl ?_
      exact J.finX rfl (fun _ hw => ⟨⟨a7, c7, a8, c8⟩, rfl, fun _ _ _ => rfl, hF, hw⟩)
    · skip
      obtain ⟨a7, c7, a8, c8⟩ := x
      show J _ _ _ _ _ ((117, .pointer (some ⟨b1, 0 + 94, none⟩)) :: _) _
      refine J.pr (fun hF => ?_)
      refine J.loadO (v := .slice ax1 f.txt.length cx1) Ty.a48 rfl (.head _) rfl rfl ?_
      exact J.finX rfl (fun _ hw => ⟨⟨a7, c7, a8, c8⟩, rfl, fun _ _ _ => rfl, hF, hw⟩)
    · skip
      obtain ⟨a7, c7, a8, c8⟩ := x
      show J _ _ _ _ _ ((116, .agg (cIt f (.slice a7 f.val.length c7)).toArray) :: (118, .slice ax1 f.txt.length cx1) :: _) _
      have hp12 : m 12 = true := predsT hp (by kernel_rfl)
      refine J.pr (fun hF => ?_)
      have hbd := hg.txt
      refine J.append (lp := []) (xs := []) (ys := f.txt.map u8) (k := 0) (m := f.txt.length) Ty.el48 Ty.s5 Ty.b5 Ty.z5 rfl (.inl ⟨5, Ty.u48⟩) rfl rfl (Vec.nil _ _) (fun w1 hw => .inl (hs.txt.below hw.below)) (by simp) (by simp [Value.oneCell']) (by omega) (by omega) rfl (fun v8n lp8n hv8 => ?_)
      rw [Nat.zero_add, List.nil_append] at hv8
      obtain ⟨a8n, c8n, rfl, _⟩ := hv8.form
      refine J.conseq (I' := St w [] ((b1, cb (cFG f ⟨.slice at1 f.tr.length ct1, .slice ai1 f.ids.length ci1, .slice av1 f.val.length cv1, .slice ax1 f.txt.length cx1⟩) 52) :: [])) ?_ (fun w1 hw => hw.drop (List.sublist_append_right _ _))
      refine J.nil (JX.finB rfl (fun w1 hw => ⟨⟨⟨a7, c7, a8n, c8n⟩, rfl, fun j h1 h2 => ?_, ?_⟩, trivial⟩))
      · match j, h1 with
        | 0, _ => (first | rfl | trivial)
        | 1, _ => (first | rfl | trivial)
        | 2, _ => (first | rfl | trivial)
        | 3, _ => (first | rfl | trivial)
        | 4, _ => (first | rfl | trivial)
        | 5, _ => (first | rfl | trivial)
        | 6, _ => (first | rfl | trivial)
        | 7, _ => (first | rfl | trivial)
        | 8, _ => (first | rfl | trivial)
        | 9, _ => (first | rfl | trivial)
        | 10, _ => (first | rfl | trivial)
        | 11, _ => (first | rfl | trivial)
        | 12, _ => (first | rfl | trivial)
        | 13, _ => (first | rfl | trivial)
        | 14, _ => (first | rfl | trivial)
        | 15, _ => exact absurd (h2.symm.trans hm) (by decide)
        | 16, _ => exact absurd ((hF.2.1 h2).symm.trans hm) (by decide)
        | 17, _ => exact absurd ((hF.2.2.2 h2).symm.trans hm) (by decide)
        | j + 18, h1 => omega
      show ((m 16 = true → m 12 = true) ∧ (m 16 = true → true = true) ∧ (m 17 = true → m 12 = true) ∧ (m 17 = true → true = true)) ∧ St w [] ((b1, cb (cFG f ⟨.slice at1 f.tr.length ct1, .slice ai1 f.ids.length ci1, .slice av1 f.val.length cv1, .slice ax1 f.txt.length cx1⟩) 52) :: []) w1
      exact ⟨⟨hF.1, fun _ => (by first | trivial | rfl), hF.2.2.1, fun _ => (by first | trivial | rfl)⟩, hw⟩
    · skip
      obtain ⟨a7, c7, a8, c8⟩ := x
      show J _ _ _ _ _ ((119, .slice a8 f.txt.length c8) :: (116, .agg (cIt f (.slice a7 f.val.length c7)).toArray) :: (113, iV f.ttl) :: (111, iV f.op) :: (109, iV f.n) :: (107, .agg (cI f.b).toArray) :: (105, .agg (cI f.a).toArray) :: _) _
      have hp12 : m 12 = true := predsT hp (by kernel_rfl)
      have hp15 : m 15 = true := predsT hp (by kernel_rfl)
      refine J.pr (fun hF => ?_)
      refine J.buildS (cs := cI f.a ++ cI f.b ++ ([iV f.n] : List Value) ++ ([iV f.op] : List Value) ++ ([iV f.ttl] : List Value) ++ cIt f (.slice a7 f.val.length c7) ++ ([.slice a8 f.txt.length c8] : List Value)) Ty.pl136 Ty.z136 rfl (by kernel_rfl) rfl ?_
      refine J.nil (JX.finB rfl (fun w1 hw => ⟨⟨⟨a7, c7, a8, c8⟩, rfl, fun j h1 h2 => ?_, ?_⟩, trivial⟩))
      · match j, h1 with
        | 0, _ => (first | rfl | trivial)
        | 1, _ => (first | rfl | trivial)
        | 2, _ => (first | rfl | trivial)
        | 3, _ => (first | rfl | trivial)
        | 4, _ => (first | rfl | trivial)
        | 5, _ => (first | rfl | trivial)
        | 6, _ => (first | rfl | trivial)
        | 7, _ => (first | rfl | trivial)
        | 8, _ => (first | rfl | trivial)
        | 9, _ => (first | rfl | trivial)
        | 10, _ => (first | rfl | trivial)
        | 11, _ => (first | rfl | trivial)
        | 12, _ => (first | rfl | trivial)
        | 13, _ => (first | rfl | trivial)
        | 14, _ => (first | rfl | trivial)
        | 15, _ => (first | rfl | trivial)
        | 16, _ => (first | rfl | trivial)
        | 17, _ => (first | rfl | trivial)
        | j + 18, h1 => omega
      show ((true = true → m 12 = true) ∧ (true = true → m 15 = true) ∧ (m 17 = true → m 12 = true) ∧ (m 17 = true → m 15 = true)) ∧ St w [] ((b1, cb (cFG f ⟨.slice at1 f.tr.length ct1, .slice ai1 f.ids.length ci1, .slice av1 f.val.length cv1, .slice ax1 f.txt.length cx1⟩) 52) :: []) w1
      exact ⟨⟨fun _ => hp12, fun _ => hp15, hF.2.2.1, hF.2.2.2⟩, hw⟩
    · skip
      obtain ⟨a7, c7, a8, c8⟩ := x
      show J _ _ _ _ _ ((120, .agg (cI f.a ++ cI f.b ++ ([iV f.n] : List Value) ++ ([iV f.op] : List Value) ++ ([iV f.ttl] : List Value) ++ cIt f (.slice a7 f.val.length c7) ++ ([.slice a8 f.txt.length c8] : List Value)).toArray) :: _) _
      have hp16 : m 16 = true := predsT hp (by kernel_rfl)
      refine J.pr (fun hF => ?_)
      refine J.iface (by kernel_rfl) rfl rfl ?_
      refine J.nil (JX.finB rfl (fun w1 hw => ⟨⟨⟨a7, c7, a8, c8⟩, rfl, fun j h1 h2 => ?_, ?_⟩, trivial⟩))
      · match j, h1 with
        | 0, _ => (first | rfl | trivial)
        | 1, _ => (first | rfl | trivial)
        | 2, _ => (first | rfl | trivial)
        | 3, _ => (first | rfl | trivial)
        | 4, _ => (first | rfl | trivial)
        | 5, _ => (first | rfl | trivial)
        | 6, _ => (first | rfl | trivial)
        | 7, _ => (first | rfl | trivial)
        | 8, _ => (first | rfl | trivial)
        | 9, _ => (first | rfl | trivial)
        | 10, _ => (first | rfl | trivial)
        | 11, _ => (first | rfl | trivial)
        | 12, _ => (first | rfl | trivial)
        | 13, _ => (first | rfl | trivial)
        | 14, _ => (first | rfl | trivial)
        | 15, _ => (first | rfl | trivial)
        | 16, _ => (first | rfl | trivial)
        | 17, _ => (first | rfl | trivial)
        | j + 18, h1 => omega
      show ((m 16 = true → m 12 = true) ∧ (m 16 = true → m 15 = true) ∧ (true = true → m 12 = true) ∧ (true = true → m 15 = true)) ∧ St w [] ((b1, cb (cFG f ⟨.slice at1 f.tr.length ct1, .slice ai1 f.ids.length ci1, .slice av1 f.val.length cv1, .slice ax1 f.txt.length cx1⟩) 52) :: []) w1
      exact ⟨⟨hF.1, hF.2.1, fun _ => hF.1 hp16, fun _ => hF.2.1 hp16⟩, hw⟩
  case htail =>
    intro x
    obtain ⟨a7, c7, a8, c8⟩ := x
    show J _ _ _ _ _ ((121, .iface 136 (.agg (cI f.a ++ cI f.b ++ ([iV f.n] : List Value) ++ ([iV f.op] : List Value) ++ ([iV f.ttl] : List Value) ++ cIt f (.slice a7 f.val.length c7) ++ ([.slice a8 f.txt.length c8] : List Value)).toArray)) :: (120, .agg (cI f.a ++ cI f.b ++ ([iV f.n] : List Value) ++ ([iV f.op] : List Value) ++ ([iV f.ttl] : List Value) ++ cIt f (.slice a7 f.val.length c7) ++ ([.slice a8 f.txt.length c8] : List Value)).toArray) :: (119, .slice a8 f.txt.length c8) :: (118, .slice ax1 f.txt.length cx1) :: (117, .pointer (some ⟨b1, 0 + 94, none⟩)) :: (116, .agg (cIt f (.slice a7 f.val.length c7)).toArray) :: (115, .agg (cIt f (.slice av1 f.val.length cv1)).toArray) :: (114, .pointer (some ⟨b1, 0 + 58, none⟩)) :: (113, iV f.ttl) :: (112, .pointer (some ⟨b1, 0 + 93, none⟩)) :: (111, iV f.op) :: (110, .pointer (some ⟨b1, 0 + 92, none⟩)) :: (109, iV f.n) :: (108, .pointer (some ⟨b1, 0 + 51, none⟩)) :: (107, .agg (cI f.b).toArray) :: (106, .pointer (some ⟨b1, 0 + 35, none⟩)) :: (105, .agg (cI f.a).toArray) :: (104, .pointer (some ⟨b1, 0 + 19, none⟩)) :: _) (fun w1 => ((true = true → true = true) ∧ (true = true → true = true) ∧ (true = true → true = true) ∧ (true = true → true = true)) ∧ St w [] ((b1, cb (cFG f ⟨.slice at1 f.tr.length ct1, .slice ai1 f.ids.length ci1, .slice av1 f.val.length cv1, .slice ax1 f.txt.length cx1⟩) 52) :: []) w1)
    refine J.pr (fun hF => ?_)
    refine J.assign rfl rfl ?_
    refine J.assign rfl rfl ?_
    refine J.nil ?_
    refine JX.thenN (hK13 _ _ ?_)
    refine JC.ret ?_
    refine JX.blockR ?_
    refine JX.thenR ?_
    refine JX.ret2 rfl rfl rfl (fun w hw => ?_)
    exact ⟨(_, _), rfl, .inr ⟨_, _, rfl, rfl⟩, hw.drop (List.nil_sublist _)⟩

set_option maxHeartbeats 1000000 in
theorem of_11 (f : FV) (s : FSl) (w : World) (hs : FRows w f s) (hg : BigF f) (hk : f.k = 11) :
    Calls Try.prog 55 [.agg (cFG f s).toArray].toArray w fun r w' => ∃ x : Value × Bool, r = .returned (.tuple #[x.1, .bool x.2]) ∧ NoSetup x.1 ∧ St w [] [] w' := by
  obtain ⟨vt1, vi1, vv1, vx1⟩ := s
  obtain ⟨at1, ct1, hh, _, _⟩ := _root_.id hs.tr
  simp only at hh
  subst hh
  obtain ⟨ai1, ci1, hh, _, _⟩ := _root_.id hs.ids
  simp only at hh
  subst hh
  obtain ⟨av1, cv1, hh, _, _⟩ := _root_.id hs.val
  simp only at hh
  subst hh
  obtain ⟨ax1, cx1, hh, _, _⟩ := _root_.id hs.txt
  simp only at hh
  subst hh
  refine calls_of_J (args := [.agg (cFG f ⟨.slice at1 f.tr.length ct1, .slice ai1 f.ids.length ci1, .slice av1 f.val.length cv1, .slice ax1 f.txt.length cx1⟩).toArray]) (e := [(0, .agg (cFG f ⟨.slice at1 f.tr.length ct1, .slice ai1 f.ids.length ci1, .slice av1 f.val.length cv1, .slice ax1 f.txt.length cx1⟩).toArray)]) Try.func55 rfl rfl ⟨rfl, trivial⟩ (St.start w) ?_
  refine JC.seq (fun K0 hK0 => ?_)
  refine JC.region ?_
  refine J.box rfl rfl rfl (fun b1 => ?_)
  refine J.assign rfl rfl ?_
  refine J.assign rfl rfl ?_
  refine J.nil ?_
  refine JX.thenN (hK0 _ _ ?_)
  refine JC.seq (fun K1 hK1 => ?_)
  refine JC.seq (fun K2 hK2 => ?_)
  refine JC.region ?_
  refine J.fieldAddr Ty.fd52_0 rfl rfl ?_
  refine J.loadO Ty.a3 rfl (by repeat first | exact .head _ | apply List.Mem.tail | apply List.mem_append_right) (by exact rfl) rfl ?_
  refine J.nil ?_
  refine JX.thenN (hK2 _ _ ?_)
  refine JC.block ?_
  refine JC.seq (fun K3 hK3 => ?_)
  refine JC.region ?_
  refine J.bin rfl rfl rfl rfl ?_
  refine J.name 7 rfl (show Value.bool _ = .bool false by simp; omega) ?_
  refine J.assign rfl rfl ?_
  refine J.nil ?_
  refine JX.thenN (hK3 _ _ ?_)
  first | refine JC.condF rfl ?_ | refine JC.cond rfl (fun h => by first | (exfalso; simp at h; omega) | (simp at h)) (fun _ => ?_)
  refine JC.seq (fun K4 hK4 => ?_)
  refine JC.region ?_
  refine J.bin rfl rfl rfl rfl ?_
  refine J.name 17 rfl (show Value.bool _ = .bool false by simp; omega) ?_
  refine J.assign rfl rfl ?_
  refine J.nil ?_
  refine JX.thenN (hK4 _ _ ?_)
  first | refine JC.condF rfl ?_ | refine JC.cond rfl (fun h => by first | (exfalso; simp at h; omega) | (simp at h)) (fun _ => ?_)
  refine JC.seq (fun K5 hK5 => ?_)
  refine JC.region ?_
  refine J.bin rfl rfl rfl rfl ?_
  refine J.name 30 rfl (show Value.bool _ = .bool false by simp; omega) ?_
  refine J.assign rfl rfl ?_
  refine J.nil ?_
  refine JX.thenN (hK5 _ _ ?_)
  first | refine JC.condF rfl ?_ | refine JC.cond rfl (fun h => by first | (exfalso; simp at h; omega) | (simp at h)) (fun _ => ?_)
  refine JC.seq (fun K6 hK6 => ?_)
  refine JC.region ?_
  refine J.bin rfl rfl rfl rfl ?_
  refine J.name 40 rfl (show Value.bool _ = .bool false by simp; omega) ?_
  refine J.assign rfl rfl ?_
  refine J.nil ?_
  refine JX.thenN (hK6 _ _ ?_)
  first | refine JC.condF rfl ?_ | refine JC.cond rfl (fun h => by first | (exfalso; simp at h; omega) | (simp at h)) (fun _ => ?_)
  refine JC.seq (fun K7 hK7 => ?_)
  refine JC.region ?_
  refine J.bin rfl rfl rfl rfl ?_
  refine J.name 53 rfl (show Value.bool _ = .bool false by simp; omega) ?_
  refine J.assign rfl rfl ?_
  refine J.nil ?_
  refine JX.thenN (hK7 _ _ ?_)
  first | refine JC.condF rfl ?_ | refine JC.cond rfl (fun h => by first | (exfalso; simp at h; omega) | (simp at h)) (fun _ => ?_)
  refine JC.seq (fun K8 hK8 => ?_)
  refine JC.region ?_
  refine J.bin rfl rfl rfl rfl ?_
  refine J.name 59 rfl (show Value.bool _ = .bool false by simp; omega) ?_
  refine J.assign rfl rfl ?_
  refine J.nil ?_
  refine JX.thenN (hK8 _ _ ?_)
  first | refine JC.condF rfl ?_ | refine JC.cond rfl (fun h => by first | (exfalso; simp at h; omega) | (simp at h)) (fun _ => ?_)
  refine JC.seq (fun K9 hK9 => ?_)
  refine JC.region ?_
  refine J.bin rfl rfl rfl rfl ?_
  refine J.name 67 rfl (show Value.bool _ = .bool false by simp; omega) ?_
  refine J.assign rfl rfl ?_
  refine J.nil ?_
  refine JX.thenN (hK9 _ _ ?_)
  first | refine JC.condF rfl ?_ | refine JC.cond rfl (fun h => by first | (exfalso; simp at h; omega) | (simp at h)) (fun _ => ?_)
  refine JC.seq (fun K10 hK10 => ?_)
  refine JC.region ?_
  refine J.bin rfl rfl rfl rfl ?_
  refine J.name 78 rfl (show Value.bool _ = .bool false by simp; omega) ?_
  refine J.assign rfl rfl ?_
  refine J.nil ?_
  refine JX.thenN (hK10 _ _ ?_)
  first | refine JC.condF rfl ?_ | refine JC.cond rfl (fun h => by first | (exfalso; simp at h; omega) | (simp at h)) (fun _ => ?_)
  refine JC.seq (fun K11 hK11 => ?_)
  refine JC.region ?_
  refine J.bin rfl rfl rfl rfl ?_
  refine J.name 95 rfl (show Value.bool _ = .bool false by simp; omega) ?_
  refine J.assign rfl rfl ?_
  refine J.nil ?_
  refine JX.thenN (hK11 _ _ ?_)
  first | refine JC.condF rfl ?_ | refine JC.cond rfl (fun h => by first | (exfalso; simp at h; omega) | (simp at h)) (fun _ => ?_)
  refine JC.seq (fun K12 hK12 => ?_)
  refine JC.region ?_
  refine J.bin rfl rfl rfl rfl ?_
  refine J.name 103 rfl (show Value.bool _ = .bool false by simp; omega) ?_
  refine J.assign rfl rfl ?_
  refine J.nil ?_
  refine JX.thenN (hK12 _ _ ?_)
  first | refine JC.condF rfl ?_ | refine JC.cond rfl (fun h => by first | (exfalso; simp at h; omega) | (simp at h)) (fun _ => ?_)
  refine JC.seq (fun K13 hK13 => ?_)
  refine JC.region ?_
  refine J.bin rfl rfl rfl rfl ?_
  refine J.name 123 rfl (show Value.bool _ = .bool true by simp; omega) ?_
  refine J.assign rfl rfl ?_
  refine J.nil ?_
  refine JX.thenN (hK13 _ _ ?_)
  first | refine JC.condT rfl ?_ | refine JC.cond rfl (fun _ => ?_) (fun h => by first | (exfalso; simp at h; omega) | (simp at h))
  refine JC.seq (fun K14 hK14 => ?_)
  apply JC.drawX (α := Option Addr × Nat) 9 (fun x => match x with | ⟨a7, c7⟩ => [.pointer (some ⟨b1, 0 + 1, none⟩), .agg (cP f.p).toArray, .pointer (some ⟨b1, 0 + 18, none⟩), .bool f.toA, .pointer (some ⟨b1, 0 + 58, none⟩), .agg (cIt f (.slice av1 f.val.length cv1)).toArray, .agg (cIt f (.slice a7 f.val.length c7)).toArray, .agg (cP f.p ++ ([.bool f.toA] : List Value) ++ cIt f (.slice a7 f.val.length c7)).toArray, .iface 139 (.agg (cP f.p ++ ([.bool f.toA] : List Value) ++ cIt f (.slice a7 f.val.length c7)).toArray)]) (fun m x => match x with | ⟨a7, c7⟩ => fun w1 => ((m 7 = true → m 6 = true) ∧ (m 8 = true → m 6 = true)) ∧ St w [] ((b1, cb (cFG f ⟨.slice at1 f.tr.length ct1, .slice ai1 f.ids.length ci1, .slice av1 f.val.length cv1, .slice ax1 f.txt.length cx1⟩) 52) :: []) w1) Ty.mixed rfl rfl rfl (by kernel_rfl) rfl rfl ?hinit ?hstep ?htail
  case hinit => exact fun w1 hw => ⟨(none, 0), ⟨fun h => (by cases h), fun h => (by cases h)⟩, hw.drew⟩
  case hstep =>
    refine ⟨fun m x hm hp => ?_, fun m x hm hp => ?_, fun m x hm hp => ?_, fun m x hm hp => ?_, fun m x hm hp => ?_, fun m x hm hp => ?_, fun m x hm hp => ?_, fun m x hm hp => ?_, fun m x hm hp => ?_, trivial⟩
    · skip
      obtain ⟨a7, c7⟩ := x
      show J _ _ _ _ _ (_) _
      refine J.pr (fun hF => ?_)
      refine J.fieldAddr Ty.fd52_1 rfl rfl ?_
      exact J.finX rfl (fun _ hw => ⟨⟨a7, c7⟩, rfl, fun _ _ _ => rfl, hF, hw⟩)
    · skip
      obtain ⟨a7, c7⟩ := x
      show J _ _ _ _ _ ((124, .pointer (some ⟨b1, 0 + 1, none⟩)) :: _) _
      refine J.pr (fun hF => ?_)
      refine J.loadOA (vs := cP f.p) Ty.a25 Ty.s25 rfl (.head _) rfl rfl rfl ?_
      exact J.finX rfl (fun _ hw => ⟨⟨a7, c7⟩, rfl, fun _ _ _ => rfl, hF, hw⟩)
    · skip
      obtain ⟨a7, c7⟩ := x
      show J _ _ _ _ _ (_) _
      refine J.pr (fun hF => ?_)
      refine J.fieldAddr Ty.fd52_2 rfl rfl ?_
      exact J.finX rfl (fun _ hw => ⟨⟨a7, c7⟩, rfl, fun _ _ _ => rfl, hF, hw⟩)
    · skip
      obtain ⟨a7, c7⟩ := x
      show J _ _ _ _ _ ((126, .pointer (some ⟨b1, 0 + 18, none⟩)) :: _) _
      refine J.pr (fun hF => ?_)
      refine J.loadO (v := .bool f.toA) Ty.a4 rfl (.head _) rfl rfl ?_
      exact J.finX rfl (fun _ hw => ⟨⟨a7, c7⟩, rfl, fun _ _ _ => rfl, hF, hw⟩)
    · skip
      obtain ⟨a7, c7⟩ := x
      show J _ _ _ _ _ (_) _
      refine J.pr (fun hF => ?_)
      refine J.fieldAddr Ty.fd52_10 rfl rfl ?_
      exact J.finX rfl (fun _ hw => ⟨⟨a7, c7⟩, rfl, fun _ _ _ => rfl, hF, hw⟩)
    · skip
      obtain ⟨a7, c7⟩ := x
      show J _ _ _ _ _ ((128, .pointer (some ⟨b1, 0 + 58, none⟩)) :: _) _
      refine J.pr (fun hF => ?_)
      refine J.loadOA (vs := cIt f (.slice av1 f.val.length cv1)) Ty.a50 Ty.s50 rfl (.head _) rfl rfl rfl ?_
      exact J.finX rfl (fun _ hw => ⟨⟨a7, c7⟩, rfl, fun _ _ _ => rfl, hF, hw⟩)
    · skip
      obtain ⟨a7, c7⟩ := x
      show J _ _ _ _ _ ((129, .agg (cIt f (.slice av1 f.val.length cv1)).toArray) :: _) _
      refine J.pr (fun hF => ?_)
      refine J.callS (α := Option Addr × Nat) (V := fun x => .agg (cIt f (.slice x.1 f.val.length x.2)).toArray) (Pr := fun _ => True) (L := fun _ => []) (l1 := []) Ty.bd69 rfl rfl (fun w1 hw => item_spec f _ w1 (hs.val.below hw.below) hg.val) (fun x _ => ?_)
      obtain ⟨a7n, c7n⟩ := x
      simp only
      refine J.perm ((b1, cb (cFG f ⟨.slice at1 f.tr.length ct1, .slice ai1 f.ids.length ci1, .slice av1 f.val.length cv1, .slice ax1 f.txt.length cx1⟩) 52) :: []) (.refl _) ?_
      refine J.nil (JX.finB rfl (fun w1 hw => ⟨⟨⟨a7n, c7n⟩, rfl, fun j h1 h2 => ?_, ?_⟩, trivial⟩))
      · match j, h1 with
        | 0, _ => (first | rfl | trivial)
        | 1, _ => (first | rfl | trivial)
        | 2, _ => (first | rfl | trivial)
        | 3, _ => (first | rfl | trivial)
        | 4, _ => (first | rfl | trivial)
        | 5, _ => (first | rfl | trivial)
        | 6, _ => exact absurd (h2.symm.trans hm) (by decide)
        | 7, _ => exact absurd ((hF.1 h2).symm.trans hm) (by decide)
        | 8, _ => exact absurd ((hF.2 h2).symm.trans hm) (by decide)
        | j + 9, h1 => omega
      show ((m 7 = true → true = true) ∧ (m 8 = true → true = true)) ∧ St w [] ((b1, cb (cFG f ⟨.slice at1 f.tr.length ct1, .slice ai1 f.ids.length ci1, .slice av1 f.val.length cv1, .slice ax1 f.txt.length cx1⟩) 52) :: []) w1
      exact ⟨⟨fun _ => (by first | trivial | rfl), fun _ => (by first | trivial | rfl)⟩, hw⟩
    · skip
      obtain ⟨a7, c7⟩ := x
      show J _ _ _ _ _ ((130, .agg (cIt f (.slice a7 f.val.length c7)).toArray) :: (127, .bool f.toA) :: (125, .agg (cP f.p).toArray) :: _) _
      have hp6 : m 6 = true := predsT hp (by kernel_rfl)
      refine J.pr (fun hF => ?_)
      refine J.buildS (cs := cP f.p ++ ([.bool f.toA] : List Value) ++ cIt f (.slice a7 f.val.length c7)) Ty.pl139 Ty.z139 rfl (by kernel_rfl) rfl ?_
      refine J.nil (JX.finB rfl (fun w1 hw => ⟨⟨⟨a7, c7⟩, rfl, fun j h1 h2 => ?_, ?_⟩, trivial⟩))
      · match j, h1 with
        | 0, _ => (first | rfl | trivial)
        | 1, _ => (first | rfl | trivial)
        | 2, _ => (first | rfl | trivial)
        | 3, _ => (first | rfl | trivial)
        | 4, _ => (first | rfl | trivial)
        | 5, _ => (first | rfl | trivial)
        | 6, _ => (first | rfl | trivial)
        | 7, _ => (first | rfl | trivial)
        | 8, _ => (first | rfl | trivial)
        | j + 9, h1 => omega
      show ((true = true → m 6 = true) ∧ (m 8 = true → m 6 = true)) ∧ St w [] ((b1, cb (cFG f ⟨.slice at1 f.tr.length ct1, .slice ai1 f.ids.length ci1, .slice av1 f.val.length cv1, .slice ax1 f.txt.length cx1⟩) 52) :: []) w1
      exact ⟨⟨fun _ => hp6, hF.2⟩, hw⟩
    · skip
      obtain ⟨a7, c7⟩ := x
      show J _ _ _ _ _ ((131, .agg (cP f.p ++ ([.bool f.toA] : List Value) ++ cIt f (.slice a7 f.val.length c7)).toArray) :: _) _
      have hp7 : m 7 = true := predsT hp (by kernel_rfl)
      refine J.pr (fun hF => ?_)
      refine J.iface (by kernel_rfl) rfl rfl ?_
      refine J.nil (JX.finB rfl (fun w1 hw => ⟨⟨⟨a7, c7⟩, rfl, fun j h1 h2 => ?_, ?_⟩, trivial⟩))
      · match j, h1 with
        | 0, _ => (first | rfl | trivial)
        | 1, _ => (first | rfl | trivial)
        | 2, _ => (first | rfl | trivial)
        | 3, _ => (first | rfl | trivial)
        | 4, _ => (first | rfl | trivial)
        | 5, _ => (first | rfl | trivial)
        | 6, _ => (first | rfl | trivial)
        | 7, _ => (first | rfl | trivial)
        | 8, _ => (first | rfl | trivial)
        | j + 9, h1 => omega
      show ((m 7 = true → m 6 = true) ∧ (true = true → m 6 = true)) ∧ St w [] ((b1, cb (cFG f ⟨.slice at1 f.tr.length ct1, .slice ai1 f.ids.length ci1, .slice av1 f.val.length cv1, .slice ax1 f.txt.length cx1⟩) 52) :: []) w1
      exact ⟨⟨hF.1, fun _ => hF.1 hp7⟩, hw⟩
  case htail =>
    intro x
    obtain ⟨a7, c7⟩ := x
    show J _ _ _ _ _ ((132, .iface 139 (.agg (cP f.p ++ ([.bool f.toA] : List Value) ++ cIt f (.slice a7 f.val.length c7)).toArray)) :: (131, .agg (cP f.p ++ ([.bool f.toA] : List Value) ++ cIt f (.slice a7 f.val.length c7)).toArray) :: (130, .agg (cIt f (.slice a7 f.val.length c7)).toArray) :: (129, .agg (cIt f (.slice av1 f.val.length cv1)).toArray) :: (128, .pointer (some ⟨b1, 0 + 58, none⟩)) :: (127, .bool f.toA) :: (126, .pointer (some ⟨b1, 0 + 18, none⟩)) :: (125, .agg (cP f.p).toArray) :: (124, .pointer (some ⟨b1, 0 + 1, none⟩)) :: _) (fun w1 => ((true = true → true = true) ∧ (true = true → true = true)) ∧ St w [] ((b1, cb (cFG f ⟨.slice at1 f.tr.length ct1, .slice ai1 f.ids.length ci1, .slice av1 f.val.length cv1, .slice ax1 f.txt.length cx1⟩) 52) :: []) w1)
    refine J.pr (fun hF => ?_)
    refine J.assign rfl rfl ?_
    refine J.assign rfl rfl ?_
    refine J.nil ?_
    refine JX.thenN (hK14 _ _ ?_)
    refine JC.ret ?_
    refine JX.blockR ?_
    refine JX.thenR ?_
    refine JX.ret2 rfl rfl rfl (fun w hw => ?_)
    exact ⟨(_, _), rfl, .inr ⟨_, _, rfl, rfl⟩, hw.drop (List.nil_sublist _)⟩

set_option maxHeartbeats 1000000 in
theorem of_12 (f : FV) (s : FSl) (w : World) (hs : FRows w f s) (hg : BigF f) (hk : f.k = 12) :
    Calls Try.prog 55 [.agg (cFG f s).toArray].toArray w fun r w' => ∃ x : Value × Bool, r = .returned (.tuple #[x.1, .bool x.2]) ∧ NoSetup x.1 ∧ St w [] [] w' := by
  obtain ⟨vt1, vi1, vv1, vx1⟩ := s
  obtain ⟨at1, ct1, hh, _, _⟩ := _root_.id hs.tr
  simp only at hh
  subst hh
  obtain ⟨ai1, ci1, hh, _, _⟩ := _root_.id hs.ids
  simp only at hh
  subst hh
  obtain ⟨av1, cv1, hh, _, _⟩ := _root_.id hs.val
  simp only at hh
  subst hh
  obtain ⟨ax1, cx1, hh, _, _⟩ := _root_.id hs.txt
  simp only at hh
  subst hh
  refine calls_of_J (args := [.agg (cFG f ⟨.slice at1 f.tr.length ct1, .slice ai1 f.ids.length ci1, .slice av1 f.val.length cv1, .slice ax1 f.txt.length cx1⟩).toArray]) (e := [(0, .agg (cFG f ⟨.slice at1 f.tr.length ct1, .slice ai1 f.ids.length ci1, .slice av1 f.val.length cv1, .slice ax1 f.txt.length cx1⟩).toArray)]) Try.func55 rfl rfl ⟨rfl, trivial⟩ (St.start w) ?_
  refine JC.seq (fun K0 hK0 => ?_)
  refine JC.region ?_
  refine J.box rfl rfl rfl (fun b1 => ?_)
  refine J.assign rfl rfl ?_
  refine J.assign rfl rfl ?_
  refine J.nil ?_
  refine JX.thenN (hK0 _ _ ?_)
  refine JC.seq (fun K1 hK1 => ?_)
  refine JC.seq (fun K2 hK2 => ?_)
  refine JC.region ?_
  refine J.fieldAddr Ty.fd52_0 rfl rfl ?_
  refine J.loadO Ty.a3 rfl (by repeat first | exact .head _ | apply List.Mem.tail | apply List.mem_append_right) (by exact rfl) rfl ?_
  refine J.nil ?_
  refine JX.thenN (hK2 _ _ ?_)
  refine JC.block ?_
  refine JC.seq (fun K3 hK3 => ?_)
  refine JC.region ?_
  refine J.bin rfl rfl rfl rfl ?_
  refine J.name 7 rfl (show Value.bool _ = .bool false by simp; omega) ?_
  refine J.assign rfl rfl ?_
  refine J.nil ?_
  refine JX.thenN (hK3 _ _ ?_)
  first | refine JC.condF rfl ?_ | refine JC.cond rfl (fun h => by first | (exfalso; simp at h; omega) | (simp at h)) (fun _ => ?_)
  refine JC.seq (fun K4 hK4 => ?_)
  refine JC.region ?_
  refine J.bin rfl rfl rfl rfl ?_
  refine J.name 17 rfl (show Value.bool _ = .bool false by simp; omega) ?_
  refine J.assign rfl rfl ?_
  refine J.nil ?_
  refine JX.thenN (hK4 _ _ ?_)
  first | refine JC.condF rfl ?_ | refine JC.cond rfl (fun h => by first | (exfalso; simp at h; omega) | (simp at h)) (fun _ => ?_)
  refine JC.seq (fun K5 hK5 => ?_)
  refine JC.region ?_
  refine J.bin rfl rfl rfl rfl ?_
  refine J.name 30 rfl (show Value.bool _ = .bool false by simp; omega) ?_
  refine J.assign rfl rfl ?_
  refine J.nil ?_
  refine JX.thenN (hK5 _ _ ?_)
  first | refine JC.condF rfl ?_ | refine JC.cond rfl (fun h => by first | (exfalso; simp at h; omega) | (simp at h)) (fun _ => ?_)
  refine JC.seq (fun K6 hK6 => ?_)
  refine JC.region ?_
  refine J.bin rfl rfl rfl rfl ?_
  refine J.name 40 rfl (show Value.bool _ = .bool false by simp; omega) ?_
  refine J.assign rfl rfl ?_
  refine J.nil ?_
  refine JX.thenN (hK6 _ _ ?_)
  first | refine JC.condF rfl ?_ | refine JC.cond rfl (fun h => by first | (exfalso; simp at h; omega) | (simp at h)) (fun _ => ?_)
  refine JC.seq (fun K7 hK7 => ?_)
  refine JC.region ?_
  refine J.bin rfl rfl rfl rfl ?_
  refine J.name 53 rfl (show Value.bool _ = .bool false by simp; omega) ?_
  refine J.assign rfl rfl ?_
  refine J.nil ?_
  refine JX.thenN (hK7 _ _ ?_)
  first | refine JC.condF rfl ?_ | refine JC.cond rfl (fun h => by first | (exfalso; simp at h; omega) | (simp at h)) (fun _ => ?_)
  refine JC.seq (fun K8 hK8 => ?_)
  refine JC.region ?_
  refine J.bin rfl rfl rfl rfl ?_
  refine J.name 59 rfl (show Value.bool _ = .bool false by simp; omega) ?_
  refine J.assign rfl rfl ?_
  refine J.nil ?_
  refine JX.thenN (hK8 _ _ ?_)
  first | refine JC.condF rfl ?_ | refine JC.cond rfl (fun h => by first | (exfalso; simp at h; omega) | (simp at h)) (fun _ => ?_)
  refine JC.seq (fun K9 hK9 => ?_)
  refine JC.region ?_
  refine J.bin rfl rfl rfl rfl ?_
  refine J.name 67 rfl (show Value.bool _ = .bool false by simp; omega) ?_
  refine J.assign rfl rfl ?_
  refine J.nil ?_
  refine JX.thenN (hK9 _ _ ?_)
  first | refine JC.condF rfl ?_ | refine JC.cond rfl (fun h => by first | (exfalso; simp at h; omega) | (simp at h)) (fun _ => ?_)
  refine JC.seq (fun K10 hK10 => ?_)
  refine JC.region ?_
  refine J.bin rfl rfl rfl rfl ?_
  refine J.name 78 rfl (show Value.bool _ = .bool false by simp; omega) ?_
  refine J.assign rfl rfl ?_
  refine J.nil ?_
  refine JX.thenN (hK10 _ _ ?_)
  first | refine JC.condF rfl ?_ | refine JC.cond rfl (fun h => by first | (exfalso; simp at h; omega) | (simp at h)) (fun _ => ?_)
  refine JC.seq (fun K11 hK11 => ?_)
  refine JC.region ?_
  refine J.bin rfl rfl rfl rfl ?_
  refine J.name 95 rfl (show Value.bool _ = .bool false by simp; omega) ?_
  refine J.assign rfl rfl ?_
  refine J.nil ?_
  refine JX.thenN (hK11 _ _ ?_)
  first | refine JC.condF rfl ?_ | refine JC.cond rfl (fun h => by first | (exfalso; simp at h; omega) | (simp at h)) (fun _ => ?_)
  refine JC.seq (fun K12 hK12 => ?_)
  refine JC.region ?_
  refine J.bin rfl rfl rfl rfl ?_
  refine J.name 103 rfl (show Value.bool _ = .bool false by simp; omega) ?_
  refine J.assign rfl rfl ?_
  refine J.nil ?_
  refine JX.thenN (hK12 _ _ ?_)
  first | refine JC.condF rfl ?_ | refine JC.cond rfl (fun h => by first | (exfalso; simp at h; omega) | (simp at h)) (fun _ => ?_)
  refine JC.seq (fun K13 hK13 => ?_)
  refine JC.region ?_
  refine J.bin rfl rfl rfl rfl ?_
  refine J.name 123 rfl (show Value.bool _ = .bool false by simp; omega) ?_
  refine J.assign rfl rfl ?_
  refine J.nil ?_
  refine JX.thenN (hK13 _ _ ?_)
  first | refine JC.condF rfl ?_ | refine JC.cond rfl (fun h => by first | (exfalso; simp at h; omega) | (simp at h)) (fun _ => ?_)
  refine JC.seq (fun K14 hK14 => ?_)
  refine JC.region ?_
  refine J.bin rfl rfl rfl rfl ?_
  refine J.name 134 rfl (show Value.bool _ = .bool true by simp; omega) ?_
  refine J.assign rfl rfl ?_
  refine J.nil ?_
  refine JX.thenN (hK14 _ _ ?_)
  first | refine JC.condT rfl ?_ | refine JC.cond rfl (fun _ => ?_) (fun h => by first | (exfalso; simp at h; omega) | (simp at h))
  refine JC.seq (fun K15 hK15 => ?_)
  refine JC.region ?_
  refine J.fieldAddr Ty.fd52_1 rfl rfl ?_
  refine J.loadOA (vs := cP f.p) Ty.a25 Ty.s25 rfl (.head _) rfl rfl rfl ?_
  refine J.fieldAddr Ty.fd52_2 rfl rfl ?_
  refine J.loadO (v := .bool f.toA) Ty.a4 rfl (.head _) rfl rfl ?_
  refine J.fieldAddr Ty.fd52_10 rfl rfl ?_
  refine J.fieldAddr Ty.fd50_0 rfl rfl ?_
  refine J.loadOA (vs := cI f.key) Ty.a23 Ty.s23 rfl (.head _) rfl rfl rfl ?_
  refine J.fieldAddr Ty.fd52_10 rfl rfl ?_
  refine J.fieldAddr Ty.fd50_1 rfl rfl ?_
  refine J.loadOA (vs := iV f.vn :: cI f.vw) Ty.a47 Ty.s47 rfl (.head _) rfl rfl rfl ?_
  refine J.buildS (cs := cP f.p ++ ([.bool f.toA] : List Value) ++ cI f.key ++ (iV f.vn :: cI f.vw)) Ty.pl141 Ty.z141 rfl (by kernel_rfl) rfl ?_
  refine J.iface (by kernel_rfl) rfl rfl ?_
  refine J.assign rfl rfl ?_
  refine J.assign rfl rfl ?_
  refine J.nil ?_
  refine JX.thenN (hK15 _ _ ?_)
  refine JC.ret ?_
  refine JX.blockR ?_
  refine JX.thenR ?_
  refine JX.ret2 rfl rfl rfl (fun w hw => ?_)
  exact ⟨(_, _), rfl, .inr ⟨_, _, rfl, rfl⟩, hw.drop (List.nil_sublist _)⟩

set_option maxHeartbeats 1000000 in
theorem of_0 (f : FV) (s : FSl) (w : World) (hs : FRows w f s) (hg : BigF f) (hk : f.k < 1 ∨ 12 < f.k) :
    Calls Try.prog 55 [.agg (cFG f s).toArray].toArray w fun r w' => ∃ x : Value × Bool, r = .returned (.tuple #[x.1, .bool x.2]) ∧ NoSetup x.1 ∧ St w [] [] w' := by
  obtain ⟨vt1, vi1, vv1, vx1⟩ := s
  obtain ⟨at1, ct1, hh, _, _⟩ := _root_.id hs.tr
  simp only at hh
  subst hh
  obtain ⟨ai1, ci1, hh, _, _⟩ := _root_.id hs.ids
  simp only at hh
  subst hh
  obtain ⟨av1, cv1, hh, _, _⟩ := _root_.id hs.val
  simp only at hh
  subst hh
  obtain ⟨ax1, cx1, hh, _, _⟩ := _root_.id hs.txt
  simp only at hh
  subst hh
  refine calls_of_J (args := [.agg (cFG f ⟨.slice at1 f.tr.length ct1, .slice ai1 f.ids.length ci1, .slice av1 f.val.length cv1, .slice ax1 f.txt.length cx1⟩).toArray]) (e := [(0, .agg (cFG f ⟨.slice at1 f.tr.length ct1, .slice ai1 f.ids.length ci1, .slice av1 f.val.length cv1, .slice ax1 f.txt.length cx1⟩).toArray)]) Try.func55 rfl rfl ⟨rfl, trivial⟩ (St.start w) ?_
  refine JC.seq (fun K0 hK0 => ?_)
  refine JC.region ?_
  refine J.box rfl rfl rfl (fun b1 => ?_)
  refine J.assign rfl rfl ?_
  refine J.assign rfl rfl ?_
  refine J.nil ?_
  refine JX.thenN (hK0 _ _ ?_)
  refine JC.seq (fun K1 hK1 => ?_)
  refine JC.seq (fun K2 hK2 => ?_)
  refine JC.region ?_
  refine J.fieldAddr Ty.fd52_0 rfl rfl ?_
  refine J.loadO Ty.a3 rfl (by repeat first | exact .head _ | apply List.Mem.tail | apply List.mem_append_right) (by exact rfl) rfl ?_
  refine J.nil ?_
  refine JX.thenN (hK2 _ _ ?_)
  refine JC.block ?_
  refine JC.seq (fun K3 hK3 => ?_)
  refine JC.region ?_
  refine J.bin rfl rfl rfl rfl ?_
  refine J.name 7 rfl (show Value.bool _ = .bool false by simp; omega) ?_
  refine J.assign rfl rfl ?_
  refine J.nil ?_
  refine JX.thenN (hK3 _ _ ?_)
  first | refine JC.condF rfl ?_ | refine JC.cond rfl (fun h => by first | (exfalso; simp at h; omega) | (simp at h)) (fun _ => ?_)
  refine JC.seq (fun K4 hK4 => ?_)
  refine JC.region ?_
  refine J.bin rfl rfl rfl rfl ?_
  refine J.name 17 rfl (show Value.bool _ = .bool false by simp; omega) ?_
  refine J.assign rfl rfl ?_
  refine J.nil ?_
  refine JX.thenN (hK4 _ _ ?_)
  first | refine JC.condF rfl ?_ | refine JC.cond rfl (fun h => by first | (exfalso; simp at h; omega) | (simp at h)) (fun _ => ?_)
  refine JC.seq (fun K5 hK5 => ?_)
  refine JC.region ?_
  refine J.bin rfl rfl rfl rfl ?_
  refine J.name 30 rfl (show Value.bool _ = .bool false by simp; omega) ?_
  refine J.assign rfl rfl ?_
  refine J.nil ?_
  refine JX.thenN (hK5 _ _ ?_)
  first | refine JC.condF rfl ?_ | refine JC.cond rfl (fun h => by first | (exfalso; simp at h; omega) | (simp at h)) (fun _ => ?_)
  refine JC.seq (fun K6 hK6 => ?_)
  refine JC.region ?_
  refine J.bin rfl rfl rfl rfl ?_
  refine J.name 40 rfl (show Value.bool _ = .bool false by simp; omega) ?_
  refine J.assign rfl rfl ?_
  refine J.nil ?_
  refine JX.thenN (hK6 _ _ ?_)
  first | refine JC.condF rfl ?_ | refine JC.cond rfl (fun h => by first | (exfalso; simp at h; omega) | (simp at h)) (fun _ => ?_)
  refine JC.seq (fun K7 hK7 => ?_)
  refine JC.region ?_
  refine J.bin rfl rfl rfl rfl ?_
  refine J.name 53 rfl (show Value.bool _ = .bool false by simp; omega) ?_
  refine J.assign rfl rfl ?_
  refine J.nil ?_
  refine JX.thenN (hK7 _ _ ?_)
  first | refine JC.condF rfl ?_ | refine JC.cond rfl (fun h => by first | (exfalso; simp at h; omega) | (simp at h)) (fun _ => ?_)
  refine JC.seq (fun K8 hK8 => ?_)
  refine JC.region ?_
  refine J.bin rfl rfl rfl rfl ?_
  refine J.name 59 rfl (show Value.bool _ = .bool false by simp; omega) ?_
  refine J.assign rfl rfl ?_
  refine J.nil ?_
  refine JX.thenN (hK8 _ _ ?_)
  first | refine JC.condF rfl ?_ | refine JC.cond rfl (fun h => by first | (exfalso; simp at h; omega) | (simp at h)) (fun _ => ?_)
  refine JC.seq (fun K9 hK9 => ?_)
  refine JC.region ?_
  refine J.bin rfl rfl rfl rfl ?_
  refine J.name 67 rfl (show Value.bool _ = .bool false by simp; omega) ?_
  refine J.assign rfl rfl ?_
  refine J.nil ?_
  refine JX.thenN (hK9 _ _ ?_)
  first | refine JC.condF rfl ?_ | refine JC.cond rfl (fun h => by first | (exfalso; simp at h; omega) | (simp at h)) (fun _ => ?_)
  refine JC.seq (fun K10 hK10 => ?_)
  refine JC.region ?_
  refine J.bin rfl rfl rfl rfl ?_
  refine J.name 78 rfl (show Value.bool _ = .bool false by simp; omega) ?_
  refine J.assign rfl rfl ?_
  refine J.nil ?_
  refine JX.thenN (hK10 _ _ ?_)
  first | refine JC.condF rfl ?_ | refine JC.cond rfl (fun h => by first | (exfalso; simp at h; omega) | (simp at h)) (fun _ => ?_)
  refine JC.seq (fun K11 hK11 => ?_)
  refine JC.region ?_
  refine J.bin rfl rfl rfl rfl ?_
  refine J.name 95 rfl (show Value.bool _ = .bool false by simp; omega) ?_
  refine J.assign rfl rfl ?_
  refine J.nil ?_
  refine JX.thenN (hK11 _ _ ?_)
  first | refine JC.condF rfl ?_ | refine JC.cond rfl (fun h => by first | (exfalso; simp at h; omega) | (simp at h)) (fun _ => ?_)
  refine JC.seq (fun K12 hK12 => ?_)
  refine JC.region ?_
  refine J.bin rfl rfl rfl rfl ?_
  refine J.name 103 rfl (show Value.bool _ = .bool false by simp; omega) ?_
  refine J.assign rfl rfl ?_
  refine J.nil ?_
  refine JX.thenN (hK12 _ _ ?_)
  first | refine JC.condF rfl ?_ | refine JC.cond rfl (fun h => by first | (exfalso; simp at h; omega) | (simp at h)) (fun _ => ?_)
  refine JC.seq (fun K13 hK13 => ?_)
  refine JC.region ?_
  refine J.bin rfl rfl rfl rfl ?_
  refine J.name 123 rfl (show Value.bool _ = .bool false by simp; omega) ?_
  refine J.assign rfl rfl ?_
  refine J.nil ?_
  refine JX.thenN (hK13 _ _ ?_)
  first | refine JC.condF rfl ?_ | refine JC.cond rfl (fun h => by first | (exfalso; simp at h; omega) | (simp at h)) (fun _ => ?_)
  refine JC.seq (fun K14 hK14 => ?_)
  refine JC.region ?_
  refine J.bin rfl rfl rfl rfl ?_
  refine J.name 134 rfl (show Value.bool _ = .bool false by simp; omega) ?_
  refine J.assign rfl rfl ?_
  refine J.nil ?_
  refine JX.thenN (hK14 _ _ ?_)
  first | refine JC.condF rfl ?_ | refine JC.cond rfl (fun h => by first | (exfalso; simp at h; omega) | (simp at h)) (fun _ => ?_)
  refine JC.skip ?_
  refine JX.blockN ?_
  refine JX.thenN (hK1 _ _ ?_)
  refine JC.seq (fun K15 hK15 => ?_)
  refine JC.region ?_
  refine J.assign rfl rfl ?_
  refine J.assign rfl rfl ?_
  refine J.nil ?_
  refine JX.thenN (hK15 _ _ ?_)
  refine JC.ret ?_
  refine JX.ret2 rfl rfl rfl (fun w hw => ?_)
  exact ⟨(_, _), rfl, .inl rfl, hw.drop (List.nil_sublist _)⟩

theorem of_other (f : FV) (s : FSl) (w : World) (hs : FRows w f s) (hg : BigF f) (hk : f.k ≠ 4) : Calls Try.prog 55 [.agg (cFG f s).toArray].toArray w fun r w' => ∃ x : Value × Bool, r = .returned (.tuple #[x.1, .bool x.2]) ∧ NoSetup x.1 ∧ St w [] [] w' := by
  by_cases h1 : f.k = 1
  · exact of_1 f s w hs hg h1
  by_cases h2 : f.k = 2
  · exact of_2 f s w hs hg h2
  by_cases h3 : f.k = 3
  · exact of_3 f s w hs hg h3
  by_cases h5 : f.k = 5
  · exact of_5 f s w hs hg h5
  by_cases h6 : f.k = 6
  · exact of_6 f s w hs hg h6
  by_cases h7 : f.k = 7
  · exact of_7 f s w hs hg h7
  by_cases h8 : f.k = 8
  · exact of_8 f s w hs hg h8
  by_cases h9 : f.k = 9
  · exact of_9 f s w hs hg h9
  by_cases h10 : f.k = 10
  · exact of_10 f s w hs hg h10
  by_cases h11 : f.k = 11
  · exact of_11 f s w hs hg h11
  by_cases h12 : f.k = 12
  · exact of_12 f s w hs hg h12
  exact of_0 f s w hs hg (by omega)

set_option maxHeartbeats 1000000 in
theorem ofG_spec (f : FV) (s : FSl) (w : World) (hs : FRows w f s) (hg : BigF f) (hk : f.k = 4) :
    Calls Try.prog 55 [.agg (cFG f s).toArray].toArray w fun r w' => ∃ x : Value × List (Nat × Obj), r = .returned (.tuple #[.iface 107 (.agg (cS f.p f.a f.b x.1).toArray), .bool true]) ∧ Vec 3 1 x.1 f.tr.length (f.tr.map iV) x.2 ∧ St w [] x.2 w' := by
  obtain ⟨vt1, vi1, vv1, vx1⟩ := s
  obtain ⟨at1, ct1, hh, _, _⟩ := _root_.id hs.tr
  simp only at hh
  subst hh
  obtain ⟨ai1, ci1, hh, _, _⟩ := _root_.id hs.ids
  simp only at hh
  subst hh
  obtain ⟨av1, cv1, hh, _, _⟩ := _root_.id hs.val
  simp only at hh
  subst hh
  obtain ⟨ax1, cx1, hh, _, _⟩ := _root_.id hs.txt
  simp only at hh
  subst hh
  refine calls_of_J (args := [.agg (cFG f ⟨.slice at1 f.tr.length ct1, .slice ai1 f.ids.length ci1, .slice av1 f.val.length cv1, .slice ax1 f.txt.length cx1⟩).toArray]) (e := [(0, .agg (cFG f ⟨.slice at1 f.tr.length ct1, .slice ai1 f.ids.length ci1, .slice av1 f.val.length cv1, .slice ax1 f.txt.length cx1⟩).toArray)]) Try.func55 rfl rfl ⟨rfl, trivial⟩ (St.start w) ?_
  refine JC.seq (fun K0 hK0 => ?_)
  refine JC.region ?_
  refine J.box rfl rfl rfl (fun b1 => ?_)
  refine J.assign rfl rfl ?_
  refine J.assign rfl rfl ?_
  refine J.nil ?_
  refine JX.thenN (hK0 _ _ ?_)
  refine JC.seq (fun K1 hK1 => ?_)
  refine JC.seq (fun K2 hK2 => ?_)
  refine JC.region ?_
  refine J.fieldAddr Ty.fd52_0 rfl rfl ?_
  refine J.loadO Ty.a3 rfl (by repeat first | exact .head _ | apply List.Mem.tail | apply List.mem_append_right) (by exact rfl) rfl ?_
  refine J.nil ?_
  refine JX.thenN (hK2 _ _ ?_)
  refine JC.block ?_
  refine JC.seq (fun K3 hK3 => ?_)
  refine JC.region ?_
  refine J.bin rfl rfl rfl rfl ?_
  refine J.name 7 rfl (show Value.bool _ = .bool false by simp; omega) ?_
  refine J.assign rfl rfl ?_
  refine J.nil ?_
  refine JX.thenN (hK3 _ _ ?_)
  first | refine JC.condF rfl ?_ | refine JC.cond rfl (fun h => by first | (exfalso; simp at h; omega) | (simp at h)) (fun _ => ?_)
  refine JC.seq (fun K4 hK4 => ?_)
  refine JC.region ?_
  refine J.bin rfl rfl rfl rfl ?_
  refine J.name 17 rfl (show Value.bool _ = .bool false by simp; omega) ?_
  refine J.assign rfl rfl ?_
  refine J.nil ?_
  refine JX.thenN (hK4 _ _ ?_)
  first | refine JC.condF rfl ?_ | refine JC.cond rfl (fun h => by first | (exfalso; simp at h; omega) | (simp at h)) (fun _ => ?_)
  refine JC.seq (fun K5 hK5 => ?_)
  refine JC.region ?_
  refine J.bin rfl rfl rfl rfl ?_
  refine J.name 30 rfl (show Value.bool _ = .bool false by simp; omega) ?_
  refine J.assign rfl rfl ?_
  refine J.nil ?_
  refine JX.thenN (hK5 _ _ ?_)
  first | refine JC.condF rfl ?_ | refine JC.cond rfl (fun h => by first | (exfalso; simp at h; omega) | (simp at h)) (fun _ => ?_)
  refine JC.seq (fun K6 hK6 => ?_)
  refine JC.region ?_
  refine J.bin rfl rfl rfl rfl ?_
  refine J.name 40 rfl (show Value.bool _ = .bool true by simp; omega) ?_
  refine J.assign rfl rfl ?_
  refine J.nil ?_
  refine JX.thenN (hK6 _ _ ?_)
  first | refine JC.condT rfl ?_ | refine JC.cond rfl (fun _ => ?_) (fun h => by first | (exfalso; simp at h; omega) | (simp at h))
  refine JC.seq (fun K7 hK7 => ?_)
  apply JC.drawX (α := Option Addr × Nat × List (Nat × Obj)) 11 (fun x => match x with | ⟨a8, c8, lp8⟩ => [.pointer (some ⟨b1, 0 + 1, none⟩), .agg (cP f.p).toArray, .pointer (some ⟨b1, 0 + 19, none⟩), .agg (cI f.a).toArray, .pointer (some ⟨b1, 0 + 35, none⟩), .agg (cI f.b).toArray, .pointer (some ⟨b1, 0 + 56, none⟩), .slice at1 f.tr.length ct1, .slice a8 f.tr.length c8, .agg (cS f.p f.a f.b (.slice a8 f.tr.length c8)).toArray, .iface 107 (.agg (cS f.p f.a f.b (.slice a8 f.tr.length c8)).toArray)]) (fun m x => match x with | ⟨a8, c8, lp8⟩ => fun w1 => ((m 9 = true → m 8 = true) ∧ (m 10 = true → m 8 = true) ∧ (m 8 = true → Vec 3 1 (.slice a8 f.tr.length c8) f.tr.length (f.tr.map iV) lp8)) ∧ St w [] ((b1, cb (cFG f ⟨.slice at1 f.tr.length ct1, .slice ai1 f.ids.length ci1, .slice av1 f.val.length cv1, .slice ax1 f.txt.length cx1⟩) 52) :: (bif m 8 then lp8 else [])) w1) Ty.mixed rfl rfl rfl (by kernel_rfl) rfl rfl ?hinit ?hstep ?htail
  case hinit => exact fun w1 hw => ⟨(none, 0, []), ⟨fun h => (by cases h), fun h => (by cases h), fun h => (by cases h)⟩, hw.drew⟩
  case hstep =>
    refine ⟨fun m x hm hp => ?_, fun m x hm hp => ?_, fun m x hm hp => ?_, fun m x hm hp => ?_, fun m x hm hp => ?_, fun m x hm hp => ?_, fun m x hm hp => ?_, fun m x hm hp => ?_, fun m x hm hp => ?_, fun m x hm hp => ?_, fun m x hm hp => ?_, trivial⟩
    · skip
      obtain ⟨a8, c8, lp8⟩ := x
      show J _ _ _ _ _ (_) _
      refine J.pr (fun hF => ?_)
      refine J.fieldAddr Ty.fd52_1 rfl rfl ?_
      exact J.finX rfl (fun _ hw => ⟨⟨a8, c8, lp8⟩, rfl, fun _ _ _ => rfl, hF, hw⟩)
    · skip
      obtain ⟨a8, c8, lp8⟩ := x
      show J _ _ _ _ _ ((41, .pointer (some ⟨b1, 0 + 1, none⟩)) :: _) _
      refine J.pr (fun hF => ?_)
      refine J.loadOA (vs := cP f.p) Ty.a25 Ty.s25 rfl (.head _) rfl rfl rfl ?_
      exact J.finX rfl (fun _ hw => ⟨⟨a8, c8, lp8⟩, rfl, fun _ _ _ => rfl, hF, hw⟩)
    · skip
      obtain ⟨a8, c8, lp8⟩ := x
      show J _ _ _ _ _ (_) _
      refine J.pr (fun hF => ?_)
      refine J.fieldAddr Ty.fd52_3 rfl rfl ?_
      exact J.finX rfl (fun _ hw => ⟨⟨a8, c8, lp8⟩, rfl, fun _ _ _ => rfl, hF, hw⟩)
    · skip
      obtain ⟨a8, c8, lp8⟩ := x
      show J _ _ _ _ _ ((43, .pointer (some ⟨b1, 0 + 19, none⟩)) :: _) _
      refine J.pr (fun hF => ?_)
      refine J.loadOA (vs := cI f.a) Ty.a23 Ty.s23 rfl (.head _) rfl rfl rfl ?_
      exact J.finX rfl (fun _ hw => ⟨⟨a8, c8, lp8⟩, rfl, fun _ _ _ => rfl, hF, hw⟩)
    · skip
      obtain ⟨a8, c8, lp8⟩ := x
      show J _ _ _ _ _ (_) _
      refine J.pr (fun hF => ?_)
      refine J.fieldAddr Ty.fd52_4 rfl rfl ?_
      exact J.finX rfl (fun _ hw => ⟨⟨a8, c8, lp8⟩, rfl, fun _ _ _ => rfl, hF, hw⟩)
    · skip
      obtain ⟨a8, c8, lp8⟩ := x
      show J _ _ _ _ _ ((45, .pointer (some ⟨b1, 0 + 35, none⟩)) :: _) _
      refine J.pr (fun hF => ?_)
      refine J.loadOA (vs := cI f.b) Ty.a23 Ty.s23 rfl (.head _) rfl rfl rfl ?_
      exact J.finX rfl (fun _ hw => ⟨⟨a8, c8, lp8⟩, rfl, fun _ _ _ => rfl, hF, hw⟩)
    · skip
      obtain ⟨a8, c8, lp8⟩ := x
      show J _ _ _ _ _ (_) _
      refine J.pr (fun hF => ?_)
      refine J.fieldAddr Ty.fd52_8 rfl rfl ?_
      exact J.finX rfl (fun _ hw => ⟨⟨a8, c8, lp8⟩, rfl, fun _ _ _ => rfl, hF, hw⟩)
    · skip
      obtain ⟨a8, c8, lp8⟩ := x
      show J _ _ _ _ _ ((47, .pointer (some ⟨b1, 0 + 56, none⟩)) :: _) _
      refine J.pr (fun hF => ?_)
      refine J.loadO (v := .slice at1 f.tr.length ct1) Ty.a26 rfl (.head _) rfl rfl ?_
      exact J.finX rfl (fun _ hw => ⟨⟨a8, c8, lp8⟩, rfl, fun _ _ _ => rfl, hF, hw⟩)
    · skip
      obtain ⟨a8, c8, lp8⟩ := x
      show J _ _ _ _ _ ((48, .slice at1 f.tr.length ct1) :: _) _
      refine J.pr (fun hF => ?_)
      have hbd := hg.tr
      refine J.append (lp := []) (xs := []) (ys := f.tr.map iV) (k := 0) (m := f.tr.length) Ty.el26 Ty.s3 Ty.b3 Ty.z3 rfl (.inl ⟨3, Ty.u26⟩) rfl rfl (Vec.nil _ _) (fun w1 hw => .inl (hs.tr.below hw.below)) (by simp) (by simp [Value.oneCell']) (by omega) (by omega) rfl (fun v8n lp8n hv8 => ?_)
      rw [Nat.zero_add, List.nil_append] at hv8
      obtain ⟨a8n, c8n, rfl, hc8n⟩ := hv8.form
      refine J.nil (JX.finB rfl (fun w1 hw => ⟨⟨⟨a8n, c8n, lp8n⟩, rfl, fun j h1 h2 => ?_, ?_⟩, trivial⟩))
      · match j, h1 with
        | 0, _ => (first | rfl | trivial)
        | 1, _ => (first | rfl | trivial)
        | 2, _ => (first | rfl | trivial)
        | 3, _ => (first | rfl | trivial)
        | 4, _ => (first | rfl | trivial)
        | 5, _ => (first | rfl | trivial)
        | 6, _ => (first | rfl | trivial)
        | 7, _ => (first | rfl | trivial)
        | 8, _ => exact absurd (h2.symm.trans hm) (by decide)
        | 9, _ => exact absurd ((hF.1 h2).symm.trans hm) (by decide)
        | 10, _ => exact absurd ((hF.2.1 h2).symm.trans hm) (by decide)
        | j + 11, h1 => omega
      show ((m 9 = true → true = true) ∧ (m 10 = true → true = true) ∧ (true = true → Vec 3 1 (.slice a8n f.tr.length c8n) f.tr.length (f.tr.map iV) lp8n)) ∧ St w [] ((b1, cb (cFG f ⟨.slice at1 f.tr.length ct1, .slice ai1 f.ids.length ci1, .slice av1 f.val.length cv1, .slice ax1 f.txt.length cx1⟩) 52) :: (bif true then lp8n else [])) w1
      simp only [hm, cond_true, cond_false] at hw ⊢
      exact ⟨⟨fun _ => trivial, fun _ => trivial, fun _ => hv8⟩, hw.perm (by (refine perm_cnt (fun _ => ?_)); simp only [cntB_append, cntB_cons, cntB_nil, Nat.add_zero, Nat.zero_add]; try ac_rfl)⟩
    · skip
      obtain ⟨a8, c8, lp8⟩ := x
      show J _ _ _ _ _ ((49, .slice a8 f.tr.length c8) :: (46, .agg (cI f.b).toArray) :: (44, .agg (cI f.a).toArray) :: (42, .agg (cP f.p).toArray) :: _) _
      have hp8 : m 8 = true := predsT hp (by kernel_rfl)
      refine J.pr (fun hF => ?_)
      refine J.buildS (cs := cS f.p f.a f.b (.slice a8 f.tr.length c8)) Ty.pl107 zS rfl (by kernel_rfl) rfl ?_
      refine J.nil (JX.finB rfl (fun w1 hw => ⟨⟨⟨a8, c8, lp8⟩, rfl, fun j h1 h2 => ?_, ?_⟩, trivial⟩))
      · match j, h1 with
        | 0, _ => (first | rfl | trivial)
        | 1, _ => (first | rfl | trivial)
        | 2, _ => (first | rfl | trivial)
        | 3, _ => (first | rfl | trivial)
        | 4, _ => (first | rfl | trivial)
        | 5, _ => (first | rfl | trivial)
        | 6, _ => (first | rfl | trivial)
        | 7, _ => (first | rfl | trivial)
        | 8, _ => (first | rfl | trivial)
        | 9, _ => (first | rfl | trivial)
        | 10, _ => (first | rfl | trivial)
        | j + 11, h1 => omega
      show ((true = true → m 8 = true) ∧ (m 10 = true → m 8 = true) ∧ (m 8 = true → Vec 3 1 (.slice a8 f.tr.length c8) f.tr.length (f.tr.map iV) lp8)) ∧ St w [] ((b1, cb (cFG f ⟨.slice at1 f.tr.length ct1, .slice ai1 f.ids.length ci1, .slice av1 f.val.length cv1, .slice ax1 f.txt.length cx1⟩) 52) :: (bif m 8 then lp8 else [])) w1
      exact ⟨⟨fun _ => hp8, hF.2⟩, hw⟩
    · skip
      obtain ⟨a8, c8, lp8⟩ := x
      show J _ _ _ _ _ ((50, .agg (cS f.p f.a f.b (.slice a8 f.tr.length c8)).toArray) :: _) _
      have hp9 : m 9 = true := predsT hp (by kernel_rfl)
      refine J.pr (fun hF => ?_)
      refine J.iface (by kernel_rfl) rfl rfl ?_
      refine J.nil (JX.finB rfl (fun w1 hw => ⟨⟨⟨a8, c8, lp8⟩, rfl, fun j h1 h2 => ?_, ?_⟩, trivial⟩))
      · match j, h1 with
        | 0, _ => (first | rfl | trivial)
        | 1, _ => (first | rfl | trivial)
        | 2, _ => (first | rfl | trivial)
        | 3, _ => (first | rfl | trivial)
        | 4, _ => (first | rfl | trivial)
        | 5, _ => (first | rfl | trivial)
        | 6, _ => (first | rfl | trivial)
        | 7, _ => (first | rfl | trivial)
        | 8, _ => (first | rfl | trivial)
        | 9, _ => (first | rfl | trivial)
        | 10, _ => (first | rfl | trivial)
        | j + 11, h1 => omega
      show ((m 9 = true → m 8 = true) ∧ (true = true → m 8 = true) ∧ (m 8 = true → Vec 3 1 (.slice a8 f.tr.length c8) f.tr.length (f.tr.map iV) lp8)) ∧ St w [] ((b1, cb (cFG f ⟨.slice at1 f.tr.length ct1, .slice ai1 f.ids.length ci1, .slice av1 f.val.length cv1, .slice ax1 f.txt.length cx1⟩) 52) :: (bif m 8 then lp8 else [])) w1
      exact ⟨⟨hF.1, fun _ => hF.1 hp9, hF.2.2⟩, hw⟩
  case htail =>
    intro x
    obtain ⟨a8, c8, lp8⟩ := x
    show J _ _ _ _ _ ((51, .iface 107 (.agg (cS f.p f.a f.b (.slice a8 f.tr.length c8)).toArray)) :: (50, .agg (cS f.p f.a f.b (.slice a8 f.tr.length c8)).toArray) :: (49, .slice a8 f.tr.length c8) :: (48, .slice at1 f.tr.length ct1) :: (47, .pointer (some ⟨b1, 0 + 56, none⟩)) :: (46, .agg (cI f.b).toArray) :: (45, .pointer (some ⟨b1, 0 + 35, none⟩)) :: (44, .agg (cI f.a).toArray) :: (43, .pointer (some ⟨b1, 0 + 19, none⟩)) :: (42, .agg (cP f.p).toArray) :: (41, .pointer (some ⟨b1, 0 + 1, none⟩)) :: _) (fun w1 => ((true = true → true = true) ∧ (true = true → true = true) ∧ (true = true → Vec 3 1 (.slice a8 f.tr.length c8) f.tr.length (f.tr.map iV) lp8)) ∧ St w [] ((b1, cb (cFG f ⟨.slice at1 f.tr.length ct1, .slice ai1 f.ids.length ci1, .slice av1 f.val.length cv1, .slice ax1 f.txt.length cx1⟩) 52) :: (bif true then lp8 else [])) w1)
    refine J.pr (fun hF => ?_)
    have hv8 := hF.2.2 rfl
    refine J.assign rfl rfl ?_
    refine J.assign rfl rfl ?_
    refine J.nil ?_
    refine JX.thenN (hK7 _ _ ?_)
    refine JC.ret ?_
    refine JX.blockR ?_
    refine JX.thenR ?_
    refine JX.ret2 rfl rfl rfl (fun w hw => ?_)
    exact ⟨(.slice a8 f.tr.length c8, lp8), rfl, hv8, hw.drop (List.sublist_cons_self _ _)⟩

end Go.Proofs.Ytpldpkdlloolkaa
/-
  What frame.Of does at a Setup: contract.
-/
namespace Go.Proofs.Ytpldpkdlloolkaa
open Go.J Go.RowKit
set_option linter.unusedVariables false
set_option linter.unusedSimpArgs false
set_option maxRecDepth 8000

end Go.Proofs.Ytpldpkdlloolkaa
/-
  A path begins: what setup.Start does where nothing but the table can refuse: contracts.
-/
namespace Go.Proofs.Ytpldpkdlloolkaa
open Go.J Go.RowKit
set_option linter.unusedVariables false
set_option linter.unusedSimpArgs false
set_option maxRecDepth 8000
abbrev cW (n : Int) (id : IDV) : List Value := iV n :: cI id
abbrev cH (n : Int) (f : List Value) : List Value := iV n :: f
/-- what a step that hands a Setup on leaves: the hop's block, the trail's slice, the map -/
structure OutS where
  h : Nat
  a : Option Addr
  c : Nat
  lp : List (Nat × Obj)
  es : Array MapEntry
  ck : Nat
abbrev cD (out : Value) (mine full : Bool) : List Value := [out, .bool mine, .bool full]
theorem zW : zeroT Try.prog 41 = some (.agg (cW 0 zI).toArray) := by kernel_rfl
theorem zH : zeroT Try.prog 54 = some (.agg (cH 0 (cF 0 zP zI zI nilV)).toArray) := by kernel_rfl
theorem zN : zeroT Try.prog 37 = some (.agg (cD nilV false false).toArray) := by kernel_rfl
theorem rowI_at {w : World} {b o k c q i : Nat} {xs : List Int} {n : Int} (h : Row w (.slice (some ⟨b, o, none⟩) k c) k (xs.map iV)) (hi : xs[i]? = some n) (hq : q = o + i) : w.cell? ⟨b, q, none⟩ = some (iV n) := by
  have hl : i < xs.length := (List.getElem?_eq_some_iff.1 hi).1
  obtain ⟨b', o', c', hv, _, hc⟩ := Row.some h (by simp; omega)
  simp only [Value.slice.injEq, Option.some.injEq, Addr.mk.injEq] at hv
  obtain ⟨⟨rfl, rfl, _⟩, _, rfl⟩ := hv
  exact hc.get (i := i) (by rw [List.getElem?_map, hi]; rfl) hq
theorem add_all {t mb : Nat} {most : Int} {L : List EV} {es : Array MapEntry} {clock : Nat} {w : World} (hw0 : Own w [(t, tabO most mb), (mb, .map es clock)]) (hT : Tab L es clock) (x : EV) (hx : okE x) {e : Int} {L' : List EV} (hadd : tadd L most x = (e, L')) :
    Calls Try.prog 17 [.pointer (some ⟨t, 0, none⟩), .agg (cE x).toArray].toArray w fun r w' => ∃ y : Array MapEntry × Nat, r = .returned (.int .i64 e) ∧ Tab L' y.1 y.2 ∧ St w [t, mb] [(t, tabO most mb), (mb, .map y.1 y.2)] w' := by
  have h := add_spec t mb most L es clock w hw0 hT x hx
  rw [hadd] at h
  exact h
theorem okN_small {n : Int} (h1 : -9223372036854775808 ≤ n) (h2 : n < 9223372036854775808) : okN n := by
  simp [okN, Lit.wf, IntKind.min, IntKind.max, IntKind.signed, IntKind.bits]
  omega
theorem open_bounds {os : List Bool} {n : Int} (h : openQ os n = true) : 0 ≤ n ∧ n.toNat < os.length := by
  simp only [openQ, Bool.and_eq_true, decide_eq_true_eq] at h
  refine ⟨h.1, ?_⟩
  rcases Nat.lt_or_ge n.toNat os.length with h1 | h1
  · exact h1
  · rw [List.getElem?_eq_none h1] at h; simp at h

theorem start_full (t mb : Nat) (most : Int) (L : List EV) (es : Array MapEntry) (clock : Nat) (w : World) (hw0 : Own w [(t, tabO most mb), (mb, .map es clock)]) (hT : Tab L es clock) (n n1 : Int) (id b : IDV) (p : PV) (hp : okN p.n) (wb wo wc : Nat) (rest : List Int) (hr : Row w (.slice (some ⟨wb, wo, none⟩) (rest.length + 2) wc) (rest.length + 2) ((n :: n1 :: rest).map iV)) (hoff : Off [t, mb] (.slice (some ⟨wb, wo, none⟩) (rest.length + 2) wc) ((n :: n1 :: rest).map iV)) (hlen : rest.length ≤ 62) (hnd : (n :: n1 :: rest).Nodup) (hne : b ≠ id) (ov : Value) (os : List Bool) (hro : Row w ov os.length (os.map bV)) (hoffo : Off [t, mb] ov (os.map bV)) (hlo : os.length < 4611686018427387904) (hop : openQ os n1 = true) {e : Int} {L' : List EV} (hadd : tadd L most (⟨p, id, b, -1, n1⟩ : EV) = (e, L')) (he : e ≠ 0) :
    Calls Try.prog 18 [.pointer (some ⟨t, 0, none⟩), .agg (cW n id).toArray, .agg (cP p).toArray, .agg (cI b).toArray, .slice (some ⟨wb, wo, none⟩) (rest.length + 2) wc, ov].toArray w fun r w' => ∃ y : Array MapEntry × Nat, r = .returned (.tuple #[.agg (cD nilV false (e == 5)).toArray, .int .i64 e]) ∧ Tab L' y.1 y.2 ∧ St w [t, mb] [(t, tabO most mb), (mb, .map y.1 y.2)] w' := by
  obtain ⟨hn0, hn1⟩ := open_bounds hop
  have hokE : okE (⟨p, id, b, -1, n1⟩ : EV) := ⟨hp, okN_small (n := -1) (by omega) (by omega), okN_small (n := n1) (by omega) (by omega)⟩
  refine calls_of_J (args := [.pointer (some ⟨t, 0, none⟩), .agg (cW n id).toArray, .agg (cP p).toArray, .agg (cI b).toArray, .slice (some ⟨wb, wo, none⟩) (rest.length + 2) wc, ov]) (e := [(0, .pointer (some ⟨t, 0, none⟩)), (1, .agg (cW n id).toArray), (2, .agg (cP p).toArray), (3, .agg (cI b).toArray), (4, .slice (some ⟨wb, wo, none⟩) (rest.length + 2) wc), (5, ov)]) Try.func18 rfl rfl ⟨rfl, rfl, rfl, rfl, rfl, rfl, trivial⟩ (hw0.st) ?_
  refine JC.seq (fun K0 hK0 => ?_)
  refine JC.region ?_
  refine J.box rfl rfl rfl (fun b7 => ?_)
  refine J.box rfl rfl rfl (fun b8 => ?_)
  refine J.box rfl rfl rfl (fun b9 => ?_)
  refine J.alloc zN rfl rfl (fun b12 => ?_)
  refine J.assign rfl rfl ?_
  refine J.nil ?_
  refine JX.thenN (hK0 _ _ ?_)
  refine JC.seq (fun K1 hK1 => ?_)
  refine JC.seq (fun K2 hK2 => ?_)
  apply JC.drawL 31 [Eqv (.pointer (some ⟨t, 0, none⟩)), Eqv (.bool false), Eqv (.bool false), Eqv (.slice (some ⟨wb, wo, none⟩) (rest.length + 2) wc), Eqv (.int .i64 ((rest.length + 2 : Nat) : Int)), Eqv (.bool false), Eqv (.bool false), Eqv (.bool false), Eqv (.slice (some ⟨wb, wo, none⟩) (rest.length + 2) wc), Eqv (.int .i64 ((rest.length + 2 : Nat) : Int)), Eqv (.bool false), Eqv (.bool false), Eqv (.bool false), Eqv (.slice (some ⟨wb, wo, none⟩) (rest.length + 2) wc), Eqv (.bool true), Eqv (.bool false), Eqv (.bool false), Eqv (.bool false), Eqv (.slice (some ⟨wb, wo, none⟩) (rest.length + 2) wc), Eqv (.pointer (some ⟨wb, wo + (0 : Int).toNat * 1, none⟩)), Eqv (iV n), Eqv (.pointer (some ⟨b7, 0 + 0, none⟩)), Eqv (iV n), Eqv (.bool false), Eqv (.bool false), Eqv (.bool false), Eqv (.agg (cI b).toArray), Eqv (.pointer (some ⟨b7, 0 + 1, none⟩)), Eqv (.agg (cI id).toArray), Eqv (.bool false), Eqv (.bool false)] Ty.mixed rfl rfl rfl (by kernel_rfl) rfl rfl (fun w w' hw hb => hw.step hb) ⟨fun _ _ _ h _ => h, fun _ _ _ h _ => h, fun _ _ _ h _ => h, fun _ _ _ h _ => h, fun _ _ _ h _ => h, fun _ _ _ h _ => h, fun _ _ _ h _ => h, fun _ _ _ h _ => h, fun _ _ _ h _ => h, fun _ _ _ h _ => h, fun _ _ _ h _ => h, fun _ _ _ h _ => h, fun _ _ _ h _ => h, fun _ _ _ h _ => h, fun _ _ _ h _ => h, fun _ _ _ h _ => h, fun _ _ _ h _ => h, fun _ _ _ h _ => h, fun _ _ _ h _ => h, fun _ _ _ h _ => h, fun _ _ _ h _ => h, fun _ _ _ h _ => h, fun _ _ _ h _ => h, fun _ _ _ h _ => h, fun _ _ _ h _ => h, fun _ _ _ h _ => h, fun _ _ _ h _ => h, fun _ _ _ h _ => h, fun _ _ _ h _ => h, fun _ _ _ h _ => h, fun _ _ _ h _ => h, trivial⟩ ?hstep ?htail
  case hstep =>
    refine ⟨fun wi => ?_, fun wi => ?_, fun wi => ?_, fun wi => ?_, fun wi => ?_, fun wi => ?_, fun wi => ?_, fun wi => ?_, fun wi => ?_, fun wi => ?_, fun wi => ?_, fun wi => ?_, fun wi => ?_, fun wi => ?_, fun wi => ?_, fun wi => ?_, fun wi => ?_, fun wi => ?_, fun wi => ?_, fun wi => ?_, fun wi => ?_, fun wi => ?_, fun wi => ?_, fun wi => ?_, fun wi => ?_, fun wi => ?_, fun wi => ?_, fun wi => ?_, fun wi => ?_, fun wi => ?_, fun wi => ?_, trivial⟩
    · skip
      refine Fin.nil ?_
      refine J.move rfl rfl ?_
      exact J.finP rfl
    · skip
      refine Fin.consE rfl (Fin.nil ?_)
      refine J.eqNil Ty.u29 rfl rfl rfl ?_
      exact J.finP rfl
    · skip
      refine Fin.consE rfl (Fin.nil ?_)
      refine J.move rfl rfl ?_
      exact J.finP rfl
    · skip
      refine Fin.consE rfl (Fin.nil ?_)
      first | refine J.skip rfl rfl rfl rfl rfl ?_ | refine J.skipU rfl rfl rfl rfl ?_ | (refine J.unguard rfl rfl rfl ?_; refine J.move rfl rfl ?_)
      exact J.finP rfl
    · skip
      refine Fin.consE rfl (Fin.consE rfl (Fin.nil ?_))
      first | refine J.skip rfl rfl rfl rfl rfl ?_ | refine J.skipU rfl rfl rfl rfl ?_ | (refine J.unguard rfl rfl rfl ?_; refine J.lenS rfl Ty.u26 rfl rfl ?_)
      exact J.finP rfl
    · skip
      refine Fin.consE rfl (Fin.consE rfl (Fin.nil ?_))
      refine J.unguard rfl rfl rfl ?_
      refine J.bin rfl rfl rfl rfl ?_
      refine J.name 21 rfl (show Value.bool _ = .bool false by simp; omega) ?_
      exact J.finP rfl
    · skip
      refine Fin.consE rfl (Fin.consE rfl (Fin.nil ?_))
      (first | refine J.pickT rfl rfl rfl ?_ | refine J.pickF rfl rfl rfl ?_)
      exact J.finP rfl
    · skip
      refine Fin.consE rfl (Fin.consE rfl (Fin.nil ?_))
      refine J.move rfl rfl ?_
      exact J.finP rfl
    · skip
      refine Fin.consE rfl (Fin.nil ?_)
      first | refine J.skip rfl rfl rfl rfl rfl ?_ | refine J.skipU rfl rfl rfl rfl ?_ | (refine J.unguard rfl rfl rfl ?_; refine J.move rfl rfl ?_)
      exact J.finP rfl
    · skip
      refine Fin.consE rfl (Fin.consE rfl (Fin.nil ?_))
      first | refine J.skip rfl rfl rfl rfl rfl ?_ | refine J.skipU rfl rfl rfl rfl ?_ | (refine J.unguard rfl rfl rfl ?_; refine J.lenS rfl Ty.u26 rfl rfl ?_)
      exact J.finP rfl
    · skip
      refine Fin.consE rfl (Fin.consE rfl (Fin.nil ?_))
      refine J.unguard rfl rfl rfl ?_
      refine J.bin rfl rfl rfl rfl ?_
      refine J.name 26 rfl (show Value.bool _ = .bool false by simp; omega) ?_
      exact J.finP rfl
    · skip
      refine Fin.consE rfl (Fin.consE rfl (Fin.nil ?_))
      (first | refine J.pickT rfl rfl rfl ?_ | refine J.pickF rfl rfl rfl ?_)
      exact J.finP rfl
    · skip
      refine Fin.consE rfl (Fin.consE rfl (Fin.nil ?_))
      refine J.move rfl rfl ?_
      exact J.finP rfl
    · skip
      refine Fin.consE rfl (Fin.nil ?_)
      first | refine J.skip rfl rfl rfl rfl rfl ?_ | refine J.skipU rfl rfl rfl rfl ?_ | (refine J.unguard rfl rfl rfl ?_; refine J.move rfl rfl ?_)
      exact J.finP rfl
    · skip
      refine Fin.consE rfl (Fin.consE rfl (Fin.consE rfl (Fin.nil ?_)))
      refine J.unguard rfl rfl rfl ?_
      refine J.callD (v := .bool true) Ty.bd52 rfl rfl (fun w1 hw => by
        have h := simple_spec _ (n :: n1 :: rest) w1 (hr.st hoff hw) (by simp; omega)
        rw [decide_eq_true hnd] at h
        exact h) ?_
      exact J.finQ rfl
    · skip
      refine Fin.consE rfl (Fin.consE rfl (Fin.nil ?_))
      first | refine J.skip rfl rfl rfl rfl rfl ?_ | refine J.skipU rfl rfl rfl rfl ?_ | (refine J.unguard rfl rfl rfl ?_; refine J.not rfl rfl ?_)
      exact J.finP rfl
    · skip
      refine Fin.consE rfl (Fin.consE rfl (Fin.nil ?_))
      (first | refine J.pickT rfl rfl rfl ?_ | refine J.pickF rfl rfl rfl ?_)
      exact J.finP rfl
    · skip
      refine Fin.consE rfl (Fin.consE rfl (Fin.nil ?_))
      refine J.move rfl rfl ?_
      exact J.finP rfl
    · skip
      refine Fin.consE rfl (Fin.nil ?_)
      first | refine J.skip rfl rfl rfl rfl rfl ?_ | refine J.skipU rfl rfl rfl rfl ?_ | (refine J.unguard rfl rfl rfl ?_; refine J.move rfl rfl ?_)
      exact J.finP rfl
    · skip
      refine Fin.consE rfl (Fin.consE rfl (Fin.nil ?_))
      first | refine J.skip rfl rfl rfl rfl rfl ?_ | refine J.skipU rfl rfl rfl rfl ?_ | (refine J.unguard rfl rfl rfl ?_; refine J.indexAddrS Ty.el26 Ty.s3 rfl rfl (by omega) (by omega) rfl ?_)
      exact J.finP rfl
    · skip
      refine Fin.consE rfl (Fin.consE rfl (Fin.nil ?_))
      refine J.unguard rfl rfl rfl ?_
      refine J.load1 (v := iV n) Ty.a3 rfl (fun w1 hw => rowI_at (i := 0) (hr.st hoff hw.2) rfl (by omega)) rfl ?_
      exact J.finP rfl
    · skip
      refine Fin.consE rfl (Fin.nil ?_)
      first | refine J.skip rfl rfl rfl rfl rfl ?_ | refine J.skipU rfl rfl rfl rfl ?_ | (refine J.unguard rfl rfl rfl ?_; refine J.fieldAddr Ty.fd41_0 rfl rfl ?_)
      exact J.finP rfl
    · skip
      refine Fin.consE rfl (Fin.consE rfl (Fin.nil ?_))
      first | refine J.skip rfl rfl rfl rfl rfl ?_ | refine J.skipU rfl rfl rfl rfl ?_ | (refine J.unguard rfl rfl rfl ?_; refine J.load1 Ty.a3 rfl (fun w hw => (cell_of (hw.2.own (_, _) (by repeat first | exact .head _ | apply List.Mem.tail | apply List.mem_append_right))).trans (by exact rfl)) rfl ?_)
      exact J.finP rfl
    · skip
      refine Fin.consE rfl (Fin.consE rfl (Fin.consE rfl (Fin.nil ?_)))
      refine J.unguard rfl rfl rfl ?_
      refine J.bin rfl rfl rfl rfl ?_
      refine J.name 39 rfl (show Value.bool _ = .bool false by simp) ?_
      exact J.finP rfl
    · skip
      refine Fin.consE rfl (Fin.consE rfl (Fin.nil ?_))
      (first | refine J.pickT rfl rfl rfl ?_ | refine J.pickF rfl rfl rfl ?_)
      exact J.finP rfl
    · skip
      refine Fin.consE rfl (Fin.consE rfl (Fin.nil ?_))
      refine J.move rfl rfl ?_
      exact J.finP rfl
    · skip
      refine Fin.consE rfl (Fin.nil ?_)
      first | refine J.skip rfl rfl rfl rfl rfl ?_ | refine J.skipU rfl rfl rfl rfl ?_ | (refine J.unguard rfl rfl rfl ?_; refine J.loadA (vs := cI b) Ty.a23 Ty.s23 rfl rfl (fun w hw => Cells.of_block (hw.2.own (_, _) (by repeat first | exact .head _ | apply List.Mem.tail | apply List.mem_append_right)) (by exact rfl)) rfl ?_)
      exact J.finP rfl
    · skip
      refine Fin.consE rfl (Fin.nil ?_)
      first | refine J.skip rfl rfl rfl rfl rfl ?_ | refine J.skipU rfl rfl rfl rfl ?_ | (refine J.unguard rfl rfl rfl ?_; refine J.fieldAddr Ty.fd41_1 rfl rfl ?_)
      exact J.finP rfl
    · skip
      refine Fin.consE rfl (Fin.consE rfl (Fin.nil ?_))
      first | refine J.skip rfl rfl rfl rfl rfl ?_ | refine J.skipU rfl rfl rfl rfl ?_ | (refine J.unguard rfl rfl rfl ?_; refine J.loadA (vs := cI id) Ty.a23 Ty.s23 rfl rfl (fun w hw => Cells.of_block (hw.2.own (_, _) (by repeat first | exact .head _ | apply List.Mem.tail | apply List.mem_append_right)) (by exact rfl)) rfl ?_)
      exact J.finP rfl
    · skip
      refine Fin.consE rfl (Fin.consE rfl (Fin.consE rfl (Fin.nil ?_)))
      refine J.unguard rfl rfl rfl ?_
      refine J.eqI Ty.QI Ty.keyI rfl rfl rfl ?_
      refine J.name 45 rfl (show Value.bool _ = .bool false by simp [hne]) ?_
      exact J.finP rfl
    · skip
      refine Fin.consE rfl (Fin.consE rfl (Fin.nil ?_))
      (first | refine J.pickT rfl rfl rfl ?_ | refine J.pickF rfl rfl rfl ?_)
      exact J.finP rfl
  case htail =>
    refine Fin.consE rfl (Fin.consE rfl (Fin.consE rfl (Fin.consE rfl (Fin.consE rfl (Fin.consE rfl (Fin.consE rfl (Fin.consE rfl (Fin.consE rfl (Fin.consE rfl (Fin.consE rfl (Fin.consE rfl (Fin.consE rfl (Fin.consE rfl (Fin.consE rfl (Fin.consE rfl (Fin.consE rfl (Fin.consE rfl (Fin.consE rfl (Fin.consE rfl (Fin.consE rfl (Fin.consE rfl (Fin.consE rfl (Fin.consE rfl (Fin.consE rfl (Fin.consE rfl (Fin.consE rfl (Fin.consE rfl (Fin.consE rfl (Fin.consE rfl (Fin.consE rfl (Fin.nil ?_)))))))))))))))))))))))))))))))
    refine J.nil ?_
    refine JX.thenN (hK2 _ _ ?_)
    first | refine JC.condF rfl ?_ | refine JC.cond rfl (fun h => by first | (exfalso; simp at h; omega) | (simp at h)) (fun _ => ?_)
    refine JC.skip ?_
    refine JX.thenN (hK1 _ _ ?_)
    refine JC.seq (fun K3 hK3 => ?_)
    refine JC.seq (fun K4 hK4 => ?_)
    refine JC.region ?_
    refine J.move rfl rfl ?_
    refine J.move rfl rfl ?_
    refine J.indexAddrS Ty.el26 Ty.s3 rfl rfl (by omega) (by omega) rfl ?_
    refine J.load1 (v := iV n1) Ty.a3 rfl (fun w1 hw => rowI_at (i := 1) (hr.st hoff hw) rfl (by omega)) rfl ?_
    refine J.callB (v := .bool true) (fun w1 w2 hw hb => hw.step hb) Ty.bd53 rfl rfl (fun w1 hw => by
      have h := isOpen_spec ov os n1 w1 (hro.st hoffo hw) hlo
      rw [hop] at h
      exact h) ?_
    refine J.not rfl rfl ?_
    refine J.nil ?_
    refine JX.thenN (hK4 _ _ ?_)
    first | refine JC.condF rfl ?_ | refine JC.cond rfl (fun h => by first | (exfalso; simp at h; omega) | (simp at h)) (fun _ => ?_)
    refine JC.skip ?_
    refine JX.thenN (hK3 _ _ ?_)
    refine JC.seq (fun K5 hK5 => ?_)
    refine JC.seq (fun K6 hK6 => ?_)
    apply JC.drawL 9 [Eqv (.pointer (some ⟨t, 0, none⟩)), Eqv (.agg (cP p).toArray), Eqv (.pointer (some ⟨b7, 0 + 1, none⟩)), Eqv (.agg (cI id).toArray), Eqv (.agg (cI b).toArray), Eqv (.slice (some ⟨wb, wo, none⟩) (rest.length + 2) wc), Eqv (.pointer (some ⟨wb, wo + (1 : Int).toNat * 1, none⟩)), Eqv (iV n1), Eqv (.agg (cE (⟨p, id, b, -1, n1⟩ : EV)).toArray)] Ty.mixed rfl rfl rfl (by kernel_rfl) rfl rfl (fun w w' hw hb => hw.step hb) ⟨fun _ _ _ h _ => h, fun _ _ _ h _ => h, fun _ _ _ h _ => h, fun _ _ _ h _ => h, fun _ _ _ h _ => h, fun _ _ _ h _ => h, fun _ _ _ h _ => h, fun _ _ _ h _ => h, fun _ _ _ h _ => h, trivial⟩ ?hstep ?htail
    case hstep =>
      refine ⟨fun wi => ?_, fun wi => ?_, fun wi => ?_, fun wi => ?_, fun wi => ?_, fun wi => ?_, fun wi => ?_, fun wi => ?_, fun wi => ?_, trivial⟩
      · skip
        refine Fin.nil ?_
        refine J.move rfl rfl ?_
        exact J.finP rfl
      · skip
        refine Fin.nil ?_
        refine J.loadA (vs := cP p) Ty.a25 Ty.s25 rfl rfl (fun w hw => Cells.of_block (hw.2.own (_, _) (by repeat first | exact .head _ | apply List.Mem.tail | apply List.mem_append_right)) (by exact rfl)) rfl ?_
        exact J.finP rfl
      · skip
        refine Fin.nil ?_
        refine J.fieldAddr Ty.fd41_1 rfl rfl ?_
        exact J.finP rfl
      · skip
        refine Fin.consE rfl (Fin.nil ?_)
        refine J.loadA (vs := cI id) Ty.a23 Ty.s23 rfl rfl (fun w hw => Cells.of_block (hw.2.own (_, _) (by repeat first | exact .head _ | apply List.Mem.tail | apply List.mem_append_right)) (by exact rfl)) rfl ?_
        exact J.finP rfl
      · skip
        refine Fin.nil ?_
        refine J.loadA (vs := cI b) Ty.a23 Ty.s23 rfl rfl (fun w hw => Cells.of_block (hw.2.own (_, _) (by repeat first | exact .head _ | apply List.Mem.tail | apply List.mem_append_right)) (by exact rfl)) rfl ?_
        exact J.finP rfl
      · skip
        refine Fin.nil ?_
        refine J.move rfl rfl ?_
        exact J.finP rfl
      · skip
        refine Fin.consE rfl (Fin.nil ?_)
        refine J.indexAddrS Ty.el26 Ty.s3 rfl rfl (by omega) (by omega) rfl ?_
        exact J.finP rfl
      · skip
        refine Fin.consE rfl (Fin.nil ?_)
        refine J.load1 (v := iV n1) Ty.a3 rfl (fun w1 hw => rowI_at (i := 1) (hr.st hoff hw.2) rfl (by omega)) rfl ?_
        exact J.finP rfl
      · skip
        refine Fin.consE rfl (Fin.consE rfl (Fin.consE rfl (Fin.consE rfl (Fin.nil ?_))))
        refine J.buildS (cs := cE (⟨p, id, b, -1, n1⟩ : EV)) Ty.pl34 Ty.zE_ rfl (by kernel_rfl) rfl ?_
        exact J.finP rfl
    case htail =>
      refine Fin.consE rfl (Fin.consE rfl (Fin.consE rfl (Fin.consE rfl (Fin.consE rfl (Fin.consE rfl (Fin.consE rfl (Fin.consE rfl (Fin.consE rfl (Fin.nil ?_)))))))))
      refine J.perm ([(t, tabO most mb), (mb, .map es clock)] ++ ((b12, cb (cD nilV false false) 37) :: (b9, cb (cI b) 23) :: (b8, cb (cP p) 25) :: (b7, cb (cW n id) 41) :: [])) (by (refine perm_cnt (fun _ => ?_)); simp only [cntB_append, cntB_cons, cntB_nil, Nat.add_zero, Nat.zero_add]; try ac_rfl) ?_
      refine J.callS (α := Array MapEntry × Nat) (V := fun _ => .int .i64 e) (Pr := fun y => Tab L' y.1 y.2) (L := fun y => [(t, tabO most mb), (mb, .map y.1 y.2)]) (l1 := [(t, tabO most mb), (mb, .map es clock)]) Ty.bd17 rfl rfl (fun w1 hw => add_all hw.owns hT (⟨p, id, b, -1, n1⟩ : EV) hokE hadd) (fun y hT' => ?_)
      obtain ⟨es', clock'⟩ := y
      simp only at hT' ⊢
      refine J.perm ((b12, cb (cD nilV false false) 37) :: (b9, cb (cI b) 23) :: (b8, cb (cP p) 25) :: (b7, cb (cW n id) 41) :: [(t, tabO most mb), (mb, .map es' clock')]) (by (refine perm_cnt (fun _ => ?_)); simp only [cntB_append, cntB_cons, cntB_nil, Nat.add_zero, Nat.zero_add]; try ac_rfl) ?_
      refine J.assign rfl rfl ?_
      refine J.nil ?_
      refine JX.thenN (hK6 _ _ ?_)
      refine JC.seq (fun K7 hK7 => ?_)
      refine JC.region ?_
      refine J.move rfl rfl ?_
      refine J.bin rfl rfl rfl rfl ?_
      refine J.name 66 rfl (show Value.bool _ = .bool true by simp [he]) ?_
      refine J.nil ?_
      refine JX.thenN (hK7 _ _ ?_)
      first | refine JC.condT rfl ?_ | refine JC.cond rfl (fun _ => ?_) (fun h => by first | (exfalso; simp at h; omega) | (simp at h))
      refine JC.seq (fun K8 hK8 => ?_)
      refine JC.region ?_
      refine J.move rfl rfl ?_
      refine J.bin rfl rfl rfl rfl ?_
      refine J.buildS (cs := cD nilV false (e == 5)) Ty.pl37 zN rfl (by kernel_rfl) rfl ?_
      refine J.move rfl rfl ?_
      refine J.storeW Ty.s37 rfl rfl rfl rfl rfl (by simp [Value.oneCell']) (by repeat first | exact .here | apply Up.there) ?_
      refine J.assign rfl rfl ?_
      refine J.nil ?_
      refine JX.thenN (hK8 _ _ ?_)
      refine JC.ret ?_
      refine JX.thenR ?_
      refine JX.retCT rfl rfl rfl Ty.a37 Ty.s37 (vs := cD nilV false (e == 5)) rfl (fun w1 hw => Cells.of_block (hw.own _ (.head _)) rfl) (fun w1 hw => ?_)
      exact ⟨(es', clock'), rfl, hT', hw.drop (List.sublist_append_right [_, _, _, _] _)⟩

theorem start_ok (t mb : Nat) (most : Int) (L : List EV) (es : Array MapEntry) (clock : Nat) (w : World) (hw0 : Own w [(t, tabO most mb), (mb, .map es clock)]) (hT : Tab L es clock) (n n1 : Int) (id b : IDV) (p : PV) (hp : okN p.n) (wb wo wc : Nat) (rest : List Int) (hr : Row w (.slice (some ⟨wb, wo, none⟩) (rest.length + 2) wc) (rest.length + 2) ((n :: n1 :: rest).map iV)) (hoff : Off [t, mb] (.slice (some ⟨wb, wo, none⟩) (rest.length + 2) wc) ((n :: n1 :: rest).map iV)) (hlen : rest.length ≤ 62) (hnd : (n :: n1 :: rest).Nodup) (hne : b ≠ id) (ov : Value) (os : List Bool) (hro : Row w ov os.length (os.map bV)) (hoffo : Off [t, mb] ov (os.map bV)) (hlo : os.length < 4611686018427387904) (hop : openQ os n1 = true) {L' : List EV} (hadd : tadd L most (⟨p, id, b, -1, n1⟩ : EV) = (0, L')) :
    Calls Try.prog 18 [.pointer (some ⟨t, 0, none⟩), .agg (cW n id).toArray, .agg (cP p).toArray, .agg (cI b).toArray, .slice (some ⟨wb, wo, none⟩) (rest.length + 2) wc, ov].toArray w fun r w' => ∃ x : OutS, r = .returned (.tuple #[.agg (cD (.slice (some ⟨x.h, 0, none⟩) 1 1) true false).toArray, .int .i64 0]) ∧ (Vec 3 1 (.slice x.a (rest.length + 2) x.c) (rest.length + 2) ((n :: n1 :: rest).map iV) x.lp ∧ Tab L' x.es x.ck) ∧ St w [t, mb] ((x.h, cb (cH n1 (cF 4 p id b (.slice x.a (rest.length + 2) x.c))) 54) :: (x.lp ++ [(t, tabO most mb), (mb, .map x.es x.ck)])) w' := by
  obtain ⟨hn0, hn1⟩ := open_bounds hop
  have hokE : okE (⟨p, id, b, -1, n1⟩ : EV) := ⟨hp, okN_small (n := -1) (by omega) (by omega), okN_small (n := n1) (by omega) (by omega)⟩
  refine calls_of_J (args := [.pointer (some ⟨t, 0, none⟩), .agg (cW n id).toArray, .agg (cP p).toArray, .agg (cI b).toArray, .slice (some ⟨wb, wo, none⟩) (rest.length + 2) wc, ov]) (e := [(0, .pointer (some ⟨t, 0, none⟩)), (1, .agg (cW n id).toArray), (2, .agg (cP p).toArray), (3, .agg (cI b).toArray), (4, .slice (some ⟨wb, wo, none⟩) (rest.length + 2) wc), (5, ov)]) Try.func18 rfl rfl ⟨rfl, rfl, rfl, rfl, rfl, rfl, trivial⟩ (hw0.st) ?_
  refine JC.seq (fun K0 hK0 => ?_)
  refine JC.region ?_
  refine J.box rfl rfl rfl (fun b7 => ?_)
  refine J.box rfl rfl rfl (fun b8 => ?_)
  refine J.box rfl rfl rfl (fun b9 => ?_)
  refine J.alloc zN rfl rfl (fun b12 => ?_)
  refine J.assign rfl rfl ?_
  refine J.nil ?_
  refine JX.thenN (hK0 _ _ ?_)
  refine JC.seq (fun K1 hK1 => ?_)
  refine JC.seq (fun K2 hK2 => ?_)
  apply JC.drawL 31 [Eqv (.pointer (some ⟨t, 0, none⟩)), Eqv (.bool false), Eqv (.bool false), Eqv (.slice (some ⟨wb, wo, none⟩) (rest.length + 2) wc), Eqv (.int .i64 ((rest.length + 2 : Nat) : Int)), Eqv (.bool false), Eqv (.bool false), Eqv (.bool false), Eqv (.slice (some ⟨wb, wo, none⟩) (rest.length + 2) wc), Eqv (.int .i64 ((rest.length + 2 : Nat) : Int)), Eqv (.bool false), Eqv (.bool false), Eqv (.bool false), Eqv (.slice (some ⟨wb, wo, none⟩) (rest.length + 2) wc), Eqv (.bool true), Eqv (.bool false), Eqv (.bool false), Eqv (.bool false), Eqv (.slice (some ⟨wb, wo, none⟩) (rest.length + 2) wc), Eqv (.pointer (some ⟨wb, wo + (0 : Int).toNat * 1, none⟩)), Eqv (iV n), Eqv (.pointer (some ⟨b7, 0 + 0, none⟩)), Eqv (iV n), Eqv (.bool false), Eqv (.bool false), Eqv (.bool false), Eqv (.agg (cI b).toArray), Eqv (.pointer (some ⟨b7, 0 + 1, none⟩)), Eqv (.agg (cI id).toArray), Eqv (.bool false), Eqv (.bool false)] Ty.mixed rfl rfl rfl (by kernel_rfl) rfl rfl (fun w w' hw hb => hw.step hb) ⟨fun _ _ _ h _ => h, fun _ _ _ h _ => h, fun _ _ _ h _ => h, fun _ _ _ h _ => h, fun _ _ _ h _ => h, fun _ _ _ h _ => h, fun _ _ _ h _ => h, fun _ _ _ h _ => h, fun _ _ _ h _ => h, fun _ _ _ h _ => h, fun _ _ _ h _ => h, fun _ _ _ h _ => h, fun _ _ _ h _ => h, fun _ _ _ h _ => h, fun _ _ _ h _ => h, fun _ _ _ h _ => h, fun _ _ _ h _ => h, fun _ _ _ h _ => h, fun _ _ _ h _ => h, fun _ _ _ h _ => h, fun _ _ _ h _ => h, fun _ _ _ h _ => h, fun _ _ _ h _ => h, fun _ _ _ h _ => h, fun _ _ _ h _ => h, fun _ _ _ h _ => h, fun _ _ _ h _ => h, fun _ _ _ h _ => h, fun _ _ _ h _ => h, fun _ _ _ h _ => h, fun _ _ _ h _ => h, trivial⟩ ?hstep ?htail
  case hstep =>
    refine ⟨fun wi => ?_, fun wi => ?_, fun wi => ?_, fun wi => ?_, fun wi => ?_, fun wi => ?_, fun wi => ?_, fun wi => ?_, fun wi => ?_, fun wi => ?_, fun wi => ?_, fun wi => ?_, fun wi => ?_, fun wi => ?_, fun wi => ?_, fun wi => ?_, fun wi => ?_, fun wi => ?_, fun wi => ?_, fun wi => ?_, fun wi => ?_, fun wi => ?_, fun wi => ?_, fun wi => ?_, fun wi => ?_, fun wi => ?_, fun wi => ?_, fun wi => ?_, fun wi => ?_, fun wi => ?_, fun wi => ?_, trivial⟩
    · skip
      refine Fin.nil ?_
      refine J.move rfl rfl ?_
      exact J.finP rfl
    · skip
      refine Fin.consE rfl (Fin.nil ?_)
      refine J.eqNil Ty.u29 rfl rfl rfl ?_
      exact J.finP rfl
    · skip
      refine Fin.consE rfl (Fin.nil ?_)
      refine J.move rfl rfl ?_
      exact J.finP rfl
    · skip
      refine Fin.consE rfl (Fin.nil ?_)
      first | refine J.skip rfl rfl rfl rfl rfl ?_ | refine J.skipU rfl rfl rfl rfl ?_ | (refine J.unguard rfl rfl rfl ?_; refine J.move rfl rfl ?_)
      exact J.finP rfl
    · skip
      refine Fin.consE rfl (Fin.consE rfl (Fin.nil ?_))
      first | refine J.skip rfl rfl rfl rfl rfl ?_ | refine J.skipU rfl rfl rfl rfl ?_ | (refine J.unguard rfl rfl rfl ?_; refine J.lenS rfl Ty.u26 rfl rfl ?_)
      exact J.finP rfl
    · skip
      refine Fin.consE rfl (Fin.consE rfl (Fin.nil ?_))
      refine J.unguard rfl rfl rfl ?_
      refine J.bin rfl rfl rfl rfl ?_
      refine J.name 21 rfl (show Value.bool _ = .bool false by simp; omega) ?_
      exact J.finP rfl
    · skip
      refine Fin.consE rfl (Fin.consE rfl (Fin.nil ?_))
      (first | refine J.pickT rfl rfl rfl ?_ | refine J.pickF rfl rfl rfl ?_)
      exact J.finP rfl
    · skip
      refine Fin.consE rfl (Fin.consE rfl (Fin.nil ?_))
      refine J.move rfl rfl ?_
      exact J.finP rfl
    · skip
      refine Fin.consE rfl (Fin.nil ?_)
      first | refine J.skip rfl rfl rfl rfl rfl ?_ | refine J.skipU rfl rfl rfl rfl ?_ | (refine J.unguard rfl rfl rfl ?_; refine J.move rfl rfl ?_)
      exact J.finP rfl
    · skip
      refine Fin.consE rfl (Fin.consE rfl (Fin.nil ?_))
      first | refine J.skip rfl rfl rfl rfl rfl ?_ | refine J.skipU rfl rfl rfl rfl ?_ | (refine J.unguard rfl rfl rfl ?_; refine J.lenS rfl Ty.u26 rfl rfl ?_)
      exact J.finP rfl
    · skip
      refine Fin.consE rfl (Fin.consE rfl (Fin.nil ?_))
      refine J.unguard rfl rfl rfl ?_
      refine J.bin rfl rfl rfl rfl ?_
      refine J.name 26 rfl (show Value.bool _ = .bool false by simp; omega) ?_
      exact J.finP rfl
    · skip
      refine Fin.consE rfl (Fin.consE rfl (Fin.nil ?_))
      (first | refine J.pickT rfl rfl rfl ?_ | refine J.pickF rfl rfl rfl ?_)
      exact J.finP rfl
    · skip
      refine Fin.consE rfl (Fin.consE rfl (Fin.nil ?_))
      refine J.move rfl rfl ?_
      exact J.finP rfl
    · skip
      refine Fin.consE rfl (Fin.nil ?_)
      first | refine J.skip rfl rfl rfl rfl rfl ?_ | refine J.skipU rfl rfl rfl rfl ?_ | (refine J.unguard rfl rfl rfl ?_; refine J.move rfl rfl ?_)
      exact J.finP rfl
    · skip
      refine Fin.consE rfl (Fin.consE rfl (Fin.consE rfl (Fin.nil ?_)))
      refine J.unguard rfl rfl rfl ?_
      refine J.callD (v := .bool true) Ty.bd52 rfl rfl (fun w1 hw => by
        have h := simple_spec _ (n :: n1 :: rest) w1 (hr.st hoff hw) (by simp; omega)
        rw [decide_eq_true hnd] at h
        exact h) ?_
      exact J.finQ rfl
    · skip
      refine Fin.consE rfl (Fin.consE rfl (Fin.nil ?_))
      first | refine J.skip rfl rfl rfl rfl rfl ?_ | refine J.skipU rfl rfl rfl rfl ?_ | (refine J.unguard rfl rfl rfl ?_; refine J.not rfl rfl ?_)
      exact J.finP rfl
    · skip
      refine Fin.consE rfl (Fin.consE rfl (Fin.nil ?_))
      (first | refine J.pickT rfl rfl rfl ?_ | refine J.pickF rfl rfl rfl ?_)
      exact J.finP rfl
    · skip
      refine Fin.consE rfl (Fin.consE rfl (Fin.nil ?_))
      refine J.move rfl rfl ?_
      exact J.finP rfl
    · skip
      refine Fin.consE rfl (Fin.nil ?_)
      first | refine J.skip rfl rfl rfl rfl rfl ?_ | refine J.skipU rfl rfl rfl rfl ?_ | (refine J.unguard rfl rfl rfl ?_; refine J.move rfl rfl ?_)
      exact J.finP rfl
    · skip
      refine Fin.consE rfl (Fin.consE rfl (Fin.nil ?_))
      first | refine J.skip rfl rfl rfl rfl rfl ?_ | refine J.skipU rfl rfl rfl rfl ?_ | (refine J.unguard rfl rfl rfl ?_; refine J.indexAddrS Ty.el26 Ty.s3 rfl rfl (by omega) (by omega) rfl ?_)
      exact J.finP rfl
    · skip
      refine Fin.consE rfl (Fin.consE rfl (Fin.nil ?_))
      refine J.unguard rfl rfl rfl ?_
      refine J.load1 (v := iV n) Ty.a3 rfl (fun w1 hw => rowI_at (i := 0) (hr.st hoff hw.2) rfl (by omega)) rfl ?_
      exact J.finP rfl
    · skip
      refine Fin.consE rfl (Fin.nil ?_)
      first | refine J.skip rfl rfl rfl rfl rfl ?_ | refine J.skipU rfl rfl rfl rfl ?_ | (refine J.unguard rfl rfl rfl ?_; refine J.fieldAddr Ty.fd41_0 rfl rfl ?_)
      exact J.finP rfl
    · skip
      refine Fin.consE rfl (Fin.consE rfl (Fin.nil ?_))
      first | refine J.skip rfl rfl rfl rfl rfl ?_ | refine J.skipU rfl rfl rfl rfl ?_ | (refine J.unguard rfl rfl rfl ?_; refine J.load1 Ty.a3 rfl (fun w hw => (cell_of (hw.2.own (_, _) (by repeat first | exact .head _ | apply List.Mem.tail | apply List.mem_append_right))).trans (by exact rfl)) rfl ?_)
      exact J.finP rfl
    · skip
      refine Fin.consE rfl (Fin.consE rfl (Fin.consE rfl (Fin.nil ?_)))
      refine J.unguard rfl rfl rfl ?_
      refine J.bin rfl rfl rfl rfl ?_
      refine J.name 39 rfl (show Value.bool _ = .bool false by simp) ?_
      exact J.finP rfl
    · skip
      refine Fin.consE rfl (Fin.consE rfl (Fin.nil ?_))
      (first | refine J.pickT rfl rfl rfl ?_ | refine J.pickF rfl rfl rfl ?_)
      exact J.finP rfl
    · skip
      refine Fin.consE rfl (Fin.consE rfl (Fin.nil ?_))
      refine J.move rfl rfl ?_
      exact J.finP rfl
    · skip
      refine Fin.consE rfl (Fin.nil ?_)
      first | refine J.skip rfl rfl rfl rfl rfl ?_ | refine J.skipU rfl rfl rfl rfl ?_ | (refine J.unguard rfl rfl rfl ?_; refine J.loadA (vs := cI b) Ty.a23 Ty.s23 rfl rfl (fun w hw => Cells.of_block (hw.2.own (_, _) (by repeat first | exact .head _ | apply List.Mem.tail | apply List.mem_append_right)) (by exact rfl)) rfl ?_)
      exact J.finP rfl
    · skip
      refine Fin.consE rfl (Fin.nil ?_)
      first | refine J.skip rfl rfl rfl rfl rfl ?_ | refine J.skipU rfl rfl rfl rfl ?_ | (refine J.unguard rfl rfl rfl ?_; refine J.fieldAddr Ty.fd41_1 rfl rfl ?_)
      exact J.finP rfl
    · skip
      refine Fin.consE rfl (Fin.consE rfl (Fin.nil ?_))
      first | refine J.skip rfl rfl rfl rfl rfl ?_ | refine J.skipU rfl rfl rfl rfl ?_ | (refine J.unguard rfl rfl rfl ?_; refine J.loadA (vs := cI id) Ty.a23 Ty.s23 rfl rfl (fun w hw => Cells.of_block (hw.2.own (_, _) (by repeat first | exact .head _ | apply List.Mem.tail | apply List.mem_append_right)) (by exact rfl)) rfl ?_)
      exact J.finP rfl
    · skip
      refine Fin.consE rfl (Fin.consE rfl (Fin.consE rfl (Fin.nil ?_)))
      refine J.unguard rfl rfl rfl ?_
      refine J.eqI Ty.QI Ty.keyI rfl rfl rfl ?_
      refine J.name 45 rfl (show Value.bool _ = .bool false by simp [hne]) ?_
      exact J.finP rfl
    · skip
      refine Fin.consE rfl (Fin.consE rfl (Fin.nil ?_))
      (first | refine J.pickT rfl rfl rfl ?_ | refine J.pickF rfl rfl rfl ?_)
      exact J.finP rfl
  case htail =>
    refine Fin.consE rfl (Fin.consE rfl (Fin.consE rfl (Fin.consE rfl (Fin.consE rfl (Fin.consE rfl (Fin.consE rfl (Fin.consE rfl (Fin.consE rfl (Fin.consE rfl (Fin.consE rfl (Fin.consE rfl (Fin.consE rfl (Fin.consE rfl (Fin.consE rfl (Fin.consE rfl (Fin.consE rfl (Fin.consE rfl (Fin.consE rfl (Fin.consE rfl (Fin.consE rfl (Fin.consE rfl (Fin.consE rfl (Fin.consE rfl (Fin.consE rfl (Fin.consE rfl (Fin.consE rfl (Fin.consE rfl (Fin.consE rfl (Fin.consE rfl (Fin.consE rfl (Fin.nil ?_)))))))))))))))))))))))))))))))
    refine J.nil ?_
    refine JX.thenN (hK2 _ _ ?_)
    first | refine JC.condF rfl ?_ | refine JC.cond rfl (fun h => by first | (exfalso; simp at h; omega) | (simp at h)) (fun _ => ?_)
    refine JC.skip ?_
    refine JX.thenN (hK1 _ _ ?_)
    refine JC.seq (fun K3 hK3 => ?_)
    refine JC.seq (fun K4 hK4 => ?_)
    refine JC.region ?_
    refine J.move rfl rfl ?_
    refine J.move rfl rfl ?_
    refine J.indexAddrS Ty.el26 Ty.s3 rfl rfl (by omega) (by omega) rfl ?_
    refine J.load1 (v := iV n1) Ty.a3 rfl (fun w1 hw => rowI_at (i := 1) (hr.st hoff hw) rfl (by omega)) rfl ?_
    refine J.callB (v := .bool true) (fun w1 w2 hw hb => hw.step hb) Ty.bd53 rfl rfl (fun w1 hw => by
      have h := isOpen_spec ov os n1 w1 (hro.st hoffo hw) hlo
      rw [hop] at h
      exact h) ?_
    refine J.not rfl rfl ?_
    refine J.nil ?_
    refine JX.thenN (hK4 _ _ ?_)
    first | refine JC.condF rfl ?_ | refine JC.cond rfl (fun h => by first | (exfalso; simp at h; omega) | (simp at h)) (fun _ => ?_)
    refine JC.skip ?_
    refine JX.thenN (hK3 _ _ ?_)
    refine JC.seq (fun K5 hK5 => ?_)
    refine JC.seq (fun K6 hK6 => ?_)
    apply JC.drawL 9 [Eqv (.pointer (some ⟨t, 0, none⟩)), Eqv (.agg (cP p).toArray), Eqv (.pointer (some ⟨b7, 0 + 1, none⟩)), Eqv (.agg (cI id).toArray), Eqv (.agg (cI b).toArray), Eqv (.slice (some ⟨wb, wo, none⟩) (rest.length + 2) wc), Eqv (.pointer (some ⟨wb, wo + (1 : Int).toNat * 1, none⟩)), Eqv (iV n1), Eqv (.agg (cE (⟨p, id, b, -1, n1⟩ : EV)).toArray)] Ty.mixed rfl rfl rfl (by kernel_rfl) rfl rfl (fun w w' hw hb => hw.step hb) ⟨fun _ _ _ h _ => h, fun _ _ _ h _ => h, fun _ _ _ h _ => h, fun _ _ _ h _ => h, fun _ _ _ h _ => h, fun _ _ _ h _ => h, fun _ _ _ h _ => h, fun _ _ _ h _ => h, fun _ _ _ h _ => h, trivial⟩ ?hstep ?htail
    case hstep =>
      refine ⟨fun wi => ?_, fun wi => ?_, fun wi => ?_, fun wi => ?_, fun wi => ?_, fun wi => ?_, fun wi => ?_, fun wi => ?_, fun wi => ?_, trivial⟩
      · skip
        refine Fin.nil ?_
        refine J.move rfl rfl ?_
        exact J.finP rfl
      · skip
        refine Fin.nil ?_
        refine J.loadA (vs := cP p) Ty.a25 Ty.s25 rfl rfl (fun w hw => Cells.of_block (hw.2.own (_, _) (by repeat first | exact .head _ | apply List.Mem.tail | apply List.mem_append_right)) (by exact rfl)) rfl ?_
        exact J.finP rfl
      · skip
        refine Fin.nil ?_
        refine J.fieldAddr Ty.fd41_1 rfl rfl ?_
        exact J.finP rfl
      · skip
        refine Fin.consE rfl (Fin.nil ?_)
        refine J.loadA (vs := cI id) Ty.a23 Ty.s23 rfl rfl (fun w hw => Cells.of_block (hw.2.own (_, _) (by repeat first | exact .head _ | apply List.Mem.tail | apply List.mem_append_right)) (by exact rfl)) rfl ?_
        exact J.finP rfl
      · skip
        refine Fin.nil ?_
        refine J.loadA (vs := cI b) Ty.a23 Ty.s23 rfl rfl (fun w hw => Cells.of_block (hw.2.own (_, _) (by repeat first | exact .head _ | apply List.Mem.tail | apply List.mem_append_right)) (by exact rfl)) rfl ?_
        exact J.finP rfl
      · skip
        refine Fin.nil ?_
        refine J.move rfl rfl ?_
        exact J.finP rfl
      · skip
        refine Fin.consE rfl (Fin.nil ?_)
        refine J.indexAddrS Ty.el26 Ty.s3 rfl rfl (by omega) (by omega) rfl ?_
        exact J.finP rfl
      · skip
        refine Fin.consE rfl (Fin.nil ?_)
        refine J.load1 (v := iV n1) Ty.a3 rfl (fun w1 hw => rowI_at (i := 1) (hr.st hoff hw.2) rfl (by omega)) rfl ?_
        exact J.finP rfl
      · skip
        refine Fin.consE rfl (Fin.consE rfl (Fin.consE rfl (Fin.consE rfl (Fin.nil ?_))))
        refine J.buildS (cs := cE (⟨p, id, b, -1, n1⟩ : EV)) Ty.pl34 Ty.zE_ rfl (by kernel_rfl) rfl ?_
        exact J.finP rfl
    case htail =>
      refine Fin.consE rfl (Fin.consE rfl (Fin.consE rfl (Fin.consE rfl (Fin.consE rfl (Fin.consE rfl (Fin.consE rfl (Fin.consE rfl (Fin.consE rfl (Fin.nil ?_)))))))))
      refine J.perm ([(t, tabO most mb), (mb, .map es clock)] ++ ((b12, cb (cD nilV false false) 37) :: (b9, cb (cI b) 23) :: (b8, cb (cP p) 25) :: (b7, cb (cW n id) 41) :: [])) (by (refine perm_cnt (fun _ => ?_)); simp only [cntB_append, cntB_cons, cntB_nil, Nat.add_zero, Nat.zero_add]; try ac_rfl) ?_
      refine J.callS (α := Array MapEntry × Nat) (V := fun _ => .int .i64 0) (Pr := fun y => Tab L' y.1 y.2) (L := fun y => [(t, tabO most mb), (mb, .map y.1 y.2)]) (l1 := [(t, tabO most mb), (mb, .map es clock)]) Ty.bd17 rfl rfl (fun w1 hw => add_all hw.owns hT (⟨p, id, b, -1, n1⟩ : EV) hokE hadd) (fun y hT' => ?_)
      obtain ⟨es', clock'⟩ := y
      simp only at hT' ⊢
      refine J.perm ((b12, cb (cD nilV false false) 37) :: (b9, cb (cI b) 23) :: (b8, cb (cP p) 25) :: (b7, cb (cW n id) 41) :: [(t, tabO most mb), (mb, .map es' clock')]) (by (refine perm_cnt (fun _ => ?_)); simp only [cntB_append, cntB_cons, cntB_nil, Nat.add_zero, Nat.zero_add]; try ac_rfl) ?_
      refine J.assign rfl rfl ?_
      refine J.nil ?_
      refine JX.thenN (hK6 _ _ ?_)
      refine JC.seq (fun K7 hK7 => ?_)
      refine JC.region ?_
      refine J.move rfl rfl ?_
      refine J.bin rfl rfl rfl rfl ?_
      refine J.nil ?_
      refine JX.thenN (hK7 _ _ ?_)
      first | refine JC.condF rfl ?_ | refine JC.cond rfl (fun h => by first | (exfalso; simp at h; omega) | (simp at h)) (fun _ => ?_)
      refine JC.skip ?_
      refine JX.thenN (hK5 _ _ ?_)
      refine JC.seq (fun K8 hK8 => ?_)
      refine JC.region ?_
      refine J.loadOA (vs := cP p) Ty.a25 Ty.s25 rfl (by repeat first | exact .head _ | apply List.Mem.tail | apply List.mem_append_right) (by exact rfl) rfl rfl ?_
      refine J.fieldAddr Ty.fd41_1 rfl rfl ?_
      refine J.loadOA (vs := cI id) Ty.a23 Ty.s23 rfl (by repeat first | exact .head _ | apply List.Mem.tail | apply List.mem_append_right) (by exact rfl) rfl rfl ?_
      refine J.loadOA (vs := cI b) Ty.a23 Ty.s23 rfl (by repeat first | exact .head _ | apply List.Mem.tail | apply List.mem_append_right) (by exact rfl) rfl rfl ?_
      refine J.move rfl rfl ?_
      refine J.buildS (cs := cS p id b (.slice (some ⟨wb, wo, none⟩) (rest.length + 2) wc)) Ty.pl107 zS rfl (by kernel_rfl) rfl ?_
      refine J.iface (by kernel_rfl) rfl rfl ?_
      refine J.perm ([] ++ ((b12, cb (cD nilV false false) 37) :: (b9, cb (cI b) 23) :: (b8, cb (cP p) 25) :: (b7, cb (cW n id) 41) :: [(t, tabO most mb), (mb, .map es' clock')])) (.refl _) ?_
      refine J.callS (α := Value × List (Nat × Obj)) (V := fun x => .agg (cF 4 p id b x.1).toArray) (Pr := fun x => Vec 3 1 x.1 (rest.length + 2) ((n :: n1 :: rest).map iV) x.2) (L := fun x => x.2) (l1 := []) Ty.bd54 rfl rfl (fun w1 hw => plainS_spec p id b w1 (.slice (some ⟨wb, wo, none⟩) (rest.length + 2) wc) (n :: n1 :: rest) (hr.st hoff hw) (by simp; omega)) (fun x hv8 => ?_)
      obtain ⟨v8, lp8⟩ := x
      simp only at hv8 ⊢
      obtain ⟨a8, c8, rfl, hc8⟩ := hv8.form
      refine J.perm ((b12, cb (cD nilV false false) 37) :: (b9, cb (cI b) 23) :: (b8, cb (cP p) 25) :: (b7, cb (cW n id) 41) :: ([(t, tabO most mb), (mb, .map es' clock')] ++ lp8)) (by (refine perm_cnt (fun _ => ?_)); simp only [cntB_append, cntB_cons, cntB_nil, Nat.add_zero, Nat.zero_add]; try ac_rfl) ?_
      refine J.alloc zF rfl rfl (fun b15 => ?_)
      refine J.storeW Ty.s52 rfl rfl rfl rfl rfl (by simp [Value.oneCell']) (by repeat first | exact .here | apply Up.there) ?_
      refine J.nil ?_
      refine JX.thenN (hK8 _ _ ?_)
      refine JC.seq (fun K9 hK9 => ?_)
      apply JC.drawL 5 [Eqv (.slice (some ⟨wb, wo, none⟩) (rest.length + 2) wc), Eqv (.pointer (some ⟨wb, wo + (1 : Int).toNat * 1, none⟩)), Eqv (iV n1), Eqv (.agg (cF 4 p id b (.slice a8 (rest.length + 2) c8)).toArray), Eqv (.agg (cH n1 (cF 4 p id b (.slice a8 (rest.length + 2) c8))).toArray)] Ty.mixed rfl rfl rfl (by kernel_rfl) rfl rfl (fun w w' hw hb => hw.step hb) ⟨fun _ _ _ h _ => h, fun _ _ _ h _ => h, fun _ _ _ h _ => h, fun _ _ _ h _ => h, fun _ _ _ h _ => h, trivial⟩ ?hstep ?htail
      case hstep =>
        refine ⟨fun wi => ?_, fun wi => ?_, fun wi => ?_, fun wi => ?_, fun wi => ?_, trivial⟩
        · skip
          refine Fin.nil ?_
          refine J.move rfl rfl ?_
          exact J.finP rfl
        · skip
          refine Fin.consE rfl (Fin.nil ?_)
          refine J.indexAddrS Ty.el26 Ty.s3 rfl rfl (by omega) (by omega) rfl ?_
          exact J.finP rfl
        · skip
          refine Fin.consE rfl (Fin.nil ?_)
          refine J.load1 (v := iV n1) Ty.a3 rfl (fun w1 hw => rowI_at (i := 1) (hr.st hoff hw.2) rfl (by omega)) rfl ?_
          exact J.finP rfl
        · skip
          refine Fin.nil ?_
          refine J.loadA (vs := cF 4 p id b (.slice a8 (rest.length + 2) c8)) Ty.a52 Ty.s52 rfl rfl (fun w hw => Cells.of_block (hw.2.own (_, _) (by repeat first | exact .head _ | apply List.Mem.tail | apply List.mem_append_right)) (by exact rfl)) rfl ?_
          exact J.finP rfl
        · skip
          refine Fin.consE rfl (Fin.consE rfl (Fin.nil ?_))
          refine J.buildS (cs := cH n1 (cF 4 p id b (.slice a8 (rest.length + 2) c8))) Ty.pl54 zH rfl (by kernel_rfl) rfl ?_
          exact J.finP rfl
      case htail =>
        refine Fin.consE rfl (Fin.consE rfl (Fin.consE rfl (Fin.consE rfl (Fin.consE rfl (Fin.nil ?_)))))
        refine J.buildSl (cs := cH n1 (cF 4 p id b (.slice a8 (rest.length + 2) c8))) Ty.el35 Ty.s54 zH rfl rfl rfl rfl (by kernel_rfl) rfl rfl (fun b84 => ?_)
        refine J.buildS (cs := cD (.slice (some ⟨b84, 0, none⟩) 1 1) true false) Ty.pl37 zN rfl (by kernel_rfl) rfl ?_
        refine J.storeW Ty.s37 rfl rfl rfl rfl rfl (by simp [Value.oneCell']) (by repeat first | exact .here | apply Up.there) ?_
        refine J.assign rfl rfl ?_
        refine J.nil ?_
        refine JX.thenN (hK9 _ _ ?_)
        refine JC.ret ?_
        refine JX.retCT rfl rfl rfl Ty.a37 Ty.s37 (vs := cD (.slice (some ⟨b84, 0, none⟩) 1 1) true false) rfl (fun w1 hw => Cells.of_block (hw.own _ (.tail _ (.tail _ (.head _)))) rfl) (fun w1 hw => ?_)
        exact ⟨⟨b84, a8, c8, lp8, es', clock'⟩, rfl, ⟨hv8, hT'⟩, (hw.perm (l' := [(b15, cb (cF 4 p id b (.slice a8 (rest.length + 2) c8)) 52), (b12, cb (cD (.slice (some ⟨b84, 0, none⟩) 1 1) true false) 37), (b9, cb (cI b) 23), (b8, cb (cP p) 25), (b7, cb (cW n id) 41)] ++ ((b84, cb (cH n1 (cF 4 p id b (.slice a8 (rest.length + 2) c8))) 54) :: (lp8 ++ [(t, tabO most mb), (mb, .map es' clock')]))) (by (refine perm_cnt (fun _ => ?_)); simp only [cntB_append, cntB_cons, cntB_nil, Nat.add_zero, Nat.zero_add]; try ac_rfl)).drop (List.sublist_append_right _ _)⟩

end Go.Proofs.Ytpldpkdlloolkaa
/-
  A Setup comes: what setup.Take does at a trail that may be: contracts.
-/
namespace Go.Proofs.Ytpldpkdlloolkaa
open Go.J Go.RowKit
set_option linter.unusedVariables false
set_option linter.unusedSimpArgs false
set_option maxRecDepth 8000
theorem Vec.pos {t k : Nat} {v : Value} {xs : List Value} {lp : List (Nat × Obj)} (h : Vec t 1 v k xs lp) (hk : 0 < k) : ∃ b c sp, v = .slice (some ⟨b, 0, none⟩) k c ∧ lp = [(b, cb (xs ++ sp) t)] ∧ k ≤ c := by
  obtain ⟨_, h⟩ := h
  rcases h with ⟨_, rfl, _⟩ | ⟨b, c, sp, rfl, rfl, _, hc⟩
  · omega
  · exact ⟨b, c, sp, rfl, rfl, hc⟩
/-- a frame's slices lie off some blocks -/
structure FOff (S : List Nat) (f : FV) (s : FSl) : Prop where
  tr : Off S s.tr (f.tr.map iV)
  ids : Off S s.ids (f.ids.flatMap cI)
  val : Off S s.val (f.val.map u8)
  txt : Off S s.txt (f.txt.map u8)
theorem FRows.st {w0 w : World} {S : List Nat} {l : List (Nat × Obj)} {f : FV} {s : FSl} (h : FRows w0 f s) (ho : FOff S f s) (hw : St w0 S l w) : FRows w f s := ⟨h.tr.st ho.tr hw, h.ids.st ho.ids hw, h.val.st ho.val hw, h.txt.st ho.txt hw⟩
theorem ofG2 (f : FV) (s : FSl) (w : World) (hs : FRows w f s) (hg : BigF f) (hk : f.k = 4) {p : PV} {a b : IDV} {way : List Int} (hpe : f.p = p) (hae : f.a = a) (hbe : f.b = b) (hwe : f.tr = way) :
    Calls Try.prog 55 [.agg (cFG f s).toArray].toArray w fun r w' => ∃ x : Value × List (Nat × Obj), r = .returned (.tuple #[.iface 107 (.agg (cS p a b x.1).toArray), .bool true]) ∧ Vec 3 1 x.1 way.length (way.map iV) x.2 ∧ St w [] x.2 w' := by
  subst hpe
  subst hae
  subst hbe
  subst hwe
  exact ofG_spec f s w hs hg hk

theorem gtake_off (t mb : Nat) (most : Int) (L : List EV) (es : Array MapEntry) (clock : Nat) (w : World) (hw0 : Own w [(t, tabO most mb), (mb, .map es clock)]) (hT : Tab L es clock) (n fr : Int) (id a b : IDV) (p : PV) (hp : okN p.n) (hfr : okN fr) (f : FV) (s : FSl) (hs : FRows w f s) (hso : FOff [t, mb] f s) (hg : BigF f) (hk : f.k = 4) (hpe : f.p = p) (hae : f.a = a) (hbe : f.b = b) (way : List Int) (hwe : f.tr = way) (hlen : way.length < 1099511627776) (i : Nat) (hi : 1 ≤ i) (hi2 : i < way.length) (hat : placeP way n = (i : Int)) (hfrom : way[i - 1]? = some fr) (hnd : way.Nodup) (ov : Value) (os : List Bool) (hro : Row w ov os.length (os.map bV)) (hoffo : Off [t, mb] ov (os.map bV)) (hlo : os.length < 4611686018427387904) (hlast : i + 1 = way.length) (hid : ¬ b = id) :
    Calls Try.prog 19 [.pointer (some ⟨t, 0, none⟩), .agg (cW n id).toArray, .int .i64 fr, .agg (cFG f s).toArray, ov].toArray w fun r w' => ∃ h : Nat, r = .returned (.agg (cD (.slice (some ⟨h, 0, none⟩) 1 1) false false).toArray) ∧ St w [t, mb] ((h, cb (cH fr (cF 5 p zI zI nilV)) 54) :: [(t, tabO most mb), (mb, .map es clock)]) w' := by
  obtain ⟨vt1, vi1, vv1, vx1⟩ := s
  obtain ⟨at1, ct1, hh, _, _⟩ := _root_.id hs.tr
  simp only at hh
  subst hh
  obtain ⟨ai1, ci1, hh, _, _⟩ := _root_.id hs.ids
  simp only at hh
  subst hh
  obtain ⟨av1, cv1, hh, _, _⟩ := _root_.id hs.val
  simp only at hh
  subst hh
  obtain ⟨ax1, cx1, hh, _, _⟩ := _root_.id hs.txt
  simp only at hh
  subst hh
  refine calls_of_J (args := [.pointer (some ⟨t, 0, none⟩), .agg (cW n id).toArray, .int .i64 fr, .agg (cFG f ⟨.slice at1 f.tr.length ct1, .slice ai1 f.ids.length ci1, .slice av1 f.val.length cv1, .slice ax1 f.txt.length cx1⟩).toArray, ov]) (e := [(0, .pointer (some ⟨t, 0, none⟩)), (1, .agg (cW n id).toArray), (2, .int .i64 fr), (3, .agg (cFG f ⟨.slice at1 f.tr.length ct1, .slice ai1 f.ids.length ci1, .slice av1 f.val.length cv1, .slice ax1 f.txt.length cx1⟩).toArray), (4, ov)]) Try.func19 rfl rfl ⟨rfl, rfl, rfl, rfl, rfl, trivial⟩ (hw0.st) ?_
  refine JC.seq (fun K0 hK0 => ?_)
  refine JC.region ?_
  refine J.box rfl rfl rfl (fun b6 => ?_)
  refine J.box rfl rfl rfl (fun b8 => ?_)
  refine J.alloc zN rfl rfl (fun b10 => ?_)
  refine J.nil ?_
  refine JX.thenN (hK0 _ _ ?_)
  refine JC.seq (fun K1 hK1 => ?_)
  refine JC.region ?_
  refine J.loadOA (vs := cFG f ⟨.slice at1 f.tr.length ct1, .slice ai1 f.ids.length ci1, .slice av1 f.val.length cv1, .slice ax1 f.txt.length cx1⟩) Ty.a52 Ty.s52 rfl (by repeat first | exact .head _ | apply List.Mem.tail | apply List.mem_append_right) (by exact rfl) rfl rfl ?_
  refine J.perm ([] ++ ((b10, cb (cD nilV false false) 37) :: (b8, cb (cFG f ⟨.slice at1 f.tr.length ct1, .slice ai1 f.ids.length ci1, .slice av1 f.val.length cv1, .slice ax1 f.txt.length cx1⟩) 52) :: (b6, cb (cW n id) 41) :: [(t, tabO most mb), (mb, .map es clock)])) (.refl _) ?_
  refine J.callS (α := Value × List (Nat × Obj)) (V := fun x => .tuple #[.iface 107 (.agg (cS p a b x.1).toArray), .bool true]) (Pr := fun x => Vec 3 1 x.1 way.length (way.map iV) x.2) (L := fun x => x.2) (l1 := []) Ty.bd55 rfl rfl (fun w1 hw => ofG2 f ⟨.slice at1 f.tr.length ct1, .slice ai1 f.ids.length ci1, .slice av1 f.val.length cv1, .slice ax1 f.txt.length cx1⟩ w1 (hs.st hso hw) hg hk hpe hae hbe hwe) (fun x hv8 => ?_)
  obtain ⟨v8, lp8⟩ := x
  simp only at hv8 ⊢
  obtain ⟨q, cq, sp, rfl, rfl, hcq⟩ := Vec.pos hv8 (by omega)
  have hrq : ∀ {w1 : World} {l : List (Nat × Obj)}, St w [t, mb] ((q, cb (way.map iV ++ sp) 3) :: l) w1 → Row w1 (.slice (some ⟨q, 0, none⟩) way.length cq) way.length (way.map iV) := fun hw => hv8.row hw
  refine J.perm ((b10, cb (cD nilV false false) 37) :: (b8, cb (cFG f ⟨.slice at1 f.tr.length ct1, .slice ai1 f.ids.length ci1, .slice av1 f.val.length cv1, .slice ax1 f.txt.length cx1⟩) 52) :: (b6, cb (cW n id) 41) :: ((q, cb (way.map iV ++ sp) 3) :: [(t, tabO most mb), (mb, .map es clock)])) (by (refine perm_cnt (fun _ => ?_)); simp only [cntB_append, cntB_cons, cntB_nil, Nat.add_zero, Nat.zero_add]; try ac_rfl) ?_
  refine J.move rfl rfl ?_
  refine J.extract rfl rfl rfl ?_
  refine J.extract rfl rfl rfl ?_
  refine J.assign rfl rfl ?_
  refine J.assign rfl rfl ?_
  refine J.nil ?_
  refine JX.thenN (hK1 _ _ ?_)
  refine JC.seq (fun K2 hK2 => ?_)
  refine JC.region ?_
  refine J.move rfl rfl ?_
  (first | refine J.assertT (by kernel_rfl) rfl rfl ?_ | refine J.assertF (by kernel_rfl) rfl rfl zS rfl ?_ | refine J.assertN (by kernel_rfl) rfl zS rfl ?_)
  refine J.move rfl rfl ?_
  refine J.extract rfl rfl rfl ?_
  refine J.extract rfl rfl rfl ?_
  refine J.alloc zS rfl rfl (fun b13 => ?_)
  refine J.storeW Ty.s107 rfl rfl rfl rfl rfl (by simp [Value.oneCell']) (by repeat first | exact .here | apply Up.there) ?_
  refine J.assign rfl rfl ?_
  refine J.nil ?_
  refine JX.thenN (hK2 _ _ ?_)
  refine JC.seq (fun K3 hK3 => ?_)
  refine JC.region ?_
  refine J.fieldAddr Ty.fd107_3 rfl rfl ?_
  refine J.loadO Ty.a26 rfl (by repeat first | exact .head _ | apply List.Mem.tail | apply List.mem_append_right) (by exact rfl) rfl ?_
  refine J.fieldAddr Ty.fd41_0 rfl rfl ?_
  refine J.loadO Ty.a3 rfl (by repeat first | exact .head _ | apply List.Mem.tail | apply List.mem_append_right) (by exact rfl) rfl ?_
  refine J.callB (v := .int .i64 (i : Int)) (fun w1 w2 hw hb => hw.step hb) Ty.bd56 rfl rfl (fun w1 hw => by
    have h := place_spec (.slice (some ⟨q, 0, none⟩) way.length cq) way n w1 (hrq (hw.perm (l' := (q, cb (way.map iV ++ sp) 3) :: ((b13, cb (cS p a b (.slice (some ⟨q, 0, none⟩) way.length cq)) 107) :: (b10, cb (cD nilV false false) 37) :: (b8, cb (cFG f ⟨.slice at1 f.tr.length ct1, .slice ai1 f.ids.length ci1, .slice av1 f.val.length cv1, .slice ax1 f.txt.length cx1⟩) 52) :: (b6, cb (cW n id) 41) :: [(t, tabO most mb), (mb, .map es clock)])) (by (refine perm_cnt (fun _ => ?_)); simp only [cntB_append, cntB_cons, cntB_nil, Nat.add_zero, Nat.zero_add]; try ac_rfl))) (by omega)
    rw [hat] at h
    exact h) ?_
  refine J.assign rfl rfl ?_
  refine J.nil ?_
  refine JX.thenN (hK3 _ _ ?_)
  refine JC.seq (fun K4 hK4 => ?_)
  refine JC.seq (fun K5 hK5 => ?_)
  refine JC.region ?_
  refine J.move rfl rfl ?_
  refine J.eqNil Ty.u29 rfl rfl rfl ?_
  refine J.move rfl rfl ?_
  first | refine J.skip rfl rfl rfl rfl rfl ?_ | refine J.skipU rfl rfl rfl rfl ?_ | (refine J.unguard rfl rfl rfl ?_; refine J.move rfl rfl ?_)
  first | refine J.skip rfl rfl rfl rfl rfl ?_ | refine J.skipU rfl rfl rfl rfl ?_ | (refine J.unguard rfl rfl rfl ?_; refine J.not rfl rfl ?_)
  (first | refine J.pickT rfl rfl rfl ?_ | refine J.pickF rfl rfl rfl ?_)
  refine J.move rfl rfl ?_
  first | refine J.skip rfl rfl rfl rfl rfl ?_ | refine J.skipU rfl rfl rfl rfl ?_ | (refine J.unguard rfl rfl rfl ?_; refine J.move rfl rfl ?_)
  refine J.unguard rfl rfl rfl ?_
  refine J.bin rfl rfl rfl rfl ?_
  refine J.name 43 rfl (show Value.bool _ = .bool false by simp; omega) ?_
  (first | refine J.pickT rfl rfl rfl ?_ | refine J.pickF rfl rfl rfl ?_)
  refine J.move rfl rfl ?_
  first | refine J.skip rfl rfl rfl rfl rfl ?_ | refine J.skipU rfl rfl rfl rfl ?_ | (refine J.unguard rfl rfl rfl ?_; refine J.fieldAddr Ty.fd107_3 rfl rfl ?_)
  first | refine J.skip rfl rfl rfl rfl rfl ?_ | refine J.skipU rfl rfl rfl rfl ?_ | (refine J.unguard rfl rfl rfl ?_; refine J.loadO Ty.a26 rfl (by repeat first | exact .head _ | apply List.Mem.tail | apply List.mem_append_right) (by exact rfl) rfl ?_)
  first | refine J.skip rfl rfl rfl rfl rfl ?_ | refine J.skipU rfl rfl rfl rfl ?_ | (refine J.unguard rfl rfl rfl ?_; refine J.move rfl rfl ?_)
  first | refine J.skip rfl rfl rfl rfl rfl ?_ | refine J.skipU rfl rfl rfl rfl ?_ | (refine J.unguard rfl rfl rfl ?_; (first | refine J.subN rfl rfl (by omega) (by omega) rfl ?_ | refine J.bin rfl rfl rfl rfl ?_))
  refine J.unguard rfl rfl rfl ?_
  refine J.indexAddrS Ty.el26 Ty.s3 rfl rfl (by omega) (by omega) rfl ?_
  refine J.unguard rfl rfl rfl ?_
  refine J.load1 (v := iV fr) Ty.a3 rfl (fun w1 hw => rowI_at (i := i - 1) (hrq (hw.perm (l' := (q, cb (way.map iV ++ sp) 3) :: ((b13, cb (cS p a b (.slice (some ⟨q, 0, none⟩) way.length cq)) 107) :: (b10, cb (cD nilV false false) 37) :: (b8, cb (cFG f ⟨.slice at1 f.tr.length ct1, .slice ai1 f.ids.length ci1, .slice av1 f.val.length cv1, .slice ax1 f.txt.length cx1⟩) 52) :: (b6, cb (cW n id) 41) :: [(t, tabO most mb), (mb, .map es clock)])) (by (refine perm_cnt (fun _ => ?_)); simp only [cntB_append, cntB_cons, cntB_nil, Nat.add_zero, Nat.zero_add]; try ac_rfl))) hfrom (by omega)) rfl ?_
  first | refine J.skip rfl rfl rfl rfl rfl ?_ | refine J.skipU rfl rfl rfl rfl ?_ | (refine J.unguard rfl rfl rfl ?_; refine J.move rfl rfl ?_)
  refine J.unguard rfl rfl rfl ?_
  refine J.bin rfl rfl rfl rfl ?_
  refine J.name 53 rfl (show Value.bool _ = .bool false by simp) ?_
  (first | refine J.pickT rfl rfl rfl ?_ | refine J.pickF rfl rfl rfl ?_)
  refine J.move rfl rfl ?_
  first | refine J.skip rfl rfl rfl rfl rfl ?_ | refine J.skipU rfl rfl rfl rfl ?_ | (refine J.unguard rfl rfl rfl ?_; refine J.fieldAddr Ty.fd107_3 rfl rfl ?_)
  first | refine J.skip rfl rfl rfl rfl rfl ?_ | refine J.skipU rfl rfl rfl rfl ?_ | (refine J.unguard rfl rfl rfl ?_; refine J.loadO Ty.a26 rfl (by repeat first | exact .head _ | apply List.Mem.tail | apply List.mem_append_right) (by exact rfl) rfl ?_)
  refine J.unguard rfl rfl rfl ?_
  refine J.callB (v := .bool true) (fun w1 w2 hw hb => hw.step hb) Ty.bd52 rfl rfl (fun w1 hw => by
    have h := simple_spec (.slice (some ⟨q, 0, none⟩) way.length cq) way w1 (hrq (hw.perm (l' := (q, cb (way.map iV ++ sp) 3) :: ((b13, cb (cS p a b (.slice (some ⟨q, 0, none⟩) way.length cq)) 107) :: (b10, cb (cD nilV false false) 37) :: (b8, cb (cFG f ⟨.slice at1 f.tr.length ct1, .slice ai1 f.ids.length ci1, .slice av1 f.val.length cv1, .slice ax1 f.txt.length cx1⟩) 52) :: (b6, cb (cW n id) 41) :: [(t, tabO most mb), (mb, .map es clock)])) (by (refine perm_cnt (fun _ => ?_)); simp only [cntB_append, cntB_cons, cntB_nil, Nat.add_zero, Nat.zero_add]; try ac_rfl))) (by omega)
    rw [decide_eq_true hnd] at h
    exact h) ?_
  first | refine J.skip rfl rfl rfl rfl rfl ?_ | refine J.skipU rfl rfl rfl rfl ?_ | (refine J.unguard rfl rfl rfl ?_; refine J.not rfl rfl ?_)
  (first | refine J.pickT rfl rfl rfl ?_ | refine J.pickF rfl rfl rfl ?_)
  refine J.nil ?_
  refine JX.thenN (hK5 _ _ ?_)
  first | refine JC.condF rfl ?_ | refine JC.cond rfl (fun h => by first | (exfalso; simp at h; omega) | (simp at h)) (fun _ => ?_)
  refine JC.skip ?_
  refine JX.thenN (hK4 _ _ ?_)
  refine JC.seq (fun K6 hK6 => ?_)
  refine JC.region ?_
  refine J.move rfl rfl ?_
  refine J.fieldAddr Ty.fd107_0 rfl rfl ?_
  refine J.loadOA (vs := cP p) Ty.a25 Ty.s25 rfl (by repeat first | exact .head _ | apply List.Mem.tail | apply List.mem_append_right) (by exact rfl) rfl rfl ?_
  refine J.buildS (cs := cP p) Ty.pl114 zD rfl (by kernel_rfl) rfl ?_
  refine J.iface (by kernel_rfl) rfl rfl ?_
  refine J.callB (v := .agg (cF 5 p zI zI nilV).toArray) (fun w1 w2 hw hb => hw.step hb) Ty.bd54 rfl rfl (fun w1 hw => plainD_spec p w1) ?_
  refine J.buildS (cs := cH fr (cF 5 p zI zI nilV)) Ty.pl54 zH rfl (by kernel_rfl) rfl ?_
  refine J.buildSl (cs := cH fr (cF 5 p zI zI nilV)) Ty.el35 Ty.s54 zH rfl rfl rfl rfl (by kernel_rfl) rfl rfl (fun b69 => ?_)
  refine J.buildS (cs := cD (.slice (some ⟨b69, 0, none⟩) 1 1) false false) Ty.pl37 zN rfl (by kernel_rfl) rfl ?_
  refine J.alloc zN rfl rfl (fun b16 => ?_)
  refine J.storeW Ty.s37 rfl rfl rfl rfl rfl (by simp [Value.oneCell']) (by repeat first | exact .here | apply Up.there) ?_
  refine J.nil ?_
  refine JX.thenN (hK6 _ _ ?_)
  refine JC.seq (fun K7 hK7 => ?_)
  refine JC.region ?_
  refine J.fieldAddr Ty.fd107_0 rfl rfl ?_
  refine J.loadOA (vs := cP p) Ty.a25 Ty.s25 rfl (by repeat first | exact .head _ | apply List.Mem.tail | apply List.mem_append_right) (by exact rfl) rfl rfl ?_
  refine J.fieldAddr Ty.fd107_1 rfl rfl ?_
  refine J.loadOA (vs := cI a) Ty.a23 Ty.s23 rfl (by repeat first | exact .head _ | apply List.Mem.tail | apply List.mem_append_right) (by exact rfl) rfl rfl ?_
  refine J.fieldAddr Ty.fd107_2 rfl rfl ?_
  refine J.loadOA (vs := cI b) Ty.a23 Ty.s23 rfl (by repeat first | exact .head _ | apply List.Mem.tail | apply List.mem_append_right) (by exact rfl) rfl rfl ?_
  refine J.move rfl rfl ?_
  refine J.buildS (cs := cE (⟨p, a, b, fr, -1⟩ : EV)) Ty.pl34 Ty.zE_ rfl (by kernel_rfl) rfl ?_
  refine J.alloc Ty.zE_ rfl rfl (fun b17 => ?_)
  refine J.storeW Ty.s34 rfl rfl rfl rfl rfl (by simp [Value.oneCell']) (by repeat first | exact .here | apply Up.there) ?_
  refine J.nil ?_
  refine JX.thenN (hK7 _ _ ?_)
  refine JC.seq (fun K8 hK8 => ?_)
  refine JC.region ?_
  refine J.move rfl rfl ?_
  refine J.fieldAddr Ty.fd107_3 rfl rfl ?_
  refine J.loadO Ty.a26 rfl (by repeat first | exact .head _ | apply List.Mem.tail | apply List.mem_append_right) (by exact rfl) rfl ?_
  refine J.lenS rfl Ty.u26 rfl rfl ?_
  (first | refine J.subN rfl rfl (by omega) (by omega) rfl ?_ | refine J.bin rfl rfl rfl rfl ?_)
  refine J.bin rfl rfl rfl rfl ?_
  refine J.name 84 rfl (show Value.bool _ = .bool true by simp; omega) ?_
  refine J.assign rfl rfl ?_
  refine J.nil ?_
  refine JX.thenN (hK8 _ _ ?_)
  refine JC.seq (fun K9 hK9 => ?_)
  refine JC.seq (fun K10 hK10 => ?_)
  refine JC.region ?_
  refine J.move rfl rfl ?_
  refine J.move rfl rfl ?_
  first | refine J.skip rfl rfl rfl rfl rfl ?_ | refine J.skipU rfl rfl rfl rfl ?_ | (refine J.unguard rfl rfl rfl ?_; refine J.fieldAddr Ty.fd107_2 rfl rfl ?_)
  first | refine J.skip rfl rfl rfl rfl rfl ?_ | refine J.skipU rfl rfl rfl rfl ?_ | (refine J.unguard rfl rfl rfl ?_; refine J.loadOA (vs := cI b) Ty.a23 Ty.s23 rfl (by repeat first | exact .head _ | apply List.Mem.tail | apply List.mem_append_right) (by exact rfl) rfl rfl ?_)
  first | refine J.skip rfl rfl rfl rfl rfl ?_ | refine J.skipU rfl rfl rfl rfl ?_ | (refine J.unguard rfl rfl rfl ?_; refine J.fieldAddr Ty.fd41_1 rfl rfl ?_)
  first | refine J.skip rfl rfl rfl rfl rfl ?_ | refine J.skipU rfl rfl rfl rfl ?_ | (refine J.unguard rfl rfl rfl ?_; refine J.loadOA (vs := cI id) Ty.a23 Ty.s23 rfl (by repeat first | exact .head _ | apply List.Mem.tail | apply List.mem_append_right) (by exact rfl) rfl rfl ?_)
  refine J.unguard rfl rfl rfl ?_
  refine J.neI Ty.QI Ty.keyI rfl rfl rfl ?_
  refine J.name 91 rfl (show Value.bool _ = .bool true by simp [hid]) ?_
  (first | refine J.pickT rfl rfl rfl ?_ | refine J.pickF rfl rfl rfl ?_)
  refine J.nil ?_
  refine JX.thenN (hK10 _ _ ?_)
  first | refine JC.condT rfl ?_ | refine JC.cond rfl (fun _ => ?_) (fun h => by first | (exfalso; simp at h; omega) | (simp at h))
  refine JC.seq (fun K11 hK11 => ?_)
  refine JC.region ?_
  refine J.loadOA (vs := cD (.slice (some ⟨b69, 0, none⟩) 1 1) false false) Ty.a37 Ty.s37 rfl (by repeat first | exact .head _ | apply List.Mem.tail | apply List.mem_append_right) (by exact rfl) rfl rfl ?_
  refine J.storeW Ty.s37 rfl rfl rfl rfl rfl (by simp [Value.oneCell']) (by repeat first | exact .here | apply Up.there) ?_
  refine J.nil ?_
  refine JX.thenN (hK11 _ _ ?_)
  refine JC.ret ?_
  refine JX.thenR ?_
  refine JX.retC rfl rfl Ty.a37 Ty.s37 (vs := cD (.slice (some ⟨b69, 0, none⟩) 1 1) false false) rfl (fun w1 hw => Cells.of_block (hw.own _ (.tail _ (.tail _ (.tail _ (.tail _ (.head _)))))) rfl) (fun w1 hw => ?_)
  exact ⟨b69, rfl, (hw.perm (l' := ([(b17, cb (cE (⟨p, a, b, fr, -1⟩ : EV)) 34), (b16, cb (cD (.slice (some ⟨b69, 0, none⟩) 1 1) false false) 37), (b13, cb (cS p a b (.slice (some ⟨q, 0, none⟩) way.length cq)) 107), (b10, cb (cD (.slice (some ⟨b69, 0, none⟩) 1 1) false false) 37), (b8, cb (cFG f ⟨.slice at1 f.tr.length ct1, .slice ai1 f.ids.length ci1, .slice av1 f.val.length cv1, .slice ax1 f.txt.length cx1⟩) 52), (b6, cb (cW n id) 41), (q, cb (way.map iV ++ sp) 3)]) ++ ((b69, cb (cH fr (cF 5 p zI zI nilV)) 54) :: [(t, tabO most mb), (mb, .map es clock)])) (by (refine perm_cnt (fun _ => ?_)); simp only [cntB_append, cntB_cons, cntB_nil, Nat.add_zero, Nat.zero_add]; try ac_rfl)).drop (List.sublist_append_right _ _)⟩

theorem gtake_shut (t mb : Nat) (most : Int) (L : List EV) (es : Array MapEntry) (clock : Nat) (w : World) (hw0 : Own w [(t, tabO most mb), (mb, .map es clock)]) (hT : Tab L es clock) (n fr : Int) (id a b : IDV) (p : PV) (hp : okN p.n) (hfr : okN fr) (f : FV) (s : FSl) (hs : FRows w f s) (hso : FOff [t, mb] f s) (hg : BigF f) (hk : f.k = 4) (hpe : f.p = p) (hae : f.a = a) (hbe : f.b = b) (way : List Int) (hwe : f.tr = way) (hlen : way.length < 1099511627776) (i : Nat) (hi : 1 ≤ i) (hi2 : i < way.length) (hat : placeP way n = (i : Int)) (hfrom : way[i - 1]? = some fr) (hnd : way.Nodup) (ov : Value) (os : List Bool) (hro : Row w ov os.length (os.map bV)) (hoffo : Off [t, mb] ov (os.map bV)) (hlo : os.length < 4611686018427387904) (nx : Int) (hnx : way[i + 1]? = some nx) (hop : openQ os nx = false) :
    Calls Try.prog 19 [.pointer (some ⟨t, 0, none⟩), .agg (cW n id).toArray, .int .i64 fr, .agg (cFG f s).toArray, ov].toArray w fun r w' => ∃ h : Nat, r = .returned (.agg (cD (.slice (some ⟨h, 0, none⟩) 1 1) false false).toArray) ∧ St w [t, mb] ((h, cb (cH fr (cF 5 p zI zI nilV)) 54) :: [(t, tabO most mb), (mb, .map es clock)]) w' := by
  obtain ⟨vt1, vi1, vv1, vx1⟩ := s
  obtain ⟨at1, ct1, hh, _, _⟩ := _root_.id hs.tr
  simp only at hh
  subst hh
  obtain ⟨ai1, ci1, hh, _, _⟩ := _root_.id hs.ids
  simp only at hh
  subst hh
  obtain ⟨av1, cv1, hh, _, _⟩ := _root_.id hs.val
  simp only at hh
  subst hh
  obtain ⟨ax1, cx1, hh, _, _⟩ := _root_.id hs.txt
  simp only at hh
  subst hh
  have hlt : i + 1 < way.length := (List.getElem?_eq_some_iff.1 hnx).1
  refine calls_of_J (args := [.pointer (some ⟨t, 0, none⟩), .agg (cW n id).toArray, .int .i64 fr, .agg (cFG f ⟨.slice at1 f.tr.length ct1, .slice ai1 f.ids.length ci1, .slice av1 f.val.length cv1, .slice ax1 f.txt.length cx1⟩).toArray, ov]) (e := [(0, .pointer (some ⟨t, 0, none⟩)), (1, .agg (cW n id).toArray), (2, .int .i64 fr), (3, .agg (cFG f ⟨.slice at1 f.tr.length ct1, .slice ai1 f.ids.length ci1, .slice av1 f.val.length cv1, .slice ax1 f.txt.length cx1⟩).toArray), (4, ov)]) Try.func19 rfl rfl ⟨rfl, rfl, rfl, rfl, rfl, trivial⟩ (hw0.st) ?_
  refine JC.seq (fun K0 hK0 => ?_)
  refine JC.region ?_
  refine J.box rfl rfl rfl (fun b6 => ?_)
  refine J.box rfl rfl rfl (fun b8 => ?_)
  refine J.alloc zN rfl rfl (fun b10 => ?_)
  refine J.nil ?_
  refine JX.thenN (hK0 _ _ ?_)
  refine JC.seq (fun K1 hK1 => ?_)
  refine JC.region ?_
  refine J.loadOA (vs := cFG f ⟨.slice at1 f.tr.length ct1, .slice ai1 f.ids.length ci1, .slice av1 f.val.length cv1, .slice ax1 f.txt.length cx1⟩) Ty.a52 Ty.s52 rfl (by repeat first | exact .head _ | apply List.Mem.tail | apply List.mem_append_right) (by exact rfl) rfl rfl ?_
  refine J.perm ([] ++ ((b10, cb (cD nilV false false) 37) :: (b8, cb (cFG f ⟨.slice at1 f.tr.length ct1, .slice ai1 f.ids.length ci1, .slice av1 f.val.length cv1, .slice ax1 f.txt.length cx1⟩) 52) :: (b6, cb (cW n id) 41) :: [(t, tabO most mb), (mb, .map es clock)])) (.refl _) ?_
  refine J.callS (α := Value × List (Nat × Obj)) (V := fun x => .tuple #[.iface 107 (.agg (cS p a b x.1).toArray), .bool true]) (Pr := fun x => Vec 3 1 x.1 way.length (way.map iV) x.2) (L := fun x => x.2) (l1 := []) Ty.bd55 rfl rfl (fun w1 hw => ofG2 f ⟨.slice at1 f.tr.length ct1, .slice ai1 f.ids.length ci1, .slice av1 f.val.length cv1, .slice ax1 f.txt.length cx1⟩ w1 (hs.st hso hw) hg hk hpe hae hbe hwe) (fun x hv8 => ?_)
  obtain ⟨v8, lp8⟩ := x
  simp only at hv8 ⊢
  obtain ⟨q, cq, sp, rfl, rfl, hcq⟩ := Vec.pos hv8 (by omega)
  have hrq : ∀ {w1 : World} {l : List (Nat × Obj)}, St w [t, mb] ((q, cb (way.map iV ++ sp) 3) :: l) w1 → Row w1 (.slice (some ⟨q, 0, none⟩) way.length cq) way.length (way.map iV) := fun hw => hv8.row hw
  refine J.perm ((b10, cb (cD nilV false false) 37) :: (b8, cb (cFG f ⟨.slice at1 f.tr.length ct1, .slice ai1 f.ids.length ci1, .slice av1 f.val.length cv1, .slice ax1 f.txt.length cx1⟩) 52) :: (b6, cb (cW n id) 41) :: ((q, cb (way.map iV ++ sp) 3) :: [(t, tabO most mb), (mb, .map es clock)])) (by (refine perm_cnt (fun _ => ?_)); simp only [cntB_append, cntB_cons, cntB_nil, Nat.add_zero, Nat.zero_add]; try ac_rfl) ?_
  refine J.move rfl rfl ?_
  refine J.extract rfl rfl rfl ?_
  refine J.extract rfl rfl rfl ?_
  refine J.assign rfl rfl ?_
  refine J.assign rfl rfl ?_
  refine J.nil ?_
  refine JX.thenN (hK1 _ _ ?_)
  refine JC.seq (fun K2 hK2 => ?_)
  refine JC.region ?_
  refine J.move rfl rfl ?_
  (first | refine J.assertT (by kernel_rfl) rfl rfl ?_ | refine J.assertF (by kernel_rfl) rfl rfl zS rfl ?_ | refine J.assertN (by kernel_rfl) rfl zS rfl ?_)
  refine J.move rfl rfl ?_
  refine J.extract rfl rfl rfl ?_
  refine J.extract rfl rfl rfl ?_
  refine J.alloc zS rfl rfl (fun b13 => ?_)
  refine J.storeW Ty.s107 rfl rfl rfl rfl rfl (by simp [Value.oneCell']) (by repeat first | exact .here | apply Up.there) ?_
  refine J.assign rfl rfl ?_
  refine J.nil ?_
  refine JX.thenN (hK2 _ _ ?_)
  refine JC.seq (fun K3 hK3 => ?_)
  refine JC.region ?_
  refine J.fieldAddr Ty.fd107_3 rfl rfl ?_
  refine J.loadO Ty.a26 rfl (by repeat first | exact .head _ | apply List.Mem.tail | apply List.mem_append_right) (by exact rfl) rfl ?_
  refine J.fieldAddr Ty.fd41_0 rfl rfl ?_
  refine J.loadO Ty.a3 rfl (by repeat first | exact .head _ | apply List.Mem.tail | apply List.mem_append_right) (by exact rfl) rfl ?_
  refine J.callB (v := .int .i64 (i : Int)) (fun w1 w2 hw hb => hw.step hb) Ty.bd56 rfl rfl (fun w1 hw => by
    have h := place_spec (.slice (some ⟨q, 0, none⟩) way.length cq) way n w1 (hrq (hw.perm (l' := (q, cb (way.map iV ++ sp) 3) :: ((b13, cb (cS p a b (.slice (some ⟨q, 0, none⟩) way.length cq)) 107) :: (b10, cb (cD nilV false false) 37) :: (b8, cb (cFG f ⟨.slice at1 f.tr.length ct1, .slice ai1 f.ids.length ci1, .slice av1 f.val.length cv1, .slice ax1 f.txt.length cx1⟩) 52) :: (b6, cb (cW n id) 41) :: [(t, tabO most mb), (mb, .map es clock)])) (by (refine perm_cnt (fun _ => ?_)); simp only [cntB_append, cntB_cons, cntB_nil, Nat.add_zero, Nat.zero_add]; try ac_rfl))) (by omega)
    rw [hat] at h
    exact h) ?_
  refine J.assign rfl rfl ?_
  refine J.nil ?_
  refine JX.thenN (hK3 _ _ ?_)
  refine JC.seq (fun K4 hK4 => ?_)
  refine JC.seq (fun K5 hK5 => ?_)
  refine JC.region ?_
  refine J.move rfl rfl ?_
  refine J.eqNil Ty.u29 rfl rfl rfl ?_
  refine J.move rfl rfl ?_
  first | refine J.skip rfl rfl rfl rfl rfl ?_ | refine J.skipU rfl rfl rfl rfl ?_ | (refine J.unguard rfl rfl rfl ?_; refine J.move rfl rfl ?_)
  first | refine J.skip rfl rfl rfl rfl rfl ?_ | refine J.skipU rfl rfl rfl rfl ?_ | (refine J.unguard rfl rfl rfl ?_; refine J.not rfl rfl ?_)
  (first | refine J.pickT rfl rfl rfl ?_ | refine J.pickF rfl rfl rfl ?_)
  refine J.move rfl rfl ?_
  first | refine J.skip rfl rfl rfl rfl rfl ?_ | refine J.skipU rfl rfl rfl rfl ?_ | (refine J.unguard rfl rfl rfl ?_; refine J.move rfl rfl ?_)
  refine J.unguard rfl rfl rfl ?_
  refine J.bin rfl rfl rfl rfl ?_
  refine J.name 43 rfl (show Value.bool _ = .bool false by simp; omega) ?_
  (first | refine J.pickT rfl rfl rfl ?_ | refine J.pickF rfl rfl rfl ?_)
  refine J.move rfl rfl ?_
  first | refine J.skip rfl rfl rfl rfl rfl ?_ | refine J.skipU rfl rfl rfl rfl ?_ | (refine J.unguard rfl rfl rfl ?_; refine J.fieldAddr Ty.fd107_3 rfl rfl ?_)
  first | refine J.skip rfl rfl rfl rfl rfl ?_ | refine J.skipU rfl rfl rfl rfl ?_ | (refine J.unguard rfl rfl rfl ?_; refine J.loadO Ty.a26 rfl (by repeat first | exact .head _ | apply List.Mem.tail | apply List.mem_append_right) (by exact rfl) rfl ?_)
  first | refine J.skip rfl rfl rfl rfl rfl ?_ | refine J.skipU rfl rfl rfl rfl ?_ | (refine J.unguard rfl rfl rfl ?_; refine J.move rfl rfl ?_)
  first | refine J.skip rfl rfl rfl rfl rfl ?_ | refine J.skipU rfl rfl rfl rfl ?_ | (refine J.unguard rfl rfl rfl ?_; (first | refine J.subN rfl rfl (by omega) (by omega) rfl ?_ | refine J.bin rfl rfl rfl rfl ?_))
  refine J.unguard rfl rfl rfl ?_
  refine J.indexAddrS Ty.el26 Ty.s3 rfl rfl (by omega) (by omega) rfl ?_
  refine J.unguard rfl rfl rfl ?_
  refine J.load1 (v := iV fr) Ty.a3 rfl (fun w1 hw => rowI_at (i := i - 1) (hrq (hw.perm (l' := (q, cb (way.map iV ++ sp) 3) :: ((b13, cb (cS p a b (.slice (some ⟨q, 0, none⟩) way.length cq)) 107) :: (b10, cb (cD nilV false false) 37) :: (b8, cb (cFG f ⟨.slice at1 f.tr.length ct1, .slice ai1 f.ids.length ci1, .slice av1 f.val.length cv1, .slice ax1 f.txt.length cx1⟩) 52) :: (b6, cb (cW n id) 41) :: [(t, tabO most mb), (mb, .map es clock)])) (by (refine perm_cnt (fun _ => ?_)); simp only [cntB_append, cntB_cons, cntB_nil, Nat.add_zero, Nat.zero_add]; try ac_rfl))) hfrom (by omega)) rfl ?_
  first | refine J.skip rfl rfl rfl rfl rfl ?_ | refine J.skipU rfl rfl rfl rfl ?_ | (refine J.unguard rfl rfl rfl ?_; refine J.move rfl rfl ?_)
  refine J.unguard rfl rfl rfl ?_
  refine J.bin rfl rfl rfl rfl ?_
  refine J.name 53 rfl (show Value.bool _ = .bool false by simp) ?_
  (first | refine J.pickT rfl rfl rfl ?_ | refine J.pickF rfl rfl rfl ?_)
  refine J.move rfl rfl ?_
  first | refine J.skip rfl rfl rfl rfl rfl ?_ | refine J.skipU rfl rfl rfl rfl ?_ | (refine J.unguard rfl rfl rfl ?_; refine J.fieldAddr Ty.fd107_3 rfl rfl ?_)
  first | refine J.skip rfl rfl rfl rfl rfl ?_ | refine J.skipU rfl rfl rfl rfl ?_ | (refine J.unguard rfl rfl rfl ?_; refine J.loadO Ty.a26 rfl (by repeat first | exact .head _ | apply List.Mem.tail | apply List.mem_append_right) (by exact rfl) rfl ?_)
  refine J.unguard rfl rfl rfl ?_
  refine J.callB (v := .bool true) (fun w1 w2 hw hb => hw.step hb) Ty.bd52 rfl rfl (fun w1 hw => by
    have h := simple_spec (.slice (some ⟨q, 0, none⟩) way.length cq) way w1 (hrq (hw.perm (l' := (q, cb (way.map iV ++ sp) 3) :: ((b13, cb (cS p a b (.slice (some ⟨q, 0, none⟩) way.length cq)) 107) :: (b10, cb (cD nilV false false) 37) :: (b8, cb (cFG f ⟨.slice at1 f.tr.length ct1, .slice ai1 f.ids.length ci1, .slice av1 f.val.length cv1, .slice ax1 f.txt.length cx1⟩) 52) :: (b6, cb (cW n id) 41) :: [(t, tabO most mb), (mb, .map es clock)])) (by (refine perm_cnt (fun _ => ?_)); simp only [cntB_append, cntB_cons, cntB_nil, Nat.add_zero, Nat.zero_add]; try ac_rfl))) (by omega)
    rw [decide_eq_true hnd] at h
    exact h) ?_
  first | refine J.skip rfl rfl rfl rfl rfl ?_ | refine J.skipU rfl rfl rfl rfl ?_ | (refine J.unguard rfl rfl rfl ?_; refine J.not rfl rfl ?_)
  (first | refine J.pickT rfl rfl rfl ?_ | refine J.pickF rfl rfl rfl ?_)
  refine J.nil ?_
  refine JX.thenN (hK5 _ _ ?_)
  first | refine JC.condF rfl ?_ | refine JC.cond rfl (fun h => by first | (exfalso; simp at h; omega) | (simp at h)) (fun _ => ?_)
  refine JC.skip ?_
  refine JX.thenN (hK4 _ _ ?_)
  refine JC.seq (fun K6 hK6 => ?_)
  refine JC.region ?_
  refine J.move rfl rfl ?_
  refine J.fieldAddr Ty.fd107_0 rfl rfl ?_
  refine J.loadOA (vs := cP p) Ty.a25 Ty.s25 rfl (by repeat first | exact .head _ | apply List.Mem.tail | apply List.mem_append_right) (by exact rfl) rfl rfl ?_
  refine J.buildS (cs := cP p) Ty.pl114 zD rfl (by kernel_rfl) rfl ?_
  refine J.iface (by kernel_rfl) rfl rfl ?_
  refine J.callB (v := .agg (cF 5 p zI zI nilV).toArray) (fun w1 w2 hw hb => hw.step hb) Ty.bd54 rfl rfl (fun w1 hw => plainD_spec p w1) ?_
  refine J.buildS (cs := cH fr (cF 5 p zI zI nilV)) Ty.pl54 zH rfl (by kernel_rfl) rfl ?_
  refine J.buildSl (cs := cH fr (cF 5 p zI zI nilV)) Ty.el35 Ty.s54 zH rfl rfl rfl rfl (by kernel_rfl) rfl rfl (fun b69 => ?_)
  refine J.buildS (cs := cD (.slice (some ⟨b69, 0, none⟩) 1 1) false false) Ty.pl37 zN rfl (by kernel_rfl) rfl ?_
  refine J.alloc zN rfl rfl (fun b16 => ?_)
  refine J.storeW Ty.s37 rfl rfl rfl rfl rfl (by simp [Value.oneCell']) (by repeat first | exact .here | apply Up.there) ?_
  refine J.nil ?_
  refine JX.thenN (hK6 _ _ ?_)
  refine JC.seq (fun K7 hK7 => ?_)
  refine JC.region ?_
  refine J.fieldAddr Ty.fd107_0 rfl rfl ?_
  refine J.loadOA (vs := cP p) Ty.a25 Ty.s25 rfl (by repeat first | exact .head _ | apply List.Mem.tail | apply List.mem_append_right) (by exact rfl) rfl rfl ?_
  refine J.fieldAddr Ty.fd107_1 rfl rfl ?_
  refine J.loadOA (vs := cI a) Ty.a23 Ty.s23 rfl (by repeat first | exact .head _ | apply List.Mem.tail | apply List.mem_append_right) (by exact rfl) rfl rfl ?_
  refine J.fieldAddr Ty.fd107_2 rfl rfl ?_
  refine J.loadOA (vs := cI b) Ty.a23 Ty.s23 rfl (by repeat first | exact .head _ | apply List.Mem.tail | apply List.mem_append_right) (by exact rfl) rfl rfl ?_
  refine J.move rfl rfl ?_
  refine J.buildS (cs := cE (⟨p, a, b, fr, -1⟩ : EV)) Ty.pl34 Ty.zE_ rfl (by kernel_rfl) rfl ?_
  refine J.alloc Ty.zE_ rfl rfl (fun b17 => ?_)
  refine J.storeW Ty.s34 rfl rfl rfl rfl rfl (by simp [Value.oneCell']) (by repeat first | exact .here | apply Up.there) ?_
  refine J.nil ?_
  refine JX.thenN (hK7 _ _ ?_)
  refine JC.seq (fun K8 hK8 => ?_)
  refine JC.region ?_
  refine J.move rfl rfl ?_
  refine J.fieldAddr Ty.fd107_3 rfl rfl ?_
  refine J.loadO Ty.a26 rfl (by repeat first | exact .head _ | apply List.Mem.tail | apply List.mem_append_right) (by exact rfl) rfl ?_
  refine J.lenS rfl Ty.u26 rfl rfl ?_
  (first | refine J.subN rfl rfl (by omega) (by omega) rfl ?_ | refine J.bin rfl rfl rfl rfl ?_)
  refine J.bin rfl rfl rfl rfl ?_
  refine J.name 84 rfl (show Value.bool _ = .bool false by simp; omega) ?_
  refine J.assign rfl rfl ?_
  refine J.nil ?_
  refine JX.thenN (hK8 _ _ ?_)
  refine JC.seq (fun K9 hK9 => ?_)
  refine JC.seq (fun K10 hK10 => ?_)
  refine JC.region ?_
  refine J.move rfl rfl ?_
  refine J.move rfl rfl ?_
  first | refine J.skip rfl rfl rfl rfl rfl ?_ | refine J.skipU rfl rfl rfl rfl ?_ | (refine J.unguard rfl rfl rfl ?_; refine J.fieldAddr Ty.fd107_2 rfl rfl ?_)
  first | refine J.skip rfl rfl rfl rfl rfl ?_ | refine J.skipU rfl rfl rfl rfl ?_ | (refine J.unguard rfl rfl rfl ?_; refine J.loadOA (vs := cI b) Ty.a23 Ty.s23 rfl (by repeat first | exact .head _ | apply List.Mem.tail | apply List.mem_append_right) (by exact rfl) rfl rfl ?_)
  first | refine J.skip rfl rfl rfl rfl rfl ?_ | refine J.skipU rfl rfl rfl rfl ?_ | (refine J.unguard rfl rfl rfl ?_; refine J.fieldAddr Ty.fd41_1 rfl rfl ?_)
  first | refine J.skip rfl rfl rfl rfl rfl ?_ | refine J.skipU rfl rfl rfl rfl ?_ | (refine J.unguard rfl rfl rfl ?_; refine J.loadOA (vs := cI id) Ty.a23 Ty.s23 rfl (by repeat first | exact .head _ | apply List.Mem.tail | apply List.mem_append_right) (by exact rfl) rfl rfl ?_)
  first | refine J.skip rfl rfl rfl rfl rfl ?_ | refine J.skipU rfl rfl rfl rfl ?_ | (refine J.unguard rfl rfl rfl ?_; refine J.neI Ty.QI Ty.keyI rfl rfl rfl ?_)
  (first | refine J.pickT rfl rfl rfl ?_ | refine J.pickF rfl rfl rfl ?_)
  refine J.nil ?_
  refine JX.thenN (hK10 _ _ ?_)
  first | refine JC.condF rfl ?_ | refine JC.cond rfl (fun h => by first | (exfalso; simp at h; omega) | (simp at h)) (fun _ => ?_)
  refine JC.skip ?_
  refine JX.thenN (hK9 _ _ ?_)
  refine JC.seq (fun K11 hK11 => ?_)
  refine JC.seq (fun K12 hK12 => ?_)
  refine JC.region ?_
  refine J.move rfl rfl ?_
  refine J.not rfl rfl ?_
  refine J.nil ?_
  refine JX.thenN (hK12 _ _ ?_)
  first | refine JC.condT rfl ?_ | refine JC.cond rfl (fun _ => ?_) (fun h => by first | (exfalso; simp at h; omega) | (simp at h))
  refine JC.seq (fun K13 hK13 => ?_)
  refine JC.region ?_
  refine J.fieldAddr Ty.fd107_3 rfl rfl ?_
  refine J.loadO Ty.a26 rfl (by repeat first | exact .head _ | apply List.Mem.tail | apply List.mem_append_right) (by exact rfl) rfl ?_
  refine J.move rfl rfl ?_
  (first | refine J.addN rfl rfl (by omega) (by omega) rfl ?_ | refine J.bin rfl rfl rfl rfl ?_)
  refine J.indexAddrS Ty.el26 Ty.s3 rfl rfl (by omega) (by omega) rfl ?_
  refine J.load1 (v := iV nx) Ty.a3 rfl (fun w1 hw => rowI_at (i := i + 1) (hrq (hw.perm (l' := (q, cb (way.map iV ++ sp) 3) :: ((b17, cb (cE (⟨p, a, b, fr, -1⟩ : EV)) 34) :: (b16, cb (cD (.slice (some ⟨b69, 0, none⟩) 1 1) false false) 37) :: (b69, cb (cH fr (cF 5 p zI zI nilV)) 54) :: (b13, cb (cS p a b (.slice (some ⟨q, 0, none⟩) way.length cq)) 107) :: (b10, cb (cD nilV false false) 37) :: (b8, cb (cFG f ⟨.slice at1 f.tr.length ct1, .slice ai1 f.ids.length ci1, .slice av1 f.val.length cv1, .slice ax1 f.txt.length cx1⟩) 52) :: (b6, cb (cW n id) 41) :: [(t, tabO most mb), (mb, .map es clock)])) (by (refine perm_cnt (fun _ => ?_)); simp only [cntB_append, cntB_cons, cntB_nil, Nat.add_zero, Nat.zero_add]; try ac_rfl))) hnx (by omega)) rfl ?_
  refine J.fieldAddr Ty.fd34_4 rfl rfl ?_
  refine J.storeO (cs := cE (⟨p, a, b, fr, -1⟩ : EV)) (vs := [iV nx]) Ty.s3 rfl rfl rfl rfl (by simp [Value.oneCell']) .here (by simp) ?_
  refine J.perm ((b17, cb (cE (⟨p, a, b, fr, nx⟩ : EV)) 34) :: (b16, cb (cD (.slice (some ⟨b69, 0, none⟩) 1 1) false false) 37) :: (b69, cb (cH fr (cF 5 p zI zI nilV)) 54) :: (b13, cb (cS p a b (.slice (some ⟨q, 0, none⟩) way.length cq)) 107) :: (b10, cb (cD nilV false false) 37) :: (b8, cb (cFG f ⟨.slice at1 f.tr.length ct1, .slice ai1 f.ids.length ci1, .slice av1 f.val.length cv1, .slice ax1 f.txt.length cx1⟩) 52) :: (b6, cb (cW n id) 41) :: (q, cb (way.map iV ++ sp) 3) :: [(t, tabO most mb), (mb, .map es clock)]) (.refl _) ?_
  refine J.nil ?_
  refine JX.thenN (hK13 _ _ ?_)
  refine JC.seq (fun K14 hK14 => ?_)
  refine JC.region ?_
  refine J.move rfl rfl ?_
  refine J.fieldAddr Ty.fd34_4 rfl rfl ?_
  refine J.loadO Ty.a3 rfl (by repeat first | exact .head _ | apply List.Mem.tail | apply List.mem_append_right) (by exact rfl) rfl ?_
  refine J.callB (v := .bool false) (fun w1 w2 hw hb => hw.step hb) Ty.bd53 rfl rfl (fun w1 hw => by
    have h := isOpen_spec ov os nx w1 (hro.st hoffo hw) hlo
    rw [hop] at h
    exact h) ?_
  refine J.not rfl rfl ?_
  refine J.nil ?_
  refine JX.thenN (hK14 _ _ ?_)
  first | refine JC.condT rfl ?_ | refine JC.cond rfl (fun _ => ?_) (fun h => by first | (exfalso; simp at h; omega) | (simp at h))
  refine JC.seq (fun K15 hK15 => ?_)
  refine JC.region ?_
  refine J.loadOA (vs := cD (.slice (some ⟨b69, 0, none⟩) 1 1) false false) Ty.a37 Ty.s37 rfl (by repeat first | exact .head _ | apply List.Mem.tail | apply List.mem_append_right) (by exact rfl) rfl rfl ?_
  refine J.storeW Ty.s37 rfl rfl rfl rfl rfl (by simp [Value.oneCell']) (by repeat first | exact .here | apply Up.there) ?_
  refine J.nil ?_
  refine JX.thenN (hK15 _ _ ?_)
  refine JC.ret ?_
  refine JX.thenR ?_
  refine JX.retC rfl rfl Ty.a37 Ty.s37 (vs := cD (.slice (some ⟨b69, 0, none⟩) 1 1) false false) rfl (fun w1 hw => Cells.of_block (hw.own _ (.tail _ (.tail _ (.tail _ (.tail _ (.head _)))))) rfl) (fun w1 hw => ?_)
  exact ⟨b69, rfl, (hw.perm (l' := ([(b17, cb (cE (⟨p, a, b, fr, nx⟩ : EV)) 34), (b16, cb (cD (.slice (some ⟨b69, 0, none⟩) 1 1) false false) 37), (b13, cb (cS p a b (.slice (some ⟨q, 0, none⟩) way.length cq)) 107), (b10, cb (cD (.slice (some ⟨b69, 0, none⟩) 1 1) false false) 37), (b8, cb (cFG f ⟨.slice at1 f.tr.length ct1, .slice ai1 f.ids.length ci1, .slice av1 f.val.length cv1, .slice ax1 f.txt.length cx1⟩) 52), (b6, cb (cW n id) 41), (q, cb (way.map iV ++ sp) 3)]) ++ ((b69, cb (cH fr (cF 5 p zI zI nilV)) 54) :: [(t, tabO most mb), (mb, .map es clock)])) (by (refine perm_cnt (fun _ => ?_)); simp only [cntB_append, cntB_cons, cntB_nil, Nat.add_zero, Nat.zero_add]; try ac_rfl)).drop (List.sublist_append_right _ _)⟩

theorem gtake_full (t mb : Nat) (most : Int) (L : List EV) (es : Array MapEntry) (clock : Nat) (w : World) (hw0 : Own w [(t, tabO most mb), (mb, .map es clock)]) (hT : Tab L es clock) (n fr : Int) (id a b : IDV) (p : PV) (hp : okN p.n) (hfr : okN fr) (f : FV) (s : FSl) (hs : FRows w f s) (hso : FOff [t, mb] f s) (hg : BigF f) (hk : f.k = 4) (hpe : f.p = p) (hae : f.a = a) (hbe : f.b = b) (way : List Int) (hwe : f.tr = way) (hlen : way.length < 1099511627776) (i : Nat) (hi : 1 ≤ i) (hi2 : i < way.length) (hat : placeP way n = (i : Int)) (hfrom : way[i - 1]? = some fr) (hnd : way.Nodup) (ov : Value) (os : List Bool) (hro : Row w ov os.length (os.map bV)) (hoffo : Off [t, mb] ov (os.map bV)) (hlo : os.length < 4611686018427387904) (hlast : i + 1 = way.length) (hid : b = id) {e : Int} {L' : List EV} (hadd : tadd L most (⟨p, a, b, fr, -1⟩ : EV) = (e, L')) (he : e ≠ 0) :
    Calls Try.prog 19 [.pointer (some ⟨t, 0, none⟩), .agg (cW n id).toArray, .int .i64 fr, .agg (cFG f s).toArray, ov].toArray w fun r w' => ∃ x : Nat × Array MapEntry × Nat, r = .returned (.agg (cD (.slice (some ⟨x.1, 0, none⟩) 1 1) false (e == 5)).toArray) ∧ Tab L' x.2.1 x.2.2 ∧ St w [t, mb] ((x.1, cb (cH fr (cF 5 p zI zI nilV)) 54) :: [(t, tabO most mb), (mb, .map x.2.1 x.2.2)]) w' := by
  obtain ⟨vt1, vi1, vv1, vx1⟩ := s
  obtain ⟨at1, ct1, hh, _, _⟩ := _root_.id hs.tr
  simp only at hh
  subst hh
  obtain ⟨ai1, ci1, hh, _, _⟩ := _root_.id hs.ids
  simp only at hh
  subst hh
  obtain ⟨av1, cv1, hh, _, _⟩ := _root_.id hs.val
  simp only at hh
  subst hh
  obtain ⟨ax1, cx1, hh, _, _⟩ := _root_.id hs.txt
  simp only at hh
  subst hh
  have hokE : okE (⟨p, a, b, fr, -1⟩ : EV) := ⟨hp, hfr, okN_small (n := -1) (by omega) (by omega)⟩
  refine calls_of_J (args := [.pointer (some ⟨t, 0, none⟩), .agg (cW n id).toArray, .int .i64 fr, .agg (cFG f ⟨.slice at1 f.tr.length ct1, .slice ai1 f.ids.length ci1, .slice av1 f.val.length cv1, .slice ax1 f.txt.length cx1⟩).toArray, ov]) (e := [(0, .pointer (some ⟨t, 0, none⟩)), (1, .agg (cW n id).toArray), (2, .int .i64 fr), (3, .agg (cFG f ⟨.slice at1 f.tr.length ct1, .slice ai1 f.ids.length ci1, .slice av1 f.val.length cv1, .slice ax1 f.txt.length cx1⟩).toArray), (4, ov)]) Try.func19 rfl rfl ⟨rfl, rfl, rfl, rfl, rfl, trivial⟩ (hw0.st) ?_
  refine JC.seq (fun K0 hK0 => ?_)
  refine JC.region ?_
  refine J.box rfl rfl rfl (fun b6 => ?_)
  refine J.box rfl rfl rfl (fun b8 => ?_)
  refine J.alloc zN rfl rfl (fun b10 => ?_)
  refine J.nil ?_
  refine JX.thenN (hK0 _ _ ?_)
  refine JC.seq (fun K1 hK1 => ?_)
  refine JC.region ?_
  refine J.loadOA (vs := cFG f ⟨.slice at1 f.tr.length ct1, .slice ai1 f.ids.length ci1, .slice av1 f.val.length cv1, .slice ax1 f.txt.length cx1⟩) Ty.a52 Ty.s52 rfl (by repeat first | exact .head _ | apply List.Mem.tail | apply List.mem_append_right) (by exact rfl) rfl rfl ?_
  refine J.perm ([] ++ ((b10, cb (cD nilV false false) 37) :: (b8, cb (cFG f ⟨.slice at1 f.tr.length ct1, .slice ai1 f.ids.length ci1, .slice av1 f.val.length cv1, .slice ax1 f.txt.length cx1⟩) 52) :: (b6, cb (cW n id) 41) :: [(t, tabO most mb), (mb, .map es clock)])) (.refl _) ?_
  refine J.callS (α := Value × List (Nat × Obj)) (V := fun x => .tuple #[.iface 107 (.agg (cS p a b x.1).toArray), .bool true]) (Pr := fun x => Vec 3 1 x.1 way.length (way.map iV) x.2) (L := fun x => x.2) (l1 := []) Ty.bd55 rfl rfl (fun w1 hw => ofG2 f ⟨.slice at1 f.tr.length ct1, .slice ai1 f.ids.length ci1, .slice av1 f.val.length cv1, .slice ax1 f.txt.length cx1⟩ w1 (hs.st hso hw) hg hk hpe hae hbe hwe) (fun x hv8 => ?_)
  obtain ⟨v8, lp8⟩ := x
  simp only at hv8 ⊢
  obtain ⟨q, cq, sp, rfl, rfl, hcq⟩ := Vec.pos hv8 (by omega)
  have hrq : ∀ {w1 : World} {l : List (Nat × Obj)}, St w [t, mb] ((q, cb (way.map iV ++ sp) 3) :: l) w1 → Row w1 (.slice (some ⟨q, 0, none⟩) way.length cq) way.length (way.map iV) := fun hw => hv8.row hw
  refine J.perm ((b10, cb (cD nilV false false) 37) :: (b8, cb (cFG f ⟨.slice at1 f.tr.length ct1, .slice ai1 f.ids.length ci1, .slice av1 f.val.length cv1, .slice ax1 f.txt.length cx1⟩) 52) :: (b6, cb (cW n id) 41) :: ((q, cb (way.map iV ++ sp) 3) :: [(t, tabO most mb), (mb, .map es clock)])) (by (refine perm_cnt (fun _ => ?_)); simp only [cntB_append, cntB_cons, cntB_nil, Nat.add_zero, Nat.zero_add]; try ac_rfl) ?_
  refine J.move rfl rfl ?_
  refine J.extract rfl rfl rfl ?_
  refine J.extract rfl rfl rfl ?_
  refine J.assign rfl rfl ?_
  refine J.assign rfl rfl ?_
  refine J.nil ?_
  refine JX.thenN (hK1 _ _ ?_)
  refine JC.seq (fun K2 hK2 => ?_)
  refine JC.region ?_
  refine J.move rfl rfl ?_
  (first | refine J.assertT (by kernel_rfl) rfl rfl ?_ | refine J.assertF (by kernel_rfl) rfl rfl zS rfl ?_ | refine J.assertN (by kernel_rfl) rfl zS rfl ?_)
  refine J.move rfl rfl ?_
  refine J.extract rfl rfl rfl ?_
  refine J.extract rfl rfl rfl ?_
  refine J.alloc zS rfl rfl (fun b13 => ?_)
  refine J.storeW Ty.s107 rfl rfl rfl rfl rfl (by simp [Value.oneCell']) (by repeat first | exact .here | apply Up.there) ?_
  refine J.assign rfl rfl ?_
  refine J.nil ?_
  refine JX.thenN (hK2 _ _ ?_)
  refine JC.seq (fun K3 hK3 => ?_)
  refine JC.region ?_
  refine J.fieldAddr Ty.fd107_3 rfl rfl ?_
  refine J.loadO Ty.a26 rfl (by repeat first | exact .head _ | apply List.Mem.tail | apply List.mem_append_right) (by exact rfl) rfl ?_
  refine J.fieldAddr Ty.fd41_0 rfl rfl ?_
  refine J.loadO Ty.a3 rfl (by repeat first | exact .head _ | apply List.Mem.tail | apply List.mem_append_right) (by exact rfl) rfl ?_
  refine J.callB (v := .int .i64 (i : Int)) (fun w1 w2 hw hb => hw.step hb) Ty.bd56 rfl rfl (fun w1 hw => by
    have h := place_spec (.slice (some ⟨q, 0, none⟩) way.length cq) way n w1 (hrq (hw.perm (l' := (q, cb (way.map iV ++ sp) 3) :: ((b13, cb (cS p a b (.slice (some ⟨q, 0, none⟩) way.length cq)) 107) :: (b10, cb (cD nilV false false) 37) :: (b8, cb (cFG f ⟨.slice at1 f.tr.length ct1, .slice ai1 f.ids.length ci1, .slice av1 f.val.length cv1, .slice ax1 f.txt.length cx1⟩) 52) :: (b6, cb (cW n id) 41) :: [(t, tabO most mb), (mb, .map es clock)])) (by (refine perm_cnt (fun _ => ?_)); simp only [cntB_append, cntB_cons, cntB_nil, Nat.add_zero, Nat.zero_add]; try ac_rfl))) (by omega)
    rw [hat] at h
    exact h) ?_
  refine J.assign rfl rfl ?_
  refine J.nil ?_
  refine JX.thenN (hK3 _ _ ?_)
  refine JC.seq (fun K4 hK4 => ?_)
  refine JC.seq (fun K5 hK5 => ?_)
  refine JC.region ?_
  refine J.move rfl rfl ?_
  refine J.eqNil Ty.u29 rfl rfl rfl ?_
  refine J.move rfl rfl ?_
  first | refine J.skip rfl rfl rfl rfl rfl ?_ | refine J.skipU rfl rfl rfl rfl ?_ | (refine J.unguard rfl rfl rfl ?_; refine J.move rfl rfl ?_)
  first | refine J.skip rfl rfl rfl rfl rfl ?_ | refine J.skipU rfl rfl rfl rfl ?_ | (refine J.unguard rfl rfl rfl ?_; refine J.not rfl rfl ?_)
  (first | refine J.pickT rfl rfl rfl ?_ | refine J.pickF rfl rfl rfl ?_)
  refine J.move rfl rfl ?_
  first | refine J.skip rfl rfl rfl rfl rfl ?_ | refine J.skipU rfl rfl rfl rfl ?_ | (refine J.unguard rfl rfl rfl ?_; refine J.move rfl rfl ?_)
  refine J.unguard rfl rfl rfl ?_
  refine J.bin rfl rfl rfl rfl ?_
  refine J.name 43 rfl (show Value.bool _ = .bool false by simp; omega) ?_
  (first | refine J.pickT rfl rfl rfl ?_ | refine J.pickF rfl rfl rfl ?_)
  refine J.move rfl rfl ?_
  first | refine J.skip rfl rfl rfl rfl rfl ?_ | refine J.skipU rfl rfl rfl rfl ?_ | (refine J.unguard rfl rfl rfl ?_; refine J.fieldAddr Ty.fd107_3 rfl rfl ?_)
  first | refine J.skip rfl rfl rfl rfl rfl ?_ | refine J.skipU rfl rfl rfl rfl ?_ | (refine J.unguard rfl rfl rfl ?_; refine J.loadO Ty.a26 rfl (by repeat first | exact .head _ | apply List.Mem.tail | apply List.mem_append_right) (by exact rfl) rfl ?_)
  first | refine J.skip rfl rfl rfl rfl rfl ?_ | refine J.skipU rfl rfl rfl rfl ?_ | (refine J.unguard rfl rfl rfl ?_; refine J.move rfl rfl ?_)
  first | refine J.skip rfl rfl rfl rfl rfl ?_ | refine J.skipU rfl rfl rfl rfl ?_ | (refine J.unguard rfl rfl rfl ?_; (first | refine J.subN rfl rfl (by omega) (by omega) rfl ?_ | refine J.bin rfl rfl rfl rfl ?_))
  refine J.unguard rfl rfl rfl ?_
  refine J.indexAddrS Ty.el26 Ty.s3 rfl rfl (by omega) (by omega) rfl ?_
  refine J.unguard rfl rfl rfl ?_
  refine J.load1 (v := iV fr) Ty.a3 rfl (fun w1 hw => rowI_at (i := i - 1) (hrq (hw.perm (l' := (q, cb (way.map iV ++ sp) 3) :: ((b13, cb (cS p a b (.slice (some ⟨q, 0, none⟩) way.length cq)) 107) :: (b10, cb (cD nilV false false) 37) :: (b8, cb (cFG f ⟨.slice at1 f.tr.length ct1, .slice ai1 f.ids.length ci1, .slice av1 f.val.length cv1, .slice ax1 f.txt.length cx1⟩) 52) :: (b6, cb (cW n id) 41) :: [(t, tabO most mb), (mb, .map es clock)])) (by (refine perm_cnt (fun _ => ?_)); simp only [cntB_append, cntB_cons, cntB_nil, Nat.add_zero, Nat.zero_add]; try ac_rfl))) hfrom (by omega)) rfl ?_
  first | refine J.skip rfl rfl rfl rfl rfl ?_ | refine J.skipU rfl rfl rfl rfl ?_ | (refine J.unguard rfl rfl rfl ?_; refine J.move rfl rfl ?_)
  refine J.unguard rfl rfl rfl ?_
  refine J.bin rfl rfl rfl rfl ?_
  refine J.name 53 rfl (show Value.bool _ = .bool false by simp) ?_
  (first | refine J.pickT rfl rfl rfl ?_ | refine J.pickF rfl rfl rfl ?_)
  refine J.move rfl rfl ?_
  first | refine J.skip rfl rfl rfl rfl rfl ?_ | refine J.skipU rfl rfl rfl rfl ?_ | (refine J.unguard rfl rfl rfl ?_; refine J.fieldAddr Ty.fd107_3 rfl rfl ?_)
  first | refine J.skip rfl rfl rfl rfl rfl ?_ | refine J.skipU rfl rfl rfl rfl ?_ | (refine J.unguard rfl rfl rfl ?_; refine J.loadO Ty.a26 rfl (by repeat first | exact .head _ | apply List.Mem.tail | apply List.mem_append_right) (by exact rfl) rfl ?_)
  refine J.unguard rfl rfl rfl ?_
  refine J.callB (v := .bool true) (fun w1 w2 hw hb => hw.step hb) Ty.bd52 rfl rfl (fun w1 hw => by
    have h := simple_spec (.slice (some ⟨q, 0, none⟩) way.length cq) way w1 (hrq (hw.perm (l' := (q, cb (way.map iV ++ sp) 3) :: ((b13, cb (cS p a b (.slice (some ⟨q, 0, none⟩) way.length cq)) 107) :: (b10, cb (cD nilV false false) 37) :: (b8, cb (cFG f ⟨.slice at1 f.tr.length ct1, .slice ai1 f.ids.length ci1, .slice av1 f.val.length cv1, .slice ax1 f.txt.length cx1⟩) 52) :: (b6, cb (cW n id) 41) :: [(t, tabO most mb), (mb, .map es clock)])) (by (refine perm_cnt (fun _ => ?_)); simp only [cntB_append, cntB_cons, cntB_nil, Nat.add_zero, Nat.zero_add]; try ac_rfl))) (by omega)
    rw [decide_eq_true hnd] at h
    exact h) ?_
  first | refine J.skip rfl rfl rfl rfl rfl ?_ | refine J.skipU rfl rfl rfl rfl ?_ | (refine J.unguard rfl rfl rfl ?_; refine J.not rfl rfl ?_)
  (first | refine J.pickT rfl rfl rfl ?_ | refine J.pickF rfl rfl rfl ?_)
  refine J.nil ?_
  refine JX.thenN (hK5 _ _ ?_)
  first | refine JC.condF rfl ?_ | refine JC.cond rfl (fun h => by first | (exfalso; simp at h; omega) | (simp at h)) (fun _ => ?_)
  refine JC.skip ?_
  refine JX.thenN (hK4 _ _ ?_)
  refine JC.seq (fun K6 hK6 => ?_)
  refine JC.region ?_
  refine J.move rfl rfl ?_
  refine J.fieldAddr Ty.fd107_0 rfl rfl ?_
  refine J.loadOA (vs := cP p) Ty.a25 Ty.s25 rfl (by repeat first | exact .head _ | apply List.Mem.tail | apply List.mem_append_right) (by exact rfl) rfl rfl ?_
  refine J.buildS (cs := cP p) Ty.pl114 zD rfl (by kernel_rfl) rfl ?_
  refine J.iface (by kernel_rfl) rfl rfl ?_
  refine J.callB (v := .agg (cF 5 p zI zI nilV).toArray) (fun w1 w2 hw hb => hw.step hb) Ty.bd54 rfl rfl (fun w1 hw => plainD_spec p w1) ?_
  refine J.buildS (cs := cH fr (cF 5 p zI zI nilV)) Ty.pl54 zH rfl (by kernel_rfl) rfl ?_
  refine J.buildSl (cs := cH fr (cF 5 p zI zI nilV)) Ty.el35 Ty.s54 zH rfl rfl rfl rfl (by kernel_rfl) rfl rfl (fun b69 => ?_)
  refine J.buildS (cs := cD (.slice (some ⟨b69, 0, none⟩) 1 1) false false) Ty.pl37 zN rfl (by kernel_rfl) rfl ?_
  refine J.alloc zN rfl rfl (fun b16 => ?_)
  refine J.storeW Ty.s37 rfl rfl rfl rfl rfl (by simp [Value.oneCell']) (by repeat first | exact .here | apply Up.there) ?_
  refine J.nil ?_
  refine JX.thenN (hK6 _ _ ?_)
  refine JC.seq (fun K7 hK7 => ?_)
  refine JC.region ?_
  refine J.fieldAddr Ty.fd107_0 rfl rfl ?_
  refine J.loadOA (vs := cP p) Ty.a25 Ty.s25 rfl (by repeat first | exact .head _ | apply List.Mem.tail | apply List.mem_append_right) (by exact rfl) rfl rfl ?_
  refine J.fieldAddr Ty.fd107_1 rfl rfl ?_
  refine J.loadOA (vs := cI a) Ty.a23 Ty.s23 rfl (by repeat first | exact .head _ | apply List.Mem.tail | apply List.mem_append_right) (by exact rfl) rfl rfl ?_
  refine J.fieldAddr Ty.fd107_2 rfl rfl ?_
  refine J.loadOA (vs := cI b) Ty.a23 Ty.s23 rfl (by repeat first | exact .head _ | apply List.Mem.tail | apply List.mem_append_right) (by exact rfl) rfl rfl ?_
  refine J.move rfl rfl ?_
  refine J.buildS (cs := cE (⟨p, a, b, fr, -1⟩ : EV)) Ty.pl34 Ty.zE_ rfl (by kernel_rfl) rfl ?_
  refine J.alloc Ty.zE_ rfl rfl (fun b17 => ?_)
  refine J.storeW Ty.s34 rfl rfl rfl rfl rfl (by simp [Value.oneCell']) (by repeat first | exact .here | apply Up.there) ?_
  refine J.nil ?_
  refine JX.thenN (hK7 _ _ ?_)
  refine JC.seq (fun K8 hK8 => ?_)
  refine JC.region ?_
  refine J.move rfl rfl ?_
  refine J.fieldAddr Ty.fd107_3 rfl rfl ?_
  refine J.loadO Ty.a26 rfl (by repeat first | exact .head _ | apply List.Mem.tail | apply List.mem_append_right) (by exact rfl) rfl ?_
  refine J.lenS rfl Ty.u26 rfl rfl ?_
  (first | refine J.subN rfl rfl (by omega) (by omega) rfl ?_ | refine J.bin rfl rfl rfl rfl ?_)
  refine J.bin rfl rfl rfl rfl ?_
  refine J.name 84 rfl (show Value.bool _ = .bool true by simp; omega) ?_
  refine J.assign rfl rfl ?_
  refine J.nil ?_
  refine JX.thenN (hK8 _ _ ?_)
  refine JC.seq (fun K9 hK9 => ?_)
  refine JC.seq (fun K10 hK10 => ?_)
  refine JC.region ?_
  refine J.move rfl rfl ?_
  refine J.move rfl rfl ?_
  first | refine J.skip rfl rfl rfl rfl rfl ?_ | refine J.skipU rfl rfl rfl rfl ?_ | (refine J.unguard rfl rfl rfl ?_; refine J.fieldAddr Ty.fd107_2 rfl rfl ?_)
  first | refine J.skip rfl rfl rfl rfl rfl ?_ | refine J.skipU rfl rfl rfl rfl ?_ | (refine J.unguard rfl rfl rfl ?_; refine J.loadOA (vs := cI b) Ty.a23 Ty.s23 rfl (by repeat first | exact .head _ | apply List.Mem.tail | apply List.mem_append_right) (by exact rfl) rfl rfl ?_)
  first | refine J.skip rfl rfl rfl rfl rfl ?_ | refine J.skipU rfl rfl rfl rfl ?_ | (refine J.unguard rfl rfl rfl ?_; refine J.fieldAddr Ty.fd41_1 rfl rfl ?_)
  first | refine J.skip rfl rfl rfl rfl rfl ?_ | refine J.skipU rfl rfl rfl rfl ?_ | (refine J.unguard rfl rfl rfl ?_; refine J.loadOA (vs := cI id) Ty.a23 Ty.s23 rfl (by repeat first | exact .head _ | apply List.Mem.tail | apply List.mem_append_right) (by exact rfl) rfl rfl ?_)
  refine J.unguard rfl rfl rfl ?_
  refine J.neI Ty.QI Ty.keyI rfl rfl rfl ?_
  refine J.name 91 rfl (show Value.bool _ = .bool false by simp [hid]) ?_
  (first | refine J.pickT rfl rfl rfl ?_ | refine J.pickF rfl rfl rfl ?_)
  refine J.nil ?_
  refine JX.thenN (hK10 _ _ ?_)
  first | refine JC.condF rfl ?_ | refine JC.cond rfl (fun h => by first | (exfalso; simp at h; omega) | (simp at h)) (fun _ => ?_)
  refine JC.skip ?_
  refine JX.thenN (hK9 _ _ ?_)
  refine JC.seq (fun K11 hK11 => ?_)
  refine JC.seq (fun K12 hK12 => ?_)
  refine JC.region ?_
  refine J.move rfl rfl ?_
  refine J.not rfl rfl ?_
  refine J.nil ?_
  refine JX.thenN (hK12 _ _ ?_)
  first | refine JC.condF rfl ?_ | refine JC.cond rfl (fun h => by first | (exfalso; simp at h; omega) | (simp at h)) (fun _ => ?_)
  refine JC.skip ?_
  refine JX.thenN (hK11 _ _ ?_)
  refine JC.seq (fun K13 hK13 => ?_)
  refine JC.seq (fun K14 hK14 => ?_)
  refine JC.region ?_
  refine J.move rfl rfl ?_
  refine J.loadOA (vs := cE (⟨p, a, b, fr, -1⟩ : EV)) Ty.a34 Ty.s34 rfl (by repeat first | exact .head _ | apply List.Mem.tail | apply List.mem_append_right) (by exact rfl) rfl rfl ?_
  refine J.perm ([(t, tabO most mb), (mb, .map es clock)] ++ ((b17, cb (cE (⟨p, a, b, fr, -1⟩ : EV)) 34) :: (b16, cb (cD (.slice (some ⟨b69, 0, none⟩) 1 1) false false) 37) :: (b69, cb (cH fr (cF 5 p zI zI nilV)) 54) :: (b13, cb (cS p a b (.slice (some ⟨q, 0, none⟩) way.length cq)) 107) :: (b10, cb (cD nilV false false) 37) :: (b8, cb (cFG f ⟨.slice at1 f.tr.length ct1, .slice ai1 f.ids.length ci1, .slice av1 f.val.length cv1, .slice ax1 f.txt.length cx1⟩) 52) :: (b6, cb (cW n id) 41) :: (q, cb (way.map iV ++ sp) 3) :: [])) (by (refine perm_cnt (fun _ => ?_)); simp only [cntB_append, cntB_cons, cntB_nil, Nat.add_zero, Nat.zero_add]; try ac_rfl) ?_
  refine J.callS (α := Array MapEntry × Nat) (V := fun _ => .int .i64 e) (Pr := fun y => Tab L' y.1 y.2) (L := fun y => [(t, tabO most mb), (mb, .map y.1 y.2)]) (l1 := [(t, tabO most mb), (mb, .map es clock)]) Ty.bd17 rfl rfl (fun w1 hw => add_all hw.owns hT (⟨p, a, b, fr, -1⟩ : EV) hokE hadd) (fun y hT' => ?_)
  obtain ⟨es', clock'⟩ := y
  simp only at hT' ⊢
  refine J.perm ((b17, cb (cE (⟨p, a, b, fr, -1⟩ : EV)) 34) :: (b16, cb (cD (.slice (some ⟨b69, 0, none⟩) 1 1) false false) 37) :: (b69, cb (cH fr (cF 5 p zI zI nilV)) 54) :: (b13, cb (cS p a b (.slice (some ⟨q, 0, none⟩) way.length cq)) 107) :: (b10, cb (cD nilV false false) 37) :: (b8, cb (cFG f ⟨.slice at1 f.tr.length ct1, .slice ai1 f.ids.length ci1, .slice av1 f.val.length cv1, .slice ax1 f.txt.length cx1⟩) 52) :: (b6, cb (cW n id) 41) :: (q, cb (way.map iV ++ sp) 3) :: [(t, tabO most mb), (mb, .map es' clock')]) (by (refine perm_cnt (fun _ => ?_)); simp only [cntB_append, cntB_cons, cntB_nil, Nat.add_zero, Nat.zero_add]; try ac_rfl) ?_
  refine J.assign rfl rfl ?_
  refine J.nil ?_
  refine JX.thenN (hK14 _ _ ?_)
  refine JC.seq (fun K15 hK15 => ?_)
  refine JC.region ?_
  refine J.move rfl rfl ?_
  refine J.bin rfl rfl rfl rfl ?_
  refine J.name 113 rfl (show Value.bool _ = .bool true by simp [he]) ?_
  refine J.nil ?_
  refine JX.thenN (hK15 _ _ ?_)
  first | refine JC.condT rfl ?_ | refine JC.cond rfl (fun _ => ?_) (fun h => by first | (exfalso; simp at h; omega) | (simp at h))
  refine JC.seq (fun K16 hK16 => ?_)
  refine JC.region ?_
  refine J.move rfl rfl ?_
  refine J.bin rfl rfl rfl rfl ?_
  refine J.fieldAddr Ty.fd37_2 rfl rfl ?_
  refine J.storeO (cs := cD (.slice (some ⟨b69, 0, none⟩) 1 1) false false) (vs := [.bool (e == 5)]) Ty.s4 rfl rfl rfl rfl (by simp [Value.oneCell']) (.there .here) (by simp) ?_
  refine J.perm ((b17, cb (cE (⟨p, a, b, fr, -1⟩ : EV)) 34) :: (b16, cb (cD (.slice (some ⟨b69, 0, none⟩) 1 1) false (e == 5)) 37) :: (b69, cb (cH fr (cF 5 p zI zI nilV)) 54) :: (b13, cb (cS p a b (.slice (some ⟨q, 0, none⟩) way.length cq)) 107) :: (b10, cb (cD nilV false false) 37) :: (b8, cb (cFG f ⟨.slice at1 f.tr.length ct1, .slice ai1 f.ids.length ci1, .slice av1 f.val.length cv1, .slice ax1 f.txt.length cx1⟩) 52) :: (b6, cb (cW n id) 41) :: (q, cb (way.map iV ++ sp) 3) :: [(t, tabO most mb), (mb, .map es' clock')]) (.refl _) ?_
  refine J.nil ?_
  refine JX.thenN (hK16 _ _ ?_)
  refine JC.seq (fun K17 hK17 => ?_)
  refine JC.region ?_
  refine J.loadOA (vs := cD (.slice (some ⟨b69, 0, none⟩) 1 1) false (e == 5)) Ty.a37 Ty.s37 rfl (by repeat first | exact .head _ | apply List.Mem.tail | apply List.mem_append_right) (by exact rfl) rfl rfl ?_
  refine J.storeW Ty.s37 rfl rfl rfl rfl rfl (by simp [Value.oneCell']) (by repeat first | exact .here | apply Up.there) ?_
  refine J.nil ?_
  refine JX.thenN (hK17 _ _ ?_)
  refine JC.ret ?_
  refine JX.thenR ?_
  refine JX.retC rfl rfl Ty.a37 Ty.s37 (vs := cD (.slice (some ⟨b69, 0, none⟩) 1 1) false (e == 5)) rfl (fun w1 hw => Cells.of_block (hw.own _ (.tail _ (.tail _ (.tail _ (.tail _ (.head _)))))) rfl) (fun w1 hw => ?_)
  exact ⟨(b69, es', clock'), rfl, hT', (hw.perm (l' := ([(b17, cb (cE (⟨p, a, b, fr, -1⟩ : EV)) 34), (b16, cb (cD (.slice (some ⟨b69, 0, none⟩) 1 1) false (e == 5)) 37), (b13, cb (cS p a b (.slice (some ⟨q, 0, none⟩) way.length cq)) 107), (b10, cb (cD (.slice (some ⟨b69, 0, none⟩) 1 1) false (e == 5)) 37), (b8, cb (cFG f ⟨.slice at1 f.tr.length ct1, .slice ai1 f.ids.length ci1, .slice av1 f.val.length cv1, .slice ax1 f.txt.length cx1⟩) 52), (b6, cb (cW n id) 41), (q, cb (way.map iV ++ sp) 3)]) ++ ((b69, cb (cH fr (cF 5 p zI zI nilV)) 54) :: [(t, tabO most mb), (mb, .map es' clock')])) (by (refine perm_cnt (fun _ => ?_)); simp only [cntB_append, cntB_cons, cntB_nil, Nat.add_zero, Nat.zero_add]; try ac_rfl)).drop (List.sublist_append_right _ _)⟩

theorem gtake_last (t mb : Nat) (most : Int) (L : List EV) (es : Array MapEntry) (clock : Nat) (w : World) (hw0 : Own w [(t, tabO most mb), (mb, .map es clock)]) (hT : Tab L es clock) (n fr : Int) (id a b : IDV) (p : PV) (hp : okN p.n) (hfr : okN fr) (f : FV) (s : FSl) (hs : FRows w f s) (hso : FOff [t, mb] f s) (hg : BigF f) (hk : f.k = 4) (hpe : f.p = p) (hae : f.a = a) (hbe : f.b = b) (way : List Int) (hwe : f.tr = way) (hlen : way.length < 1099511627776) (i : Nat) (hi : 1 ≤ i) (hi2 : i < way.length) (hat : placeP way n = (i : Int)) (hfrom : way[i - 1]? = some fr) (hnd : way.Nodup) (ov : Value) (os : List Bool) (hro : Row w ov os.length (os.map bV)) (hoffo : Off [t, mb] ov (os.map bV)) (hlo : os.length < 4611686018427387904) (hlast : i + 1 = way.length) (hid : b = id) {L' : List EV} (hadd : tadd L most (⟨p, a, b, fr, -1⟩ : EV) = (0, L')) :
    Calls Try.prog 19 [.pointer (some ⟨t, 0, none⟩), .agg (cW n id).toArray, .int .i64 fr, .agg (cFG f s).toArray, ov].toArray w fun r w' => ∃ y : Array MapEntry × Nat, r = .returned (.agg (cD nilV true false).toArray) ∧ Tab L' y.1 y.2 ∧ St w [t, mb] [(t, tabO most mb), (mb, .map y.1 y.2)] w' := by
  obtain ⟨vt1, vi1, vv1, vx1⟩ := s
  obtain ⟨at1, ct1, hh, _, _⟩ := _root_.id hs.tr
  simp only at hh
  subst hh
  obtain ⟨ai1, ci1, hh, _, _⟩ := _root_.id hs.ids
  simp only at hh
  subst hh
  obtain ⟨av1, cv1, hh, _, _⟩ := _root_.id hs.val
  simp only at hh
  subst hh
  obtain ⟨ax1, cx1, hh, _, _⟩ := _root_.id hs.txt
  simp only at hh
  subst hh
  have hokE : okE (⟨p, a, b, fr, -1⟩ : EV) := ⟨hp, hfr, okN_small (n := -1) (by omega) (by omega)⟩
  refine calls_of_J (args := [.pointer (some ⟨t, 0, none⟩), .agg (cW n id).toArray, .int .i64 fr, .agg (cFG f ⟨.slice at1 f.tr.length ct1, .slice ai1 f.ids.length ci1, .slice av1 f.val.length cv1, .slice ax1 f.txt.length cx1⟩).toArray, ov]) (e := [(0, .pointer (some ⟨t, 0, none⟩)), (1, .agg (cW n id).toArray), (2, .int .i64 fr), (3, .agg (cFG f ⟨.slice at1 f.tr.length ct1, .slice ai1 f.ids.length ci1, .slice av1 f.val.length cv1, .slice ax1 f.txt.length cx1⟩).toArray), (4, ov)]) Try.func19 rfl rfl ⟨rfl, rfl, rfl, rfl, rfl, trivial⟩ (hw0.st) ?_
  refine JC.seq (fun K0 hK0 => ?_)
  refine JC.region ?_
  refine J.box rfl rfl rfl (fun b6 => ?_)
  refine J.box rfl rfl rfl (fun b8 => ?_)
  refine J.alloc zN rfl rfl (fun b10 => ?_)
  refine J.nil ?_
  refine JX.thenN (hK0 _ _ ?_)
  refine JC.seq (fun K1 hK1 => ?_)
  refine JC.region ?_
  refine J.loadOA (vs := cFG f ⟨.slice at1 f.tr.length ct1, .slice ai1 f.ids.length ci1, .slice av1 f.val.length cv1, .slice ax1 f.txt.length cx1⟩) Ty.a52 Ty.s52 rfl (by repeat first | exact .head _ | apply List.Mem.tail | apply List.mem_append_right) (by exact rfl) rfl rfl ?_
  refine J.perm ([] ++ ((b10, cb (cD nilV false false) 37) :: (b8, cb (cFG f ⟨.slice at1 f.tr.length ct1, .slice ai1 f.ids.length ci1, .slice av1 f.val.length cv1, .slice ax1 f.txt.length cx1⟩) 52) :: (b6, cb (cW n id) 41) :: [(t, tabO most mb), (mb, .map es clock)])) (.refl _) ?_
  refine J.callS (α := Value × List (Nat × Obj)) (V := fun x => .tuple #[.iface 107 (.agg (cS p a b x.1).toArray), .bool true]) (Pr := fun x => Vec 3 1 x.1 way.length (way.map iV) x.2) (L := fun x => x.2) (l1 := []) Ty.bd55 rfl rfl (fun w1 hw => ofG2 f ⟨.slice at1 f.tr.length ct1, .slice ai1 f.ids.length ci1, .slice av1 f.val.length cv1, .slice ax1 f.txt.length cx1⟩ w1 (hs.st hso hw) hg hk hpe hae hbe hwe) (fun x hv8 => ?_)
  obtain ⟨v8, lp8⟩ := x
  simp only at hv8 ⊢
  obtain ⟨q, cq, sp, rfl, rfl, hcq⟩ := Vec.pos hv8 (by omega)
  have hrq : ∀ {w1 : World} {l : List (Nat × Obj)}, St w [t, mb] ((q, cb (way.map iV ++ sp) 3) :: l) w1 → Row w1 (.slice (some ⟨q, 0, none⟩) way.length cq) way.length (way.map iV) := fun hw => hv8.row hw
  refine J.perm ((b10, cb (cD nilV false false) 37) :: (b8, cb (cFG f ⟨.slice at1 f.tr.length ct1, .slice ai1 f.ids.length ci1, .slice av1 f.val.length cv1, .slice ax1 f.txt.length cx1⟩) 52) :: (b6, cb (cW n id) 41) :: ((q, cb (way.map iV ++ sp) 3) :: [(t, tabO most mb), (mb, .map es clock)])) (by (refine perm_cnt (fun _ => ?_)); simp only [cntB_append, cntB_cons, cntB_nil, Nat.add_zero, Nat.zero_add]; try ac_rfl) ?_
  refine J.move rfl rfl ?_
  refine J.extract rfl rfl rfl ?_
  refine J.extract rfl rfl rfl ?_
  refine J.assign rfl rfl ?_
  refine J.assign rfl rfl ?_
  refine J.nil ?_
  refine JX.thenN (hK1 _ _ ?_)
  refine JC.seq (fun K2 hK2 => ?_)
  refine JC.region ?_
  refine J.move rfl rfl ?_
  (first | refine J.assertT (by kernel_rfl) rfl rfl ?_ | refine J.assertF (by kernel_rfl) rfl rfl zS rfl ?_ | refine J.assertN (by kernel_rfl) rfl zS rfl ?_)
  refine J.move rfl rfl ?_
  refine J.extract rfl rfl rfl ?_
  refine J.extract rfl rfl rfl ?_
  refine J.alloc zS rfl rfl (fun b13 => ?_)
  refine J.storeW Ty.s107 rfl rfl rfl rfl rfl (by simp [Value.oneCell']) (by repeat first | exact .here | apply Up.there) ?_
  refine J.assign rfl rfl ?_
  refine J.nil ?_
  refine JX.thenN (hK2 _ _ ?_)
  refine JC.seq (fun K3 hK3 => ?_)
  refine JC.region ?_
  refine J.fieldAddr Ty.fd107_3 rfl rfl ?_
  refine J.loadO Ty.a26 rfl (by repeat first | exact .head _ | apply List.Mem.tail | apply List.mem_append_right) (by exact rfl) rfl ?_
  refine J.fieldAddr Ty.fd41_0 rfl rfl ?_
  refine J.loadO Ty.a3 rfl (by repeat first | exact .head _ | apply List.Mem.tail | apply List.mem_append_right) (by exact rfl) rfl ?_
  refine J.callB (v := .int .i64 (i : Int)) (fun w1 w2 hw hb => hw.step hb) Ty.bd56 rfl rfl (fun w1 hw => by
    have h := place_spec (.slice (some ⟨q, 0, none⟩) way.length cq) way n w1 (hrq (hw.perm (l' := (q, cb (way.map iV ++ sp) 3) :: ((b13, cb (cS p a b (.slice (some ⟨q, 0, none⟩) way.length cq)) 107) :: (b10, cb (cD nilV false false) 37) :: (b8, cb (cFG f ⟨.slice at1 f.tr.length ct1, .slice ai1 f.ids.length ci1, .slice av1 f.val.length cv1, .slice ax1 f.txt.length cx1⟩) 52) :: (b6, cb (cW n id) 41) :: [(t, tabO most mb), (mb, .map es clock)])) (by (refine perm_cnt (fun _ => ?_)); simp only [cntB_append, cntB_cons, cntB_nil, Nat.add_zero, Nat.zero_add]; try ac_rfl))) (by omega)
    rw [hat] at h
    exact h) ?_
  refine J.assign rfl rfl ?_
  refine J.nil ?_
  refine JX.thenN (hK3 _ _ ?_)
  refine JC.seq (fun K4 hK4 => ?_)
  refine JC.seq (fun K5 hK5 => ?_)
  refine JC.region ?_
  refine J.move rfl rfl ?_
  refine J.eqNil Ty.u29 rfl rfl rfl ?_
  refine J.move rfl rfl ?_
  first | refine J.skip rfl rfl rfl rfl rfl ?_ | refine J.skipU rfl rfl rfl rfl ?_ | (refine J.unguard rfl rfl rfl ?_; refine J.move rfl rfl ?_)
  first | refine J.skip rfl rfl rfl rfl rfl ?_ | refine J.skipU rfl rfl rfl rfl ?_ | (refine J.unguard rfl rfl rfl ?_; refine J.not rfl rfl ?_)
  (first | refine J.pickT rfl rfl rfl ?_ | refine J.pickF rfl rfl rfl ?_)
  refine J.move rfl rfl ?_
  first | refine J.skip rfl rfl rfl rfl rfl ?_ | refine J.skipU rfl rfl rfl rfl ?_ | (refine J.unguard rfl rfl rfl ?_; refine J.move rfl rfl ?_)
  refine J.unguard rfl rfl rfl ?_
  refine J.bin rfl rfl rfl rfl ?_
  refine J.name 43 rfl (show Value.bool _ = .bool false by simp; omega) ?_
  (first | refine J.pickT rfl rfl rfl ?_ | refine J.pickF rfl rfl rfl ?_)
  refine J.move rfl rfl ?_
  first | refine J.skip rfl rfl rfl rfl rfl ?_ | refine J.skipU rfl rfl rfl rfl ?_ | (refine J.unguard rfl rfl rfl ?_; refine J.fieldAddr Ty.fd107_3 rfl rfl ?_)
  first | refine J.skip rfl rfl rfl rfl rfl ?_ | refine J.skipU rfl rfl rfl rfl ?_ | (refine J.unguard rfl rfl rfl ?_; refine J.loadO Ty.a26 rfl (by repeat first | exact .head _ | apply List.Mem.tail | apply List.mem_append_right) (by exact rfl) rfl ?_)
  first | refine J.skip rfl rfl rfl rfl rfl ?_ | refine J.skipU rfl rfl rfl rfl ?_ | (refine J.unguard rfl rfl rfl ?_; refine J.move rfl rfl ?_)
  first | refine J.skip rfl rfl rfl rfl rfl ?_ | refine J.skipU rfl rfl rfl rfl ?_ | (refine J.unguard rfl rfl rfl ?_; (first | refine J.subN rfl rfl (by omega) (by omega) rfl ?_ | refine J.bin rfl rfl rfl rfl ?_))
  refine J.unguard rfl rfl rfl ?_
  refine J.indexAddrS Ty.el26 Ty.s3 rfl rfl (by omega) (by omega) rfl ?_
  refine J.unguard rfl rfl rfl ?_
  refine J.load1 (v := iV fr) Ty.a3 rfl (fun w1 hw => rowI_at (i := i - 1) (hrq (hw.perm (l' := (q, cb (way.map iV ++ sp) 3) :: ((b13, cb (cS p a b (.slice (some ⟨q, 0, none⟩) way.length cq)) 107) :: (b10, cb (cD nilV false false) 37) :: (b8, cb (cFG f ⟨.slice at1 f.tr.length ct1, .slice ai1 f.ids.length ci1, .slice av1 f.val.length cv1, .slice ax1 f.txt.length cx1⟩) 52) :: (b6, cb (cW n id) 41) :: [(t, tabO most mb), (mb, .map es clock)])) (by (refine perm_cnt (fun _ => ?_)); simp only [cntB_append, cntB_cons, cntB_nil, Nat.add_zero, Nat.zero_add]; try ac_rfl))) hfrom (by omega)) rfl ?_
  first | refine J.skip rfl rfl rfl rfl rfl ?_ | refine J.skipU rfl rfl rfl rfl ?_ | (refine J.unguard rfl rfl rfl ?_; refine J.move rfl rfl ?_)
  refine J.unguard rfl rfl rfl ?_
  refine J.bin rfl rfl rfl rfl ?_
  refine J.name 53 rfl (show Value.bool _ = .bool false by simp) ?_
  (first | refine J.pickT rfl rfl rfl ?_ | refine J.pickF rfl rfl rfl ?_)
  refine J.move rfl rfl ?_
  first | refine J.skip rfl rfl rfl rfl rfl ?_ | refine J.skipU rfl rfl rfl rfl ?_ | (refine J.unguard rfl rfl rfl ?_; refine J.fieldAddr Ty.fd107_3 rfl rfl ?_)
  first | refine J.skip rfl rfl rfl rfl rfl ?_ | refine J.skipU rfl rfl rfl rfl ?_ | (refine J.unguard rfl rfl rfl ?_; refine J.loadO Ty.a26 rfl (by repeat first | exact .head _ | apply List.Mem.tail | apply List.mem_append_right) (by exact rfl) rfl ?_)
  refine J.unguard rfl rfl rfl ?_
  refine J.callB (v := .bool true) (fun w1 w2 hw hb => hw.step hb) Ty.bd52 rfl rfl (fun w1 hw => by
    have h := simple_spec (.slice (some ⟨q, 0, none⟩) way.length cq) way w1 (hrq (hw.perm (l' := (q, cb (way.map iV ++ sp) 3) :: ((b13, cb (cS p a b (.slice (some ⟨q, 0, none⟩) way.length cq)) 107) :: (b10, cb (cD nilV false false) 37) :: (b8, cb (cFG f ⟨.slice at1 f.tr.length ct1, .slice ai1 f.ids.length ci1, .slice av1 f.val.length cv1, .slice ax1 f.txt.length cx1⟩) 52) :: (b6, cb (cW n id) 41) :: [(t, tabO most mb), (mb, .map es clock)])) (by (refine perm_cnt (fun _ => ?_)); simp only [cntB_append, cntB_cons, cntB_nil, Nat.add_zero, Nat.zero_add]; try ac_rfl))) (by omega)
    rw [decide_eq_true hnd] at h
    exact h) ?_
  first | refine J.skip rfl rfl rfl rfl rfl ?_ | refine J.skipU rfl rfl rfl rfl ?_ | (refine J.unguard rfl rfl rfl ?_; refine J.not rfl rfl ?_)
  (first | refine J.pickT rfl rfl rfl ?_ | refine J.pickF rfl rfl rfl ?_)
  refine J.nil ?_
  refine JX.thenN (hK5 _ _ ?_)
  first | refine JC.condF rfl ?_ | refine JC.cond rfl (fun h => by first | (exfalso; simp at h; omega) | (simp at h)) (fun _ => ?_)
  refine JC.skip ?_
  refine JX.thenN (hK4 _ _ ?_)
  refine JC.seq (fun K6 hK6 => ?_)
  refine JC.region ?_
  refine J.move rfl rfl ?_
  refine J.fieldAddr Ty.fd107_0 rfl rfl ?_
  refine J.loadOA (vs := cP p) Ty.a25 Ty.s25 rfl (by repeat first | exact .head _ | apply List.Mem.tail | apply List.mem_append_right) (by exact rfl) rfl rfl ?_
  refine J.buildS (cs := cP p) Ty.pl114 zD rfl (by kernel_rfl) rfl ?_
  refine J.iface (by kernel_rfl) rfl rfl ?_
  refine J.callB (v := .agg (cF 5 p zI zI nilV).toArray) (fun w1 w2 hw hb => hw.step hb) Ty.bd54 rfl rfl (fun w1 hw => plainD_spec p w1) ?_
  refine J.buildS (cs := cH fr (cF 5 p zI zI nilV)) Ty.pl54 zH rfl (by kernel_rfl) rfl ?_
  refine J.buildSl (cs := cH fr (cF 5 p zI zI nilV)) Ty.el35 Ty.s54 zH rfl rfl rfl rfl (by kernel_rfl) rfl rfl (fun b69 => ?_)
  refine J.buildS (cs := cD (.slice (some ⟨b69, 0, none⟩) 1 1) false false) Ty.pl37 zN rfl (by kernel_rfl) rfl ?_
  refine J.alloc zN rfl rfl (fun b16 => ?_)
  refine J.storeW Ty.s37 rfl rfl rfl rfl rfl (by simp [Value.oneCell']) (by repeat first | exact .here | apply Up.there) ?_
  refine J.nil ?_
  refine JX.thenN (hK6 _ _ ?_)
  refine JC.seq (fun K7 hK7 => ?_)
  refine JC.region ?_
  refine J.fieldAddr Ty.fd107_0 rfl rfl ?_
  refine J.loadOA (vs := cP p) Ty.a25 Ty.s25 rfl (by repeat first | exact .head _ | apply List.Mem.tail | apply List.mem_append_right) (by exact rfl) rfl rfl ?_
  refine J.fieldAddr Ty.fd107_1 rfl rfl ?_
  refine J.loadOA (vs := cI a) Ty.a23 Ty.s23 rfl (by repeat first | exact .head _ | apply List.Mem.tail | apply List.mem_append_right) (by exact rfl) rfl rfl ?_
  refine J.fieldAddr Ty.fd107_2 rfl rfl ?_
  refine J.loadOA (vs := cI b) Ty.a23 Ty.s23 rfl (by repeat first | exact .head _ | apply List.Mem.tail | apply List.mem_append_right) (by exact rfl) rfl rfl ?_
  refine J.move rfl rfl ?_
  refine J.buildS (cs := cE (⟨p, a, b, fr, -1⟩ : EV)) Ty.pl34 Ty.zE_ rfl (by kernel_rfl) rfl ?_
  refine J.alloc Ty.zE_ rfl rfl (fun b17 => ?_)
  refine J.storeW Ty.s34 rfl rfl rfl rfl rfl (by simp [Value.oneCell']) (by repeat first | exact .here | apply Up.there) ?_
  refine J.nil ?_
  refine JX.thenN (hK7 _ _ ?_)
  refine JC.seq (fun K8 hK8 => ?_)
  refine JC.region ?_
  refine J.move rfl rfl ?_
  refine J.fieldAddr Ty.fd107_3 rfl rfl ?_
  refine J.loadO Ty.a26 rfl (by repeat first | exact .head _ | apply List.Mem.tail | apply List.mem_append_right) (by exact rfl) rfl ?_
  refine J.lenS rfl Ty.u26 rfl rfl ?_
  (first | refine J.subN rfl rfl (by omega) (by omega) rfl ?_ | refine J.bin rfl rfl rfl rfl ?_)
  refine J.bin rfl rfl rfl rfl ?_
  refine J.name 84 rfl (show Value.bool _ = .bool true by simp; omega) ?_
  refine J.assign rfl rfl ?_
  refine J.nil ?_
  refine JX.thenN (hK8 _ _ ?_)
  refine JC.seq (fun K9 hK9 => ?_)
  refine JC.seq (fun K10 hK10 => ?_)
  refine JC.region ?_
  refine J.move rfl rfl ?_
  refine J.move rfl rfl ?_
  first | refine J.skip rfl rfl rfl rfl rfl ?_ | refine J.skipU rfl rfl rfl rfl ?_ | (refine J.unguard rfl rfl rfl ?_; refine J.fieldAddr Ty.fd107_2 rfl rfl ?_)
  first | refine J.skip rfl rfl rfl rfl rfl ?_ | refine J.skipU rfl rfl rfl rfl ?_ | (refine J.unguard rfl rfl rfl ?_; refine J.loadOA (vs := cI b) Ty.a23 Ty.s23 rfl (by repeat first | exact .head _ | apply List.Mem.tail | apply List.mem_append_right) (by exact rfl) rfl rfl ?_)
  first | refine J.skip rfl rfl rfl rfl rfl ?_ | refine J.skipU rfl rfl rfl rfl ?_ | (refine J.unguard rfl rfl rfl ?_; refine J.fieldAddr Ty.fd41_1 rfl rfl ?_)
  first | refine J.skip rfl rfl rfl rfl rfl ?_ | refine J.skipU rfl rfl rfl rfl ?_ | (refine J.unguard rfl rfl rfl ?_; refine J.loadOA (vs := cI id) Ty.a23 Ty.s23 rfl (by repeat first | exact .head _ | apply List.Mem.tail | apply List.mem_append_right) (by exact rfl) rfl rfl ?_)
  refine J.unguard rfl rfl rfl ?_
  refine J.neI Ty.QI Ty.keyI rfl rfl rfl ?_
  refine J.name 91 rfl (show Value.bool _ = .bool false by simp [hid]) ?_
  (first | refine J.pickT rfl rfl rfl ?_ | refine J.pickF rfl rfl rfl ?_)
  refine J.nil ?_
  refine JX.thenN (hK10 _ _ ?_)
  first | refine JC.condF rfl ?_ | refine JC.cond rfl (fun h => by first | (exfalso; simp at h; omega) | (simp at h)) (fun _ => ?_)
  refine JC.skip ?_
  refine JX.thenN (hK9 _ _ ?_)
  refine JC.seq (fun K11 hK11 => ?_)
  refine JC.seq (fun K12 hK12 => ?_)
  refine JC.region ?_
  refine J.move rfl rfl ?_
  refine J.not rfl rfl ?_
  refine J.nil ?_
  refine JX.thenN (hK12 _ _ ?_)
  first | refine JC.condF rfl ?_ | refine JC.cond rfl (fun h => by first | (exfalso; simp at h; omega) | (simp at h)) (fun _ => ?_)
  refine JC.skip ?_
  refine JX.thenN (hK11 _ _ ?_)
  refine JC.seq (fun K13 hK13 => ?_)
  refine JC.seq (fun K14 hK14 => ?_)
  refine JC.region ?_
  refine J.move rfl rfl ?_
  refine J.loadOA (vs := cE (⟨p, a, b, fr, -1⟩ : EV)) Ty.a34 Ty.s34 rfl (by repeat first | exact .head _ | apply List.Mem.tail | apply List.mem_append_right) (by exact rfl) rfl rfl ?_
  refine J.perm ([(t, tabO most mb), (mb, .map es clock)] ++ ((b17, cb (cE (⟨p, a, b, fr, -1⟩ : EV)) 34) :: (b16, cb (cD (.slice (some ⟨b69, 0, none⟩) 1 1) false false) 37) :: (b69, cb (cH fr (cF 5 p zI zI nilV)) 54) :: (b13, cb (cS p a b (.slice (some ⟨q, 0, none⟩) way.length cq)) 107) :: (b10, cb (cD nilV false false) 37) :: (b8, cb (cFG f ⟨.slice at1 f.tr.length ct1, .slice ai1 f.ids.length ci1, .slice av1 f.val.length cv1, .slice ax1 f.txt.length cx1⟩) 52) :: (b6, cb (cW n id) 41) :: (q, cb (way.map iV ++ sp) 3) :: [])) (by (refine perm_cnt (fun _ => ?_)); simp only [cntB_append, cntB_cons, cntB_nil, Nat.add_zero, Nat.zero_add]; try ac_rfl) ?_
  refine J.callS (α := Array MapEntry × Nat) (V := fun _ => .int .i64 0) (Pr := fun y => Tab L' y.1 y.2) (L := fun y => [(t, tabO most mb), (mb, .map y.1 y.2)]) (l1 := [(t, tabO most mb), (mb, .map es clock)]) Ty.bd17 rfl rfl (fun w1 hw => add_all hw.owns hT (⟨p, a, b, fr, -1⟩ : EV) hokE hadd) (fun y hT' => ?_)
  obtain ⟨es', clock'⟩ := y
  simp only at hT' ⊢
  refine J.perm ((b17, cb (cE (⟨p, a, b, fr, -1⟩ : EV)) 34) :: (b16, cb (cD (.slice (some ⟨b69, 0, none⟩) 1 1) false false) 37) :: (b69, cb (cH fr (cF 5 p zI zI nilV)) 54) :: (b13, cb (cS p a b (.slice (some ⟨q, 0, none⟩) way.length cq)) 107) :: (b10, cb (cD nilV false false) 37) :: (b8, cb (cFG f ⟨.slice at1 f.tr.length ct1, .slice ai1 f.ids.length ci1, .slice av1 f.val.length cv1, .slice ax1 f.txt.length cx1⟩) 52) :: (b6, cb (cW n id) 41) :: (q, cb (way.map iV ++ sp) 3) :: [(t, tabO most mb), (mb, .map es' clock')]) (by (refine perm_cnt (fun _ => ?_)); simp only [cntB_append, cntB_cons, cntB_nil, Nat.add_zero, Nat.zero_add]; try ac_rfl) ?_
  refine J.assign rfl rfl ?_
  refine J.nil ?_
  refine JX.thenN (hK14 _ _ ?_)
  refine JC.seq (fun K15 hK15 => ?_)
  refine JC.region ?_
  refine J.move rfl rfl ?_
  refine J.bin rfl rfl rfl rfl ?_
  refine J.nil ?_
  refine JX.thenN (hK15 _ _ ?_)
  first | refine JC.condF rfl ?_ | refine JC.cond rfl (fun h => by first | (exfalso; simp at h; omega) | (simp at h)) (fun _ => ?_)
  refine JC.skip ?_
  refine JX.thenN (hK13 _ _ ?_)
  refine JC.seq (fun K16 hK16 => ?_)
  refine JC.seq (fun K17 hK17 => ?_)
  refine JC.region ?_
  refine J.move rfl rfl ?_
  refine J.nil ?_
  refine JX.thenN (hK17 _ _ ?_)
  first | refine JC.condT rfl ?_ | refine JC.cond rfl (fun _ => ?_) (fun h => by first | (exfalso; simp at h; omega) | (simp at h))
  refine JC.seq (fun K18 hK18 => ?_)
  refine JC.region ?_
  refine J.buildS (cs := cD nilV true false) Ty.pl37 zN rfl (by kernel_rfl) rfl ?_
  refine J.storeW Ty.s37 rfl rfl rfl rfl rfl (by simp [Value.oneCell']) (by repeat first | exact .here | apply Up.there) ?_
  refine J.nil ?_
  refine JX.thenN (hK18 _ _ ?_)
  refine JC.ret ?_
  refine JX.thenR ?_
  refine JX.retC rfl rfl Ty.a37 Ty.s37 (vs := cD nilV true false) rfl (fun w1 hw => Cells.of_block (hw.own _ (.tail _ (.tail _ (.tail _ (.tail _ (.head _)))))) rfl) (fun w1 hw => ?_)
  exact ⟨(es', clock'), rfl, hT', (hw.perm (l' := ([(b17, cb (cE (⟨p, a, b, fr, -1⟩ : EV)) 34), (b16, cb (cD (.slice (some ⟨b69, 0, none⟩) 1 1) false false) 37), (b13, cb (cS p a b (.slice (some ⟨q, 0, none⟩) way.length cq)) 107), (b10, cb (cD nilV true false) 37), (b8, cb (cFG f ⟨.slice at1 f.tr.length ct1, .slice ai1 f.ids.length ci1, .slice av1 f.val.length cv1, .slice ax1 f.txt.length cx1⟩) 52), (b6, cb (cW n id) 41), (q, cb (way.map iV ++ sp) 3), (b69, cb (cH fr (cF 5 p zI zI nilV)) 54)]) ++ ([(t, tabO most mb), (mb, .map es' clock')])) (by (refine perm_cnt (fun _ => ?_)); simp only [cntB_append, cntB_cons, cntB_nil, Nat.add_zero, Nat.zero_add]; try ac_rfl)).drop (List.sublist_append_right _ _)⟩

end Go.Proofs.Ytpldpkdlloolkaa
