/-
  VaultOpens: texts that its proof needs, part 6.
-/
import Derived.Test.YtoaenmlhehcjfaaZVaultOpense
/-
 The document's take: contract.
-/
namespace Go.Proofs.Ytoaenmlhehcjfaa
open Go.J Go.RowKit
set_option linter.unusedVariables false
set_option linter.unusedSimpArgs false
set_option maxRecDepth 8000
abbrev lowP (key : IDV) : HI → Bool := fun y => decide (valI y.key < valI key)
abbrev highP (key : IDV) : HI → Bool := fun y => decide (valI key < valI y.key)
/-- where an item goes among those of other keys -/
def insH (ys : List HI) (x : HI) : List HI := ys.filter (lowP x.key) ++ [x] ++ ys.filter (highP x.key)
theorem take_filter {α : Type} {p : α → Bool} {ys : List α} {i : Nat} {y : α} (h : ys[i]? = some y) : (ys.take (i + 1)).filter p = (ys.take i).filter p ++ (if p y then [y] else []) := by
 rw [List.take_add_one, h, List.filter_append]
 cases hp : p y <;> simp [hp]
structure TkS where
 i : Nat
 v5 : Value
 l5 : List (Nat × Obj)
 v6 : Value
 l6 : List (Nat × Obj)

theorem one_cHs {ys : List HI} (h : ∀ y, y ∈ ys → ∃ a c, y.sv = .slice a y.bs.length c) : ∀ v, v ∈ ys.flatMap cH → v.oneCell' = true := fun v hv => by
 obtain ⟨y, hy, hv⟩ := List.mem_flatMap.1 hv
 obtain ⟨a, c, hs⟩ := h y hy
 exact one_cH hs v hv

set_option maxHeartbeats 1000000 in
theorem rtake_spec (rb : Nat) (lv : Value) (inc : Int) (ys : List HI) (vy : Value) (ly : List (Nat × Obj)) (hv : Vec 28 34 vy (ys).length ((ys).flatMap cH) ly) (hf : ∀ y, y ∈ ys → ∃ a c, y.sv = .slice a y.bs.length c) (hyl : ys.length ≤ 10000) (xc : List Value) (key : IDV) (ver : WV) (bs : List UInt8) (a : Option Addr) (k c : Nat) (lp : List (Nat × Obj)) (w : World) (hxc : xc = (cT key ver (.slice a k c))) (hw0 : Own w ((rb, cb [lv, vy, .int .i64 inc] 74) :: ly)) :
  Calls Try.prog 58 [.pointer (some ⟨rb, 0, none⟩), .agg xc.toArray].toArray w fun r w' => (r = .returned (.bool false) ∧ (∃ y, y ∈ ys ∧ y.key = key ∧ newB ver y.ver = false) ∧ St w (((rb, cb [lv, vy, .int .i64 inc] 74) :: ly).map (·.1)) ((rb, cb [lv, vy, .int .i64 inc] 74) :: ly) w') ∨ (r = .returned (.bool true) ∧ (∀ y, y ∈ ys → y.key = key → newB ver y.ver = true) ∧ ∃ v' l', Vec 28 34 v' (insH ys (⟨key, ver, bs, .slice a k c, lp⟩ : HI)).length ((insH ys (⟨key, ver, bs, .slice a k c, lp⟩ : HI)).flatMap cH) l' ∧ St w (((rb, cb [lv, vy, .int .i64 inc] 74) :: ly).map (·.1)) ((rb, cb [lv, v', .int .i64 inc] 74) :: l') w') := by
 obtain ⟨ay, cy, rfl, hcy⟩ := hv.form
 obtain ⟨S0, hS0⟩ : ∃ l, ((rb, cb [lv, (.slice ay ys.length cy), .int .i64 inc] 74) :: ly).map (·.1) = l := ⟨_, rfl⟩
 have hst0 := hw0.st
 rw [hS0] at hst0 ⊢
 refine calls_of_J (args := [.pointer (some ⟨rb, 0, none⟩), .agg xc.toArray]) (e := [(0, .pointer (some ⟨rb, 0, none⟩)), (1, .agg xc.toArray)]) Try.func58 rfl rfl ⟨rfl, rfl, trivial⟩ (hst0) ?_; refine JC.seq (fun K0 hK0 => ?_); refine JC.region ?_; refine J.box rfl rfl rfl (fun b3 => ?_)
 subst hxc
 refine J.assign rfl rfl ?_; refine J.nil ?_; refine JX.thenN (hK0 _ _ ?_); refine JC.seq (fun K1 hK1 => ?_); refine JC.region ?_; refine J.assign rfl rfl ?_; refine J.assign rfl rfl ?_; refine J.nil ?_; refine JX.thenN (hK1 _ _ ?_); refine JC.seq (fun K2 hK2 => ?_); refine JC.seq (fun K3 hK3 => ?_); refine JC.region ?_; refine J.assign rfl rfl ?_; refine J.nil ?_; refine JX.thenN (hK3 _ _ ?_); refine JC.block ?_
 refine JC.conseq (JC.cov (f := (fun st => [(0, .pointer (some ⟨rb, 0, none⟩)), (3, .pointer (some ⟨b3, 0, none⟩)), (5, st.v5), (6, st.v6), (7, .int .i64 ((st.i : Nat) : Int))]) (⟨0, .slice none 0 0, [], .slice none 0 0, []⟩ : TkS)) ⟨rfl, rfl, rfl, rfl, rfl, trivial⟩ (JC.loop (α := TkS) (fun st => [(0, .pointer (some ⟨rb, 0, none⟩)), (3, .pointer (some ⟨b3, 0, none⟩)), (5, st.v5), (6, st.v6), (7, .int .i64 ((st.i : Nat) : Int))]) (fun st w' => (st.i ≤ ys.length ∧ (∀ y, y ∈ ys.take st.i → y.key = key → newB ver y.ver = true) ∧ Vec 28 34 st.v5 ((ys.take st.i).filter (lowP key)).length (((ys.take st.i).filter (lowP key)).flatMap cH) st.l5 ∧ Vec 28 34 st.v6 ((ys.take st.i).filter (highP key)).length (((ys.take st.i).filter (highP key)).flatMap cH) st.l6) ∧ St w S0 ((b3, cb (cT key ver (.slice a k c)) 28) :: (rb, cb [lv, (.slice ay ys.length cy), .int .i64 inc] 74) :: (ly ++ (st.l5 ++ st.l6))) w') (fun st => ys.length - st.i) (⟨0, .slice none 0 0, [], .slice none 0 0, []⟩ : TkS) (fun st => ?_))) (fun w hw => ⟨⟨Nat.zero_le _, fun y hy => (by simp at hy), Vec.nil _ _, Vec.nil _ _⟩, hw.perm zp⟩)
 obtain ⟨i, v5, l5, v6, l6⟩ := st
 refine JC.pr (fun hI => ?_)
 obtain ⟨hi, hnw, hv5, hv6⟩ := hI
 try simp only at hi hnw hv5 hv6 ⊢
 have hlo : ((ys.take i).filter (lowP key)).length ≤ i := Nat.le_trans (List.length_filter_le _ _) (by rw [List.length_take]; exact Nat.min_le_left _ _)
 have hhi : ((ys.take i).filter (highP key)).length ≤ i := Nat.le_trans (List.length_filter_le _ _) (by rw [List.length_take]; exact Nat.min_le_left _ _)
 refine JC.seq (fun K4 hK4 => ?_); refine JC.seq (fun K5 hK5 => ?_); refine JC.region ?_; refine J.move rfl rfl ?_; refine J.move rfl rfl ?_; refine J.nilCheck rfl rfl ?_; refine J.fieldAddr Ty.fd74_1 rfl rfl ?_; refine J.load1 (v := (.slice ay ys.length cy)) Ty.a44 rfl (fun w1 hw => by rw [cell_of (hw.own ((rb, cb [lv, (.slice ay ys.length cy), .int .i64 inc] 74)) zm)]; rfl) rfl ?_; refine J.lenS rfl Ty.u44 rfl rfl ?_; refine J.bin rfl rfl rfl rfl ?_; refine J.nil ?_; refine JX.thenN (hK5 _ _ ?_); refine JC.cond rfl (fun h0 => ?_) (fun h0 => ?_)
 ·have hlt : i < ys.length := by simp at h0; omega
  obtain ⟨y, hyg⟩ : ∃ x, ys[i]? = some x := ⟨_, List.getElem?_eq_getElem hlt⟩
  obtain ⟨az, cz, hsy⟩ := hf y (List.mem_of_getElem? hyg)
  obtain ⟨ky, vy, by_, sy_, lz⟩ := y
  simp only at hsy
  subst hsy
  obtain ⟨qy, sy, rfl, rfl, hqy⟩ : ∃ b sp, ay = some ⟨b, 0, none⟩ ∧ ly = [(b, cb (ys.flatMap cH ++ sp) 28)] ∧ ys.length ≤ cy := by
   rcases hv.2 with ⟨_, h9, _⟩ | ⟨b, c, sp, h9, h10, _, h11⟩
   ·omega
   ·simp only [Value.slice.injEq] at h9
    obtain ⟨h9, -, rfl⟩ := h9
    exact ⟨b, sp, h9, h10, h11⟩
  refine JC.skip ?_; refine JX.thenN (hK4 _ _ ?_); refine JC.seq (fun K6 hK6 => ?_); refine JC.block ?_; refine JC.seq (fun K7 hK7 => ?_)
  by_cases hke : ky = key
  ·obtain ⟨nb, hnv⟩ : ∃ b, newB ver vy = b := ⟨_, rfl⟩
   cases nb with
   | false =>
    apply JC.drawX (α := Nat × Unit) 11 (fun x => match x with | ⟨xu, uu⟩ => [.pointer (some ⟨rb, 0, none⟩), .pointer (some ⟨rb, 0, none⟩), .pointer (some ⟨rb, 0 + 1, none⟩), (.slice (some ⟨qy, 0, none⟩) ys.length cy), .int .i64 ((i : Nat) : Int), .pointer (some ⟨qy, 0 + ((i : Nat) : Int).toNat * 34, none⟩), .pointer (some ⟨qy, 0 + ((i : Nat) : Int).toNat * 34 + 0, none⟩), .agg (cI ky).toArray, .pointer (some ⟨b3, 0 + 0, none⟩), .agg (cI key).toArray, .bool true]) (fun m x => match x with | ⟨xu, uu⟩ => fun w1 => (True) ∧ St w S0 ((b3, cb (cT key ver (.slice a k c)) 28) :: (rb, cb [lv, (.slice (some ⟨qy, 0, none⟩) ys.length cy), .int .i64 inc] 74) :: ([(qy, cb (ys.flatMap cH ++ sy) 28)] ++ (l5 ++ l6))) w1) Ty.mixed rfl rfl rfl (by kernel_rfl) rfl rfl ?hinit ?hstep ?htail
    case hinit => exact fun w1 hw => ⟨(0, ()), trivial, hw.drew⟩
    case hstep =>
     refine ⟨fun m x hm hp => ?_, fun m x hm hp => ?_, fun m x hm hp => ?_, fun m x hm hp => ?_, fun m x hm hp => ?_, fun m x hm hp => ?_, fun m x hm hp => ?_, fun m x hm hp => ?_, fun m x hm hp => ?_, fun m x hm hp => ?_, fun m x hm hp => ?_, trivial⟩
     ·obtain ⟨xu, uu⟩ := x
      show J _ _ _ _ _ (_) _
      refine J.pr (fun hF => ?_); refine J.move rfl rfl ?_
      exact J.finX rfl (fun _ hw => ⟨⟨xu, uu⟩, rfl, fun _ _ _ => rfl, hF, hw⟩)
     ·obtain ⟨xu, uu⟩ := x
      show J _ _ _ _ _ ((17, .pointer (some ⟨rb, 0, none⟩)) :: _) _
      refine J.pr (fun hF => ?_); refine J.nilCheck rfl rfl ?_
      exact J.finX rfl (fun _ hw => ⟨⟨xu, uu⟩, rfl, fun _ _ _ => rfl, hF, hw⟩)
     ·obtain ⟨xu, uu⟩ := x
      show J _ _ _ _ _ ((18, .pointer (some ⟨rb, 0, none⟩)) :: _) _
      refine J.pr (fun hF => ?_); refine J.fieldAddr Ty.fd74_1 rfl rfl ?_
      exact J.finX rfl (fun _ hw => ⟨⟨xu, uu⟩, rfl, fun _ _ _ => rfl, hF, hw⟩)
     ·obtain ⟨xu, uu⟩ := x
      show J _ _ _ _ _ ((19, .pointer (some ⟨rb, 0 + 1, none⟩)) :: _) _
      refine J.pr (fun hF => ?_); refine J.load1 (v := (.slice (some ⟨qy, 0, none⟩) ys.length cy)) Ty.a44 rfl (fun w1 hw => by rw [cell_of (hw.own ((rb, cb [lv, (.slice (some ⟨qy, 0, none⟩) ys.length cy), .int .i64 inc] 74)) zm)]; rfl) rfl ?_
      exact J.finX rfl (fun _ hw => ⟨⟨xu, uu⟩, rfl, fun _ _ _ => rfl, hF, hw⟩)
     ·obtain ⟨xu, uu⟩ := x
      show J _ _ _ _ _ (_) _
      refine J.pr (fun hF => ?_); refine J.move rfl rfl ?_
      exact J.finX rfl (fun _ hw => ⟨⟨xu, uu⟩, rfl, fun _ _ _ => rfl, hF, hw⟩)
     ·obtain ⟨xu, uu⟩ := x
      show J _ _ _ _ _ ((21, .int .i64 ((i : Nat) : Int)) :: (20, (.slice (some ⟨qy, 0, none⟩) ys.length cy)) :: _) _
      refine J.pr (fun hF => ?_); refine J.indexAddrS Ty.el44 Ty.s28 rfl rfl (by omega) (by omega) rfl ?_
      exact J.finX rfl (fun _ hw => ⟨⟨xu, uu⟩, rfl, fun _ _ _ => rfl, hF, hw⟩)
     ·obtain ⟨xu, uu⟩ := x
      show J _ _ _ _ _ ((22, .pointer (some ⟨qy, 0 + ((i : Nat) : Int).toNat * 34, none⟩)) :: _) _
      refine J.pr (fun hF => ?_); refine J.fieldAddr Ty.fd28_0 rfl rfl ?_
      exact J.finX rfl (fun _ hw => ⟨⟨xu, uu⟩, rfl, fun _ _ _ => rfl, hF, hw⟩)
     ·obtain ⟨xu, uu⟩ := x
      show J _ _ _ _ _ ((23, .pointer (some ⟨qy, 0 + ((i : Nat) : Int).toNat * 34 + 0, none⟩)) :: _) _
      refine J.pr (fun hF => ?_); refine J.loadA (vs := cI ky) Ty.a23 Ty.s23 rfl rfl (fun w1 hw => itemF_at (r := 0) (vec_rowM hv hw zq) hyg rfl (by simp)) rfl ?_
      exact J.finX rfl (fun _ hw => ⟨⟨xu, uu⟩, rfl, fun _ _ _ => rfl, hF, hw⟩)
     ·obtain ⟨xu, uu⟩ := x
      show J _ _ _ _ _ (_) _
      refine J.pr (fun hF => ?_); refine J.fieldAddr Ty.fd28_0 rfl rfl ?_
      exact J.finX rfl (fun _ hw => ⟨⟨xu, uu⟩, rfl, fun _ _ _ => rfl, hF, hw⟩)
     ·obtain ⟨xu, uu⟩ := x
      show J _ _ _ _ _ ((25, .pointer (some ⟨b3, 0 + 0, none⟩)) :: _) _
      refine J.pr (fun hF => ?_); refine J.loadA (vs := cI key) Ty.a23 Ty.s23 rfl rfl (fun w1 hw => Cells.of_block (hw.own ((b3, cb (cT key ver (.slice a k c)) 28)) zm) rfl) rfl ?_
      exact J.finX rfl (fun _ hw => ⟨⟨xu, uu⟩, rfl, fun _ _ _ => rfl, hF, hw⟩)
     ·obtain ⟨xu, uu⟩ := x
      show J _ _ _ _ _ ((26, .agg (cI key).toArray) :: (24, .agg (cI ky).toArray) :: _) _
      refine J.pr (fun hF => ?_); refine J.eqI Ty.QI Ty.keyI rfl rfl rfl ?_; refine J.name 27 rfl (show _ = Value.bool true by simp [hke]) ?_
      exact J.finX rfl (fun _ hw => ⟨⟨xu, uu⟩, rfl, fun _ _ _ => rfl, hF, hw⟩)
    case htail =>
     intro x
     obtain ⟨xu, uu⟩ := x
     show J _ _ _ _ _ ((27, .bool true) :: (26, .agg (cI key).toArray) :: (25, .pointer (some ⟨b3, 0 + 0, none⟩)) :: (24, .agg (cI ky).toArray) :: (23, .pointer (some ⟨qy, 0 + ((i : Nat) : Int).toNat * 34 + 0, none⟩)) :: (22, .pointer (some ⟨qy, 0 + ((i : Nat) : Int).toNat * 34, none⟩)) :: (21, .int .i64 ((i : Nat) : Int)) :: (20, (.slice (some ⟨qy, 0, none⟩) ys.length cy)) :: (19, .pointer (some ⟨rb, 0 + 1, none⟩)) :: (18, .pointer (some ⟨rb, 0, none⟩)) :: (17, .pointer (some ⟨rb, 0, none⟩)) :: _) (fun w1 => (True) ∧ St w S0 ((b3, cb (cT key ver (.slice a k c)) 28) :: (rb, cb [lv, (.slice (some ⟨qy, 0, none⟩) ys.length cy), .int .i64 inc] 74) :: ([(qy, cb (ys.flatMap cH ++ sy) 28)] ++ (l5 ++ l6))) w1)
     refine J.pr (fun hF => ?_); refine J.nil ?_; refine JX.thenN (hK7 _ _ ?_)
     first | refine JC.condT rfl ?_ | refine JC.cond rfl (fun _ => ?_) (fun h => by first | (exfalso; simp at h; omega) | (simp at h))
     refine JC.seq (fun K8 hK8 => ?_)
     apply JC.drawX (α := Nat × Unit) 12 (fun x => match x with | ⟨xu, uu⟩ => [.pointer (some ⟨b3, 0 + 16, none⟩), .agg (cV ver).toArray, .pointer (some ⟨rb, 0, none⟩), .pointer (some ⟨rb, 0, none⟩), .pointer (some ⟨rb, 0 + 1, none⟩), (.slice (some ⟨qy, 0, none⟩) ys.length cy), .int .i64 ((i : Nat) : Int), .pointer (some ⟨qy, 0 + ((i : Nat) : Int).toNat * 34, none⟩), .pointer (some ⟨qy, 0 + ((i : Nat) : Int).toNat * 34 + 16, none⟩), .agg (cV vy).toArray, .bool false, .bool true]) (fun m x => match x with | ⟨xu, uu⟩ => fun w1 => (True) ∧ St w S0 ((b3, cb (cT key ver (.slice a k c)) 28) :: (rb, cb [lv, (.slice (some ⟨qy, 0, none⟩) ys.length cy), .int .i64 inc] 74) :: ([(qy, cb (ys.flatMap cH ++ sy) 28)] ++ (l5 ++ l6))) w1) Ty.mixed rfl rfl rfl (by kernel_rfl) rfl rfl ?hinit ?hstep ?htail
     case hinit => exact fun w1 hw => ⟨(0, ()), trivial, hw.drew⟩
     case hstep =>
      refine ⟨fun m x hm hp => ?_, fun m x hm hp => ?_, fun m x hm hp => ?_, fun m x hm hp => ?_, fun m x hm hp => ?_, fun m x hm hp => ?_, fun m x hm hp => ?_, fun m x hm hp => ?_, fun m x hm hp => ?_, fun m x hm hp => ?_, fun m x hm hp => ?_, fun m x hm hp => ?_, trivial⟩
      ·obtain ⟨xu, uu⟩ := x
       show J _ _ _ _ _ (_) _
       refine J.pr (fun hF => ?_); refine J.fieldAddr Ty.fd28_1 rfl rfl ?_
       exact J.finX rfl (fun _ hw => ⟨⟨xu, uu⟩, rfl, fun _ _ _ => rfl, hF, hw⟩)
      ·obtain ⟨xu, uu⟩ := x
       show J _ _ _ _ _ ((28, .pointer (some ⟨b3, 0 + 16, none⟩)) :: _) _
       refine J.pr (fun hF => ?_); refine J.loadA (vs := cV ver) Ty.a25 Ty.s25 rfl rfl (fun w1 hw => Cells.of_block (hw.own ((b3, cb (cT key ver (.slice a k c)) 28)) zm) rfl) rfl ?_
       exact J.finX rfl (fun _ hw => ⟨⟨xu, uu⟩, rfl, fun _ _ _ => rfl, hF, hw⟩)
      ·obtain ⟨xu, uu⟩ := x
       show J _ _ _ _ _ (_) _
       refine J.pr (fun hF => ?_); refine J.move rfl rfl ?_
       exact J.finX rfl (fun _ hw => ⟨⟨xu, uu⟩, rfl, fun _ _ _ => rfl, hF, hw⟩)
      ·obtain ⟨xu, uu⟩ := x
       show J _ _ _ _ _ ((30, .pointer (some ⟨rb, 0, none⟩)) :: _) _
       refine J.pr (fun hF => ?_); refine J.nilCheck rfl rfl ?_
       exact J.finX rfl (fun _ hw => ⟨⟨xu, uu⟩, rfl, fun _ _ _ => rfl, hF, hw⟩)
      ·obtain ⟨xu, uu⟩ := x
       show J _ _ _ _ _ ((31, .pointer (some ⟨rb, 0, none⟩)) :: _) _
       refine J.pr (fun hF => ?_); refine J.fieldAddr Ty.fd74_1 rfl rfl ?_
       exact J.finX rfl (fun _ hw => ⟨⟨xu, uu⟩, rfl, fun _ _ _ => rfl, hF, hw⟩)
      ·obtain ⟨xu, uu⟩ := x
       show J _ _ _ _ _ ((32, .pointer (some ⟨rb, 0 + 1, none⟩)) :: _) _
       refine J.pr (fun hF => ?_); refine J.load1 (v := (.slice (some ⟨qy, 0, none⟩) ys.length cy)) Ty.a44 rfl (fun w1 hw => by rw [cell_of (hw.own ((rb, cb [lv, (.slice (some ⟨qy, 0, none⟩) ys.length cy), .int .i64 inc] 74)) zm)]; rfl) rfl ?_
       exact J.finX rfl (fun _ hw => ⟨⟨xu, uu⟩, rfl, fun _ _ _ => rfl, hF, hw⟩)
      ·obtain ⟨xu, uu⟩ := x
       show J _ _ _ _ _ (_) _
       refine J.pr (fun hF => ?_); refine J.move rfl rfl ?_
       exact J.finX rfl (fun _ hw => ⟨⟨xu, uu⟩, rfl, fun _ _ _ => rfl, hF, hw⟩)
      ·obtain ⟨xu, uu⟩ := x
       show J _ _ _ _ _ ((34, .int .i64 ((i : Nat) : Int)) :: (33, (.slice (some ⟨qy, 0, none⟩) ys.length cy)) :: _) _
       refine J.pr (fun hF => ?_); refine J.indexAddrS Ty.el44 Ty.s28 rfl rfl (by omega) (by omega) rfl ?_
       exact J.finX rfl (fun _ hw => ⟨⟨xu, uu⟩, rfl, fun _ _ _ => rfl, hF, hw⟩)
      ·obtain ⟨xu, uu⟩ := x
       show J _ _ _ _ _ ((35, .pointer (some ⟨qy, 0 + ((i : Nat) : Int).toNat * 34, none⟩)) :: _) _
       refine J.pr (fun hF => ?_); refine J.fieldAddr Ty.fd28_1 rfl rfl ?_
       exact J.finX rfl (fun _ hw => ⟨⟨xu, uu⟩, rfl, fun _ _ _ => rfl, hF, hw⟩)
      ·obtain ⟨xu, uu⟩ := x
       show J _ _ _ _ _ ((36, .pointer (some ⟨qy, 0 + ((i : Nat) : Int).toNat * 34 + 16, none⟩)) :: _) _
       refine J.pr (fun hF => ?_); refine J.loadA (vs := cV vy) Ty.a25 Ty.s25 rfl rfl (fun w1 hw => itemF_at (r := 16) (vec_rowM hv hw zq) hyg rfl (by simp)) rfl ?_
       exact J.finX rfl (fun _ hw => ⟨⟨xu, uu⟩, rfl, fun _ _ _ => rfl, hF, hw⟩)
      ·obtain ⟨xu, uu⟩ := x
       show J _ _ _ _ _ ((37, .agg (cV vy).toArray) :: (29, .agg (cV ver).toArray) :: _) _
       refine J.pr (fun hF => ?_); refine J.callB (v := .bool false) (fun w1 w2 hw hb => hw.step hb) Ty.bd14 rfl rfl (fun w1 hw => by have h9 := rnewer_spec ver vy w1; rw [hnv] at h9; exact h9) ?_
       exact J.finX rfl (fun _ hw => ⟨⟨xu, uu⟩, rfl, fun _ _ _ => rfl, hF, hw⟩)
      ·obtain ⟨xu, uu⟩ := x
       show J _ _ _ _ _ ((38, .bool false) :: _) _
       refine J.pr (fun hF => ?_); refine J.not rfl rfl ?_
       exact J.finX rfl (fun _ hw => ⟨⟨xu, uu⟩, rfl, fun _ _ _ => rfl, hF, hw⟩)
     case htail =>
      intro x
      obtain ⟨xu, uu⟩ := x
      show J _ _ _ _ _ ((39, .bool true) :: (38, .bool false) :: (37, .agg (cV vy).toArray) :: (36, .pointer (some ⟨qy, 0 + ((i : Nat) : Int).toNat * 34 + 16, none⟩)) :: (35, .pointer (some ⟨qy, 0 + ((i : Nat) : Int).toNat * 34, none⟩)) :: (34, .int .i64 ((i : Nat) : Int)) :: (33, (.slice (some ⟨qy, 0, none⟩) ys.length cy)) :: (32, .pointer (some ⟨rb, 0 + 1, none⟩)) :: (31, .pointer (some ⟨rb, 0, none⟩)) :: (30, .pointer (some ⟨rb, 0, none⟩)) :: (29, .agg (cV ver).toArray) :: (28, .pointer (some ⟨b3, 0 + 16, none⟩)) :: _) (fun w1 => (True) ∧ St w S0 ((b3, cb (cT key ver (.slice a k c)) 28) :: (rb, cb [lv, (.slice (some ⟨qy, 0, none⟩) ys.length cy), .int .i64 inc] 74) :: ([(qy, cb (ys.flatMap cH ++ sy) 28)] ++ (l5 ++ l6))) w1)
      refine J.pr (fun hF => ?_); refine J.nil ?_; refine JX.thenN (hK8 _ _ ?_)
      first | refine JC.condT rfl ?_ | refine JC.cond rfl (fun _ => ?_) (fun h => by first | (exfalso; simp at h; omega) | (simp at h))
      refine JC.seq (fun K9 hK9 => ?_); refine JC.region ?_; refine J.assign rfl rfl ?_; refine J.nil ?_; refine JX.thenN (hK9 _ _ ?_); refine JC.ret ?_; refine JX.blockR ?_; refine JX.thenR ?_; refine JX.thenR ?_; refine JX.blockR ?_; refine JX.thenR ?_; refine JX.ret1 rfl rfl (fun w1 hw => ?_)
      exact .inl ⟨rfl, ⟨_, List.mem_of_getElem? hyg, hke, hnv⟩, (hw.perm (zp : List.Perm _ (((b3, cb (cT key ver (.slice a k c)) 28) :: (l5 ++ l6)) ++ ((rb, cb [lv, (.slice (some ⟨qy, 0, none⟩) ys.length cy), .int .i64 inc] 74) :: [(qy, cb (ys.flatMap cH ++ sy) 28)])))).drop (List.sublist_append_right _ _)⟩
   | true =>
    have hnw2 : ∀ y, y ∈ ys.take (i + 1) → y.key = key → newB ver y.ver = true := fun y hy hk => by
     rw [List.take_add_one, hyg] at hy
     rcases List.mem_append.1 hy with hy | hy
     ·exact hnw y hy hk
     ·rw [List.mem_singleton.1 hy] at hk ⊢; exact hnv
    apply JC.drawX (α := Nat × Unit) 11 (fun x => match x with | ⟨xu, uu⟩ => [.pointer (some ⟨rb, 0, none⟩), .pointer (some ⟨rb, 0, none⟩), .pointer (some ⟨rb, 0 + 1, none⟩), (.slice (some ⟨qy, 0, none⟩) ys.length cy), .int .i64 ((i : Nat) : Int), .pointer (some ⟨qy, 0 + ((i : Nat) : Int).toNat * 34, none⟩), .pointer (some ⟨qy, 0 + ((i : Nat) : Int).toNat * 34 + 0, none⟩), .agg (cI ky).toArray, .pointer (some ⟨b3, 0 + 0, none⟩), .agg (cI key).toArray, .bool true]) (fun m x => match x with | ⟨xu, uu⟩ => fun w1 => (True) ∧ St w S0 ((b3, cb (cT key ver (.slice a k c)) 28) :: (rb, cb [lv, (.slice (some ⟨qy, 0, none⟩) ys.length cy), .int .i64 inc] 74) :: ([(qy, cb (ys.flatMap cH ++ sy) 28)] ++ (l5 ++ l6))) w1) Ty.mixed rfl rfl rfl (by kernel_rfl) rfl rfl ?hinit ?hstep ?htail
    case hinit => exact fun w1 hw => ⟨(0, ()), trivial, hw.drew⟩
    case hstep =>
     refine ⟨fun m x hm hp => ?_, fun m x hm hp => ?_, fun m x hm hp => ?_, fun m x hm hp => ?_, fun m x hm hp => ?_, fun m x hm hp => ?_, fun m x hm hp => ?_, fun m x hm hp => ?_, fun m x hm hp => ?_, fun m x hm hp => ?_, fun m x hm hp => ?_, trivial⟩
     ·obtain ⟨xu, uu⟩ := x
      show J _ _ _ _ _ (_) _
      refine J.pr (fun hF => ?_); refine J.move rfl rfl ?_
      exact J.finX rfl (fun _ hw => ⟨⟨xu, uu⟩, rfl, fun _ _ _ => rfl, hF, hw⟩)
     ·obtain ⟨xu, uu⟩ := x
      show J _ _ _ _ _ ((17, .pointer (some ⟨rb, 0, none⟩)) :: _) _
      refine J.pr (fun hF => ?_); refine J.nilCheck rfl rfl ?_
      exact J.finX rfl (fun _ hw => ⟨⟨xu, uu⟩, rfl, fun _ _ _ => rfl, hF, hw⟩)
     ·obtain ⟨xu, uu⟩ := x
      show J _ _ _ _ _ ((18, .pointer (some ⟨rb, 0, none⟩)) :: _) _
      refine J.pr (fun hF => ?_); refine J.fieldAddr Ty.fd74_1 rfl rfl ?_
      exact J.finX rfl (fun _ hw => ⟨⟨xu, uu⟩, rfl, fun _ _ _ => rfl, hF, hw⟩)
     ·obtain ⟨xu, uu⟩ := x
      show J _ _ _ _ _ ((19, .pointer (some ⟨rb, 0 + 1, none⟩)) :: _) _
      refine J.pr (fun hF => ?_); refine J.load1 (v := (.slice (some ⟨qy, 0, none⟩) ys.length cy)) Ty.a44 rfl (fun w1 hw => by rw [cell_of (hw.own ((rb, cb [lv, (.slice (some ⟨qy, 0, none⟩) ys.length cy), .int .i64 inc] 74)) zm)]; rfl) rfl ?_
      exact J.finX rfl (fun _ hw => ⟨⟨xu, uu⟩, rfl, fun _ _ _ => rfl, hF, hw⟩)
     ·obtain ⟨xu, uu⟩ := x
      show J _ _ _ _ _ (_) _
      refine J.pr (fun hF => ?_); refine J.move rfl rfl ?_
      exact J.finX rfl (fun _ hw => ⟨⟨xu, uu⟩, rfl, fun _ _ _ => rfl, hF, hw⟩)
     ·obtain ⟨xu, uu⟩ := x
      show J _ _ _ _ _ ((21, .int .i64 ((i : Nat) : Int)) :: (20, (.slice (some ⟨qy, 0, none⟩) ys.length cy)) :: _) _
      refine J.pr (fun hF => ?_); refine J.indexAddrS Ty.el44 Ty.s28 rfl rfl (by omega) (by omega) rfl ?_
      exact J.finX rfl (fun _ hw => ⟨⟨xu, uu⟩, rfl, fun _ _ _ => rfl, hF, hw⟩)
     ·obtain ⟨xu, uu⟩ := x
      show J _ _ _ _ _ ((22, .pointer (some ⟨qy, 0 + ((i : Nat) : Int).toNat * 34, none⟩)) :: _) _
      refine J.pr (fun hF => ?_); refine J.fieldAddr Ty.fd28_0 rfl rfl ?_
      exact J.finX rfl (fun _ hw => ⟨⟨xu, uu⟩, rfl, fun _ _ _ => rfl, hF, hw⟩)
     ·obtain ⟨xu, uu⟩ := x
      show J _ _ _ _ _ ((23, .pointer (some ⟨qy, 0 + ((i : Nat) : Int).toNat * 34 + 0, none⟩)) :: _) _
      refine J.pr (fun hF => ?_); refine J.loadA (vs := cI ky) Ty.a23 Ty.s23 rfl rfl (fun w1 hw => itemF_at (r := 0) (vec_rowM hv hw zq) hyg rfl (by simp)) rfl ?_
      exact J.finX rfl (fun _ hw => ⟨⟨xu, uu⟩, rfl, fun _ _ _ => rfl, hF, hw⟩)
     ·obtain ⟨xu, uu⟩ := x
      show J _ _ _ _ _ (_) _
      refine J.pr (fun hF => ?_); refine J.fieldAddr Ty.fd28_0 rfl rfl ?_
      exact J.finX rfl (fun _ hw => ⟨⟨xu, uu⟩, rfl, fun _ _ _ => rfl, hF, hw⟩)
     ·obtain ⟨xu, uu⟩ := x
      show J _ _ _ _ _ ((25, .pointer (some ⟨b3, 0 + 0, none⟩)) :: _) _
      refine J.pr (fun hF => ?_); refine J.loadA (vs := cI key) Ty.a23 Ty.s23 rfl rfl (fun w1 hw => Cells.of_block (hw.own ((b3, cb (cT key ver (.slice a k c)) 28)) zm) rfl) rfl ?_
      exact J.finX rfl (fun _ hw => ⟨⟨xu, uu⟩, rfl, fun _ _ _ => rfl, hF, hw⟩)
     ·obtain ⟨xu, uu⟩ := x
      show J _ _ _ _ _ ((26, .agg (cI key).toArray) :: (24, .agg (cI ky).toArray) :: _) _
      refine J.pr (fun hF => ?_); refine J.eqI Ty.QI Ty.keyI rfl rfl rfl ?_; refine J.name 27 rfl (show _ = Value.bool true by simp [hke]) ?_
      exact J.finX rfl (fun _ hw => ⟨⟨xu, uu⟩, rfl, fun _ _ _ => rfl, hF, hw⟩)
    case htail =>
     intro x
     obtain ⟨xu, uu⟩ := x
     show J _ _ _ _ _ ((27, .bool true) :: (26, .agg (cI key).toArray) :: (25, .pointer (some ⟨b3, 0 + 0, none⟩)) :: (24, .agg (cI ky).toArray) :: (23, .pointer (some ⟨qy, 0 + ((i : Nat) : Int).toNat * 34 + 0, none⟩)) :: (22, .pointer (some ⟨qy, 0 + ((i : Nat) : Int).toNat * 34, none⟩)) :: (21, .int .i64 ((i : Nat) : Int)) :: (20, (.slice (some ⟨qy, 0, none⟩) ys.length cy)) :: (19, .pointer (some ⟨rb, 0 + 1, none⟩)) :: (18, .pointer (some ⟨rb, 0, none⟩)) :: (17, .pointer (some ⟨rb, 0, none⟩)) :: _) (fun w1 => (True) ∧ St w S0 ((b3, cb (cT key ver (.slice a k c)) 28) :: (rb, cb [lv, (.slice (some ⟨qy, 0, none⟩) ys.length cy), .int .i64 inc] 74) :: ([(qy, cb (ys.flatMap cH ++ sy) 28)] ++ (l5 ++ l6))) w1)
     refine J.pr (fun hF => ?_); refine J.nil ?_; refine JX.thenN (hK7 _ _ ?_)
     first | refine JC.condT rfl ?_ | refine JC.cond rfl (fun _ => ?_) (fun h => by first | (exfalso; simp at h; omega) | (simp at h))
     refine JC.seq (fun K10 hK10 => ?_)
     apply JC.drawX (α := Nat × Unit) 12 (fun x => match x with | ⟨xu, uu⟩ => [.pointer (some ⟨b3, 0 + 16, none⟩), .agg (cV ver).toArray, .pointer (some ⟨rb, 0, none⟩), .pointer (some ⟨rb, 0, none⟩), .pointer (some ⟨rb, 0 + 1, none⟩), (.slice (some ⟨qy, 0, none⟩) ys.length cy), .int .i64 ((i : Nat) : Int), .pointer (some ⟨qy, 0 + ((i : Nat) : Int).toNat * 34, none⟩), .pointer (some ⟨qy, 0 + ((i : Nat) : Int).toNat * 34 + 16, none⟩), .agg (cV vy).toArray, .bool true, .bool false]) (fun m x => match x with | ⟨xu, uu⟩ => fun w1 => (True) ∧ St w S0 ((b3, cb (cT key ver (.slice a k c)) 28) :: (rb, cb [lv, (.slice (some ⟨qy, 0, none⟩) ys.length cy), .int .i64 inc] 74) :: ([(qy, cb (ys.flatMap cH ++ sy) 28)] ++ (l5 ++ l6))) w1) Ty.mixed rfl rfl rfl (by kernel_rfl) rfl rfl ?hinit ?hstep ?htail
     case hinit => exact fun w1 hw => ⟨(0, ()), trivial, hw.drew⟩
     case hstep =>
      refine ⟨fun m x hm hp => ?_, fun m x hm hp => ?_, fun m x hm hp => ?_, fun m x hm hp => ?_, fun m x hm hp => ?_, fun m x hm hp => ?_, fun m x hm hp => ?_, fun m x hm hp => ?_, fun m x hm hp => ?_, fun m x hm hp => ?_, fun m x hm hp => ?_, fun m x hm hp => ?_, trivial⟩
      ·obtain ⟨xu, uu⟩ := x
       show J _ _ _ _ _ (_) _
       refine J.pr (fun hF => ?_); refine J.fieldAddr Ty.fd28_1 rfl rfl ?_
       exact J.finX rfl (fun _ hw => ⟨⟨xu, uu⟩, rfl, fun _ _ _ => rfl, hF, hw⟩)
      ·obtain ⟨xu, uu⟩ := x
       show J _ _ _ _ _ ((28, .pointer (some ⟨b3, 0 + 16, none⟩)) :: _) _
       refine J.pr (fun hF => ?_); refine J.loadA (vs := cV ver) Ty.a25 Ty.s25 rfl rfl (fun w1 hw => Cells.of_block (hw.own ((b3, cb (cT key ver (.slice a k c)) 28)) zm) rfl) rfl ?_
       exact J.finX rfl (fun _ hw => ⟨⟨xu, uu⟩, rfl, fun _ _ _ => rfl, hF, hw⟩)
      ·obtain ⟨xu, uu⟩ := x
       show J _ _ _ _ _ (_) _
       refine J.pr (fun hF => ?_); refine J.move rfl rfl ?_
       exact J.finX rfl (fun _ hw => ⟨⟨xu, uu⟩, rfl, fun _ _ _ => rfl, hF, hw⟩)
      ·obtain ⟨xu, uu⟩ := x
       show J _ _ _ _ _ ((30, .pointer (some ⟨rb, 0, none⟩)) :: _) _
       refine J.pr (fun hF => ?_); refine J.nilCheck rfl rfl ?_
       exact J.finX rfl (fun _ hw => ⟨⟨xu, uu⟩, rfl, fun _ _ _ => rfl, hF, hw⟩)
      ·obtain ⟨xu, uu⟩ := x
       show J _ _ _ _ _ ((31, .pointer (some ⟨rb, 0, none⟩)) :: _) _
       refine J.pr (fun hF => ?_); refine J.fieldAddr Ty.fd74_1 rfl rfl ?_
       exact J.finX rfl (fun _ hw => ⟨⟨xu, uu⟩, rfl, fun _ _ _ => rfl, hF, hw⟩)
      ·obtain ⟨xu, uu⟩ := x
       show J _ _ _ _ _ ((32, .pointer (some ⟨rb, 0 + 1, none⟩)) :: _) _
       refine J.pr (fun hF => ?_); refine J.load1 (v := (.slice (some ⟨qy, 0, none⟩) ys.length cy)) Ty.a44 rfl (fun w1 hw => by rw [cell_of (hw.own ((rb, cb [lv, (.slice (some ⟨qy, 0, none⟩) ys.length cy), .int .i64 inc] 74)) zm)]; rfl) rfl ?_
       exact J.finX rfl (fun _ hw => ⟨⟨xu, uu⟩, rfl, fun _ _ _ => rfl, hF, hw⟩)
      ·obtain ⟨xu, uu⟩ := x
       show J _ _ _ _ _ (_) _
       refine J.pr (fun hF => ?_); refine J.move rfl rfl ?_
       exact J.finX rfl (fun _ hw => ⟨⟨xu, uu⟩, rfl, fun _ _ _ => rfl, hF, hw⟩)
      ·obtain ⟨xu, uu⟩ := x
       show J _ _ _ _ _ ((34, .int .i64 ((i : Nat) : Int)) :: (33, (.slice (some ⟨qy, 0, none⟩) ys.length cy)) :: _) _
       refine J.pr (fun hF => ?_); refine J.indexAddrS Ty.el44 Ty.s28 rfl rfl (by omega) (by omega) rfl ?_
       exact J.finX rfl (fun _ hw => ⟨⟨xu, uu⟩, rfl, fun _ _ _ => rfl, hF, hw⟩)
      ·obtain ⟨xu, uu⟩ := x
       show J _ _ _ _ _ ((35, .pointer (some ⟨qy, 0 + ((i : Nat) : Int).toNat * 34, none⟩)) :: _) _
       refine J.pr (fun hF => ?_); refine J.fieldAddr Ty.fd28_1 rfl rfl ?_
       exact J.finX rfl (fun _ hw => ⟨⟨xu, uu⟩, rfl, fun _ _ _ => rfl, hF, hw⟩)
      ·obtain ⟨xu, uu⟩ := x
       show J _ _ _ _ _ ((36, .pointer (some ⟨qy, 0 + ((i : Nat) : Int).toNat * 34 + 16, none⟩)) :: _) _
       refine J.pr (fun hF => ?_); refine J.loadA (vs := cV vy) Ty.a25 Ty.s25 rfl rfl (fun w1 hw => itemF_at (r := 16) (vec_rowM hv hw zq) hyg rfl (by simp)) rfl ?_
       exact J.finX rfl (fun _ hw => ⟨⟨xu, uu⟩, rfl, fun _ _ _ => rfl, hF, hw⟩)
      ·obtain ⟨xu, uu⟩ := x
       show J _ _ _ _ _ ((37, .agg (cV vy).toArray) :: (29, .agg (cV ver).toArray) :: _) _
       refine J.pr (fun hF => ?_); refine J.callB (v := .bool true) (fun w1 w2 hw hb => hw.step hb) Ty.bd14 rfl rfl (fun w1 hw => by have h9 := rnewer_spec ver vy w1; rw [hnv] at h9; exact h9) ?_
       exact J.finX rfl (fun _ hw => ⟨⟨xu, uu⟩, rfl, fun _ _ _ => rfl, hF, hw⟩)
      ·obtain ⟨xu, uu⟩ := x
       show J _ _ _ _ _ ((38, .bool true) :: _) _
       refine J.pr (fun hF => ?_); refine J.not rfl rfl ?_
       exact J.finX rfl (fun _ hw => ⟨⟨xu, uu⟩, rfl, fun _ _ _ => rfl, hF, hw⟩)
     case htail =>
      intro x
      obtain ⟨xu, uu⟩ := x
      show J _ _ _ _ _ ((39, .bool false) :: (38, .bool true) :: (37, .agg (cV vy).toArray) :: (36, .pointer (some ⟨qy, 0 + ((i : Nat) : Int).toNat * 34 + 16, none⟩)) :: (35, .pointer (some ⟨qy, 0 + ((i : Nat) : Int).toNat * 34, none⟩)) :: (34, .int .i64 ((i : Nat) : Int)) :: (33, (.slice (some ⟨qy, 0, none⟩) ys.length cy)) :: (32, .pointer (some ⟨rb, 0 + 1, none⟩)) :: (31, .pointer (some ⟨rb, 0, none⟩)) :: (30, .pointer (some ⟨rb, 0, none⟩)) :: (29, .agg (cV ver).toArray) :: (28, .pointer (some ⟨b3, 0 + 16, none⟩)) :: _) (fun w1 => (True) ∧ St w S0 ((b3, cb (cT key ver (.slice a k c)) 28) :: (rb, cb [lv, (.slice (some ⟨qy, 0, none⟩) ys.length cy), .int .i64 inc] 74) :: ([(qy, cb (ys.flatMap cH ++ sy) 28)] ++ (l5 ++ l6))) w1)
      refine J.pr (fun hF => ?_); refine J.nil ?_; refine JX.thenN (hK10 _ _ ?_)
      first | refine JC.condF rfl ?_ | refine JC.cond rfl (fun h => by first | (exfalso; simp at h; omega) | (simp at h)) (fun _ => ?_)
      refine JC.skip ?_; refine JX.blockN ?_; refine JX.thenN (hK6 _ _ ?_); refine JC.region ?_; refine J.move rfl rfl ?_
      (first | refine J.addN rfl rfl (by omega) (by omega) rfl ?_ | refine J.bin rfl rfl rfl rfl ?_)
      refine J.assign rfl rfl ?_; refine J.nil ?_; refine JX.thenN ?_; refine JX.again (⟨i + 1, v5, l5, v6, l6⟩ : TkS) ?_ ?_ ?_
      ·simp only; omega
      ·exact ⟨rfl, rfl, rfl, rfl, rfl, trivial⟩
      ·exact fun w1 hw => ⟨⟨hlt, hnw2, by simp only; rw [take_filter hyg, if_neg (by simp [hke]), List.append_nil]; exact hv5, by simp only; rw [take_filter hyg, if_neg (by simp [hke]), List.append_nil]; exact hv6⟩, hw⟩
  ·have hnw2 : ∀ y, y ∈ ys.take (i + 1) → y.key = key → newB ver y.ver = true := fun y hy hk => by
    rw [List.take_add_one, hyg] at hy
    rcases List.mem_append.1 hy with hy | hy
    ·exact hnw y hy hk
    ·rw [List.mem_singleton.1 hy] at hk ⊢; exact absurd hk hke
   have hvk : valI ky ≠ valI key := fun e => hke (valI_inj e)
   by_cases hlk : valI ky < valI key
   ·apply JC.drawX (α := Nat × Unit) 11 (fun x => match x with | ⟨xu, uu⟩ => [.pointer (some ⟨rb, 0, none⟩), .pointer (some ⟨rb, 0, none⟩), .pointer (some ⟨rb, 0 + 1, none⟩), (.slice (some ⟨qy, 0, none⟩) ys.length cy), .int .i64 ((i : Nat) : Int), .pointer (some ⟨qy, 0 + ((i : Nat) : Int).toNat * 34, none⟩), .pointer (some ⟨qy, 0 + ((i : Nat) : Int).toNat * 34 + 0, none⟩), .agg (cI ky).toArray, .pointer (some ⟨b3, 0 + 0, none⟩), .agg (cI key).toArray, .bool false]) (fun m x => match x with | ⟨xu, uu⟩ => fun w1 => (True) ∧ St w S0 ((b3, cb (cT key ver (.slice a k c)) 28) :: (rb, cb [lv, (.slice (some ⟨qy, 0, none⟩) ys.length cy), .int .i64 inc] 74) :: ([(qy, cb (ys.flatMap cH ++ sy) 28)] ++ (l5 ++ l6))) w1) Ty.mixed rfl rfl rfl (by kernel_rfl) rfl rfl ?hinit ?hstep ?htail
    case hinit => exact fun w1 hw => ⟨(0, ()), trivial, hw.drew⟩
    case hstep =>
     refine ⟨fun m x hm hp => ?_, fun m x hm hp => ?_, fun m x hm hp => ?_, fun m x hm hp => ?_, fun m x hm hp => ?_, fun m x hm hp => ?_, fun m x hm hp => ?_, fun m x hm hp => ?_, fun m x hm hp => ?_, fun m x hm hp => ?_, fun m x hm hp => ?_, trivial⟩
     ·obtain ⟨xu, uu⟩ := x
      show J _ _ _ _ _ (_) _
      refine J.pr (fun hF => ?_); refine J.move rfl rfl ?_
      exact J.finX rfl (fun _ hw => ⟨⟨xu, uu⟩, rfl, fun _ _ _ => rfl, hF, hw⟩)
     ·obtain ⟨xu, uu⟩ := x
      show J _ _ _ _ _ ((17, .pointer (some ⟨rb, 0, none⟩)) :: _) _
      refine J.pr (fun hF => ?_); refine J.nilCheck rfl rfl ?_
      exact J.finX rfl (fun _ hw => ⟨⟨xu, uu⟩, rfl, fun _ _ _ => rfl, hF, hw⟩)
     ·obtain ⟨xu, uu⟩ := x
      show J _ _ _ _ _ ((18, .pointer (some ⟨rb, 0, none⟩)) :: _) _
      refine J.pr (fun hF => ?_); refine J.fieldAddr Ty.fd74_1 rfl rfl ?_
      exact J.finX rfl (fun _ hw => ⟨⟨xu, uu⟩, rfl, fun _ _ _ => rfl, hF, hw⟩)
     ·obtain ⟨xu, uu⟩ := x
      show J _ _ _ _ _ ((19, .pointer (some ⟨rb, 0 + 1, none⟩)) :: _) _
      refine J.pr (fun hF => ?_); refine J.load1 (v := (.slice (some ⟨qy, 0, none⟩) ys.length cy)) Ty.a44 rfl (fun w1 hw => by rw [cell_of (hw.own ((rb, cb [lv, (.slice (some ⟨qy, 0, none⟩) ys.length cy), .int .i64 inc] 74)) zm)]; rfl) rfl ?_
      exact J.finX rfl (fun _ hw => ⟨⟨xu, uu⟩, rfl, fun _ _ _ => rfl, hF, hw⟩)
     ·obtain ⟨xu, uu⟩ := x
      show J _ _ _ _ _ (_) _
      refine J.pr (fun hF => ?_); refine J.move rfl rfl ?_
      exact J.finX rfl (fun _ hw => ⟨⟨xu, uu⟩, rfl, fun _ _ _ => rfl, hF, hw⟩)
     ·obtain ⟨xu, uu⟩ := x
      show J _ _ _ _ _ ((21, .int .i64 ((i : Nat) : Int)) :: (20, (.slice (some ⟨qy, 0, none⟩) ys.length cy)) :: _) _
      refine J.pr (fun hF => ?_); refine J.indexAddrS Ty.el44 Ty.s28 rfl rfl (by omega) (by omega) rfl ?_
      exact J.finX rfl (fun _ hw => ⟨⟨xu, uu⟩, rfl, fun _ _ _ => rfl, hF, hw⟩)
     ·obtain ⟨xu, uu⟩ := x
      show J _ _ _ _ _ ((22, .pointer (some ⟨qy, 0 + ((i : Nat) : Int).toNat * 34, none⟩)) :: _) _
      refine J.pr (fun hF => ?_); refine J.fieldAddr Ty.fd28_0 rfl rfl ?_
      exact J.finX rfl (fun _ hw => ⟨⟨xu, uu⟩, rfl, fun _ _ _ => rfl, hF, hw⟩)
     ·obtain ⟨xu, uu⟩ := x
      show J _ _ _ _ _ ((23, .pointer (some ⟨qy, 0 + ((i : Nat) : Int).toNat * 34 + 0, none⟩)) :: _) _
      refine J.pr (fun hF => ?_); refine J.loadA (vs := cI ky) Ty.a23 Ty.s23 rfl rfl (fun w1 hw => itemF_at (r := 0) (vec_rowM hv hw zq) hyg rfl (by simp)) rfl ?_
      exact J.finX rfl (fun _ hw => ⟨⟨xu, uu⟩, rfl, fun _ _ _ => rfl, hF, hw⟩)
     ·obtain ⟨xu, uu⟩ := x
      show J _ _ _ _ _ (_) _
      refine J.pr (fun hF => ?_); refine J.fieldAddr Ty.fd28_0 rfl rfl ?_
      exact J.finX rfl (fun _ hw => ⟨⟨xu, uu⟩, rfl, fun _ _ _ => rfl, hF, hw⟩)
     ·obtain ⟨xu, uu⟩ := x
      show J _ _ _ _ _ ((25, .pointer (some ⟨b3, 0 + 0, none⟩)) :: _) _
      refine J.pr (fun hF => ?_); refine J.loadA (vs := cI key) Ty.a23 Ty.s23 rfl rfl (fun w1 hw => Cells.of_block (hw.own ((b3, cb (cT key ver (.slice a k c)) 28)) zm) rfl) rfl ?_
      exact J.finX rfl (fun _ hw => ⟨⟨xu, uu⟩, rfl, fun _ _ _ => rfl, hF, hw⟩)
     ·obtain ⟨xu, uu⟩ := x
      show J _ _ _ _ _ ((26, .agg (cI key).toArray) :: (24, .agg (cI ky).toArray) :: _) _
      refine J.pr (fun hF => ?_); refine J.eqI Ty.QI Ty.keyI rfl rfl rfl ?_; refine J.name 27 rfl (show _ = Value.bool false by simp [hke]) ?_
      exact J.finX rfl (fun _ hw => ⟨⟨xu, uu⟩, rfl, fun _ _ _ => rfl, hF, hw⟩)
    case htail =>
     intro x
     obtain ⟨xu, uu⟩ := x
     show J _ _ _ _ _ ((27, .bool false) :: (26, .agg (cI key).toArray) :: (25, .pointer (some ⟨b3, 0 + 0, none⟩)) :: (24, .agg (cI ky).toArray) :: (23, .pointer (some ⟨qy, 0 + ((i : Nat) : Int).toNat * 34 + 0, none⟩)) :: (22, .pointer (some ⟨qy, 0 + ((i : Nat) : Int).toNat * 34, none⟩)) :: (21, .int .i64 ((i : Nat) : Int)) :: (20, (.slice (some ⟨qy, 0, none⟩) ys.length cy)) :: (19, .pointer (some ⟨rb, 0 + 1, none⟩)) :: (18, .pointer (some ⟨rb, 0, none⟩)) :: (17, .pointer (some ⟨rb, 0, none⟩)) :: _) (fun w1 => (True) ∧ St w S0 ((b3, cb (cT key ver (.slice a k c)) 28) :: (rb, cb [lv, (.slice (some ⟨qy, 0, none⟩) ys.length cy), .int .i64 inc] 74) :: ([(qy, cb (ys.flatMap cH ++ sy) 28)] ++ (l5 ++ l6))) w1)
     refine J.pr (fun hF => ?_); refine J.nil ?_; refine JX.thenN (hK7 _ _ ?_)
     first | refine JC.condF rfl ?_ | refine JC.cond rfl (fun h => by first | (exfalso; simp at h; omega) | (simp at h)) (fun _ => ?_)
     refine JC.seq (fun K11 hK11 => ?_)
     apply JC.drawX (α := Nat × Unit) 11 (fun x => match x with | ⟨xu, uu⟩ => [.pointer (some ⟨rb, 0, none⟩), .pointer (some ⟨rb, 0, none⟩), .pointer (some ⟨rb, 0 + 1, none⟩), (.slice (some ⟨qy, 0, none⟩) ys.length cy), .int .i64 ((i : Nat) : Int), .pointer (some ⟨qy, 0 + ((i : Nat) : Int).toNat * 34, none⟩), .pointer (some ⟨qy, 0 + ((i : Nat) : Int).toNat * 34 + 0, none⟩), .agg (cI ky).toArray, .pointer (some ⟨b3, 0 + 0, none⟩), .agg (cI key).toArray, .bool true]) (fun m x => match x with | ⟨xu, uu⟩ => fun w1 => (True) ∧ St w S0 ((b3, cb (cT key ver (.slice a k c)) 28) :: (rb, cb [lv, (.slice (some ⟨qy, 0, none⟩) ys.length cy), .int .i64 inc] 74) :: ([(qy, cb (ys.flatMap cH ++ sy) 28)] ++ (l5 ++ l6))) w1) Ty.mixed rfl rfl rfl (by kernel_rfl) rfl rfl ?hinit ?hstep ?htail
     case hinit => exact fun w1 hw => ⟨(0, ()), trivial, hw.drew⟩
     case hstep =>
      refine ⟨fun m x hm hp => ?_, fun m x hm hp => ?_, fun m x hm hp => ?_, fun m x hm hp => ?_, fun m x hm hp => ?_, fun m x hm hp => ?_, fun m x hm hp => ?_, fun m x hm hp => ?_, fun m x hm hp => ?_, fun m x hm hp => ?_, fun m x hm hp => ?_, trivial⟩
      ·obtain ⟨xu, uu⟩ := x
       show J _ _ _ _ _ (_) _
       refine J.pr (fun hF => ?_); refine J.move rfl rfl ?_
       exact J.finX rfl (fun _ hw => ⟨⟨xu, uu⟩, rfl, fun _ _ _ => rfl, hF, hw⟩)
      ·obtain ⟨xu, uu⟩ := x
       show J _ _ _ _ _ ((40, .pointer (some ⟨rb, 0, none⟩)) :: _) _
       refine J.pr (fun hF => ?_); refine J.nilCheck rfl rfl ?_
       exact J.finX rfl (fun _ hw => ⟨⟨xu, uu⟩, rfl, fun _ _ _ => rfl, hF, hw⟩)
      ·obtain ⟨xu, uu⟩ := x
       show J _ _ _ _ _ ((41, .pointer (some ⟨rb, 0, none⟩)) :: _) _
       refine J.pr (fun hF => ?_); refine J.fieldAddr Ty.fd74_1 rfl rfl ?_
       exact J.finX rfl (fun _ hw => ⟨⟨xu, uu⟩, rfl, fun _ _ _ => rfl, hF, hw⟩)
      ·obtain ⟨xu, uu⟩ := x
       show J _ _ _ _ _ ((42, .pointer (some ⟨rb, 0 + 1, none⟩)) :: _) _
       refine J.pr (fun hF => ?_); refine J.load1 (v := (.slice (some ⟨qy, 0, none⟩) ys.length cy)) Ty.a44 rfl (fun w1 hw => by rw [cell_of (hw.own ((rb, cb [lv, (.slice (some ⟨qy, 0, none⟩) ys.length cy), .int .i64 inc] 74)) zm)]; rfl) rfl ?_
       exact J.finX rfl (fun _ hw => ⟨⟨xu, uu⟩, rfl, fun _ _ _ => rfl, hF, hw⟩)
      ·obtain ⟨xu, uu⟩ := x
       show J _ _ _ _ _ (_) _
       refine J.pr (fun hF => ?_); refine J.move rfl rfl ?_
       exact J.finX rfl (fun _ hw => ⟨⟨xu, uu⟩, rfl, fun _ _ _ => rfl, hF, hw⟩)
      ·obtain ⟨xu, uu⟩ := x
       show J _ _ _ _ _ ((44, .int .i64 ((i : Nat) : Int)) :: (43, (.slice (some ⟨qy, 0, none⟩) ys.length cy)) :: _) _
       refine J.pr (fun hF => ?_); refine J.indexAddrS Ty.el44 Ty.s28 rfl rfl (by omega) (by omega) rfl ?_
       exact J.finX rfl (fun _ hw => ⟨⟨xu, uu⟩, rfl, fun _ _ _ => rfl, hF, hw⟩)
      ·obtain ⟨xu, uu⟩ := x
       show J _ _ _ _ _ ((45, .pointer (some ⟨qy, 0 + ((i : Nat) : Int).toNat * 34, none⟩)) :: _) _
       refine J.pr (fun hF => ?_); refine J.fieldAddr Ty.fd28_0 rfl rfl ?_
       exact J.finX rfl (fun _ hw => ⟨⟨xu, uu⟩, rfl, fun _ _ _ => rfl, hF, hw⟩)
      ·obtain ⟨xu, uu⟩ := x
       show J _ _ _ _ _ ((46, .pointer (some ⟨qy, 0 + ((i : Nat) : Int).toNat * 34 + 0, none⟩)) :: _) _
       refine J.pr (fun hF => ?_); refine J.loadA (vs := cI ky) Ty.a23 Ty.s23 rfl rfl (fun w1 hw => itemF_at (r := 0) (vec_rowM hv hw zq) hyg rfl (by simp)) rfl ?_
       exact J.finX rfl (fun _ hw => ⟨⟨xu, uu⟩, rfl, fun _ _ _ => rfl, hF, hw⟩)
      ·obtain ⟨xu, uu⟩ := x
       show J _ _ _ _ _ (_) _
       refine J.pr (fun hF => ?_); refine J.fieldAddr Ty.fd28_0 rfl rfl ?_
       exact J.finX rfl (fun _ hw => ⟨⟨xu, uu⟩, rfl, fun _ _ _ => rfl, hF, hw⟩)
      ·obtain ⟨xu, uu⟩ := x
       show J _ _ _ _ _ ((48, .pointer (some ⟨b3, 0 + 0, none⟩)) :: _) _
       refine J.pr (fun hF => ?_); refine J.loadA (vs := cI key) Ty.a23 Ty.s23 rfl rfl (fun w1 hw => Cells.of_block (hw.own ((b3, cb (cT key ver (.slice a k c)) 28)) zm) rfl) rfl ?_
       exact J.finX rfl (fun _ hw => ⟨⟨xu, uu⟩, rfl, fun _ _ _ => rfl, hF, hw⟩)
      ·obtain ⟨xu, uu⟩ := x
       show J _ _ _ _ _ ((49, .agg (cI key).toArray) :: (47, .agg (cI ky).toArray) :: _) _
       refine J.pr (fun hF => ?_); refine J.callB (v := .bool (decide (valI ky < valI key))) (fun w1 w2 hw hb => hw.step hb) Ty.bd21 rfl rfl (fun w1 hw => less_spec ky key w1) ?_; refine J.name 50 rfl (show _ = Value.bool true from congrArg Value.bool (decide_eq_true hlk)) ?_
       exact J.finX rfl (fun _ hw => ⟨⟨xu, uu⟩, rfl, fun _ _ _ => rfl, hF, hw⟩)
     case htail =>
      intro x
      obtain ⟨xu, uu⟩ := x
      show J _ _ _ _ _ ((50, .bool true) :: (49, .agg (cI key).toArray) :: (48, .pointer (some ⟨b3, 0 + 0, none⟩)) :: (47, .agg (cI ky).toArray) :: (46, .pointer (some ⟨qy, 0 + ((i : Nat) : Int).toNat * 34 + 0, none⟩)) :: (45, .pointer (some ⟨qy, 0 + ((i : Nat) : Int).toNat * 34, none⟩)) :: (44, .int .i64 ((i : Nat) : Int)) :: (43, (.slice (some ⟨qy, 0, none⟩) ys.length cy)) :: (42, .pointer (some ⟨rb, 0 + 1, none⟩)) :: (41, .pointer (some ⟨rb, 0, none⟩)) :: (40, .pointer (some ⟨rb, 0, none⟩)) :: _) (fun w1 => (True) ∧ St w S0 ((b3, cb (cT key ver (.slice a k c)) 28) :: (rb, cb [lv, (.slice (some ⟨qy, 0, none⟩) ys.length cy), .int .i64 inc] 74) :: ([(qy, cb (ys.flatMap cH ++ sy) 28)] ++ (l5 ++ l6))) w1)
      refine J.pr (fun hF => ?_); refine J.nil ?_; refine JX.thenN (hK11 _ _ ?_)
      first | refine JC.condT rfl ?_ | refine JC.cond rfl (fun _ => ?_) (fun h => by first | (exfalso; simp at h; omega) | (simp at h))
      refine JC.region ?_; refine J.move rfl rfl ?_; refine J.move rfl rfl ?_; refine J.nilCheck rfl rfl ?_; refine J.fieldAddr Ty.fd74_1 rfl rfl ?_; refine J.load1 (v := (.slice (some ⟨qy, 0, none⟩) ys.length cy)) Ty.a44 rfl (fun w1 hw => by rw [cell_of (hw.own ((rb, cb [lv, (.slice (some ⟨qy, 0, none⟩) ys.length cy), .int .i64 inc] 74)) zm)]; rfl) rfl ?_; refine J.move rfl rfl ?_; refine J.indexAddrS Ty.el44 Ty.s28 rfl rfl (by omega) (by omega) rfl ?_; refine J.loadA (vs := (cT ky vy (.slice az by_.length cz))) Ty.a28 Ty.s28 rfl rfl (fun w1 hw => rowG_at (c := cH) (sz := 34) (fun _ => rfl) (vec_rowM hv hw zq) hyg (by simp)) rfl ?_; refine J.buildSl (cs := (cT ky vy (.slice az by_.length cz))) Ty.el44 Ty.s28 Ty.zIt rfl rfl rfl rfl (by kernel_rfl) rfl rfl (fun b59 => ?_); refine J.perm (l5 ++ ((b59, cb (cT ky vy (.slice az by_.length cz)) 28) :: (b3, cb (cT key ver (.slice a k c)) 28) :: (rb, cb [lv, (.slice (some ⟨qy, 0, none⟩) ys.length cy), .int .i64 inc] 74) :: ([(qy, cb (ys.flatMap cH ++ sy) 28)] ++ l6))) zp ?_; refine J.append (lp := l5) (xs := ((ys.take i).filter (lowP key)).flatMap cH) (ys := (cT ky vy (.slice az by_.length cz))) (k := ((ys.take i).filter (lowP key)).length) (m := 1) Ty.el44 Ty.s28 Ty.b28 Ty.zIt rfl (.inl ⟨28, Ty.u44⟩) rfl rfl hv5 (fun w1 hw => .inl (Row.own (cs := (cT ky vy (.slice az by_.length cz))) (tb := 28) (fr := (0, 0)) hw (List.mem_append_right _ (.head _)) (List.take_of_length_le (Nat.le_refl _)) (Nat.le_refl _))) rfl one_cT (by omega) (by omega) rfl (fun v60 l60 hv60 => ?_)
      rw [show ((ys.take i).filter (lowP key)).flatMap cH ++ (cT ky vy (.slice az by_.length cz)) = (((ys.take i).filter (lowP key)) ++ [((⟨ky, vy, by_, .slice az by_.length cz, lz⟩ : HI) : HI)]).flatMap cH by rw [List.flatMap_append]; rfl, show ((ys.take i).filter (lowP key)).length + 1 = (((ys.take i).filter (lowP key)) ++ [((⟨ky, vy, by_, .slice az by_.length cz, lz⟩ : HI) : HI)]).length by rw [List.length_append]; rfl] at hv60
      refine J.assign rfl rfl ?_; refine J.nil ?_; refine JX.blockN ?_; refine JX.thenN (hK6 _ _ ?_); refine JC.region ?_; refine J.move rfl rfl ?_
      (first | refine J.addN rfl rfl (by omega) (by omega) rfl ?_ | refine J.bin rfl rfl rfl rfl ?_)
      refine J.assign rfl rfl ?_; refine J.nil ?_; refine JX.thenN ?_; refine JX.again (⟨i + 1, v60, l60, v6, l6⟩ : TkS) ?_ ?_ ?_
      ·simp only; omega
      ·exact ⟨rfl, rfl, rfl, rfl, rfl, trivial⟩
      ·exact fun w1 hw => ⟨⟨hlt, hnw2, by simp only; rw [take_filter hyg, if_pos (by simp; omega)]; exact hv60, by simp only; rw [take_filter hyg, if_neg (by simp; omega), List.append_nil]; exact hv6⟩, (hw.perm (zp : List.Perm _ ((b59, cb (cT ky vy (.slice az by_.length cz)) 28) :: ((b3, cb (cT key ver (.slice a k c)) 28) :: (rb, cb [lv, (.slice (some ⟨qy, 0, none⟩) ys.length cy), .int .i64 inc] 74) :: ([(qy, cb (ys.flatMap cH ++ sy) 28)] ++ (l60 ++ l6)))))).drop (List.sublist_cons_self _ _)⟩
   ·apply JC.drawX (α := Nat × Unit) 11 (fun x => match x with | ⟨xu, uu⟩ => [.pointer (some ⟨rb, 0, none⟩), .pointer (some ⟨rb, 0, none⟩), .pointer (some ⟨rb, 0 + 1, none⟩), (.slice (some ⟨qy, 0, none⟩) ys.length cy), .int .i64 ((i : Nat) : Int), .pointer (some ⟨qy, 0 + ((i : Nat) : Int).toNat * 34, none⟩), .pointer (some ⟨qy, 0 + ((i : Nat) : Int).toNat * 34 + 0, none⟩), .agg (cI ky).toArray, .pointer (some ⟨b3, 0 + 0, none⟩), .agg (cI key).toArray, .bool false]) (fun m x => match x with | ⟨xu, uu⟩ => fun w1 => (True) ∧ St w S0 ((b3, cb (cT key ver (.slice a k c)) 28) :: (rb, cb [lv, (.slice (some ⟨qy, 0, none⟩) ys.length cy), .int .i64 inc] 74) :: ([(qy, cb (ys.flatMap cH ++ sy) 28)] ++ (l5 ++ l6))) w1) Ty.mixed rfl rfl rfl (by kernel_rfl) rfl rfl ?hinit ?hstep ?htail
    case hinit => exact fun w1 hw => ⟨(0, ()), trivial, hw.drew⟩
    case hstep =>
     refine ⟨fun m x hm hp => ?_, fun m x hm hp => ?_, fun m x hm hp => ?_, fun m x hm hp => ?_, fun m x hm hp => ?_, fun m x hm hp => ?_, fun m x hm hp => ?_, fun m x hm hp => ?_, fun m x hm hp => ?_, fun m x hm hp => ?_, fun m x hm hp => ?_, trivial⟩
     ·obtain ⟨xu, uu⟩ := x
      show J _ _ _ _ _ (_) _
      refine J.pr (fun hF => ?_); refine J.move rfl rfl ?_
      exact J.finX rfl (fun _ hw => ⟨⟨xu, uu⟩, rfl, fun _ _ _ => rfl, hF, hw⟩)
     ·obtain ⟨xu, uu⟩ := x
      show J _ _ _ _ _ ((17, .pointer (some ⟨rb, 0, none⟩)) :: _) _
      refine J.pr (fun hF => ?_); refine J.nilCheck rfl rfl ?_
      exact J.finX rfl (fun _ hw => ⟨⟨xu, uu⟩, rfl, fun _ _ _ => rfl, hF, hw⟩)
     ·obtain ⟨xu, uu⟩ := x
      show J _ _ _ _ _ ((18, .pointer (some ⟨rb, 0, none⟩)) :: _) _
      refine J.pr (fun hF => ?_); refine J.fieldAddr Ty.fd74_1 rfl rfl ?_
      exact J.finX rfl (fun _ hw => ⟨⟨xu, uu⟩, rfl, fun _ _ _ => rfl, hF, hw⟩)
     ·obtain ⟨xu, uu⟩ := x
      show J _ _ _ _ _ ((19, .pointer (some ⟨rb, 0 + 1, none⟩)) :: _) _
      refine J.pr (fun hF => ?_); refine J.load1 (v := (.slice (some ⟨qy, 0, none⟩) ys.length cy)) Ty.a44 rfl (fun w1 hw => by rw [cell_of (hw.own ((rb, cb [lv, (.slice (some ⟨qy, 0, none⟩) ys.length cy), .int .i64 inc] 74)) zm)]; rfl) rfl ?_
      exact J.finX rfl (fun _ hw => ⟨⟨xu, uu⟩, rfl, fun _ _ _ => rfl, hF, hw⟩)
     ·obtain ⟨xu, uu⟩ := x
      show J _ _ _ _ _ (_) _
      refine J.pr (fun hF => ?_); refine J.move rfl rfl ?_
      exact J.finX rfl (fun _ hw => ⟨⟨xu, uu⟩, rfl, fun _ _ _ => rfl, hF, hw⟩)
     ·obtain ⟨xu, uu⟩ := x
      show J _ _ _ _ _ ((21, .int .i64 ((i : Nat) : Int)) :: (20, (.slice (some ⟨qy, 0, none⟩) ys.length cy)) :: _) _
      refine J.pr (fun hF => ?_); refine J.indexAddrS Ty.el44 Ty.s28 rfl rfl (by omega) (by omega) rfl ?_
      exact J.finX rfl (fun _ hw => ⟨⟨xu, uu⟩, rfl, fun _ _ _ => rfl, hF, hw⟩)
     ·obtain ⟨xu, uu⟩ := x
      show J _ _ _ _ _ ((22, .pointer (some ⟨qy, 0 + ((i : Nat) : Int).toNat * 34, none⟩)) :: _) _
      refine J.pr (fun hF => ?_); refine J.fieldAddr Ty.fd28_0 rfl rfl ?_
      exact J.finX rfl (fun _ hw => ⟨⟨xu, uu⟩, rfl, fun _ _ _ => rfl, hF, hw⟩)
     ·obtain ⟨xu, uu⟩ := x
      show J _ _ _ _ _ ((23, .pointer (some ⟨qy, 0 + ((i : Nat) : Int).toNat * 34 + 0, none⟩)) :: _) _
      refine J.pr (fun hF => ?_); refine J.loadA (vs := cI ky) Ty.a23 Ty.s23 rfl rfl (fun w1 hw => itemF_at (r := 0) (vec_rowM hv hw zq) hyg rfl (by simp)) rfl ?_
      exact J.finX rfl (fun _ hw => ⟨⟨xu, uu⟩, rfl, fun _ _ _ => rfl, hF, hw⟩)
     ·obtain ⟨xu, uu⟩ := x
      show J _ _ _ _ _ (_) _
      refine J.pr (fun hF => ?_); refine J.fieldAddr Ty.fd28_0 rfl rfl ?_
      exact J.finX rfl (fun _ hw => ⟨⟨xu, uu⟩, rfl, fun _ _ _ => rfl, hF, hw⟩)
     ·obtain ⟨xu, uu⟩ := x
      show J _ _ _ _ _ ((25, .pointer (some ⟨b3, 0 + 0, none⟩)) :: _) _
      refine J.pr (fun hF => ?_); refine J.loadA (vs := cI key) Ty.a23 Ty.s23 rfl rfl (fun w1 hw => Cells.of_block (hw.own ((b3, cb (cT key ver (.slice a k c)) 28)) zm) rfl) rfl ?_
      exact J.finX rfl (fun _ hw => ⟨⟨xu, uu⟩, rfl, fun _ _ _ => rfl, hF, hw⟩)
     ·obtain ⟨xu, uu⟩ := x
      show J _ _ _ _ _ ((26, .agg (cI key).toArray) :: (24, .agg (cI ky).toArray) :: _) _
      refine J.pr (fun hF => ?_); refine J.eqI Ty.QI Ty.keyI rfl rfl rfl ?_; refine J.name 27 rfl (show _ = Value.bool false by simp [hke]) ?_
      exact J.finX rfl (fun _ hw => ⟨⟨xu, uu⟩, rfl, fun _ _ _ => rfl, hF, hw⟩)
    case htail =>
     intro x
     obtain ⟨xu, uu⟩ := x
     show J _ _ _ _ _ ((27, .bool false) :: (26, .agg (cI key).toArray) :: (25, .pointer (some ⟨b3, 0 + 0, none⟩)) :: (24, .agg (cI ky).toArray) :: (23, .pointer (some ⟨qy, 0 + ((i : Nat) : Int).toNat * 34 + 0, none⟩)) :: (22, .pointer (some ⟨qy, 0 + ((i : Nat) : Int).toNat * 34, none⟩)) :: (21, .int .i64 ((i : Nat) : Int)) :: (20, (.slice (some ⟨qy, 0, none⟩) ys.length cy)) :: (19, .pointer (some ⟨rb, 0 + 1, none⟩)) :: (18, .pointer (some ⟨rb, 0, none⟩)) :: (17, .pointer (some ⟨rb, 0, none⟩)) :: _) (fun w1 => (True) ∧ St w S0 ((b3, cb (cT key ver (.slice a k c)) 28) :: (rb, cb [lv, (.slice (some ⟨qy, 0, none⟩) ys.length cy), .int .i64 inc] 74) :: ([(qy, cb (ys.flatMap cH ++ sy) 28)] ++ (l5 ++ l6))) w1)
     refine J.pr (fun hF => ?_); refine J.nil ?_; refine JX.thenN (hK7 _ _ ?_)
     first | refine JC.condF rfl ?_ | refine JC.cond rfl (fun h => by first | (exfalso; simp at h; omega) | (simp at h)) (fun _ => ?_)
     refine JC.seq (fun K12 hK12 => ?_)
     apply JC.drawX (α := Nat × Unit) 11 (fun x => match x with | ⟨xu, uu⟩ => [.pointer (some ⟨rb, 0, none⟩), .pointer (some ⟨rb, 0, none⟩), .pointer (some ⟨rb, 0 + 1, none⟩), (.slice (some ⟨qy, 0, none⟩) ys.length cy), .int .i64 ((i : Nat) : Int), .pointer (some ⟨qy, 0 + ((i : Nat) : Int).toNat * 34, none⟩), .pointer (some ⟨qy, 0 + ((i : Nat) : Int).toNat * 34 + 0, none⟩), .agg (cI ky).toArray, .pointer (some ⟨b3, 0 + 0, none⟩), .agg (cI key).toArray, .bool false]) (fun m x => match x with | ⟨xu, uu⟩ => fun w1 => (True) ∧ St w S0 ((b3, cb (cT key ver (.slice a k c)) 28) :: (rb, cb [lv, (.slice (some ⟨qy, 0, none⟩) ys.length cy), .int .i64 inc] 74) :: ([(qy, cb (ys.flatMap cH ++ sy) 28)] ++ (l5 ++ l6))) w1) Ty.mixed rfl rfl rfl (by kernel_rfl) rfl rfl ?hinit ?hstep ?htail
     case hinit => exact fun w1 hw => ⟨(0, ()), trivial, hw.drew⟩
     case hstep =>
      refine ⟨fun m x hm hp => ?_, fun m x hm hp => ?_, fun m x hm hp => ?_, fun m x hm hp => ?_, fun m x hm hp => ?_, fun m x hm hp => ?_, fun m x hm hp => ?_, fun m x hm hp => ?_, fun m x hm hp => ?_, fun m x hm hp => ?_, fun m x hm hp => ?_, trivial⟩
      ·obtain ⟨xu, uu⟩ := x
       show J _ _ _ _ _ (_) _
       refine J.pr (fun hF => ?_); refine J.move rfl rfl ?_
       exact J.finX rfl (fun _ hw => ⟨⟨xu, uu⟩, rfl, fun _ _ _ => rfl, hF, hw⟩)
      ·obtain ⟨xu, uu⟩ := x
       show J _ _ _ _ _ ((40, .pointer (some ⟨rb, 0, none⟩)) :: _) _
       refine J.pr (fun hF => ?_); refine J.nilCheck rfl rfl ?_
       exact J.finX rfl (fun _ hw => ⟨⟨xu, uu⟩, rfl, fun _ _ _ => rfl, hF, hw⟩)
      ·obtain ⟨xu, uu⟩ := x
       show J _ _ _ _ _ ((41, .pointer (some ⟨rb, 0, none⟩)) :: _) _
       refine J.pr (fun hF => ?_); refine J.fieldAddr Ty.fd74_1 rfl rfl ?_
       exact J.finX rfl (fun _ hw => ⟨⟨xu, uu⟩, rfl, fun _ _ _ => rfl, hF, hw⟩)
      ·obtain ⟨xu, uu⟩ := x
       show J _ _ _ _ _ ((42, .pointer (some ⟨rb, 0 + 1, none⟩)) :: _) _
       refine J.pr (fun hF => ?_); refine J.load1 (v := (.slice (some ⟨qy, 0, none⟩) ys.length cy)) Ty.a44 rfl (fun w1 hw => by rw [cell_of (hw.own ((rb, cb [lv, (.slice (some ⟨qy, 0, none⟩) ys.length cy), .int .i64 inc] 74)) zm)]; rfl) rfl ?_
       exact J.finX rfl (fun _ hw => ⟨⟨xu, uu⟩, rfl, fun _ _ _ => rfl, hF, hw⟩)
      ·obtain ⟨xu, uu⟩ := x
       show J _ _ _ _ _ (_) _
       refine J.pr (fun hF => ?_); refine J.move rfl rfl ?_
       exact J.finX rfl (fun _ hw => ⟨⟨xu, uu⟩, rfl, fun _ _ _ => rfl, hF, hw⟩)
      ·obtain ⟨xu, uu⟩ := x
       show J _ _ _ _ _ ((44, .int .i64 ((i : Nat) : Int)) :: (43, (.slice (some ⟨qy, 0, none⟩) ys.length cy)) :: _) _
       refine J.pr (fun hF => ?_); refine J.indexAddrS Ty.el44 Ty.s28 rfl rfl (by omega) (by omega) rfl ?_
       exact J.finX rfl (fun _ hw => ⟨⟨xu, uu⟩, rfl, fun _ _ _ => rfl, hF, hw⟩)
      ·obtain ⟨xu, uu⟩ := x
       show J _ _ _ _ _ ((45, .pointer (some ⟨qy, 0 + ((i : Nat) : Int).toNat * 34, none⟩)) :: _) _
       refine J.pr (fun hF => ?_); refine J.fieldAddr Ty.fd28_0 rfl rfl ?_
       exact J.finX rfl (fun _ hw => ⟨⟨xu, uu⟩, rfl, fun _ _ _ => rfl, hF, hw⟩)
      ·obtain ⟨xu, uu⟩ := x
       show J _ _ _ _ _ ((46, .pointer (some ⟨qy, 0 + ((i : Nat) : Int).toNat * 34 + 0, none⟩)) :: _) _
       refine J.pr (fun hF => ?_); refine J.loadA (vs := cI ky) Ty.a23 Ty.s23 rfl rfl (fun w1 hw => itemF_at (r := 0) (vec_rowM hv hw zq) hyg rfl (by simp)) rfl ?_
       exact J.finX rfl (fun _ hw => ⟨⟨xu, uu⟩, rfl, fun _ _ _ => rfl, hF, hw⟩)
      ·obtain ⟨xu, uu⟩ := x
       show J _ _ _ _ _ (_) _
       refine J.pr (fun hF => ?_); refine J.fieldAddr Ty.fd28_0 rfl rfl ?_
       exact J.finX rfl (fun _ hw => ⟨⟨xu, uu⟩, rfl, fun _ _ _ => rfl, hF, hw⟩)
      ·obtain ⟨xu, uu⟩ := x
       show J _ _ _ _ _ ((48, .pointer (some ⟨b3, 0 + 0, none⟩)) :: _) _
       refine J.pr (fun hF => ?_); refine J.loadA (vs := cI key) Ty.a23 Ty.s23 rfl rfl (fun w1 hw => Cells.of_block (hw.own ((b3, cb (cT key ver (.slice a k c)) 28)) zm) rfl) rfl ?_
       exact J.finX rfl (fun _ hw => ⟨⟨xu, uu⟩, rfl, fun _ _ _ => rfl, hF, hw⟩)
      ·obtain ⟨xu, uu⟩ := x
       show J _ _ _ _ _ ((49, .agg (cI key).toArray) :: (47, .agg (cI ky).toArray) :: _) _
       refine J.pr (fun hF => ?_); refine J.callB (v := .bool (decide (valI ky < valI key))) (fun w1 w2 hw hb => hw.step hb) Ty.bd21 rfl rfl (fun w1 hw => less_spec ky key w1) ?_; refine J.name 50 rfl (show _ = Value.bool false from congrArg Value.bool (decide_eq_false hlk)) ?_
       exact J.finX rfl (fun _ hw => ⟨⟨xu, uu⟩, rfl, fun _ _ _ => rfl, hF, hw⟩)
     case htail =>
      intro x
      obtain ⟨xu, uu⟩ := x
      show J _ _ _ _ _ ((50, .bool false) :: (49, .agg (cI key).toArray) :: (48, .pointer (some ⟨b3, 0 + 0, none⟩)) :: (47, .agg (cI ky).toArray) :: (46, .pointer (some ⟨qy, 0 + ((i : Nat) : Int).toNat * 34 + 0, none⟩)) :: (45, .pointer (some ⟨qy, 0 + ((i : Nat) : Int).toNat * 34, none⟩)) :: (44, .int .i64 ((i : Nat) : Int)) :: (43, (.slice (some ⟨qy, 0, none⟩) ys.length cy)) :: (42, .pointer (some ⟨rb, 0 + 1, none⟩)) :: (41, .pointer (some ⟨rb, 0, none⟩)) :: (40, .pointer (some ⟨rb, 0, none⟩)) :: _) (fun w1 => (True) ∧ St w S0 ((b3, cb (cT key ver (.slice a k c)) 28) :: (rb, cb [lv, (.slice (some ⟨qy, 0, none⟩) ys.length cy), .int .i64 inc] 74) :: ([(qy, cb (ys.flatMap cH ++ sy) 28)] ++ (l5 ++ l6))) w1)
      refine J.pr (fun hF => ?_); refine J.nil ?_; refine JX.thenN (hK12 _ _ ?_)
      first | refine JC.condF rfl ?_ | refine JC.cond rfl (fun h => by first | (exfalso; simp at h; omega) | (simp at h)) (fun _ => ?_)
      refine JC.region ?_; refine J.move rfl rfl ?_; refine J.move rfl rfl ?_; refine J.nilCheck rfl rfl ?_; refine J.fieldAddr Ty.fd74_1 rfl rfl ?_; refine J.load1 (v := (.slice (some ⟨qy, 0, none⟩) ys.length cy)) Ty.a44 rfl (fun w1 hw => by rw [cell_of (hw.own ((rb, cb [lv, (.slice (some ⟨qy, 0, none⟩) ys.length cy), .int .i64 inc] 74)) zm)]; rfl) rfl ?_; refine J.move rfl rfl ?_; refine J.indexAddrS Ty.el44 Ty.s28 rfl rfl (by omega) (by omega) rfl ?_; refine J.loadA (vs := (cT ky vy (.slice az by_.length cz))) Ty.a28 Ty.s28 rfl rfl (fun w1 hw => rowG_at (c := cH) (sz := 34) (fun _ => rfl) (vec_rowM hv hw zq) hyg (by simp)) rfl ?_; refine J.buildSl (cs := (cT ky vy (.slice az by_.length cz))) Ty.el44 Ty.s28 Ty.zIt rfl rfl rfl rfl (by kernel_rfl) rfl rfl (fun b69 => ?_); refine J.perm (l6 ++ ((b69, cb (cT ky vy (.slice az by_.length cz)) 28) :: (b3, cb (cT key ver (.slice a k c)) 28) :: (rb, cb [lv, (.slice (some ⟨qy, 0, none⟩) ys.length cy), .int .i64 inc] 74) :: ([(qy, cb (ys.flatMap cH ++ sy) 28)] ++ l5))) zp ?_; refine J.append (lp := l6) (xs := ((ys.take i).filter (highP key)).flatMap cH) (ys := (cT ky vy (.slice az by_.length cz))) (k := ((ys.take i).filter (highP key)).length) (m := 1) Ty.el44 Ty.s28 Ty.b28 Ty.zIt rfl (.inl ⟨28, Ty.u44⟩) rfl rfl hv6 (fun w1 hw => .inl (Row.own (cs := (cT ky vy (.slice az by_.length cz))) (tb := 28) (fr := (0, 0)) hw (List.mem_append_right _ (.head _)) (List.take_of_length_le (Nat.le_refl _)) (Nat.le_refl _))) rfl one_cT (by omega) (by omega) rfl (fun v70 l70 hv70 => ?_)
      rw [show ((ys.take i).filter (highP key)).flatMap cH ++ (cT ky vy (.slice az by_.length cz)) = (((ys.take i).filter (highP key)) ++ [((⟨ky, vy, by_, .slice az by_.length cz, lz⟩ : HI) : HI)]).flatMap cH by rw [List.flatMap_append]; rfl, show ((ys.take i).filter (highP key)).length + 1 = (((ys.take i).filter (highP key)) ++ [((⟨ky, vy, by_, .slice az by_.length cz, lz⟩ : HI) : HI)]).length by rw [List.length_append]; rfl] at hv70
      refine J.assign rfl rfl ?_; refine J.nil ?_; refine JX.blockN ?_; refine JX.thenN (hK6 _ _ ?_); refine JC.region ?_; refine J.move rfl rfl ?_
      (first | refine J.addN rfl rfl (by omega) (by omega) rfl ?_ | refine J.bin rfl rfl rfl rfl ?_)
      refine J.assign rfl rfl ?_; refine J.nil ?_; refine JX.thenN ?_; refine JX.again (⟨i + 1, v5, l5, v70, l70⟩ : TkS) ?_ ?_ ?_
      ·simp only; omega
      ·exact ⟨rfl, rfl, rfl, rfl, rfl, trivial⟩
      ·exact fun w1 hw => ⟨⟨hlt, hnw2, by simp only; rw [take_filter hyg, if_neg (by simp; omega), List.append_nil]; exact hv5, by simp only; rw [take_filter hyg, if_pos (by simp; omega)]; exact hv70⟩, (hw.perm (zp : List.Perm _ ((b69, cb (cT ky vy (.slice az by_.length cz)) 28) :: ((b3, cb (cT key ver (.slice a k c)) 28) :: (rb, cb [lv, (.slice (some ⟨qy, 0, none⟩) ys.length cy), .int .i64 inc] 74) :: ([(qy, cb (ys.flatMap cH ++ sy) 28)] ++ (l5 ++ l70)))))).drop (List.sublist_cons_self _ _)⟩
 ·have hge : i = ys.length := by simp at h0; omega
  rw [hge, List.take_of_length_le (Nat.le_refl _)] at hnw hv5 hv6 hlo hhi
  refine JC.exit ?_; refine JX.thenE ?_; refine JX.thenE ?_; refine JX.blockE ?_; refine JX.thenN (hK2 _ _ ?_); refine JC.seq (fun K13 hK13 => ?_); refine JC.region ?_; refine J.move rfl rfl ?_; refine J.loadA (vs := (cT key ver (.slice a k c))) Ty.a28 Ty.s28 rfl rfl (fun w1 hw => Cells.of_block (hw.own ((b3, cb (cT key ver (.slice a k c)) 28)) zm) rfl) rfl ?_; refine J.buildSl (cs := (cT key ver (.slice a k c))) Ty.el44 Ty.s28 Ty.zIt rfl rfl rfl rfl (by kernel_rfl) rfl rfl (fun b73 => ?_); refine J.perm (l5 ++ ((b73, cb (cT key ver (.slice a k c)) 28) :: (b3, cb (cT key ver (.slice a k c)) 28) :: (rb, cb [lv, (.slice ay ys.length cy), .int .i64 inc] 74) :: (ly ++ l6))) zp ?_; refine J.append (lp := l5) (xs := (ys.filter (lowP key)).flatMap cH) (ys := (cT key ver (.slice a k c))) (k := (ys.filter (lowP key)).length) (m := 1) Ty.el44 Ty.s28 Ty.b28 Ty.zIt rfl (.inl ⟨28, Ty.u44⟩) rfl rfl hv5 (fun w1 hw => .inl (Row.own (cs := (cT key ver (.slice a k c))) (tb := 28) (fr := (0, 0)) hw (List.mem_append_right _ (.head _)) (List.take_of_length_le (Nat.le_refl _)) (Nat.le_refl _))) rfl one_cT (by omega) (by omega) rfl (fun v74 l74 hv74 => ?_)
  rw [show (ys.filter (lowP key)).flatMap cH ++ (cT key ver (.slice a k c)) = ((ys.filter (lowP key)) ++ [((⟨key, ver, bs, .slice a k c, lp⟩ : HI) : HI)]).flatMap cH by rw [List.flatMap_append]; rfl, show (ys.filter (lowP key)).length + 1 = ((ys.filter (lowP key)) ++ [((⟨key, ver, bs, .slice a k c, lp⟩ : HI) : HI)]).length by rw [List.length_append]; rfl] at hv74
  refine J.assign rfl rfl ?_; refine J.nil ?_; refine JX.thenN (hK13 _ _ ?_); refine JC.seq (fun K14 hK14 => ?_); refine JC.region ?_; refine J.move rfl rfl ?_; refine J.move rfl rfl ?_; refine J.move rfl rfl ?_
  obtain ⟨a6, c6, rfl, hc6⟩ := hv6.form
  refine J.append (lp := l74) (xs := (ys.filter (lowP key) ++ [(⟨key, ver, bs, .slice a k c, lp⟩ : HI)]).flatMap cH) (ys := (ys.filter (highP key)).flatMap cH) (k := (ys.filter (lowP key) ++ [(⟨key, ver, bs, .slice a k c, lp⟩ : HI)]).length) (m := (ys.filter (highP key)).length) Ty.el44 Ty.s28 Ty.b28 Ty.zIt rfl (.inl ⟨28, Ty.u44⟩) rfl rfl hv74 (fun w1 hw => .inl (vec_rowM hv6 hw zq)) (cHs_len _) (one_cHs (fun y hy => hf y (List.mem_filter.1 hy).1)) (by rw [List.length_append, List.length_singleton]; omega) (by rw [List.length_append, List.length_singleton]; omega) rfl (fun v78 l78 hv78 => ?_)
  rw [← List.flatMap_append, ← List.length_append] at hv78
  have hins : insH ys (⟨key, ver, bs, .slice a k c, lp⟩ : HI) = ys.filter (lowP key) ++ [(⟨key, ver, bs, .slice a k c, lp⟩ : HI)] ++ ys.filter (highP key) := rfl
  obtain ⟨a78, c78, rfl, hc78⟩ := hv78.form
  refine J.perm ((rb, cb [lv, (.slice ay ys.length cy), .int .i64 inc] 74) :: ((b73, cb (cT key ver (.slice a k c)) 28) :: (b3, cb (cT key ver (.slice a k c)) 28) :: (ly ++ (l6 ++ l78)))) zp ?_; refine J.nilCheck rfl rfl ?_; refine J.fieldAddr Ty.fd74_1 rfl rfl ?_; refine J.storeO (cs := [lv, (.slice ay ys.length cy), .int .i64 inc]) (vs := [.slice a78 (ys.filter (lowP key) ++ [(⟨key, ver, bs, .slice a k c, lp⟩ : HI)] ++ ys.filter (highP key)).length c78]) (l' := (rb, cb [lv, (.slice a78 (ys.filter (lowP key) ++ [(⟨key, ver, bs, .slice a k c, lp⟩ : HI)] ++ ys.filter (highP key)).length c78), .int .i64 inc] 74) :: ((b73, cb (cT key ver (.slice a k c)) 28) :: (b3, cb (cT key ver (.slice a k c)) 28) :: (ly ++ (l6 ++ l78)))) Ty.s44 rfl rfl rfl rfl (fun v hv => by rw [List.mem_singleton.1 hv]; rfl) .here (by show _ ≤ 3; omega) ?_; refine J.nil ?_; refine JX.thenN (hK14 _ _ ?_); refine JC.seq (fun K15 hK15 => ?_); refine JC.region ?_; refine J.assign rfl rfl ?_; refine J.nil ?_; refine JX.thenN (hK15 _ _ ?_); refine JC.ret ?_; refine JX.ret1 rfl rfl (fun w1 hw => ?_)
  exact .inr ⟨rfl, hnw, _, l78, by rw [hins]; exact hv78, (hw.perm (zp : List.Perm _ (((b73, cb (cT key ver (.slice a k c)) 28) :: (b3, cb (cT key ver (.slice a k c)) 28) :: (ly ++ l6)) ++ ((rb, cb [lv, (.slice a78 (ys.filter (lowP key) ++ [(⟨key, ver, bs, .slice a k c, lp⟩ : HI)] ++ ys.filter (highP key)).length c78), .int .i64 inc] 74) :: l78)))).drop (List.sublist_append_right _ _)⟩

end Go.Proofs.Ytoaenmlhehcjfaa
/-
 The document's Held: contract.
-/
namespace Go.Proofs.Ytoaenmlhehcjfaa
open Go.J Go.RowKit
set_option linter.unusedVariables false
set_option linter.unusedSimpArgs false
set_option maxRecDepth 8000
attribute [local irreducible] valI
theorem srt_keys {A B : List ItV} (h : SrtOf A B) : A.Pairwise (fun a b => a.key ≠ b.key) := by
 have h1 : B.Pairwise (fun a b => a.key ≠ b.key) := h.2.imp fun hlt e => by rw [e] at hlt; omega
 exact (h.1.pairwise_iff (fun hab e => hab e.symm)).1 h1
theorem srt_one {A B C : List ItV} (h1 : SrtOf A B) (h2 : SrtOf A C) : B = C := by
 refine List.Perm.eq_of_pairwise (le := fun a b => valI a.key ≤ valI b.key) (fun a b ha hb hab hba => ?_) (h1.2.imp fun h => Nat.le_of_lt h) (h2.2.imp fun h => Nat.le_of_lt h) (h1.1.trans h2.1.symm)
 have hk : a.key = b.key := valI_inj (Nat.le_antisymm hab hba)
 have hb' := (h2.1.trans h1.1.symm).mem_iff.1 hb
 obtain ⟨i, hi, rfl⟩ := List.mem_iff_getElem.1 ha
 obtain ⟨j, hj, rfl⟩ := List.mem_iff_getElem.1 hb'
 have hp := List.pairwise_iff_getElem.1 h1.2
 rcases Nat.lt_trichotomy i j with h | h | h
 ·have := hp i j hi hj h; rw [hk] at this; omega
 ·subst h; rfl
 ·have := hp j i hj hi h; rw [hk] at this; omega
theorem setV_perm {A : List ItV} {x : ItV} (hd : A.Pairwise (fun a b => a.key ≠ b.key)) : (setV A x).Perm (x :: A.filter (fun y => decide (y.key ≠ x.key))) := by
 induction A with
 | nil => exact List.Perm.refl _
 | cons a A ih =>
  obtain ⟨h1, h2⟩ := List.pairwise_cons.1 hd
  by_cases hk : a.key = x.key
  ·have e1 : A.map (fun h => if h.key = x.key then x else h) = A := by
    rw [List.map_congr_left (g := id) fun z hz => ?_, List.map_id]
    rw [if_neg (fun e => h1 z hz (hk.trans e.symm))]; rfl
   have e2 : A.filter (fun y => decide (y.key ≠ x.key)) = A := List.filter_eq_self.2 fun z hz => decide_eq_true (fun e => h1 z hz (hk.trans e.symm))
   unfold setV getV
   rw [List.find?_cons, decide_eq_true hk]
   simp only [Option.isSome_some, if_true, List.map_cons, if_pos hk, e1]
   rw [List.filter_cons, if_neg (by simp [hk]), e2]
  ·have e1 : setV (a :: A) x = a :: setV A x := by
    unfold setV getV
    rw [List.find?_cons, decide_eq_false hk]
    simp only [List.map_cons, if_neg hk]
    split <;> rfl
   rw [e1, List.filter_cons, if_pos (by simp [hk])]
   exact ((ih h2).cons a).trans (List.Perm.swap x a _)
theorem getV_mem {A : List ItV} {k : IDV} {y : ItV} (h : getV A k = some y) : y ∈ A ∧ y.key = k := ⟨List.mem_of_find?_eq_some h, by have := List.find?_some h; simpa using this⟩
theorem takeV_set {A : List ItV} {x : ItV} (h : ∀ y, y ∈ A → y.key = x.key → newB x.ver y.ver = true) : takeV A x = setV A x := by
 unfold takeV
 cases hg : getV A x.key with
 | none => rfl
 | some y =>
  simp only
  rw [if_pos (h y (getV_mem hg).1 (getV_mem hg).2)]
theorem takeV_keep {A : List ItV} {x y : ItV} (hd : A.Pairwise (fun a b => a.key ≠ b.key)) (hy : y ∈ A) (hk : y.key = x.key) (hn : newB x.ver y.ver = false) : takeV A x = A := by
 unfold takeV
 cases hg : getV A x.key with
 | none =>
  unfold getV at hg
  rw [List.find?_eq_none] at hg
  exact absurd (decide_eq_true hk) (hg y hy)
 | some z =>
  have hz := getV_mem hg
  have e : z = y := by
   obtain ⟨i, hi, rfl⟩ := List.mem_iff_getElem.1 hz.1
   obtain ⟨j, hj, rfl⟩ := List.mem_iff_getElem.1 hy
   have hp := List.pairwise_iff_getElem.1 hd
   rcases Nat.lt_trichotomy i j with h | h | h
   ·exact absurd (hz.2.trans hk.symm) (hp i j hi hj h)
   ·subst h; rfl
   ·exact absurd (hk.trans hz.2.symm) (hp j i hj hi h)
  simp only
  rw [e, if_neg (by rw [hn]; decide)]
theorem srt_set {A B : List ItV} {x : ItV} (h : SrtOf A B) : SrtOf (setV A x) (B.filter (fun y => decide (valI y.key < valI x.key)) ++ [x] ++ B.filter (fun y => decide (valI x.key < valI y.key))) := by
 refine ⟨?_, ?_⟩
 ·refine List.Perm.trans ?_ (setV_perm (srt_keys h)).symm
  have h1 : (B.filter (fun y => decide (valI y.key < valI x.key)) ++ B.filter (fun y => decide (valI x.key < valI y.key))).Perm (B.filter (fun y => decide (y.key ≠ x.key))) := by
   have h2 := List.filter_append_perm (fun y : ItV => decide (valI y.key < valI x.key)) (B.filter (fun y => decide (y.key ≠ x.key)))
   rw [List.filter_filter, List.filter_filter] at h2
   have e1 : B.filter (fun y => decide (valI y.key < valI x.key)) = B.filter (fun y => decide (valI y.key < valI x.key) && decide (y.key ≠ x.key)) := List.filter_congr fun y _ => by
    by_cases hlt : valI y.key < valI x.key
    ·have hne : y.key ≠ x.key := fun e => by rw [e] at hlt; omega
     rw [decide_eq_true hlt, decide_eq_true hne]; rfl
    ·rw [decide_eq_false hlt]; rfl
   have e2 : B.filter (fun y => decide (valI x.key < valI y.key)) = B.filter (fun y => (!decide (valI y.key < valI x.key)) && decide (y.key ≠ x.key)) := List.filter_congr fun y _ => by
    by_cases hlt : valI x.key < valI y.key
    ·have hne : y.key ≠ x.key := fun e => by rw [e] at hlt; omega
     rw [decide_eq_true hlt, decide_eq_true hne, decide_eq_false (by omega)]; rfl
    ·rw [decide_eq_false hlt]
     by_cases hk : y.key = x.key
     ·rw [decide_eq_false (fun hn : y.key ≠ x.key => hn hk), Bool.and_false]
     ·have : valI y.key ≠ valI x.key := fun e => hk (valI_inj e)
      rw [decide_eq_true (show valI y.key < valI x.key by omega)]; rfl
   rw [e1, e2]; exact h2
  have h3 : (B.filter (fun y => decide (valI y.key < valI x.key)) ++ [x] ++ B.filter (fun y => decide (valI x.key < valI y.key))).Perm (x :: (B.filter (fun y => decide (valI y.key < valI x.key)) ++ B.filter (fun y => decide (valI x.key < valI y.key)))) := by
   rw [List.append_assoc]
   exact List.perm_middle
  exact h3.trans ((h1.trans (h.1.filter _)).cons x)
 ·rw [List.append_assoc, List.pairwise_append]
  refine ⟨h.2.filter _, ?_, fun a ha b hb => ?_⟩
  ·rw [List.singleton_append, List.pairwise_cons]
   exact ⟨fun b hb => by have := (List.mem_filter.1 hb).2; simpa using this, h.2.filter _⟩
  ·have h1 := (List.mem_filter.1 ha).2
   simp only [decide_eq_true_eq] at h1
   rw [List.singleton_append] at hb
   rcases List.mem_cons.1 hb with rfl | hb
   ·exact h1
   ·have h2 := (List.mem_filter.1 hb).2
    simp only [decide_eq_true_eq] at h2
    omega
theorem insH_it (ys : List HI) (x : HI) : (insH ys x).map HI.it = (ys.map HI.it).filter (fun y => decide (valI y.key < valI x.it.key)) ++ [x.it] ++ (ys.map HI.it).filter (fun y => decide (valI x.it.key < valI y.key)) := by
 unfold insH
 rw [List.map_append, List.map_append, List.filter_map, List.filter_map]
 rfl
theorem srt_ins {A : List ItV} {ys : List HI} {x : HI} (h : SrtOf A (ys.map HI.it)) (hn : ∀ y, y ∈ ys → y.key = x.key → newB x.ver y.ver = true) : SrtOf (takeV A x.it) ((insH ys x).map HI.it) := by
 rw [insH_it, takeV_set]
 ·exact srt_set h
 ·intro y hy hk
  obtain ⟨z, hz, rfl⟩ := List.mem_map.1 (h.1.symm.mem_iff.1 hy)
  exact hn z hz hk
theorem srt_keep {A : List ItV} {ys : List HI} {x : HI} (h : SrtOf A (ys.map HI.it)) (hn : ∃ y, y ∈ ys ∧ y.key = x.key ∧ newB x.ver y.ver = false) : takeV A x.it = A := by
 obtain ⟨y, hy, hk, hb⟩ := hn
 exact takeV_keep (y := y.it) (srt_keys h) (h.1.mem_iff.1 (List.mem_map.2 ⟨y, hy, rfl⟩)) hk hb
theorem insH_mem {ys : List HI} {x z : HI} (h : z ∈ insH ys x) : z = x ∨ z ∈ ys := by
 unfold insH at h
 rcases List.mem_append.1 h with h | h
 ·rcases List.mem_append.1 h with h | h
  ·exact .inr (List.mem_filter.1 h).1
  ·exact .inl (List.mem_singleton.1 h)
 ·exact .inr (List.mem_filter.1 h).1
theorem VOK.ins {ys : List HI} {x : HI} (h : VOK ys) (hx : okV x.ver.n ∧ Vec 5 1 x.sv x.bs.length (x.bs.map u8) x.lp) : VOK (insH ys x) := fun z hz => by
 rcases insH_mem hz with rfl | hz
 ·exact hx
 ·exact h z hz
theorem insH_perm {ys : List HI} (x : HI) : ∃ zs, (x :: ys).Perm (insH ys x ++ zs) := by
 refine ⟨ys.filter (fun y => !lowP x.key y && !highP x.key y), ?_⟩
 have h1 := (List.filter_append_perm (lowP x.key) ys).symm
 have h2 := (List.filter_append_perm (highP x.key) (ys.filter (fun y => !lowP x.key y))).symm
 rw [List.filter_filter, List.filter_filter] at h2
 have e1 : ys.filter (fun a => highP x.key a && !lowP x.key a) = ys.filter (highP x.key) := List.filter_congr fun y _ => by
  by_cases hlt : valI x.key < valI y.key
  ·rw [show highP x.key y = true from decide_eq_true hlt, show lowP x.key y = false from decide_eq_false (by omega)]; rfl
  ·rw [show highP x.key y = false from decide_eq_false hlt]; rfl
 have e2 : ys.filter (fun a => !highP x.key a && !lowP x.key a) = ys.filter (fun y => !lowP x.key y && !highP x.key y) := List.filter_congr fun y _ => Bool.and_comm _ _
 rw [e1, e2] at h2
 have h3 : (x :: ys).Perm (x :: (ys.filter (lowP x.key) ++ (ys.filter (highP x.key) ++ ys.filter (fun y => !lowP x.key y && !highP x.key y)))) := (h1.trans (h2.append_left _)).cons x
 refine h3.trans ?_
 unfold insH
 rw [List.append_assoc, List.append_assoc]
 exact List.perm_middle.symm
theorem insH_len (ys : List HI) (x : HI) : (insH ys x).length ≤ ys.length + 1 := by
 obtain ⟨zs, h⟩ := insH_perm (ys := ys) x
 have := h.length_eq
 rw [List.length_cons, List.length_append] at this
 omega
theorem insH_sub (ys : List HI) (x : HI) : SubP (lpsH (insH ys x)) (x.lp ++ lpsH ys) := by
 obtain ⟨zs, h⟩ := insH_perm (ys := ys) x
 refine ⟨lpsH zs, ?_⟩
 have h1 := h.flatMap_right (fun y : HI => y.lp)
 rw [List.flatMap_cons, List.flatMap_append] at h1
 exact h1
theorem readP_of (inc : Nat) (bs : List UInt8) : readP inc bs = match readP 0 bs with
  | none => none
  | some (.inl n) => if n ≤ inc then none else some (.inl n)
  | some (.inr x) => some (.inr x) := by
 unfold readP
 by_cases h0 : (getN bs 0).2.2 ≠ 0
 ·rw [if_pos h0, if_pos h0]
 rw [if_neg h0, if_neg h0]
 by_cases h1 : (getN bs 0).1 = 1
 ·rw [if_pos h1, if_pos h1]
  by_cases h2 : (getN bs (getN bs 0).2.1).2.2 ≠ 0 ∨ (getN bs (getN bs 0).2.1).2.1 < bs.length ∨ 1048576 < (getN bs (getN bs 0).2.1).1
  ·rw [if_pos (by rcases h2 with h | h | h; exact .inl h; exact .inr (.inl h); exact .inr (.inr (.inl h))), if_pos (by rcases h2 with h | h | h; exact .inl h; exact .inr (.inl h); exact .inr (.inr (.inl h)))]
  ·by_cases h3 : (getN bs (getN bs 0).2.1).1 ≤ 0
   ·rw [if_pos (.inr (.inr (.inr (Nat.le_trans h3 (Nat.zero_le _))))), if_pos (.inr (.inr (.inr h3)))]
   ·have h5 : ¬ ((getN bs (getN bs 0).2.1).2.2 ≠ 0 ∨ (getN bs (getN bs 0).2.1).2.1 < bs.length ∨ 1048576 < (getN bs (getN bs 0).2.1).1 ∨ (getN bs (getN bs 0).2.1).1 ≤ 0) := by
     rintro (h | h | h | h); exact h2 (.inl h); exact h2 (.inr (.inl h)); exact h2 (.inr (.inr h)); exact h3 h
    rw [if_neg h5]
    simp only
    by_cases h4 : (getN bs (getN bs 0).2.1).1 ≤ inc
    ·rw [if_pos (.inr (.inr (.inr h4))), if_pos h4]
    ·rw [if_neg (by rintro (h | h | h | h); exact h2 (.inl h); exact h2 (.inr (.inl h)); exact h2 (.inr (.inr h)); exact h4 h), if_neg h4]
 rw [if_neg h1, if_neg h1]
 by_cases h2 : (getN bs 0).1 = 2
 ·rw [if_pos h2]
  split
  ·rfl
  ·split
   ·rfl
   ·split
    ·rfl
    ·split
     ·rfl
     ·rfl
 ·rw [if_neg h2]
theorem row_cell {w : World} {b o k c i q : Nat} {vs : List Value} {u : Value} (h : Row w (.slice (some ⟨b, o, none⟩) k c) k vs) (hu : vs[i]? = some u) (hq : q = o + i) : w.cell? ⟨b, q, none⟩ = some u := by
 have hi : i < vs.length := (List.getElem?_eq_some_iff.1 hu).1
 obtain ⟨b', o', c', h1, _, h2⟩ := h.some (by omega)
 simp only [Value.slice.injEq, Option.some.injEq, Addr.mk.injEq] at h1
 obtain ⟨⟨rfl, rfl, _⟩, _⟩ := h1
 subst hq
 exact (h2 i hi).trans hu
inductive HdR where
 | no
 | ok (inc : Nat) (A : List ItV) (ys : List HI) (v : Value) (lv : List (Nat × Obj))
def HdR.val : HdR → Value
 | .no => .tuple #[.slice none 0 0, .int .i64 0, .bool false]
 | .ok inc _ _ v _ => .tuple #[v, .int .i64 ((inc : Nat) : Int), .bool true]
def HdR.lst : HdR → List (Nat × Obj)
 | .no => []
 | .ok _ _ ys _ lv => lv ++ lpsH ys
def HdR.Pr (rs : List (List UInt8)) : HdR → Prop
 | .no => heldV rs = none
 | .ok inc A ys v lv => heldV rs = some (inc, A) ∧ SrtOf A (ys.map HI.it) ∧ VOK ys ∧ ys.length ≤ rs.length ∧ inc ≤ 1048576 ∧ Vec 28 34 v (ys).length ((ys).flatMap cH) lv
structure HdS where
 i : Nat
 inc : Nat
 A : List ItV
 ys : List HI
 v : Value
 l : List (Nat × Obj)

set_option maxHeartbeats 1000000 in
theorem rheld_spec (v : Value) (rs : List (List UInt8)) (w : World) (hr : RowRecs w v rs) (hrl : rs.length ≤ 9000) (hrb : ∀ r, r ∈ rs → r.length ≤ 2000) :
  Calls Try.prog 57 [v].toArray w fun r w' => ∃ z : HdR, r = .returned z.val ∧ z.Pr rs ∧ St w [] z.lst w' := by
 obtain ⟨vs, hrow, hvl, hre⟩ := hr
 obtain ⟨a, c, rfl, hc, _⟩ := id hrow
 refine calls_of_J (args := [.slice a rs.length c]) (e := [(0, .slice a rs.length c)]) Try.func57 rfl rfl ⟨rfl, trivial⟩ (St.start w) ?_; refine JC.seq (fun K0 hK0 => ?_); refine JC.region ?_; refine J.assign rfl rfl ?_; refine J.assign rfl rfl ?_; refine J.assign rfl rfl ?_; refine J.nil ?_; refine JX.thenN (hK0 _ _ ?_); refine JC.seq (fun K1 hK1 => ?_); refine JC.region ?_; refine J.buildS (cs := [.pointer none, .slice none 0 0, .int .i64 ((0 : Nat) : Int)]) Ty.pl74 Ty.z74 rfl (by kernel_rfl) rfl ?_; refine J.box rfl rfl rfl (fun b11 => ?_); refine J.assign rfl rfl ?_; refine J.nil ?_; refine JX.thenN (hK1 _ _ ?_); refine JC.seq (fun K2 hK2 => ?_); refine JC.seq (fun K3 hK3 => ?_); refine JC.region ?_; refine J.assign rfl rfl ?_; refine J.nil ?_; refine JX.thenN (hK3 _ _ ?_); refine JC.block ?_
 refine JC.conseq (JC.cov (f := (fun st => [(0, .slice a rs.length c), (5, .pointer (some ⟨b11, 0, none⟩)), (6, .int .i64 ((st.i : Nat) : Int))]) (⟨0, 0, [], [], .slice none 0 0, []⟩ : HdS)) ⟨rfl, rfl, rfl, trivial⟩ (JC.loop (α := HdS) (fun st => [(0, .slice a rs.length c), (5, .pointer (some ⟨b11, 0, none⟩)), (6, .int .i64 ((st.i : Nat) : Int))]) (fun st w' => (st.i ≤ rs.length ∧ heldV (rs.take st.i) = some (st.inc, st.A) ∧ st.inc ≤ 1048576 ∧ SrtOf st.A (st.ys.map HI.it) ∧ VOK st.ys ∧ st.ys.length ≤ st.i ∧ Vec 28 34 st.v (st.ys).length ((st.ys).flatMap cH) st.l) ∧ St w [] ((b11, cb [.pointer none, st.v, .int .i64 ((st.inc : Nat) : Int)] 74) :: (st.l ++ lpsH st.ys)) w') (fun st => rs.length - st.i) (⟨0, 0, [], [], .slice none 0 0, []⟩ : HdS) (fun st => ?_))) (fun w hw => ⟨⟨Nat.zero_le _, rfl, Nat.zero_le _, ⟨List.Perm.refl _, List.Pairwise.nil⟩, VOK.nil, Nat.zero_le _, Vec.nil _ _⟩, hw⟩)
 obtain ⟨i, inc, A, ys, vy, ly⟩ := st
 refine JC.pr (fun hI => ?_)
 obtain ⟨hi, hh, hinc, hS, hV, hyl, hv⟩ := hI
 try simp only at hi hh hinc hS hV hyl hv ⊢
 obtain ⟨ay, cy, rfl, hcy⟩ := hv.form
 refine JC.seq (fun K4 hK4 => ?_); refine JC.seq (fun K5 hK5 => ?_); refine JC.region ?_; refine J.move rfl rfl ?_; refine J.move rfl rfl ?_; refine J.lenS rfl Ty.u57 rfl rfl ?_; refine J.bin rfl rfl rfl rfl ?_; refine J.nil ?_; refine JX.thenN (hK5 _ _ ?_); refine JC.cond rfl (fun h0 => ?_) (fun h0 => ?_)
 ·have hlt : i < rs.length := by simp at h0; omega
  obtain ⟨ru, hru⟩ : ∃ x, rs[i]? = some x := ⟨_, List.getElem?_eq_getElem hlt⟩
  obtain ⟨u, hu⟩ : ∃ x, vs[i]? = some x := ⟨_, List.getElem?_eq_getElem (by omega)⟩
  have hru2 := hre i u ru hu hru
  have hrul := hrb ru (List.mem_of_getElem? hru)
  obtain ⟨au, cu, rfl, hcu, _⟩ := id hru2
  obtain ⟨bq, oq, cq, hsq, hcq, hcl⟩ := hrow.some (by omega)
  simp only [Value.slice.injEq] at hsq
  obtain ⟨rfl, -, rfl⟩ := hsq
  have hcell := row_cell hrow hu (q := oq + ((i : Nat) : Int).toNat * 1) (by omega)
  have htk : rs.take (i + 1) = rs.take i ++ [ru] := by rw [List.take_add_one, hru]; rfl
  refine JC.skip ?_; refine JX.thenN (hK4 _ _ ?_); refine JC.seq (fun K6 hK6 => ?_); refine JC.block ?_; refine JC.seq (fun K7 hK7 => ?_); refine JC.region ?_; refine J.move rfl rfl ?_; refine J.move rfl rfl ?_; refine J.indexAddrS Ty.el57 Ty.s26 rfl rfl (by omega) (by omega) rfl ?_; refine J.loadR (v := .slice au ru.length cu) Ty.a26 rfl hcell (by simp) rfl ?_; refine J.perm ([] ++ ((b11, cb [.pointer none, .slice ay ys.length cy, .int .i64 ((inc : Nat) : Int)] 74) :: (ly ++ lpsH ys))) (.refl _) ?_; refine J.callS (α := RdR) (V := RdR.val) (Pr := fun z => z.Pr ru) (L := RdR.lst) (l1 := []) Ty.bd74 rfl rfl (fun w1 hw => rread18_spec (.slice au ru.length cu) ru w1 (hru2.below (hw.drop (List.nil_sublist _)).below) (by omega)) (fun z hz => ?_)
  rcases z with n9 | m9 | h9
  ·simp only [RdR.Pr, RdR.lst, List.nil_append] at hz ⊢
   refine J.name 23 rfl (show _ = Value.tuple #[.agg (cH zH).toArray, .int .i64 n9, .bool false] from rfl) ?_
   have hg : heldV rs = none := heldV_none (i := i + 1) (by rw [htk, heldV_snoc, hh]; simp only [Option.bind_some, stepV, readP_of inc ru, hz])
   refine J.move rfl rfl ?_; refine J.extract rfl rfl rfl ?_; refine J.extract rfl rfl rfl ?_; refine J.extract rfl rfl rfl ?_; refine J.alloc Ty.zIt rfl rfl (fun b7 => ?_); refine J.storeW (cs := cH zH) (vs := cH zH) Ty.s28 rfl rfl rfl rfl rfl (one_cH (x := zH) rfl) zu ?_; refine J.assign rfl rfl ?_; refine J.assign rfl rfl ?_; refine J.nil ?_; refine JX.thenN (hK7 _ _ ?_); refine JC.seq (fun K8 hK8 => ?_); refine JC.seq (fun K9 hK9 => ?_); refine JC.region ?_; refine J.move rfl rfl ?_; refine J.not rfl rfl ?_; refine J.move rfl rfl ?_
   first | refine J.skip rfl rfl rfl rfl rfl ?_ | refine J.skipU rfl rfl rfl rfl ?_ | (refine J.unguard rfl rfl rfl ?_; refine J.move rfl rfl ?_)
   first | refine J.skip rfl rfl rfl rfl rfl ?_ | refine J.skipU rfl rfl rfl rfl ?_ | (refine J.unguard rfl rfl rfl ?_; refine J.bin rfl rfl rfl rfl ?_)
   first | refine J.skip rfl rfl rfl rfl rfl ?_ | refine J.skipU rfl rfl rfl rfl ?_ | (refine J.unguard rfl rfl rfl ?_; refine J.move rfl rfl ?_)
   first | refine J.skip rfl rfl rfl rfl rfl ?_ | refine J.skipU rfl rfl rfl rfl ?_ | (refine J.unguard rfl rfl rfl ?_; refine J.move rfl rfl ?_)
   first | refine J.skip rfl rfl rfl rfl rfl ?_ | refine J.skipU rfl rfl rfl rfl ?_ | (refine J.unguard rfl rfl rfl ?_; refine J.move rfl rfl ?_)
   first | refine J.skip rfl rfl rfl rfl rfl ?_ | refine J.skipU rfl rfl rfl rfl ?_ | (refine J.unguard rfl rfl rfl ?_; refine J.nilCheck rfl rfl ?_)
   first | refine J.skip rfl rfl rfl rfl rfl ?_ | refine J.skipU rfl rfl rfl rfl ?_ | (refine J.unguard rfl rfl rfl ?_; refine J.fieldAddr Ty.fd74_2 rfl rfl ?_)
   first | refine J.skip rfl rfl rfl rfl rfl ?_ | refine J.skipU rfl rfl rfl rfl ?_ | (refine J.unguard rfl rfl rfl ?_; refine J.loadO Ty.a2 rfl zm (by exact rfl) rfl ?_)
   first | refine J.skip rfl rfl rfl rfl rfl ?_ | refine J.skipU rfl rfl rfl rfl ?_ | (refine J.unguard rfl rfl rfl ?_; refine J.bin rfl rfl rfl rfl ?_)
   first | refine J.skip rfl rfl rfl rfl rfl ?_ | refine J.skipU rfl rfl rfl rfl ?_ | (refine J.unguard rfl rfl rfl ?_; (first | refine J.pickT rfl rfl rfl ?_ | refine J.pickF rfl rfl rfl ?_))
   (first | refine J.pickT rfl rfl rfl ?_ | refine J.pickF rfl rfl rfl ?_)
   refine J.nil ?_; refine JX.thenN (hK9 _ _ ?_)
   first | refine JC.condT rfl ?_ | refine JC.cond rfl (fun _ => ?_) (fun h => by first | (exfalso; simp at h; omega) | (simp at h))
   refine JC.seq (fun K10 hK10 => ?_); refine JC.region ?_; refine J.assign rfl rfl ?_; refine J.assign rfl rfl ?_; refine J.assign rfl rfl ?_; refine J.nil ?_; refine JX.thenN (hK10 _ _ ?_); refine JC.ret ?_; refine JX.thenR ?_; refine JX.blockR ?_; refine JX.thenR ?_; refine JX.thenR ?_; refine JX.blockR ?_; refine JX.thenR ?_; refine JX.ret3 rfl rfl rfl rfl (fun w1 hw => ?_)
   exact ⟨.no, rfl, hg, hw.drop (List.nil_sublist _)⟩
  ·simp only [RdR.Pr, RdR.lst, List.nil_append] at hz ⊢
   refine J.name 23 rfl (show _ = Value.tuple #[.agg (cH zH).toArray, .int .i64 ((m9 : Nat) : Int), .bool true] from rfl) ?_
   have hb9 := readP_incb hz
   by_cases hm9 : m9 ≤ inc
   ·have hg : heldV rs = none := heldV_none (i := i + 1) (by rw [htk, heldV_snoc, hh]; simp only [Option.bind_some, stepV, readP_of inc ru, hz]; rw [if_pos hm9])
    refine J.move rfl rfl ?_; refine J.extract rfl rfl rfl ?_; refine J.extract rfl rfl rfl ?_; refine J.extract rfl rfl rfl ?_; refine J.alloc Ty.zIt rfl rfl (fun b7 => ?_); refine J.storeW (cs := cH zH) (vs := cH zH) Ty.s28 rfl rfl rfl rfl rfl (one_cH (x := zH) rfl) zu ?_; refine J.assign rfl rfl ?_; refine J.assign rfl rfl ?_; refine J.nil ?_; refine JX.thenN (hK7 _ _ ?_); refine JC.seq (fun K11 hK11 => ?_); refine JC.seq (fun K12 hK12 => ?_); refine JC.region ?_; refine J.move rfl rfl ?_; refine J.not rfl rfl ?_; refine J.move rfl rfl ?_
    first | refine J.skip rfl rfl rfl rfl rfl ?_ | refine J.skipU rfl rfl rfl rfl ?_ | (refine J.unguard rfl rfl rfl ?_; refine J.move rfl rfl ?_)
    refine J.unguard rfl rfl rfl ?_; refine J.bin rfl rfl rfl rfl ?_; refine J.name 31 rfl (show _ = Value.bool true by simp; omega) ?_
    first | refine J.skip rfl rfl rfl rfl rfl ?_ | refine J.skipU rfl rfl rfl rfl ?_ | (refine J.unguard rfl rfl rfl ?_; refine J.move rfl rfl ?_)
    first | refine J.skip rfl rfl rfl rfl rfl ?_ | refine J.skipU rfl rfl rfl rfl ?_ | (refine J.unguard rfl rfl rfl ?_; refine J.move rfl rfl ?_)
    first | refine J.skip rfl rfl rfl rfl rfl ?_ | refine J.skipU rfl rfl rfl rfl ?_ | (refine J.unguard rfl rfl rfl ?_; refine J.move rfl rfl ?_)
    first | refine J.skip rfl rfl rfl rfl rfl ?_ | refine J.skipU rfl rfl rfl rfl ?_ | (refine J.unguard rfl rfl rfl ?_; refine J.nilCheck rfl rfl ?_)
    first | refine J.skip rfl rfl rfl rfl rfl ?_ | refine J.skipU rfl rfl rfl rfl ?_ | (refine J.unguard rfl rfl rfl ?_; refine J.fieldAddr Ty.fd74_2 rfl rfl ?_)
    refine J.unguard rfl rfl rfl ?_; refine J.load1 (v := .int .i64 ((inc : Nat) : Int)) Ty.a2 rfl (fun w1 hw => by rw [cell_of (hw.own ((b11, cb [.pointer none, .slice ay ys.length cy, .int .i64 ((inc : Nat) : Int)] 74)) zm)]; rfl) rfl ?_; refine J.unguard rfl rfl rfl ?_; refine J.bin rfl rfl rfl rfl ?_; refine J.name 38 rfl (show _ = Value.bool true by simp; omega) ?_
    first | refine J.skip rfl rfl rfl rfl rfl ?_ | refine J.skipU rfl rfl rfl rfl ?_ | (refine J.unguard rfl rfl rfl ?_; (first | refine J.pickT rfl rfl rfl ?_ | refine J.pickF rfl rfl rfl ?_))
    (first | refine J.pickT rfl rfl rfl ?_ | refine J.pickF rfl rfl rfl ?_)
    refine J.nil ?_; refine JX.thenN (hK12 _ _ ?_)
    first | refine JC.condT rfl ?_ | refine JC.cond rfl (fun _ => ?_) (fun h => by first | (exfalso; simp at h; omega) | (simp at h))
    refine JC.seq (fun K13 hK13 => ?_); refine JC.region ?_; refine J.assign rfl rfl ?_; refine J.assign rfl rfl ?_; refine J.assign rfl rfl ?_; refine J.nil ?_; refine JX.thenN (hK13 _ _ ?_); refine JC.ret ?_; refine JX.thenR ?_; refine JX.blockR ?_; refine JX.thenR ?_; refine JX.thenR ?_; refine JX.blockR ?_; refine JX.thenR ?_; refine JX.ret3 rfl rfl rfl rfl (fun w1 hw => ?_)
    exact ⟨.no, rfl, hg, hw.drop (List.nil_sublist _)⟩
   ·have hst : heldV (rs.take (i + 1)) = some (m9, A) := by rw [htk, heldV_snoc, hh]; simp only [Option.bind_some, stepV, readP_of inc ru, hz]; rw [if_neg hm9]
    refine J.move rfl rfl ?_; refine J.extract rfl rfl rfl ?_; refine J.extract rfl rfl rfl ?_; refine J.extract rfl rfl rfl ?_; refine J.alloc Ty.zIt rfl rfl (fun b7 => ?_); refine J.storeW (cs := cH zH) (vs := cH zH) Ty.s28 rfl rfl rfl rfl rfl (one_cH (x := zH) rfl) zu ?_; refine J.assign rfl rfl ?_; refine J.assign rfl rfl ?_; refine J.nil ?_; refine JX.thenN (hK7 _ _ ?_); refine JC.seq (fun K14 hK14 => ?_); refine JC.seq (fun K15 hK15 => ?_); refine JC.region ?_; refine J.move rfl rfl ?_; refine J.not rfl rfl ?_; refine J.move rfl rfl ?_
    first | refine J.skip rfl rfl rfl rfl rfl ?_ | refine J.skipU rfl rfl rfl rfl ?_ | (refine J.unguard rfl rfl rfl ?_; refine J.move rfl rfl ?_)
    refine J.unguard rfl rfl rfl ?_; refine J.bin rfl rfl rfl rfl ?_; refine J.name 31 rfl (show _ = Value.bool true by simp; omega) ?_
    first | refine J.skip rfl rfl rfl rfl rfl ?_ | refine J.skipU rfl rfl rfl rfl ?_ | (refine J.unguard rfl rfl rfl ?_; refine J.move rfl rfl ?_)
    first | refine J.skip rfl rfl rfl rfl rfl ?_ | refine J.skipU rfl rfl rfl rfl ?_ | (refine J.unguard rfl rfl rfl ?_; refine J.move rfl rfl ?_)
    first | refine J.skip rfl rfl rfl rfl rfl ?_ | refine J.skipU rfl rfl rfl rfl ?_ | (refine J.unguard rfl rfl rfl ?_; refine J.move rfl rfl ?_)
    first | refine J.skip rfl rfl rfl rfl rfl ?_ | refine J.skipU rfl rfl rfl rfl ?_ | (refine J.unguard rfl rfl rfl ?_; refine J.nilCheck rfl rfl ?_)
    first | refine J.skip rfl rfl rfl rfl rfl ?_ | refine J.skipU rfl rfl rfl rfl ?_ | (refine J.unguard rfl rfl rfl ?_; refine J.fieldAddr Ty.fd74_2 rfl rfl ?_)
    refine J.unguard rfl rfl rfl ?_; refine J.load1 (v := .int .i64 ((inc : Nat) : Int)) Ty.a2 rfl (fun w1 hw => by rw [cell_of (hw.own ((b11, cb [.pointer none, .slice ay ys.length cy, .int .i64 ((inc : Nat) : Int)] 74)) zm)]; rfl) rfl ?_; refine J.unguard rfl rfl rfl ?_; refine J.bin rfl rfl rfl rfl ?_; refine J.name 38 rfl (show _ = Value.bool false by simp; omega) ?_
    first | refine J.skip rfl rfl rfl rfl rfl ?_ | refine J.skipU rfl rfl rfl rfl ?_ | (refine J.unguard rfl rfl rfl ?_; (first | refine J.pickT rfl rfl rfl ?_ | refine J.pickF rfl rfl rfl ?_))
    (first | refine J.pickT rfl rfl rfl ?_ | refine J.pickF rfl rfl rfl ?_)
    refine J.nil ?_; refine JX.thenN (hK15 _ _ ?_)
    first | refine JC.condF rfl ?_ | refine JC.cond rfl (fun h => by first | (exfalso; simp at h; omega) | (simp at h)) (fun _ => ?_)
    refine JC.skip ?_; refine JX.thenN (hK14 _ _ ?_); refine JC.seq (fun K16 hK16 => ?_); refine JC.region ?_; refine J.move rfl rfl ?_; refine J.bin rfl rfl rfl rfl ?_; refine J.name 42 rfl (show _ = Value.bool true by simp; omega) ?_; refine J.nil ?_; refine JX.thenN (hK16 _ _ ?_)
    first | refine JC.condT rfl ?_ | refine JC.cond rfl (fun _ => ?_) (fun h => by first | (exfalso; simp at h; omega) | (simp at h))
    refine JC.region ?_; refine J.move rfl rfl ?_; refine J.move rfl rfl ?_; refine J.nilCheck rfl rfl ?_; refine J.fieldAddr Ty.fd74_2 rfl rfl ?_; refine J.perm ((b11, cb [.pointer none, .slice ay ys.length cy, .int .i64 ((inc : Nat) : Int)] 74) :: ((b7, cb (cH zH) 28) :: (ly ++ lpsH ys))) zp ?_; refine J.storeO (cs := [.pointer none, .slice ay ys.length cy, .int .i64 ((inc : Nat) : Int)]) (vs := [.int .i64 ((m9 : Nat) : Int)]) (l' := (b11, cb [.pointer none, .slice ay ys.length cy, .int .i64 ((m9 : Nat) : Int)] 74) :: ((b7, cb (cH zH) 28) :: (ly ++ lpsH ys))) Ty.s2 rfl rfl rfl rfl (fun v hv => by rw [List.mem_singleton.1 hv]; rfl) .here (by show _ ≤ 3; omega) ?_; refine J.nil ?_; refine JX.blockN ?_; refine JX.thenN (hK6 _ _ ?_); refine JC.region ?_; refine J.move rfl rfl ?_
    (first | refine J.addN rfl rfl (by omega) (by omega) rfl ?_ | refine J.bin rfl rfl rfl rfl ?_)
    refine J.assign rfl rfl ?_; refine J.nil ?_; refine JX.thenN ?_; refine JX.again (⟨i + 1, m9, A, ys, .slice ay ys.length cy, ly⟩ : HdS) ?_ ?_ ?_
    ·simp only; omega
    ·exact ⟨rfl, rfl, rfl, trivial⟩
    ·exact fun w1 hw => ⟨⟨hlt, hst, hb9.2, hS, hV, Nat.le_succ_of_le hyl, hv⟩, (hw.perm (zp : List.Perm _ ((b7, cb (cH zH) 28) :: ((b11, cb [.pointer none, .slice ay ys.length cy, .int .i64 ((m9 : Nat) : Int)] 74) :: (ly ++ lpsH ys))))).drop (List.sublist_cons_self _ _)⟩
  ·obtain ⟨key9, ver9, bs9, sv9, lp9⟩ := h9
   simp only [RdR.Pr, RdR.lst] at hz ⊢
   obtain ⟨hz1, hz2, hz3⟩ := hz
   obtain ⟨a9, c9, rfl, hc9⟩ := hz3.form
   refine J.name 23 rfl (show _ = Value.tuple #[.agg (cT key9 ver9 (.slice a9 bs9.length c9)).toArray, .int .i64 0, .bool true] from rfl) ?_
   have hst : heldV (rs.take (i + 1)) = some (inc, takeV A (⟨key9, ver9, bs9, .slice a9 bs9.length c9, lp9⟩ : HI).it) := by rw [htk, heldV_snoc, hh]; simp only [Option.bind_some, stepV, readP_of inc ru, hz1]
   refine J.move rfl rfl ?_; refine J.extract rfl rfl rfl ?_; refine J.extract rfl rfl rfl ?_; refine J.extract rfl rfl rfl ?_; refine J.alloc Ty.zIt rfl rfl (fun b7 => ?_); refine J.storeW (cs := cH zH) (vs := (cT key9 ver9 (.slice a9 bs9.length c9))) Ty.s28 rfl rfl rfl rfl rfl one_cT zu ?_; refine J.assign rfl rfl ?_; refine J.assign rfl rfl ?_; refine J.nil ?_; refine JX.thenN (hK7 _ _ ?_); refine JC.seq (fun K17 hK17 => ?_); refine JC.seq (fun K18 hK18 => ?_); refine JC.region ?_; refine J.move rfl rfl ?_; refine J.not rfl rfl ?_; refine J.move rfl rfl ?_
   first | refine J.skip rfl rfl rfl rfl rfl ?_ | refine J.skipU rfl rfl rfl rfl ?_ | (refine J.unguard rfl rfl rfl ?_; refine J.move rfl rfl ?_)
   refine J.unguard rfl rfl rfl ?_; refine J.bin rfl rfl rfl rfl ?_; refine J.name 31 rfl (show _ = Value.bool false by simp) ?_
   first | refine J.skip rfl rfl rfl rfl rfl ?_ | refine J.skipU rfl rfl rfl rfl ?_ | (refine J.unguard rfl rfl rfl ?_; refine J.move rfl rfl ?_)
   first | refine J.skip rfl rfl rfl rfl rfl ?_ | refine J.skipU rfl rfl rfl rfl ?_ | (refine J.unguard rfl rfl rfl ?_; refine J.move rfl rfl ?_)
   first | refine J.skip rfl rfl rfl rfl rfl ?_ | refine J.skipU rfl rfl rfl rfl ?_ | (refine J.unguard rfl rfl rfl ?_; refine J.move rfl rfl ?_)
   first | refine J.skip rfl rfl rfl rfl rfl ?_ | refine J.skipU rfl rfl rfl rfl ?_ | (refine J.unguard rfl rfl rfl ?_; refine J.nilCheck rfl rfl ?_)
   first | refine J.skip rfl rfl rfl rfl rfl ?_ | refine J.skipU rfl rfl rfl rfl ?_ | (refine J.unguard rfl rfl rfl ?_; refine J.fieldAddr Ty.fd74_2 rfl rfl ?_)
   first | refine J.skip rfl rfl rfl rfl rfl ?_ | refine J.skipU rfl rfl rfl rfl ?_ | (refine J.unguard rfl rfl rfl ?_; refine J.loadO Ty.a2 rfl zm (by exact rfl) rfl ?_)
   first | refine J.skip rfl rfl rfl rfl rfl ?_ | refine J.skipU rfl rfl rfl rfl ?_ | (refine J.unguard rfl rfl rfl ?_; refine J.bin rfl rfl rfl rfl ?_)
   first | refine J.skip rfl rfl rfl rfl rfl ?_ | refine J.skipU rfl rfl rfl rfl ?_ | (refine J.unguard rfl rfl rfl ?_; (first | refine J.pickT rfl rfl rfl ?_ | refine J.pickF rfl rfl rfl ?_))
   (first | refine J.pickT rfl rfl rfl ?_ | refine J.pickF rfl rfl rfl ?_)
   refine J.nil ?_; refine JX.thenN (hK18 _ _ ?_)
   first | refine JC.condF rfl ?_ | refine JC.cond rfl (fun h => by first | (exfalso; simp at h; omega) | (simp at h)) (fun _ => ?_)
   refine JC.skip ?_; refine JX.thenN (hK17 _ _ ?_); refine JC.seq (fun K19 hK19 => ?_); refine JC.region ?_; refine J.move rfl rfl ?_; refine J.bin rfl rfl rfl rfl ?_; refine J.name 42 rfl (show _ = Value.bool false by simp) ?_; refine J.nil ?_; refine JX.thenN (hK19 _ _ ?_)
   first | refine JC.condF rfl ?_ | refine JC.cond rfl (fun h => by first | (exfalso; simp at h; omega) | (simp at h)) (fun _ => ?_)
   refine JC.region ?_; refine J.move rfl rfl ?_; refine J.loadA (vs := (cT key9 ver9 (.slice a9 bs9.length c9))) Ty.a28 Ty.s28 rfl rfl (fun w1 hw => Cells.of_block (hw.own ((b7, cb (cT key9 ver9 (.slice a9 bs9.length c9)) 28)) zm) rfl) rfl ?_; refine J.perm ((((b11, cb [.pointer none, .slice ay ys.length cy, .int .i64 ((inc : Nat) : Int)] 74) :: ly)) ++ ((b7, cb (cT key9 ver9 (.slice a9 bs9.length c9)) 28) :: (lp9 ++ lpsH ys))) zp ?_
   refine J.callS (α := Bool × Value × List (Nat × Obj)) (V := fun x => .bool x.1) (Pr := fun x => (x.1 = false ∧ (∃ y, y ∈ ys ∧ y.key = key9 ∧ newB ver9 y.ver = false) ∧ x.2.1 = .slice ay ys.length cy ∧ x.2.2 = ly) ∨ (x.1 = true ∧ (∀ y, y ∈ ys → y.key = key9 → newB ver9 y.ver = true) ∧ Vec 28 34 x.2.1 (insH ys (⟨key9, ver9, bs9, .slice a9 bs9.length c9, lp9⟩ : HI)).length ((insH ys (⟨key9, ver9, bs9, .slice a9 bs9.length c9, lp9⟩ : HI)).flatMap cH) x.2.2)) (L := fun x => (b11, cb [.pointer none, x.2.1, .int .i64 ((inc : Nat) : Int)] 74) :: x.2.2) Ty.bd58 rfl rfl (fun w1 hw => (rtake_spec b11 (.pointer none) ((inc : Nat) : Int) ys _ ly hv (fun y hy => by obtain ⟨a, c, h1, _⟩ := (hV y hy).2.form; exact ⟨a, c, h1⟩) (by omega) _ key9 ver9 bs9 a9 bs9.length c9 lp9 w1 rfl (St.owns hw)).mono fun _ _ h => by
    rcases h with ⟨h1, h2, h3⟩ | ⟨h1, h2, v7, l7, h3, h4⟩
    ·exact ⟨(false, _, _), h1, .inl ⟨rfl, h2, rfl, rfl⟩, h3⟩
    ·exact ⟨(true, v7, l7), h1, .inr ⟨rfl, h2, h3⟩, h4⟩) (fun x hx => ?_)
   obtain ⟨q7, v7, l7⟩ := x
   try simp only at hx ⊢
   rcases hx with ⟨rfl, hx1, rfl, rfl⟩ | ⟨rfl, hx1, hx2⟩
   ·have hkp := srt_keep (x := (⟨key9, ver9, bs9, .slice a9 bs9.length c9, lp9⟩ : HI)) hS hx1
    rw [hkp] at hst
    refine J.nil ?_; refine JX.blockN ?_; refine JX.thenN (hK6 _ _ ?_); refine JC.region ?_; refine J.move rfl rfl ?_
    (first | refine J.addN rfl rfl (by omega) (by omega) rfl ?_ | refine J.bin rfl rfl rfl rfl ?_)
    refine J.assign rfl rfl ?_; refine J.nil ?_; refine JX.thenN ?_; refine JX.again (⟨i + 1, inc, A, ys, .slice ay ys.length cy, l7⟩ : HdS) ?_ ?_ ?_
    ·simp only; omega
    ·exact ⟨rfl, rfl, rfl, trivial⟩
    ·exact fun w1 hw => ⟨⟨hlt, hst, hinc, hS, hV, Nat.le_succ_of_le hyl, hv⟩, (hw.perm (zp : List.Perm _ (((b7, cb (cT key9 ver9 (.slice a9 bs9.length c9)) 28) :: lp9) ++ ((b11, cb [.pointer none, .slice ay ys.length cy, .int .i64 ((inc : Nat) : Int)] 74) :: (l7 ++ lpsH ys))))).drop (List.sublist_append_right _ _)⟩
   ·have hkp := srt_ins (x := (⟨key9, ver9, bs9, .slice a9 bs9.length c9, lp9⟩ : HI)) hS hx1
    have hil := insH_len ys (⟨key9, ver9, bs9, .slice a9 bs9.length c9, lp9⟩ : HI)
    refine J.nil ?_; refine JX.blockN ?_; refine JX.thenN (hK6 _ _ ?_); refine JC.region ?_; refine J.move rfl rfl ?_
    (first | refine J.addN rfl rfl (by omega) (by omega) rfl ?_ | refine J.bin rfl rfl rfl rfl ?_)
    refine J.assign rfl rfl ?_; refine J.nil ?_; refine JX.thenN ?_; refine JX.again (⟨i + 1, inc, takeV A (⟨key9, ver9, bs9, .slice a9 bs9.length c9, lp9⟩ : HI).it, insH ys (⟨key9, ver9, bs9, .slice a9 bs9.length c9, lp9⟩ : HI), v7, l7⟩ : HdS) ?_ ?_ ?_
    ·simp only; omega
    ·exact ⟨rfl, rfl, rfl, trivial⟩
    ·exact fun w1 hw => ⟨⟨hlt, hst, hinc, hkp, hV.ins ⟨hz2, hz3⟩, by simp only; omega, hx2⟩, by
      have h1 := hw.perm (zp : List.Perm _ ((lp9 ++ lpsH ys) ++ ((b11, cb [.pointer none, v7, .int .i64 ((inc : Nat) : Int)] 74) :: (l7 ++ [(b7, cb (cT key9 ver9 (.slice a9 bs9.length c9)) 28)]))))
      have h2 := (insH_sub ys (⟨key9, ver9, bs9, .slice a9 bs9.length c9, lp9⟩ : HI)).st h1
      exact (h2.perm (zp : List.Perm _ ((b7, cb (cT key9 ver9 (.slice a9 bs9.length c9)) 28) :: ((b11, cb [.pointer none, v7, .int .i64 ((inc : Nat) : Int)] 74) :: (l7 ++ lpsH (insH ys (⟨key9, ver9, bs9, .slice a9 bs9.length c9, lp9⟩ : HI))))))).drop (List.sublist_cons_self _ _)⟩
 ·have hge : i = rs.length := by simp at h0; omega
  rw [hge, List.take_of_length_le (Nat.le_refl _)] at hh
  refine JC.exit ?_; refine JX.thenE ?_; refine JX.thenE ?_; refine JX.blockE ?_; refine JX.thenN (hK2 _ _ ?_); refine JC.seq (fun K20 hK20 => ?_)
  apply JC.drawX (α := Nat × Unit) 11 (fun x => match x with | ⟨xu, uu⟩ => [.pointer (some ⟨b11, 0, none⟩), .pointer (some ⟨b11, 0, none⟩), .pointer (some ⟨b11, 0 + 1, none⟩), .slice ay ys.length cy, .pointer (some ⟨b11, 0, none⟩), .pointer (some ⟨b11, 0, none⟩), .pointer (some ⟨b11, 0 + 2, none⟩), .int .i64 ((inc : Nat) : Int), .slice ay ys.length cy, .int .i64 ((inc : Nat) : Int), .bool true]) (fun m x => match x with | ⟨xu, uu⟩ => fun w1 => (True) ∧ St w [] ((b11, cb [.pointer none, .slice ay ys.length cy, .int .i64 ((inc : Nat) : Int)] 74) :: (ly ++ lpsH ys)) w1) Ty.mixed rfl rfl rfl (by kernel_rfl) rfl rfl ?hinit ?hstep ?htail
  case hinit => exact fun w1 hw => ⟨(0, ()), trivial, hw.drew⟩
  case hstep =>
   refine ⟨fun m x hm hp => ?_, fun m x hm hp => ?_, fun m x hm hp => ?_, fun m x hm hp => ?_, fun m x hm hp => ?_, fun m x hm hp => ?_, fun m x hm hp => ?_, fun m x hm hp => ?_, fun m x hm hp => ?_, fun m x hm hp => ?_, fun m x hm hp => ?_, trivial⟩
   ·obtain ⟨xu, uu⟩ := x
    show J _ _ _ _ _ (_) _
    refine J.pr (fun hF => ?_); refine J.move rfl rfl ?_
    exact J.finX rfl (fun _ hw => ⟨⟨xu, uu⟩, rfl, fun _ _ _ => rfl, hF, hw⟩)
   ·obtain ⟨xu, uu⟩ := x
    show J _ _ _ _ _ ((50, .pointer (some ⟨b11, 0, none⟩)) :: _) _
    refine J.pr (fun hF => ?_); refine J.nilCheck rfl rfl ?_
    exact J.finX rfl (fun _ hw => ⟨⟨xu, uu⟩, rfl, fun _ _ _ => rfl, hF, hw⟩)
   ·obtain ⟨xu, uu⟩ := x
    show J _ _ _ _ _ ((51, .pointer (some ⟨b11, 0, none⟩)) :: _) _
    refine J.pr (fun hF => ?_); refine J.fieldAddr Ty.fd74_1 rfl rfl ?_
    exact J.finX rfl (fun _ hw => ⟨⟨xu, uu⟩, rfl, fun _ _ _ => rfl, hF, hw⟩)
   ·obtain ⟨xu, uu⟩ := x
    show J _ _ _ _ _ ((52, .pointer (some ⟨b11, 0 + 1, none⟩)) :: _) _
    refine J.pr (fun hF => ?_); refine J.load1 (v := .slice ay ys.length cy) Ty.a44 rfl (fun w1 hw => by rw [cell_of (hw.own ((b11, cb [.pointer none, .slice ay ys.length cy, .int .i64 ((inc : Nat) : Int)] 74)) zm)]; rfl) rfl ?_
    exact J.finX rfl (fun _ hw => ⟨⟨xu, uu⟩, rfl, fun _ _ _ => rfl, hF, hw⟩)
   ·obtain ⟨xu, uu⟩ := x
    show J _ _ _ _ _ (_) _
    refine J.pr (fun hF => ?_); refine J.move rfl rfl ?_
    exact J.finX rfl (fun _ hw => ⟨⟨xu, uu⟩, rfl, fun _ _ _ => rfl, hF, hw⟩)
   ·obtain ⟨xu, uu⟩ := x
    show J _ _ _ _ _ ((54, .pointer (some ⟨b11, 0, none⟩)) :: _) _
    refine J.pr (fun hF => ?_); refine J.nilCheck rfl rfl ?_
    exact J.finX rfl (fun _ hw => ⟨⟨xu, uu⟩, rfl, fun _ _ _ => rfl, hF, hw⟩)
   ·obtain ⟨xu, uu⟩ := x
    show J _ _ _ _ _ ((55, .pointer (some ⟨b11, 0, none⟩)) :: _) _
    refine J.pr (fun hF => ?_); refine J.fieldAddr Ty.fd74_2 rfl rfl ?_
    exact J.finX rfl (fun _ hw => ⟨⟨xu, uu⟩, rfl, fun _ _ _ => rfl, hF, hw⟩)
   ·obtain ⟨xu, uu⟩ := x
    show J _ _ _ _ _ ((56, .pointer (some ⟨b11, 0 + 2, none⟩)) :: _) _
    refine J.pr (fun hF => ?_); refine J.load1 (v := .int .i64 ((inc : Nat) : Int)) Ty.a2 rfl (fun w1 hw => by rw [cell_of (hw.own ((b11, cb [.pointer none, .slice ay ys.length cy, .int .i64 ((inc : Nat) : Int)] 74)) zm)]; rfl) rfl ?_
    exact J.finX rfl (fun _ hw => ⟨⟨xu, uu⟩, rfl, fun _ _ _ => rfl, hF, hw⟩)
   ·obtain ⟨xu, uu⟩ := x
    show J _ _ _ _ _ ((53, .slice ay ys.length cy) :: (52, .pointer (some ⟨b11, 0 + 1, none⟩)) :: (51, .pointer (some ⟨b11, 0, none⟩)) :: (50, .pointer (some ⟨b11, 0, none⟩)) :: (53, .slice ay ys.length cy) :: _) _
    refine J.pr (fun hF => ?_); refine J.assign rfl rfl ?_
    exact J.finX rfl (fun _ hw => ⟨⟨xu, uu⟩, rfl, fun _ _ _ => rfl, hF, hw⟩)
   ·obtain ⟨xu, uu⟩ := x
    show J _ _ _ _ _ ((2, .slice ay ys.length cy) :: (57, .int .i64 ((inc : Nat) : Int)) :: (56, .pointer (some ⟨b11, 0 + 2, none⟩)) :: (55, .pointer (some ⟨b11, 0, none⟩)) :: (54, .pointer (some ⟨b11, 0, none⟩)) :: (53, .slice ay ys.length cy) :: (52, .pointer (some ⟨b11, 0 + 1, none⟩)) :: (51, .pointer (some ⟨b11, 0, none⟩)) :: (50, .pointer (some ⟨b11, 0, none⟩)) :: (2, .slice ay ys.length cy) :: (57, .int .i64 ((inc : Nat) : Int)) :: _) _
    refine J.pr (fun hF => ?_); refine J.assign rfl rfl ?_
    exact J.finX rfl (fun _ hw => ⟨⟨xu, uu⟩, rfl, fun _ _ _ => rfl, hF, hw⟩)
   ·obtain ⟨xu, uu⟩ := x
    show J _ _ _ _ _ ((3, .int .i64 ((inc : Nat) : Int)) :: (2, .slice ay ys.length cy) :: (57, .int .i64 ((inc : Nat) : Int)) :: (56, .pointer (some ⟨b11, 0 + 2, none⟩)) :: (55, .pointer (some ⟨b11, 0, none⟩)) :: (54, .pointer (some ⟨b11, 0, none⟩)) :: (53, .slice ay ys.length cy) :: (52, .pointer (some ⟨b11, 0 + 1, none⟩)) :: (51, .pointer (some ⟨b11, 0, none⟩)) :: (50, .pointer (some ⟨b11, 0, none⟩)) :: (3, .int .i64 ((inc : Nat) : Int)) :: _) _
    refine J.pr (fun hF => ?_); refine J.assign rfl rfl ?_
    exact J.finX rfl (fun _ hw => ⟨⟨xu, uu⟩, rfl, fun _ _ _ => rfl, hF, hw⟩)
  case htail =>
   intro x
   obtain ⟨xu, uu⟩ := x
   show J _ _ _ _ _ ((4, .bool true) :: (3, .int .i64 ((inc : Nat) : Int)) :: (2, .slice ay ys.length cy) :: (57, .int .i64 ((inc : Nat) : Int)) :: (56, .pointer (some ⟨b11, 0 + 2, none⟩)) :: (55, .pointer (some ⟨b11, 0, none⟩)) :: (54, .pointer (some ⟨b11, 0, none⟩)) :: (53, .slice ay ys.length cy) :: (52, .pointer (some ⟨b11, 0 + 1, none⟩)) :: (51, .pointer (some ⟨b11, 0, none⟩)) :: (50, .pointer (some ⟨b11, 0, none⟩)) :: _) (fun w1 => (True) ∧ St w [] ((b11, cb [.pointer none, .slice ay ys.length cy, .int .i64 ((inc : Nat) : Int)] 74) :: (ly ++ lpsH ys)) w1)
   refine J.pr (fun hF => ?_); refine J.nil ?_; refine JX.thenN (hK20 _ _ ?_); refine JC.ret ?_; refine JX.ret3 rfl rfl rfl rfl (fun w1 hw => ?_)
   exact ⟨.ok inc A ys (.slice ay ys.length cy) ly, rfl, ⟨hh, hS, hV, by omega, hinc, hv⟩, hw.drop (List.sublist_cons_self _ _)⟩

end Go.Proofs.Ytoaenmlhehcjfaa
/-
 The document's Open: contract.
-/
namespace Go.Proofs.Ytoaenmlhehcjfaa
open Go.J Go.RowKit
set_option linter.unusedVariables false
set_option linter.unusedSimpArgs false
set_option maxRecDepth 8000
theorem rappend_all (lb r n : Nat) (q : LogP) (down : Bool) (v : Value) (lp : List (Nat × Obj)) (B rec_ : List UInt8) (p k : Int) (a : Option Addr) (m c : Nat) (w : World) (hw0 : Own w ((lb, rlO r q down) :: (r, rfO v p k) :: lp)) (hv : Vec 5 1 v (64 * n) (B.map u8) lp) (hB : B.length = 64 * n) (hn : n ≤ 4096) (hn3 : 3 ≤ n) (hg : q.gen < 9223372036854775808) (hu : q.used ≤ n - 2) (hcn : q.cnt ≤ q.used) (hk : 0 ≤ k) (hk2 : k < 4611686018427380000) (hp : p < 9223372036854775808) (hml : rec_.length = m) (hm47 : m ≤ 140737488351232) (hr : Row w (.slice a m c) m (rec_.map u8)) (hoff : Off (lb :: r :: lp.map (·.1)) (.slice a m c) (rec_.map u8)) {x : Int × LogP × Bool × DS} (hx : appendP n q down ⟨B, p, k⟩ rec_ = x) :
  Calls Try.prog 28 [.pointer (some ⟨lb, 0, none⟩), .slice a m c].toArray w fun ρ w' => ∃ lp', ρ = .returned (.int .i64 x.1) ∧ Vec 5 1 v (64 * n) (x.2.2.2.B.map u8) lp' ∧ St w (lb :: r :: lp.map (·.1)) ((lb, rlO r x.2.1 x.2.2.1) :: (r, rfO v x.2.2.2.p x.2.2.2.k) :: lp') w' := by
 subst hx
 exact rappend_spec lb r n q down v lp B rec_ p k a m c w hw0 hv hB hn hn3 hg hu hcn hk hk2 hp hml hm47 hr hoff
inductive RO where
 | bad (e : Int) (σ : DS) (lp : List (Nat × Obj))
 | ok (vb lb : Nat) (q : LogP) (inc : Nat) (A : List ItV) (ys : List HI) (yv : Value) (yl : List (Nat × Obj)) (σ : DS) (lp : List (Nat × Obj))
def RO.val : RO → Value
 | .bad e _ _ => .tuple #[.pointer none, .int .i64 e]
 | .ok vb _ _ _ _ _ _ _ _ _ => .tuple #[.pointer (some ⟨vb, 0, none⟩), .int .i64 0]
/-- the blocks of the document's vault -/
abbrev rvB (vb lb rd : Nat) (v : Value) (q : LogP) (down : Bool) (inc : Nat) (yv : Value) (σ : DS) : List (Nat × Obj) := [(vb, cb [.pointer (some ⟨lb, 0, none⟩), yv, .int .i64 ((inc : Nat) : Int)] 74), (lb, rlO rd q down), (rd, rfO v σ.p σ.k)]
def RO.lst (rd : Nat) (v : Value) : RO → List (Nat × Obj)
 | .bad _ σ lp => (rd, rfO v σ.p σ.k) :: lp
 | .ok vb lb q inc _ ys yv yl σ lp => rvB vb lb rd v q false inc yv σ ++ (lp ++ (yl ++ lpsH ys))
def RO.Pr (n : Nat) (σ : DS) (v : Value) : RO → Prop
 | .bad e σ' lp => vopenP n σ = (e, none, σ') ∧ e ≠ 0 ∧ Vec 5 1 v (64 * n) (σ'.B.map u8) lp
 | .ok _ _ q inc A ys yv yl σ' lp => vopenP n σ = (0, some (q, inc, A), σ') ∧ SrtOf A (ys.map HI.it) ∧ VOK ys ∧ ys.length ≤ 4096 ∧ Vec 28 34 yv (ys).length ((ys).flatMap cH) yl ∧ Vec 5 1 v (64 * n) (σ'.B.map u8) lp

set_option maxHeartbeats 1000000 in
theorem ropen18_spec (rd n : Nat) (v : Value) (lp : List (Nat × Obj)) (B : List UInt8) (p k : Int) (w : World) (hw0 : Own w ((rd, rfO v p k) :: lp)) (hv : Vec 5 1 v (64 * n) (B.map u8) lp) (hB : B.length = 64 * n) (hn : n ≤ 4096) (hk : 0 ≤ k) (hk2 : k < 4611686018427380000) (hp : p < 9223372036854775808) :
  Calls Try.prog 30 [.pointer (some ⟨rd, 0, none⟩)].toArray w fun r w' => ∃ z : RO, r = .returned z.val ∧ z.Pr n ⟨B, p, k⟩ v ∧ St w (rd :: lp.map (·.1)) (z.lst rd v) w' := by
 refine calls_of_J (args := [.pointer (some ⟨rd, 0, none⟩)]) (e := [(0, .pointer (some ⟨rd, 0, none⟩))]) Try.func30 rfl rfl ⟨rfl, trivial⟩ (show St w (rd :: lp.map (·.1)) ((rd, rfO v p k) :: lp) w from hw0.st) ?_; refine JC.seq (fun K0 hK0 => ?_); refine JC.region ?_; refine J.assign rfl rfl ?_; refine J.assign rfl rfl ?_; refine J.nil ?_; refine JX.thenN (hK0 _ _ ?_); refine JC.seq (fun K1 hK1 => ?_)
 rcases ho : openP B n with ⟨e0, _ | q⟩
 ·have he0 := openP_e ho
  have hg : vopenP n ⟨B, p, k⟩ = (e0, none, ⟨B, p, k⟩) := vopenP_bad ho
  refine JC.region ?_; refine J.move rfl rfl ?_; refine J.callB (v := .tuple #[.pointer none, .slice none 0 0, .int .i64 e0]) (fun w1 w2 hw hb => hw.step hb) Ty.bd27 rfl rfl (fun w1 hw => by have h9 := ropen_spec rd n v lp B p k w1 (St.owns' hw) hv hB hn; rw [ho] at h9; exact h9) ?_; refine J.move rfl rfl ?_; refine J.extract rfl rfl rfl ?_; refine J.extract rfl rfl rfl ?_; refine J.extract rfl rfl rfl ?_; refine J.assign rfl rfl ?_; refine J.assign rfl rfl ?_; refine J.assign rfl rfl ?_; refine J.nil ?_; refine JX.thenN (hK1 _ _ ?_); refine JC.seq (fun K2 hK2 => ?_); refine JC.seq (fun K3 hK3 => ?_); refine JC.region ?_; refine J.move rfl rfl ?_; refine J.bin rfl rfl rfl rfl ?_; refine J.name 17 rfl (show _ = Value.bool true by simp [he0]) ?_; refine J.nil ?_; refine JX.thenN (hK3 _ _ ?_)
  first | refine JC.condT rfl ?_ | refine JC.cond rfl (fun _ => ?_) (fun h => by first | (exfalso; simp at h; omega) | (simp at h))
  refine JC.seq (fun K4 hK4 => ?_); refine JC.region ?_; refine J.move rfl rfl ?_; refine J.assign rfl rfl ?_; refine J.assign rfl rfl ?_; refine J.nil ?_; refine JX.thenN (hK4 _ _ ?_); refine JC.ret ?_; refine JX.thenR ?_; refine JX.ret2 rfl rfl rfl (fun w1 hw => ?_)
  exact ⟨.bad e0 ⟨B, p, k⟩ lp, rfl, ⟨hg, he0, hv⟩, hw⟩
 ·have hol := openP_len ho hn
  obtain ⟨hn3, hgl, hul, hcl_, hrl⟩ := hol
  refine JC.region ?_; refine J.move rfl rfl ?_; refine J.perm ([] ++ ((rd, rfO v p k) :: lp)) (.refl _) ?_
  refine J.callS (α := Nat × Value × List Value × List (Nat × Obj) × List (Nat × Obj)) (V := fun x => .tuple #[.pointer (some ⟨x.1, 0, none⟩), x.2.1, .int .i64 0]) (Pr := fun x => Vec 26 1 x.2.1 q.recs.length x.2.2.1 x.2.2.2.1 ∧ Recs 5 x.2.2.1 q.recs x.2.2.2.2) (L := fun x => (x.1, rlO rd q false) :: (x.2.2.2.1 ++ x.2.2.2.2)) (l1 := []) Ty.bd27 rfl rfl (fun w1 hw => by
   have h9 := ropen_spec rd n v lp B p k w1 (St.owns' hw) hv hB hn
   rw [ho] at h9
   exact h9.mono fun _ _ ⟨b, v, vs, lv, lps, h1, h2, h3, h4⟩ => ⟨(b, v, vs, lv, lps), h1, ⟨h2, h3⟩, h4⟩) (fun x hx => ?_)
  obtain ⟨lb, vv, vs, lvv, lps⟩ := x
  obtain ⟨hvv, hrecs⟩ := hx
  try simp only at hvv hrecs ⊢
  obtain ⟨ar, cr, rfl, hcr⟩ := hvv.form
  have hvl := hrecs.length
  refine J.perm ((lb, rlO rd q false) :: (lvv ++ (lps ++ ((rd, rfO v p k) :: lp)))) zp ?_; refine J.move rfl rfl ?_; refine J.extract rfl rfl rfl ?_; refine J.extract rfl rfl rfl ?_; refine J.extract rfl rfl rfl ?_; refine J.assign rfl rfl ?_; refine J.assign rfl rfl ?_; refine J.assign rfl rfl ?_; refine J.nil ?_; refine JX.thenN (hK1 _ _ ?_); refine JC.seq (fun K5 hK5 => ?_); refine JC.seq (fun K6 hK6 => ?_); refine JC.region ?_; refine J.move rfl rfl ?_; refine J.bin rfl rfl rfl rfl ?_; refine J.name 17 rfl (show _ = Value.bool false by simp) ?_; refine J.nil ?_; refine JX.thenN (hK6 _ _ ?_)
  first | refine JC.condF rfl ?_ | refine JC.cond rfl (fun h => by first | (exfalso; simp at h; omega) | (simp at h)) (fun _ => ?_)
  refine JC.skip ?_; refine JX.thenN (hK5 _ _ ?_); refine JC.seq (fun K7 hK7 => ?_); refine JC.region ?_; refine J.move rfl rfl ?_; refine J.perm ([] ++ ((lb, rlO rd q false) :: (lvv ++ (lps ++ ((rd, rfO v p k) :: lp))))) (.refl _) ?_
  refine J.callS (α := HdR) (V := HdR.val) (Pr := fun z => z.Pr q.recs) (L := HdR.lst) (l1 := []) Ty.bd57 rfl rfl (fun w1 hw => rheld_spec _ q.recs w1 (RowRecs.of (l := (lb, rlO rd q false) :: (rd, rfO v p k) :: lp) hvv hrecs (hw.perm zp)) (by omega) (fun r9 hr9 => by
   obtain ⟨i9, hi9⟩ := List.mem_iff_getElem?.1 hr9
   have := openP_size ho hi9
   omega)) (fun z hz => ?_)
  rcases z with _ | ⟨inc, A, ys, yv, yl⟩
  ·simp only [HdR.Pr, HdR.lst, List.nil_append] at hz ⊢
   refine J.name 21 rfl (show _ = Value.tuple #[.slice none 0 0, .int .i64 0, .bool false] from rfl) ?_
   have hg : vopenP n ⟨B, p, k⟩ = (2, none, ⟨B, p, k⟩) := vopenP_form (σ := ⟨B, p, k⟩) ho hz
   refine J.move rfl rfl ?_; refine J.extract rfl rfl rfl ?_; refine J.extract rfl rfl rfl ?_; refine J.extract rfl rfl rfl ?_; refine J.assign rfl rfl ?_; refine J.assign rfl rfl ?_; refine J.assign rfl rfl ?_; refine J.nil ?_; refine JX.thenN (hK7 _ _ ?_); refine JC.seq (fun K8 hK8 => ?_); refine JC.seq (fun K9 hK9 => ?_); refine JC.region ?_; refine J.move rfl rfl ?_; refine J.not rfl rfl ?_; refine J.nil ?_; refine JX.thenN (hK9 _ _ ?_)
   first | refine JC.condT rfl ?_ | refine JC.cond rfl (fun _ => ?_) (fun h => by first | (exfalso; simp at h; omega) | (simp at h))
   refine JC.seq (fun K10 hK10 => ?_); refine JC.region ?_; refine J.assign rfl rfl ?_; refine J.assign rfl rfl ?_; refine J.nil ?_; refine JX.thenN (hK10 _ _ ?_); refine JC.ret ?_; refine JX.thenR ?_; refine JX.ret2 rfl rfl rfl (fun w1 hw => ?_)
   exact ⟨.bad 2 ⟨B, p, k⟩ lp, rfl, ⟨hg, by decide, hv⟩, (hw.perm (zp : List.Perm _ (((lb, rlO rd q false) :: (lvv ++ lps)) ++ ((rd, rfO v p k) :: lp)))).drop (List.sublist_append_right _ _)⟩
  ·simp only [HdR.Pr, HdR.lst] at hz ⊢
   obtain ⟨hh, hS, hV, hyl, hinc, hyv⟩ := hz
   obtain ⟨ay, cy, rfl, hcy⟩ := hyv.form
   refine J.name 21 rfl (show _ = Value.tuple #[.slice ay ys.length cy, .int .i64 ((inc : Nat) : Int), .bool true] from rfl) ?_
   refine J.conseq (I' := St w (rd :: lp.map (·.1)) ((lb, rlO rd q false) :: (rd, rfO v p k) :: (lp ++ (yl ++ lpsH ys)))) ?_ (fun w1 hw => (hw.perm (zp : List.Perm _ ((lvv ++ lps) ++ ((lb, rlO rd q false) :: (rd, rfO v p k) :: (lp ++ (yl ++ lpsH ys)))))).drop (List.sublist_append_right _ _))
   refine J.move rfl rfl ?_; refine J.extract rfl rfl rfl ?_; refine J.extract rfl rfl rfl ?_; refine J.extract rfl rfl rfl ?_; refine J.assign rfl rfl ?_; refine J.assign rfl rfl ?_; refine J.assign rfl rfl ?_; refine J.nil ?_; refine JX.thenN (hK7 _ _ ?_); refine JC.seq (fun K11 hK11 => ?_); refine JC.seq (fun K12 hK12 => ?_); refine JC.region ?_; refine J.move rfl rfl ?_; refine J.not rfl rfl ?_; refine J.nil ?_; refine JX.thenN (hK12 _ _ ?_)
   first | refine JC.condF rfl ?_ | refine JC.cond rfl (fun h => by first | (exfalso; simp at h; omega) | (simp at h)) (fun _ => ?_)
   refine JC.skip ?_; refine JX.thenN (hK11 _ _ ?_); refine JC.seq (fun K13 hK13 => ?_); refine JC.seq (fun K14 hK14 => ?_); refine JC.region ?_; refine J.move rfl rfl ?_; refine J.bin rfl rfl rfl rfl ?_; refine J.nil ?_; refine JX.thenN (hK14 _ _ ?_); refine JC.cond rfl (fun h2 => ?_) (fun h2 => ?_)
   ·have hg : vopenP n ⟨B, p, k⟩ = (5, none, ⟨B, p, k⟩) := vopenP_full (σ := ⟨B, p, k⟩) ho hh (by simp at h2; omega)
    refine JC.seq (fun K15 hK15 => ?_); refine JC.region ?_; refine J.assign rfl rfl ?_; refine J.assign rfl rfl ?_; refine J.nil ?_; refine JX.thenN (hK15 _ _ ?_); refine JC.ret ?_; refine JX.thenR ?_; refine JX.ret2 rfl rfl rfl (fun w1 hw => ?_)
    exact ⟨.bad 5 ⟨B, p, k⟩ lp, rfl, ⟨hg, by decide, hv⟩, (hw.perm (zp : List.Perm _ (((lb, rlO rd q false) :: (yl ++ lpsH ys)) ++ ((rd, rfO v p k) :: lp)))).drop (List.sublist_append_right _ _)⟩
   ·have hi9 : ¬ inc = 1048576 := by simp at h2; omega
    refine JC.skip ?_; refine JX.thenN (hK13 _ _ ?_); refine JC.seq (fun K16 hK16 => ?_); refine JC.region ?_; refine J.move rfl rfl ?_; refine J.perm ([] ++ ((lb, rlO rd q false) :: (rd, rfO v p k) :: (lp ++ (yl ++ lpsH ys)))) (.refl _) ?_; refine J.callS (α := Value × List (Nat × Obj)) (V := (·.1)) (Pr := fun x => Vec 5 1 x.1 (numB 1).length ((numB 1).map u8) x.2) (L := (·.2)) (l1 := []) Ty.bd41 rfl rfl (fun w1 hw => rnum_spec 1 w1 (by omega)) (fun x hv30 => ?_)
    obtain ⟨v30, l30⟩ := x
    simp only at hv30 ⊢
    have hn30 := numB_le 1
    refine J.move rfl rfl ?_; refine J.addN rfl rfl (by omega) (by omega) rfl ?_; refine J.name 32 rfl (show _ = Value.int .i64 ((inc + 1 : Nat) : Int) from congrArg (Value.int .i64) (by omega)) ?_; refine J.convInt Ty.u2 Ty.u81 rfl rfl ?_; refine J.name 33 rfl (show _ = Value.int .u64 ((inc + 1 : Nat) : Int) from congrArg (Value.int .u64) (wrap_u64 (by omega) (by omega))) ?_; refine J.perm ([] ++ (l30 ++ ((lb, rlO rd q false) :: (rd, rfO v p k) :: (lp ++ (yl ++ lpsH ys))))) (.refl _) ?_; refine J.callS (α := Value × List (Nat × Obj)) (V := (·.1)) (Pr := fun x => Vec 5 1 x.1 (numB (inc + 1)).length ((numB (inc + 1)).map u8) x.2) (L := (·.2)) (l1 := []) Ty.bd41 rfl rfl (fun w1 hw => rnum_spec (inc + 1) w1 (by omega)) (fun x hv34 => ?_)
    obtain ⟨v34, l34⟩ := x
    simp only at hv34 ⊢
    have hn34 := numB_le (inc + 1)
    refine J.perm (l30 ++ (l34 ++ ((lb, rlO rd q false) :: (rd, rfO v p k) :: (lp ++ (yl ++ lpsH ys))))) zp ?_; refine J.append (lp := l30) (xs := (numB 1).map u8) (ys := (numB (inc + 1)).map u8) (k := (numB 1).length) (m := (numB (inc + 1)).length) Ty.el26 Ty.s5 Ty.b5 Ty.z5 rfl (.inl ⟨5, Ty.u26⟩) rfl rfl hv30 (fun w1 hw => .inl (hv34.row (l := l30 ++ ((lb, rlO rd q false) :: (rd, rfO v p k) :: (lp ++ (yl ++ lpsH ys)))) (hw.perm zp))) (by rw [List.length_map, Nat.mul_one]) (one_u8 _) (by omega) (by omega) rfl (fun v35 l35 hv35 => ?_)
    rw [← List.map_append, ← List.length_append] at hv35
    rw [show numB 1 ++ numB (inc + 1) = incB (inc + 1) from rfl] at hv35
    obtain ⟨a35, c35, rfl, hc35⟩ := hv35.form
    have hl35 : (incB (inc + 1)).length ≤ 18 := by
     rw [incB, List.length_append]; omega
    obtain ⟨⟨e9, q9, dn9, σ9⟩, hx9⟩ : ∃ x, appendP n q false ⟨B, p, k⟩ (incB (inc + 1)) = x := ⟨_, rfl⟩
    refine J.perm (((lb, rlO rd q false) :: (rd, rfO v p k) :: lp) ++ (l35 ++ (l34 ++ (yl ++ lpsH ys)))) zp ?_; refine J.callS (α := List (Nat × Obj)) (V := fun _ => .int .i64 e9) (Pr := fun x => Vec 5 1 v (64 * n) (σ9.B.map u8) x) (L := fun x => (lb, rlO rd q9 dn9) :: (rd, rfO v σ9.p σ9.k) :: x) (l1 := (lb, rlO rd q false) :: (rd, rfO v p k) :: lp) Ty.bd28 rfl rfl (fun w1 hw => rappend_all lb rd n q false v lp B (incB (inc + 1)) p k a35 _ c35 w1 (St.owns hw) hv hB hn hn3 hgl hul hcl_ hk hk2 hp rfl (by omega) (vec_rowM hv35 hw (fun q hq => by simp [hq])) (vec_offM hv35 (fun p0 hp0 => St.off (l1 := (lb, rlO rd q false) :: (rd, rfO v p k) :: lp) hw (o := p0.2) (by simp [hp0]))) hx9) (fun lp9 hv9 => ?_); refine J.assign rfl rfl ?_; refine J.nil ?_; refine JX.thenN (hK16 _ _ ?_); refine JC.seq (fun K17 hK17 => ?_); refine JC.seq (fun K18 hK18 => ?_); refine JC.region ?_; refine J.move rfl rfl ?_; refine J.bin rfl rfl rfl rfl ?_; refine J.nil ?_; refine JX.thenN (hK18 _ _ ?_); refine JC.cond rfl (fun h3 => ?_) (fun h3 => ?_)
    ·have he9 : e9 ≠ 0 := by simpa using h3
     have hg := vopenP_torn (σ := ⟨B, p, k⟩) ho hh hi9 hx9 he9
     refine JC.seq (fun K19 hK19 => ?_); refine JC.region ?_; refine J.move rfl rfl ?_; refine J.assign rfl rfl ?_; refine J.assign rfl rfl ?_; refine J.nil ?_; refine JX.thenN (hK19 _ _ ?_); refine JC.ret ?_; refine JX.thenR ?_; refine JX.ret2 rfl rfl rfl (fun w1 hw => ?_)
     exact ⟨.bad e9 σ9 lp9, rfl, ⟨hg, he9, hv9⟩, (hw.perm (zp : List.Perm _ (((lb, rlO rd q9 dn9) :: (l35 ++ (l34 ++ (yl ++ lpsH ys)))) ++ ((rd, rfO v σ9.p σ9.k) :: lp9)))).drop (List.sublist_append_right _ _)⟩
    ·have he9 : e9 = 0 := by simpa using h3
     have hg := vopenP_ok (σ := ⟨B, p, k⟩) ho hh hi9 hx9 he9
     have hdn := appendP_dn hx9 he9
     subst hdn
     refine JC.skip ?_; refine JX.thenN (hK17 _ _ ?_); refine JC.seq (fun K20 hK20 => ?_); refine JC.region ?_; refine J.move rfl rfl ?_; refine J.move rfl rfl ?_; refine J.move rfl rfl ?_; refine J.addN rfl rfl (by omega) (by omega) rfl ?_; refine J.name 43 rfl (show _ = Value.int .i64 ((inc + 1 : Nat) : Int) from congrArg (Value.int .i64) (by omega)) ?_; refine J.buildS (cs := [.pointer (some ⟨lb, 0, none⟩), .slice ay ys.length cy, .int .i64 ((inc + 1 : Nat) : Int)]) Ty.pl74 Ty.z74 rfl (by kernel_rfl) rfl ?_; refine J.box rfl rfl rfl (fun b45 => ?_); refine J.assign rfl rfl ?_; refine J.assign rfl rfl ?_; refine J.nil ?_; refine JX.thenN (hK20 _ _ ?_); refine JC.ret ?_; refine JX.ret2 rfl rfl rfl (fun w1 hw => ?_)
     exact ⟨.ok b45 lb q9 (inc + 1) A ys (.slice ay ys.length cy) yl σ9 lp9, rfl, ⟨hg, hS, hV, by omega, hyv, hv9⟩, (hw.perm (zp : List.Perm _ ((l35 ++ l34) ++ (rvB b45 lb rd v q9 false (inc + 1) (.slice ay ys.length cy) σ9 ++ (lp9 ++ (yl ++ lpsH ys)))))).drop (List.sublist_append_right _ _)⟩

end Go.Proofs.Ytoaenmlhehcjfaa
/-
 The two disks; opening doesn't look at the writes done.
-/
namespace Go.Proofs.Ytoaenmlhehcjfaa
open Go.J Go.RowKit
set_option linter.unusedVariables false
set_option linter.unusedSimpArgs false
set_option maxRecDepth 8000
/-- the same disk, other writes done -/
def shiftK (j : Int) (σ : DS) : DS := ⟨σ.B, σ.p, σ.k + j⟩
theorem dws_shift (j : Int) : ∀ (xs : List (Nat × List UInt8)) (σ : DS), dws (shiftK j σ) xs = (shiftK j (dws σ xs).1, (dws σ xs).2) := by
 intro xs
 induction xs with
 | nil => intro σ; rfl
 | cons x xs ih =>
  intro σ
  unfold dws
  have e : (shiftK j σ).p = σ.p := rfl
  rw [e]
  by_cases h : σ.p = 0
  ·rw [if_pos h, if_pos h]
  ·rw [if_neg h, if_neg h, ← ih]
   have e2 : dw (shiftK j σ) x.1 x.2 = shiftK j (dw σ x.1 x.2) := by
    unfold dw shiftK
    simp only [DS.mk.injEq, true_and]
    omega
   rw [e2]
theorem appendP_shift (j : Int) (n : Nat) (q : LogP) (dn : Bool) (σ : DS) (rec_ : List UInt8) : appendP n q dn (shiftK j σ) rec_ = ((appendP n q dn σ rec_).1, (appendP n q dn σ rec_).2.1, (appendP n q dn σ rec_).2.2.1, shiftK j (appendP n q dn σ rec_).2.2.2) := by
 unfold appendP
 split
 ·rfl
 ·split
  ·rfl
  ·split
   ·rfl
   ·rw [dws_shift]
    rcases hd : dws σ (planP q.gen q.used q.cnt rec_) with ⟨σ', b⟩
    cases b <;> rfl
theorem vopenP_shift (j : Int) (n : Nat) (σ : DS) : vopenP n (shiftK j σ) = ((vopenP n σ).1, (vopenP n σ).2.1, shiftK j (vopenP n σ).2.2) := by
 unfold vopenP
 have e : (shiftK j σ).B = σ.B := rfl
 rw [e]
 rcases ho : openP σ.B n with ⟨e0, _ | q⟩
 ·rfl
 ·simp only
  rcases hh : heldV q.recs with _ | ⟨inc, L⟩
  ·rfl
  ·simp only
   by_cases hi : inc = 1048576
   ·rw [if_pos hi, if_pos hi]
   ·rw [if_neg hi, if_neg hi, appendP_shift]
    rcases ha : appendP n q false σ (incB (inc + 1)) with ⟨e9, q9, dn9, σ9⟩
    simp only
    by_cases he : e9 = 0
    ·rw [if_pos he, if_pos he]
    ·rw [if_neg he, if_neg he]
theorem flat1B (m : Nat) : (List.replicate m [Value.int .u8 0]).flatten = (List.replicate m (0 : UInt8)).map u8 := by
 rw [List.map_replicate]
 induction m with
 | zero => rfl
 | succ m ih => rw [List.replicate_succ, List.flatten_cons, ih]; rfl

theorem rnew05_spec (N : Nat) (hN : N = 600) (w : World) :
  Calls Try.prog 26 [.int .i64 600].toArray w fun r w' => ∃ x : Nat × Value × List (Nat × Obj), r = .returned (.pointer (some ⟨x.1, 0, none⟩)) ∧ Vec 5 1 x.2.1 (64 * N) ((List.replicate (64 * N) (0 : UInt8)).map u8) x.2.2 ∧ St w [] ((x.1, rfO x.2.1 (-1) 0) :: x.2.2) w' := by
 subst hN
 refine calls_of_J (args := [.int .i64 600]) (e := [(0, .int .i64 600)]) Try.func26 rfl rfl ⟨rfl, trivial⟩ (St.start w) ?_; refine JC.seq (fun K0 hK0 => ?_); refine JC.region ?_; refine J.assign rfl rfl ?_; refine J.nil ?_; refine JX.thenN (hK0 _ _ ?_); refine JC.seq (fun K1 hK1 => ?_); refine JC.seq (fun K2 hK2 => ?_); refine JC.region ?_; refine J.move rfl rfl ?_; refine J.bin rfl rfl rfl rfl ?_; refine J.nil ?_; refine JX.thenN (hK2 _ _ ?_)
 first | refine JC.condF rfl ?_ | refine JC.cond rfl (fun h => by first | (exfalso; simp at h; omega) | (simp at h)) (fun _ => ?_)
 refine JC.skip ?_; refine JX.thenN (hK1 _ _ ?_); refine JC.seq (fun K3 hK3 => ?_); refine JC.seq (fun K4 hK4 => ?_); refine JC.region ?_; refine J.move rfl rfl ?_; refine J.bin rfl rfl rfl rfl ?_; refine J.nil ?_; refine JX.thenN (hK4 _ _ ?_)
 first | refine JC.condF rfl ?_ | refine JC.cond rfl (fun h => by first | (exfalso; simp at h; omega) | (simp at h)) (fun _ => ?_)
 refine JC.skip ?_; refine JX.thenN (hK3 _ _ ?_); refine JC.seq (fun K5 hK5 => ?_); refine JC.region ?_; refine J.move rfl rfl ?_; refine J.bin rfl rfl rfl rfl ?_; refine J.name 8 rfl (show _ = Value.int .i64 38400 from rfl) ?_; refine J.make Ty.el26 Ty.s5 Ty.b5 Ty.z5 rfl rfl rfl rfl (by omega) (by omega) (by omega) rfl (fun b9 => ?_); refine J.buildS Ty.pl67 Ty.z67 rfl rfl rfl ?_; refine J.box rfl rfl rfl (fun b11 => ?_); refine J.assign rfl rfl ?_; refine J.nil ?_; refine JX.thenN (hK5 _ _ ?_); refine JC.ret ?_; refine JX.ret1 rfl rfl (fun w hw => ?_)
 rw [flat1B, show ((38400 : Int)).toNat = 64 * 600 from rfl] at hw
 exact ⟨(b11, .slice (some ⟨b9, 0, none⟩) (64 * 600) (64 * 600), [(b9, cb ((List.replicate (64 * 600) (0 : UInt8)).map u8) 5)]), rfl, ⟨by rw [List.length_map, List.length_replicate, Nat.mul_one], .inr ⟨b9, 64 * 600, [], rfl, by rw [List.append_nil], by rw [List.append_nil, List.length_map, List.length_replicate, Nat.mul_one], Nat.le_refl _⟩⟩, hw⟩

theorem pair18_spec (a : Option Addr) (m c n : Nat) (bs : List UInt8) (w : World) (hb : Row w (.slice a m c) m (bs.map u8)) (hbl : bs.length = m) (hm : m = 64 * n) (hn : n ≤ 4096) :
  Calls Try.prog 29 [.slice a m c].toArray w fun r w' => ∃ x : Nat × Nat × Nat × Value × List (Nat × Obj), r = .returned (.tuple #[.pointer (some ⟨x.1, 0, none⟩), .pointer (some ⟨x.2.2.1, 0, none⟩)]) ∧ Vec 5 1 x.2.2.2.1 (64 * n) (bs.map u8) x.2.2.2.2 ∧ St w [] ((x.1, dkO x.2.1 n (-1) 0) :: (x.2.1, dkS bs) :: (x.2.2.1, rfO x.2.2.2.1 (-1) 0) :: x.2.2.2.2) w' := by
 subst hm
 refine calls_of_J (args := [.slice a (64 * n) c]) (e := [(0, .slice a (64 * n) c)]) Try.func29 rfl rfl ⟨rfl, trivial⟩ (St.start w) ?_; refine JC.seq (fun K0 hK0 => ?_); refine JC.region ?_; refine J.assign rfl rfl ?_; refine J.assign rfl rfl ?_; refine J.nil ?_; refine JX.thenN (hK0 _ _ ?_); refine JC.seq (fun K1 hK1 => ?_); refine JC.region ?_; refine J.move rfl rfl ?_; refine J.callS (l1 := []) Ty.bd56 rfl rfl (fun w1 hw => of_spec a (64 * n) c n bs w1 (hb.st (.inr (by simp)) hw) hbl rfl hn) (fun y _ => ?_)
 obtain ⟨d, s⟩ := y
 simp only
 refine J.move rfl rfl ?_; refine J.extract rfl rfl rfl ?_; refine J.extract rfl rfl rfl ?_; refine J.assign rfl rfl ?_; refine J.assign rfl rfl ?_; refine J.nil ?_; refine JX.thenN (hK1 _ _ ?_); refine JC.seq (fun K2 hK2 => ?_); refine JC.region ?_; refine J.move rfl rfl ?_; refine J.buildSl Ty.el26 Ty.s5 Ty.z5 rfl rfl rfl rfl rfl rfl rfl (fun b12 => ?_); refine J.move rfl rfl ?_; refine J.append (lp := [(b12, cb [] 5)]) (xs := []) (ys := bs.map u8) (k := 0) (m := 64 * n) Ty.el26 Ty.s5 Ty.b5 Ty.z5 rfl (.inl ⟨5, Ty.u26⟩) rfl rfl ⟨rfl, .inr ⟨b12, 0, [], rfl, rfl, rfl, Nat.le_refl _⟩⟩ (fun w1 hw => .inl (hb.st (.inr (by simp)) hw)) (by simp [hbl]) (one_u8 _) (by omega) (by omega) rfl (fun v1 lp1 hv1 => ?_)
 rw [Nat.zero_add, List.nil_append] at hv1
 obtain ⟨a1, c1, rfl, hc1⟩ := hv1.form
 refine J.buildS Ty.pl67 Ty.z67 rfl rfl rfl ?_; refine J.box rfl rfl rfl (fun b16 => ?_); refine J.assign rfl rfl ?_; refine J.assign rfl rfl ?_; refine J.nil ?_; refine JX.thenN (hK2 _ _ ?_); refine JC.ret ?_; refine JX.ret2 rfl rfl rfl (fun w hw => ?_)
 have hw2 : St _ [] ((b16, rfO (.slice a1 (64 * n) c1) (-1) 0) :: (lp1 ++ [(d, dkO s n (-1) 0), (s, dkS bs)])) w := hw
 exact ⟨(d, s, b16, _, lp1), rfl, hv1, hw2.perm zp⟩

end Go.Proofs.Ytoaenmlhehcjfaa
/-
 VaultOpens: the walk.
-/
namespace Go.Proofs.Ytoaenmlhehcjfaa
open Go.J Go.RowKit
set_option linter.unusedVariables false
set_option linter.unusedSimpArgs false
set_option maxRecDepth 8000
/-- a call, in a region that draws, whose value has a property that stays -/
theorem J.callA {P : Program} {ops : Array Oper} {Q : Exit → Act → World → Prop} {n : Nat} {e : Env} {I : World → Prop} {rest : List Oper} {d t : Nat} {p : String} {af : Array Edge} {f : FuncId} {xs : List Operand} {ats : Array TypeId} {vs : List Value} {wi : World} (A : Value → World → Prop) (hb : bodyT P f = true) (hx : evs e xs = some vs) (hd : Nat.blt d n = true)
  (hc : ∀ w, I w → Calls P f vs.toArray w fun r w' => ∃ v, r = .returned v ∧ A v w' ∧ Bel w w')
  (h : ∀ v, J P ops Q n rest ((d, v) :: e) (fun w => A v w ∧ Bel wi w)) : J P ops Q n (⟨some d, .call ⟨.value (.func f), xs.toArray, ats⟩, t, p, af, none⟩ :: rest) e (fun w => w = wi ∧ I w) := by
 refine J.call (R := fun v' w' => A v' w' ∧ Bel wi w') hb hx hd (fun w hw => ?_) h
 obtain ⟨rfl, hw⟩ := hw
 exact (hc w hw).mono fun r w' ⟨v, h1, h2, h3⟩ => ⟨v, h1, h2, h3⟩
theorem J.two {P : Program} {ops : Array Oper} {Q : Exit → Act → World → Prop} {n : Nat} {e : Env} {I A B : World → Prop} {rest : List Oper} (h : J P ops Q n rest e (fun w => A w ∧ I w)) : J P ops Q n rest e (fun w => A w ∧ (B w ∧ I w)) := h.conseq fun _ hw => ⟨hw.1, hw.2.2⟩
/-- a value that is the sorted list of these items -/
def RowH (A : List ItV) (v : Value) (w : World) : Prop := ∃ ys : List HI, SrtOf A (ys.map HI.it) ∧ ys.length ≤ 5000 ∧ Row w v ys.length (ys.flatMap cH) ∧ ∀ x, x ∈ ys → (∃ a c, x.sv = .slice a x.bs.length c) ∧ Row w x.sv x.bs.length (x.bs.map u8) ∧ okN x.ver.n
theorem RowH.st (A : List ItV) : ∀ v w w', RowH A v w → Bel w w' → RowH A v w' := fun _ _ _ ⟨ys, h1, h2, h3, h4⟩ hb => ⟨ys, h1, h2, h3.below hb, fun x hx => ⟨(h4 x hx).1, (h4 x hx).2.1.below hb, (h4 x hx).2.2⟩⟩
theorem readP_small {inc : Nat} {bs : List UInt8} {x : ItV} (h : readP inc bs = some (.inr x)) : x.bs.length ≤ 64 := by
 unfold readP at h
 split at h
 ·cases h
 ·split at h
  ·split at h <;> cases h
  ·split at h
   ·split at h
    ·cases h
    ·split at h
     ·cases h
     ·split at h
      ·cases h
      ·split at h
       ·cases h
       ·simp only [Option.some.injEq, Sum.inr.injEq] at h
        rw [← h]
        exact getT_len _ _ _
   ·cases h
theorem setV_mem {A : List ItV} {x z : ItV} (h : z ∈ setV A x) : z = x ∨ z ∈ A := by
 unfold setV at h
 split at h
 ·obtain ⟨y, hy, rfl⟩ := List.mem_map.1 h
  split
  ·exact .inl rfl
  ·exact .inr hy
 ·rcases List.mem_append.1 h with h | h
  ·exact .inr h
  ·exact .inl (List.mem_singleton.1 h)
theorem setV_len (A : List ItV) (x : ItV) : (setV A x).length ≤ A.length + 1 := by
 unfold setV
 split <;> simp
theorem takeV_mem {A : List ItV} {x z : ItV} (h : z ∈ takeV A x) : z = x ∨ z ∈ A := by
 unfold takeV at h
 split at h
 ·exact setV_mem h
 ·split at h
  ·exact setV_mem h
  ·exact .inr h
theorem takeV_len (A : List ItV) (x : ItV) : (takeV A x).length ≤ A.length + 1 := by
 unfold takeV
 split
 ·exact setV_len A x
 ·split
  ·exact setV_len A x
  ·omega
theorem held_small : ∀ (n : Nat) (rs : List (List UInt8)), rs.length = n → ∀ (inc : Nat) (A : List ItV), heldV rs = some (inc, A) → A.length ≤ rs.length ∧ ∀ x, x ∈ A → x.bs.length ≤ 64 := by
 intro n
 induction n with
 | zero =>
  intro rs hl inc A h
  obtain rfl := List.eq_nil_of_length_eq_zero hl
  simp only [heldV, List.foldl_nil, Option.some.injEq, Prod.mk.injEq] at h
  rw [← h.2]
  exact ⟨Nat.le_refl _, fun x hx => (by cases hx)⟩
 | succ n ih =>
  intro rs hl inc A h
  have hne : rs ≠ [] := fun e => by rw [e] at hl; cases hl
  rw [← List.dropLast_concat_getLast hne] at h ⊢
  rw [heldV_snoc] at h
  rcases h1 : heldV rs.dropLast with _ | ⟨inc0, A0⟩
  ·rw [h1] at h; cases h
  ·obtain ⟨i1, i2⟩ := ih rs.dropLast (by rw [List.length_dropLast, hl]; rfl) inc0 A0 h1
   rw [h1] at h
   simp only [Option.bind_some, stepV] at h
   rw [List.length_append, List.length_singleton]
   split at h
   ·cases h
   ·simp only [Option.some.injEq, Prod.mk.injEq] at h
    rw [← h.2]
    exact ⟨by omega, i2⟩
   ·rename_i x hx
    simp only [Option.some.injEq, Prod.mk.injEq] at h
    rw [← h.2]
    refine ⟨Nat.le_trans (takeV_len _ _) (by omega), fun z hz => ?_⟩
    rcases takeV_mem hz with rfl | hz
    ·exact readP_small hx
    ·exact i2 z hz
theorem vopen_small {n inc : Nat} {q q' : LogP} {σ σ' : DS} {A : List ItV} (hn : n ≤ 4096) (hI : LogI n q σ) (h : vopenP n σ = (0, some (q', inc, A), σ')) : A.length ≤ n ∧ (∀ x, x ∈ A → x.bs.length ≤ 64) := by
 have hb := openP_len hI.open_ hn
 unfold vopenP at h
 rw [hI.open_] at h
 simp only at h
 rcases hh : heldV q.recs with _ | ⟨inc0, A0⟩
 ·rw [hh] at h; cases h
 ·rw [hh] at h
  simp only at h
  obtain ⟨h1, h2⟩ := held_small _ _ rfl _ _ hh
  split at h
  ·cases h
  ·split at h
   ·simp only [Prod.mk.injEq, Option.some.injEq, true_and] at h
    rw [← h.1.2.2]
    exact ⟨by omega, h2⟩
   ·rename_i he
    simp only [Prod.mk.injEq] at h
    exact absurd h.1 he
theorem vopen_len {n : Nat} {q : LogP} {σ σ' : DS} {e : Int} {o : Option (LogP × Nat × List ItV)} (hI : LogI n q σ) (hn : n ≤ 4096) (hg : q.gen + 1 < 9223372036854775808) (h : vopenP n σ = (e, o, σ')) : σ'.B.length = 64 * n := by
 unfold vopenP at h
 rw [hI.open_] at h
 simp only at h
 rcases hh : heldV q.recs with _ | ⟨inc0, A0⟩
 ·rw [hh] at h
  simp only [Prod.mk.injEq] at h
  rw [← h.2.2]; exact hI.len
 ·rw [hh] at h
  simp only at h
  obtain ⟨e9, q9, d9, σ9, h9, hI9, _⟩ := append_law (n := n) (down := false) (rec_ := incB (inc0 + 1)) hn hI hg
  split at h
  ·simp only [Prod.mk.injEq] at h
   rw [← h.2.2]; exact hI.len
  ·rw [h9] at h
   simp only at h
   split at h
   ·simp only [Prod.mk.injEq] at h
    rw [← h.2.2]; exact hI9.len
   ·simp only [Prod.mk.injEq] at h
    rw [← h.2.2]; exact hI9.len
theorem ropen_good (r n : Nat) (v : Value) (lp : List (Nat × Obj)) (q : LogP) (σ : DS) (w : World) (hw0 : Own w ((r, rfO v σ.p σ.k) :: lp)) (hv : Vec 5 1 v (64 * n) (σ.B.map u8) lp) (h : LogI n q σ) (hn : n ≤ 4096) :
  Calls Try.prog 27 [.pointer (some ⟨r, 0, none⟩)].toArray w fun ρ w' => ∃ x : Nat × Value × List Value × List (Nat × Obj) × List (Nat × Obj), ρ = .returned (.tuple #[.pointer (some ⟨x.1, 0, none⟩), x.2.1, .int .i64 0]) ∧ (Vec 26 1 x.2.1 q.recs.length x.2.2.1 x.2.2.2.1 ∧ Recs 5 x.2.2.1 q.recs x.2.2.2.2) ∧ St w [] ((x.1, rlO r q false) :: (x.2.2.2.1 ++ x.2.2.2.2)) w' := by
 have h1 := ropen_spec r n v lp σ.B σ.p σ.k w hw0 hv h.len hn
 rw [h.open_] at h1
 exact h1.mono fun _ _ ⟨b, v, vs, lv, lps, e1, e2, e3, e4⟩ => ⟨(b, v, vs, lv, lps), e1, ⟨e2, e3⟩, e4⟩
theorem dws_p : ∀ (xs : List (Nat × List UInt8)) (σ : DS), σ.p < 0 → (dws σ xs).1.p = σ.p := by
 intro xs
 induction xs with
 | nil => intro σ _; rfl
 | cons x xs ih =>
  intro σ h
  unfold dws
  rw [if_neg (by omega)]
  have e : (dw σ x.1 x.2).p = σ.p := by unfold dw; simp only; rw [if_neg (by omega)]
  rw [ih _ (by rw [e]; exact h), e]
theorem appendP_p {n : Nat} {q : LogP} {dn : Bool} {σ : DS} {rec_ : List UInt8} (h : σ.p < 0) : (appendP n q dn σ rec_).2.2.2.p = σ.p := by
 unfold appendP
 split
 ·rfl
 ·split
  ·rfl
  ·split
   ·rfl
   ·have h1 := dws_p (planP q.gen q.used q.cnt rec_) σ h
    rcases hd : dws σ (planP q.gen q.used q.cnt rec_) with ⟨σ', b⟩
    rw [hd] at h1
    cases b <;> exact h1
/-- the law's disk is opened as the document's -/
theorem vopen_two {n : Nat} {σ : DS} (hp : σ.p = -1) : vopenP n ⟨σ.B, σ.p, σ.k⟩ = ((vopenP n ⟨σ.B, -1, 0⟩).1, (vopenP n ⟨σ.B, -1, 0⟩).2.1, shiftK σ.k (vopenP n ⟨σ.B, -1, 0⟩).2.2) := by
 have e : (⟨σ.B, σ.p, σ.k⟩ : DS) = shiftK σ.k ⟨σ.B, -1, 0⟩ := by unfold shiftK; rw [hp]; simp
 rw [e, vopenP_shift]
structure OpS where
 i : Nat
 q : LogP
 dn : Bool
 σ : DS
 lp : List (Nat × Obj)
structure OpI (N : Nat) (v0 : Value) (st : OpS) : Prop where
 i : st.i ≤ 81
 log : LogI N st.q st.σ
 gen : st.q.gen ≤ st.i
 k0 : 0 ≤ st.σ.k
 kb : st.σ.k ≤ 19 * (st.i : Int)
 p : st.σ.p = -1
 vec : Vec 5 1 v0 (64 * N) (st.σ.B.map u8) st.lp

set_option maxHeartbeats 2000000 in
theorem vaultOpensL_spec (v : Value) (rs : List (List UInt8)) (w : World) (hr : RowRecs w v rs) (hrb : ∀ r, r ∈ rs → r.length ≤ 140737488351232) :
  Calls Try.prog 8 [v].toArray w fun r w' => r = .returned (.bool true) ∧ Bel w w' := by
 obtain ⟨vs, hrow, hvl, hre⟩ := hr
 obtain ⟨a, c, rfl, hc, _⟩ := id hrow
 obtain ⟨N, hN⟩ : ∃ N : Nat, N = 600 := ⟨_, rfl⟩
 refine calls_of_J (args := [.slice a rs.length c]) (e := [(0, .slice a rs.length c)]) Try.func8 rfl rfl ⟨rfl, trivial⟩ (St.start w) ?_; refine JC.seq (fun K0 hK0 => ?_); refine JC.region ?_; refine J.assign rfl rfl ?_; refine J.nil ?_; refine JX.thenN (hK0 _ _ ?_); refine JC.seq (fun K1 hK1 => ?_); refine JC.region ?_; refine J.callS (α := Nat × Value × List (Nat × Obj)) (V := fun x => .pointer (some ⟨x.1, 0, none⟩)) (Pr := fun x => Vec 5 1 x.2.1 (64 * N) ((List.replicate (64 * N) (0 : UInt8)).map u8) x.2.2) (L := fun x => (x.1, rfO x.2.1 (-1) 0) :: x.2.2) (l1 := []) (l := []) Ty.bd26 rfl rfl (fun w1 hw => rnew05_spec N hN w1) (fun x hx => ?_)
 obtain ⟨rd, v0, lp0⟩ := x
 obtain ⟨σ0, hσ0⟩ : ∃ σ0 : DS, σ0 = ⟨List.replicate (64 * N) 0, -1, 0⟩ := ⟨_, rfl⟩
 obtain ⟨a0, c0, hv00, hc0⟩ := hx.form
 have hv0 : Vec 5 1 v0 (64 * N) (σ0.B.map u8) lp0 := by rw [hσ0]; exact hx
 try simp only at hv00
 subst hv00
 have hp0 : σ0.p = -1 := by rw [hσ0]
 have hk00 : σ0.k = 0 := by rw [hσ0]
 have hI0 : LogI N ⟨0, 0, 0, []⟩ σ0 := by rw [hσ0]; exact logI_zero (by omega) (by omega) _ _ (by omega)
 refine J.conseq (I' := St w [] ((rd, rfO (.slice a0 (64 * N) c0) σ0.p σ0.k) :: lp0)) ?_ (fun w1 hw => by rw [hσ0]; exact hw.perm zp)
 refine J.assign rfl rfl ?_; refine J.nil ?_; refine JX.thenN (hK1 _ _ ?_); refine JC.seq (fun K2 hK2 => ?_); refine JC.region ?_; refine J.move rfl rfl ?_; refine J.perm ([] ++ ((rd, rfO (.slice a0 (64 * N) c0) σ0.p σ0.k) :: lp0)) (.refl _) ?_; refine J.callS (l1 := []) Ty.bd27 rfl rfl (fun w1 hw => ropen_good rd N _ lp0 ⟨0, 0, 0, []⟩ σ0 w1 (St.owns' hw) hv0 hI0 (by omega)) (fun x hx => ?_)
 obtain ⟨lb, va, vsa, lva, lpa⟩ := x
 obtain ⟨hva, -⟩ := hx
 try simp only at hva ⊢
 obtain ⟨aa, ca, rfl, hca⟩ := hva.form
 refine J.conseq (I' := St w [] ((lb, rlO rd ⟨0, 0, 0, []⟩ false) :: (rd, rfO (.slice a0 (64 * N) c0) σ0.p σ0.k) :: lp0)) ?_ (fun w1 hw => (hw.perm (zp : List.Perm _ ((lva ++ lpa) ++ ((lb, rlO rd ⟨0, 0, 0, []⟩ false) :: (rd, rfO (.slice a0 (64 * N) c0) σ0.p σ0.k) :: lp0)))).drop (List.sublist_append_right _ _))
 refine J.move rfl rfl ?_; refine J.extract rfl rfl rfl ?_; refine J.extract rfl rfl rfl ?_; refine J.extract rfl rfl rfl ?_; refine J.assign rfl rfl ?_; refine J.assign rfl rfl ?_; refine J.assign rfl rfl ?_; refine J.nil ?_; refine JX.thenN (hK2 _ _ ?_); refine JC.seq (fun K3 hK3 => ?_); refine JC.seq (fun K4 hK4 => ?_); refine JC.region ?_; refine J.move rfl rfl ?_; refine J.bin rfl rfl rfl rfl ?_; refine J.name 23 rfl (show _ = Value.bool false by simp) ?_; refine J.move rfl rfl ?_; refine J.unguard rfl rfl rfl ?_; refine J.callB (v := .bool true) (fun w1 w2 hw hb => hw.step hb) Ty.bd10 rfl rfl (fun w1 hw => fixed18_spec w1) ?_
 first | refine J.skip rfl rfl rfl rfl rfl ?_ | refine J.skipU rfl rfl rfl rfl ?_ | (refine J.unguard rfl rfl rfl ?_; refine J.not rfl rfl ?_)
 (first | refine J.pickT rfl rfl rfl ?_ | refine J.pickF rfl rfl rfl ?_)
 refine J.nil ?_; refine JX.thenN (hK4 _ _ ?_)
 first | refine JC.condF rfl ?_ | refine JC.cond rfl (fun h => by first | (exfalso; simp at h; omega) | (simp at h)) (fun _ => ?_)
 refine JC.skip ?_; refine JX.thenN (hK3 _ _ ?_); refine JC.seqCut (α := OpS) (fun st => [(3, .pointer (some ⟨rd, 0, none⟩))]) (fun st w' => OpI N (.slice a0 (64 * N) c0) st ∧ St w [] ((rd, rfO (.slice a0 (64 * N) c0) st.σ.p st.σ.k) :: st.lp) w') (fun st => ?_) (fun K5 hK5 => ?_)
 ·obtain ⟨i, q, dn, σ, lp⟩ := st
  refine JC.pr (fun hI => ?_)
  try simp only
  obtain ⟨hi81, hlog, hgen, hk0, hkb, hp, hv⟩ := id hI
  try simp only at hi81 hlog hgen hk0 hkb hp hv
  have hbb := openP_len hlog.open_ (by omega)
  refine JC.seq (fun K6 hK6 => ?_); refine JC.region ?_; refine J.move rfl rfl ?_; refine J.nilCheck rfl rfl ?_; refine J.fieldAddr Ty.fd67_0 rfl rfl ?_; refine J.load1 (v := .slice a0 (64 * N) c0) Ty.a26 rfl (fun w1 hw => by rw [cell_of (hw.own ((rd, rfO (.slice a0 (64 * N) c0) σ.p σ.k)) zm)]; rfl) rfl ?_; refine J.perm ([] ++ ((rd, rfO (.slice a0 (64 * N) c0) σ.p σ.k) :: lp)) (.refl _) ?_; refine J.callS (l1 := []) Ty.bd29 rfl rfl (fun w1 hw => pair18_spec a0 (64 * N) c0 N σ.B w1 (vec_rowM hv hw zq) hlog.len rfl (by omega)) (fun x hx => ?_)
  obtain ⟨d, s, r2, v2, lp2⟩ := x
  try simp only
  refine J.conseq (I' := St w [] ([(d, dkO s N (-1) 0), (s, dkS σ.B)] ++ ((rd, rfO (.slice a0 (64 * N) c0) σ.p σ.k) :: lp))) ?_ (fun w1 hw => (hw.perm (zp : List.Perm _ (((r2, rfO v2 (-1) 0) :: lp2) ++ ([(d, dkO s N (-1) 0), (s, dkS σ.B)] ++ ((rd, rfO (.slice a0 (64 * N) c0) σ.p σ.k) :: lp))))).drop (List.sublist_append_right _ _))
  refine J.move rfl rfl ?_; refine J.extract rfl rfl rfl ?_; refine J.extract rfl rfl rfl ?_; refine J.assign rfl rfl ?_; refine J.assign rfl rfl ?_; refine J.nil ?_; refine JX.thenN (hK6 _ _ ?_); refine JC.seq (fun K7 hK7 => ?_); refine JC.seq (fun K8 hK8 => ?_); refine JC.region ?_; refine J.move rfl rfl ?_; refine J.eqNil Ty.u34 rfl rfl rfl ?_; refine J.nil ?_; refine JX.thenN (hK8 _ _ ?_)
  first | refine JC.condF rfl ?_ | refine JC.cond rfl (fun h => by first | (exfalso; simp at h; omega) | (simp at h)) (fun _ => ?_)
  refine JC.skip ?_; refine JX.thenN (hK7 _ _ ?_); refine JC.seq (fun K9 hK9 => ?_); refine JC.region ?_; refine J.move rfl rfl ?_
  have htwo := vopen_two (n := N) hp
  have hlz : LogI N q ⟨σ.B, -1, 0⟩ := ⟨hlog.len, hlog.open_, by show (-1 : Int) < 9223372036854775808; omega⟩
  refine J.callS (α := VO) (V := VO.val) (Pr := fun z => z.Pr N ⟨σ.B, -1, 0⟩) (L := fun z => z.lst d s N) Ty.bd17 rfl rfl (fun w1 hw => vopen_spec d s N σ.B (-1) 0 w1 (St.owns hw) hlog.len (by omega) (by omega) (by omega) (by omega)) (fun z hz => ?_)
  rcases z with ⟨e1, σ1⟩ | ⟨v1, m1, l1, q1, inc1, L1, es1, ck1, σ1⟩
  ·simp only [VO.Pr, VO.lst] at hz ⊢
   obtain ⟨hz1, he1⟩ := hz
   have hlen9 : σ1.B.length = 64 * N := vopen_len hlz (by omega) (by omega) hz1
   rw [hz1] at htwo
   simp only at htwo
   refine J.name 53 rfl (show _ = Value.tuple #[.pointer none, .int .i64 e1] from rfl) ?_; refine J.move rfl rfl ?_; refine J.extract rfl rfl rfl ?_; refine J.extract rfl rfl rfl ?_; refine J.assign rfl rfl ?_; refine J.assign rfl rfl ?_; refine J.nil ?_; refine JX.thenN (hK9 _ _ ?_); refine JC.seq (fun K10 hK10 => ?_); refine JC.region ?_; refine J.move rfl rfl ?_; refine J.perm (((rd, rfO (.slice a0 (64 * N) c0) σ.p σ.k) :: lp) ++ [(d, dkO s N σ1.p σ1.k), (s, dkS σ1.B)]) zp ?_; refine J.callS (α := RO) (V := RO.val) (Pr := fun z => z.Pr N ⟨σ.B, σ.p, σ.k⟩ (.slice a0 (64 * N) c0)) (L := fun z => z.lst rd (.slice a0 (64 * N) c0)) (l1 := (rd, rfO (.slice a0 (64 * N) c0) σ.p σ.k) :: lp) Ty.bd30 rfl rfl (fun w1 hw => ropen18_spec rd N _ lp σ.B σ.p σ.k w1 (St.owns hw) hv hlog.len (by omega) hk0 (by omega) hlog.p) (fun z hz => ?_)
   rcases z with ⟨e2, σ2, lp9⟩ | ⟨v2, l2, q2, inc2, A2, ys, yv, yl, σ2, lp9⟩
   rotate_left
   ·exact absurd (congrArg (fun x => x.1) (htwo.symm.trans hz.1)) he1
   simp only [RO.Pr, RO.lst] at hz ⊢
   obtain ⟨hz2, he2, hv9⟩ := hz
   have hz3 := htwo.symm.trans hz2
   simp only [Prod.mk.injEq, true_and] at hz3
   obtain ⟨he9, hs9⟩ := hz3
   subst he9 hs9
   have hv9 : Vec 5 1 (.slice a0 (64 * N) c0) (64 * N) (σ1.B.map u8) lp9 := hv9
   refine J.name 58 rfl (show _ = Value.tuple #[.pointer none, .int .i64 e1] from rfl) ?_; refine J.perm ((d, dkO s N σ1.p σ1.k) :: (s, dkS σ1.B) :: (rd, rfO (.slice a0 (64 * N) c0) (shiftK σ.k σ1).p (shiftK σ.k σ1).k) :: lp9) zp ?_; refine J.move rfl rfl ?_; refine J.extract rfl rfl rfl ?_; refine J.extract rfl rfl rfl ?_; refine J.assign rfl rfl ?_; refine J.assign rfl rfl ?_; refine J.nil ?_; refine JX.thenN (hK10 _ _ ?_); refine JC.seq (fun K11 hK11 => ?_); refine JC.seq (fun K12 hK12 => ?_)
   apply JC.drawL 21 [Eqv (.int .i64 e1), Eqv (.int .i64 e1), Eqv (.bool false), Eqv (.bool false), Eqv (.pointer none), Eqv (.bool true), Eqv (.pointer none), Eqv (.bool true), Eqv (.bool false), Eqv (.bool false), Eqv (.bool false), Eqv (.pointer (some ⟨d, 0, none⟩)), RowP (64 * N) (σ1.B.map u8), Eqv (.string (str σ1.B)), Eqv (.pointer (some ⟨rd, 0, none⟩)), Eqv (.pointer (some ⟨rd, 0, none⟩)), Eqv (.pointer (some ⟨rd, 0 + 0, none⟩)), Eqv (.slice a0 (64 * N) c0), Eqv (.string (str σ1.B)), Eqv (.bool false), Eqv (.bool false)] Ty.mixed rfl rfl rfl (by kernel_rfl) rfl rfl (fun w w' hw hb => hw.step hb) ⟨fun _ _ _ h _ => h, fun _ _ _ h _ => h, fun _ _ _ h _ => h, fun _ _ _ h _ => h, fun _ _ _ h _ => h, fun _ _ _ h _ => h, fun _ _ _ h _ => h, fun _ _ _ h _ => h, fun _ _ _ h _ => h, fun _ _ _ h _ => h, fun _ _ _ h _ => h, fun _ _ _ h _ => h, RowP.st _ _, fun _ _ _ h _ => h, fun _ _ _ h _ => h, fun _ _ _ h _ => h, fun _ _ _ h _ => h, fun _ _ _ h _ => h, fun _ _ _ h _ => h, fun _ _ _ h _ => h, fun _ _ _ h _ => h, trivial⟩ ?hstep ?htail
   case hstep =>
    refine ⟨fun wi => ?_, fun wi => ?_, fun wi => ?_, fun wi => ?_, fun wi => ?_, fun wi => ?_, fun wi => ?_, fun wi => ?_, fun wi => ?_, fun wi => ?_, fun wi => ?_, fun wi => ?_, fun wi => ?_, fun wi => ?_, fun wi => ?_, fun wi => ?_, fun wi => ?_, fun wi => ?_, fun wi => ?_, fun wi => ?_, fun wi => ?_, trivial⟩
    ·refine Fin.nil ?_; refine J.move rfl rfl ?_
     exact J.finP rfl
    ·refine Fin.nil ?_; refine J.move rfl rfl ?_
     exact J.finP rfl
    ·refine Fin.consE rfl (Fin.consE rfl (Fin.nil ?_))
     refine J.bin rfl rfl rfl rfl ?_; refine J.name 63 rfl (show Value.bool _ = .bool false by simp) ?_
     exact J.finP rfl
    ·refine Fin.consE rfl (Fin.nil ?_); refine J.move rfl rfl ?_
     exact J.finP rfl
    ·refine Fin.consE rfl (Fin.nil ?_)
     first | refine J.skip rfl rfl rfl rfl rfl ?_ | refine J.skipU rfl rfl rfl rfl ?_ | (refine J.unguard rfl rfl rfl ?_; refine J.move rfl rfl ?_)
     exact J.finP rfl
    ·refine Fin.consE rfl (Fin.consE rfl (Fin.nil ?_))
     first | refine J.skip rfl rfl rfl rfl rfl ?_ | refine J.skipU rfl rfl rfl rfl ?_ | (refine J.unguard rfl rfl rfl ?_; refine J.eqNil Ty.u38 rfl rfl rfl ?_)
     exact J.finP rfl
    ·refine Fin.consE rfl (Fin.nil ?_)
     first | refine J.skip rfl rfl rfl rfl rfl ?_ | refine J.skipU rfl rfl rfl rfl ?_ | (refine J.unguard rfl rfl rfl ?_; refine J.move rfl rfl ?_)
     exact J.finP rfl
    ·refine Fin.consE rfl (Fin.consE rfl (Fin.nil ?_))
     first | refine J.skip rfl rfl rfl rfl rfl ?_ | refine J.skipU rfl rfl rfl rfl ?_ | (refine J.unguard rfl rfl rfl ?_; refine J.eqNil Ty.u68 rfl rfl rfl ?_)
     exact J.finP rfl
    ·refine Fin.consE rfl (Fin.consE rfl (Fin.consE rfl (Fin.nil ?_)))
     refine J.unguard rfl rfl rfl ?_; refine J.eqBool (.inr rfl) Ty.u4 rfl rfl rfl ?_; refine J.name 69 rfl (show Value.bool _ = .bool false by simp) ?_
     exact J.finP rfl
    ·refine Fin.consE rfl (Fin.consE rfl (Fin.nil ?_))
     (first | refine J.pickT rfl rfl rfl ?_ | refine J.pickF rfl rfl rfl ?_)
     exact J.finP rfl
    ·refine Fin.consE rfl (Fin.consE rfl (Fin.nil ?_))
     refine J.move rfl rfl ?_
     exact J.finP rfl
    ·refine Fin.consE rfl (Fin.nil ?_)
     first | refine J.skip rfl rfl rfl rfl rfl ?_ | refine J.skipU rfl rfl rfl rfl ?_ | (refine J.unguard rfl rfl rfl ?_; refine J.move rfl rfl ?_)
     exact J.finP rfl
    ·refine Fin.consE rfl (Fin.consE rfl (Fin.consE rfl (Fin.nil ?_)))
     refine J.unguard rfl rfl rfl ?_; refine J.callR (k := 64 * N) (ys := σ1.B.map u8) Ty.bd31 rfl rfl (fun w1 hw => (bytes_spec d s N σ1.B σ1.p σ1.k w1 (St.owns (l1 := [(d, dkO s N σ1.p σ1.k), (s, dkS σ1.B)]) (l := ((rd, rfO (.slice a0 (64 * N) c0) (shiftK σ.k σ1).p (shiftK σ.k σ1).k) :: lp9)) (hw.perm zp)) hlen9 (by omega)).mono fun _ w2 ⟨x, h1, h2, h3⟩ => ⟨x.1, h1, h2.row (l := [(d, dkO s N σ1.p σ1.k), (s, dkS σ1.B)]) h3, h3.same (St.owns (l1 := [(d, dkO s N σ1.p σ1.k), (s, dkS σ1.B)]) (l := ((rd, rfO (.slice a0 (64 * N) c0) (shiftK σ.k σ1).p (shiftK σ.k σ1).k) :: lp9)) (hw.perm zp)) (fun p hp => List.mem_append_right _ hp)⟩) (fun v126 => ?_)
     refine J.nil (JX.fin rfl (fun w hw => ⟨hw.1, hw.2⟩))
    ·refine Fin.cons (fun v16_12 => Fin.consE rfl (Fin.nil ?_))
     refine J.prR ?_; refine J.unguard rfl rfl rfl ?_; refine J.toStr (m := 64 * N) (bs := σ1.B) Ty.el26 Ty.u5 Ty.u9 rfl (fun w1 hw => hw.2.1) hlen9 rfl ?_
     exact J.finP rfl
    ·refine Fin.consE rfl (Fin.nil ?_)
     first | refine J.skip rfl rfl rfl rfl rfl ?_ | refine J.skipU rfl rfl rfl rfl ?_ | (refine J.unguard rfl rfl rfl ?_; refine J.move rfl rfl ?_)
     exact J.finP rfl
    ·refine Fin.consE rfl (Fin.consE rfl (Fin.nil ?_))
     first | refine J.skip rfl rfl rfl rfl rfl ?_ | refine J.skipU rfl rfl rfl rfl ?_ | (refine J.unguard rfl rfl rfl ?_; refine J.nilCheck rfl rfl ?_)
     exact J.finP rfl
    ·refine Fin.consE rfl (Fin.consE rfl (Fin.nil ?_))
     first | refine J.skip rfl rfl rfl rfl rfl ?_ | refine J.skipU rfl rfl rfl rfl ?_ | (refine J.unguard rfl rfl rfl ?_; refine J.fieldAddr Ty.fd67_0 rfl rfl ?_)
     exact J.finP rfl
    ·refine Fin.consE rfl (Fin.consE rfl (Fin.nil ?_))
     refine J.unguard rfl rfl rfl ?_; refine J.load1 Ty.a26 rfl (fun w1 hw => (cell_of (hw.2.own ((rd, rfO (.slice a0 (64 * N) c0) (shiftK σ.k σ1).p (shiftK σ.k σ1).k)) zm)).trans rfl) rfl ?_
     exact J.finP rfl
    ·refine Fin.consE rfl (Fin.consE rfl (Fin.nil ?_))
     refine J.unguard rfl rfl rfl ?_; refine J.toStr (m := 64 * N) (bs := σ1.B) Ty.el26 Ty.u5 Ty.u9 rfl (fun w1 hw => vec_rowM hv9 hw.2 zq) hlen9 rfl ?_
     exact J.finP rfl
    ·refine Fin.consE rfl (Fin.consE rfl (Fin.consE rfl (Fin.nil ?_)))
     refine J.unguard rfl rfl rfl ?_; refine J.strNe rfl rfl rfl ?_; refine J.name 80 rfl (show Value.bool _ = .bool false by simp) ?_
     exact J.finP rfl
    ·refine Fin.consE rfl (Fin.consE rfl (Fin.nil ?_))
     (first | refine J.pickT rfl rfl rfl ?_ | refine J.pickF rfl rfl rfl ?_)
     exact J.finP rfl
   case htail =>
    refine Fin.consE rfl (Fin.consE rfl (Fin.consE rfl (Fin.consE rfl (Fin.consE rfl (Fin.consE rfl (Fin.consE rfl (Fin.consE rfl (Fin.consE rfl (Fin.consE rfl (Fin.consE rfl (Fin.consE rfl (Fin.cons (fun v16_12 => Fin.consE rfl (Fin.consE rfl (Fin.consE rfl (Fin.consE rfl (Fin.consE rfl (Fin.consE rfl (Fin.consE rfl (Fin.consE rfl (Fin.nil ?_)))))))))))))))))))))
    refine J.drop ?_; refine J.nil ?_; refine JX.thenN (hK12 _ _ ?_)
    first | refine JC.condF rfl ?_ | refine JC.cond rfl (fun h => by first | (exfalso; simp at h; omega) | (simp at h)) (fun _ => ?_)
    refine JC.skip ?_; refine JX.thenN (hK11 _ _ ?_); refine JC.seq (fun K13 hK13 => ?_)
    apply JC.drawL 21 [Eqv (.pointer none), Eqv (.bool true), Eqv (.bool true), Eqv (undef), Eqv (undef), Eqv (undef), Eqv (undef), Eqv (undef), Eqv (undef), Eqv (undef), Eqv (undef), Eqv (undef), Eqv (undef), Eqv (undef), Eqv (undef), Eqv (undef), Eqv (undef), Eqv (undef), Eqv (undef), Eqv (.bool true), Eqv (.bool true)] Ty.mixed rfl rfl rfl (by kernel_rfl) rfl rfl (fun w w' hw hb => hw.step hb) ⟨fun _ _ _ h _ => h, fun _ _ _ h _ => h, fun _ _ _ h _ => h, fun _ _ _ h _ => h, fun _ _ _ h _ => h, fun _ _ _ h _ => h, fun _ _ _ h _ => h, fun _ _ _ h _ => h, fun _ _ _ h _ => h, fun _ _ _ h _ => h, fun _ _ _ h _ => h, fun _ _ _ h _ => h, fun _ _ _ h _ => h, fun _ _ _ h _ => h, fun _ _ _ h _ => h, fun _ _ _ h _ => h, fun _ _ _ h _ => h, fun _ _ _ h _ => h, fun _ _ _ h _ => h, fun _ _ _ h _ => h, fun _ _ _ h _ => h, trivial⟩ ?hstep ?htail
    case hstep =>
     refine ⟨fun wi => ?_, fun wi => ?_, fun wi => ?_, fun wi => ?_, fun wi => ?_, fun wi => ?_, fun wi => ?_, fun wi => ?_, fun wi => ?_, fun wi => ?_, fun wi => ?_, fun wi => ?_, fun wi => ?_, fun wi => ?_, fun wi => ?_, fun wi => ?_, fun wi => ?_, fun wi => ?_, fun wi => ?_, fun wi => ?_, fun wi => ?_, trivial⟩
     ·refine Fin.nil ?_; refine J.move rfl rfl ?_
      exact J.finP rfl
     ·refine Fin.consE rfl (Fin.nil ?_); refine J.eqNil Ty.u38 rfl rfl rfl ?_
      exact J.finP rfl
     ·refine Fin.consE rfl (Fin.nil ?_); refine J.move rfl rfl ?_
      exact J.finP rfl
     ·refine Fin.consE rfl (Fin.nil ?_)
      first | refine J.skip rfl rfl rfl rfl rfl ?_ | refine J.skipU rfl rfl rfl rfl ?_
      exact J.finP rfl
     ·refine Fin.consE rfl (Fin.consE rfl (Fin.consE rfl (Fin.nil ?_)))
      first | refine J.skip rfl rfl rfl rfl rfl ?_ | refine J.skipU rfl rfl rfl rfl ?_
      exact J.finP rfl
     ·refine Fin.consE rfl (Fin.nil ?_)
      first | refine J.skip rfl rfl rfl rfl rfl ?_ | refine J.skipU rfl rfl rfl rfl ?_
      exact J.finP rfl
     ·refine Fin.consE rfl (Fin.consE rfl (Fin.nil ?_))
      first | refine J.skip rfl rfl rfl rfl rfl ?_ | refine J.skipU rfl rfl rfl rfl ?_
      exact J.finP rfl
     ·refine Fin.consE rfl (Fin.consE rfl (Fin.nil ?_))
      first | refine J.skip rfl rfl rfl rfl rfl ?_ | refine J.skipU rfl rfl rfl rfl ?_
      exact J.finP rfl
     ·refine Fin.consE rfl (Fin.consE rfl (Fin.nil ?_))
      first | refine J.skip rfl rfl rfl rfl rfl ?_ | refine J.skipU rfl rfl rfl rfl ?_
      exact J.finP rfl
     ·refine Fin.consE rfl (Fin.consE rfl (Fin.consE rfl (Fin.consE rfl (Fin.nil ?_))))
      first | refine J.skip rfl rfl rfl rfl rfl ?_ | refine J.skipU rfl rfl rfl rfl ?_
      exact J.finP rfl
     ·refine Fin.consE rfl (Fin.consE rfl (Fin.consE rfl (Fin.nil ?_)))
      first | refine J.skip rfl rfl rfl rfl rfl ?_ | refine J.skipU rfl rfl rfl rfl ?_
      exact J.finP rfl
     ·refine Fin.consE rfl (Fin.nil ?_)
      first | refine J.skip rfl rfl rfl rfl rfl ?_ | refine J.skipU rfl rfl rfl rfl ?_
      exact J.finP rfl
     ·refine Fin.consE rfl (Fin.consE rfl (Fin.consE rfl (Fin.nil ?_)))
      first | refine J.skip rfl rfl rfl rfl rfl ?_ | refine J.skipU rfl rfl rfl rfl ?_
      exact J.finP rfl
     ·refine Fin.consE rfl (Fin.nil ?_)
      first | refine J.skip rfl rfl rfl rfl rfl ?_ | refine J.skipU rfl rfl rfl rfl ?_
      exact J.finP rfl
     ·refine Fin.consE rfl (Fin.consE rfl (Fin.nil ?_))
      first | refine J.skip rfl rfl rfl rfl rfl ?_ | refine J.skipU rfl rfl rfl rfl ?_
      exact J.finP rfl
     ·refine Fin.consE rfl (Fin.consE rfl (Fin.nil ?_))
      first | refine J.skip rfl rfl rfl rfl rfl ?_ | refine J.skipU rfl rfl rfl rfl ?_
      exact J.finP rfl
     ·refine Fin.consE rfl (Fin.consE rfl (Fin.nil ?_))
      first | refine J.skip rfl rfl rfl rfl rfl ?_ | refine J.skipU rfl rfl rfl rfl ?_
      exact J.finP rfl
     ·refine Fin.consE rfl (Fin.consE rfl (Fin.consE rfl (Fin.nil ?_)))
      first | refine J.skip rfl rfl rfl rfl rfl ?_ | refine J.skipU rfl rfl rfl rfl ?_
      exact J.finP rfl
     ·refine Fin.consE rfl (Fin.consE rfl (Fin.consE rfl (Fin.nil ?_)))
      first | refine J.skip rfl rfl rfl rfl rfl ?_ | refine J.skipU rfl rfl rfl rfl ?_
      exact J.finP rfl
     ·refine Fin.consE rfl (Fin.consE rfl (Fin.nil ?_))
      (first | refine J.pickT rfl rfl rfl ?_ | refine J.pickF rfl rfl rfl ?_)
      exact J.finP rfl
     ·refine Fin.consE rfl (Fin.consE rfl (Fin.consE rfl (Fin.consE rfl (Fin.consE rfl (Fin.consE rfl (Fin.consE rfl (Fin.consE rfl (Fin.consE rfl (Fin.consE rfl (Fin.consE rfl (Fin.consE rfl (Fin.consE rfl (Fin.consE rfl (Fin.consE rfl (Fin.consE rfl (Fin.consE rfl (Fin.consE rfl (Fin.consE rfl (Fin.consE rfl (Fin.consE rfl (Fin.consE rfl (Fin.nil ?_))))))))))))))))))))))
      refine J.assign rfl rfl ?_
      exact J.finP rfl
    case htail =>
     refine Fin.consE rfl (Fin.consE rfl (Fin.consE rfl (Fin.consE rfl (Fin.consE rfl (Fin.consE rfl (Fin.consE rfl (Fin.consE rfl (Fin.consE rfl (Fin.consE rfl (Fin.consE rfl (Fin.consE rfl (Fin.consE rfl (Fin.consE rfl (Fin.consE rfl (Fin.consE rfl (Fin.consE rfl (Fin.consE rfl (Fin.consE rfl (Fin.consE rfl (Fin.consE rfl (Fin.nil ?_)))))))))))))))))))))
     refine J.nil ?_; refine JX.thenN (hK13 _ _ ?_); refine JC.ret ?_; refine JX.ret1 rfl rfl (fun w hw => ?_)
     exact ⟨rfl, (hw.drop (List.nil_sublist _)).below⟩
  ·simp only [VO.Pr, VO.lst] at hz ⊢
   obtain ⟨hz1, hT, hV⟩ := hz
   have hlen9 : σ1.B.length = 64 * N := vopen_len hlz (by omega) (by omega) hz1
   obtain ⟨hLn, hLs⟩ := vopen_small (by omega) hlz hz1
   rw [hz1] at htwo
   simp only at htwo
   refine J.name 53 rfl (show _ = Value.tuple #[.pointer (some ⟨v1, 0, none⟩), .int .i64 0] from rfl) ?_; refine J.move rfl rfl ?_; refine J.extract rfl rfl rfl ?_; refine J.extract rfl rfl rfl ?_; refine J.assign rfl rfl ?_; refine J.assign rfl rfl ?_; refine J.nil ?_; refine JX.thenN (hK9 _ _ ?_); refine JC.seq (fun K14 hK14 => ?_); refine JC.region ?_; refine J.move rfl rfl ?_; refine J.perm (((rd, rfO (.slice a0 (64 * N) c0) σ.p σ.k) :: lp) ++ (vltB v1 m1 l1 d s N q1 false inc1 es1 ck1 σ1 ++ lpsH L1)) zp ?_; refine J.callS (α := RO) (V := RO.val) (Pr := fun z => z.Pr N ⟨σ.B, σ.p, σ.k⟩ (.slice a0 (64 * N) c0)) (L := fun z => z.lst rd (.slice a0 (64 * N) c0)) (l1 := (rd, rfO (.slice a0 (64 * N) c0) σ.p σ.k) :: lp) Ty.bd30 rfl rfl (fun w1 hw => ropen18_spec rd N _ lp σ.B σ.p σ.k w1 (St.owns hw) hv hlog.len (by omega) hk0 (by omega) hlog.p) (fun z hz => ?_)
   rcases z with ⟨e2, σ2, lp9⟩ | ⟨v2, l2, q2, inc2, A2, ys, yv, yl, σ2, lp9⟩
   ·exact absurd (congrArg (fun x => x.1) (htwo.symm.trans hz.1)).symm hz.2.1
   simp only [RO.Pr, RO.lst] at hz ⊢
   obtain ⟨hz2, hS, hW, hyl, hyv, hv9⟩ := hz
   have hz3 := htwo.symm.trans hz2
   simp only [Prod.mk.injEq, Option.some.injEq, true_and] at hz3
   obtain ⟨⟨hq9, hi9, hA9⟩, hs9⟩ := hz3
   subst hq9 hi9 hA9 hs9
   have hv9 : Vec 5 1 (.slice a0 (64 * N) c0) (64 * N) (σ1.B.map u8) lp9 := hv9
   obtain ⟨ay, cy, rfl, hcy⟩ := hyv.form
   refine J.name 58 rfl (show _ = Value.tuple #[.pointer (some ⟨v2, 0, none⟩), .int .i64 0] from rfl) ?_; refine J.perm ((v1, vaO (.pointer (some ⟨l1, 0, none⟩)) m1 ((inc1 : Nat) : Int)) :: (m1, .map es1 ck1) :: (l1, lgO d q1 false) :: (d, dkO s N σ1.p σ1.k) :: (s, dkS σ1.B) :: (v2, cb [.pointer (some ⟨l2, 0, none⟩), .slice ay ys.length cy, .int .i64 ((inc1 : Nat) : Int)] 74) :: (l2, rlO rd q1 false) :: (rd, rfO (.slice a0 (64 * N) c0) (shiftK σ.k σ1).p (shiftK σ.k σ1).k) :: (lp9 ++ (yl ++ (lpsH L1 ++ lpsH ys)))) zp ?_; refine J.move rfl rfl ?_; refine J.extract rfl rfl rfl ?_; refine J.extract rfl rfl rfl ?_; refine J.assign rfl rfl ?_; refine J.assign rfl rfl ?_; refine J.nil ?_; refine JX.thenN (hK14 _ _ ?_); refine JC.seq (fun K15 hK15 => ?_); refine JC.seq (fun K16 hK16 => ?_)
   apply JC.drawL 21 [Eqv (.int .i64 0), Eqv (.int .i64 0), Eqv (.bool false), Eqv (.bool false), Eqv (.pointer (some ⟨v1, 0, none⟩)), Eqv (.bool false), Eqv (.pointer (some ⟨v2, 0, none⟩)), Eqv (.bool false), Eqv (.bool false), Eqv (.bool false), Eqv (.bool false), Eqv (.pointer (some ⟨d, 0, none⟩)), RowP (64 * N) (σ1.B.map u8), Eqv (.string (str σ1.B)), Eqv (.pointer (some ⟨rd, 0, none⟩)), Eqv (.pointer (some ⟨rd, 0, none⟩)), Eqv (.pointer (some ⟨rd, 0 + 0, none⟩)), Eqv (.slice a0 (64 * N) c0), Eqv (.string (str σ1.B)), Eqv (.bool false), Eqv (.bool false)] Ty.mixed rfl rfl rfl (by kernel_rfl) rfl rfl (fun w w' hw hb => hw.step hb) ⟨fun _ _ _ h _ => h, fun _ _ _ h _ => h, fun _ _ _ h _ => h, fun _ _ _ h _ => h, fun _ _ _ h _ => h, fun _ _ _ h _ => h, fun _ _ _ h _ => h, fun _ _ _ h _ => h, fun _ _ _ h _ => h, fun _ _ _ h _ => h, fun _ _ _ h _ => h, fun _ _ _ h _ => h, RowP.st _ _, fun _ _ _ h _ => h, fun _ _ _ h _ => h, fun _ _ _ h _ => h, fun _ _ _ h _ => h, fun _ _ _ h _ => h, fun _ _ _ h _ => h, fun _ _ _ h _ => h, fun _ _ _ h _ => h, trivial⟩ ?hstep ?htail
   case hstep =>
    refine ⟨fun wi => ?_, fun wi => ?_, fun wi => ?_, fun wi => ?_, fun wi => ?_, fun wi => ?_, fun wi => ?_, fun wi => ?_, fun wi => ?_, fun wi => ?_, fun wi => ?_, fun wi => ?_, fun wi => ?_, fun wi => ?_, fun wi => ?_, fun wi => ?_, fun wi => ?_, fun wi => ?_, fun wi => ?_, fun wi => ?_, fun wi => ?_, trivial⟩
    ·refine Fin.nil ?_; refine J.move rfl rfl ?_
     exact J.finP rfl
    ·refine Fin.nil ?_; refine J.move rfl rfl ?_
     exact J.finP rfl
    ·refine Fin.consE rfl (Fin.consE rfl (Fin.nil ?_))
     refine J.bin rfl rfl rfl rfl ?_; refine J.name 63 rfl (show Value.bool _ = .bool false by simp) ?_
     exact J.finP rfl
    ·refine Fin.consE rfl (Fin.nil ?_); refine J.move rfl rfl ?_
     exact J.finP rfl
    ·refine Fin.consE rfl (Fin.nil ?_)
     first | refine J.skip rfl rfl rfl rfl rfl ?_ | refine J.skipU rfl rfl rfl rfl ?_ | (refine J.unguard rfl rfl rfl ?_; refine J.move rfl rfl ?_)
     exact J.finP rfl
    ·refine Fin.consE rfl (Fin.consE rfl (Fin.nil ?_))
     first | refine J.skip rfl rfl rfl rfl rfl ?_ | refine J.skipU rfl rfl rfl rfl ?_ | (refine J.unguard rfl rfl rfl ?_; refine J.eqNil Ty.u38 rfl rfl rfl ?_)
     exact J.finP rfl
    ·refine Fin.consE rfl (Fin.nil ?_)
     first | refine J.skip rfl rfl rfl rfl rfl ?_ | refine J.skipU rfl rfl rfl rfl ?_ | (refine J.unguard rfl rfl rfl ?_; refine J.move rfl rfl ?_)
     exact J.finP rfl
    ·refine Fin.consE rfl (Fin.consE rfl (Fin.nil ?_))
     first | refine J.skip rfl rfl rfl rfl rfl ?_ | refine J.skipU rfl rfl rfl rfl ?_ | (refine J.unguard rfl rfl rfl ?_; refine J.eqNil Ty.u68 rfl rfl rfl ?_)
     exact J.finP rfl
    ·refine Fin.consE rfl (Fin.consE rfl (Fin.consE rfl (Fin.nil ?_)))
     refine J.unguard rfl rfl rfl ?_; refine J.eqBool (.inr rfl) Ty.u4 rfl rfl rfl ?_; refine J.name 69 rfl (show Value.bool _ = .bool false by simp) ?_
     exact J.finP rfl
    ·refine Fin.consE rfl (Fin.consE rfl (Fin.nil ?_))
     (first | refine J.pickT rfl rfl rfl ?_ | refine J.pickF rfl rfl rfl ?_)
     exact J.finP rfl
    ·refine Fin.consE rfl (Fin.consE rfl (Fin.nil ?_))
     refine J.move rfl rfl ?_
     exact J.finP rfl
    ·refine Fin.consE rfl (Fin.nil ?_)
     first | refine J.skip rfl rfl rfl rfl rfl ?_ | refine J.skipU rfl rfl rfl rfl ?_ | (refine J.unguard rfl rfl rfl ?_; refine J.move rfl rfl ?_)
     exact J.finP rfl
    ·refine Fin.consE rfl (Fin.consE rfl (Fin.consE rfl (Fin.nil ?_)))
     refine J.unguard rfl rfl rfl ?_; refine J.callR (k := 64 * N) (ys := σ1.B.map u8) Ty.bd31 rfl rfl (fun w1 hw => (bytes_spec d s N σ1.B σ1.p σ1.k w1 (St.owns (l1 := [(d, dkO s N σ1.p σ1.k), (s, dkS σ1.B)]) (l := ((v1, vaO (.pointer (some ⟨l1, 0, none⟩)) m1 ((inc1 : Nat) : Int)) :: (m1, .map es1 ck1) :: (l1, lgO d q1 false) :: (v2, cb [.pointer (some ⟨l2, 0, none⟩), .slice ay ys.length cy, .int .i64 ((inc1 : Nat) : Int)] 74) :: (l2, rlO rd q1 false) :: (rd, rfO (.slice a0 (64 * N) c0) (shiftK σ.k σ1).p (shiftK σ.k σ1).k) :: (lp9 ++ (yl ++ (lpsH L1 ++ lpsH ys))))) (hw.perm zp)) hlen9 (by omega)).mono fun _ w2 ⟨x, h1, h2, h3⟩ => ⟨x.1, h1, h2.row (l := [(d, dkO s N σ1.p σ1.k), (s, dkS σ1.B)]) h3, h3.same (St.owns (l1 := [(d, dkO s N σ1.p σ1.k), (s, dkS σ1.B)]) (l := ((v1, vaO (.pointer (some ⟨l1, 0, none⟩)) m1 ((inc1 : Nat) : Int)) :: (m1, .map es1 ck1) :: (l1, lgO d q1 false) :: (v2, cb [.pointer (some ⟨l2, 0, none⟩), .slice ay ys.length cy, .int .i64 ((inc1 : Nat) : Int)] 74) :: (l2, rlO rd q1 false) :: (rd, rfO (.slice a0 (64 * N) c0) (shiftK σ.k σ1).p (shiftK σ.k σ1).k) :: (lp9 ++ (yl ++ (lpsH L1 ++ lpsH ys))))) (hw.perm zp)) (fun p hp => List.mem_append_right _ hp)⟩) (fun v126 => ?_)
     refine J.nil (JX.fin rfl (fun w hw => ⟨hw.1, hw.2⟩))
    ·refine Fin.cons (fun v16_12 => Fin.consE rfl (Fin.nil ?_))
     refine J.prR ?_; refine J.unguard rfl rfl rfl ?_; refine J.toStr (m := 64 * N) (bs := σ1.B) Ty.el26 Ty.u5 Ty.u9 rfl (fun w1 hw => hw.2.1) hlen9 rfl ?_
     exact J.finP rfl
    ·refine Fin.consE rfl (Fin.nil ?_)
     first | refine J.skip rfl rfl rfl rfl rfl ?_ | refine J.skipU rfl rfl rfl rfl ?_ | (refine J.unguard rfl rfl rfl ?_; refine J.move rfl rfl ?_)
     exact J.finP rfl
    ·refine Fin.consE rfl (Fin.consE rfl (Fin.nil ?_))
     first | refine J.skip rfl rfl rfl rfl rfl ?_ | refine J.skipU rfl rfl rfl rfl ?_ | (refine J.unguard rfl rfl rfl ?_; refine J.nilCheck rfl rfl ?_)
     exact J.finP rfl
    ·refine Fin.consE rfl (Fin.consE rfl (Fin.nil ?_))
     first | refine J.skip rfl rfl rfl rfl rfl ?_ | refine J.skipU rfl rfl rfl rfl ?_ | (refine J.unguard rfl rfl rfl ?_; refine J.fieldAddr Ty.fd67_0 rfl rfl ?_)
     exact J.finP rfl
    ·refine Fin.consE rfl (Fin.consE rfl (Fin.nil ?_))
     refine J.unguard rfl rfl rfl ?_; refine J.load1 Ty.a26 rfl (fun w1 hw => (cell_of (hw.2.own ((rd, rfO (.slice a0 (64 * N) c0) (shiftK σ.k σ1).p (shiftK σ.k σ1).k)) zm)).trans rfl) rfl ?_
     exact J.finP rfl
    ·refine Fin.consE rfl (Fin.consE rfl (Fin.nil ?_))
     refine J.unguard rfl rfl rfl ?_; refine J.toStr (m := 64 * N) (bs := σ1.B) Ty.el26 Ty.u5 Ty.u9 rfl (fun w1 hw => vec_rowM hv9 hw.2 zq) hlen9 rfl ?_
     exact J.finP rfl
    ·refine Fin.consE rfl (Fin.consE rfl (Fin.consE rfl (Fin.nil ?_)))
     refine J.unguard rfl rfl rfl ?_; refine J.strNe rfl rfl rfl ?_; refine J.name 80 rfl (show Value.bool _ = .bool false by simp) ?_
     exact J.finP rfl
    ·refine Fin.consE rfl (Fin.consE rfl (Fin.nil ?_))
     (first | refine J.pickT rfl rfl rfl ?_ | refine J.pickF rfl rfl rfl ?_)
     exact J.finP rfl
   case htail =>
    refine Fin.consE rfl (Fin.consE rfl (Fin.consE rfl (Fin.consE rfl (Fin.consE rfl (Fin.consE rfl (Fin.consE rfl (Fin.consE rfl (Fin.consE rfl (Fin.consE rfl (Fin.consE rfl (Fin.consE rfl (Fin.cons (fun v16_12 => Fin.consE rfl (Fin.consE rfl (Fin.consE rfl (Fin.consE rfl (Fin.consE rfl (Fin.consE rfl (Fin.consE rfl (Fin.consE rfl (Fin.nil ?_)))))))))))))))))))))
    refine J.drop ?_; refine J.nil ?_; refine JX.thenN (hK16 _ _ ?_)
    first | refine JC.condF rfl ?_ | refine JC.cond rfl (fun h => by first | (exfalso; simp at h; omega) | (simp at h)) (fun _ => ?_)
    refine JC.skip ?_; refine JX.thenN (hK15 _ _ ?_); refine JC.seq (fun K17 hK17 => ?_)
    have hsubL : ∀ x, x ∈ L1 → ∀ p, p ∈ x.lp → p ∈ lpsH L1 := fun x hx p hp => List.mem_flatMap.2 ⟨x, hx, hp⟩
    have hsubY : ∀ x, x ∈ ys → ∀ p, p ∈ x.lp → p ∈ lpsH ys := fun x hx p hp => List.mem_flatMap.2 ⟨x, hx, hp⟩
    apply JC.drawL 21 [Eqv (.pointer (some ⟨v1, 0, none⟩)), Eqv (.bool false), Eqv (.bool false), Eqv (.pointer (some ⟨v1, 0, none⟩)), RowH (L1.map HI.it), Eqv (.pointer (some ⟨v2, 0, none⟩)), Eqv (.pointer (some ⟨v2, 0, none⟩)), Eqv (.pointer (some ⟨v2, 0 + 1, none⟩)), Eqv (.slice ay ys.length cy), Eqv (.bool true), Eqv (.bool true), Eqv (.pointer (some ⟨v1, 0, none⟩)), Eqv (.int .i64 ((inc1 : Nat) : Int)), Eqv (.pointer (some ⟨v2, 0, none⟩)), Eqv (.pointer (some ⟨v2, 0, none⟩)), Eqv (.pointer (some ⟨v2, 0 + 2, none⟩)), Eqv (.int .i64 ((inc1 : Nat) : Int)), Eqv (.bool true), Eqv (.bool true), Eqv (.bool true), Eqv (.bool true)] Ty.mixed rfl rfl rfl (by kernel_rfl) rfl rfl (fun w w' hw hb => hw.step hb) ⟨fun _ _ _ h _ => h, fun _ _ _ h _ => h, fun _ _ _ h _ => h, fun _ _ _ h _ => h, RowH.st _, fun _ _ _ h _ => h, fun _ _ _ h _ => h, fun _ _ _ h _ => h, fun _ _ _ h _ => h, fun _ _ _ h _ => h, fun _ _ _ h _ => h, fun _ _ _ h _ => h, fun _ _ _ h _ => h, fun _ _ _ h _ => h, fun _ _ _ h _ => h, fun _ _ _ h _ => h, fun _ _ _ h _ => h, fun _ _ _ h _ => h, fun _ _ _ h _ => h, fun _ _ _ h _ => h, fun _ _ _ h _ => h, trivial⟩ ?hstep ?htail
    case hstep =>
     refine ⟨fun wi => ?_, fun wi => ?_, fun wi => ?_, fun wi => ?_, fun wi => ?_, fun wi => ?_, fun wi => ?_, fun wi => ?_, fun wi => ?_, fun wi => ?_, fun wi => ?_, fun wi => ?_, fun wi => ?_, fun wi => ?_, fun wi => ?_, fun wi => ?_, fun wi => ?_, fun wi => ?_, fun wi => ?_, fun wi => ?_, fun wi => ?_, trivial⟩
     ·refine Fin.nil ?_; refine J.move rfl rfl ?_
      exact J.finP rfl
     ·refine Fin.consE rfl (Fin.nil ?_); refine J.eqNil Ty.u38 rfl rfl rfl ?_
      exact J.finP rfl
     ·refine Fin.consE rfl (Fin.nil ?_); refine J.move rfl rfl ?_
      exact J.finP rfl
     ·refine Fin.consE rfl (Fin.nil ?_)
      first | refine J.skip rfl rfl rfl rfl rfl ?_ | refine J.skipU rfl rfl rfl rfl ?_ | (refine J.unguard rfl rfl rfl ?_; refine J.move rfl rfl ?_)
      exact J.finP rfl
     ·refine Fin.consE rfl (Fin.consE rfl (Fin.consE rfl (Fin.nil ?_)))
      refine J.unguard rfl rfl rfl ?_
      refine J.callA (RowH (L1.map HI.it)) Ty.bd20 rfl rfl (fun w1 hw => by
       have hw := hw.perm (zp : List.Perm _ ([(v1, vaO (.pointer (some ⟨l1, 0, none⟩)) m1 ((inc1 : Nat) : Int)), (m1, .map es1 ck1)] ++ ((l1, lgO d q1 false) :: (d, dkO s N σ1.p σ1.k) :: (s, dkS σ1.B) :: (v2, cb [.pointer (some ⟨l2, 0, none⟩), .slice ay ys.length cy, .int .i64 ((inc1 : Nat) : Int)] 74) :: (l2, rlO rd q1 false) :: (rd, rfO (.slice a0 (64 * N) c0) (shiftK σ.k σ1).p (shiftK σ.k σ1).k) :: (lp9 ++ (yl ++ (lpsH L1 ++ lpsH ys))))))
       refine (vall_spec v1 m1 _ _ L1 es1 ck1 hT hV (by rw [List.length_map] at hLn; omega) w1 (St.owns hw) (fun x hx => ⟨vec_rowM (hV x hx).2 hw (fun p hp => by simp [hsubL x hx p hp]), vec_offM (hV x hx).2 (fun p0 hp0 => St.off (l1 := [(v1, vaO (.pointer (some ⟨l1, 0, none⟩)) m1 ((inc1 : Nat) : Int)), (m1, .map es1 ck1)]) hw (o := p0.2) (by simp [hsubL x hx p0 hp0])), by have := hLs x.it (List.mem_map.2 ⟨x, hx, rfl⟩); show x.bs.length ≤ 1000; simp only [HI.it] at this; omega⟩)).mono fun _ w2 ⟨x, h1, ⟨h2, h3, h4⟩, h5⟩ => ?_
       obtain ⟨zs, vz, lz⟩ := x
       simp only at h1 h2 h3 h4 h5
       have hzl : zs.length = L1.length := by have := h2.1.length_eq; rwa [List.length_map, List.length_map] at this
       exact ⟨vz, h1, ⟨zs, h2, by rw [List.length_map] at hLn; omega, h4.row h5, fun x hx => ⟨by obtain ⟨a9, c9, h9, _⟩ := (h3 x hx).2.form; exact ⟨a9, c9, h9⟩, vec_rowM (h3 x hx).2 h5 (fun p hp => List.mem_append_right _ (List.mem_append_left _ (List.mem_flatMap.2 ⟨x, hx, hp⟩))), okN_up (h3 x hx).1.1 (by have := (h3 x hx).1.2; omega)⟩⟩, h5.same (St.owns hw) (fun p hp => List.mem_append_right _ (List.mem_append_right _ hp))⟩) (fun v94 => ?_)
      refine J.nil (JX.fin rfl (fun w hw => ⟨hw.1, hw.2⟩))
     ·refine Fin.consE rfl (Fin.nil ?_)
      first | refine J.skip rfl rfl rfl rfl rfl ?_ | refine J.skipU rfl rfl rfl rfl ?_ | (refine J.unguard rfl rfl rfl ?_; refine J.move rfl rfl ?_)
      exact J.finP rfl
     ·refine Fin.consE rfl (Fin.consE rfl (Fin.nil ?_))
      first | refine J.skip rfl rfl rfl rfl rfl ?_ | refine J.skipU rfl rfl rfl rfl ?_ | (refine J.unguard rfl rfl rfl ?_; refine J.nilCheck rfl rfl ?_)
      exact J.finP rfl
     ·refine Fin.consE rfl (Fin.consE rfl (Fin.nil ?_))
      first | refine J.skip rfl rfl rfl rfl rfl ?_ | refine J.skipU rfl rfl rfl rfl ?_ | (refine J.unguard rfl rfl rfl ?_; refine J.fieldAddr Ty.fd74_1 rfl rfl ?_)
      exact J.finP rfl
     ·refine Fin.consE rfl (Fin.consE rfl (Fin.nil ?_))
      refine J.unguard rfl rfl rfl ?_; refine J.load1 (v := .slice ay ys.length cy) Ty.a44 rfl (fun w1 hw => (cell_of (hw.2.own ((v2, cb [.pointer (some ⟨l2, 0, none⟩), .slice ay ys.length cy, .int .i64 ((inc1 : Nat) : Int)] 74)) zm)).trans rfl) rfl ?_
      exact J.finP rfl
     ·refine Fin.cons (fun v18_4 => Fin.consE rfl (Fin.cons (fun v18_4 => Fin.consE rfl (Fin.nil ?_))))
      first | refine J.prR ?_ | refine J.two ?_
      first | refine J.prR ?_ | refine J.two ?_
      refine J.unguard rfl rfl rfl ?_
      refine J.callD (v := .bool true) Ty.bd32 rfl rfl (fun w1 hw => by
       obtain ⟨⟨zs, h2, h3, h4, h5⟩, hw⟩ := hw
       have h9 := rsame_spec _ _ zs ys w1 h4 (vec_rowM hyv hw zq) h5 (fun x hx => ⟨by obtain ⟨a9, c9, h9, _⟩ := (hW x hx).2.form; exact ⟨a9, c9, h9⟩, vec_rowM (hW x hx).2 hw (fun p hp => by simp [hsubY x hx p hp]), okN_up (hW x hx).1.1 (by have := (hW x hx).1.2; omega)⟩) (by omega) (by omega)
       rw [decide_eq_true (srt_one h2 hS)] at h9
       exact h9) ?_
      exact J.finQ rfl
     ·refine Fin.consE rfl (Fin.consE rfl (Fin.consE rfl (Fin.nil ?_)))
      first | refine J.skip rfl rfl rfl rfl rfl ?_ | refine J.skipU rfl rfl rfl rfl ?_ | (refine J.unguard rfl rfl rfl ?_; refine J.move rfl rfl ?_)
      exact J.finP rfl
     ·refine Fin.consE rfl (Fin.nil ?_)
      first | refine J.skip rfl rfl rfl rfl rfl ?_ | refine J.skipU rfl rfl rfl rfl ?_ | (refine J.unguard rfl rfl rfl ?_; refine J.move rfl rfl ?_)
      exact J.finP rfl
     ·refine Fin.consE rfl (Fin.consE rfl (Fin.consE rfl (Fin.nil ?_)))
      refine J.unguard rfl rfl rfl ?_; refine J.callD Ty.bd18 rfl rfl (fun w1 hw => inc_spec v1 m1 _ ((inc1 : Nat) : Int) w1 (St.owns' hw)) ?_
      exact J.finQ rfl
     ·refine Fin.consE rfl (Fin.nil ?_)
      first | refine J.skip rfl rfl rfl rfl rfl ?_ | refine J.skipU rfl rfl rfl rfl ?_ | (refine J.unguard rfl rfl rfl ?_; refine J.move rfl rfl ?_)
      exact J.finP rfl
     ·refine Fin.consE rfl (Fin.consE rfl (Fin.nil ?_))
      first | refine J.skip rfl rfl rfl rfl rfl ?_ | refine J.skipU rfl rfl rfl rfl ?_ | (refine J.unguard rfl rfl rfl ?_; refine J.nilCheck rfl rfl ?_)
      exact J.finP rfl
     ·refine Fin.consE rfl (Fin.consE rfl (Fin.nil ?_))
      first | refine J.skip rfl rfl rfl rfl rfl ?_ | refine J.skipU rfl rfl rfl rfl ?_ | (refine J.unguard rfl rfl rfl ?_; refine J.fieldAddr Ty.fd74_2 rfl rfl ?_)
      exact J.finP rfl
     ·refine Fin.consE rfl (Fin.consE rfl (Fin.nil ?_))
      refine J.unguard rfl rfl rfl ?_; refine J.load1 (v := .int .i64 ((inc1 : Nat) : Int)) Ty.a2 rfl (fun w1 hw => (cell_of (hw.2.own ((v2, cb [.pointer (some ⟨l2, 0, none⟩), .slice ay ys.length cy, .int .i64 ((inc1 : Nat) : Int)] 74)) zm)).trans rfl) rfl ?_
      exact J.finP rfl
     ·refine Fin.consE rfl (Fin.consE rfl (Fin.consE rfl (Fin.nil ?_)))
      refine J.unguard rfl rfl rfl ?_; refine J.bin rfl rfl rfl rfl ?_; refine J.name 99 rfl (show Value.bool _ = .bool true by simp) ?_
      exact J.finP rfl
     ·refine Fin.consE rfl (Fin.consE rfl (Fin.consE rfl (Fin.nil ?_)))
      first | refine J.skip rfl rfl rfl rfl rfl ?_ | refine J.skipU rfl rfl rfl rfl ?_ | (refine J.unguard rfl rfl rfl ?_; (first | refine J.pickT rfl rfl rfl ?_ | refine J.pickF rfl rfl rfl ?_))
      exact J.finP rfl
     ·refine Fin.consE rfl (Fin.consE rfl (Fin.nil ?_))
      (first | refine J.pickT rfl rfl rfl ?_ | refine J.pickF rfl rfl rfl ?_)
      exact J.finP rfl
     ·refine Fin.consE rfl (Fin.consE rfl (Fin.consE rfl (Fin.consE rfl (Fin.consE rfl (Fin.consE rfl (Fin.cons (fun v18_4 => Fin.consE rfl (Fin.consE rfl (Fin.consE rfl (Fin.consE rfl (Fin.consE rfl (Fin.consE rfl (Fin.consE rfl (Fin.consE rfl (Fin.consE rfl (Fin.consE rfl (Fin.consE rfl (Fin.consE rfl (Fin.consE rfl (Fin.consE rfl (Fin.consE rfl (Fin.nil ?_))))))))))))))))))))))
      first | refine J.prR ?_ | refine J.two ?_
      refine J.assign rfl rfl ?_
      exact J.finP rfl
    case htail =>
     refine Fin.consE rfl (Fin.consE rfl (Fin.consE rfl (Fin.consE rfl (Fin.cons (fun v18_4 => Fin.consE rfl (Fin.consE rfl (Fin.consE rfl (Fin.consE rfl (Fin.consE rfl (Fin.consE rfl (Fin.consE rfl (Fin.consE rfl (Fin.consE rfl (Fin.consE rfl (Fin.consE rfl (Fin.consE rfl (Fin.consE rfl (Fin.consE rfl (Fin.consE rfl (Fin.consE rfl (Fin.nil ?_)))))))))))))))))))))
     refine J.drop ?_; refine J.nil ?_; refine JX.thenN (hK17 _ _ ?_); refine JC.ret ?_; refine JX.ret1 rfl rfl (fun w hw => ?_)
     exact ⟨rfl, (hw.drop (List.nil_sublist _)).below⟩
 ·refine JC.seq (fun K18 hK18 => ?_); refine JC.region ?_; refine J.move rfl rfl ?_; refine J.lenS rfl Ty.u57 rfl rfl ?_; refine J.move rfl rfl ?_; refine J.nil ?_; refine JX.thenN (hK18 _ _ ?_); refine JC.block ?_
  refine JC.conseq (JC.cov (f := (fun st => [(3, .pointer (some ⟨rd, 0, none⟩)), (4, .pointer (some ⟨lb, 0, none⟩)), (28, .slice a rs.length c), (29, .int .i64 ((rs.length : Nat) : Int)), (30, .int .i64 ((st.i : Nat) : Int))]) (⟨0, ⟨0, 0, 0, []⟩, false, σ0, lp0⟩ : OpS)) ⟨rfl, rfl, rfl, rfl, rfl, trivial⟩ (JC.loop (α := OpS) (fun st => [(3, .pointer (some ⟨rd, 0, none⟩)), (4, .pointer (some ⟨lb, 0, none⟩)), (28, .slice a rs.length c), (29, .int .i64 ((rs.length : Nat) : Int)), (30, .int .i64 ((st.i : Nat) : Int))]) (fun st w' => (st.i ≤ rs.length ∧ OpI N (.slice a0 (64 * N) c0) st) ∧ St w [] ((lb, rlO rd st.q st.dn) :: (rd, rfO (.slice a0 (64 * N) c0) st.σ.p st.σ.k) :: st.lp) w') (fun st => rs.length - st.i) (⟨0, ⟨0, 0, 0, []⟩, false, σ0, lp0⟩ : OpS) (fun st => ?_))) (fun w hw => ⟨⟨Nat.zero_le _, ⟨by show 0 ≤ 81; omega, hI0, Nat.le_refl _, by show 0 ≤ σ0.k; omega, by show σ0.k ≤ 19 * ((0 : Nat) : Int); omega, hp0, hv0⟩⟩, hw⟩)
  obtain ⟨i, q, dn, σ, lp⟩ := st
  refine JC.pr (fun hI => ?_)
  obtain ⟨hi, hI⟩ := hI
  try simp only
  obtain ⟨hi81, hlog, hgen, hk0, hkb, hp, hv⟩ := id hI
  try simp only at hi hi81 hlog hgen hk0 hkb hp hv
  refine JC.seq (fun K19 hK19 => ?_); refine JC.region ?_; refine J.bin rfl rfl rfl rfl ?_; refine J.nil ?_; refine JX.thenN (hK19 _ _ ?_); refine JC.seq (fun K20 hK20 => ?_); refine JC.cond rfl (fun h1 => ?_) (fun h1 => ?_)
  ·have hlt : i < rs.length := by simp at h1; omega
   obtain ⟨ru, hru⟩ : ∃ x, rs[i]? = some x := ⟨_, List.getElem?_eq_getElem hlt⟩
   obtain ⟨u, hu⟩ : ∃ x, vs[i]? = some x := ⟨_, List.getElem?_eq_getElem (by omega)⟩
   have hru2 := hre i u ru hu hru
   have hrul := hrb ru (List.mem_of_getElem? hru)
   obtain ⟨au, cu, rfl, hcu, _⟩ := id hru2
   obtain ⟨bq, oq, cq, hsq, hcq, hcl⟩ := hrow.some (by omega)
   simp only [Value.slice.injEq] at hsq
   obtain ⟨rfl, -, rfl⟩ := hsq
   have hcell := row_cell hrow hu (q := oq + ((i : Nat) : Int).toNat * 1) (by omega)
   refine JC.skip ?_; refine JX.thenN (hK20 _ _ ?_); refine JC.seq (fun K21 hK21 => ?_); refine JC.block ?_; refine JC.seq (fun K22 hK22 => ?_); refine JC.region ?_; refine J.move rfl rfl ?_; refine J.indexAddrS Ty.el57 Ty.s26 rfl rfl (by omega) (by omega) rfl ?_; refine J.loadR (v := .slice au ru.length cu) Ty.a26 rfl hcell (by simp) rfl ?_; refine J.assign rfl rfl ?_; refine J.assign rfl rfl ?_; refine J.nil ?_; refine JX.thenN (hK22 _ _ ?_); refine JC.seq (fun K23 hK23 => ?_); refine JC.seq (fun K24 hK24 => ?_); refine JC.region ?_; refine J.move rfl rfl ?_; refine J.bin rfl rfl rfl rfl ?_; refine J.nil ?_; refine JX.thenN (hK24 _ _ ?_); refine JC.cond rfl (fun h2 => ?_) (fun h2 => ?_)
   ·try simp only [decide_eq_true_eq, decide_eq_false_iff_not, beq_iff_eq, bne_iff_ne, bne_eq_false_iff_eq, ne_eq, beq_eq_false_iff_ne, Bool.not_eq_true, Bool.not_eq_false, Int.not_lt, Int.not_le] at h2
    refine JC.exit ?_; refine JX.thenE ?_; refine JX.blockO rfl ?_; refine JX.thenE ?_; refine JX.thenE ?_; refine JX.blockE ?_; refine JX.thenN ?_
    exact JX.cut (hK5 ⟨i, q, dn, σ, lp⟩) ⟨rfl, trivial⟩ (fun w1 hw => ⟨hI, hw.drop (List.sublist_cons_self _ _)⟩)
   ·have hi80 : i ≤ 80 := by simp at h2; omega
    refine JC.skip ?_; refine JX.thenN (hK23 _ _ ?_); refine JC.region ?_; refine J.move rfl rfl ?_; refine J.move rfl rfl ?_
    have hbb := openP_len hlog.open_ (by omega)
    obtain ⟨e2, q2, dn2, σ2, happ, hI2, hka, hkc, hga, hgb, -, -⟩ := append_law (n := N) (down := dn) (rec_ := ru) (by omega) hlog (by omega)
    have hp2 : σ2.p = σ.p := by have h9 := appendP_p (n := N) (q := q) (dn := dn) (σ := σ) (rec_ := ru) (by omega); rw [happ] at h9; exact h9
    refine J.perm (((lb, rlO rd q dn) :: (rd, rfO (.slice a0 (64 * N) c0) σ.p σ.k) :: lp) ++ []) zp ?_; refine J.callS (α := List (Nat × Obj)) (V := fun _ => .int .i64 e2) (Pr := fun x => Vec 5 1 (.slice a0 (64 * N) c0) (64 * N) (σ2.B.map u8) x) (L := fun x => (lb, rlO rd q2 dn2) :: (rd, rfO (.slice a0 (64 * N) c0) σ2.p σ2.k) :: x) (l1 := (lb, rlO rd q dn) :: (rd, rfO (.slice a0 (64 * N) c0) σ.p σ.k) :: lp) Ty.bd28 rfl rfl (fun w1 hw => rappend_all lb rd N q dn _ lp σ.B ru σ.p σ.k au ru.length cu w1 (St.owns hw) hv hlog.len (by omega) hbb.1 hbb.2.1 hbb.2.2.1 hbb.2.2.2.1 hk0 (by omega) hlog.p rfl hrul (hru2.below (hw.drop (List.nil_sublist _)).below) (row_off hru2 hw (fun b hb => by rw [List.map_append]; exact List.mem_append_left _ hb)) happ) (fun lp2 hv2 => ?_); refine J.perm ((lb, rlO rd q2 dn2) :: (rd, rfO (.slice a0 (64 * N) c0) σ2.p σ2.k) :: lp2) zp ?_; refine J.nil ?_; refine JX.blockN ?_; refine JX.thenN (hK21 _ _ ?_); refine JC.region ?_
    (first | refine J.addN rfl rfl (by omega) (by omega) rfl ?_ | refine J.bin rfl rfl rfl rfl ?_)
    refine J.move rfl rfl ?_; refine J.nil ?_; refine JX.thenN ?_; refine JX.again (⟨i + 1, q2, dn2, σ2, lp2⟩ : OpS) ?_ ?_ ?_
    ·simp only; omega
    ·exact ⟨rfl, rfl, rfl, rfl, rfl, trivial⟩
    ·exact fun w1 hw => ⟨⟨hlt, ⟨by simp only; omega, hI2, by simp only; omega, by simp only; omega, by simp only; omega, by simp only; rw [hp2]; exact hp, hv2⟩⟩, hw⟩
  ·try simp only [decide_eq_true_eq, decide_eq_false_iff_not, beq_iff_eq, bne_iff_ne, bne_eq_false_iff_eq, ne_eq, beq_eq_false_iff_ne, Bool.not_eq_true, Bool.not_eq_false, Int.not_lt, Int.not_le] at h1
   refine JC.exit ?_; refine JX.thenE ?_; refine JX.thenE ?_; refine JX.blockE ?_; refine JX.thenN ?_
   exact JX.cut (hK5 ⟨i, q, dn, σ, lp⟩) ⟨rfl, trivial⟩ (fun w1 hw => ⟨hI, hw.drop (List.sublist_cons_self _ _)⟩)

theorem cells_map (xs : List (Sl UInt8)) : xs.flatMap (fun x => [x.v]) = xs.map Sl.v := by
 induction xs with
 | nil => rfl
 | cons k xs ih => rw [List.flatMap_cons, List.map_cons, ih]; rfl
theorem rowRecs_of {w : World} {x : Sl (Sl UInt8)} {cs : List Value} (hx : RSl 1 24 (RSl 1 1 RU8) w cs x) : RowRecs w x.v (x.xs.map (·.xs)) ∧ ∀ r, r ∈ x.xs.map (·.xs) → r.length ≤ 140737488351232 := by
 have h := rslG (c := fun k : Sl UInt8 => [k.v]) (sz := 1) (fun _ => rfl) (by omega) (fun _ _ _ h => h.1) hx
 rw [cells_map] at h
 have h2 : ∀ y, y ∈ x.xs → RSl 1 1 RU8 w [y.v] y := by
  obtain ⟨_, _, _, h4⟩ := hx
  intro y hy
  rcases h4 with h4 | ⟨b, o, _, h4⟩
  ·rw [h4] at hy; cases hy
  ·obtain ⟨i, hi⟩ := List.mem_iff_getElem?.1 hy
   obtain ⟨cs', _, _, h5⟩ := h4 i y hi
   have h6 := h5.1
   rw [h6] at h5
   exact h5
 refine ⟨⟨x.xs.map Sl.v, by rw [List.length_map]; exact h, by rw [List.length_map, List.length_map], fun i u r hu hr => ?_⟩, fun r hr => ?_⟩
 ·rw [List.getElem?_map] at hu hr
  obtain ⟨y, hy, rfl⟩ := Option.map_eq_some_iff.1 hu
  rw [hy] at hr
  simp only [Option.map_some, Option.some.injEq] at hr
  rw [← hr]
  exact (h2 y (List.mem_of_getElem? hy)).row
 ·obtain ⟨y, hy, rfl⟩ := List.mem_map.1 hr
  exact reach_len1 (h2 y hy)
theorem vaultOpens_walk (w : World) (x : Sl (Sl UInt8)) (hx : RSl 1 24 (RSl 1 1 RU8) w [x.v] x) :
  Calls Try.prog 8 [x.v].toArray w fun r w' => r = .returned (.bool true) ∧ Bel w w' :=
 vaultOpensL_spec x.v (x.xs.map (·.xs)) w (rowRecs_of hx).1 (rowRecs_of hx).2
end Go.Proofs.Ytoaenmlhehcjfaa
