/-
  VaultPlays: texts that its proof needs, part 5.
-/
import Derived.Test.YtoaenmlhehcjfaaZVaultPlaysd
namespace Go.Proofs.Ytoaenmlhehcjfaa
open Go.J Go.RowKit
set_option linter.unusedVariables false
set_option linter.unusedSimpArgs false
set_option maxRecDepth 8000
def RdR.Pr (bs:List UInt8):RdR→Prop
 | .no _=>readP 0 bs=none
 | .inc n=>readP 0 bs=some (.inl n)
 | .item h=>readP 0 bs=some (.inr h.it)∧okV h.ver.n∧Vec 5 1 h.sv h.bs.length (h.bs.map u8) h.lp
set_option maxHeartbeats 1000000 in
theorem rread18_spec (v:Value) (bs:List UInt8) (w:World) (hr:Row w v bs.length (bs.map u8)) (hl:bs.length≤2000) :
  Calls Try.prog 74 [v].toArray w fun r w'=>∃z:RdR,r=.returned z.val∧z.Pr bs∧St w [] z.lst w':=by
 obtain ⟨a,c,rfl,hc,_⟩:=id hr
 refine qD (args:=[.slice a bs.length c]) (e:=[(0,.slice a bs.length c)]) Try.func74 rfl rfl ⟨rfl,trivial⟩ (St.start w) ?_;refine JC.seq (fun K0 hK0=>?_);refine JC.region ?_;refine J.alloc Ty.zIt rfl rfl (fun b2=>?_);refine J.assign rfl rfl<|J.assign rfl rfl<|J.nil ?_;refine JX.qd (hK0 _ _ ?_);refine JC.seq (fun K1 hK1=>?_);refine JC.region<|J.qe rfl rfl ?_
 obtain ⟨⟨n0,p0,e0⟩,hN0⟩:∃x,getN bs 0=x:=⟨_,rfl⟩
 have hn0b:=yi bs 0
 have hn0u:=yG bs 0
 rw [hN0] at hn0b hn0u
 simp only at hn0b hn0u
 refine J.qR (v:=.tuple #[.int .u64 ((n0:Nat):Int),.int .i64 ((p0:Nat):Int),.int .i64 e0]) (fun w1 w2 hw hb=>hw.step hb) Ty.bd80 rfl rfl (fun w1 hw=>by have h9:=yU _ bs 0 w1 (hr.below (hw.drop (List.nil_sublist _)).below) (by omega) (by omega);rw [hN0] at h9;exact h9) ?_;refine J.qe rfl rfl<|J.extract rfl rfl rfl<|J.extract rfl rfl rfl<|J.extract rfl rfl rfl<|J.assign rfl rfl<|J.assign rfl rfl<|J.assign rfl rfl<|J.nil ?_;refine JX.qd (hK1 _ _ ?_);refine JC.seq (fun K2 hK2=>?_);refine JC.seq (fun K3 hK3=>?_)
 by_cases xa:e0≠0
 ·have hg:readP 0 bs=none:=readP_0 hN0 (.inl xa)
  refine JC.region<|J.qe rfl rfl<|J.qj rfl rfl rfl rfl<|J.name 22 rfl (show _=Value.bool true by simp [xa]) ?_;refine J.qe rfl rfl ?_
  first | refine J.skip rfl rfl rfl rfl rfl ?_ | refine J.qh rfl rfl rfl rfl ?_ | (refine J.qf rfl rfl rfl ?_;refine J.qe rfl rfl ?_)
  first | refine J.skip rfl rfl rfl rfl rfl ?_ | refine J.qh rfl rfl rfl rfl ?_ | (refine J.qf rfl rfl rfl ?_;refine J.qj rfl rfl rfl rfl ?_)
  (first | refine J.qr rfl rfl rfl ?_ | refine J.qs rfl rfl rfl ?_)
  refine J.qe rfl rfl ?_
  first | refine J.skip rfl rfl rfl rfl rfl ?_ | refine J.qh rfl rfl rfl rfl ?_ | (refine J.qf rfl rfl rfl ?_;refine J.qe rfl rfl ?_)
  first | refine J.skip rfl rfl rfl rfl rfl ?_ | refine J.qh rfl rfl rfl rfl ?_ | (refine J.qf rfl rfl rfl ?_;refine J.qj rfl rfl rfl rfl ?_)
  (first | refine J.qr rfl rfl rfl ?_ | refine J.qs rfl rfl rfl ?_)
  refine J.nil ?_;refine JX.qd (hK3 _ _ ?_)
  first | refine JC.qP rfl ?_ | refine JC.qn rfl (fun _=>?_) (fun h=>by first | (exfalso;simp at h;omega) | (simp at h))
  refine JC.seq (fun K4 hK4=>?_);refine JC.region<|J.qY (cs:=cH zH) Ty.pl28 Ty.zIt rfl (by kernel_rfl) rfl ?_;refine J.qN (cs:=cH zH) (vs:=cH zH) Ty.s28 rfl rfl rfl rfl rfl (zi (x:=zH) rfl) zu<|J.assign rfl rfl<|J.assign rfl rfl<|J.nil ?_;refine JX.qd (hK4 _ _ ?_);refine JC.qA<|JX.qt ?_;refine JX.zl (vs:=cH zH) rfl rfl rfl rfl Ty.a28 Ty.s28 rfl (fun w1 hw=>Cells.of_block (hw.own (b2,cb (cH zH) 28) zm) rfl) (fun w1 hw=>?_)
  exact ⟨.no 0,rfl,hg,hw.drop (List.nil_sublist _)⟩
 ·by_cases xb:n0<1
  ·have hg:readP 0 bs=none:=readP_0 hN0 (.inr ⟨by omega,by omega⟩)
   refine JC.region<|J.qe rfl rfl<|J.qj rfl rfl rfl rfl<|J.name 22 rfl (show _=Value.bool false by have xz:e0=0:=(by omega);simp [xz]) ?_;refine J.qe rfl rfl ?_
   first | refine J.skip rfl rfl rfl rfl rfl ?_ | refine J.qh rfl rfl rfl rfl ?_ | (refine J.qf rfl rfl rfl ?_;refine J.qe rfl rfl ?_)
   refine J.qf rfl rfl rfl<|J.qj rfl rfl rfl rfl<|J.name 25 rfl (show _=Value.bool true by simp;omega) ?_
   (first | refine J.qr rfl rfl rfl ?_ | refine J.qs rfl rfl rfl ?_)
   refine J.qe rfl rfl ?_
   first | refine J.skip rfl rfl rfl rfl rfl ?_ | refine J.qh rfl rfl rfl rfl ?_ | (refine J.qf rfl rfl rfl ?_;refine J.qe rfl rfl ?_)
   first | refine J.skip rfl rfl rfl rfl rfl ?_ | refine J.qh rfl rfl rfl rfl ?_ | (refine J.qf rfl rfl rfl ?_;refine J.qj rfl rfl rfl rfl ?_)
   (first | refine J.qr rfl rfl rfl ?_ | refine J.qs rfl rfl rfl ?_)
   refine J.nil ?_;refine JX.qd (hK3 _ _ ?_)
   first | refine JC.qP rfl ?_ | refine JC.qn rfl (fun _=>?_) (fun h=>by first | (exfalso;simp at h;omega) | (simp at h))
   refine JC.seq (fun K5 hK5=>?_);refine JC.region<|J.qY (cs:=cH zH) Ty.pl28 Ty.zIt rfl (by kernel_rfl) rfl ?_;refine J.qN (cs:=cH zH) (vs:=cH zH) Ty.s28 rfl rfl rfl rfl rfl (zi (x:=zH) rfl) zu<|J.assign rfl rfl<|J.assign rfl rfl<|J.nil ?_;refine JX.qd (hK5 _ _ ?_);refine JC.qA<|JX.qt ?_;refine JX.zl (vs:=cH zH) rfl rfl rfl rfl Ty.a28 Ty.s28 rfl (fun w1 hw=>Cells.of_block (hw.own (b2,cb (cH zH) 28) zm) rfl) (fun w1 hw=>?_)
   exact ⟨.no 0,rfl,hg,hw.drop (List.nil_sublist _)⟩
  ·by_cases xc:2<n0
   ·have hg:readP 0 bs=none:=readP_0 hN0 (.inr ⟨by omega,by omega⟩)
    refine JC.region<|J.qe rfl rfl<|J.qj rfl rfl rfl rfl<|J.name 22 rfl (show _=Value.bool false by have xz:e0=0:=(by omega);simp [xz]) ?_;refine J.qe rfl rfl ?_
    first | refine J.skip rfl rfl rfl rfl rfl ?_ | refine J.qh rfl rfl rfl rfl ?_ | (refine J.qf rfl rfl rfl ?_;refine J.qe rfl rfl ?_)
    refine J.qf rfl rfl rfl<|J.qj rfl rfl rfl rfl<|J.name 25 rfl (show _=Value.bool false by simp;omega) ?_
    (first | refine J.qr rfl rfl rfl ?_ | refine J.qs rfl rfl rfl ?_)
    refine J.qe rfl rfl ?_
    first | refine J.skip rfl rfl rfl rfl rfl ?_ | refine J.qh rfl rfl rfl rfl ?_ | (refine J.qf rfl rfl rfl ?_;refine J.qe rfl rfl ?_)
    refine J.qf rfl rfl rfl<|J.qj rfl rfl rfl rfl<|J.name 29 rfl (show _=Value.bool true by simp;omega) ?_
    (first | refine J.qr rfl rfl rfl ?_ | refine J.qs rfl rfl rfl ?_)
    refine J.nil ?_;refine JX.qd (hK3 _ _ ?_)
    first | refine JC.qP rfl ?_ | refine JC.qn rfl (fun _=>?_) (fun h=>by first | (exfalso;simp at h;omega) | (simp at h))
    refine JC.seq (fun K6 hK6=>?_);refine JC.region<|J.qY (cs:=cH zH) Ty.pl28 Ty.zIt rfl (by kernel_rfl) rfl ?_;refine J.qN (cs:=cH zH) (vs:=cH zH) Ty.s28 rfl rfl rfl rfl rfl (zi (x:=zH) rfl) zu<|J.assign rfl rfl<|J.assign rfl rfl<|J.nil ?_;refine JX.qd (hK6 _ _ ?_);refine JC.qA<|JX.qt ?_;refine JX.zl (vs:=cH zH) rfl rfl rfl rfl Ty.a28 Ty.s28 rfl (fun w1 hw=>Cells.of_block (hw.own (b2,cb (cH zH) 28) zm) rfl) (fun w1 hw=>?_)
    exact ⟨.no 0,rfl,hg,hw.drop (List.nil_sublist _)⟩
   ·have hz0:e0=0:=by omega
    rw [hz0] at hN0
    refine JC.region<|J.qe rfl rfl<|J.qj rfl rfl rfl rfl<|J.name 22 rfl (show _=Value.bool false by have xz:e0=0:=(by omega);simp [xz]) ?_;refine J.qe rfl rfl ?_
    first | refine J.skip rfl rfl rfl rfl rfl ?_ | refine J.qh rfl rfl rfl rfl ?_ | (refine J.qf rfl rfl rfl ?_;refine J.qe rfl rfl ?_)
    refine J.qf rfl rfl rfl<|J.qj rfl rfl rfl rfl<|J.name 25 rfl (show _=Value.bool false by simp;omega) ?_
    (first | refine J.qr rfl rfl rfl ?_ | refine J.qs rfl rfl rfl ?_)
    refine J.qe rfl rfl ?_
    first | refine J.skip rfl rfl rfl rfl rfl ?_ | refine J.qh rfl rfl rfl rfl ?_ | (refine J.qf rfl rfl rfl ?_;refine J.qe rfl rfl ?_)
    refine J.qf rfl rfl rfl<|J.qj rfl rfl rfl rfl<|J.name 29 rfl (show _=Value.bool false by simp;omega) ?_
    (first | refine J.qr rfl rfl rfl ?_ | refine J.qs rfl rfl rfl ?_)
    refine J.nil ?_;refine JX.qd (hK3 _ _ ?_)
    first | refine JC.qI rfl ?_ | refine JC.qn rfl (fun h=>by first | (exfalso;simp at h;omega) | (simp at h)) (fun _=>?_)
    refine JC.skip ?_;refine JX.qd (hK2 _ _ ?_);refine JC.seq (fun K7 hK7=>?_);refine JC.seq (fun K8 hK8=>?_);refine JC.region<|J.qe rfl rfl<|J.qj rfl rfl rfl rfl<|J.nil ?_;refine JX.qd (hK8 _ _ ?_);refine JC.qn rfl (fun h1=>?_) (fun h1=>?_)
    ·have hk1:n0=1:=by simp at h1;omega
     subst hk1
     refine JC.seq (fun K9 hK9=>?_);refine JC.region<|J.qe rfl rfl<|J.qe rfl rfl ?_
     obtain ⟨⟨n1,p1,e1⟩,hN1⟩:∃x,getN bs p0=x:=⟨_,rfl⟩
     have hn1b:=yi bs p0
     have hn1u:=yG bs p0
     rw [hN1] at hn1b hn1u
     simp only at hn1b hn1u
     refine J.qR (v:=.tuple #[.int .u64 ((n1:Nat):Int),.int .i64 ((p1:Nat):Int),.int .i64 e1]) (fun w1 w2 hw hb=>hw.step hb) Ty.bd80 rfl rfl (fun w1 hw=>by have h9:=yU _ bs p0 w1 (hr.below (hw.drop (List.nil_sublist _)).below) (by omega) (by omega);rw [hN1] at h9;exact h9) ?_;refine J.qe rfl rfl<|J.extract rfl rfl rfl<|J.extract rfl rfl rfl<|J.extract rfl rfl rfl<|J.assign rfl rfl<|J.assign rfl rfl<|J.assign rfl rfl<|J.nil ?_;refine JX.qd (hK9 _ _ ?_);refine JC.seq (fun K10 hK10=>?_)
     by_cases ya:e1=0
     ·by_cases yb:p1=bs.length
      ·by_cases yc:1≤n1
       ·by_cases yd:n1≤1048576
        ·have hg:readP 0 bs=some (.inl n1):=readP_inc hN0 hN1 ya (by omega) (by omega) (by omega)
         have hn62:n1%4611686018427387904=n1:=Nat.mod_eq_of_lt (by omega)
         refine JC.region<|J.qY (cs:=cH zH) Ty.pl28 Ty.zIt rfl (by kernel_rfl) rfl ?_;refine J.qe rfl rfl<|J.remV rfl rfl (by omega) (by omega) rfl ?_;refine J.name 43 rfl (show _=Value.int .u64 ((n1%4611686018427387904:Nat):Int) from congrArg (Value.int .u64) (by omega)) ?_;refine J.qF Ty.u81 Ty.u2 rfl rfl<|J.name 44 rfl (show _=Value.int .i64 ((n1%4611686018427387904:Nat):Int) from congrArg (Value.int .i64) (qV (by omega) (by omega))) ?_;refine J.qe rfl rfl<|J.qj rfl rfl rfl rfl<|J.name 46 rfl (show _=Value.bool true by simp [ya]) ?_;refine J.qe rfl rfl ?_
         first | refine J.skip rfl rfl rfl rfl rfl ?_ | refine J.qh rfl rfl rfl rfl ?_ | (refine J.qf rfl rfl rfl ?_;refine J.qe rfl rfl ?_)
         first | refine J.skip rfl rfl rfl rfl rfl ?_ | refine J.qh rfl rfl rfl rfl ?_ | (refine J.qf rfl rfl rfl ?_;refine J.qe rfl rfl ?_)
         first | refine J.skip rfl rfl rfl rfl rfl ?_ | refine J.qh rfl rfl rfl rfl ?_ | (refine J.qf rfl rfl rfl ?_;refine J.qK rfl Ty.u26 rfl rfl ?_)
         refine J.qf rfl rfl rfl<|J.qj rfl rfl rfl rfl<|J.name 51 rfl (show _=Value.bool true by simp;omega) ?_
         (first | refine J.qr rfl rfl rfl ?_ | refine J.qs rfl rfl rfl ?_)
         refine J.qe rfl rfl ?_
         first | refine J.skip rfl rfl rfl rfl rfl ?_ | refine J.qh rfl rfl rfl rfl ?_ | (refine J.qf rfl rfl rfl ?_;refine J.qe rfl rfl ?_)
         refine J.qf rfl rfl rfl<|J.qj rfl rfl rfl rfl<|J.name 55 rfl (show _=Value.bool true by simp;omega) ?_
         (first | refine J.qr rfl rfl rfl ?_ | refine J.qs rfl rfl rfl ?_)
         refine J.qe rfl rfl ?_
         first | refine J.skip rfl rfl rfl rfl rfl ?_ | refine J.qh rfl rfl rfl rfl ?_ | (refine J.qf rfl rfl rfl ?_;refine J.qe rfl rfl ?_)
         refine J.qf rfl rfl rfl<|J.qj rfl rfl rfl rfl<|J.name 59 rfl (show _=Value.bool true by simp;omega) ?_
         (first | refine J.qr rfl rfl rfl ?_ | refine J.qs rfl rfl rfl ?_)
         refine J.qN (cs:=cH zH) (vs:=cH zH) Ty.s28 rfl rfl rfl rfl rfl (zi (x:=zH) rfl) zu<|J.assign rfl rfl<|J.assign rfl rfl<|J.nil ?_;refine JX.qd (hK10 _ _ ?_);refine JC.qA<|JX.qt ?_;refine JX.zl (vs:=cH zH) rfl rfl rfl rfl Ty.a28 Ty.s28 rfl (fun w1 hw=>Cells.of_block (hw.own (b2,cb (cH zH) 28) zm) rfl) (fun w1 hw=>?_)
         exact ⟨.inc n1,by rw [hn62];rfl,hg,hw.drop (List.sublist_cons_self _ _)⟩
        ·have hg:readP 0 bs=none:=yP hN0 hN1 (.inr (.inr (.inl (by omega))))
         refine JC.region<|J.qY (cs:=cH zH) Ty.pl28 Ty.zIt rfl (by kernel_rfl) rfl ?_;refine J.qe rfl rfl<|J.remV rfl rfl (by omega) (by omega) rfl ?_;refine J.name 43 rfl (show _=Value.int .u64 ((n1%4611686018427387904:Nat):Int) from congrArg (Value.int .u64) (by omega)) ?_;refine J.qF Ty.u81 Ty.u2 rfl rfl<|J.name 44 rfl (show _=Value.int .i64 ((n1%4611686018427387904:Nat):Int) from congrArg (Value.int .i64) (qV (by omega) (by omega))) ?_;refine J.qe rfl rfl<|J.qj rfl rfl rfl rfl<|J.name 46 rfl (show _=Value.bool true by simp [ya]) ?_;refine J.qe rfl rfl ?_
         first | refine J.skip rfl rfl rfl rfl rfl ?_ | refine J.qh rfl rfl rfl rfl ?_ | (refine J.qf rfl rfl rfl ?_;refine J.qe rfl rfl ?_)
         first | refine J.skip rfl rfl rfl rfl rfl ?_ | refine J.qh rfl rfl rfl rfl ?_ | (refine J.qf rfl rfl rfl ?_;refine J.qe rfl rfl ?_)
         first | refine J.skip rfl rfl rfl rfl rfl ?_ | refine J.qh rfl rfl rfl rfl ?_ | (refine J.qf rfl rfl rfl ?_;refine J.qK rfl Ty.u26 rfl rfl ?_)
         refine J.qf rfl rfl rfl<|J.qj rfl rfl rfl rfl<|J.name 51 rfl (show _=Value.bool true by simp;omega) ?_
         (first | refine J.qr rfl rfl rfl ?_ | refine J.qs rfl rfl rfl ?_)
         refine J.qe rfl rfl ?_
         first | refine J.skip rfl rfl rfl rfl rfl ?_ | refine J.qh rfl rfl rfl rfl ?_ | (refine J.qf rfl rfl rfl ?_;refine J.qe rfl rfl ?_)
         refine J.qf rfl rfl rfl<|J.qj rfl rfl rfl rfl<|J.name 55 rfl (show _=Value.bool true by simp;omega) ?_
         (first | refine J.qr rfl rfl rfl ?_ | refine J.qs rfl rfl rfl ?_)
         refine J.qe rfl rfl ?_
         first | refine J.skip rfl rfl rfl rfl rfl ?_ | refine J.qh rfl rfl rfl rfl ?_ | (refine J.qf rfl rfl rfl ?_;refine J.qe rfl rfl ?_)
         refine J.qf rfl rfl rfl<|J.qj rfl rfl rfl rfl<|J.name 59 rfl (show _=Value.bool false by simp;omega) ?_
         (first | refine J.qr rfl rfl rfl ?_ | refine J.qs rfl rfl rfl ?_)
         refine J.qN (cs:=cH zH) (vs:=cH zH) Ty.s28 rfl rfl rfl rfl rfl (zi (x:=zH) rfl) zu<|J.assign rfl rfl<|J.assign rfl rfl<|J.nil ?_;refine JX.qd (hK10 _ _ ?_);refine JC.qA<|JX.qt ?_;refine JX.zl (vs:=cH zH) rfl rfl rfl rfl Ty.a28 Ty.s28 rfl (fun w1 hw=>Cells.of_block (hw.own (b2,cb (cH zH) 28) zm) rfl) (fun w1 hw=>?_)
         exact ⟨.no ((n1%4611686018427387904:Nat):Int),rfl,hg,hw.drop (List.sublist_cons_self _ _)⟩
       ·have hg:readP 0 bs=none:=yP hN0 hN1 (.inr (.inr (.inr (by omega))))
        refine JC.region<|J.qY (cs:=cH zH) Ty.pl28 Ty.zIt rfl (by kernel_rfl) rfl ?_;refine J.qe rfl rfl<|J.remV rfl rfl (by omega) (by omega) rfl ?_;refine J.name 43 rfl (show _=Value.int .u64 ((n1%4611686018427387904:Nat):Int) from congrArg (Value.int .u64) (by omega)) ?_;refine J.qF Ty.u81 Ty.u2 rfl rfl<|J.name 44 rfl (show _=Value.int .i64 ((n1%4611686018427387904:Nat):Int) from congrArg (Value.int .i64) (qV (by omega) (by omega))) ?_;refine J.qe rfl rfl<|J.qj rfl rfl rfl rfl<|J.name 46 rfl (show _=Value.bool true by simp [ya]) ?_;refine J.qe rfl rfl ?_
        first | refine J.skip rfl rfl rfl rfl rfl ?_ | refine J.qh rfl rfl rfl rfl ?_ | (refine J.qf rfl rfl rfl ?_;refine J.qe rfl rfl ?_)
        first | refine J.skip rfl rfl rfl rfl rfl ?_ | refine J.qh rfl rfl rfl rfl ?_ | (refine J.qf rfl rfl rfl ?_;refine J.qe rfl rfl ?_)
        first | refine J.skip rfl rfl rfl rfl rfl ?_ | refine J.qh rfl rfl rfl rfl ?_ | (refine J.qf rfl rfl rfl ?_;refine J.qK rfl Ty.u26 rfl rfl ?_)
        refine J.qf rfl rfl rfl<|J.qj rfl rfl rfl rfl<|J.name 51 rfl (show _=Value.bool true by simp;omega) ?_
        (first | refine J.qr rfl rfl rfl ?_ | refine J.qs rfl rfl rfl ?_)
        refine J.qe rfl rfl ?_
        first | refine J.skip rfl rfl rfl rfl rfl ?_ | refine J.qh rfl rfl rfl rfl ?_ | (refine J.qf rfl rfl rfl ?_;refine J.qe rfl rfl ?_)
        refine J.qf rfl rfl rfl<|J.qj rfl rfl rfl rfl<|J.name 55 rfl (show _=Value.bool false by simp;omega) ?_
        (first | refine J.qr rfl rfl rfl ?_ | refine J.qs rfl rfl rfl ?_)
        refine J.qe rfl rfl ?_
        first | refine J.skip rfl rfl rfl rfl rfl ?_ | refine J.qh rfl rfl rfl rfl ?_ | (refine J.qf rfl rfl rfl ?_;refine J.qe rfl rfl ?_)
        first | refine J.skip rfl rfl rfl rfl rfl ?_ | refine J.qh rfl rfl rfl rfl ?_ | (refine J.qf rfl rfl rfl ?_;refine J.qj rfl rfl rfl rfl ?_)
        (first | refine J.qr rfl rfl rfl ?_ | refine J.qs rfl rfl rfl ?_)
        refine J.qN (cs:=cH zH) (vs:=cH zH) Ty.s28 rfl rfl rfl rfl rfl (zi (x:=zH) rfl) zu<|J.assign rfl rfl<|J.assign rfl rfl<|J.nil ?_;refine JX.qd (hK10 _ _ ?_);refine JC.qA<|JX.qt ?_;refine JX.zl (vs:=cH zH) rfl rfl rfl rfl Ty.a28 Ty.s28 rfl (fun w1 hw=>Cells.of_block (hw.own (b2,cb (cH zH) 28) zm) rfl) (fun w1 hw=>?_)
        exact ⟨.no ((n1%4611686018427387904:Nat):Int),rfl,hg,hw.drop (List.sublist_cons_self _ _)⟩
      ·have hg:readP 0 bs=none:=yP hN0 hN1 (.inr (.inl (by omega)))
       refine JC.region<|J.qY (cs:=cH zH) Ty.pl28 Ty.zIt rfl (by kernel_rfl) rfl ?_;refine J.qe rfl rfl<|J.remV rfl rfl (by omega) (by omega) rfl ?_;refine J.name 43 rfl (show _=Value.int .u64 ((n1%4611686018427387904:Nat):Int) from congrArg (Value.int .u64) (by omega)) ?_;refine J.qF Ty.u81 Ty.u2 rfl rfl<|J.name 44 rfl (show _=Value.int .i64 ((n1%4611686018427387904:Nat):Int) from congrArg (Value.int .i64) (qV (by omega) (by omega))) ?_;refine J.qe rfl rfl<|J.qj rfl rfl rfl rfl<|J.name 46 rfl (show _=Value.bool true by simp [ya]) ?_;refine J.qe rfl rfl ?_
       first | refine J.skip rfl rfl rfl rfl rfl ?_ | refine J.qh rfl rfl rfl rfl ?_ | (refine J.qf rfl rfl rfl ?_;refine J.qe rfl rfl ?_)
       first | refine J.skip rfl rfl rfl rfl rfl ?_ | refine J.qh rfl rfl rfl rfl ?_ | (refine J.qf rfl rfl rfl ?_;refine J.qe rfl rfl ?_)
       first | refine J.skip rfl rfl rfl rfl rfl ?_ | refine J.qh rfl rfl rfl rfl ?_ | (refine J.qf rfl rfl rfl ?_;refine J.qK rfl Ty.u26 rfl rfl ?_)
       refine J.qf rfl rfl rfl<|J.qj rfl rfl rfl rfl<|J.name 51 rfl (show _=Value.bool false by simp;omega) ?_
       (first | refine J.qr rfl rfl rfl ?_ | refine J.qs rfl rfl rfl ?_)
       refine J.qe rfl rfl ?_
       first | refine J.skip rfl rfl rfl rfl rfl ?_ | refine J.qh rfl rfl rfl rfl ?_ | (refine J.qf rfl rfl rfl ?_;refine J.qe rfl rfl ?_)
       first | refine J.skip rfl rfl rfl rfl rfl ?_ | refine J.qh rfl rfl rfl rfl ?_ | (refine J.qf rfl rfl rfl ?_;refine J.qj rfl rfl rfl rfl ?_)
       (first | refine J.qr rfl rfl rfl ?_ | refine J.qs rfl rfl rfl ?_)
       refine J.qe rfl rfl ?_
       first | refine J.skip rfl rfl rfl rfl rfl ?_ | refine J.qh rfl rfl rfl rfl ?_ | (refine J.qf rfl rfl rfl ?_;refine J.qe rfl rfl ?_)
       first | refine J.skip rfl rfl rfl rfl rfl ?_ | refine J.qh rfl rfl rfl rfl ?_ | (refine J.qf rfl rfl rfl ?_;refine J.qj rfl rfl rfl rfl ?_)
       (first | refine J.qr rfl rfl rfl ?_ | refine J.qs rfl rfl rfl ?_)
       refine J.qN (cs:=cH zH) (vs:=cH zH) Ty.s28 rfl rfl rfl rfl rfl (zi (x:=zH) rfl) zu<|J.assign rfl rfl<|J.assign rfl rfl<|J.nil ?_;refine JX.qd (hK10 _ _ ?_);refine JC.qA<|JX.qt ?_;refine JX.zl (vs:=cH zH) rfl rfl rfl rfl Ty.a28 Ty.s28 rfl (fun w1 hw=>Cells.of_block (hw.own (b2,cb (cH zH) 28) zm) rfl) (fun w1 hw=>?_)
       exact ⟨.no ((n1%4611686018427387904:Nat):Int),rfl,hg,hw.drop (List.sublist_cons_self _ _)⟩
     ·have hg:readP 0 bs=none:=yP hN0 hN1 (.inl (by omega))
      refine JC.region<|J.qY (cs:=cH zH) Ty.pl28 Ty.zIt rfl (by kernel_rfl) rfl ?_;refine J.qe rfl rfl<|J.remV rfl rfl (by omega) (by omega) rfl ?_;refine J.name 43 rfl (show _=Value.int .u64 ((n1%4611686018427387904:Nat):Int) from congrArg (Value.int .u64) (by omega)) ?_;refine J.qF Ty.u81 Ty.u2 rfl rfl<|J.name 44 rfl (show _=Value.int .i64 ((n1%4611686018427387904:Nat):Int) from congrArg (Value.int .i64) (qV (by omega) (by omega))) ?_;refine J.qe rfl rfl<|J.qj rfl rfl rfl rfl<|J.name 46 rfl (show _=Value.bool false by simp [ya]) ?_;refine J.qe rfl rfl ?_
      first | refine J.skip rfl rfl rfl rfl rfl ?_ | refine J.qh rfl rfl rfl rfl ?_ | (refine J.qf rfl rfl rfl ?_;refine J.qe rfl rfl ?_)
      first | refine J.skip rfl rfl rfl rfl rfl ?_ | refine J.qh rfl rfl rfl rfl ?_ | (refine J.qf rfl rfl rfl ?_;refine J.qe rfl rfl ?_)
      first | refine J.skip rfl rfl rfl rfl rfl ?_ | refine J.qh rfl rfl rfl rfl ?_ | (refine J.qf rfl rfl rfl ?_;refine J.qK rfl Ty.u26 rfl rfl ?_)
      first | refine J.skip rfl rfl rfl rfl rfl ?_ | refine J.qh rfl rfl rfl rfl ?_ | (refine J.qf rfl rfl rfl ?_;refine J.qj rfl rfl rfl rfl ?_)
      (first | refine J.qr rfl rfl rfl ?_ | refine J.qs rfl rfl rfl ?_)
      refine J.qe rfl rfl ?_
      first | refine J.skip rfl rfl rfl rfl rfl ?_ | refine J.qh rfl rfl rfl rfl ?_ | (refine J.qf rfl rfl rfl ?_;refine J.qe rfl rfl ?_)
      first | refine J.skip rfl rfl rfl rfl rfl ?_ | refine J.qh rfl rfl rfl rfl ?_ | (refine J.qf rfl rfl rfl ?_;refine J.qj rfl rfl rfl rfl ?_)
      (first | refine J.qr rfl rfl rfl ?_ | refine J.qs rfl rfl rfl ?_)
      refine J.qe rfl rfl ?_
      first | refine J.skip rfl rfl rfl rfl rfl ?_ | refine J.qh rfl rfl rfl rfl ?_ | (refine J.qf rfl rfl rfl ?_;refine J.qe rfl rfl ?_)
      first | refine J.skip rfl rfl rfl rfl rfl ?_ | refine J.qh rfl rfl rfl rfl ?_ | (refine J.qf rfl rfl rfl ?_;refine J.qj rfl rfl rfl rfl ?_)
      (first | refine J.qr rfl rfl rfl ?_ | refine J.qs rfl rfl rfl ?_)
      refine J.qN (cs:=cH zH) (vs:=cH zH) Ty.s28 rfl rfl rfl rfl rfl (zi (x:=zH) rfl) zu<|J.assign rfl rfl<|J.assign rfl rfl<|J.nil ?_;refine JX.qd (hK10 _ _ ?_);refine JC.qA<|JX.qt ?_;refine JX.zl (vs:=cH zH) rfl rfl rfl rfl Ty.a28 Ty.s28 rfl (fun w1 hw=>Cells.of_block (hw.own (b2,cb (cH zH) 28) zm) rfl) (fun w1 hw=>?_)
      exact ⟨.no ((n1%4611686018427387904:Nat):Int),rfl,hg,hw.drop (List.sublist_cons_self _ _)⟩
    ·have hk2:n0=2:=by simp at h1;omega
     subst hk2
     refine JC.skip ?_;refine JX.qd (hK7 _ _ ?_);refine JC.seq (fun K11 hK11=>?_);refine JC.region<|J.qe rfl rfl<|J.qe rfl rfl ?_
     obtain ⟨⟨k1,p1,e1⟩,hK1⟩:∃x,getI bs p0=x:=⟨_,rfl⟩
     have hk1b:=getI_end bs p0
     rw [hK1] at hk1b
     simp only at hk1b
     refine J.qR (v:=.tuple #[.agg (cI k1).toArray,.int .i64 ((p1:Nat):Int),.int .i64 e1]) (fun w1 w2 hw hb=>hw.step hb) Ty.bd81 rfl rfl (fun w1 hw=>by have h9:=rgetID_spec _ bs p0 w1 (hr.below (hw.drop (List.nil_sublist _)).below) (by omega) (by omega);rw [hK1] at h9;exact h9) ?_;refine J.qe rfl rfl<|J.extract rfl rfl rfl<|J.extract rfl rfl rfl<|J.extract rfl rfl rfl ?_;refine J.alloc Ty.zID rfl rfl (fun q6=>?_);refine J.qN (cs:=cI zI) (vs:=cI k1) Ty.s23 rfl rfl rfl rfl rfl (zN _) .here<|J.assign rfl rfl<|J.assign rfl rfl<|J.nil ?_;refine JX.qd (hK11 _ _ ?_);refine JC.seq (fun K12 hK12=>?_);refine JC.seq (fun K13 hK13=>?_);refine JC.region<|J.qe rfl rfl<|J.qj rfl rfl rfl rfl<|J.nil ?_;refine JX.qd (hK13 _ _ ?_);refine JC.qn rfl (fun h2=>?_) (fun h2=>?_)
     ·have hg:readP 0 bs=none:=readP_k1 hN0 hK1 (by simpa using h2)
      refine JC.seq (fun K14 hK14=>?_);refine JC.region<|J.qY (cs:=cH zH) Ty.pl28 Ty.zIt rfl (by kernel_rfl) rfl ?_;refine J.qN (cs:=cH zH) (vs:=cH zH) Ty.s28 rfl rfl rfl rfl rfl (zi (x:=zH) rfl) zu<|J.assign rfl rfl<|J.assign rfl rfl<|J.nil ?_;refine JX.qd (hK14 _ _ ?_);refine JC.qA<|JX.qt ?_;refine JX.zl (vs:=cH zH) rfl rfl rfl rfl Ty.a28 Ty.s28 rfl (fun w1 hw=>Cells.of_block (hw.own (b2,cb (cH zH) 28) zm) rfl) (fun w1 hw=>?_)
      exact ⟨.no 0,rfl,hg,hw.drop (List.nil_sublist _)⟩
     ·have hz1:e1=0:=by simpa using h2
      refine JC.skip ?_;refine JX.qd (hK12 _ _ ?_);refine JC.seq (fun K15 hK15=>?_);refine JC.region<|J.qe rfl rfl<|J.qe rfl rfl ?_
      obtain ⟨⟨n2,p2,e2⟩,hN2⟩:∃x,getN bs p1=x:=⟨_,rfl⟩
      have hn2b:=yi bs p1
      have hn2u:=yG bs p1
      rw [hN2] at hn2b hn2u
      simp only at hn2b hn2u
      refine J.qR (v:=.tuple #[.int .u64 ((n2:Nat):Int),.int .i64 ((p2:Nat):Int),.int .i64 e2]) (fun w1 w2 hw hb=>hw.step hb) Ty.bd80 rfl rfl (fun w1 hw=>by have h9:=yU _ bs p1 w1 (hr.below (hw.drop (List.nil_sublist _)).below) (by omega) (by omega);rw [hN2] at h9;exact h9) ?_;refine J.qe rfl rfl<|J.extract rfl rfl rfl<|J.extract rfl rfl rfl<|J.extract rfl rfl rfl<|J.assign rfl rfl<|J.assign rfl rfl<|J.assign rfl rfl<|J.nil ?_;refine JX.qd (hK15 _ _ ?_);refine JC.seq (fun K16 hK16=>?_);refine JC.seq (fun K17 hK17=>?_)
      by_cases xa:e2≠0
      ·have hg:readP 0 bs=none:=readP_n2 hN0 hK1 hz1 hN2 (.inl xa)
       refine JC.region<|J.qe rfl rfl<|J.qj rfl rfl rfl rfl<|J.name 79 rfl (show _=Value.bool true by simp [xa]) ?_;refine J.qe rfl rfl ?_
       first | refine J.skip rfl rfl rfl rfl rfl ?_ | refine J.qh rfl rfl rfl rfl ?_ | (refine J.qf rfl rfl rfl ?_;refine J.qe rfl rfl ?_)
       first | refine J.skip rfl rfl rfl rfl rfl ?_ | refine J.qh rfl rfl rfl rfl ?_ | (refine J.qf rfl rfl rfl ?_;refine J.qj rfl rfl rfl rfl ?_)
       (first | refine J.qr rfl rfl rfl ?_ | refine J.qs rfl rfl rfl ?_)
       refine J.qe rfl rfl ?_
       first | refine J.skip rfl rfl rfl rfl rfl ?_ | refine J.qh rfl rfl rfl rfl ?_ | (refine J.qf rfl rfl rfl ?_;refine J.qe rfl rfl ?_)
       first | refine J.skip rfl rfl rfl rfl rfl ?_ | refine J.qh rfl rfl rfl rfl ?_ | (refine J.qf rfl rfl rfl ?_;refine J.qj rfl rfl rfl rfl ?_)
       (first | refine J.qr rfl rfl rfl ?_ | refine J.qs rfl rfl rfl ?_)
       refine J.nil ?_;refine JX.qd (hK17 _ _ ?_)
       first | refine JC.qP rfl ?_ | refine JC.qn rfl (fun _=>?_) (fun h=>by first | (exfalso;simp at h;omega) | (simp at h))
       refine JC.seq (fun K18 hK18=>?_);refine JC.region<|J.qY (cs:=cH zH) Ty.pl28 Ty.zIt rfl (by kernel_rfl) rfl ?_;refine J.qN (cs:=cH zH) (vs:=cH zH) Ty.s28 rfl rfl rfl rfl rfl (zi (x:=zH) rfl) zu<|J.assign rfl rfl<|J.assign rfl rfl<|J.nil ?_;refine JX.qd (hK18 _ _ ?_);refine JC.qA<|JX.qt ?_;refine JX.zl (vs:=cH zH) rfl rfl rfl rfl Ty.a28 Ty.s28 rfl (fun w1 hw=>Cells.of_block (hw.own (b2,cb (cH zH) 28) zm) rfl) (fun w1 hw=>?_)
       exact ⟨.no 0,rfl,hg,hw.drop (List.nil_sublist _)⟩
      ·by_cases xb9:n2<1
       ·have hg:readP 0 bs=none:=readP_n2 hN0 hK1 hz1 hN2 (.inr (.inl xb9))
        refine JC.region<|J.qe rfl rfl<|J.qj rfl rfl rfl rfl<|J.name 79 rfl (show _=Value.bool false by have xz:e2=0:=(by omega);simp [xz]) ?_;refine J.qe rfl rfl ?_
        first | refine J.skip rfl rfl rfl rfl rfl ?_ | refine J.qh rfl rfl rfl rfl ?_ | (refine J.qf rfl rfl rfl ?_;refine J.qe rfl rfl ?_)
        refine J.qf rfl rfl rfl<|J.qj rfl rfl rfl rfl<|J.name 82 rfl (show _=Value.bool true by simp;omega) ?_
        (first | refine J.qr rfl rfl rfl ?_ | refine J.qs rfl rfl rfl ?_)
        refine J.qe rfl rfl ?_
        first | refine J.skip rfl rfl rfl rfl rfl ?_ | refine J.qh rfl rfl rfl rfl ?_ | (refine J.qf rfl rfl rfl ?_;refine J.qe rfl rfl ?_)
        first | refine J.skip rfl rfl rfl rfl rfl ?_ | refine J.qh rfl rfl rfl rfl ?_ | (refine J.qf rfl rfl rfl ?_;refine J.qj rfl rfl rfl rfl ?_)
        (first | refine J.qr rfl rfl rfl ?_ | refine J.qs rfl rfl rfl ?_)
        refine J.nil ?_;refine JX.qd (hK17 _ _ ?_)
        first | refine JC.qP rfl ?_ | refine JC.qn rfl (fun _=>?_) (fun h=>by first | (exfalso;simp at h;omega) | (simp at h))
        refine JC.seq (fun K19 hK19=>?_);refine JC.region<|J.qY (cs:=cH zH) Ty.pl28 Ty.zIt rfl (by kernel_rfl) rfl ?_;refine J.qN (cs:=cH zH) (vs:=cH zH) Ty.s28 rfl rfl rfl rfl rfl (zi (x:=zH) rfl) zu<|J.assign rfl rfl<|J.assign rfl rfl<|J.nil ?_;refine JX.qd (hK19 _ _ ?_);refine JC.qA<|JX.qt ?_;refine JX.zl (vs:=cH zH) rfl rfl rfl rfl Ty.a28 Ty.s28 rfl (fun w1 hw=>Cells.of_block (hw.own (b2,cb (cH zH) 28) zm) rfl) (fun w1 hw=>?_)
        exact ⟨.no 0,rfl,hg,hw.drop (List.nil_sublist _)⟩
       ·by_cases xc9:4611686018427387904≤n2
        ·have hg:readP 0 bs=none:=readP_n2 hN0 hK1 hz1 hN2 (.inr (.inr xc9))
         refine JC.region<|J.qe rfl rfl<|J.qj rfl rfl rfl rfl<|J.name 79 rfl (show _=Value.bool false by have xz:e2=0:=(by omega);simp [xz]) ?_;refine J.qe rfl rfl ?_
         first | refine J.skip rfl rfl rfl rfl rfl ?_ | refine J.qh rfl rfl rfl rfl ?_ | (refine J.qf rfl rfl rfl ?_;refine J.qe rfl rfl ?_)
         refine J.qf rfl rfl rfl<|J.qj rfl rfl rfl rfl<|J.name 82 rfl (show _=Value.bool false by simp;omega) ?_
         (first | refine J.qr rfl rfl rfl ?_ | refine J.qs rfl rfl rfl ?_)
         refine J.qe rfl rfl ?_
         first | refine J.skip rfl rfl rfl rfl rfl ?_ | refine J.qh rfl rfl rfl rfl ?_ | (refine J.qf rfl rfl rfl ?_;refine J.qe rfl rfl ?_)
         refine J.qf rfl rfl rfl<|J.qj rfl rfl rfl rfl<|J.name 86 rfl (show _=Value.bool true by simp;omega) ?_
         (first | refine J.qr rfl rfl rfl ?_ | refine J.qs rfl rfl rfl ?_)
         refine J.nil ?_;refine JX.qd (hK17 _ _ ?_)
         first | refine JC.qP rfl ?_ | refine JC.qn rfl (fun _=>?_) (fun h=>by first | (exfalso;simp at h;omega) | (simp at h))
         refine JC.seq (fun K20 hK20=>?_);refine JC.region<|J.qY (cs:=cH zH) Ty.pl28 Ty.zIt rfl (by kernel_rfl) rfl ?_;refine J.qN (cs:=cH zH) (vs:=cH zH) Ty.s28 rfl rfl rfl rfl rfl (zi (x:=zH) rfl) zu<|J.assign rfl rfl<|J.assign rfl rfl<|J.nil ?_;refine JX.qd (hK20 _ _ ?_);refine JC.qA<|JX.qt ?_;refine JX.zl (vs:=cH zH) rfl rfl rfl rfl Ty.a28 Ty.s28 rfl (fun w1 hw=>Cells.of_block (hw.own (b2,cb (cH zH) 28) zm) rfl) (fun w1 hw=>?_)
         exact ⟨.no 0,rfl,hg,hw.drop (List.nil_sublist _)⟩
        ·have xa0:e2=0:=by omega
         rw [xa0] at hN2
         refine JC.region<|J.qe rfl rfl<|J.qj rfl rfl rfl rfl<|J.name 79 rfl (show _=Value.bool false by have xz:e2=0:=(by omega);simp [xz]) ?_;refine J.qe rfl rfl ?_
         first | refine J.skip rfl rfl rfl rfl rfl ?_ | refine J.qh rfl rfl rfl rfl ?_ | (refine J.qf rfl rfl rfl ?_;refine J.qe rfl rfl ?_)
         refine J.qf rfl rfl rfl<|J.qj rfl rfl rfl rfl<|J.name 82 rfl (show _=Value.bool false by simp;omega) ?_
         (first | refine J.qr rfl rfl rfl ?_ | refine J.qs rfl rfl rfl ?_)
         refine J.qe rfl rfl ?_
         first | refine J.skip rfl rfl rfl rfl rfl ?_ | refine J.qh rfl rfl rfl rfl ?_ | (refine J.qf rfl rfl rfl ?_;refine J.qe rfl rfl ?_)
         refine J.qf rfl rfl rfl<|J.qj rfl rfl rfl rfl<|J.name 86 rfl (show _=Value.bool false by simp;omega) ?_
         (first | refine J.qr rfl rfl rfl ?_ | refine J.qs rfl rfl rfl ?_)
         refine J.nil ?_;refine JX.qd (hK17 _ _ ?_)
         first | refine JC.qI rfl ?_ | refine JC.qn rfl (fun h=>by first | (exfalso;simp at h;omega) | (simp at h)) (fun _=>?_)
         refine JC.skip ?_;refine JX.qd (hK16 _ _ ?_);refine JC.seq (fun K21 hK21=>?_);refine JC.region<|J.qe rfl rfl<|J.qe rfl rfl ?_
         obtain ⟨⟨k3,p3,e3⟩,hK3⟩:∃x,getI bs p2=x:=⟨_,rfl⟩
         have hk3b:=getI_end bs p2
         rw [hK3] at hk3b
         simp only at hk3b
         refine J.qR (v:=.tuple #[.agg (cI k3).toArray,.int .i64 ((p3:Nat):Int),.int .i64 e3]) (fun w1 w2 hw hb=>hw.step hb) Ty.bd81 rfl rfl (fun w1 hw=>by have h9:=rgetID_spec _ bs p2 w1 (hr.below (hw.drop (List.nil_sublist _)).below) (by omega) (by omega);rw [hK3] at h9;exact h9) ?_;refine J.qe rfl rfl<|J.extract rfl rfl rfl<|J.extract rfl rfl rfl<|J.extract rfl rfl rfl ?_;refine J.alloc Ty.zID rfl rfl (fun zt=>?_);refine J.qN (cs:=cI zI) (vs:=cI k3) Ty.s23 rfl rfl rfl rfl rfl (zN _) .here<|J.assign rfl rfl<|J.assign rfl rfl<|J.nil ?_;refine JX.qd (hK21 _ _ ?_);refine JC.seq (fun K22 hK22=>?_);refine JC.seq (fun K23 hK23=>?_);refine JC.region<|J.qe rfl rfl<|J.qj rfl rfl rfl rfl<|J.nil ?_;refine JX.qd (hK23 _ _ ?_);refine JC.qn rfl (fun h4=>?_) (fun h4=>?_)
         ·have hg:readP 0 bs=none:=readP_k3 hN0 hK1 hz1 hN2 xb9 xc9 hK3 (by simpa using h4)
          refine JC.seq (fun K24 hK24=>?_);refine JC.region<|J.qY (cs:=cH zH) Ty.pl28 Ty.zIt rfl (by kernel_rfl) rfl ?_;refine J.qN (cs:=cH zH) (vs:=cH zH) Ty.s28 rfl rfl rfl rfl rfl (zi (x:=zH) rfl) zu<|J.assign rfl rfl<|J.assign rfl rfl<|J.nil ?_;refine JX.qd (hK24 _ _ ?_);refine JC.qA<|JX.qt ?_;refine JX.zl (vs:=cH zH) rfl rfl rfl rfl Ty.a28 Ty.s28 rfl (fun w1 hw=>Cells.of_block (hw.own (b2,cb (cH zH) 28) zm) rfl) (fun w1 hw=>?_)
          exact ⟨.no 0,rfl,hg,hw.drop (List.nil_sublist _)⟩
         ·have hz3:e3=0:=by simpa using h4
          refine JC.skip ?_;refine JX.qd (hK22 _ _ ?_);refine JC.seq (fun K25 hK25=>?_);refine JC.region<|J.qe rfl rfl<|J.qe rfl rfl ?_
          obtain ⟨⟨t4,p4,e4⟩,hT4⟩:∃x,getT bs p3 64=x:=⟨_,rfl⟩
          have ht4l:=getT_len bs p3 64
          have ht4e:=getT_endle bs p3 64
          rw [hT4] at ht4l ht4e
          simp only at ht4l ht4e
          refine J.perm ([]++((zt,cb (cI k3) 23)::(q6,cb (cI k1) 23)::(b2,cb (cH zH) 28)::[])) zp ?_;refine J.qO (α:=Value × List (Nat × Obj)) (V:=fun x=>.tuple #[x.1,.int .i64 ((p4:Nat):Int),.int .i64 e4]) (Pr:=fun x=>Vec 5 1 x.1 (t4).length ((t4).map u8) x.2) (L:=(·.2)) (l1:=[]) Ty.bd82 rfl rfl (fun w1 hw=>by have h9:=rgetText_spec _ bs p3 64 w1 (hr.below (hw.drop (List.nil_sublist _)).below) (by omega) (by omega) (by omega);rw [hT4] at h9;exact h9) (fun x hv4=>?_)
          obtain ⟨v4,l4⟩:=x
          try simp only at hv4 ⊢
          obtain ⟨a4,c4,rfl,hc4⟩:=hv4.form
          refine J.perm ((b2,cb (cH zH) 28)::(zt,cb (cI k3) 23)::(q6,cb (cI k1) 23)::l4) zp<|J.qe rfl rfl<|J.extract rfl rfl rfl<|J.extract rfl rfl rfl<|J.extract rfl rfl rfl<|J.assign rfl rfl<|J.assign rfl rfl<|J.assign rfl rfl<|J.nil ?_;refine JX.qd (hK25 _ _ ?_);refine JC.seq (fun K26 hK26=>?_);refine JC.seq (fun K27 hK27=>?_)
          by_cases xd:e4≠0
          ·have hg:readP 0 bs=none:=readP_t4 hN0 hK1 hz1 hN2 xb9 xc9 hK3 hz3 hT4 (.inl xd)
           refine JC.region<|J.qe rfl rfl<|J.qj rfl rfl rfl rfl<|J.name 107 rfl (show _=Value.bool true by simp [xd]) ?_;refine J.qe rfl rfl ?_
           first | refine J.skip rfl rfl rfl rfl rfl ?_ | refine J.qh rfl rfl rfl rfl ?_ | (refine J.qf rfl rfl rfl ?_;refine J.qe rfl rfl ?_)
           first | refine J.skip rfl rfl rfl rfl rfl ?_ | refine J.qh rfl rfl rfl rfl ?_ | (refine J.qf rfl rfl rfl ?_;refine J.qe rfl rfl ?_)
           first | refine J.skip rfl rfl rfl rfl rfl ?_ | refine J.qh rfl rfl rfl rfl ?_ | (refine J.qf rfl rfl rfl ?_;refine J.qK rfl Ty.u26 rfl rfl ?_)
           first | refine J.skip rfl rfl rfl rfl rfl ?_ | refine J.qh rfl rfl rfl rfl ?_ | (refine J.qf rfl rfl rfl ?_;refine J.qj rfl rfl rfl rfl ?_)
           (first | refine J.qr rfl rfl rfl ?_ | refine J.qs rfl rfl rfl ?_)
           refine J.nil ?_;refine JX.qd (hK27 _ _ ?_)
           first | refine JC.qP rfl ?_ | refine JC.qn rfl (fun _=>?_) (fun h=>by first | (exfalso;simp at h;omega) | (simp at h))
           refine JC.seq (fun K28 hK28=>?_);refine JC.region<|J.qY (cs:=cH zH) Ty.pl28 Ty.zIt rfl (by kernel_rfl) rfl ?_;refine J.qN (cs:=cH zH) (vs:=cH zH) Ty.s28 rfl rfl rfl rfl rfl (zi (x:=zH) rfl) zu<|J.assign rfl rfl<|J.assign rfl rfl<|J.nil ?_;refine JX.qd (hK28 _ _ ?_);refine JC.qA<|JX.qt ?_;refine JX.zl (vs:=cH zH) rfl rfl rfl rfl Ty.a28 Ty.s28 rfl (fun w1 hw=>Cells.of_block (hw.own (b2,cb (cH zH) 28) zm) rfl) (fun w1 hw=>?_)
           exact ⟨.no 0,rfl,hg,hw.drop (List.nil_sublist _)⟩
          ·by_cases xe:p4≠bs.length
           ·have hg:readP 0 bs=none:=readP_t4 hN0 hK1 hz1 hN2 xb9 xc9 hK3 hz3 hT4 (.inr (by omega))
            refine JC.region<|J.qe rfl rfl<|J.qj rfl rfl rfl rfl<|J.name 107 rfl (show _=Value.bool false by have xz:e4=0:=(by omega);simp [xz]) ?_;refine J.qe rfl rfl ?_
            first | refine J.skip rfl rfl rfl rfl rfl ?_ | refine J.qh rfl rfl rfl rfl ?_ | (refine J.qf rfl rfl rfl ?_;refine J.qe rfl rfl ?_)
            first | refine J.skip rfl rfl rfl rfl rfl ?_ | refine J.qh rfl rfl rfl rfl ?_ | (refine J.qf rfl rfl rfl ?_;refine J.qe rfl rfl ?_)
            first | refine J.skip rfl rfl rfl rfl rfl ?_ | refine J.qh rfl rfl rfl rfl ?_ | (refine J.qf rfl rfl rfl ?_;refine J.qK rfl Ty.u26 rfl rfl ?_)
            refine J.qf rfl rfl rfl<|J.qj rfl rfl rfl rfl<|J.name 112 rfl (show _=Value.bool true by simp;omega) ?_
            (first | refine J.qr rfl rfl rfl ?_ | refine J.qs rfl rfl rfl ?_)
            refine J.nil ?_;refine JX.qd (hK27 _ _ ?_)
            first | refine JC.qP rfl ?_ | refine JC.qn rfl (fun _=>?_) (fun h=>by first | (exfalso;simp at h;omega) | (simp at h))
            refine JC.seq (fun K29 hK29=>?_);refine JC.region<|J.qY (cs:=cH zH) Ty.pl28 Ty.zIt rfl (by kernel_rfl) rfl ?_;refine J.qN (cs:=cH zH) (vs:=cH zH) Ty.s28 rfl rfl rfl rfl rfl (zi (x:=zH) rfl) zu<|J.assign rfl rfl<|J.assign rfl rfl<|J.nil ?_;refine JX.qd (hK29 _ _ ?_);refine JC.qA<|JX.qt ?_;refine JX.zl (vs:=cH zH) rfl rfl rfl rfl Ty.a28 Ty.s28 rfl (fun w1 hw=>Cells.of_block (hw.own (b2,cb (cH zH) 28) zm) rfl) (fun w1 hw=>?_)
            exact ⟨.no 0,rfl,hg,hw.drop (List.nil_sublist _)⟩
           ·have hg:readP 0 bs=some (.inr ⟨k1,⟨((n2:Nat):Int),k3⟩,t4⟩):=readP_item hN0 hK1 hz1 hN2 xb9 xc9 hK3 hz3 hT4 (by omega) (by omega)
            refine JC.region<|J.qe rfl rfl<|J.qj rfl rfl rfl rfl<|J.name 107 rfl (show _=Value.bool false by have xz:e4=0:=(by omega);simp [xz]) ?_;refine J.qe rfl rfl ?_
            first | refine J.skip rfl rfl rfl rfl rfl ?_ | refine J.qh rfl rfl rfl rfl ?_ | (refine J.qf rfl rfl rfl ?_;refine J.qe rfl rfl ?_)
            first | refine J.skip rfl rfl rfl rfl rfl ?_ | refine J.qh rfl rfl rfl rfl ?_ | (refine J.qf rfl rfl rfl ?_;refine J.qe rfl rfl ?_)
            first | refine J.skip rfl rfl rfl rfl rfl ?_ | refine J.qh rfl rfl rfl rfl ?_ | (refine J.qf rfl rfl rfl ?_;refine J.qK rfl Ty.u26 rfl rfl ?_)
            refine J.qf rfl rfl rfl<|J.qj rfl rfl rfl rfl<|J.name 112 rfl (show _=Value.bool false by simp;omega) ?_
            (first | refine J.qr rfl rfl rfl ?_ | refine J.qs rfl rfl rfl ?_)
            refine J.nil ?_;refine JX.qd (hK27 _ _ ?_)
            first | refine JC.qI rfl ?_ | refine JC.qn rfl (fun h=>by first | (exfalso;simp at h;omega) | (simp at h)) (fun _=>?_)
            refine JC.skip ?_;refine JX.qd (hK26 _ _ ?_);refine JC.seq (fun K30 hK30=>?_);refine JC.region<|J.qC (vs:=cI k1) Ty.a23 Ty.s23 rfl rfl (fun w1 hw=>Cells.of_block (hw.own (q6,cb (cI k1) 23) zm) rfl) rfl ?_;refine J.qe rfl rfl<|J.qF Ty.u81 Ty.u2 rfl rfl<|J.name 117 rfl (show _=Value.int .i64 ((n2:Nat):Int) from congrArg (Value.int .i64) (qV (by omega) (by omega))) ?_;refine J.qC (vs:=cI k3) Ty.a23 Ty.s23 rfl rfl (fun w1 hw=>Cells.of_block (hw.own (zt,cb (cI k3) 23) zm) rfl) rfl ?_;refine J.qY (cs:=cV ⟨((n2:Nat):Int),k3⟩) Ty.pl25 Ty.zVr rfl (by kernel_rfl) rfl ?_;refine J.qe rfl rfl<|J.qY (cs:=cT k1 ⟨((n2:Nat):Int),k3⟩ (.slice a4 t4.length c4)) Ty.pl28 Ty.zIt rfl (by kernel_rfl) rfl ?_;refine J.perm ((b2,cb (cH zH) 28)::((zt,cb (cI k3) 23)::(q6,cb (cI k1) 23)::l4)) zp<|J.qN (cs:=cH zH) (vs:=cT k1 ⟨((n2:Nat):Int),k3⟩ (.slice a4 t4.length c4)) Ty.s28 rfl rfl rfl rfl rfl zF .here<|J.assign rfl rfl<|J.assign rfl rfl<|J.nil ?_;refine JX.qd (hK30 _ _ ?_);refine JC.qA ?_;refine JX.zl (vs:=cT k1 ⟨((n2:Nat):Int),k3⟩ (.slice a4 t4.length c4)) rfl rfl rfl rfl Ty.a28 Ty.s28 rfl (fun w1 hw=>Cells.of_block (hw.own (b2,cb (cT k1 ⟨((n2:Nat):Int),k3⟩ (.slice a4 t4.length c4)) 28) zm) rfl) (fun w1 hw=>?_)
            exact ⟨.item ⟨k1,⟨((n2:Nat):Int),k3⟩,t4,.slice a4 t4.length c4,l4⟩,rfl,⟨hg,⟨by simp only;omega,by simp only;omega⟩,hv4⟩,(hw.perm (zp:List.Perm _ (((b2,cb (cT k1 ⟨((n2:Nat):Int),k3⟩ (.slice a4 t4.length c4)) 28)::(zt,cb (cI k3) 23)::(q6,cb (cI k1) 23)::[])++l4))).drop (List.sublist_append_right _ _)⟩
abbrev lowP (key:IDV):HI→Bool:=fun y=>decide (valI y.key<valI key)
abbrev highP (key:IDV):HI→Bool:=fun y=>decide (valI key<valI y.key)
def insH (ys:List HI) (x:HI):List HI:=ys.filter (lowP x.key)++[x]++ys.filter (highP x.key)
theorem yy {α:Type} {p:α→Bool} {ys:List α} {i:Nat} {y:α} (h:ys[i]? = some y):(ys.take (i+1)).filter p=(ys.take i).filter p++(if p y then [y] else []):=by
 rw [List.take_add_one,h,List.filter_append]
 cases hp:p y <;> simp [hp]
structure TkS where
 i:Nat
 v5:Value
 l5:List (Nat × Obj)
 v6:Value
 l6:List (Nat × Obj)
theorem one_cHs {ys:List HI} (h:∀y,y∈ys→∃a c,y.sv=.slice a y.bs.length c):∀v,v∈ys.flatMap cH→v.oneCell'=true:=fun v hv=>by
 obtain ⟨y,hy,hv⟩:=List.mem_flatMap.1 hv
 obtain ⟨a,c,hs⟩:=h y hy
 exact zi hs v hv
set_option maxHeartbeats 1000000 in
theorem rtake_spec (rb:Nat) (lv:Value) (inc:Int) (ys:List HI) (vy:Value) (ly:List (Nat × Obj)) (hv:Vec 28 34 vy (ys).length ((ys).flatMap cH) ly) (hf:∀y,y∈ys→∃a c,y.sv=.slice a y.bs.length c) (hyl:ys.length≤10000) (xc:List Value) (key:IDV) (ver:WV) (bs:List UInt8) (a:Option Addr) (k c:Nat) (lp:List (Nat × Obj)) (w:World) (hxc:xc=(cT key ver (.slice a k c))) (hw0:Own w ((rb,cb [lv,vy,.int .i64 inc] 74)::ly)) :
  Calls Try.prog 58 [.pointer (some ⟨rb,0,none⟩),.agg xc.toArray].toArray w fun r w'=>(r=.returned (.bool false)∧(∃y,y∈ys∧y.key=key∧newB ver y.ver=false)∧St w (((rb,cb [lv,vy,.int .i64 inc] 74)::ly).map (·.1)) ((rb,cb [lv,vy,.int .i64 inc] 74)::ly) w')∨(r=.returned (.bool true)∧(∀y,y∈ys→y.key=key→newB ver y.ver=true)∧∃v' l',Vec 28 34 v' (insH ys (⟨key,ver,bs,.slice a k c,lp⟩:HI)).length ((insH ys (⟨key,ver,bs,.slice a k c,lp⟩:HI)).flatMap cH) l'∧St w (((rb,cb [lv,vy,.int .i64 inc] 74)::ly).map (·.1)) ((rb,cb [lv,v',.int .i64 inc] 74)::l') w'):=by
 obtain ⟨ay,cy,rfl,hcy⟩:=hv.form
 obtain ⟨S0,hS0⟩:∃l,((rb,cb [lv,(.slice ay ys.length cy),.int .i64 inc] 74)::ly).map (·.1)=l:=⟨_,rfl⟩
 have hst0:=hw0.st
 rw [hS0] at hst0 ⊢
 refine qD (args:=[.pointer (some ⟨rb,0,none⟩),.agg xc.toArray]) (e:=[(0,.pointer (some ⟨rb,0,none⟩)),(1,.agg xc.toArray)]) Try.func58 rfl rfl ⟨rfl,rfl,trivial⟩ (hst0) ?_;refine JC.seq (fun K0 hK0=>?_);refine JC.region ?_;refine J.box rfl rfl rfl (fun b3=>?_)
 subst hxc
 refine J.assign rfl rfl<|J.nil ?_;refine JX.qd (hK0 _ _ ?_);refine JC.seq (fun K1 hK1=>?_);refine JC.region<|J.assign rfl rfl<|J.assign rfl rfl<|J.nil ?_;refine JX.qd (hK1 _ _ ?_);refine JC.seq (fun K2 hK2=>?_);refine JC.seq (fun K3 hK3=>?_);refine JC.region<|J.assign rfl rfl<|J.nil ?_;refine JX.qd (hK3 _ _ ?_);refine JC.block ?_
 refine JC.conseq (JC.cov (f:=(fun st=>[(0,.pointer (some ⟨rb,0,none⟩)),(3,.pointer (some ⟨b3,0,none⟩)),(5,st.v5),(6,st.v6),(7,.int .i64 ((st.i:Nat):Int))]) (⟨0,.slice none 0 0,[],.slice none 0 0,[]⟩:TkS)) ⟨rfl,rfl,rfl,rfl,rfl,trivial⟩ (JC.loop (α:=TkS) (fun st=>[(0,.pointer (some ⟨rb,0,none⟩)),(3,.pointer (some ⟨b3,0,none⟩)),(5,st.v5),(6,st.v6),(7,.int .i64 ((st.i:Nat):Int))]) (fun st w'=>(st.i≤ys.length∧(∀y,y∈ys.take st.i→y.key=key→newB ver y.ver=true)∧Vec 28 34 st.v5 ((ys.take st.i).filter (lowP key)).length (((ys.take st.i).filter (lowP key)).flatMap cH) st.l5∧Vec 28 34 st.v6 ((ys.take st.i).filter (highP key)).length (((ys.take st.i).filter (highP key)).flatMap cH) st.l6)∧St w S0 ((b3,cb (cT key ver (.slice a k c)) 28)::(rb,cb [lv,(.slice ay ys.length cy),.int .i64 inc] 74)::(ly++(st.l5++st.l6))) w') (fun st=>ys.length - st.i) (⟨0,.slice none 0 0,[],.slice none 0 0,[]⟩:TkS) (fun st=>?_))) (fun w hw=>⟨⟨Nat.zero_le _,fun y hy=>(by simp at hy),Vec.nil _ _,Vec.nil _ _⟩,hw.perm zp⟩)
 obtain ⟨i,v5,l5,v6,l6⟩:=st
 refine JC.pr (fun hI=>?_)
 obtain ⟨hi,hnw,hv5,hv6⟩:=hI
 try simp only at hi hnw hv5 hv6 ⊢
 have hlo:((ys.take i).filter (lowP key)).length≤i:=Nat.le_trans (List.length_filter_le _ _) (by rw [List.length_take];exact Nat.min_le_left _ _)
 have hhi:((ys.take i).filter (highP key)).length≤i:=Nat.le_trans (List.length_filter_le _ _) (by rw [List.length_take];exact Nat.min_le_left _ _)
 refine JC.seq (fun K4 hK4=>?_);refine JC.seq (fun K5 hK5=>?_);refine JC.region<|J.qe rfl rfl<|J.qe rfl rfl<|J.qq rfl rfl<|J.qi Ty.fd74_1 rfl rfl<|J.qw (v:=(.slice ay ys.length cy)) Ty.a44 rfl (fun w1 hw=>by rw [qB (hw.own ((rb,cb [lv,(.slice ay ys.length cy),.int .i64 inc] 74)) zm)];rfl) rfl ?_;refine J.qK rfl Ty.u44 rfl rfl<|J.qj rfl rfl rfl rfl<|J.nil ?_;refine JX.qd (hK5 _ _ ?_);refine JC.qn rfl (fun h0=>?_) (fun h0=>?_)
 ·have hlt:i<ys.length:=by simp at h0;omega
  obtain ⟨y,hyg⟩:∃x,ys[i]? = some x:=⟨_,List.getElem?_eq_getElem hlt⟩
  obtain ⟨az,cz,hsy⟩:=hf y (List.mem_of_getElem? hyg)
  obtain ⟨ky,vy,by_,sy_,lz⟩:=y
  simp only at hsy
  subst hsy
  obtain ⟨qy,sy,rfl,rfl,hqy⟩:∃b sp,ay=some ⟨b,0,none⟩∧ly=[(b,cb (ys.flatMap cH++sp) 28)]∧ys.length≤cy:=by
   rcases hv.2 with ⟨_,h9,_⟩ | ⟨b,c,sp,h9,h10,_,h11⟩
   ·omega
   ·simp only [Value.slice.injEq] at h9
    obtain ⟨h9,-,rfl⟩:=h9
    exact ⟨b,sp,h9,h10,h11⟩
  refine JC.skip ?_;refine JX.qd (hK4 _ _ ?_);refine JC.seq (fun K6 hK6=>?_);refine JC.block ?_;refine JC.seq (fun K7 hK7=>?_)
  by_cases hke:ky=key
  ·obtain ⟨nb,hnv⟩:∃b,newB ver vy=b:=⟨_,rfl⟩
   cases nb with
   | false=>
    apply JC.zd (α:=Nat × Unit) 11 (fun x=>match x with | ⟨xu,uu⟩=>[.pointer (some ⟨rb,0,none⟩),.pointer (some ⟨rb,0,none⟩),.pointer (some ⟨rb,0+1,none⟩),(.slice (some ⟨qy,0,none⟩) ys.length cy),.int .i64 ((i:Nat):Int),.pointer (some ⟨qy,0+((i:Nat):Int).toNat*34,none⟩),.pointer (some ⟨qy,0+((i:Nat):Int).toNat*34+0,none⟩),.agg (cI ky).toArray,.pointer (some ⟨b3,0+0,none⟩),.agg (cI key).toArray,.bool true]) (fun m x=>match x with | ⟨xu,uu⟩=>fun w1=>(True)∧St w S0 ((b3,cb (cT key ver (.slice a k c)) 28)::(rb,cb [lv,(.slice (some ⟨qy,0,none⟩) ys.length cy),.int .i64 inc] 74)::([(qy,cb (ys.flatMap cH++sy) 28)]++(l5++l6))) w1) Ty.mixed rfl rfl rfl (by kernel_rfl) rfl rfl ?hinit ?hstep ?htail
    case hinit=>exact fun w1 hw=>⟨(0,()),trivial,hw.drew⟩
    case hstep=>
     refine ⟨fun m x hm hp=>?_,fun m x hm hp=>?_,fun m x hm hp=>?_,fun m x hm hp=>?_,fun m x hm hp=>?_,fun m x hm hp=>?_,fun m x hm hp=>?_,fun m x hm hp=>?_,fun m x hm hp=>?_,fun m x hm hp=>?_,fun m x hm hp=>?_,trivial⟩
     ·obtain ⟨xu,uu⟩:=x
      show J _ _ _ _ _ (_) _
      refine J.pr (fun hF=>?_);refine J.qe rfl rfl ?_
      exact J.ql rfl (fun _ hw=>⟨⟨xu,uu⟩,rfl,fun _ _ _=>rfl,hF,hw⟩)
     ·obtain ⟨xu,uu⟩:=x
      show J _ _ _ _ _ ((17,.pointer (some ⟨rb,0,none⟩))::_) _
      refine J.pr (fun hF=>?_);refine J.qq rfl rfl ?_
      exact J.ql rfl (fun _ hw=>⟨⟨xu,uu⟩,rfl,fun _ _ _=>rfl,hF,hw⟩)
     ·obtain ⟨xu,uu⟩:=x
      show J _ _ _ _ _ ((18,.pointer (some ⟨rb,0,none⟩))::_) _
      refine J.pr (fun hF=>?_);refine J.qi Ty.fd74_1 rfl rfl ?_
      exact J.ql rfl (fun _ hw=>⟨⟨xu,uu⟩,rfl,fun _ _ _=>rfl,hF,hw⟩)
     ·obtain ⟨xu,uu⟩:=x
      show J _ _ _ _ _ ((19,.pointer (some ⟨rb,0+1,none⟩))::_) _
      refine J.pr (fun hF=>?_);refine J.qw (v:=(.slice (some ⟨qy,0,none⟩) ys.length cy)) Ty.a44 rfl (fun w1 hw=>by rw [qB (hw.own ((rb,cb [lv,(.slice (some ⟨qy,0,none⟩) ys.length cy),.int .i64 inc] 74)) zm)];rfl) rfl ?_
      exact J.ql rfl (fun _ hw=>⟨⟨xu,uu⟩,rfl,fun _ _ _=>rfl,hF,hw⟩)
     ·obtain ⟨xu,uu⟩:=x
      show J _ _ _ _ _ (_) _
      refine J.pr (fun hF=>?_);refine J.qe rfl rfl ?_
      exact J.ql rfl (fun _ hw=>⟨⟨xu,uu⟩,rfl,fun _ _ _=>rfl,hF,hw⟩)
     ·obtain ⟨xu,uu⟩:=x
      show J _ _ _ _ _ ((21,.int .i64 ((i:Nat):Int))::(20,(.slice (some ⟨qy,0,none⟩) ys.length cy))::_) _
      refine J.pr (fun hF=>?_);refine J.qu Ty.el44 Ty.s28 rfl rfl (by omega) (by omega) rfl ?_
      exact J.ql rfl (fun _ hw=>⟨⟨xu,uu⟩,rfl,fun _ _ _=>rfl,hF,hw⟩)
     ·obtain ⟨xu,uu⟩:=x
      show J _ _ _ _ _ ((22,.pointer (some ⟨qy,0+((i:Nat):Int).toNat*34,none⟩))::_) _
      refine J.pr (fun hF=>?_);refine J.qi Ty.fd28_0 rfl rfl ?_
      exact J.ql rfl (fun _ hw=>⟨⟨xu,uu⟩,rfl,fun _ _ _=>rfl,hF,hw⟩)
     ·obtain ⟨xu,uu⟩:=x
      show J _ _ _ _ _ ((23,.pointer (some ⟨qy,0+((i:Nat):Int).toNat*34+0,none⟩))::_) _
      refine J.pr (fun hF=>?_);refine J.qC (vs:=cI ky) Ty.a23 Ty.s23 rfl rfl (fun w1 hw=>zg (r:=0) (qW hv hw zq) hyg rfl (by simp)) rfl ?_
      exact J.ql rfl (fun _ hw=>⟨⟨xu,uu⟩,rfl,fun _ _ _=>rfl,hF,hw⟩)
     ·obtain ⟨xu,uu⟩:=x
      show J _ _ _ _ _ (_) _
      refine J.pr (fun hF=>?_);refine J.qi Ty.fd28_0 rfl rfl ?_
      exact J.ql rfl (fun _ hw=>⟨⟨xu,uu⟩,rfl,fun _ _ _=>rfl,hF,hw⟩)
     ·obtain ⟨xu,uu⟩:=x
      show J _ _ _ _ _ ((25,.pointer (some ⟨b3,0+0,none⟩))::_) _
      refine J.pr (fun hF=>?_);refine J.qC (vs:=cI key) Ty.a23 Ty.s23 rfl rfl (fun w1 hw=>Cells.of_block (hw.own ((b3,cb (cT key ver (.slice a k c)) 28)) zm) rfl) rfl ?_
      exact J.ql rfl (fun _ hw=>⟨⟨xu,uu⟩,rfl,fun _ _ _=>rfl,hF,hw⟩)
     ·obtain ⟨xu,uu⟩:=x
      show J _ _ _ _ _ ((26,.agg (cI key).toArray)::(24,.agg (cI ky).toArray)::_) _
      refine J.pr (fun hF=>?_);refine J.eqI Ty.QI Ty.keyI rfl rfl rfl<|J.name 27 rfl (show _=Value.bool true by simp [hke]) ?_
      exact J.ql rfl (fun _ hw=>⟨⟨xu,uu⟩,rfl,fun _ _ _=>rfl,hF,hw⟩)
    case htail=>
     intro x
     obtain ⟨xu,uu⟩:=x
     show J _ _ _ _ _ ((27,.bool true)::(26,.agg (cI key).toArray)::(25,.pointer (some ⟨b3,0+0,none⟩))::(24,.agg (cI ky).toArray)::(23,.pointer (some ⟨qy,0+((i:Nat):Int).toNat*34+0,none⟩))::(22,.pointer (some ⟨qy,0+((i:Nat):Int).toNat*34,none⟩))::(21,.int .i64 ((i:Nat):Int))::(20,(.slice (some ⟨qy,0,none⟩) ys.length cy))::(19,.pointer (some ⟨rb,0+1,none⟩))::(18,.pointer (some ⟨rb,0,none⟩))::(17,.pointer (some ⟨rb,0,none⟩))::_) (fun w1=>(True)∧St w S0 ((b3,cb (cT key ver (.slice a k c)) 28)::(rb,cb [lv,(.slice (some ⟨qy,0,none⟩) ys.length cy),.int .i64 inc] 74)::([(qy,cb (ys.flatMap cH++sy) 28)]++(l5++l6))) w1)
     refine J.pr (fun hF=>?_);refine J.nil ?_;refine JX.qd (hK7 _ _ ?_)
     first | refine JC.qP rfl ?_ | refine JC.qn rfl (fun _=>?_) (fun h=>by first | (exfalso;simp at h;omega) | (simp at h))
     refine JC.seq (fun K8 hK8=>?_)
     apply JC.zd (α:=Nat × Unit) 12 (fun x=>match x with | ⟨xu,uu⟩=>[.pointer (some ⟨b3,0+16,none⟩),.agg (cV ver).toArray,.pointer (some ⟨rb,0,none⟩),.pointer (some ⟨rb,0,none⟩),.pointer (some ⟨rb,0+1,none⟩),(.slice (some ⟨qy,0,none⟩) ys.length cy),.int .i64 ((i:Nat):Int),.pointer (some ⟨qy,0+((i:Nat):Int).toNat*34,none⟩),.pointer (some ⟨qy,0+((i:Nat):Int).toNat*34+16,none⟩),.agg (cV vy).toArray,.bool false,.bool true]) (fun m x=>match x with | ⟨xu,uu⟩=>fun w1=>(True)∧St w S0 ((b3,cb (cT key ver (.slice a k c)) 28)::(rb,cb [lv,(.slice (some ⟨qy,0,none⟩) ys.length cy),.int .i64 inc] 74)::([(qy,cb (ys.flatMap cH++sy) 28)]++(l5++l6))) w1) Ty.mixed rfl rfl rfl (by kernel_rfl) rfl rfl ?hinit ?hstep ?htail
     case hinit=>exact fun w1 hw=>⟨(0,()),trivial,hw.drew⟩
     case hstep=>
      refine ⟨fun m x hm hp=>?_,fun m x hm hp=>?_,fun m x hm hp=>?_,fun m x hm hp=>?_,fun m x hm hp=>?_,fun m x hm hp=>?_,fun m x hm hp=>?_,fun m x hm hp=>?_,fun m x hm hp=>?_,fun m x hm hp=>?_,fun m x hm hp=>?_,fun m x hm hp=>?_,trivial⟩
      ·obtain ⟨xu,uu⟩:=x
       show J _ _ _ _ _ (_) _
       refine J.pr (fun hF=>?_);refine J.qi Ty.fd28_1 rfl rfl ?_
       exact J.ql rfl (fun _ hw=>⟨⟨xu,uu⟩,rfl,fun _ _ _=>rfl,hF,hw⟩)
      ·obtain ⟨xu,uu⟩:=x
       show J _ _ _ _ _ ((28,.pointer (some ⟨b3,0+16,none⟩))::_) _
       refine J.pr (fun hF=>?_);refine J.qC (vs:=cV ver) Ty.a25 Ty.s25 rfl rfl (fun w1 hw=>Cells.of_block (hw.own ((b3,cb (cT key ver (.slice a k c)) 28)) zm) rfl) rfl ?_
       exact J.ql rfl (fun _ hw=>⟨⟨xu,uu⟩,rfl,fun _ _ _=>rfl,hF,hw⟩)
      ·obtain ⟨xu,uu⟩:=x
       show J _ _ _ _ _ (_) _
       refine J.pr (fun hF=>?_);refine J.qe rfl rfl ?_
       exact J.ql rfl (fun _ hw=>⟨⟨xu,uu⟩,rfl,fun _ _ _=>rfl,hF,hw⟩)
      ·obtain ⟨xu,uu⟩:=x
       show J _ _ _ _ _ ((30,.pointer (some ⟨rb,0,none⟩))::_) _
       refine J.pr (fun hF=>?_);refine J.qq rfl rfl ?_
       exact J.ql rfl (fun _ hw=>⟨⟨xu,uu⟩,rfl,fun _ _ _=>rfl,hF,hw⟩)
      ·obtain ⟨xu,uu⟩:=x
       show J _ _ _ _ _ ((31,.pointer (some ⟨rb,0,none⟩))::_) _
       refine J.pr (fun hF=>?_);refine J.qi Ty.fd74_1 rfl rfl ?_
       exact J.ql rfl (fun _ hw=>⟨⟨xu,uu⟩,rfl,fun _ _ _=>rfl,hF,hw⟩)
      ·obtain ⟨xu,uu⟩:=x
       show J _ _ _ _ _ ((32,.pointer (some ⟨rb,0+1,none⟩))::_) _
       refine J.pr (fun hF=>?_);refine J.qw (v:=(.slice (some ⟨qy,0,none⟩) ys.length cy)) Ty.a44 rfl (fun w1 hw=>by rw [qB (hw.own ((rb,cb [lv,(.slice (some ⟨qy,0,none⟩) ys.length cy),.int .i64 inc] 74)) zm)];rfl) rfl ?_
       exact J.ql rfl (fun _ hw=>⟨⟨xu,uu⟩,rfl,fun _ _ _=>rfl,hF,hw⟩)
      ·obtain ⟨xu,uu⟩:=x
       show J _ _ _ _ _ (_) _
       refine J.pr (fun hF=>?_);refine J.qe rfl rfl ?_
       exact J.ql rfl (fun _ hw=>⟨⟨xu,uu⟩,rfl,fun _ _ _=>rfl,hF,hw⟩)
      ·obtain ⟨xu,uu⟩:=x
       show J _ _ _ _ _ ((34,.int .i64 ((i:Nat):Int))::(33,(.slice (some ⟨qy,0,none⟩) ys.length cy))::_) _
       refine J.pr (fun hF=>?_);refine J.qu Ty.el44 Ty.s28 rfl rfl (by omega) (by omega) rfl ?_
       exact J.ql rfl (fun _ hw=>⟨⟨xu,uu⟩,rfl,fun _ _ _=>rfl,hF,hw⟩)
      ·obtain ⟨xu,uu⟩:=x
       show J _ _ _ _ _ ((35,.pointer (some ⟨qy,0+((i:Nat):Int).toNat*34,none⟩))::_) _
       refine J.pr (fun hF=>?_);refine J.qi Ty.fd28_1 rfl rfl ?_
       exact J.ql rfl (fun _ hw=>⟨⟨xu,uu⟩,rfl,fun _ _ _=>rfl,hF,hw⟩)
      ·obtain ⟨xu,uu⟩:=x
       show J _ _ _ _ _ ((36,.pointer (some ⟨qy,0+((i:Nat):Int).toNat*34+16,none⟩))::_) _
       refine J.pr (fun hF=>?_);refine J.qC (vs:=cV vy) Ty.a25 Ty.s25 rfl rfl (fun w1 hw=>zg (r:=16) (qW hv hw zq) hyg rfl (by simp)) rfl ?_
       exact J.ql rfl (fun _ hw=>⟨⟨xu,uu⟩,rfl,fun _ _ _=>rfl,hF,hw⟩)
      ·obtain ⟨xu,uu⟩:=x
       show J _ _ _ _ _ ((37,.agg (cV vy).toArray)::(29,.agg (cV ver).toArray)::_) _
       refine J.pr (fun hF=>?_);refine J.qR (v:=.bool false) (fun w1 w2 hw hb=>hw.step hb) Ty.bd14 rfl rfl (fun w1 hw=>by have h9:=rnewer_spec ver vy w1;rw [hnv] at h9;exact h9) ?_
       exact J.ql rfl (fun _ hw=>⟨⟨xu,uu⟩,rfl,fun _ _ _=>rfl,hF,hw⟩)
      ·obtain ⟨xu,uu⟩:=x
       show J _ _ _ _ _ ((38,.bool false)::_) _
       refine J.pr (fun hF=>?_);refine J.zC rfl rfl ?_
       exact J.ql rfl (fun _ hw=>⟨⟨xu,uu⟩,rfl,fun _ _ _=>rfl,hF,hw⟩)
     case htail=>
      intro x
      obtain ⟨xu,uu⟩:=x
      show J _ _ _ _ _ ((39,.bool true)::(38,.bool false)::(37,.agg (cV vy).toArray)::(36,.pointer (some ⟨qy,0+((i:Nat):Int).toNat*34+16,none⟩))::(35,.pointer (some ⟨qy,0+((i:Nat):Int).toNat*34,none⟩))::(34,.int .i64 ((i:Nat):Int))::(33,(.slice (some ⟨qy,0,none⟩) ys.length cy))::(32,.pointer (some ⟨rb,0+1,none⟩))::(31,.pointer (some ⟨rb,0,none⟩))::(30,.pointer (some ⟨rb,0,none⟩))::(29,.agg (cV ver).toArray)::(28,.pointer (some ⟨b3,0+16,none⟩))::_) (fun w1=>(True)∧St w S0 ((b3,cb (cT key ver (.slice a k c)) 28)::(rb,cb [lv,(.slice (some ⟨qy,0,none⟩) ys.length cy),.int .i64 inc] 74)::([(qy,cb (ys.flatMap cH++sy) 28)]++(l5++l6))) w1)
      refine J.pr (fun hF=>?_);refine J.nil ?_;refine JX.qd (hK8 _ _ ?_)
      first | refine JC.qP rfl ?_ | refine JC.qn rfl (fun _=>?_) (fun h=>by first | (exfalso;simp at h;omega) | (simp at h))
      refine JC.seq (fun K9 hK9=>?_);refine JC.region<|J.assign rfl rfl<|J.nil ?_;refine JX.qd (hK9 _ _ ?_);refine JC.qA<|JX.qH<|JX.qt<|JX.qt<|JX.qH<|JX.qt ?_;refine JX.qL rfl rfl (fun w1 hw=>?_)
      exact .inl ⟨rfl,⟨_,List.mem_of_getElem? hyg,hke,hnv⟩,(hw.perm (zp:List.Perm _ (((b3,cb (cT key ver (.slice a k c)) 28)::(l5++l6))++((rb,cb [lv,(.slice (some ⟨qy,0,none⟩) ys.length cy),.int .i64 inc] 74)::[(qy,cb (ys.flatMap cH++sy) 28)])))).drop (List.sublist_append_right _ _)⟩
   | true=>
    have hnw2:∀y,y∈ys.take (i+1)→y.key=key→newB ver y.ver=true:=fun y hy hk=>by
     rw [List.take_add_one,hyg] at hy
     rcases List.mem_append.1 hy with hy | hy
     ·exact hnw y hy hk
     ·rw [List.mem_singleton.1 hy] at hk ⊢;exact hnv
    apply JC.zd (α:=Nat × Unit) 11 (fun x=>match x with | ⟨xu,uu⟩=>[.pointer (some ⟨rb,0,none⟩),.pointer (some ⟨rb,0,none⟩),.pointer (some ⟨rb,0+1,none⟩),(.slice (some ⟨qy,0,none⟩) ys.length cy),.int .i64 ((i:Nat):Int),.pointer (some ⟨qy,0+((i:Nat):Int).toNat*34,none⟩),.pointer (some ⟨qy,0+((i:Nat):Int).toNat*34+0,none⟩),.agg (cI ky).toArray,.pointer (some ⟨b3,0+0,none⟩),.agg (cI key).toArray,.bool true]) (fun m x=>match x with | ⟨xu,uu⟩=>fun w1=>(True)∧St w S0 ((b3,cb (cT key ver (.slice a k c)) 28)::(rb,cb [lv,(.slice (some ⟨qy,0,none⟩) ys.length cy),.int .i64 inc] 74)::([(qy,cb (ys.flatMap cH++sy) 28)]++(l5++l6))) w1) Ty.mixed rfl rfl rfl (by kernel_rfl) rfl rfl ?hinit ?hstep ?htail
    case hinit=>exact fun w1 hw=>⟨(0,()),trivial,hw.drew⟩
    case hstep=>
     refine ⟨fun m x hm hp=>?_,fun m x hm hp=>?_,fun m x hm hp=>?_,fun m x hm hp=>?_,fun m x hm hp=>?_,fun m x hm hp=>?_,fun m x hm hp=>?_,fun m x hm hp=>?_,fun m x hm hp=>?_,fun m x hm hp=>?_,fun m x hm hp=>?_,trivial⟩
     ·obtain ⟨xu,uu⟩:=x
      show J _ _ _ _ _ (_) _
      refine J.pr (fun hF=>?_);refine J.qe rfl rfl ?_
      exact J.ql rfl (fun _ hw=>⟨⟨xu,uu⟩,rfl,fun _ _ _=>rfl,hF,hw⟩)
     ·obtain ⟨xu,uu⟩:=x
      show J _ _ _ _ _ ((17,.pointer (some ⟨rb,0,none⟩))::_) _
      refine J.pr (fun hF=>?_);refine J.qq rfl rfl ?_
      exact J.ql rfl (fun _ hw=>⟨⟨xu,uu⟩,rfl,fun _ _ _=>rfl,hF,hw⟩)
     ·obtain ⟨xu,uu⟩:=x
      show J _ _ _ _ _ ((18,.pointer (some ⟨rb,0,none⟩))::_) _
      refine J.pr (fun hF=>?_);refine J.qi Ty.fd74_1 rfl rfl ?_
      exact J.ql rfl (fun _ hw=>⟨⟨xu,uu⟩,rfl,fun _ _ _=>rfl,hF,hw⟩)
     ·obtain ⟨xu,uu⟩:=x
      show J _ _ _ _ _ ((19,.pointer (some ⟨rb,0+1,none⟩))::_) _
      refine J.pr (fun hF=>?_);refine J.qw (v:=(.slice (some ⟨qy,0,none⟩) ys.length cy)) Ty.a44 rfl (fun w1 hw=>by rw [qB (hw.own ((rb,cb [lv,(.slice (some ⟨qy,0,none⟩) ys.length cy),.int .i64 inc] 74)) zm)];rfl) rfl ?_
      exact J.ql rfl (fun _ hw=>⟨⟨xu,uu⟩,rfl,fun _ _ _=>rfl,hF,hw⟩)
     ·obtain ⟨xu,uu⟩:=x
      show J _ _ _ _ _ (_) _
      refine J.pr (fun hF=>?_);refine J.qe rfl rfl ?_
      exact J.ql rfl (fun _ hw=>⟨⟨xu,uu⟩,rfl,fun _ _ _=>rfl,hF,hw⟩)
     ·obtain ⟨xu,uu⟩:=x
      show J _ _ _ _ _ ((21,.int .i64 ((i:Nat):Int))::(20,(.slice (some ⟨qy,0,none⟩) ys.length cy))::_) _
      refine J.pr (fun hF=>?_);refine J.qu Ty.el44 Ty.s28 rfl rfl (by omega) (by omega) rfl ?_
      exact J.ql rfl (fun _ hw=>⟨⟨xu,uu⟩,rfl,fun _ _ _=>rfl,hF,hw⟩)
     ·obtain ⟨xu,uu⟩:=x
      show J _ _ _ _ _ ((22,.pointer (some ⟨qy,0+((i:Nat):Int).toNat*34,none⟩))::_) _
      refine J.pr (fun hF=>?_);refine J.qi Ty.fd28_0 rfl rfl ?_
      exact J.ql rfl (fun _ hw=>⟨⟨xu,uu⟩,rfl,fun _ _ _=>rfl,hF,hw⟩)
     ·obtain ⟨xu,uu⟩:=x
      show J _ _ _ _ _ ((23,.pointer (some ⟨qy,0+((i:Nat):Int).toNat*34+0,none⟩))::_) _
      refine J.pr (fun hF=>?_);refine J.qC (vs:=cI ky) Ty.a23 Ty.s23 rfl rfl (fun w1 hw=>zg (r:=0) (qW hv hw zq) hyg rfl (by simp)) rfl ?_
      exact J.ql rfl (fun _ hw=>⟨⟨xu,uu⟩,rfl,fun _ _ _=>rfl,hF,hw⟩)
     ·obtain ⟨xu,uu⟩:=x
      show J _ _ _ _ _ (_) _
      refine J.pr (fun hF=>?_);refine J.qi Ty.fd28_0 rfl rfl ?_
      exact J.ql rfl (fun _ hw=>⟨⟨xu,uu⟩,rfl,fun _ _ _=>rfl,hF,hw⟩)
     ·obtain ⟨xu,uu⟩:=x
      show J _ _ _ _ _ ((25,.pointer (some ⟨b3,0+0,none⟩))::_) _
      refine J.pr (fun hF=>?_);refine J.qC (vs:=cI key) Ty.a23 Ty.s23 rfl rfl (fun w1 hw=>Cells.of_block (hw.own ((b3,cb (cT key ver (.slice a k c)) 28)) zm) rfl) rfl ?_
      exact J.ql rfl (fun _ hw=>⟨⟨xu,uu⟩,rfl,fun _ _ _=>rfl,hF,hw⟩)
     ·obtain ⟨xu,uu⟩:=x
      show J _ _ _ _ _ ((26,.agg (cI key).toArray)::(24,.agg (cI ky).toArray)::_) _
      refine J.pr (fun hF=>?_);refine J.eqI Ty.QI Ty.keyI rfl rfl rfl<|J.name 27 rfl (show _=Value.bool true by simp [hke]) ?_
      exact J.ql rfl (fun _ hw=>⟨⟨xu,uu⟩,rfl,fun _ _ _=>rfl,hF,hw⟩)
    case htail=>
     intro x
     obtain ⟨xu,uu⟩:=x
     show J _ _ _ _ _ ((27,.bool true)::(26,.agg (cI key).toArray)::(25,.pointer (some ⟨b3,0+0,none⟩))::(24,.agg (cI ky).toArray)::(23,.pointer (some ⟨qy,0+((i:Nat):Int).toNat*34+0,none⟩))::(22,.pointer (some ⟨qy,0+((i:Nat):Int).toNat*34,none⟩))::(21,.int .i64 ((i:Nat):Int))::(20,(.slice (some ⟨qy,0,none⟩) ys.length cy))::(19,.pointer (some ⟨rb,0+1,none⟩))::(18,.pointer (some ⟨rb,0,none⟩))::(17,.pointer (some ⟨rb,0,none⟩))::_) (fun w1=>(True)∧St w S0 ((b3,cb (cT key ver (.slice a k c)) 28)::(rb,cb [lv,(.slice (some ⟨qy,0,none⟩) ys.length cy),.int .i64 inc] 74)::([(qy,cb (ys.flatMap cH++sy) 28)]++(l5++l6))) w1)
     refine J.pr (fun hF=>?_);refine J.nil ?_;refine JX.qd (hK7 _ _ ?_)
     first | refine JC.qP rfl ?_ | refine JC.qn rfl (fun _=>?_) (fun h=>by first | (exfalso;simp at h;omega) | (simp at h))
     refine JC.seq (fun K10 hK10=>?_)
     apply JC.zd (α:=Nat × Unit) 12 (fun x=>match x with | ⟨xu,uu⟩=>[.pointer (some ⟨b3,0+16,none⟩),.agg (cV ver).toArray,.pointer (some ⟨rb,0,none⟩),.pointer (some ⟨rb,0,none⟩),.pointer (some ⟨rb,0+1,none⟩),(.slice (some ⟨qy,0,none⟩) ys.length cy),.int .i64 ((i:Nat):Int),.pointer (some ⟨qy,0+((i:Nat):Int).toNat*34,none⟩),.pointer (some ⟨qy,0+((i:Nat):Int).toNat*34+16,none⟩),.agg (cV vy).toArray,.bool true,.bool false]) (fun m x=>match x with | ⟨xu,uu⟩=>fun w1=>(True)∧St w S0 ((b3,cb (cT key ver (.slice a k c)) 28)::(rb,cb [lv,(.slice (some ⟨qy,0,none⟩) ys.length cy),.int .i64 inc] 74)::([(qy,cb (ys.flatMap cH++sy) 28)]++(l5++l6))) w1) Ty.mixed rfl rfl rfl (by kernel_rfl) rfl rfl ?hinit ?hstep ?htail
     case hinit=>exact fun w1 hw=>⟨(0,()),trivial,hw.drew⟩
     case hstep=>
      refine ⟨fun m x hm hp=>?_,fun m x hm hp=>?_,fun m x hm hp=>?_,fun m x hm hp=>?_,fun m x hm hp=>?_,fun m x hm hp=>?_,fun m x hm hp=>?_,fun m x hm hp=>?_,fun m x hm hp=>?_,fun m x hm hp=>?_,fun m x hm hp=>?_,fun m x hm hp=>?_,trivial⟩
      ·obtain ⟨xu,uu⟩:=x
       show J _ _ _ _ _ (_) _
       refine J.pr (fun hF=>?_);refine J.qi Ty.fd28_1 rfl rfl ?_
       exact J.ql rfl (fun _ hw=>⟨⟨xu,uu⟩,rfl,fun _ _ _=>rfl,hF,hw⟩)
      ·obtain ⟨xu,uu⟩:=x
       show J _ _ _ _ _ ((28,.pointer (some ⟨b3,0+16,none⟩))::_) _
       refine J.pr (fun hF=>?_);refine J.qC (vs:=cV ver) Ty.a25 Ty.s25 rfl rfl (fun w1 hw=>Cells.of_block (hw.own ((b3,cb (cT key ver (.slice a k c)) 28)) zm) rfl) rfl ?_
       exact J.ql rfl (fun _ hw=>⟨⟨xu,uu⟩,rfl,fun _ _ _=>rfl,hF,hw⟩)
      ·obtain ⟨xu,uu⟩:=x
       show J _ _ _ _ _ (_) _
       refine J.pr (fun hF=>?_);refine J.qe rfl rfl ?_
       exact J.ql rfl (fun _ hw=>⟨⟨xu,uu⟩,rfl,fun _ _ _=>rfl,hF,hw⟩)
      ·obtain ⟨xu,uu⟩:=x
       show J _ _ _ _ _ ((30,.pointer (some ⟨rb,0,none⟩))::_) _
       refine J.pr (fun hF=>?_);refine J.qq rfl rfl ?_
       exact J.ql rfl (fun _ hw=>⟨⟨xu,uu⟩,rfl,fun _ _ _=>rfl,hF,hw⟩)
      ·obtain ⟨xu,uu⟩:=x
       show J _ _ _ _ _ ((31,.pointer (some ⟨rb,0,none⟩))::_) _
       refine J.pr (fun hF=>?_);refine J.qi Ty.fd74_1 rfl rfl ?_
       exact J.ql rfl (fun _ hw=>⟨⟨xu,uu⟩,rfl,fun _ _ _=>rfl,hF,hw⟩)
      ·obtain ⟨xu,uu⟩:=x
       show J _ _ _ _ _ ((32,.pointer (some ⟨rb,0+1,none⟩))::_) _
       refine J.pr (fun hF=>?_);refine J.qw (v:=(.slice (some ⟨qy,0,none⟩) ys.length cy)) Ty.a44 rfl (fun w1 hw=>by rw [qB (hw.own ((rb,cb [lv,(.slice (some ⟨qy,0,none⟩) ys.length cy),.int .i64 inc] 74)) zm)];rfl) rfl ?_
       exact J.ql rfl (fun _ hw=>⟨⟨xu,uu⟩,rfl,fun _ _ _=>rfl,hF,hw⟩)
      ·obtain ⟨xu,uu⟩:=x
       show J _ _ _ _ _ (_) _
       refine J.pr (fun hF=>?_);refine J.qe rfl rfl ?_
       exact J.ql rfl (fun _ hw=>⟨⟨xu,uu⟩,rfl,fun _ _ _=>rfl,hF,hw⟩)
      ·obtain ⟨xu,uu⟩:=x
       show J _ _ _ _ _ ((34,.int .i64 ((i:Nat):Int))::(33,(.slice (some ⟨qy,0,none⟩) ys.length cy))::_) _
       refine J.pr (fun hF=>?_);refine J.qu Ty.el44 Ty.s28 rfl rfl (by omega) (by omega) rfl ?_
       exact J.ql rfl (fun _ hw=>⟨⟨xu,uu⟩,rfl,fun _ _ _=>rfl,hF,hw⟩)
      ·obtain ⟨xu,uu⟩:=x
       show J _ _ _ _ _ ((35,.pointer (some ⟨qy,0+((i:Nat):Int).toNat*34,none⟩))::_) _
       refine J.pr (fun hF=>?_);refine J.qi Ty.fd28_1 rfl rfl ?_
       exact J.ql rfl (fun _ hw=>⟨⟨xu,uu⟩,rfl,fun _ _ _=>rfl,hF,hw⟩)
      ·obtain ⟨xu,uu⟩:=x
       show J _ _ _ _ _ ((36,.pointer (some ⟨qy,0+((i:Nat):Int).toNat*34+16,none⟩))::_) _
       refine J.pr (fun hF=>?_);refine J.qC (vs:=cV vy) Ty.a25 Ty.s25 rfl rfl (fun w1 hw=>zg (r:=16) (qW hv hw zq) hyg rfl (by simp)) rfl ?_
       exact J.ql rfl (fun _ hw=>⟨⟨xu,uu⟩,rfl,fun _ _ _=>rfl,hF,hw⟩)
      ·obtain ⟨xu,uu⟩:=x
       show J _ _ _ _ _ ((37,.agg (cV vy).toArray)::(29,.agg (cV ver).toArray)::_) _
       refine J.pr (fun hF=>?_);refine J.qR (v:=.bool true) (fun w1 w2 hw hb=>hw.step hb) Ty.bd14 rfl rfl (fun w1 hw=>by have h9:=rnewer_spec ver vy w1;rw [hnv] at h9;exact h9) ?_
       exact J.ql rfl (fun _ hw=>⟨⟨xu,uu⟩,rfl,fun _ _ _=>rfl,hF,hw⟩)
      ·obtain ⟨xu,uu⟩:=x
       show J _ _ _ _ _ ((38,.bool true)::_) _
       refine J.pr (fun hF=>?_);refine J.zC rfl rfl ?_
       exact J.ql rfl (fun _ hw=>⟨⟨xu,uu⟩,rfl,fun _ _ _=>rfl,hF,hw⟩)
     case htail=>
      intro x
      obtain ⟨xu,uu⟩:=x
      show J _ _ _ _ _ ((39,.bool false)::(38,.bool true)::(37,.agg (cV vy).toArray)::(36,.pointer (some ⟨qy,0+((i:Nat):Int).toNat*34+16,none⟩))::(35,.pointer (some ⟨qy,0+((i:Nat):Int).toNat*34,none⟩))::(34,.int .i64 ((i:Nat):Int))::(33,(.slice (some ⟨qy,0,none⟩) ys.length cy))::(32,.pointer (some ⟨rb,0+1,none⟩))::(31,.pointer (some ⟨rb,0,none⟩))::(30,.pointer (some ⟨rb,0,none⟩))::(29,.agg (cV ver).toArray)::(28,.pointer (some ⟨b3,0+16,none⟩))::_) (fun w1=>(True)∧St w S0 ((b3,cb (cT key ver (.slice a k c)) 28)::(rb,cb [lv,(.slice (some ⟨qy,0,none⟩) ys.length cy),.int .i64 inc] 74)::([(qy,cb (ys.flatMap cH++sy) 28)]++(l5++l6))) w1)
      refine J.pr (fun hF=>?_);refine J.nil ?_;refine JX.qd (hK10 _ _ ?_)
      first | refine JC.qI rfl ?_ | refine JC.qn rfl (fun h=>by first | (exfalso;simp at h;omega) | (simp at h)) (fun _=>?_)
      refine JC.skip<|JX.qJ ?_;refine JX.qd (hK6 _ _ ?_);refine JC.region<|J.qe rfl rfl ?_
      (first | refine J.qG rfl rfl (by omega) (by omega) rfl ?_ | refine J.qj rfl rfl rfl rfl ?_)
      refine J.assign rfl rfl<|J.nil<|JX.qd<|JX.qS (⟨i+1,v5,l5,v6,l6⟩:TkS) ?_ ?_ ?_
      ·simp only;omega
      ·exact ⟨rfl,rfl,rfl,rfl,rfl,trivial⟩
      ·exact fun w1 hw=>⟨⟨hlt,hnw2,by simp only;rw [yy hyg,if_neg (by simp [hke]),List.append_nil];exact hv5,by simp only;rw [yy hyg,if_neg (by simp [hke]),List.append_nil];exact hv6⟩,hw⟩
  ·have hnw2:∀y,y∈ys.take (i+1)→y.key=key→newB ver y.ver=true:=fun y hy hk=>by
    rw [List.take_add_one,hyg] at hy
    rcases List.mem_append.1 hy with hy | hy
    ·exact hnw y hy hk
    ·rw [List.mem_singleton.1 hy] at hk ⊢;exact absurd hk hke
   have hvk:valI ky≠valI key:=fun e=>hke (valI_inj e)
   by_cases hlk:valI ky<valI key
   ·apply JC.zd (α:=Nat × Unit) 11 (fun x=>match x with | ⟨xu,uu⟩=>[.pointer (some ⟨rb,0,none⟩),.pointer (some ⟨rb,0,none⟩),.pointer (some ⟨rb,0+1,none⟩),(.slice (some ⟨qy,0,none⟩) ys.length cy),.int .i64 ((i:Nat):Int),.pointer (some ⟨qy,0+((i:Nat):Int).toNat*34,none⟩),.pointer (some ⟨qy,0+((i:Nat):Int).toNat*34+0,none⟩),.agg (cI ky).toArray,.pointer (some ⟨b3,0+0,none⟩),.agg (cI key).toArray,.bool false]) (fun m x=>match x with | ⟨xu,uu⟩=>fun w1=>(True)∧St w S0 ((b3,cb (cT key ver (.slice a k c)) 28)::(rb,cb [lv,(.slice (some ⟨qy,0,none⟩) ys.length cy),.int .i64 inc] 74)::([(qy,cb (ys.flatMap cH++sy) 28)]++(l5++l6))) w1) Ty.mixed rfl rfl rfl (by kernel_rfl) rfl rfl ?hinit ?hstep ?htail
    case hinit=>exact fun w1 hw=>⟨(0,()),trivial,hw.drew⟩
    case hstep=>
     refine ⟨fun m x hm hp=>?_,fun m x hm hp=>?_,fun m x hm hp=>?_,fun m x hm hp=>?_,fun m x hm hp=>?_,fun m x hm hp=>?_,fun m x hm hp=>?_,fun m x hm hp=>?_,fun m x hm hp=>?_,fun m x hm hp=>?_,fun m x hm hp=>?_,trivial⟩
     ·obtain ⟨xu,uu⟩:=x
      show J _ _ _ _ _ (_) _
      refine J.pr (fun hF=>?_);refine J.qe rfl rfl ?_
      exact J.ql rfl (fun _ hw=>⟨⟨xu,uu⟩,rfl,fun _ _ _=>rfl,hF,hw⟩)
     ·obtain ⟨xu,uu⟩:=x
      show J _ _ _ _ _ ((17,.pointer (some ⟨rb,0,none⟩))::_) _
      refine J.pr (fun hF=>?_);refine J.qq rfl rfl ?_
      exact J.ql rfl (fun _ hw=>⟨⟨xu,uu⟩,rfl,fun _ _ _=>rfl,hF,hw⟩)
     ·obtain ⟨xu,uu⟩:=x
      show J _ _ _ _ _ ((18,.pointer (some ⟨rb,0,none⟩))::_) _
      refine J.pr (fun hF=>?_);refine J.qi Ty.fd74_1 rfl rfl ?_
      exact J.ql rfl (fun _ hw=>⟨⟨xu,uu⟩,rfl,fun _ _ _=>rfl,hF,hw⟩)
     ·obtain ⟨xu,uu⟩:=x
      show J _ _ _ _ _ ((19,.pointer (some ⟨rb,0+1,none⟩))::_) _
      refine J.pr (fun hF=>?_);refine J.qw (v:=(.slice (some ⟨qy,0,none⟩) ys.length cy)) Ty.a44 rfl (fun w1 hw=>by rw [qB (hw.own ((rb,cb [lv,(.slice (some ⟨qy,0,none⟩) ys.length cy),.int .i64 inc] 74)) zm)];rfl) rfl ?_
      exact J.ql rfl (fun _ hw=>⟨⟨xu,uu⟩,rfl,fun _ _ _=>rfl,hF,hw⟩)
     ·obtain ⟨xu,uu⟩:=x
      show J _ _ _ _ _ (_) _
      refine J.pr (fun hF=>?_);refine J.qe rfl rfl ?_
      exact J.ql rfl (fun _ hw=>⟨⟨xu,uu⟩,rfl,fun _ _ _=>rfl,hF,hw⟩)
     ·obtain ⟨xu,uu⟩:=x
      show J _ _ _ _ _ ((21,.int .i64 ((i:Nat):Int))::(20,(.slice (some ⟨qy,0,none⟩) ys.length cy))::_) _
      refine J.pr (fun hF=>?_);refine J.qu Ty.el44 Ty.s28 rfl rfl (by omega) (by omega) rfl ?_
      exact J.ql rfl (fun _ hw=>⟨⟨xu,uu⟩,rfl,fun _ _ _=>rfl,hF,hw⟩)
     ·obtain ⟨xu,uu⟩:=x
      show J _ _ _ _ _ ((22,.pointer (some ⟨qy,0+((i:Nat):Int).toNat*34,none⟩))::_) _
      refine J.pr (fun hF=>?_);refine J.qi Ty.fd28_0 rfl rfl ?_
      exact J.ql rfl (fun _ hw=>⟨⟨xu,uu⟩,rfl,fun _ _ _=>rfl,hF,hw⟩)
     ·obtain ⟨xu,uu⟩:=x
      show J _ _ _ _ _ ((23,.pointer (some ⟨qy,0+((i:Nat):Int).toNat*34+0,none⟩))::_) _
      refine J.pr (fun hF=>?_);refine J.qC (vs:=cI ky) Ty.a23 Ty.s23 rfl rfl (fun w1 hw=>zg (r:=0) (qW hv hw zq) hyg rfl (by simp)) rfl ?_
      exact J.ql rfl (fun _ hw=>⟨⟨xu,uu⟩,rfl,fun _ _ _=>rfl,hF,hw⟩)
     ·obtain ⟨xu,uu⟩:=x
      show J _ _ _ _ _ (_) _
      refine J.pr (fun hF=>?_);refine J.qi Ty.fd28_0 rfl rfl ?_
      exact J.ql rfl (fun _ hw=>⟨⟨xu,uu⟩,rfl,fun _ _ _=>rfl,hF,hw⟩)
     ·obtain ⟨xu,uu⟩:=x
      show J _ _ _ _ _ ((25,.pointer (some ⟨b3,0+0,none⟩))::_) _
      refine J.pr (fun hF=>?_);refine J.qC (vs:=cI key) Ty.a23 Ty.s23 rfl rfl (fun w1 hw=>Cells.of_block (hw.own ((b3,cb (cT key ver (.slice a k c)) 28)) zm) rfl) rfl ?_
      exact J.ql rfl (fun _ hw=>⟨⟨xu,uu⟩,rfl,fun _ _ _=>rfl,hF,hw⟩)
     ·obtain ⟨xu,uu⟩:=x
      show J _ _ _ _ _ ((26,.agg (cI key).toArray)::(24,.agg (cI ky).toArray)::_) _
      refine J.pr (fun hF=>?_);refine J.eqI Ty.QI Ty.keyI rfl rfl rfl<|J.name 27 rfl (show _=Value.bool false by simp [hke]) ?_
      exact J.ql rfl (fun _ hw=>⟨⟨xu,uu⟩,rfl,fun _ _ _=>rfl,hF,hw⟩)
    case htail=>
     intro x
     obtain ⟨xu,uu⟩:=x
     show J _ _ _ _ _ ((27,.bool false)::(26,.agg (cI key).toArray)::(25,.pointer (some ⟨b3,0+0,none⟩))::(24,.agg (cI ky).toArray)::(23,.pointer (some ⟨qy,0+((i:Nat):Int).toNat*34+0,none⟩))::(22,.pointer (some ⟨qy,0+((i:Nat):Int).toNat*34,none⟩))::(21,.int .i64 ((i:Nat):Int))::(20,(.slice (some ⟨qy,0,none⟩) ys.length cy))::(19,.pointer (some ⟨rb,0+1,none⟩))::(18,.pointer (some ⟨rb,0,none⟩))::(17,.pointer (some ⟨rb,0,none⟩))::_) (fun w1=>(True)∧St w S0 ((b3,cb (cT key ver (.slice a k c)) 28)::(rb,cb [lv,(.slice (some ⟨qy,0,none⟩) ys.length cy),.int .i64 inc] 74)::([(qy,cb (ys.flatMap cH++sy) 28)]++(l5++l6))) w1)
     refine J.pr (fun hF=>?_);refine J.nil ?_;refine JX.qd (hK7 _ _ ?_)
     first | refine JC.qI rfl ?_ | refine JC.qn rfl (fun h=>by first | (exfalso;simp at h;omega) | (simp at h)) (fun _=>?_)
     refine JC.seq (fun K11 hK11=>?_)
     apply JC.zd (α:=Nat × Unit) 11 (fun x=>match x with | ⟨xu,uu⟩=>[.pointer (some ⟨rb,0,none⟩),.pointer (some ⟨rb,0,none⟩),.pointer (some ⟨rb,0+1,none⟩),(.slice (some ⟨qy,0,none⟩) ys.length cy),.int .i64 ((i:Nat):Int),.pointer (some ⟨qy,0+((i:Nat):Int).toNat*34,none⟩),.pointer (some ⟨qy,0+((i:Nat):Int).toNat*34+0,none⟩),.agg (cI ky).toArray,.pointer (some ⟨b3,0+0,none⟩),.agg (cI key).toArray,.bool true]) (fun m x=>match x with | ⟨xu,uu⟩=>fun w1=>(True)∧St w S0 ((b3,cb (cT key ver (.slice a k c)) 28)::(rb,cb [lv,(.slice (some ⟨qy,0,none⟩) ys.length cy),.int .i64 inc] 74)::([(qy,cb (ys.flatMap cH++sy) 28)]++(l5++l6))) w1) Ty.mixed rfl rfl rfl (by kernel_rfl) rfl rfl ?hinit ?hstep ?htail
     case hinit=>exact fun w1 hw=>⟨(0,()),trivial,hw.drew⟩
     case hstep=>
      refine ⟨fun m x hm hp=>?_,fun m x hm hp=>?_,fun m x hm hp=>?_,fun m x hm hp=>?_,fun m x hm hp=>?_,fun m x hm hp=>?_,fun m x hm hp=>?_,fun m x hm hp=>?_,fun m x hm hp=>?_,fun m x hm hp=>?_,fun m x hm hp=>?_,trivial⟩
      ·obtain ⟨xu,uu⟩:=x
       show J _ _ _ _ _ (_) _
       refine J.pr (fun hF=>?_);refine J.qe rfl rfl ?_
       exact J.ql rfl (fun _ hw=>⟨⟨xu,uu⟩,rfl,fun _ _ _=>rfl,hF,hw⟩)
      ·obtain ⟨xu,uu⟩:=x
       show J _ _ _ _ _ ((40,.pointer (some ⟨rb,0,none⟩))::_) _
       refine J.pr (fun hF=>?_);refine J.qq rfl rfl ?_
       exact J.ql rfl (fun _ hw=>⟨⟨xu,uu⟩,rfl,fun _ _ _=>rfl,hF,hw⟩)
      ·obtain ⟨xu,uu⟩:=x
       show J _ _ _ _ _ ((41,.pointer (some ⟨rb,0,none⟩))::_) _
       refine J.pr (fun hF=>?_);refine J.qi Ty.fd74_1 rfl rfl ?_
       exact J.ql rfl (fun _ hw=>⟨⟨xu,uu⟩,rfl,fun _ _ _=>rfl,hF,hw⟩)
      ·obtain ⟨xu,uu⟩:=x
       show J _ _ _ _ _ ((42,.pointer (some ⟨rb,0+1,none⟩))::_) _
       refine J.pr (fun hF=>?_);refine J.qw (v:=(.slice (some ⟨qy,0,none⟩) ys.length cy)) Ty.a44 rfl (fun w1 hw=>by rw [qB (hw.own ((rb,cb [lv,(.slice (some ⟨qy,0,none⟩) ys.length cy),.int .i64 inc] 74)) zm)];rfl) rfl ?_
       exact J.ql rfl (fun _ hw=>⟨⟨xu,uu⟩,rfl,fun _ _ _=>rfl,hF,hw⟩)
      ·obtain ⟨xu,uu⟩:=x
       show J _ _ _ _ _ (_) _
       refine J.pr (fun hF=>?_);refine J.qe rfl rfl ?_
       exact J.ql rfl (fun _ hw=>⟨⟨xu,uu⟩,rfl,fun _ _ _=>rfl,hF,hw⟩)
      ·obtain ⟨xu,uu⟩:=x
       show J _ _ _ _ _ ((44,.int .i64 ((i:Nat):Int))::(43,(.slice (some ⟨qy,0,none⟩) ys.length cy))::_) _
       refine J.pr (fun hF=>?_);refine J.qu Ty.el44 Ty.s28 rfl rfl (by omega) (by omega) rfl ?_
       exact J.ql rfl (fun _ hw=>⟨⟨xu,uu⟩,rfl,fun _ _ _=>rfl,hF,hw⟩)
      ·obtain ⟨xu,uu⟩:=x
       show J _ _ _ _ _ ((45,.pointer (some ⟨qy,0+((i:Nat):Int).toNat*34,none⟩))::_) _
       refine J.pr (fun hF=>?_);refine J.qi Ty.fd28_0 rfl rfl ?_
       exact J.ql rfl (fun _ hw=>⟨⟨xu,uu⟩,rfl,fun _ _ _=>rfl,hF,hw⟩)
      ·obtain ⟨xu,uu⟩:=x
       show J _ _ _ _ _ ((46,.pointer (some ⟨qy,0+((i:Nat):Int).toNat*34+0,none⟩))::_) _
       refine J.pr (fun hF=>?_);refine J.qC (vs:=cI ky) Ty.a23 Ty.s23 rfl rfl (fun w1 hw=>zg (r:=0) (qW hv hw zq) hyg rfl (by simp)) rfl ?_
       exact J.ql rfl (fun _ hw=>⟨⟨xu,uu⟩,rfl,fun _ _ _=>rfl,hF,hw⟩)
      ·obtain ⟨xu,uu⟩:=x
       show J _ _ _ _ _ (_) _
       refine J.pr (fun hF=>?_);refine J.qi Ty.fd28_0 rfl rfl ?_
       exact J.ql rfl (fun _ hw=>⟨⟨xu,uu⟩,rfl,fun _ _ _=>rfl,hF,hw⟩)
      ·obtain ⟨xu,uu⟩:=x
       show J _ _ _ _ _ ((48,.pointer (some ⟨b3,0+0,none⟩))::_) _
       refine J.pr (fun hF=>?_);refine J.qC (vs:=cI key) Ty.a23 Ty.s23 rfl rfl (fun w1 hw=>Cells.of_block (hw.own ((b3,cb (cT key ver (.slice a k c)) 28)) zm) rfl) rfl ?_
       exact J.ql rfl (fun _ hw=>⟨⟨xu,uu⟩,rfl,fun _ _ _=>rfl,hF,hw⟩)
      ·obtain ⟨xu,uu⟩:=x
       show J _ _ _ _ _ ((49,.agg (cI key).toArray)::(47,.agg (cI ky).toArray)::_) _
       refine J.pr (fun hF=>?_);refine J.qR (v:=.bool (decide (valI ky<valI key))) (fun w1 w2 hw hb=>hw.step hb) Ty.bd21 rfl rfl (fun w1 hw=>less_spec ky key w1) ?_;refine J.name 50 rfl (show _=Value.bool true from congrArg Value.bool (decide_eq_true hlk)) ?_
       exact J.ql rfl (fun _ hw=>⟨⟨xu,uu⟩,rfl,fun _ _ _=>rfl,hF,hw⟩)
     case htail=>
      intro x
      obtain ⟨xu,uu⟩:=x
      show J _ _ _ _ _ ((50,.bool true)::(49,.agg (cI key).toArray)::(48,.pointer (some ⟨b3,0+0,none⟩))::(47,.agg (cI ky).toArray)::(46,.pointer (some ⟨qy,0+((i:Nat):Int).toNat*34+0,none⟩))::(45,.pointer (some ⟨qy,0+((i:Nat):Int).toNat*34,none⟩))::(44,.int .i64 ((i:Nat):Int))::(43,(.slice (some ⟨qy,0,none⟩) ys.length cy))::(42,.pointer (some ⟨rb,0+1,none⟩))::(41,.pointer (some ⟨rb,0,none⟩))::(40,.pointer (some ⟨rb,0,none⟩))::_) (fun w1=>(True)∧St w S0 ((b3,cb (cT key ver (.slice a k c)) 28)::(rb,cb [lv,(.slice (some ⟨qy,0,none⟩) ys.length cy),.int .i64 inc] 74)::([(qy,cb (ys.flatMap cH++sy) 28)]++(l5++l6))) w1)
      refine J.pr (fun hF=>?_);refine J.nil ?_;refine JX.qd (hK11 _ _ ?_)
      first | refine JC.qP rfl ?_ | refine JC.qn rfl (fun _=>?_) (fun h=>by first | (exfalso;simp at h;omega) | (simp at h))
      refine JC.region<|J.qe rfl rfl<|J.qe rfl rfl<|J.qq rfl rfl<|J.qi Ty.fd74_1 rfl rfl<|J.qw (v:=(.slice (some ⟨qy,0,none⟩) ys.length cy)) Ty.a44 rfl (fun w1 hw=>by rw [qB (hw.own ((rb,cb [lv,(.slice (some ⟨qy,0,none⟩) ys.length cy),.int .i64 inc] 74)) zm)];rfl) rfl ?_;refine J.qe rfl rfl<|J.qu Ty.el44 Ty.s28 rfl rfl (by omega) (by omega) rfl ?_;refine J.qC (vs:=(cT ky vy (.slice az by_.length cz))) Ty.a28 Ty.s28 rfl rfl (fun w1 hw=>rowG_at (c:=cH) (sz:=34) (fun _=>rfl) (qW hv hw zq) hyg (by simp)) rfl ?_;refine J.za (cs:=(cT ky vy (.slice az by_.length cz))) Ty.el44 Ty.s28 Ty.zIt rfl rfl rfl rfl (by kernel_rfl) rfl rfl (fun b59=>?_);refine J.perm (l5++((b59,cb (cT ky vy (.slice az by_.length cz)) 28)::(b3,cb (cT key ver (.slice a k c)) 28)::(rb,cb [lv,(.slice (some ⟨qy,0,none⟩) ys.length cy),.int .i64 inc] 74)::([(qy,cb (ys.flatMap cH++sy) 28)]++l6))) zp ?_;refine J.qZ (lp:=l5) (xs:=((ys.take i).filter (lowP key)).flatMap cH) (ys:=(cT ky vy (.slice az by_.length cz))) (k:=((ys.take i).filter (lowP key)).length) (m:=1) Ty.el44 Ty.s28 Ty.b28 Ty.zIt rfl (.inl ⟨28,Ty.u44⟩) rfl rfl hv5 (fun w1 hw=>.inl (Row.own (cs:=(cT ky vy (.slice az by_.length cz))) (tb:=28) (fr:=(0,0)) hw (List.mem_append_right _ (.head _)) (List.take_of_length_le (Nat.le_refl _)) (Nat.le_refl _))) rfl zF (by omega) (by omega) rfl (fun v60 l60 hv60=>?_)
      rw [show ((ys.take i).filter (lowP key)).flatMap cH++(cT ky vy (.slice az by_.length cz))=(((ys.take i).filter (lowP key))++[((⟨ky,vy,by_,.slice az by_.length cz,lz⟩:HI):HI)]).flatMap cH by rw [List.flatMap_append];rfl,show ((ys.take i).filter (lowP key)).length+1=(((ys.take i).filter (lowP key))++[((⟨ky,vy,by_,.slice az by_.length cz,lz⟩:HI):HI)]).length by rw [List.length_append];rfl] at hv60
      refine J.assign rfl rfl<|J.nil<|JX.qJ ?_;refine JX.qd (hK6 _ _ ?_);refine JC.region<|J.qe rfl rfl ?_
      (first | refine J.qG rfl rfl (by omega) (by omega) rfl ?_ | refine J.qj rfl rfl rfl rfl ?_)
      refine J.assign rfl rfl<|J.nil<|JX.qd<|JX.qS (⟨i+1,v60,l60,v6,l6⟩:TkS) ?_ ?_ ?_
      ·simp only;omega
      ·exact ⟨rfl,rfl,rfl,rfl,rfl,trivial⟩
      ·exact fun w1 hw=>⟨⟨hlt,hnw2,by simp only;rw [yy hyg,if_pos (by simp;omega)];exact hv60,by simp only;rw [yy hyg,if_neg (by simp;omega),List.append_nil];exact hv6⟩,(hw.perm (zp:List.Perm _ ((b59,cb (cT ky vy (.slice az by_.length cz)) 28)::((b3,cb (cT key ver (.slice a k c)) 28)::(rb,cb [lv,(.slice (some ⟨qy,0,none⟩) ys.length cy),.int .i64 inc] 74)::([(qy,cb (ys.flatMap cH++sy) 28)]++(l60++l6)))))).drop (List.sublist_cons_self _ _)⟩
   ·apply JC.zd (α:=Nat × Unit) 11 (fun x=>match x with | ⟨xu,uu⟩=>[.pointer (some ⟨rb,0,none⟩),.pointer (some ⟨rb,0,none⟩),.pointer (some ⟨rb,0+1,none⟩),(.slice (some ⟨qy,0,none⟩) ys.length cy),.int .i64 ((i:Nat):Int),.pointer (some ⟨qy,0+((i:Nat):Int).toNat*34,none⟩),.pointer (some ⟨qy,0+((i:Nat):Int).toNat*34+0,none⟩),.agg (cI ky).toArray,.pointer (some ⟨b3,0+0,none⟩),.agg (cI key).toArray,.bool false]) (fun m x=>match x with | ⟨xu,uu⟩=>fun w1=>(True)∧St w S0 ((b3,cb (cT key ver (.slice a k c)) 28)::(rb,cb [lv,(.slice (some ⟨qy,0,none⟩) ys.length cy),.int .i64 inc] 74)::([(qy,cb (ys.flatMap cH++sy) 28)]++(l5++l6))) w1) Ty.mixed rfl rfl rfl (by kernel_rfl) rfl rfl ?hinit ?hstep ?htail
    case hinit=>exact fun w1 hw=>⟨(0,()),trivial,hw.drew⟩
    case hstep=>
     refine ⟨fun m x hm hp=>?_,fun m x hm hp=>?_,fun m x hm hp=>?_,fun m x hm hp=>?_,fun m x hm hp=>?_,fun m x hm hp=>?_,fun m x hm hp=>?_,fun m x hm hp=>?_,fun m x hm hp=>?_,fun m x hm hp=>?_,fun m x hm hp=>?_,trivial⟩
     ·obtain ⟨xu,uu⟩:=x
      show J _ _ _ _ _ (_) _
      refine J.pr (fun hF=>?_);refine J.qe rfl rfl ?_
      exact J.ql rfl (fun _ hw=>⟨⟨xu,uu⟩,rfl,fun _ _ _=>rfl,hF,hw⟩)
     ·obtain ⟨xu,uu⟩:=x
      show J _ _ _ _ _ ((17,.pointer (some ⟨rb,0,none⟩))::_) _
      refine J.pr (fun hF=>?_);refine J.qq rfl rfl ?_
      exact J.ql rfl (fun _ hw=>⟨⟨xu,uu⟩,rfl,fun _ _ _=>rfl,hF,hw⟩)
     ·obtain ⟨xu,uu⟩:=x
      show J _ _ _ _ _ ((18,.pointer (some ⟨rb,0,none⟩))::_) _
      refine J.pr (fun hF=>?_);refine J.qi Ty.fd74_1 rfl rfl ?_
      exact J.ql rfl (fun _ hw=>⟨⟨xu,uu⟩,rfl,fun _ _ _=>rfl,hF,hw⟩)
     ·obtain ⟨xu,uu⟩:=x
      show J _ _ _ _ _ ((19,.pointer (some ⟨rb,0+1,none⟩))::_) _
      refine J.pr (fun hF=>?_);refine J.qw (v:=(.slice (some ⟨qy,0,none⟩) ys.length cy)) Ty.a44 rfl (fun w1 hw=>by rw [qB (hw.own ((rb,cb [lv,(.slice (some ⟨qy,0,none⟩) ys.length cy),.int .i64 inc] 74)) zm)];rfl) rfl ?_
      exact J.ql rfl (fun _ hw=>⟨⟨xu,uu⟩,rfl,fun _ _ _=>rfl,hF,hw⟩)
     ·obtain ⟨xu,uu⟩:=x
      show J _ _ _ _ _ (_) _
      refine J.pr (fun hF=>?_);refine J.qe rfl rfl ?_
      exact J.ql rfl (fun _ hw=>⟨⟨xu,uu⟩,rfl,fun _ _ _=>rfl,hF,hw⟩)
     ·obtain ⟨xu,uu⟩:=x
      show J _ _ _ _ _ ((21,.int .i64 ((i:Nat):Int))::(20,(.slice (some ⟨qy,0,none⟩) ys.length cy))::_) _
      refine J.pr (fun hF=>?_);refine J.qu Ty.el44 Ty.s28 rfl rfl (by omega) (by omega) rfl ?_
      exact J.ql rfl (fun _ hw=>⟨⟨xu,uu⟩,rfl,fun _ _ _=>rfl,hF,hw⟩)
     ·obtain ⟨xu,uu⟩:=x
      show J _ _ _ _ _ ((22,.pointer (some ⟨qy,0+((i:Nat):Int).toNat*34,none⟩))::_) _
      refine J.pr (fun hF=>?_);refine J.qi Ty.fd28_0 rfl rfl ?_
      exact J.ql rfl (fun _ hw=>⟨⟨xu,uu⟩,rfl,fun _ _ _=>rfl,hF,hw⟩)
     ·obtain ⟨xu,uu⟩:=x
      show J _ _ _ _ _ ((23,.pointer (some ⟨qy,0+((i:Nat):Int).toNat*34+0,none⟩))::_) _
      refine J.pr (fun hF=>?_);refine J.qC (vs:=cI ky) Ty.a23 Ty.s23 rfl rfl (fun w1 hw=>zg (r:=0) (qW hv hw zq) hyg rfl (by simp)) rfl ?_
      exact J.ql rfl (fun _ hw=>⟨⟨xu,uu⟩,rfl,fun _ _ _=>rfl,hF,hw⟩)
     ·obtain ⟨xu,uu⟩:=x
      show J _ _ _ _ _ (_) _
      refine J.pr (fun hF=>?_);refine J.qi Ty.fd28_0 rfl rfl ?_
      exact J.ql rfl (fun _ hw=>⟨⟨xu,uu⟩,rfl,fun _ _ _=>rfl,hF,hw⟩)
     ·obtain ⟨xu,uu⟩:=x
      show J _ _ _ _ _ ((25,.pointer (some ⟨b3,0+0,none⟩))::_) _
      refine J.pr (fun hF=>?_);refine J.qC (vs:=cI key) Ty.a23 Ty.s23 rfl rfl (fun w1 hw=>Cells.of_block (hw.own ((b3,cb (cT key ver (.slice a k c)) 28)) zm) rfl) rfl ?_
      exact J.ql rfl (fun _ hw=>⟨⟨xu,uu⟩,rfl,fun _ _ _=>rfl,hF,hw⟩)
     ·obtain ⟨xu,uu⟩:=x
      show J _ _ _ _ _ ((26,.agg (cI key).toArray)::(24,.agg (cI ky).toArray)::_) _
      refine J.pr (fun hF=>?_);refine J.eqI Ty.QI Ty.keyI rfl rfl rfl<|J.name 27 rfl (show _=Value.bool false by simp [hke]) ?_
      exact J.ql rfl (fun _ hw=>⟨⟨xu,uu⟩,rfl,fun _ _ _=>rfl,hF,hw⟩)
    case htail=>
     intro x
     obtain ⟨xu,uu⟩:=x
     show J _ _ _ _ _ ((27,.bool false)::(26,.agg (cI key).toArray)::(25,.pointer (some ⟨b3,0+0,none⟩))::(24,.agg (cI ky).toArray)::(23,.pointer (some ⟨qy,0+((i:Nat):Int).toNat*34+0,none⟩))::(22,.pointer (some ⟨qy,0+((i:Nat):Int).toNat*34,none⟩))::(21,.int .i64 ((i:Nat):Int))::(20,(.slice (some ⟨qy,0,none⟩) ys.length cy))::(19,.pointer (some ⟨rb,0+1,none⟩))::(18,.pointer (some ⟨rb,0,none⟩))::(17,.pointer (some ⟨rb,0,none⟩))::_) (fun w1=>(True)∧St w S0 ((b3,cb (cT key ver (.slice a k c)) 28)::(rb,cb [lv,(.slice (some ⟨qy,0,none⟩) ys.length cy),.int .i64 inc] 74)::([(qy,cb (ys.flatMap cH++sy) 28)]++(l5++l6))) w1)
     refine J.pr (fun hF=>?_);refine J.nil ?_;refine JX.qd (hK7 _ _ ?_)
     first | refine JC.qI rfl ?_ | refine JC.qn rfl (fun h=>by first | (exfalso;simp at h;omega) | (simp at h)) (fun _=>?_)
     refine JC.seq (fun K12 hK12=>?_)
     apply JC.zd (α:=Nat × Unit) 11 (fun x=>match x with | ⟨xu,uu⟩=>[.pointer (some ⟨rb,0,none⟩),.pointer (some ⟨rb,0,none⟩),.pointer (some ⟨rb,0+1,none⟩),(.slice (some ⟨qy,0,none⟩) ys.length cy),.int .i64 ((i:Nat):Int),.pointer (some ⟨qy,0+((i:Nat):Int).toNat*34,none⟩),.pointer (some ⟨qy,0+((i:Nat):Int).toNat*34+0,none⟩),.agg (cI ky).toArray,.pointer (some ⟨b3,0+0,none⟩),.agg (cI key).toArray,.bool false]) (fun m x=>match x with | ⟨xu,uu⟩=>fun w1=>(True)∧St w S0 ((b3,cb (cT key ver (.slice a k c)) 28)::(rb,cb [lv,(.slice (some ⟨qy,0,none⟩) ys.length cy),.int .i64 inc] 74)::([(qy,cb (ys.flatMap cH++sy) 28)]++(l5++l6))) w1) Ty.mixed rfl rfl rfl (by kernel_rfl) rfl rfl ?hinit ?hstep ?htail
     case hinit=>exact fun w1 hw=>⟨(0,()),trivial,hw.drew⟩
     case hstep=>
      refine ⟨fun m x hm hp=>?_,fun m x hm hp=>?_,fun m x hm hp=>?_,fun m x hm hp=>?_,fun m x hm hp=>?_,fun m x hm hp=>?_,fun m x hm hp=>?_,fun m x hm hp=>?_,fun m x hm hp=>?_,fun m x hm hp=>?_,fun m x hm hp=>?_,trivial⟩
      ·obtain ⟨xu,uu⟩:=x
       show J _ _ _ _ _ (_) _
       refine J.pr (fun hF=>?_);refine J.qe rfl rfl ?_
       exact J.ql rfl (fun _ hw=>⟨⟨xu,uu⟩,rfl,fun _ _ _=>rfl,hF,hw⟩)
      ·obtain ⟨xu,uu⟩:=x
       show J _ _ _ _ _ ((40,.pointer (some ⟨rb,0,none⟩))::_) _
       refine J.pr (fun hF=>?_);refine J.qq rfl rfl ?_
       exact J.ql rfl (fun _ hw=>⟨⟨xu,uu⟩,rfl,fun _ _ _=>rfl,hF,hw⟩)
      ·obtain ⟨xu,uu⟩:=x
       show J _ _ _ _ _ ((41,.pointer (some ⟨rb,0,none⟩))::_) _
       refine J.pr (fun hF=>?_);refine J.qi Ty.fd74_1 rfl rfl ?_
       exact J.ql rfl (fun _ hw=>⟨⟨xu,uu⟩,rfl,fun _ _ _=>rfl,hF,hw⟩)
      ·obtain ⟨xu,uu⟩:=x
       show J _ _ _ _ _ ((42,.pointer (some ⟨rb,0+1,none⟩))::_) _
       refine J.pr (fun hF=>?_);refine J.qw (v:=(.slice (some ⟨qy,0,none⟩) ys.length cy)) Ty.a44 rfl (fun w1 hw=>by rw [qB (hw.own ((rb,cb [lv,(.slice (some ⟨qy,0,none⟩) ys.length cy),.int .i64 inc] 74)) zm)];rfl) rfl ?_
       exact J.ql rfl (fun _ hw=>⟨⟨xu,uu⟩,rfl,fun _ _ _=>rfl,hF,hw⟩)
      ·obtain ⟨xu,uu⟩:=x
       show J _ _ _ _ _ (_) _
       refine J.pr (fun hF=>?_);refine J.qe rfl rfl ?_
       exact J.ql rfl (fun _ hw=>⟨⟨xu,uu⟩,rfl,fun _ _ _=>rfl,hF,hw⟩)
      ·obtain ⟨xu,uu⟩:=x
       show J _ _ _ _ _ ((44,.int .i64 ((i:Nat):Int))::(43,(.slice (some ⟨qy,0,none⟩) ys.length cy))::_) _
       refine J.pr (fun hF=>?_);refine J.qu Ty.el44 Ty.s28 rfl rfl (by omega) (by omega) rfl ?_
       exact J.ql rfl (fun _ hw=>⟨⟨xu,uu⟩,rfl,fun _ _ _=>rfl,hF,hw⟩)
      ·obtain ⟨xu,uu⟩:=x
       show J _ _ _ _ _ ((45,.pointer (some ⟨qy,0+((i:Nat):Int).toNat*34,none⟩))::_) _
       refine J.pr (fun hF=>?_);refine J.qi Ty.fd28_0 rfl rfl ?_
       exact J.ql rfl (fun _ hw=>⟨⟨xu,uu⟩,rfl,fun _ _ _=>rfl,hF,hw⟩)
      ·obtain ⟨xu,uu⟩:=x
       show J _ _ _ _ _ ((46,.pointer (some ⟨qy,0+((i:Nat):Int).toNat*34+0,none⟩))::_) _
       refine J.pr (fun hF=>?_);refine J.qC (vs:=cI ky) Ty.a23 Ty.s23 rfl rfl (fun w1 hw=>zg (r:=0) (qW hv hw zq) hyg rfl (by simp)) rfl ?_
       exact J.ql rfl (fun _ hw=>⟨⟨xu,uu⟩,rfl,fun _ _ _=>rfl,hF,hw⟩)
      ·obtain ⟨xu,uu⟩:=x
       show J _ _ _ _ _ (_) _
       refine J.pr (fun hF=>?_);refine J.qi Ty.fd28_0 rfl rfl ?_
       exact J.ql rfl (fun _ hw=>⟨⟨xu,uu⟩,rfl,fun _ _ _=>rfl,hF,hw⟩)
      ·obtain ⟨xu,uu⟩:=x
       show J _ _ _ _ _ ((48,.pointer (some ⟨b3,0+0,none⟩))::_) _
       refine J.pr (fun hF=>?_);refine J.qC (vs:=cI key) Ty.a23 Ty.s23 rfl rfl (fun w1 hw=>Cells.of_block (hw.own ((b3,cb (cT key ver (.slice a k c)) 28)) zm) rfl) rfl ?_
       exact J.ql rfl (fun _ hw=>⟨⟨xu,uu⟩,rfl,fun _ _ _=>rfl,hF,hw⟩)
      ·obtain ⟨xu,uu⟩:=x
       show J _ _ _ _ _ ((49,.agg (cI key).toArray)::(47,.agg (cI ky).toArray)::_) _
       refine J.pr (fun hF=>?_);refine J.qR (v:=.bool (decide (valI ky<valI key))) (fun w1 w2 hw hb=>hw.step hb) Ty.bd21 rfl rfl (fun w1 hw=>less_spec ky key w1) ?_;refine J.name 50 rfl (show _=Value.bool false from congrArg Value.bool (decide_eq_false hlk)) ?_
       exact J.ql rfl (fun _ hw=>⟨⟨xu,uu⟩,rfl,fun _ _ _=>rfl,hF,hw⟩)
     case htail=>
      intro x
      obtain ⟨xu,uu⟩:=x
      show J _ _ _ _ _ ((50,.bool false)::(49,.agg (cI key).toArray)::(48,.pointer (some ⟨b3,0+0,none⟩))::(47,.agg (cI ky).toArray)::(46,.pointer (some ⟨qy,0+((i:Nat):Int).toNat*34+0,none⟩))::(45,.pointer (some ⟨qy,0+((i:Nat):Int).toNat*34,none⟩))::(44,.int .i64 ((i:Nat):Int))::(43,(.slice (some ⟨qy,0,none⟩) ys.length cy))::(42,.pointer (some ⟨rb,0+1,none⟩))::(41,.pointer (some ⟨rb,0,none⟩))::(40,.pointer (some ⟨rb,0,none⟩))::_) (fun w1=>(True)∧St w S0 ((b3,cb (cT key ver (.slice a k c)) 28)::(rb,cb [lv,(.slice (some ⟨qy,0,none⟩) ys.length cy),.int .i64 inc] 74)::([(qy,cb (ys.flatMap cH++sy) 28)]++(l5++l6))) w1)
      refine J.pr (fun hF=>?_);refine J.nil ?_;refine JX.qd (hK12 _ _ ?_)
      first | refine JC.qI rfl ?_ | refine JC.qn rfl (fun h=>by first | (exfalso;simp at h;omega) | (simp at h)) (fun _=>?_)
      refine JC.region<|J.qe rfl rfl<|J.qe rfl rfl<|J.qq rfl rfl<|J.qi Ty.fd74_1 rfl rfl<|J.qw (v:=(.slice (some ⟨qy,0,none⟩) ys.length cy)) Ty.a44 rfl (fun w1 hw=>by rw [qB (hw.own ((rb,cb [lv,(.slice (some ⟨qy,0,none⟩) ys.length cy),.int .i64 inc] 74)) zm)];rfl) rfl ?_;refine J.qe rfl rfl<|J.qu Ty.el44 Ty.s28 rfl rfl (by omega) (by omega) rfl ?_;refine J.qC (vs:=(cT ky vy (.slice az by_.length cz))) Ty.a28 Ty.s28 rfl rfl (fun w1 hw=>rowG_at (c:=cH) (sz:=34) (fun _=>rfl) (qW hv hw zq) hyg (by simp)) rfl ?_;refine J.za (cs:=(cT ky vy (.slice az by_.length cz))) Ty.el44 Ty.s28 Ty.zIt rfl rfl rfl rfl (by kernel_rfl) rfl rfl (fun b69=>?_);refine J.perm (l6++((b69,cb (cT ky vy (.slice az by_.length cz)) 28)::(b3,cb (cT key ver (.slice a k c)) 28)::(rb,cb [lv,(.slice (some ⟨qy,0,none⟩) ys.length cy),.int .i64 inc] 74)::([(qy,cb (ys.flatMap cH++sy) 28)]++l5))) zp ?_;refine J.qZ (lp:=l6) (xs:=((ys.take i).filter (highP key)).flatMap cH) (ys:=(cT ky vy (.slice az by_.length cz))) (k:=((ys.take i).filter (highP key)).length) (m:=1) Ty.el44 Ty.s28 Ty.b28 Ty.zIt rfl (.inl ⟨28,Ty.u44⟩) rfl rfl hv6 (fun w1 hw=>.inl (Row.own (cs:=(cT ky vy (.slice az by_.length cz))) (tb:=28) (fr:=(0,0)) hw (List.mem_append_right _ (.head _)) (List.take_of_length_le (Nat.le_refl _)) (Nat.le_refl _))) rfl zF (by omega) (by omega) rfl (fun v70 l70 hv70=>?_)
      rw [show ((ys.take i).filter (highP key)).flatMap cH++(cT ky vy (.slice az by_.length cz))=(((ys.take i).filter (highP key))++[((⟨ky,vy,by_,.slice az by_.length cz,lz⟩:HI):HI)]).flatMap cH by rw [List.flatMap_append];rfl,show ((ys.take i).filter (highP key)).length+1=(((ys.take i).filter (highP key))++[((⟨ky,vy,by_,.slice az by_.length cz,lz⟩:HI):HI)]).length by rw [List.length_append];rfl] at hv70
      refine J.assign rfl rfl<|J.nil<|JX.qJ ?_;refine JX.qd (hK6 _ _ ?_);refine JC.region<|J.qe rfl rfl ?_
      (first | refine J.qG rfl rfl (by omega) (by omega) rfl ?_ | refine J.qj rfl rfl rfl rfl ?_)
      refine J.assign rfl rfl<|J.nil<|JX.qd<|JX.qS (⟨i+1,v5,l5,v70,l70⟩:TkS) ?_ ?_ ?_
      ·simp only;omega
      ·exact ⟨rfl,rfl,rfl,rfl,rfl,trivial⟩
      ·exact fun w1 hw=>⟨⟨hlt,hnw2,by simp only;rw [yy hyg,if_neg (by simp;omega),List.append_nil];exact hv5,by simp only;rw [yy hyg,if_pos (by simp;omega)];exact hv70⟩,(hw.perm (zp:List.Perm _ ((b69,cb (cT ky vy (.slice az by_.length cz)) 28)::((b3,cb (cT key ver (.slice a k c)) 28)::(rb,cb [lv,(.slice (some ⟨qy,0,none⟩) ys.length cy),.int .i64 inc] 74)::([(qy,cb (ys.flatMap cH++sy) 28)]++(l5++l70)))))).drop (List.sublist_cons_self _ _)⟩
 ·have hge:i=ys.length:=by simp at h0;omega
  rw [hge,List.take_of_length_le (Nat.le_refl _)] at hnw hv5 hv6 hlo hhi
  refine JC.qX<|JX.qE<|JX.qE<|JX.qT ?_;refine JX.qd (hK2 _ _ ?_);refine JC.seq (fun K13 hK13=>?_);refine JC.region<|J.qe rfl rfl<|J.qC (vs:=(cT key ver (.slice a k c))) Ty.a28 Ty.s28 rfl rfl (fun w1 hw=>Cells.of_block (hw.own ((b3,cb (cT key ver (.slice a k c)) 28)) zm) rfl) rfl ?_;refine J.za (cs:=(cT key ver (.slice a k c))) Ty.el44 Ty.s28 Ty.zIt rfl rfl rfl rfl (by kernel_rfl) rfl rfl (fun b73=>?_);refine J.perm (l5++((b73,cb (cT key ver (.slice a k c)) 28)::(b3,cb (cT key ver (.slice a k c)) 28)::(rb,cb [lv,(.slice ay ys.length cy),.int .i64 inc] 74)::(ly++l6))) zp ?_;refine J.qZ (lp:=l5) (xs:=(ys.filter (lowP key)).flatMap cH) (ys:=(cT key ver (.slice a k c))) (k:=(ys.filter (lowP key)).length) (m:=1) Ty.el44 Ty.s28 Ty.b28 Ty.zIt rfl (.inl ⟨28,Ty.u44⟩) rfl rfl hv5 (fun w1 hw=>.inl (Row.own (cs:=(cT key ver (.slice a k c))) (tb:=28) (fr:=(0,0)) hw (List.mem_append_right _ (.head _)) (List.take_of_length_le (Nat.le_refl _)) (Nat.le_refl _))) rfl zF (by omega) (by omega) rfl (fun v74 l74 hv74=>?_)
  rw [show (ys.filter (lowP key)).flatMap cH++(cT key ver (.slice a k c))=((ys.filter (lowP key))++[((⟨key,ver,bs,.slice a k c,lp⟩:HI):HI)]).flatMap cH by rw [List.flatMap_append];rfl,show (ys.filter (lowP key)).length+1=((ys.filter (lowP key))++[((⟨key,ver,bs,.slice a k c,lp⟩:HI):HI)]).length by rw [List.length_append];rfl] at hv74
  refine J.assign rfl rfl<|J.nil ?_;refine JX.qd (hK13 _ _ ?_);refine JC.seq (fun K14 hK14=>?_);refine JC.region<|J.qe rfl rfl<|J.qe rfl rfl<|J.qe rfl rfl ?_
  obtain ⟨a6,c6,rfl,hc6⟩:=hv6.form
  refine J.qZ (lp:=l74) (xs:=(ys.filter (lowP key)++[(⟨key,ver,bs,.slice a k c,lp⟩:HI)]).flatMap cH) (ys:=(ys.filter (highP key)).flatMap cH) (k:=(ys.filter (lowP key)++[(⟨key,ver,bs,.slice a k c,lp⟩:HI)]).length) (m:=(ys.filter (highP key)).length) Ty.el44 Ty.s28 Ty.b28 Ty.zIt rfl (.inl ⟨28,Ty.u44⟩) rfl rfl hv74 (fun w1 hw=>.inl (qW hv6 hw zq)) (cHs_len _) (one_cHs (fun y hy=>hf y (List.mem_filter.1 hy).1)) (by rw [List.length_append,List.length_singleton];omega) (by rw [List.length_append,List.length_singleton];omega) rfl (fun v78 l78 hv78=>?_)
  rw [← List.flatMap_append,← List.length_append] at hv78
  have hins:insH ys (⟨key,ver,bs,.slice a k c,lp⟩:HI)=ys.filter (lowP key)++[(⟨key,ver,bs,.slice a k c,lp⟩:HI)]++ys.filter (highP key):=rfl
  obtain ⟨a78,c78,rfl,hc78⟩:=hv78.form
  refine J.perm ((rb,cb [lv,(.slice ay ys.length cy),.int .i64 inc] 74)::((b73,cb (cT key ver (.slice a k c)) 28)::(b3,cb (cT key ver (.slice a k c)) 28)::(ly++(l6++l78)))) zp<|J.qq rfl rfl<|J.qi Ty.fd74_1 rfl rfl<|J.qU (cs:=[lv,(.slice ay ys.length cy),.int .i64 inc]) (vs:=[.slice a78 (ys.filter (lowP key)++[(⟨key,ver,bs,.slice a k c,lp⟩:HI)]++ys.filter (highP key)).length c78]) (l':=(rb,cb [lv,(.slice a78 (ys.filter (lowP key)++[(⟨key,ver,bs,.slice a k c,lp⟩:HI)]++ys.filter (highP key)).length c78),.int .i64 inc] 74)::((b73,cb (cT key ver (.slice a k c)) 28)::(b3,cb (cT key ver (.slice a k c)) 28)::(ly++(l6++l78)))) Ty.s44 rfl rfl rfl rfl (fun v hv=>by rw [List.mem_singleton.1 hv];rfl) .here (by show _≤3;omega) ?_;refine J.nil ?_;refine JX.qd (hK14 _ _ ?_);refine JC.seq (fun K15 hK15=>?_);refine JC.region<|J.assign rfl rfl<|J.nil ?_;refine JX.qd (hK15 _ _ ?_);refine JC.qA ?_;refine JX.qL rfl rfl (fun w1 hw=>?_)
  exact .inr ⟨rfl,hnw,_,l78,by rw [hins];exact hv78,(hw.perm (zp:List.Perm _ (((b73,cb (cT key ver (.slice a k c)) 28)::(b3,cb (cT key ver (.slice a k c)) 28)::(ly++l6))++((rb,cb [lv,(.slice a78 (ys.filter (lowP key)++[(⟨key,ver,bs,.slice a k c,lp⟩:HI)]++ys.filter (highP key)).length c78),.int .i64 inc] 74)::l78)))).drop (List.sublist_append_right _ _)⟩
attribute [local irreducible] valI
theorem srt_keys {A B:List ItV} (h:SrtOf A B):A.Pairwise (fun a b=>a.key≠b.key):=by
 have h1:B.Pairwise (fun a b=>a.key≠b.key):=h.2.imp fun hlt e=>by rw [e] at hlt;omega
 exact (h.1.pairwise_iff (fun hab e=>hab e.symm)).1 h1
theorem srt_one {A B C:List ItV} (h1:SrtOf A B) (h2:SrtOf A C):B=C:=by
 refine List.Perm.eq_of_pairwise (le:=fun a b=>valI a.key≤valI b.key) (fun a b ha hb hab hba=>?_) (h1.2.imp fun h=>Nat.le_of_lt h) (h2.2.imp fun h=>Nat.le_of_lt h) (h1.1.trans h2.1.symm)
 have hk:a.key=b.key:=valI_inj (Nat.le_antisymm hab hba)
 have hb':=(h2.1.trans h1.1.symm).mem_iff.1 hb
 obtain ⟨i,hi,rfl⟩:=List.mem_iff_getElem.1 ha
 obtain ⟨j,hj,rfl⟩:=List.mem_iff_getElem.1 hb'
 have hp:=List.pairwise_iff_getElem.1 h1.2
 rcases Nat.lt_trichotomy i j with h | h | h
 ·have:=hp i j hi hj h;rw [hk] at this;omega
 ·subst h;rfl
 ·have:=hp j i hj hi h;rw [hk] at this;omega
theorem setV_perm {A:List ItV} {x:ItV} (hd:A.Pairwise (fun a b=>a.key≠b.key)):(setV A x).Perm (x::A.filter (fun y=>decide (y.key≠x.key))):=by
 induction A with
 | nil=>exact List.Perm.refl _
 | cons a A ih=>
  obtain ⟨h1,h2⟩:=List.pairwise_cons.1 hd
  by_cases hk:a.key=x.key
  ·have e1:A.map (fun h=>if h.key=x.key then x else h)=A:=by
    rw [List.map_congr_left (g:=id) fun z hz=>?_,List.map_id]
    rw [if_neg (fun e=>h1 z hz (hk.trans e.symm))];rfl
   have e2:A.filter (fun y=>decide (y.key≠x.key))=A:=List.filter_eq_self.2 fun z hz=>decide_eq_true (fun e=>h1 z hz (hk.trans e.symm))
   unfold setV getV
   rw [List.find?_cons,decide_eq_true hk]
   simp only [Option.isSome_some,if_true,List.map_cons,if_pos hk,e1]
   rw [List.filter_cons,if_neg (by simp [hk]),e2]
  ·have e1:setV (a::A) x=a::setV A x:=by
    unfold setV getV
    rw [List.find?_cons,decide_eq_false hk]
    simp only [List.map_cons,if_neg hk]
    split <;> rfl
   rw [e1,List.filter_cons,if_pos (by simp [hk])]
   exact ((ih h2).cons a).trans (List.Perm.swap x a _)
theorem getV_mem {A:List ItV} {k:IDV} {y:ItV} (h:getV A k=some y):y∈A∧y.key=k:=⟨List.mem_of_find?_eq_some h,by have:=List.find?_some h;simpa using this⟩
theorem takeV_set {A:List ItV} {x:ItV} (h:∀y,y∈A→y.key=x.key→newB x.ver y.ver=true):takeV A x=setV A x:=by
 unfold takeV
 cases hg:getV A x.key with
 | none=>rfl
 | some y=>
  simp only
  rw [if_pos (h y (getV_mem hg).1 (getV_mem hg).2)]
theorem takeV_keep {A:List ItV} {x y:ItV} (hd:A.Pairwise (fun a b=>a.key≠b.key)) (hy:y∈A) (hk:y.key=x.key) (hn:newB x.ver y.ver=false):takeV A x=A:=by
 unfold takeV
 cases hg:getV A x.key with
 | none=>
  unfold getV at hg
  rw [List.find?_eq_none] at hg
  exact absurd (decide_eq_true hk) (hg y hy)
 | some z=>
  have hz:=getV_mem hg
  have e:z=y:=by
   obtain ⟨i,hi,rfl⟩:=List.mem_iff_getElem.1 hz.1
   obtain ⟨j,hj,rfl⟩:=List.mem_iff_getElem.1 hy
   have hp:=List.pairwise_iff_getElem.1 hd
   rcases Nat.lt_trichotomy i j with h | h | h
   ·exact absurd (hz.2.trans hk.symm) (hp i j hi hj h)
   ·subst h;rfl
   ·exact absurd (hk.trans hz.2.symm) (hp j i hj hi h)
  simp only
  rw [e,if_neg (by rw [hn];decide)]
theorem srt_set {A B:List ItV} {x:ItV} (h:SrtOf A B):SrtOf (setV A x) (B.filter (fun y=>decide (valI y.key<valI x.key))++[x]++B.filter (fun y=>decide (valI x.key<valI y.key))):=by
 refine ⟨?_,?_⟩
 ·refine List.Perm.trans ?_ (setV_perm (srt_keys h)).symm
  have h1:(B.filter (fun y=>decide (valI y.key<valI x.key))++B.filter (fun y=>decide (valI x.key<valI y.key))).Perm (B.filter (fun y=>decide (y.key≠x.key))):=by
   have h2:=List.filter_append_perm (fun y:ItV=>decide (valI y.key<valI x.key)) (B.filter (fun y=>decide (y.key≠x.key)))
   rw [List.filter_filter,List.filter_filter] at h2
   have e1:B.filter (fun y=>decide (valI y.key<valI x.key))=B.filter (fun y=>decide (valI y.key<valI x.key)&&decide (y.key≠x.key)):=List.filter_congr fun y _=>by
    by_cases hlt:valI y.key<valI x.key
    ·have hne:y.key≠x.key:=fun e=>by rw [e] at hlt;omega
     rw [decide_eq_true hlt,decide_eq_true hne];rfl
    ·rw [decide_eq_false hlt];rfl
   have e2:B.filter (fun y=>decide (valI x.key<valI y.key))=B.filter (fun y=>(!decide (valI y.key<valI x.key))&&decide (y.key≠x.key)):=List.filter_congr fun y _=>by
    by_cases hlt:valI x.key<valI y.key
    ·have hne:y.key≠x.key:=fun e=>by rw [e] at hlt;omega
     rw [decide_eq_true hlt,decide_eq_true hne,decide_eq_false (by omega)];rfl
    ·rw [decide_eq_false hlt]
     by_cases hk:y.key=x.key
     ·rw [decide_eq_false (fun hn:y.key≠x.key=>hn hk),Bool.and_false]
     ·have:valI y.key≠valI x.key:=fun e=>hk (valI_inj e)
      rw [decide_eq_true (show valI y.key<valI x.key by omega)];rfl
   rw [e1,e2];exact h2
  have h3:(B.filter (fun y=>decide (valI y.key<valI x.key))++[x]++B.filter (fun y=>decide (valI x.key<valI y.key))).Perm (x::(B.filter (fun y=>decide (valI y.key<valI x.key))++B.filter (fun y=>decide (valI x.key<valI y.key)))):=by
   rw [List.append_assoc]
   exact List.perm_middle
  exact h3.trans ((h1.trans (h.1.filter _)).cons x)
 ·rw [List.append_assoc,List.pairwise_append]
  refine ⟨h.2.filter _,?_,fun a ha b hb=>?_⟩
  ·rw [List.singleton_append,List.pairwise_cons]
   exact ⟨fun b hb=>by have:=(List.mem_filter.1 hb).2;simpa using this,h.2.filter _⟩
  ·have h1:=(List.mem_filter.1 ha).2
   simp only [decide_eq_true_eq] at h1
   rw [List.singleton_append] at hb
   rcases List.mem_cons.1 hb with rfl | hb
   ·exact h1
   ·have h2:=(List.mem_filter.1 hb).2
    simp only [decide_eq_true_eq] at h2
    omega
theorem insH_it (ys:List HI) (x:HI):(insH ys x).map HI.it=(ys.map HI.it).filter (fun y=>decide (valI y.key<valI x.it.key))++[x.it]++(ys.map HI.it).filter (fun y=>decide (valI x.it.key<valI y.key)):=by
 unfold insH
 rw [List.map_append,List.map_append,List.filter_map,List.filter_map]
 rfl
theorem srt_ins {A:List ItV} {ys:List HI} {x:HI} (h:SrtOf A (ys.map HI.it)) (hn:∀y,y∈ys→y.key=x.key→newB x.ver y.ver=true):SrtOf (takeV A x.it) ((insH ys x).map HI.it):=by
 rw [insH_it,takeV_set]
 ·exact srt_set h
 ·intro y hy hk
  obtain ⟨z,hz,rfl⟩:=List.mem_map.1 (h.1.symm.mem_iff.1 hy)
  exact hn z hz hk
theorem srt_keep {A:List ItV} {ys:List HI} {x:HI} (h:SrtOf A (ys.map HI.it)) (hn:∃y,y∈ys∧y.key=x.key∧newB x.ver y.ver=false):takeV A x.it=A:=by
 obtain ⟨y,hy,hk,hb⟩:=hn
 exact takeV_keep (y:=y.it) (srt_keys h) (h.1.mem_iff.1 (List.mem_map.2 ⟨y,hy,rfl⟩)) hk hb
theorem insH_mem {ys:List HI} {x z:HI} (h:z∈insH ys x):z=x∨z∈ys:=by
 unfold insH at h
 rcases List.mem_append.1 h with h | h
 ·rcases List.mem_append.1 h with h | h
  ·exact .inr (List.mem_filter.1 h).1
  ·exact .inl (List.mem_singleton.1 h)
 ·exact .inr (List.mem_filter.1 h).1
theorem VOK.ins {ys:List HI} {x:HI} (h:VOK ys) (hx:okV x.ver.n∧Vec 5 1 x.sv x.bs.length (x.bs.map u8) x.lp):VOK (insH ys x):=fun z hz=>by
 rcases insH_mem hz with rfl | hz
 ·exact hx
 ·exact h z hz
theorem insH_perm {ys:List HI} (x:HI):∃zs,(x::ys).Perm (insH ys x++zs):=by
 refine ⟨ys.filter (fun y=>!lowP x.key y&&!highP x.key y),?_⟩
 have h1:=(List.filter_append_perm (lowP x.key) ys).symm
 have h2:=(List.filter_append_perm (highP x.key) (ys.filter (fun y=>!lowP x.key y))).symm
 rw [List.filter_filter,List.filter_filter] at h2
 have e1:ys.filter (fun a=>highP x.key a&&!lowP x.key a)=ys.filter (highP x.key):=List.filter_congr fun y _=>by
  by_cases hlt:valI x.key<valI y.key
  ·rw [show highP x.key y=true from decide_eq_true hlt,show lowP x.key y=false from decide_eq_false (by omega)];rfl
  ·rw [show highP x.key y=false from decide_eq_false hlt];rfl
 have e2:ys.filter (fun a=>!highP x.key a&&!lowP x.key a)=ys.filter (fun y=>!lowP x.key y&&!highP x.key y):=List.filter_congr fun y _=>Bool.and_comm _ _
 rw [e1,e2] at h2
 have h3:(x::ys).Perm (x::(ys.filter (lowP x.key)++(ys.filter (highP x.key)++ys.filter (fun y=>!lowP x.key y&&!highP x.key y)))):=(h1.trans (h2.append_left _)).cons x
 refine h3.trans ?_
 unfold insH
 rw [List.append_assoc,List.append_assoc]
 exact List.perm_middle.symm
theorem insH_len (ys:List HI) (x:HI):(insH ys x).length≤ys.length+1:=by
 obtain ⟨zs,h⟩:=insH_perm (ys:=ys) x
 have:=h.length_eq
 rw [List.length_cons,List.length_append] at this
 omega
theorem insH_sub (ys:List HI) (x:HI):SubP (lpsH (insH ys x)) (x.lp++lpsH ys):=by
 obtain ⟨zs,h⟩:=insH_perm (ys:=ys) x
 refine ⟨lpsH zs,?_⟩
 have h1:=h.flatMap_right (fun y:HI=>y.lp)
 rw [List.flatMap_cons,List.flatMap_append] at h1
 exact h1
theorem readP_of (inc:Nat) (bs:List UInt8):readP inc bs=match readP 0 bs with
  | none=>none
  | some (.inl n)=>if n≤inc then none else some (.inl n)
  | some (.inr x)=>some (.inr x):=by
 unfold readP
 by_cases h0:(getN bs 0).2.2≠0
 ·rw [if_pos h0,if_pos h0]
 rw [if_neg h0,if_neg h0]
 by_cases h1:(getN bs 0).1=1
 ·rw [if_pos h1,if_pos h1]
  by_cases h2:(getN bs (getN bs 0).2.1).2.2≠0∨(getN bs (getN bs 0).2.1).2.1<bs.length∨1048576<(getN bs (getN bs 0).2.1).1
  ·rw [if_pos (by rcases h2 with h | h | h;exact .inl h;exact .inr (.inl h);exact .inr (.inr (.inl h))),if_pos (by rcases h2 with h | h | h;exact .inl h;exact .inr (.inl h);exact .inr (.inr (.inl h)))]
  ·by_cases h3:(getN bs (getN bs 0).2.1).1≤0
   ·rw [if_pos (.inr (.inr (.inr (Nat.le_trans h3 (Nat.zero_le _))))),if_pos (.inr (.inr (.inr h3)))]
   ·have h5:¬((getN bs (getN bs 0).2.1).2.2≠0∨(getN bs (getN bs 0).2.1).2.1<bs.length∨1048576<(getN bs (getN bs 0).2.1).1∨(getN bs (getN bs 0).2.1).1≤0):=by
     rintro (h | h | h | h);exact h2 (.inl h);exact h2 (.inr (.inl h));exact h2 (.inr (.inr h));exact h3 h
    rw [if_neg h5]
    simp only
    by_cases h4:(getN bs (getN bs 0).2.1).1≤inc
    ·rw [if_pos (.inr (.inr (.inr h4))),if_pos h4]
    ·rw [if_neg (by rintro (h | h | h | h);exact h2 (.inl h);exact h2 (.inr (.inl h));exact h2 (.inr (.inr h));exact h4 h),if_neg h4]
 rw [if_neg h1,if_neg h1]
 by_cases h2:(getN bs 0).1=2
 ·rw [if_pos h2]
  split
  ·rfl
  ·split
   ·rfl
   ·split
    ·rfl
    ·split
     ·rfl
     ·rfl
 ·rw [if_neg h2]
theorem row_cell {w:World} {b o k c i q:Nat} {vs:List Value} {u:Value} (h:Row w (.slice (some ⟨b,o,none⟩) k c) k vs) (hu:vs[i]? = some u) (hq:q=o+i):w.cell? ⟨b,q,none⟩=some u:=by
 have hi:i<vs.length:=(List.getElem?_eq_some_iff.1 hu).1
 obtain ⟨b',o',c',h1,_,h2⟩:=h.some (by omega)
 simp only [Value.slice.injEq,Option.some.injEq,Addr.mk.injEq] at h1
 obtain ⟨⟨rfl,rfl,_⟩,_⟩:=h1
 subst hq
 exact (h2 i hi).trans hu
inductive HdR where
 | no
 | ok (inc:Nat) (A:List ItV) (ys:List HI) (v:Value) (lv:List (Nat × Obj))
def HdR.val:HdR→Value
 | .no=>.tuple #[.slice none 0 0,.int .i64 0,.bool false]
 | .ok inc _ _ v _=>.tuple #[v,.int .i64 ((inc:Nat):Int),.bool true]
def HdR.lst:HdR→List (Nat × Obj)
 | .no=>[]
 | .ok _ _ ys _ lv=>lv++lpsH ys
def HdR.Pr (rs:List (List UInt8)):HdR→Prop
 | .no=>heldV rs=none
 | .ok inc A ys v lv=>heldV rs=some (inc,A)∧SrtOf A (ys.map HI.it)∧VOK ys∧ys.length≤rs.length∧inc≤1048576∧Vec 28 34 v (ys).length ((ys).flatMap cH) lv
structure HdS where
 i:Nat
 inc:Nat
 A:List ItV
 ys:List HI
 v:Value
 l:List (Nat × Obj)
set_option maxHeartbeats 1000000 in
theorem rheld_spec (v:Value) (rs:List (List UInt8)) (w:World) (hr:RowRecs w v rs) (hrl:rs.length≤9000) (hrb:∀r,r∈rs→r.length≤2000) :
  Calls Try.prog 57 [v].toArray w fun r w'=>∃z:HdR,r=.returned z.val∧z.Pr rs∧St w [] z.lst w':=by
 obtain ⟨vs,hrow,hvl,hre⟩:=hr
 obtain ⟨a,c,rfl,hc,_⟩:=id hrow
 refine qD (args:=[.slice a rs.length c]) (e:=[(0,.slice a rs.length c)]) Try.func57 rfl rfl ⟨rfl,trivial⟩ (St.start w) ?_;refine JC.seq (fun K0 hK0=>?_);refine JC.region<|J.assign rfl rfl<|J.assign rfl rfl<|J.assign rfl rfl<|J.nil ?_;refine JX.qd (hK0 _ _ ?_);refine JC.seq (fun K1 hK1=>?_);refine JC.region<|J.qY (cs:=[.pointer none,.slice none 0 0,.int .i64 ((0:Nat):Int)]) Ty.pl74 Ty.z74 rfl (by kernel_rfl) rfl ?_;refine J.box rfl rfl rfl (fun q6=>?_);refine J.assign rfl rfl<|J.nil ?_;refine JX.qd (hK1 _ _ ?_);refine JC.seq (fun K2 hK2=>?_);refine JC.seq (fun K3 hK3=>?_);refine JC.region<|J.assign rfl rfl<|J.nil ?_;refine JX.qd (hK3 _ _ ?_);refine JC.block ?_
 refine JC.conseq (JC.cov (f:=(fun st=>[(0,.slice a rs.length c),(5,.pointer (some ⟨q6,0,none⟩)),(6,.int .i64 ((st.i:Nat):Int))]) (⟨0,0,[],[],.slice none 0 0,[]⟩:HdS)) ⟨rfl,rfl,rfl,trivial⟩ (JC.loop (α:=HdS) (fun st=>[(0,.slice a rs.length c),(5,.pointer (some ⟨q6,0,none⟩)),(6,.int .i64 ((st.i:Nat):Int))]) (fun st w'=>(st.i≤rs.length∧heldV (rs.take st.i)=some (st.inc,st.A)∧st.inc≤1048576∧SrtOf st.A (st.ys.map HI.it)∧VOK st.ys∧st.ys.length≤st.i∧Vec 28 34 st.v (st.ys).length ((st.ys).flatMap cH) st.l)∧St w [] ((q6,cb [.pointer none,st.v,.int .i64 ((st.inc:Nat):Int)] 74)::(st.l++lpsH st.ys)) w') (fun st=>rs.length - st.i) (⟨0,0,[],[],.slice none 0 0,[]⟩:HdS) (fun st=>?_))) (fun w hw=>⟨⟨Nat.zero_le _,rfl,Nat.zero_le _,⟨List.Perm.refl _,List.Pairwise.nil⟩,VOK.nil,Nat.zero_le _,Vec.nil _ _⟩,hw⟩)
 obtain ⟨i,inc,A,ys,vy,ly⟩:=st
 refine JC.pr (fun hI=>?_)
 obtain ⟨hi,hh,hinc,hS,hV,hyl,hv⟩:=hI
 try simp only at hi hh hinc hS hV hyl hv ⊢
 obtain ⟨ay,cy,rfl,hcy⟩:=hv.form
 refine JC.seq (fun K4 hK4=>?_);refine JC.seq (fun K5 hK5=>?_);refine JC.region<|J.qe rfl rfl<|J.qe rfl rfl<|J.qK rfl Ty.u57 rfl rfl<|J.qj rfl rfl rfl rfl<|J.nil ?_;refine JX.qd (hK5 _ _ ?_);refine JC.qn rfl (fun h0=>?_) (fun h0=>?_)
 ·have hlt:i<rs.length:=by simp at h0;omega
  obtain ⟨ru,hru⟩:∃x,rs[i]? = some x:=⟨_,List.getElem?_eq_getElem hlt⟩
  obtain ⟨u,hu⟩:∃x,vs[i]? = some x:=⟨_,List.getElem?_eq_getElem (by omega)⟩
  have hru2:=hre i u ru hu hru
  have hrul:=hrb ru (List.mem_of_getElem? hru)
  obtain ⟨au,cu,rfl,hcu,_⟩:=id hru2
  obtain ⟨bq,oq,cq,hsq,hcq,hcl⟩:=hrow.some (by omega)
  simp only [Value.slice.injEq] at hsq
  obtain ⟨rfl,-,rfl⟩:=hsq
  have hcell:=row_cell hrow hu (q:=oq+((i:Nat):Int).toNat*1) (by omega)
  have htk:rs.take (i+1)=rs.take i++[ru]:=by rw [List.take_add_one,hru];rfl
  refine JC.skip ?_;refine JX.qd (hK4 _ _ ?_);refine JC.seq (fun K6 hK6=>?_);refine JC.block ?_;refine JC.seq (fun K7 hK7=>?_);refine JC.region<|J.qe rfl rfl<|J.qe rfl rfl<|J.qu Ty.el57 Ty.s26 rfl rfl (by omega) (by omega) rfl ?_;refine J.zw (v:=.slice au ru.length cu) Ty.a26 rfl hcell (by simp) rfl ?_;refine J.perm ([]++((q6,cb [.pointer none,.slice ay ys.length cy,.int .i64 ((inc:Nat):Int)] 74)::(ly++lpsH ys))) (.refl _) ?_;refine J.qO (α:=RdR) (V:=RdR.val) (Pr:=fun z=>z.Pr ru) (L:=RdR.lst) (l1:=[]) Ty.bd74 rfl rfl (fun w1 hw=>rread18_spec (.slice au ru.length cu) ru w1 (hru2.below (hw.drop (List.nil_sublist _)).below) (by omega)) (fun z hz=>?_)
  rcases z with n9 | m9 | h9
  ·simp only [RdR.Pr,RdR.lst,List.nil_append] at hz ⊢
   refine J.name 23 rfl (show _=Value.tuple #[.agg (cH zH).toArray,.int .i64 n9,.bool false] from rfl) ?_
   have hg:heldV rs=none:=heldV_none (i:=i+1) (by rw [htk,zS,hh];simp only [Option.bind_some,stepV,readP_of inc ru,hz])
   refine J.qe rfl rfl<|J.extract rfl rfl rfl<|J.extract rfl rfl rfl<|J.extract rfl rfl rfl ?_;refine J.alloc Ty.zIt rfl rfl (fun b7=>?_);refine J.qN (cs:=cH zH) (vs:=cH zH) Ty.s28 rfl rfl rfl rfl rfl (zi (x:=zH) rfl) zu<|J.assign rfl rfl<|J.assign rfl rfl<|J.nil ?_;refine JX.qd (hK7 _ _ ?_);refine JC.seq (fun K8 hK8=>?_);refine JC.seq (fun K9 hK9=>?_);refine JC.region<|J.qe rfl rfl<|J.zC rfl rfl<|J.qe rfl rfl ?_
   first | refine J.skip rfl rfl rfl rfl rfl ?_ | refine J.qh rfl rfl rfl rfl ?_ | (refine J.qf rfl rfl rfl ?_;refine J.qe rfl rfl ?_)
   first | refine J.skip rfl rfl rfl rfl rfl ?_ | refine J.qh rfl rfl rfl rfl ?_ | (refine J.qf rfl rfl rfl ?_;refine J.qj rfl rfl rfl rfl ?_)
   first | refine J.skip rfl rfl rfl rfl rfl ?_ | refine J.qh rfl rfl rfl rfl ?_ | (refine J.qf rfl rfl rfl ?_;refine J.qe rfl rfl ?_)
   first | refine J.skip rfl rfl rfl rfl rfl ?_ | refine J.qh rfl rfl rfl rfl ?_ | (refine J.qf rfl rfl rfl ?_;refine J.qe rfl rfl ?_)
   first | refine J.skip rfl rfl rfl rfl rfl ?_ | refine J.qh rfl rfl rfl rfl ?_ | (refine J.qf rfl rfl rfl ?_;refine J.qe rfl rfl ?_)
   first | refine J.skip rfl rfl rfl rfl rfl ?_ | refine J.qh rfl rfl rfl rfl ?_ | (refine J.qf rfl rfl rfl ?_;refine J.qq rfl rfl ?_)
   first | refine J.skip rfl rfl rfl rfl rfl ?_ | refine J.qh rfl rfl rfl rfl ?_ | (refine J.qf rfl rfl rfl ?_;refine J.qi Ty.fd74_2 rfl rfl ?_)
   first | refine J.skip rfl rfl rfl rfl rfl ?_ | refine J.qh rfl rfl rfl rfl ?_ | (refine J.qf rfl rfl rfl ?_;refine J.qQ Ty.a2 rfl zm (by exact rfl) rfl ?_)
   first | refine J.skip rfl rfl rfl rfl rfl ?_ | refine J.qh rfl rfl rfl rfl ?_ | (refine J.qf rfl rfl rfl ?_;refine J.qj rfl rfl rfl rfl ?_)
   first | refine J.skip rfl rfl rfl rfl rfl ?_ | refine J.qh rfl rfl rfl rfl ?_ | (refine J.qf rfl rfl rfl ?_;(first | refine J.qr rfl rfl rfl ?_ | refine J.qs rfl rfl rfl ?_))
   (first | refine J.qr rfl rfl rfl ?_ | refine J.qs rfl rfl rfl ?_)
   refine J.nil ?_;refine JX.qd (hK9 _ _ ?_)
   first | refine JC.qP rfl ?_ | refine JC.qn rfl (fun _=>?_) (fun h=>by first | (exfalso;simp at h;omega) | (simp at h))
   refine JC.seq (fun K10 hK10=>?_);refine JC.region<|J.assign rfl rfl<|J.assign rfl rfl<|J.assign rfl rfl<|J.nil ?_;refine JX.qd (hK10 _ _ ?_);refine JC.qA<|JX.qt<|JX.qH<|JX.qt<|JX.qt<|JX.qH<|JX.qt ?_;refine JX.q5 rfl rfl rfl rfl (fun w1 hw=>?_)
   exact ⟨.no,rfl,hg,hw.drop (List.nil_sublist _)⟩
  ·simp only [RdR.Pr,RdR.lst,List.nil_append] at hz ⊢
   refine J.name 23 rfl (show _=Value.tuple #[.agg (cH zH).toArray,.int .i64 ((m9:Nat):Int),.bool true] from rfl) ?_
   have hb9:=readP_incb hz
   by_cases hm9:m9≤inc
   ·have hg:heldV rs=none:=heldV_none (i:=i+1) (by rw [htk,zS,hh];simp only [Option.bind_some,stepV,readP_of inc ru,hz];rw [if_pos hm9])
    refine J.qe rfl rfl<|J.extract rfl rfl rfl<|J.extract rfl rfl rfl<|J.extract rfl rfl rfl ?_;refine J.alloc Ty.zIt rfl rfl (fun b7=>?_);refine J.qN (cs:=cH zH) (vs:=cH zH) Ty.s28 rfl rfl rfl rfl rfl (zi (x:=zH) rfl) zu<|J.assign rfl rfl<|J.assign rfl rfl<|J.nil ?_;refine JX.qd (hK7 _ _ ?_);refine JC.seq (fun K11 hK11=>?_);refine JC.seq (fun K12 hK12=>?_);refine JC.region<|J.qe rfl rfl<|J.zC rfl rfl<|J.qe rfl rfl ?_
    first | refine J.skip rfl rfl rfl rfl rfl ?_ | refine J.qh rfl rfl rfl rfl ?_ | (refine J.qf rfl rfl rfl ?_;refine J.qe rfl rfl ?_)
    refine J.qf rfl rfl rfl<|J.qj rfl rfl rfl rfl<|J.name 31 rfl (show _=Value.bool true by simp;omega) ?_
    first | refine J.skip rfl rfl rfl rfl rfl ?_ | refine J.qh rfl rfl rfl rfl ?_ | (refine J.qf rfl rfl rfl ?_;refine J.qe rfl rfl ?_)
    first | refine J.skip rfl rfl rfl rfl rfl ?_ | refine J.qh rfl rfl rfl rfl ?_ | (refine J.qf rfl rfl rfl ?_;refine J.qe rfl rfl ?_)
    first | refine J.skip rfl rfl rfl rfl rfl ?_ | refine J.qh rfl rfl rfl rfl ?_ | (refine J.qf rfl rfl rfl ?_;refine J.qe rfl rfl ?_)
    first | refine J.skip rfl rfl rfl rfl rfl ?_ | refine J.qh rfl rfl rfl rfl ?_ | (refine J.qf rfl rfl rfl ?_;refine J.qq rfl rfl ?_)
    first | refine J.skip rfl rfl rfl rfl rfl ?_ | refine J.qh rfl rfl rfl rfl ?_ | (refine J.qf rfl rfl rfl ?_;refine J.qi Ty.fd74_2 rfl rfl ?_)
    refine J.qf rfl rfl rfl<|J.qw (v:=.int .i64 ((inc:Nat):Int)) Ty.a2 rfl (fun w1 hw=>by rw [qB (hw.own ((q6,cb [.pointer none,.slice ay ys.length cy,.int .i64 ((inc:Nat):Int)] 74)) zm)];rfl) rfl ?_;refine J.qf rfl rfl rfl<|J.qj rfl rfl rfl rfl<|J.name 38 rfl (show _=Value.bool true by simp;omega) ?_
    first | refine J.skip rfl rfl rfl rfl rfl ?_ | refine J.qh rfl rfl rfl rfl ?_ | (refine J.qf rfl rfl rfl ?_;(first | refine J.qr rfl rfl rfl ?_ | refine J.qs rfl rfl rfl ?_))
    (first | refine J.qr rfl rfl rfl ?_ | refine J.qs rfl rfl rfl ?_)
    refine J.nil ?_;refine JX.qd (hK12 _ _ ?_)
    first | refine JC.qP rfl ?_ | refine JC.qn rfl (fun _=>?_) (fun h=>by first | (exfalso;simp at h;omega) | (simp at h))
    refine JC.seq (fun K13 hK13=>?_);refine JC.region<|J.assign rfl rfl<|J.assign rfl rfl<|J.assign rfl rfl<|J.nil ?_;refine JX.qd (hK13 _ _ ?_);refine JC.qA<|JX.qt<|JX.qH<|JX.qt<|JX.qt<|JX.qH<|JX.qt ?_;refine JX.q5 rfl rfl rfl rfl (fun w1 hw=>?_)
    exact ⟨.no,rfl,hg,hw.drop (List.nil_sublist _)⟩
   ·have hst:heldV (rs.take (i+1))=some (m9,A):=by rw [htk,zS,hh];simp only [Option.bind_some,stepV,readP_of inc ru,hz];rw [if_neg hm9]
    refine J.qe rfl rfl<|J.extract rfl rfl rfl<|J.extract rfl rfl rfl<|J.extract rfl rfl rfl ?_;refine J.alloc Ty.zIt rfl rfl (fun b7=>?_);refine J.qN (cs:=cH zH) (vs:=cH zH) Ty.s28 rfl rfl rfl rfl rfl (zi (x:=zH) rfl) zu<|J.assign rfl rfl<|J.assign rfl rfl<|J.nil ?_;refine JX.qd (hK7 _ _ ?_);refine JC.seq (fun K14 hK14=>?_);refine JC.seq (fun K15 hK15=>?_);refine JC.region<|J.qe rfl rfl<|J.zC rfl rfl<|J.qe rfl rfl ?_
    first | refine J.skip rfl rfl rfl rfl rfl ?_ | refine J.qh rfl rfl rfl rfl ?_ | (refine J.qf rfl rfl rfl ?_;refine J.qe rfl rfl ?_)
    refine J.qf rfl rfl rfl<|J.qj rfl rfl rfl rfl<|J.name 31 rfl (show _=Value.bool true by simp;omega) ?_
    first | refine J.skip rfl rfl rfl rfl rfl ?_ | refine J.qh rfl rfl rfl rfl ?_ | (refine J.qf rfl rfl rfl ?_;refine J.qe rfl rfl ?_)
    first | refine J.skip rfl rfl rfl rfl rfl ?_ | refine J.qh rfl rfl rfl rfl ?_ | (refine J.qf rfl rfl rfl ?_;refine J.qe rfl rfl ?_)
    first | refine J.skip rfl rfl rfl rfl rfl ?_ | refine J.qh rfl rfl rfl rfl ?_ | (refine J.qf rfl rfl rfl ?_;refine J.qe rfl rfl ?_)
    first | refine J.skip rfl rfl rfl rfl rfl ?_ | refine J.qh rfl rfl rfl rfl ?_ | (refine J.qf rfl rfl rfl ?_;refine J.qq rfl rfl ?_)
    first | refine J.skip rfl rfl rfl rfl rfl ?_ | refine J.qh rfl rfl rfl rfl ?_ | (refine J.qf rfl rfl rfl ?_;refine J.qi Ty.fd74_2 rfl rfl ?_)
    refine J.qf rfl rfl rfl<|J.qw (v:=.int .i64 ((inc:Nat):Int)) Ty.a2 rfl (fun w1 hw=>by rw [qB (hw.own ((q6,cb [.pointer none,.slice ay ys.length cy,.int .i64 ((inc:Nat):Int)] 74)) zm)];rfl) rfl ?_;refine J.qf rfl rfl rfl<|J.qj rfl rfl rfl rfl<|J.name 38 rfl (show _=Value.bool false by simp;omega) ?_
    first | refine J.skip rfl rfl rfl rfl rfl ?_ | refine J.qh rfl rfl rfl rfl ?_ | (refine J.qf rfl rfl rfl ?_;(first | refine J.qr rfl rfl rfl ?_ | refine J.qs rfl rfl rfl ?_))
    (first | refine J.qr rfl rfl rfl ?_ | refine J.qs rfl rfl rfl ?_)
    refine J.nil ?_;refine JX.qd (hK15 _ _ ?_)
    first | refine JC.qI rfl ?_ | refine JC.qn rfl (fun h=>by first | (exfalso;simp at h;omega) | (simp at h)) (fun _=>?_)
    refine JC.skip ?_;refine JX.qd (hK14 _ _ ?_);refine JC.seq (fun K16 hK16=>?_);refine JC.region<|J.qe rfl rfl<|J.qj rfl rfl rfl rfl<|J.name 42 rfl (show _=Value.bool true by simp;omega) ?_;refine J.nil ?_;refine JX.qd (hK16 _ _ ?_)
    first | refine JC.qP rfl ?_ | refine JC.qn rfl (fun _=>?_) (fun h=>by first | (exfalso;simp at h;omega) | (simp at h))
    refine JC.region<|J.qe rfl rfl<|J.qe rfl rfl<|J.qq rfl rfl<|J.qi Ty.fd74_2 rfl rfl<|J.perm ((q6,cb [.pointer none,.slice ay ys.length cy,.int .i64 ((inc:Nat):Int)] 74)::((b7,cb (cH zH) 28)::(ly++lpsH ys))) zp<|J.qU (cs:=[.pointer none,.slice ay ys.length cy,.int .i64 ((inc:Nat):Int)]) (vs:=[.int .i64 ((m9:Nat):Int)]) (l':=(q6,cb [.pointer none,.slice ay ys.length cy,.int .i64 ((m9:Nat):Int)] 74)::((b7,cb (cH zH) 28)::(ly++lpsH ys))) Ty.s2 rfl rfl rfl rfl (fun v hv=>by rw [List.mem_singleton.1 hv];rfl) .here (by show _≤3;omega) ?_;refine J.nil<|JX.qJ ?_;refine JX.qd (hK6 _ _ ?_);refine JC.region<|J.qe rfl rfl ?_
    (first | refine J.qG rfl rfl (by omega) (by omega) rfl ?_ | refine J.qj rfl rfl rfl rfl ?_)
    refine J.assign rfl rfl<|J.nil<|JX.qd<|JX.qS (⟨i+1,m9,A,ys,.slice ay ys.length cy,ly⟩:HdS) ?_ ?_ ?_
    ·simp only;omega
    ·exact ⟨rfl,rfl,rfl,trivial⟩
    ·exact fun w1 hw=>⟨⟨hlt,hst,hb9.2,hS,hV,Nat.le_succ_of_le hyl,hv⟩,(hw.perm (zp:List.Perm _ ((b7,cb (cH zH) 28)::((q6,cb [.pointer none,.slice ay ys.length cy,.int .i64 ((m9:Nat):Int)] 74)::(ly++lpsH ys))))).drop (List.sublist_cons_self _ _)⟩
  ·obtain ⟨key9,ver9,bs9,sv9,lp9⟩:=h9
   simp only [RdR.Pr,RdR.lst] at hz ⊢
   obtain ⟨hz1,hz2,hz3⟩:=hz
   obtain ⟨a9,c9,rfl,hc9⟩:=hz3.form
   refine J.name 23 rfl (show _=Value.tuple #[.agg (cT key9 ver9 (.slice a9 bs9.length c9)).toArray,.int .i64 0,.bool true] from rfl) ?_
   have hst:heldV (rs.take (i+1))=some (inc,takeV A (⟨key9,ver9,bs9,.slice a9 bs9.length c9,lp9⟩:HI).it):=by rw [htk,zS,hh];simp only [Option.bind_some,stepV,readP_of inc ru,hz1]
   refine J.qe rfl rfl<|J.extract rfl rfl rfl<|J.extract rfl rfl rfl<|J.extract rfl rfl rfl ?_;refine J.alloc Ty.zIt rfl rfl (fun b7=>?_);refine J.qN (cs:=cH zH) (vs:=(cT key9 ver9 (.slice a9 bs9.length c9))) Ty.s28 rfl rfl rfl rfl rfl zF zu<|J.assign rfl rfl<|J.assign rfl rfl<|J.nil ?_;refine JX.qd (hK7 _ _ ?_);refine JC.seq (fun K17 hK17=>?_);refine JC.seq (fun K18 hK18=>?_);refine JC.region<|J.qe rfl rfl<|J.zC rfl rfl<|J.qe rfl rfl ?_
   first | refine J.skip rfl rfl rfl rfl rfl ?_ | refine J.qh rfl rfl rfl rfl ?_ | (refine J.qf rfl rfl rfl ?_;refine J.qe rfl rfl ?_)
   refine J.qf rfl rfl rfl<|J.qj rfl rfl rfl rfl<|J.name 31 rfl (show _=Value.bool false by simp) ?_
   first | refine J.skip rfl rfl rfl rfl rfl ?_ | refine J.qh rfl rfl rfl rfl ?_ | (refine J.qf rfl rfl rfl ?_;refine J.qe rfl rfl ?_)
   first | refine J.skip rfl rfl rfl rfl rfl ?_ | refine J.qh rfl rfl rfl rfl ?_ | (refine J.qf rfl rfl rfl ?_;refine J.qe rfl rfl ?_)
   first | refine J.skip rfl rfl rfl rfl rfl ?_ | refine J.qh rfl rfl rfl rfl ?_ | (refine J.qf rfl rfl rfl ?_;refine J.qe rfl rfl ?_)
   first | refine J.skip rfl rfl rfl rfl rfl ?_ | refine J.qh rfl rfl rfl rfl ?_ | (refine J.qf rfl rfl rfl ?_;refine J.qq rfl rfl ?_)
   first | refine J.skip rfl rfl rfl rfl rfl ?_ | refine J.qh rfl rfl rfl rfl ?_ | (refine J.qf rfl rfl rfl ?_;refine J.qi Ty.fd74_2 rfl rfl ?_)
   first | refine J.skip rfl rfl rfl rfl rfl ?_ | refine J.qh rfl rfl rfl rfl ?_ | (refine J.qf rfl rfl rfl ?_;refine J.qQ Ty.a2 rfl zm (by exact rfl) rfl ?_)
   first | refine J.skip rfl rfl rfl rfl rfl ?_ | refine J.qh rfl rfl rfl rfl ?_ | (refine J.qf rfl rfl rfl ?_;refine J.qj rfl rfl rfl rfl ?_)
   first | refine J.skip rfl rfl rfl rfl rfl ?_ | refine J.qh rfl rfl rfl rfl ?_ | (refine J.qf rfl rfl rfl ?_;(first | refine J.qr rfl rfl rfl ?_ | refine J.qs rfl rfl rfl ?_))
   (first | refine J.qr rfl rfl rfl ?_ | refine J.qs rfl rfl rfl ?_)
   refine J.nil ?_;refine JX.qd (hK18 _ _ ?_)
   first | refine JC.qI rfl ?_ | refine JC.qn rfl (fun h=>by first | (exfalso;simp at h;omega) | (simp at h)) (fun _=>?_)
   refine JC.skip ?_;refine JX.qd (hK17 _ _ ?_);refine JC.seq (fun K19 hK19=>?_);refine JC.region<|J.qe rfl rfl<|J.qj rfl rfl rfl rfl<|J.name 42 rfl (show _=Value.bool false by simp) ?_;refine J.nil ?_;refine JX.qd (hK19 _ _ ?_)
   first | refine JC.qI rfl ?_ | refine JC.qn rfl (fun h=>by first | (exfalso;simp at h;omega) | (simp at h)) (fun _=>?_)
   refine JC.region<|J.qe rfl rfl<|J.qC (vs:=(cT key9 ver9 (.slice a9 bs9.length c9))) Ty.a28 Ty.s28 rfl rfl (fun w1 hw=>Cells.of_block (hw.own ((b7,cb (cT key9 ver9 (.slice a9 bs9.length c9)) 28)) zm) rfl) rfl ?_;refine J.perm ((((q6,cb [.pointer none,.slice ay ys.length cy,.int .i64 ((inc:Nat):Int)] 74)::ly))++((b7,cb (cT key9 ver9 (.slice a9 bs9.length c9)) 28)::(lp9++lpsH ys))) zp ?_
   refine J.qO (α:=Bool × Value × List (Nat × Obj)) (V:=fun x=>.bool x.1) (Pr:=fun x=>(x.1=false∧(∃y,y∈ys∧y.key=key9∧newB ver9 y.ver=false)∧x.2.1=.slice ay ys.length cy∧x.2.2=ly)∨(x.1=true∧(∀y,y∈ys→y.key=key9→newB ver9 y.ver=true)∧Vec 28 34 x.2.1 (insH ys (⟨key9,ver9,bs9,.slice a9 bs9.length c9,lp9⟩:HI)).length ((insH ys (⟨key9,ver9,bs9,.slice a9 bs9.length c9,lp9⟩:HI)).flatMap cH) x.2.2)) (L:=fun x=>(q6,cb [.pointer none,x.2.1,.int .i64 ((inc:Nat):Int)] 74)::x.2.2) Ty.bd58 rfl rfl (fun w1 hw=>(rtake_spec q6 (.pointer none) ((inc:Nat):Int) ys _ ly hv (fun y hy=>by obtain ⟨a,c,h1,_⟩:=(hV y hy).2.form;exact ⟨a,c,h1⟩) (by omega) _ key9 ver9 bs9 a9 bs9.length c9 lp9 w1 rfl (St.owns hw)).mono fun _ _ h=>by
    rcases h with ⟨h1,h2,h3⟩ | ⟨h1,h2,v7,l7,h3,h4⟩
    ·exact ⟨(false,_,_),h1,.inl ⟨rfl,h2,rfl,rfl⟩,h3⟩
    ·exact ⟨(true,v7,l7),h1,.inr ⟨rfl,h2,h3⟩,h4⟩) (fun x hx=>?_)
   obtain ⟨q7,v7,l7⟩:=x
   try simp only at hx ⊢
   rcases hx with ⟨rfl,hx1,rfl,rfl⟩ | ⟨rfl,hx1,hx2⟩
   ·have hkp:=srt_keep (x:=(⟨key9,ver9,bs9,.slice a9 bs9.length c9,lp9⟩:HI)) hS hx1
    rw [hkp] at hst
    refine J.nil<|JX.qJ ?_;refine JX.qd (hK6 _ _ ?_);refine JC.region<|J.qe rfl rfl ?_
    (first | refine J.qG rfl rfl (by omega) (by omega) rfl ?_ | refine J.qj rfl rfl rfl rfl ?_)
    refine J.assign rfl rfl<|J.nil<|JX.qd<|JX.qS (⟨i+1,inc,A,ys,.slice ay ys.length cy,l7⟩:HdS) ?_ ?_ ?_
    ·simp only;omega
    ·exact ⟨rfl,rfl,rfl,trivial⟩
    ·exact fun w1 hw=>⟨⟨hlt,hst,hinc,hS,hV,Nat.le_succ_of_le hyl,hv⟩,(hw.perm (zp:List.Perm _ (((b7,cb (cT key9 ver9 (.slice a9 bs9.length c9)) 28)::lp9)++((q6,cb [.pointer none,.slice ay ys.length cy,.int .i64 ((inc:Nat):Int)] 74)::(l7++lpsH ys))))).drop (List.sublist_append_right _ _)⟩
   ·have hkp:=srt_ins (x:=(⟨key9,ver9,bs9,.slice a9 bs9.length c9,lp9⟩:HI)) hS hx1
    have hil:=insH_len ys (⟨key9,ver9,bs9,.slice a9 bs9.length c9,lp9⟩:HI)
    refine J.nil<|JX.qJ ?_;refine JX.qd (hK6 _ _ ?_);refine JC.region<|J.qe rfl rfl ?_
    (first | refine J.qG rfl rfl (by omega) (by omega) rfl ?_ | refine J.qj rfl rfl rfl rfl ?_)
    refine J.assign rfl rfl<|J.nil<|JX.qd<|JX.qS (⟨i+1,inc,takeV A (⟨key9,ver9,bs9,.slice a9 bs9.length c9,lp9⟩:HI).it,insH ys (⟨key9,ver9,bs9,.slice a9 bs9.length c9,lp9⟩:HI),v7,l7⟩:HdS) ?_ ?_ ?_
    ·simp only;omega
    ·exact ⟨rfl,rfl,rfl,trivial⟩
    ·exact fun w1 hw=>⟨⟨hlt,hst,hinc,hkp,hV.ins ⟨hz2,hz3⟩,by simp only;omega,hx2⟩,by
      have h1:=hw.perm (zp:List.Perm _ ((lp9++lpsH ys)++((q6,cb [.pointer none,v7,.int .i64 ((inc:Nat):Int)] 74)::(l7++[(b7,cb (cT key9 ver9 (.slice a9 bs9.length c9)) 28)]))))
      have h2:=(insH_sub ys (⟨key9,ver9,bs9,.slice a9 bs9.length c9,lp9⟩:HI)).st h1
      exact (h2.perm (zp:List.Perm _ ((b7,cb (cT key9 ver9 (.slice a9 bs9.length c9)) 28)::((q6,cb [.pointer none,v7,.int .i64 ((inc:Nat):Int)] 74)::(l7++lpsH (insH ys (⟨key9,ver9,bs9,.slice a9 bs9.length c9,lp9⟩:HI))))))).drop (List.sublist_cons_self _ _)⟩
 ·have hge:i=rs.length:=by simp at h0;omega
  rw [hge,List.take_of_length_le (Nat.le_refl _)] at hh
  refine JC.qX<|JX.qE<|JX.qE<|JX.qT ?_;refine JX.qd (hK2 _ _ ?_);refine JC.seq (fun K20 hK20=>?_)
  apply JC.zd (α:=Nat × Unit) 11 (fun x=>match x with | ⟨xu,uu⟩=>[.pointer (some ⟨q6,0,none⟩),.pointer (some ⟨q6,0,none⟩),.pointer (some ⟨q6,0+1,none⟩),.slice ay ys.length cy,.pointer (some ⟨q6,0,none⟩),.pointer (some ⟨q6,0,none⟩),.pointer (some ⟨q6,0+2,none⟩),.int .i64 ((inc:Nat):Int),.slice ay ys.length cy,.int .i64 ((inc:Nat):Int),.bool true]) (fun m x=>match x with | ⟨xu,uu⟩=>fun w1=>(True)∧St w [] ((q6,cb [.pointer none,.slice ay ys.length cy,.int .i64 ((inc:Nat):Int)] 74)::(ly++lpsH ys)) w1) Ty.mixed rfl rfl rfl (by kernel_rfl) rfl rfl ?hinit ?hstep ?htail
  case hinit=>exact fun w1 hw=>⟨(0,()),trivial,hw.drew⟩
  case hstep=>
   refine ⟨fun m x hm hp=>?_,fun m x hm hp=>?_,fun m x hm hp=>?_,fun m x hm hp=>?_,fun m x hm hp=>?_,fun m x hm hp=>?_,fun m x hm hp=>?_,fun m x hm hp=>?_,fun m x hm hp=>?_,fun m x hm hp=>?_,fun m x hm hp=>?_,trivial⟩
   ·obtain ⟨xu,uu⟩:=x
    show J _ _ _ _ _ (_) _
    refine J.pr (fun hF=>?_);refine J.qe rfl rfl ?_
    exact J.ql rfl (fun _ hw=>⟨⟨xu,uu⟩,rfl,fun _ _ _=>rfl,hF,hw⟩)
   ·obtain ⟨xu,uu⟩:=x
    show J _ _ _ _ _ ((50,.pointer (some ⟨q6,0,none⟩))::_) _
    refine J.pr (fun hF=>?_);refine J.qq rfl rfl ?_
    exact J.ql rfl (fun _ hw=>⟨⟨xu,uu⟩,rfl,fun _ _ _=>rfl,hF,hw⟩)
   ·obtain ⟨xu,uu⟩:=x
    show J _ _ _ _ _ ((51,.pointer (some ⟨q6,0,none⟩))::_) _
    refine J.pr (fun hF=>?_);refine J.qi Ty.fd74_1 rfl rfl ?_
    exact J.ql rfl (fun _ hw=>⟨⟨xu,uu⟩,rfl,fun _ _ _=>rfl,hF,hw⟩)
   ·obtain ⟨xu,uu⟩:=x
    show J _ _ _ _ _ ((52,.pointer (some ⟨q6,0+1,none⟩))::_) _
    refine J.pr (fun hF=>?_);refine J.qw (v:=.slice ay ys.length cy) Ty.a44 rfl (fun w1 hw=>by rw [qB (hw.own ((q6,cb [.pointer none,.slice ay ys.length cy,.int .i64 ((inc:Nat):Int)] 74)) zm)];rfl) rfl ?_
    exact J.ql rfl (fun _ hw=>⟨⟨xu,uu⟩,rfl,fun _ _ _=>rfl,hF,hw⟩)
   ·obtain ⟨xu,uu⟩:=x
    show J _ _ _ _ _ (_) _
    refine J.pr (fun hF=>?_);refine J.qe rfl rfl ?_
    exact J.ql rfl (fun _ hw=>⟨⟨xu,uu⟩,rfl,fun _ _ _=>rfl,hF,hw⟩)
   ·obtain ⟨xu,uu⟩:=x
    show J _ _ _ _ _ ((54,.pointer (some ⟨q6,0,none⟩))::_) _
    refine J.pr (fun hF=>?_);refine J.qq rfl rfl ?_
    exact J.ql rfl (fun _ hw=>⟨⟨xu,uu⟩,rfl,fun _ _ _=>rfl,hF,hw⟩)
   ·obtain ⟨xu,uu⟩:=x
    show J _ _ _ _ _ ((55,.pointer (some ⟨q6,0,none⟩))::_) _
    refine J.pr (fun hF=>?_);refine J.qi Ty.fd74_2 rfl rfl ?_
    exact J.ql rfl (fun _ hw=>⟨⟨xu,uu⟩,rfl,fun _ _ _=>rfl,hF,hw⟩)
   ·obtain ⟨xu,uu⟩:=x
    show J _ _ _ _ _ ((56,.pointer (some ⟨q6,0+2,none⟩))::_) _
    refine J.pr (fun hF=>?_);refine J.qw (v:=.int .i64 ((inc:Nat):Int)) Ty.a2 rfl (fun w1 hw=>by rw [qB (hw.own ((q6,cb [.pointer none,.slice ay ys.length cy,.int .i64 ((inc:Nat):Int)] 74)) zm)];rfl) rfl ?_
    exact J.ql rfl (fun _ hw=>⟨⟨xu,uu⟩,rfl,fun _ _ _=>rfl,hF,hw⟩)
   ·obtain ⟨xu,uu⟩:=x
    show J _ _ _ _ _ ((53,.slice ay ys.length cy)::(52,.pointer (some ⟨q6,0+1,none⟩))::(51,.pointer (some ⟨q6,0,none⟩))::(50,.pointer (some ⟨q6,0,none⟩))::(53,.slice ay ys.length cy)::_) _
    refine J.pr (fun hF=>?_);refine J.assign rfl rfl ?_
    exact J.ql rfl (fun _ hw=>⟨⟨xu,uu⟩,rfl,fun _ _ _=>rfl,hF,hw⟩)
   ·obtain ⟨xu,uu⟩:=x
    show J _ _ _ _ _ ((2,.slice ay ys.length cy)::(57,.int .i64 ((inc:Nat):Int))::(56,.pointer (some ⟨q6,0+2,none⟩))::(55,.pointer (some ⟨q6,0,none⟩))::(54,.pointer (some ⟨q6,0,none⟩))::(53,.slice ay ys.length cy)::(52,.pointer (some ⟨q6,0+1,none⟩))::(51,.pointer (some ⟨q6,0,none⟩))::(50,.pointer (some ⟨q6,0,none⟩))::(2,.slice ay ys.length cy)::(57,.int .i64 ((inc:Nat):Int))::_) _
    refine J.pr (fun hF=>?_);refine J.assign rfl rfl ?_
    exact J.ql rfl (fun _ hw=>⟨⟨xu,uu⟩,rfl,fun _ _ _=>rfl,hF,hw⟩)
   ·obtain ⟨xu,uu⟩:=x
    show J _ _ _ _ _ ((3,.int .i64 ((inc:Nat):Int))::(2,.slice ay ys.length cy)::(57,.int .i64 ((inc:Nat):Int))::(56,.pointer (some ⟨q6,0+2,none⟩))::(55,.pointer (some ⟨q6,0,none⟩))::(54,.pointer (some ⟨q6,0,none⟩))::(53,.slice ay ys.length cy)::(52,.pointer (some ⟨q6,0+1,none⟩))::(51,.pointer (some ⟨q6,0,none⟩))::(50,.pointer (some ⟨q6,0,none⟩))::(3,.int .i64 ((inc:Nat):Int))::_) _
    refine J.pr (fun hF=>?_);refine J.assign rfl rfl ?_
    exact J.ql rfl (fun _ hw=>⟨⟨xu,uu⟩,rfl,fun _ _ _=>rfl,hF,hw⟩)
  case htail=>
   intro x
   obtain ⟨xu,uu⟩:=x
   show J _ _ _ _ _ ((4,.bool true)::(3,.int .i64 ((inc:Nat):Int))::(2,.slice ay ys.length cy)::(57,.int .i64 ((inc:Nat):Int))::(56,.pointer (some ⟨q6,0+2,none⟩))::(55,.pointer (some ⟨q6,0,none⟩))::(54,.pointer (some ⟨q6,0,none⟩))::(53,.slice ay ys.length cy)::(52,.pointer (some ⟨q6,0+1,none⟩))::(51,.pointer (some ⟨q6,0,none⟩))::(50,.pointer (some ⟨q6,0,none⟩))::_) (fun w1=>(True)∧St w [] ((q6,cb [.pointer none,.slice ay ys.length cy,.int .i64 ((inc:Nat):Int)] 74)::(ly++lpsH ys)) w1)
   refine J.pr (fun hF=>?_);refine J.nil ?_;refine JX.qd (hK20 _ _ ?_);refine JC.qA ?_;refine JX.q5 rfl rfl rfl rfl (fun w1 hw=>?_)
   exact ⟨.ok inc A ys (.slice ay ys.length cy) ly,rfl,⟨hh,hS,hV,by omega,hinc,hv⟩,hw.drop (List.sublist_cons_self _ _)⟩
theorem rappend_all (lb r n:Nat) (q:LogP) (down:Bool) (v:Value) (lp:List (Nat × Obj)) (B rec_:List UInt8) (p k:Int) (a:Option Addr) (m c:Nat) (w:World) (hw0:Own w ((lb,rlO r q down)::(r,rfO v p k)::lp)) (hv:Vec 5 1 v (64*n) (B.map u8) lp) (hB:B.length=64*n) (hn:n≤4096) (hn3:3≤n) (hg:q.gen<9223372036854775808) (hu:q.used≤n - 2) (hcn:q.cnt≤q.used) (hk:0≤k) (hk2:k<4611686018427380000) (hp:p<9223372036854775808) (hml:rec_.length=m) (hm47:m≤140737488351232) (hr:Row w (.slice a m c) m (rec_.map u8)) (hoff:Off (lb::r::lp.map (·.1)) (.slice a m c) (rec_.map u8)) {x:Int × LogP × Bool × DS} (hx:appendP n q down ⟨B,p,k⟩ rec_=x) :
  Calls Try.prog 28 [.pointer (some ⟨lb,0,none⟩),.slice a m c].toArray w fun ρ w'=>∃lp',ρ=.returned (.int .i64 x.1)∧Vec 5 1 v (64*n) (x.2.2.2.B.map u8) lp'∧St w (lb::r::lp.map (·.1)) ((lb,rlO r x.2.1 x.2.2.1)::(r,rfO v x.2.2.2.p x.2.2.2.k)::lp') w':=by
 subst hx
 exact rappend_spec lb r n q down v lp B rec_ p k a m c w hw0 hv hB hn hn3 hg hu hcn hk hk2 hp hml hm47 hr hoff
inductive RO where
 | bad (e:Int) (σ:DS) (lp:List (Nat × Obj))
 | ok (vb lb:Nat) (q:LogP) (inc:Nat) (A:List ItV) (ys:List HI) (yv:Value) (yl:List (Nat × Obj)) (σ:DS) (lp:List (Nat × Obj))
def RO.val:RO→Value
 | .bad e _ _=>.tuple #[.pointer none,.int .i64 e]
 | .ok vb _ _ _ _ _ _ _ _ _=>.tuple #[.pointer (some ⟨vb,0,none⟩),.int .i64 0]
abbrev rvB (vb lb rd:Nat) (v:Value) (q:LogP) (down:Bool) (inc:Nat) (yv:Value) (σ:DS):List (Nat × Obj):=[(vb,cb [.pointer (some ⟨lb,0,none⟩),yv,.int .i64 ((inc:Nat):Int)] 74),(lb,rlO rd q down),(rd,rfO v σ.p σ.k)]
def RO.lst (rd:Nat) (v:Value):RO→List (Nat × Obj)
 | .bad _ σ lp=>(rd,rfO v σ.p σ.k)::lp
 | .ok vb lb q inc _ ys yv yl σ lp=>rvB vb lb rd v q false inc yv σ++(lp++(yl++lpsH ys))
def RO.Pr (n:Nat) (σ:DS) (v:Value):RO→Prop
 | .bad e σ' lp=>vopenP n σ=(e,none,σ')∧e≠0∧Vec 5 1 v (64*n) (σ'.B.map u8) lp
 | .ok _ _ q inc A ys yv yl σ' lp=>vopenP n σ=(0,some (q,inc,A),σ')∧SrtOf A (ys.map HI.it)∧VOK ys∧ys.length≤4096∧Vec 28 34 yv (ys).length ((ys).flatMap cH) yl∧Vec 5 1 v (64*n) (σ'.B.map u8) lp
set_option maxHeartbeats 1000000 in
theorem yT (rd n:Nat) (v:Value) (lp:List (Nat × Obj)) (B:List UInt8) (p k:Int) (w:World) (hw0:Own w ((rd,rfO v p k)::lp)) (hv:Vec 5 1 v (64*n) (B.map u8) lp) (hB:B.length=64*n) (hn:n≤4096) (hk:0≤k) (hk2:k<4611686018427380000) (hp:p<9223372036854775808) :
  Calls Try.prog 30 [.pointer (some ⟨rd,0,none⟩)].toArray w fun r w'=>∃z:RO,r=.returned z.val∧z.Pr n ⟨B,p,k⟩ v∧St w (rd::lp.map (·.1)) (z.lst rd v) w':=by
 refine qD (args:=[.pointer (some ⟨rd,0,none⟩)]) (e:=[(0,.pointer (some ⟨rd,0,none⟩))]) Try.func30 rfl rfl ⟨rfl,trivial⟩ (show St w (rd::lp.map (·.1)) ((rd,rfO v p k)::lp) w from hw0.st) ?_;refine JC.seq (fun K0 hK0=>?_);refine JC.region<|J.assign rfl rfl<|J.assign rfl rfl<|J.nil ?_;refine JX.qd (hK0 _ _ ?_);refine JC.seq (fun K1 hK1=>?_)
 rcases ho:openP B n with ⟨e0,_ | q⟩
 ·have he0:=openP_e ho
  have hg:vopenP n ⟨B,p,k⟩=(e0,none,⟨B,p,k⟩):=vopenP_bad ho
  refine JC.region<|J.qe rfl rfl<|J.qR (v:=.tuple #[.pointer none,.slice none 0 0,.int .i64 e0]) (fun w1 w2 hw hb=>hw.step hb) Ty.bd27 rfl rfl (fun w1 hw=>by have h9:=ropen_spec rd n v lp B p k w1 (St.owns' hw) hv hB hn;rw [ho] at h9;exact h9) ?_;refine J.qe rfl rfl<|J.extract rfl rfl rfl<|J.extract rfl rfl rfl<|J.extract rfl rfl rfl<|J.assign rfl rfl<|J.assign rfl rfl<|J.assign rfl rfl<|J.nil ?_;refine JX.qd (hK1 _ _ ?_);refine JC.seq (fun K2 hK2=>?_);refine JC.seq (fun K3 hK3=>?_);refine JC.region<|J.qe rfl rfl<|J.qj rfl rfl rfl rfl<|J.name 17 rfl (show _=Value.bool true by simp [he0]) ?_;refine J.nil ?_;refine JX.qd (hK3 _ _ ?_)
  first | refine JC.qP rfl ?_ | refine JC.qn rfl (fun _=>?_) (fun h=>by first | (exfalso;simp at h;omega) | (simp at h))
  refine JC.seq (fun K4 hK4=>?_);refine JC.region<|J.qe rfl rfl<|J.assign rfl rfl<|J.assign rfl rfl<|J.nil ?_;refine JX.qd (hK4 _ _ ?_);refine JC.qA<|JX.qt ?_;refine JX.zr rfl rfl rfl (fun w1 hw=>?_)
  exact ⟨.bad e0 ⟨B,p,k⟩ lp,rfl,⟨hg,he0,hv⟩,hw⟩
 ·have hol:=yD ho hn
  obtain ⟨hn3,hgl,hul,hcl_,hrl⟩:=hol
  refine JC.region<|J.qe rfl rfl<|J.perm ([]++((rd,rfO v p k)::lp)) (.refl _) ?_
  refine J.qO (α:=Nat × Value × List Value × List (Nat × Obj) × List (Nat × Obj)) (V:=fun x=>.tuple #[.pointer (some ⟨x.1,0,none⟩),x.2.1,.int .i64 0]) (Pr:=fun x=>Vec 26 1 x.2.1 q.recs.length x.2.2.1 x.2.2.2.1∧Recs 5 x.2.2.1 q.recs x.2.2.2.2) (L:=fun x=>(x.1,rlO rd q false)::(x.2.2.2.1++x.2.2.2.2)) (l1:=[]) Ty.bd27 rfl rfl (fun w1 hw=>by
   have h9:=ropen_spec rd n v lp B p k w1 (St.owns' hw) hv hB hn
   rw [ho] at h9
   exact h9.mono fun _ _ ⟨b,v,vs,lv,lps,h1,h2,h3,h4⟩=>⟨(b,v,vs,lv,lps),h1,⟨h2,h3⟩,h4⟩) (fun x hx=>?_)
  obtain ⟨lb,vv,vs,lvv,lps⟩:=x
  obtain ⟨hvv,hrecs⟩:=hx
  try simp only at hvv hrecs ⊢
  obtain ⟨ar,cr,rfl,hcr⟩:=hvv.form
  have hvl:=hrecs.length
  refine J.perm ((lb,rlO rd q false)::(lvv++(lps++((rd,rfO v p k)::lp)))) zp<|J.qe rfl rfl<|J.extract rfl rfl rfl<|J.extract rfl rfl rfl<|J.extract rfl rfl rfl<|J.assign rfl rfl<|J.assign rfl rfl<|J.assign rfl rfl<|J.nil ?_;refine JX.qd (hK1 _ _ ?_);refine JC.seq (fun K5 hK5=>?_);refine JC.seq (fun K6 hK6=>?_);refine JC.region<|J.qe rfl rfl<|J.qj rfl rfl rfl rfl<|J.name 17 rfl (show _=Value.bool false by simp) ?_;refine J.nil ?_;refine JX.qd (hK6 _ _ ?_)
  first | refine JC.qI rfl ?_ | refine JC.qn rfl (fun h=>by first | (exfalso;simp at h;omega) | (simp at h)) (fun _=>?_)
  refine JC.skip ?_;refine JX.qd (hK5 _ _ ?_);refine JC.seq (fun K7 hK7=>?_);refine JC.region<|J.qe rfl rfl<|J.perm ([]++((lb,rlO rd q false)::(lvv++(lps++((rd,rfO v p k)::lp))))) (.refl _) ?_
  refine J.qO (α:=HdR) (V:=HdR.val) (Pr:=fun z=>z.Pr q.recs) (L:=HdR.lst) (l1:=[]) Ty.bd57 rfl rfl (fun w1 hw=>rheld_spec _ q.recs w1 (RowRecs.of (l:=(lb,rlO rd q false)::(rd,rfO v p k)::lp) hvv hrecs (hw.perm zp)) (by omega) (fun r9 hr9=>by
   obtain ⟨i9,hi9⟩:=List.mem_iff_getElem?.1 hr9
   have:=openP_size ho hi9
   omega)) (fun z hz=>?_)
  rcases z with _ | ⟨inc,A,ys,yv,yl⟩
  ·simp only [HdR.Pr,HdR.lst,List.nil_append] at hz ⊢
   refine J.name 21 rfl (show _=Value.tuple #[.slice none 0 0,.int .i64 0,.bool false] from rfl) ?_
   have hg:vopenP n ⟨B,p,k⟩=(2,none,⟨B,p,k⟩):=vopenP_form (σ:=⟨B,p,k⟩) ho hz
   refine J.qe rfl rfl<|J.extract rfl rfl rfl<|J.extract rfl rfl rfl<|J.extract rfl rfl rfl<|J.assign rfl rfl<|J.assign rfl rfl<|J.assign rfl rfl<|J.nil ?_;refine JX.qd (hK7 _ _ ?_);refine JC.seq (fun K8 hK8=>?_);refine JC.seq (fun K9 hK9=>?_);refine JC.region<|J.qe rfl rfl<|J.zC rfl rfl<|J.nil ?_;refine JX.qd (hK9 _ _ ?_)
   first | refine JC.qP rfl ?_ | refine JC.qn rfl (fun _=>?_) (fun h=>by first | (exfalso;simp at h;omega) | (simp at h))
   refine JC.seq (fun K10 hK10=>?_);refine JC.region<|J.assign rfl rfl<|J.assign rfl rfl<|J.nil ?_;refine JX.qd (hK10 _ _ ?_);refine JC.qA<|JX.qt ?_;refine JX.zr rfl rfl rfl (fun w1 hw=>?_)
   exact ⟨.bad 2 ⟨B,p,k⟩ lp,rfl,⟨hg,by decide,hv⟩,(hw.perm (zp:List.Perm _ (((lb,rlO rd q false)::(lvv++lps))++((rd,rfO v p k)::lp)))).drop (List.sublist_append_right _ _)⟩
  ·simp only [HdR.Pr,HdR.lst] at hz ⊢
   obtain ⟨hh,hS,hV,hyl,hinc,hyv⟩:=hz
   obtain ⟨ay,cy,rfl,hcy⟩:=hyv.form
   refine J.name 21 rfl (show _=Value.tuple #[.slice ay ys.length cy,.int .i64 ((inc:Nat):Int),.bool true] from rfl) ?_
   refine J.conseq (I':=St w (rd::lp.map (·.1)) ((lb,rlO rd q false)::(rd,rfO v p k)::(lp++(yl++lpsH ys)))) ?_ (fun w1 hw=>(hw.perm (zp:List.Perm _ ((lvv++lps)++((lb,rlO rd q false)::(rd,rfO v p k)::(lp++(yl++lpsH ys)))))).drop (List.sublist_append_right _ _))
   refine J.qe rfl rfl<|J.extract rfl rfl rfl<|J.extract rfl rfl rfl<|J.extract rfl rfl rfl<|J.assign rfl rfl<|J.assign rfl rfl<|J.assign rfl rfl<|J.nil ?_;refine JX.qd (hK7 _ _ ?_);refine JC.seq (fun K11 hK11=>?_);refine JC.seq (fun K12 hK12=>?_);refine JC.region<|J.qe rfl rfl<|J.zC rfl rfl<|J.nil ?_;refine JX.qd (hK12 _ _ ?_)
   first | refine JC.qI rfl ?_ | refine JC.qn rfl (fun h=>by first | (exfalso;simp at h;omega) | (simp at h)) (fun _=>?_)
   refine JC.skip ?_;refine JX.qd (hK11 _ _ ?_);refine JC.seq (fun K13 hK13=>?_);refine JC.seq (fun K14 hK14=>?_);refine JC.region<|J.qe rfl rfl<|J.qj rfl rfl rfl rfl<|J.nil ?_;refine JX.qd (hK14 _ _ ?_);refine JC.qn rfl (fun h2=>?_) (fun h2=>?_)
   ·have hg:vopenP n ⟨B,p,k⟩=(5,none,⟨B,p,k⟩):=vopenP_full (σ:=⟨B,p,k⟩) ho hh (by simp at h2;omega)
    refine JC.seq (fun K15 hK15=>?_);refine JC.region<|J.assign rfl rfl<|J.assign rfl rfl<|J.nil ?_;refine JX.qd (hK15 _ _ ?_);refine JC.qA<|JX.qt ?_;refine JX.zr rfl rfl rfl (fun w1 hw=>?_)
    exact ⟨.bad 5 ⟨B,p,k⟩ lp,rfl,⟨hg,by decide,hv⟩,(hw.perm (zp:List.Perm _ (((lb,rlO rd q false)::(yl++lpsH ys))++((rd,rfO v p k)::lp)))).drop (List.sublist_append_right _ _)⟩
   ·have hi9:¬inc=1048576:=by simp at h2;omega
    refine JC.skip ?_;refine JX.qd (hK13 _ _ ?_);refine JC.seq (fun K16 hK16=>?_);refine JC.region<|J.qe rfl rfl<|J.perm ([]++((lb,rlO rd q false)::(rd,rfO v p k)::(lp++(yl++lpsH ys)))) (.refl _) ?_;refine J.qO (α:=Value × List (Nat × Obj)) (V:=(·.1)) (Pr:=fun x=>Vec 5 1 x.1 (numB 1).length ((numB 1).map u8) x.2) (L:=(·.2)) (l1:=[]) Ty.bd41 rfl rfl (fun w1 hw=>rnum_spec 1 w1 (by omega)) (fun x hv30=>?_)
    obtain ⟨v30,l30⟩:=x
    simp only at hv30 ⊢
    have hn30:=zM 1
    refine J.qe rfl rfl<|J.qG rfl rfl (by omega) (by omega) rfl ?_;refine J.name 32 rfl (show _=Value.int .i64 ((inc+1:Nat):Int) from congrArg (Value.int .i64) (by omega)) ?_;refine J.qF Ty.u2 Ty.u81 rfl rfl<|J.name 33 rfl (show _=Value.int .u64 ((inc+1:Nat):Int) from congrArg (Value.int .u64) (ze (by omega) (by omega))) ?_;refine J.perm ([]++(l30++((lb,rlO rd q false)::(rd,rfO v p k)::(lp++(yl++lpsH ys))))) (.refl _) ?_;refine J.qO (α:=Value × List (Nat × Obj)) (V:=(·.1)) (Pr:=fun x=>Vec 5 1 x.1 (numB (inc+1)).length ((numB (inc+1)).map u8) x.2) (L:=(·.2)) (l1:=[]) Ty.bd41 rfl rfl (fun w1 hw=>rnum_spec (inc+1) w1 (by omega)) (fun x hv34=>?_)
    obtain ⟨v34,l34⟩:=x
    simp only at hv34 ⊢
    have hn34:=zM (inc+1)
    refine J.perm (l30++(l34++((lb,rlO rd q false)::(rd,rfO v p k)::(lp++(yl++lpsH ys))))) zp ?_;refine J.qZ (lp:=l30) (xs:=(numB 1).map u8) (ys:=(numB (inc+1)).map u8) (k:=(numB 1).length) (m:=(numB (inc+1)).length) Ty.el26 Ty.s5 Ty.b5 Ty.z5 rfl (.inl ⟨5,Ty.u26⟩) rfl rfl hv30 (fun w1 hw=>.inl (hv34.row (l:=l30++((lb,rlO rd q false)::(rd,rfO v p k)::(lp++(yl++lpsH ys)))) (hw.perm zp))) (by rw [List.length_map,Nat.mul_one]) (zk _) (by omega) (by omega) rfl (fun v35 l35 hv35=>?_)
    rw [← List.map_append,← List.length_append] at hv35
    rw [show numB 1++numB (inc+1)=incB (inc+1) from rfl] at hv35
    obtain ⟨a35,c35,rfl,hc35⟩:=hv35.form
    have hl35:(incB (inc+1)).length≤18:=by
     rw [incB,List.length_append];omega
    obtain ⟨⟨e9,q9,dn9,σ9⟩,hx9⟩:∃x,appendP n q false ⟨B,p,k⟩ (incB (inc+1))=x:=⟨_,rfl⟩
    refine J.perm (((lb,rlO rd q false)::(rd,rfO v p k)::lp)++(l35++(l34++(yl++lpsH ys)))) zp ?_;refine J.qO (α:=List (Nat × Obj)) (V:=fun _=>.int .i64 e9) (Pr:=fun x=>Vec 5 1 v (64*n) (σ9.B.map u8) x) (L:=fun x=>(lb,rlO rd q9 dn9)::(rd,rfO v σ9.p σ9.k)::x) (l1:=(lb,rlO rd q false)::(rd,rfO v p k)::lp) Ty.bd28 rfl rfl (fun w1 hw=>rappend_all lb rd n q false v lp B (incB (inc+1)) p k a35 _ c35 w1 (St.owns hw) hv hB hn hn3 hgl hul hcl_ hk hk2 hp rfl (by omega) (qW hv35 hw (fun q hq=>by simp [hq])) (zY hv35 (fun p0 hp0=>St.off (l1:=(lb,rlO rd q false)::(rd,rfO v p k)::lp) hw (o:=p0.2) (by simp [hp0]))) hx9) (fun lp9 hv9=>?_);refine J.assign rfl rfl<|J.nil ?_;refine JX.qd (hK16 _ _ ?_);refine JC.seq (fun K17 hK17=>?_);refine JC.seq (fun K18 hK18=>?_);refine JC.region<|J.qe rfl rfl<|J.qj rfl rfl rfl rfl<|J.nil ?_;refine JX.qd (hK18 _ _ ?_);refine JC.qn rfl (fun h3=>?_) (fun h3=>?_)
    ·have he9:e9≠0:=by simpa using h3
     have hg:=vopenP_torn (σ:=⟨B,p,k⟩) ho hh hi9 hx9 he9
     refine JC.seq (fun K19 hK19=>?_);refine JC.region<|J.qe rfl rfl<|J.assign rfl rfl<|J.assign rfl rfl<|J.nil ?_;refine JX.qd (hK19 _ _ ?_);refine JC.qA<|JX.qt ?_;refine JX.zr rfl rfl rfl (fun w1 hw=>?_)
     exact ⟨.bad e9 σ9 lp9,rfl,⟨hg,he9,hv9⟩,(hw.perm (zp:List.Perm _ (((lb,rlO rd q9 dn9)::(l35++(l34++(yl++lpsH ys))))++((rd,rfO v σ9.p σ9.k)::lp9)))).drop (List.sublist_append_right _ _)⟩
    ·have he9:e9=0:=by simpa using h3
     have hg:=vopenP_ok (σ:=⟨B,p,k⟩) ho hh hi9 hx9 he9
     have hdn:=appendP_dn hx9 he9
     subst hdn
     refine JC.skip ?_;refine JX.qd (hK17 _ _ ?_);refine JC.seq (fun K20 hK20=>?_);refine JC.region<|J.qe rfl rfl<|J.qe rfl rfl<|J.qe rfl rfl<|J.qG rfl rfl (by omega) (by omega) rfl ?_;refine J.name 43 rfl (show _=Value.int .i64 ((inc+1:Nat):Int) from congrArg (Value.int .i64) (by omega)) ?_;refine J.qY (cs:=[.pointer (some ⟨lb,0,none⟩),.slice ay ys.length cy,.int .i64 ((inc+1:Nat):Int)]) Ty.pl74 Ty.z74 rfl (by kernel_rfl) rfl ?_;refine J.box rfl rfl rfl (fun b45=>?_);refine J.assign rfl rfl<|J.assign rfl rfl<|J.nil ?_;refine JX.qd (hK20 _ _ ?_);refine JC.qA ?_;refine JX.zr rfl rfl rfl (fun w1 hw=>?_)
     exact ⟨.ok b45 lb q9 (inc+1) A ys (.slice ay ys.length cy) yl σ9 lp9,rfl,⟨hg,hS,hV,by omega,hyv,hv9⟩,(hw.perm (zp:List.Perm _ ((l35++l34)++(rvB b45 lb rd v q9 false (inc+1) (.slice ay ys.length cy) σ9++(lp9++(yl++lpsH ys)))))).drop (List.sublist_append_right _ _)⟩
def shiftK (j:Int) (σ:DS):DS:=⟨σ.B,σ.p,σ.k+j⟩
theorem flat1B (m:Nat):(List.replicate m [Value.int .u8 0]).flatten=(List.replicate m (0:UInt8)).map u8:=by
 rw [List.map_replicate]
 induction m with
 | zero=>rfl
 | succ m ih=>rw [List.replicate_succ,List.flatten_cons,ih];rfl
theorem pair18_spec (a:Option Addr) (m c n:Nat) (bs:List UInt8) (w:World) (hb:Row w (.slice a m c) m (bs.map u8)) (hbl:bs.length=m) (hm:m=64*n) (hn:n≤4096) :
  Calls Try.prog 29 [.slice a m c].toArray w fun r w'=>∃x:Nat × Nat × Nat × Value × List (Nat × Obj),r=.returned (.tuple #[.pointer (some ⟨x.1,0,none⟩),.pointer (some ⟨x.2.2.1,0,none⟩)])∧Vec 5 1 x.2.2.2.1 (64*n) (bs.map u8) x.2.2.2.2∧St w [] ((x.1,dkO x.2.1 n (-1) 0)::(x.2.1,dkS bs)::(x.2.2.1,rfO x.2.2.2.1 (-1) 0)::x.2.2.2.2) w':=by
 subst hm
 refine qD (args:=[.slice a (64*n) c]) (e:=[(0,.slice a (64*n) c)]) Try.func29 rfl rfl ⟨rfl,trivial⟩ (St.start w) ?_;refine JC.seq (fun K0 hK0=>?_);refine JC.region<|J.assign rfl rfl<|J.assign rfl rfl<|J.nil ?_;refine JX.qd (hK0 _ _ ?_);refine JC.seq (fun K1 hK1=>?_);refine JC.region<|J.qe rfl rfl ?_;refine J.qO (l1:=[]) Ty.bd56 rfl rfl (fun w1 hw=>of_spec a (64*n) c n bs w1 (hb.st (.inr (by simp)) hw) hbl rfl hn) (fun y _=>?_)
 obtain ⟨d,s⟩:=y
 simp only
 refine J.qe rfl rfl<|J.extract rfl rfl rfl<|J.extract rfl rfl rfl<|J.assign rfl rfl<|J.assign rfl rfl<|J.nil ?_;refine JX.qd (hK1 _ _ ?_);refine JC.seq (fun K2 hK2=>?_);refine JC.region<|J.qe rfl rfl ?_;refine J.za Ty.el26 Ty.s5 Ty.z5 rfl rfl rfl rfl rfl rfl rfl (fun zb=>?_);refine J.qe rfl rfl ?_;refine J.qZ (lp:=[(zb,cb [] 5)]) (xs:=[]) (ys:=bs.map u8) (k:=0) (m:=64*n) Ty.el26 Ty.s5 Ty.b5 Ty.z5 rfl (.inl ⟨5,Ty.u26⟩) rfl rfl ⟨rfl,.inr ⟨zb,0,[],rfl,rfl,rfl,Nat.le_refl _⟩⟩ (fun w1 hw=>.inl (hb.st (.inr (by simp)) hw)) (by simp [hbl]) (zk _) (by omega) (by omega) rfl (fun v1 lp1 hv1=>?_)
 rw [Nat.zero_add,List.nil_append] at hv1
 obtain ⟨a1,c1,rfl,hc1⟩:=hv1.form
 refine J.qY Ty.pl67 Ty.z67 rfl rfl rfl ?_;refine J.box rfl rfl rfl (fun b16=>?_);refine J.assign rfl rfl<|J.assign rfl rfl<|J.nil ?_;refine JX.qd (hK2 _ _ ?_);refine JC.qA ?_;refine JX.zr rfl rfl rfl (fun w hw=>?_)
 have hw2:St _ [] ((b16,rfO (.slice a1 (64*n) c1) (-1) 0)::(lp1++[(d,dkO s n (-1) 0),(s,dkS bs)])) w:=hw
 exact ⟨(d,s,b16,_,lp1),rfl,hv1,hw2.perm zp⟩
theorem J.callA {P:Program} {ops:Array Oper} {Q:Exit→Act→World→Prop} {n:Nat} {e:Env} {I:World→Prop} {rest:List Oper} {d t:Nat} {p:String} {af:Array Edge} {f:FuncId} {xs:List Operand} {ats:Array TypeId} {vs:List Value} {wi:World} (A:Value→World→Prop) (hb:bodyT P f=true) (hx:evs e xs=some vs) (hd:Nat.blt d n=true)
  (hc:∀w,I w→Calls P f vs.toArray w fun r w'=>∃v,r=.returned v∧A v w'∧Bel w w')
  (h:∀v,J P ops Q n rest ((d,v)::e) (fun w=>A v w∧Bel wi w)):J P ops Q n (⟨some d,.call ⟨.value (.func f),xs.toArray,ats⟩,t,p,af,none⟩::rest) e (fun w=>w=wi∧I w):=by
 refine J.call (R:=fun v' w'=>A v' w'∧Bel wi w') hb hx hd (fun w hw=>?_) h
 obtain ⟨rfl,hw⟩:=hw
 exact (hc w hw).mono fun r w' ⟨v,h1,h2,h3⟩=>⟨v,h1,h2,h3⟩
theorem J.two {P:Program} {ops:Array Oper} {Q:Exit→Act→World→Prop} {n:Nat} {e:Env} {I A B:World→Prop} {rest:List Oper} (h:J P ops Q n rest e (fun w=>A w∧I w)):J P ops Q n rest e (fun w=>A w∧(B w∧I w)):=h.conseq fun _ hw=>⟨hw.1,hw.2.2⟩
def RowH (A:List ItV) (v:Value) (w:World):Prop:=∃ys:List HI,SrtOf A (ys.map HI.it)∧ys.length≤5000∧Row w v ys.length (ys.flatMap cH)∧∀x,x∈ys→(∃a c,x.sv=.slice a x.bs.length c)∧Row w x.sv x.bs.length (x.bs.map u8)∧okN x.ver.n
theorem RowH.st (A:List ItV):∀v w w',RowH A v w→Bel w w'→RowH A v w':=fun _ _ _ ⟨ys,h1,h2,h3,h4⟩ hb=>⟨ys,h1,h2,h3.below hb,fun x hx=>⟨(h4 x hx).1,(h4 x hx).2.1.below hb,(h4 x hx).2.2⟩⟩
theorem readP_small {inc:Nat} {bs:List UInt8} {x:ItV} (h:readP inc bs=some (.inr x)):x.bs.length≤64:=by
 unfold readP at h
 split at h
 ·cases h
 ·split at h
  ·split at h <;> cases h
  ·split at h
   ·split at h
    ·cases h
    ·split at h
     ·cases h
     ·split at h
      ·cases h
      ·split at h
       ·cases h
       ·simp only [Option.some.injEq,Sum.inr.injEq] at h
        rw [← h]
        exact getT_len _ _ _
   ·cases h
theorem setV_mem {A:List ItV} {x z:ItV} (h:z∈setV A x):z=x∨z∈A:=by
 unfold setV at h
 split at h
 ·obtain ⟨y,hy,rfl⟩:=List.mem_map.1 h
  split
  ·exact .inl rfl
  ·exact .inr hy
 ·rcases List.mem_append.1 h with h | h
  ·exact .inr h
  ·exact .inl (List.mem_singleton.1 h)
theorem setV_len (A:List ItV) (x:ItV):(setV A x).length≤A.length+1:=by
 unfold setV
 split <;> simp
theorem takeV_mem {A:List ItV} {x z:ItV} (h:z∈takeV A x):z=x∨z∈A:=by
 unfold takeV at h
 split at h
 ·exact setV_mem h
 ·split at h
  ·exact setV_mem h
  ·exact .inr h
theorem takeV_len (A:List ItV) (x:ItV):(takeV A x).length≤A.length+1:=by
 unfold takeV
 split
 ·exact setV_len A x
 ·split
  ·exact setV_len A x
  ·omega
theorem held_small:∀(n:Nat) (rs:List (List UInt8)),rs.length=n→∀(inc:Nat) (A:List ItV),heldV rs=some (inc,A)→A.length≤rs.length∧∀x,x∈A→x.bs.length≤64:=by
 intro n
 induction n with
 | zero=>
  intro rs hl inc A h
  obtain rfl:=List.eq_nil_of_length_eq_zero hl
  simp only [heldV,List.foldl_nil,Option.some.injEq,Prod.mk.injEq] at h
  rw [← h.2]
  exact ⟨Nat.le_refl _,fun x hx=>(by cases hx)⟩
 | succ n ih=>
  intro rs hl inc A h
  have hne:rs≠[]:=fun e=>by rw [e] at hl;cases hl
  rw [← List.dropLast_concat_getLast hne] at h ⊢
  rw [zS] at h
  rcases h1:heldV rs.dropLast with _ | ⟨inc0,A0⟩
  ·rw [h1] at h;cases h
  ·obtain ⟨i1,i2⟩:=ih rs.dropLast (by rw [List.length_dropLast,hl];rfl) inc0 A0 h1
   rw [h1] at h
   simp only [Option.bind_some,stepV] at h
   rw [List.length_append,List.length_singleton]
   split at h
   ·cases h
   ·simp only [Option.some.injEq,Prod.mk.injEq] at h
    rw [← h.2]
    exact ⟨by omega,i2⟩
   ·rename_i x hx
    simp only [Option.some.injEq,Prod.mk.injEq] at h
    rw [← h.2]
    refine ⟨Nat.le_trans (takeV_len _ _) (by omega),fun z hz=>?_⟩
    rcases takeV_mem hz with rfl | hz
    ·exact readP_small hx
    ·exact i2 z hz
theorem vopen_small {n inc:Nat} {q q':LogP} {σ σ':DS} {A:List ItV} (hn:n≤4096) (hI:LogI n q σ) (h:vopenP n σ=(0,some (q',inc,A),σ')):A.length≤n∧(∀x,x∈A→x.bs.length≤64):=by
 have hb:=yD hI.open_ hn
 unfold vopenP at h
 rw [hI.open_] at h
 simp only at h
 rcases hh:heldV q.recs with _ | ⟨inc0,A0⟩
 ·rw [hh] at h;cases h
 ·rw [hh] at h
  simp only at h
  obtain ⟨h1,h2⟩:=held_small _ _ rfl _ _ hh
  split at h
  ·cases h
  ·split at h
   ·simp only [Prod.mk.injEq,Option.some.injEq,true_and] at h
    rw [← h.1.2.2]
    exact ⟨by omega,h2⟩
   ·rename_i he
    simp only [Prod.mk.injEq] at h
    exact absurd h.1 he
structure OpS where
 i:Nat
 q:LogP
 dn:Bool
 σ:DS
 lp:List (Nat × Obj)
structure OpI (N:Nat) (v0:Value) (st:OpS):Prop where
 i:st.i≤81
 log:LogI N st.q st.σ
 gen:st.q.gen≤st.i
 k0:0≤st.σ.k
 kb:st.σ.k≤19*(st.i:Int)
 p:st.σ.p = -1
 vec:Vec 5 1 v0 (64*N) (st.σ.B.map u8) st.lp
theorem hget_fst {ys:List HI} {i:Nat} {y:HI} {key:IDV} (h:ys[i]? = some y) (hk:y.key=key) (hn:∀z,z∈ys.take i→z.key≠key):hget ys key=some y:=by
 unfold hget
 obtain ⟨hlt,he⟩:=List.getElem?_eq_some_iff.1 h
 have h1:ys=ys.take i++y::ys.drop (i+1):=by rw [← he,← List.drop_eq_getElem_cons hlt,List.take_append_drop]
 rw [h1,List.find?_append,List.find?_eq_none.2 (fun z hz=>by simpa using hn z hz),Option.none_or,List.find?_cons_of_pos (by simpa using hk)]
theorem hget_uniq {ys:List HI} {y:HI} {key:IDV} (hP:ys.Pairwise (fun a b=>valI a.key<valI b.key)) (hy:y∈ys) (hk:y.key=key):hget ys key=some y:=by
 induction ys with
 | nil=>cases hy
 | cons a ys ih=>
  obtain ⟨h1,h2⟩:=List.pairwise_cons.1 hP
  unfold hget
  rcases List.mem_cons.1 hy with rfl | hy
  ·exact List.find?_cons_of_pos (by simpa using hk)
  ·rw [List.find?_cons_of_neg]
   ·exact ih h2 hy
   ·have h3:=h1 y hy
    intro h4
    rw [hk,← (of_decide_eq_true h4:a.key=key)] at h3
    exact Nat.lt_irrefl _ h3
theorem rget18_spec (vb:Nat) (lv:Value) (inc:Int) (ys:List HI) (yv:Value) (ly l:List (Nat × Obj)) (hv:Vec 28 34 yv (ys).length ((ys).flatMap cH) ly) (hf:∀y,y∈ys→∃a c,y.sv=.slice a y.bs.length c) (hyl:ys.length≤10000) (key:IDV) (w:World) (hw0:Own w ((vb,cb [lv,yv,.int .i64 inc] 74)::(ly++l))) :
  Calls Try.prog 37 [.pointer (some ⟨vb,0,none⟩),.agg (cI key).toArray].toArray w fun r w'=>r=.returned (.tuple #[.agg (cH ((hget ys key).getD zH)).toArray,.bool (hget ys key).isSome])∧Bel w w':=by
 obtain ⟨ay,cy,rfl,hcy⟩:=hv.form
 obtain ⟨S0,hS0⟩:∃l9,((vb,cb [lv,(.slice ay ys.length cy),.int .i64 inc] 74)::(ly++l)).map (·.1)=l9:=⟨_,rfl⟩
 have hst0:=hw0.st
 rw [hS0] at hst0
 refine qD (args:=[.pointer (some ⟨vb,0,none⟩),.agg (cI key).toArray]) (e:=[(0,.pointer (some ⟨vb,0,none⟩)),(1,.agg (cI key).toArray)]) Try.func37 rfl rfl ⟨rfl,rfl,trivial⟩ (hst0) ?_;refine JC.seq (fun K0 hK0=>?_);refine JC.region ?_;refine J.box rfl rfl rfl (fun b3=>?_);refine J.alloc Ty.zIt rfl rfl (fun b4=>?_);refine J.assign rfl rfl<|J.nil ?_;refine JX.qd (hK0 _ _ ?_);refine JC.seq (fun K1 hK1=>?_);refine JC.seq (fun K2 hK2=>?_);refine JC.region<|J.assign rfl rfl<|J.nil ?_;refine JX.qd (hK2 _ _ ?_);refine JC.block ?_
 refine JC.conseq (JC.cov (f:=(fun i=>[(0,.pointer (some ⟨vb,0,none⟩)),(3,.pointer (some ⟨b3,0,none⟩)),(4,.pointer (some ⟨b4,0,none⟩)),(6,.int .i64 ((i:Nat):Int))]) (0:Nat)) ⟨rfl,rfl,rfl,rfl,trivial⟩ (JC.loop (α:=Nat) (fun i=>[(0,.pointer (some ⟨vb,0,none⟩)),(3,.pointer (some ⟨b3,0,none⟩)),(4,.pointer (some ⟨b4,0,none⟩)),(6,.int .i64 ((i:Nat):Int))]) (fun i w'=>(i≤ys.length∧(∀z,z∈ys.take i→z.key≠key))∧St w S0 ((b4,cb (cH zH) 28)::(b3,cb (cI key) 23)::(vb,cb [lv,(.slice ay ys.length cy),.int .i64 inc] 74)::(ly++l)) w') (fun i=>ys.length - i) (0:Nat) (fun i=>?_))) (fun w hw=>⟨⟨Nat.zero_le _,fun y hy=>(by simp at hy)⟩,hw⟩)
 refine JC.pr (fun hI=>?_)
 obtain ⟨hi,hno⟩:=hI
 try simp only at hi hno ⊢
 refine JC.seq (fun K3 hK3=>?_);refine JC.seq (fun K4 hK4=>?_);refine JC.region<|J.qe rfl rfl<|J.qe rfl rfl<|J.qq rfl rfl<|J.qi Ty.fd74_1 rfl rfl<|J.qw (v:=(.slice ay ys.length cy)) Ty.a44 rfl (fun w1 hw=>by rw [qB (hw.own ((vb,cb [lv,(.slice ay ys.length cy),.int .i64 inc] 74)) zm)];rfl) rfl ?_;refine J.qK rfl Ty.u44 rfl rfl<|J.qj rfl rfl rfl rfl<|J.nil ?_;refine JX.qd (hK4 _ _ ?_);refine JC.qn rfl (fun h0=>?_) (fun h0=>?_)
 ·have hlt:i<ys.length:=by simp at h0;omega
  obtain ⟨y,hyg⟩:∃x,ys[i]? = some x:=⟨_,List.getElem?_eq_getElem hlt⟩
  obtain ⟨az,cz,hsy⟩:=hf y (List.mem_of_getElem? hyg)
  obtain ⟨ky,vy,by_,sy_,lz⟩:=y
  simp only at hsy
  subst hsy
  obtain ⟨qy,sy,rfl,rfl,hqy⟩:∃b sp,ay=some ⟨b,0,none⟩∧ly=[(b,cb (ys.flatMap cH++sp) 28)]∧ys.length≤cy:=by
   rcases hv.2 with ⟨_,h9,_⟩ | ⟨b,c,sp,h9,h10,_,h11⟩
   ·omega
   ·simp only [Value.slice.injEq] at h9
    obtain ⟨h9,-,rfl⟩:=h9
    exact ⟨b,sp,h9,h10,h11⟩
  refine JC.skip ?_;refine JX.qd (hK3 _ _ ?_);refine JC.seq (fun K5 hK5=>?_);refine JC.block ?_;refine JC.seq (fun K6 hK6=>?_)
  by_cases hke:ky=key
  ·apply JC.zd (α:=Nat × Unit) 10 (fun x=>match x with | ⟨xu,uu⟩=>[.pointer (some ⟨vb,0,none⟩),.pointer (some ⟨vb,0,none⟩),.pointer (some ⟨vb,0+1,none⟩),(.slice (some ⟨qy,0,none⟩) ys.length cy),.int .i64 ((i:Nat):Int),.pointer (some ⟨qy,0+((i:Nat):Int).toNat*34,none⟩),.pointer (some ⟨qy,0+((i:Nat):Int).toNat*34+0,none⟩),.agg (cI ky).toArray,.agg (cI key).toArray,.bool true]) (fun m x=>match x with | ⟨xu,uu⟩=>fun w1=>(True)∧St w S0 ((b4,cb (cH zH) 28)::(b3,cb (cI key) 23)::(vb,cb [lv,(.slice (some ⟨qy,0,none⟩) ys.length cy),.int .i64 inc] 74)::([(qy,cb (ys.flatMap cH++sy) 28)]++l)) w1) Ty.mixed rfl rfl rfl (by kernel_rfl) rfl rfl ?hinit ?hstep ?htail
   case hinit=>exact fun w1 hw=>⟨(0,()),trivial,hw.drew⟩
   case hstep=>
    refine ⟨fun m x hm hp=>?_,fun m x hm hp=>?_,fun m x hm hp=>?_,fun m x hm hp=>?_,fun m x hm hp=>?_,fun m x hm hp=>?_,fun m x hm hp=>?_,fun m x hm hp=>?_,fun m x hm hp=>?_,fun m x hm hp=>?_,trivial⟩
    ·obtain ⟨xu,uu⟩:=x
     show J _ _ _ _ _ (_) _
     refine J.pr (fun hF=>?_);refine J.qe rfl rfl ?_
     exact J.ql rfl (fun _ hw=>⟨⟨xu,uu⟩,rfl,fun _ _ _=>rfl,hF,hw⟩)
    ·obtain ⟨xu,uu⟩:=x
     show J _ _ _ _ _ ((16,.pointer (some ⟨vb,0,none⟩))::_) _
     refine J.pr (fun hF=>?_);refine J.qq rfl rfl ?_
     exact J.ql rfl (fun _ hw=>⟨⟨xu,uu⟩,rfl,fun _ _ _=>rfl,hF,hw⟩)
    ·obtain ⟨xu,uu⟩:=x
     show J _ _ _ _ _ ((17,.pointer (some ⟨vb,0,none⟩))::_) _
     refine J.pr (fun hF=>?_);refine J.qi Ty.fd74_1 rfl rfl ?_
     exact J.ql rfl (fun _ hw=>⟨⟨xu,uu⟩,rfl,fun _ _ _=>rfl,hF,hw⟩)
    ·obtain ⟨xu,uu⟩:=x
     show J _ _ _ _ _ ((18,.pointer (some ⟨vb,0+1,none⟩))::_) _
     refine J.pr (fun hF=>?_);refine J.qw (v:=(.slice (some ⟨qy,0,none⟩) ys.length cy)) Ty.a44 rfl (fun w1 hw=>by rw [qB (hw.own ((vb,cb [lv,(.slice (some ⟨qy,0,none⟩) ys.length cy),.int .i64 inc] 74)) zm)];rfl) rfl ?_
     exact J.ql rfl (fun _ hw=>⟨⟨xu,uu⟩,rfl,fun _ _ _=>rfl,hF,hw⟩)
    ·obtain ⟨xu,uu⟩:=x
     show J _ _ _ _ _ (_) _
     refine J.pr (fun hF=>?_);refine J.qe rfl rfl ?_
     exact J.ql rfl (fun _ hw=>⟨⟨xu,uu⟩,rfl,fun _ _ _=>rfl,hF,hw⟩)
    ·obtain ⟨xu,uu⟩:=x
     show J _ _ _ _ _ ((20,.int .i64 ((i:Nat):Int))::(19,(.slice (some ⟨qy,0,none⟩) ys.length cy))::_) _
     refine J.pr (fun hF=>?_);refine J.qu Ty.el44 Ty.s28 rfl rfl (by omega) (by omega) rfl ?_
     exact J.ql rfl (fun _ hw=>⟨⟨xu,uu⟩,rfl,fun _ _ _=>rfl,hF,hw⟩)
    ·obtain ⟨xu,uu⟩:=x
     show J _ _ _ _ _ ((21,.pointer (some ⟨qy,0+((i:Nat):Int).toNat*34,none⟩))::_) _
     refine J.pr (fun hF=>?_);refine J.qi Ty.fd28_0 rfl rfl ?_
     exact J.ql rfl (fun _ hw=>⟨⟨xu,uu⟩,rfl,fun _ _ _=>rfl,hF,hw⟩)
    ·obtain ⟨xu,uu⟩:=x
     show J _ _ _ _ _ ((22,.pointer (some ⟨qy,0+((i:Nat):Int).toNat*34+0,none⟩))::_) _
     refine J.pr (fun hF=>?_);refine J.qC (vs:=cI ky) Ty.a23 Ty.s23 rfl rfl (fun w1 hw=>zg (r:=0) (qW hv hw zq) hyg rfl (by simp)) rfl ?_
     exact J.ql rfl (fun _ hw=>⟨⟨xu,uu⟩,rfl,fun _ _ _=>rfl,hF,hw⟩)
    ·obtain ⟨xu,uu⟩:=x
     show J _ _ _ _ _ (_) _
     refine J.pr (fun hF=>?_);refine J.qC (vs:=cI key) Ty.a23 Ty.s23 rfl rfl (fun w1 hw=>Cells.of_block (hw.own ((b3,cb (cI key) 23)) zm) rfl) rfl ?_
     exact J.ql rfl (fun _ hw=>⟨⟨xu,uu⟩,rfl,fun _ _ _=>rfl,hF,hw⟩)
    ·obtain ⟨xu,uu⟩:=x
     show J _ _ _ _ _ ((24,.agg (cI key).toArray)::(23,.agg (cI ky).toArray)::_) _
     refine J.pr (fun hF=>?_);refine J.eqI Ty.QI Ty.keyI rfl rfl rfl<|J.name 25 rfl (show _=Value.bool true by simp [hke]) ?_
     exact J.ql rfl (fun _ hw=>⟨⟨xu,uu⟩,rfl,fun _ _ _=>rfl,hF,hw⟩)
   case htail=>
    intro x
    obtain ⟨xu,uu⟩:=x
    show J _ _ _ _ _ ((25,.bool true)::(24,.agg (cI key).toArray)::(23,.agg (cI ky).toArray)::(22,.pointer (some ⟨qy,0+((i:Nat):Int).toNat*34+0,none⟩))::(21,.pointer (some ⟨qy,0+((i:Nat):Int).toNat*34,none⟩))::(20,.int .i64 ((i:Nat):Int))::(19,(.slice (some ⟨qy,0,none⟩) ys.length cy))::(18,.pointer (some ⟨vb,0+1,none⟩))::(17,.pointer (some ⟨vb,0,none⟩))::(16,.pointer (some ⟨vb,0,none⟩))::_) (fun w1=>(True)∧St w S0 ((b4,cb (cH zH) 28)::(b3,cb (cI key) 23)::(vb,cb [lv,(.slice (some ⟨qy,0,none⟩) ys.length cy),.int .i64 inc] 74)::([(qy,cb (ys.flatMap cH++sy) 28)]++l)) w1)
    refine J.pr (fun hF=>?_);refine J.nil ?_;refine JX.qd (hK6 _ _ ?_)
    first | refine JC.qP rfl ?_ | refine JC.qn rfl (fun _=>?_) (fun h=>by first | (exfalso;simp at h;omega) | (simp at h))
    refine JC.seq (fun K7 hK7=>?_);refine JC.region<|J.qe rfl rfl<|J.qq rfl rfl<|J.qi Ty.fd74_1 rfl rfl<|J.qw (v:=(.slice (some ⟨qy,0,none⟩) ys.length cy)) Ty.a44 rfl (fun w1 hw=>by rw [qB (hw.own ((vb,cb [lv,(.slice (some ⟨qy,0,none⟩) ys.length cy),.int .i64 inc] 74)) zm)];rfl) rfl ?_;refine J.qe rfl rfl<|J.qu Ty.el44 Ty.s28 rfl rfl (by omega) (by omega) rfl ?_;refine J.qC (vs:=(cT ky vy (.slice az by_.length cz))) Ty.a28 Ty.s28 rfl rfl (fun w1 hw=>rowG_at (c:=cH) (sz:=34) (fun _=>rfl) (qW hv hw zq) hyg (by simp)) rfl ?_;refine J.qN (cs:=cH zH) (vs:=(cT ky vy (.slice az by_.length cz))) Ty.s28 rfl rfl rfl rfl rfl zF .here<|J.assign rfl rfl<|J.nil ?_;refine JX.qd (hK7 _ _ ?_);refine JC.qA<|JX.qH<|JX.qt<|JX.qt<|JX.qH<|JX.qt ?_;refine JX.z7 (vs:=(cT ky vy (.slice az by_.length cz))) rfl rfl rfl Ty.a28 Ty.s28 rfl (fun w1 hw=>Cells.of_block (hw.own ((b4,cb (cT ky vy (.slice az by_.length cz)) 28)) zm) rfl) (fun w1 hw=>?_)
    exact ⟨by rw [hget_fst hyg hke hno];rfl,St.same hw0 (by rw [hS0];exact hw) (fun p hp=>List.mem_cons_of_mem _ (List.mem_cons_of_mem _ hp))⟩
  ·have hno2:∀z,z∈ys.take (i+1)→z.key≠key:=fun z hz=>by
    rw [List.take_add_one,hyg] at hz
    rcases List.mem_append.1 hz with hz | hz
    ·exact hno z hz
    ·rw [List.mem_singleton.1 hz];exact hke
   apply JC.zd (α:=Nat × Unit) 10 (fun x=>match x with | ⟨xu,uu⟩=>[.pointer (some ⟨vb,0,none⟩),.pointer (some ⟨vb,0,none⟩),.pointer (some ⟨vb,0+1,none⟩),(.slice (some ⟨qy,0,none⟩) ys.length cy),.int .i64 ((i:Nat):Int),.pointer (some ⟨qy,0+((i:Nat):Int).toNat*34,none⟩),.pointer (some ⟨qy,0+((i:Nat):Int).toNat*34+0,none⟩),.agg (cI ky).toArray,.agg (cI key).toArray,.bool false]) (fun m x=>match x with | ⟨xu,uu⟩=>fun w1=>(True)∧St w S0 ((b4,cb (cH zH) 28)::(b3,cb (cI key) 23)::(vb,cb [lv,(.slice (some ⟨qy,0,none⟩) ys.length cy),.int .i64 inc] 74)::([(qy,cb (ys.flatMap cH++sy) 28)]++l)) w1) Ty.mixed rfl rfl rfl (by kernel_rfl) rfl rfl ?hinit ?hstep ?htail
   case hinit=>exact fun w1 hw=>⟨(0,()),trivial,hw.drew⟩
   case hstep=>
    refine ⟨fun m x hm hp=>?_,fun m x hm hp=>?_,fun m x hm hp=>?_,fun m x hm hp=>?_,fun m x hm hp=>?_,fun m x hm hp=>?_,fun m x hm hp=>?_,fun m x hm hp=>?_,fun m x hm hp=>?_,fun m x hm hp=>?_,trivial⟩
    ·obtain ⟨xu,uu⟩:=x
     show J _ _ _ _ _ (_) _
     refine J.pr (fun hF=>?_);refine J.qe rfl rfl ?_
     exact J.ql rfl (fun _ hw=>⟨⟨xu,uu⟩,rfl,fun _ _ _=>rfl,hF,hw⟩)
    ·obtain ⟨xu,uu⟩:=x
     show J _ _ _ _ _ ((16,.pointer (some ⟨vb,0,none⟩))::_) _
     refine J.pr (fun hF=>?_);refine J.qq rfl rfl ?_
     exact J.ql rfl (fun _ hw=>⟨⟨xu,uu⟩,rfl,fun _ _ _=>rfl,hF,hw⟩)
    ·obtain ⟨xu,uu⟩:=x
     show J _ _ _ _ _ ((17,.pointer (some ⟨vb,0,none⟩))::_) _
     refine J.pr (fun hF=>?_);refine J.qi Ty.fd74_1 rfl rfl ?_
     exact J.ql rfl (fun _ hw=>⟨⟨xu,uu⟩,rfl,fun _ _ _=>rfl,hF,hw⟩)
    ·obtain ⟨xu,uu⟩:=x
     show J _ _ _ _ _ ((18,.pointer (some ⟨vb,0+1,none⟩))::_) _
     refine J.pr (fun hF=>?_);refine J.qw (v:=(.slice (some ⟨qy,0,none⟩) ys.length cy)) Ty.a44 rfl (fun w1 hw=>by rw [qB (hw.own ((vb,cb [lv,(.slice (some ⟨qy,0,none⟩) ys.length cy),.int .i64 inc] 74)) zm)];rfl) rfl ?_
     exact J.ql rfl (fun _ hw=>⟨⟨xu,uu⟩,rfl,fun _ _ _=>rfl,hF,hw⟩)
    ·obtain ⟨xu,uu⟩:=x
     show J _ _ _ _ _ (_) _
     refine J.pr (fun hF=>?_);refine J.qe rfl rfl ?_
     exact J.ql rfl (fun _ hw=>⟨⟨xu,uu⟩,rfl,fun _ _ _=>rfl,hF,hw⟩)
    ·obtain ⟨xu,uu⟩:=x
     show J _ _ _ _ _ ((20,.int .i64 ((i:Nat):Int))::(19,(.slice (some ⟨qy,0,none⟩) ys.length cy))::_) _
     refine J.pr (fun hF=>?_);refine J.qu Ty.el44 Ty.s28 rfl rfl (by omega) (by omega) rfl ?_
     exact J.ql rfl (fun _ hw=>⟨⟨xu,uu⟩,rfl,fun _ _ _=>rfl,hF,hw⟩)
    ·obtain ⟨xu,uu⟩:=x
     show J _ _ _ _ _ ((21,.pointer (some ⟨qy,0+((i:Nat):Int).toNat*34,none⟩))::_) _
     refine J.pr (fun hF=>?_);refine J.qi Ty.fd28_0 rfl rfl ?_
     exact J.ql rfl (fun _ hw=>⟨⟨xu,uu⟩,rfl,fun _ _ _=>rfl,hF,hw⟩)
    ·obtain ⟨xu,uu⟩:=x
     show J _ _ _ _ _ ((22,.pointer (some ⟨qy,0+((i:Nat):Int).toNat*34+0,none⟩))::_) _
     refine J.pr (fun hF=>?_);refine J.qC (vs:=cI ky) Ty.a23 Ty.s23 rfl rfl (fun w1 hw=>zg (r:=0) (qW hv hw zq) hyg rfl (by simp)) rfl ?_
     exact J.ql rfl (fun _ hw=>⟨⟨xu,uu⟩,rfl,fun _ _ _=>rfl,hF,hw⟩)
    ·obtain ⟨xu,uu⟩:=x
     show J _ _ _ _ _ (_) _
     refine J.pr (fun hF=>?_);refine J.qC (vs:=cI key) Ty.a23 Ty.s23 rfl rfl (fun w1 hw=>Cells.of_block (hw.own ((b3,cb (cI key) 23)) zm) rfl) rfl ?_
     exact J.ql rfl (fun _ hw=>⟨⟨xu,uu⟩,rfl,fun _ _ _=>rfl,hF,hw⟩)
    ·obtain ⟨xu,uu⟩:=x
     show J _ _ _ _ _ ((24,.agg (cI key).toArray)::(23,.agg (cI ky).toArray)::_) _
     refine J.pr (fun hF=>?_);refine J.eqI Ty.QI Ty.keyI rfl rfl rfl<|J.name 25 rfl (show _=Value.bool false by simp [hke]) ?_
     exact J.ql rfl (fun _ hw=>⟨⟨xu,uu⟩,rfl,fun _ _ _=>rfl,hF,hw⟩)
   case htail=>
    intro x
    obtain ⟨xu,uu⟩:=x
    show J _ _ _ _ _ ((25,.bool false)::(24,.agg (cI key).toArray)::(23,.agg (cI ky).toArray)::(22,.pointer (some ⟨qy,0+((i:Nat):Int).toNat*34+0,none⟩))::(21,.pointer (some ⟨qy,0+((i:Nat):Int).toNat*34,none⟩))::(20,.int .i64 ((i:Nat):Int))::(19,(.slice (some ⟨qy,0,none⟩) ys.length cy))::(18,.pointer (some ⟨vb,0+1,none⟩))::(17,.pointer (some ⟨vb,0,none⟩))::(16,.pointer (some ⟨vb,0,none⟩))::_) (fun w1=>(True)∧St w S0 ((b4,cb (cH zH) 28)::(b3,cb (cI key) 23)::(vb,cb [lv,(.slice (some ⟨qy,0,none⟩) ys.length cy),.int .i64 inc] 74)::([(qy,cb (ys.flatMap cH++sy) 28)]++l)) w1)
    refine J.pr (fun hF=>?_);refine J.nil ?_;refine JX.qd (hK6 _ _ ?_)
    first | refine JC.qI rfl ?_ | refine JC.qn rfl (fun h=>by first | (exfalso;simp at h;omega) | (simp at h)) (fun _=>?_)
    refine JC.skip<|JX.qJ ?_;refine JX.qd (hK5 _ _ ?_);refine JC.region<|J.qe rfl rfl ?_
    (first | refine J.qG rfl rfl (by omega) (by omega) rfl ?_ | refine J.qj rfl rfl rfl rfl ?_)
    refine J.assign rfl rfl<|J.nil<|JX.qd<|JX.qS (i+1) ?_ ?_ ?_
    ·omega
    ·exact ⟨rfl,rfl,rfl,rfl,trivial⟩
    ·exact fun w1 hw=>⟨⟨hlt,hno2⟩,hw⟩
 ·have hge:i=ys.length:=by simp at h0;omega
  rw [hge,List.take_of_length_le (Nat.le_refl _)] at hno
  refine JC.qX<|JX.qE<|JX.qE<|JX.qT ?_;refine JX.qd (hK1 _ _ ?_);refine JC.seq (fun K8 hK8=>?_);refine JC.region<|J.qY (cs:=cH zH) Ty.pl28 Ty.zIt rfl (by kernel_rfl) rfl ?_;refine J.qN (cs:=cH zH) (vs:=cH zH) Ty.s28 rfl rfl rfl rfl rfl (zi (x:=zH) rfl) .here<|J.assign rfl rfl<|J.nil ?_;refine JX.qd (hK8 _ _ ?_);refine JC.qA ?_;refine JX.z7 (vs:=cH zH) rfl rfl rfl Ty.a28 Ty.s28 rfl (fun w1 hw=>Cells.of_block (hw.own ((b4,cb (cH zH) 28)) zm) rfl) (fun w1 hw=>?_)
  exact ⟨by rw [hget_none.2 hno];rfl,St.same hw0 (by rw [hS0];exact hw) (fun p hp=>List.mem_cons_of_mem _ (List.mem_cons_of_mem _ hp))⟩
theorem lcopied_spec (xc:List Value) (key:IDV) (ver:WV) (bs:List UInt8) (sv:Value) (w:World) (hxc:xc=cT key ver sv) (hb:Row w sv bs.length (bs.map u8)) (hl:bs.length≤140737488351232) :
  Calls Try.prog 33 [.agg xc.toArray].toArray w fun r w'=>∃y:Value × List (Nat × Obj),r=.returned (.agg (cT key ver y.1).toArray)∧Vec 5 1 y.1 (bs).length ((bs).map u8) y.2∧St w [] y.2 w':=by
 obtain ⟨a,c,rfl,hc,_⟩:=id hb
 refine qD (args:=[.agg xc.toArray]) (e:=[(0,.agg xc.toArray)]) Try.func33 rfl rfl ⟨rfl,trivial⟩ (St.start w) ?_;refine JC.seq (fun K0 hK0=>?_);refine JC.region ?_
 subst hxc
 refine J.box rfl rfl rfl (fun b1=>?_);refine J.alloc Ty.zIt rfl rfl (fun b2=>?_);refine J.nil ?_;refine JX.qd (hK0 _ _ ?_);refine JC.seq (fun K1 hK1=>?_);refine JC.region ?_;refine J.za Ty.el26 Ty.s5 Ty.z5 rfl rfl rfl rfl rfl rfl rfl (fun b3=>?_);refine J.qi Ty.fd28_2 rfl rfl<|J.qw (v:=(.slice a bs.length c)) Ty.a26 rfl (fun w1 hw=>by rw [qB (hw.own ((b1,cb (cT key ver (.slice a bs.length c)) 28)) zm)];rfl) rfl ?_;refine J.qZ (lp:=[(b3,cb [] 5)]) (xs:=[]) (ys:=bs.map u8) (k:=0) (m:=bs.length) Ty.el26 Ty.s5 Ty.b5 Ty.z5 rfl (.inl ⟨5,Ty.u26⟩) rfl rfl ⟨rfl,.inr ⟨b3,0,[],rfl,rfl,rfl,Nat.le_refl _⟩⟩ (fun w1 hw=>.inl (hb.st (.inr (by simp)) hw)) (by simp) (zk _) (by omega) (by omega) rfl (fun v6 l6 hv6=>?_)
 rw [Nat.zero_add,List.nil_append] at hv6
 obtain ⟨a6,c6,rfl,hc6⟩:=hv6.form
 refine J.perm ((b1,cb (cT key ver (.slice a bs.length c)) 28)::(b2,cb (cH zH) 28)::l6) zp<|J.qi Ty.fd28_2 rfl rfl<|J.qU (cs:=(cT key ver (.slice a bs.length c))) (vs:=[.slice a6 bs.length c6]) (l':=(b1,cb (cT key ver (.slice a6 bs.length c6)) 28)::(b2,cb (cH zH) 28)::l6) Ty.s26 rfl rfl rfl rfl (fun v hv=>by rw [List.mem_singleton.1 hv];rfl) .here (by show _≤34;omega) ?_;refine J.nil ?_;refine JX.qd (hK1 _ _ ?_);refine JC.seq (fun K2 hK2=>?_);refine JC.region<|J.qC (vs:=(cT key ver (.slice a6 bs.length c6))) Ty.a28 Ty.s28 rfl rfl (fun w1 hw=>Cells.of_block (hw.own ((b1,cb (cT key ver (.slice a6 bs.length c6)) 28)) zm) rfl) rfl ?_;refine J.qN (cs:=cH zH) (vs:=(cT key ver (.slice a6 bs.length c6))) Ty.s28 rfl rfl rfl rfl rfl zF (.there .here)<|J.nil ?_;refine JX.qd (hK2 _ _ ?_);refine JC.qA ?_;refine JX.retC (vs:=(cT key ver (.slice a6 bs.length c6))) rfl rfl Ty.a28 Ty.s28 rfl (fun w1 hw=>Cells.of_block (hw.own ((b2,cb (cT key ver (.slice a6 bs.length c6)) 28)) zm) rfl) (fun w1 hw=>?_)
 exact ⟨(_,l6),rfl,hv6,hw.drop (.cons _ (.cons _ (List.Sublist.refl _)))⟩
inductive RPut where
 | bad (e:Int) (q:LogP) (dn:Bool) (σ:DS) (lp:List (Nat × Obj))
 | ok (h:HI) (yv:Value) (yl:List (Nat × Obj)) (q:LogP) (dn:Bool) (σ:DS) (lp:List (Nat × Obj))
def RPut.val:RPut→Value
 | .bad e _ _ _ _=>.tuple #[.agg (cH zH).toArray,.int .i64 e]
 | .ok h _ _ _ _ _ _=>.tuple #[.agg (cH h).toArray,.int .i64 0]
def RPut.lst (vb lb rd inc:Nat) (v yv:Value) (yl:List (Nat × Obj)):RPut→List (Nat × Obj)
 | .bad _ q dn σ lp=>rvB vb lb rd v q dn inc yv σ++(lp++yl)
 | .ok h yv' yl' q dn σ lp=>rvB vb lb rd v q dn inc yv' σ++(lp++(yl'++h.lp))
def RPut.Pr (n:Nat) (q:LogP) (down:Bool) (σ:DS) (v:Value) (ys:List HI) (key:IDV) (val:List UInt8) (who:IDV):RPut→Prop
 | .bad e q' dn σ' lp=>vputP n q down σ (ys.map HI.it) key val who=(e,none,q',dn,σ')∧e≠0∧Vec 5 1 v (64*n) (σ'.B.map u8) lp
 | .ok h yv' yl' q' dn σ' lp=>vputP n q down σ (ys.map HI.it) key val who=(0,some h.it,q',dn,σ')∧(okV h.ver.n∧Vec 5 1 h.sv h.bs.length (h.bs.map u8) h.lp)∧(∀y,y∈ys→y.key=h.key→newB h.ver y.ver=true)∧Vec 28 34 yv' (insH ys h).length ((insH ys h).flatMap cH) yl'∧Vec 5 1 v (64*n) (σ'.B.map u8) lp
inductive RMer where
 | no (e:Int) (q:LogP) (dn:Bool) (σ:DS) (lp:List (Nat × Obj))
 | yes (h:HI) (yv:Value) (yl:List (Nat × Obj)) (q:LogP) (dn:Bool) (σ:DS) (lp:List (Nat × Obj))
def RMer.val:RMer→Value
 | .no e _ _ _ _=>.tuple #[.bool false,.int .i64 e]
 | .yes _ _ _ _ _ _ _=>.tuple #[.bool true,.int .i64 0]
def RMer.lst (vb lb rd inc:Nat) (v yv:Value) (yl:List (Nat × Obj)):RMer→List (Nat × Obj)
 | .no _ q dn σ lp=>rvB vb lb rd v q dn inc yv σ++(lp++yl)
 | .yes h yv' yl' q dn σ lp=>rvB vb lb rd v q dn inc yv' σ++(lp++(yl'++h.lp))
def RMer.Pr (n:Nat) (q:LogP) (down:Bool) (σ:DS) (v:Value) (ys:List HI) (x:ItV):RMer→Prop
 | .no e q' dn σ' lp=>vmergeP n q down σ (ys.map HI.it) x=(false,e,q',dn,σ')∧Vec 5 1 v (64*n) (σ'.B.map u8) lp
 | .yes h yv' yl' q' dn σ' lp=>vmergeP n q down σ (ys.map HI.it) x=(true,0,q',dn,σ')∧h.it=x∧(okV h.ver.n∧Vec 5 1 h.sv h.bs.length (h.bs.map u8) h.lp)∧(∀y,y∈ys→y.key=h.key→newB h.ver y.ver=true)∧Vec 28 34 yv' (insH ys h).length ((insH ys h).flatMap cH) yl'∧Vec 5 1 v (64*n) (σ'.B.map u8) lp
set_option maxHeartbeats 2000000 in
theorem rput18_spec (vb lb rd n inc:Nat) (q:LogP) (down:Bool) (v:Value) (lp:List (Nat × Obj)) (B:List UInt8) (p k:Int) (ys:List HI) (yv:Value) (yl:List (Nat × Obj)) (hy:Vec 28 34 yv (ys).length ((ys).flatMap cH) yl) (hV:VOK ys) (hP:ys.Pairwise (fun a b=>valI a.key<valI b.key)) (hyl:ys.length≤10000) (hbv:Vec 5 1 v (64*n) (B.map u8) lp) (hI:LogI n q ⟨B,p,k⟩) (hn:n≤4096) (hk:0≤k) (hk2:k<4611686018427380000) (key who:IDV) (val:List UInt8) (vv:Value) (w:World) (hw0:Own w ((vb,cb [(.pointer (some ⟨lb,0,none⟩)),yv,.int .i64 ((inc:Nat):Int)] 74)::(lb,rlO rd q down)::(rd,rfO v p k)::(lp++yl))) (hrv:Row w vv val.length (val.map u8)) (hoff:Off (((vb,cb [(.pointer (some ⟨lb,0,none⟩)),yv,.int .i64 ((inc:Nat):Int)] 74)::(lb,rlO rd q down)::(rd,rfO v p k)::(lp++yl)).map (·.1)) vv (val.map u8)) (hlv:val.length≤140737488351232) :
  Calls Try.prog 34 [.pointer (some ⟨vb,0,none⟩),.agg (cI key).toArray,vv,.agg (cI who).toArray].toArray w fun r w'=>∃z:RPut,r=.returned z.val∧z.Pr n q down ⟨B,p,k⟩ v ys key val who∧St w (((vb,cb [(.pointer (some ⟨lb,0,none⟩)),yv,.int .i64 ((inc:Nat):Int)] 74)::(lb,rlO rd q down)::(rd,rfO v p k)::(lp++yl)).map (·.1)) (z.lst vb lb rd inc v yv yl) w':=by
 obtain ⟨a,c,rfl,hc,_⟩:=id hrv
 obtain ⟨hn3,hgl,hul,hcl_,hrl⟩:=yD hI.open_ hn
 obtain ⟨ay,cy,rfl,hcy⟩:=hy.form
 obtain ⟨S0,hS0⟩:∃l9,((vb,cb [(.pointer (some ⟨lb,0,none⟩)),(.slice ay ys.length cy),.int .i64 ((inc:Nat):Int)] 74)::(lb,rlO rd q down)::(rd,rfO v p k)::(lp++yl)).map (·.1)=l9:=⟨_,rfl⟩
 have hst0:=hw0.st
 rw [hS0] at hst0 hoff ⊢
 obtain ⟨O,hO⟩:∃o,(hget ys key).getD zH=o:=⟨_,rfl⟩
 obtain ⟨K,hK⟩:∃o,(hget ys key).isSome=o:=⟨_,rfl⟩
 obtain ⟨ao,co,hOs⟩:=hV.old key
 rw [hO] at hOs
 have hon:=hV.okn key
 rw [hO] at hon
 obtain ⟨hon1,hon2⟩:=hon
 refine qD (args:=[.pointer (some ⟨vb,0,none⟩),.agg (cI key).toArray,.slice a val.length c,.agg (cI who).toArray]) (e:=[(0,.pointer (some ⟨vb,0,none⟩)),(1,.agg (cI key).toArray),(2,.slice a val.length c),(3,.agg (cI who).toArray)]) Try.func34 rfl rfl ⟨rfl,rfl,rfl,rfl,trivial⟩ (hst0) ?_;refine JC.seq (fun K0 hK0=>?_);refine JC.region ?_;refine J.box rfl rfl rfl (fun b5=>?_);refine J.box rfl rfl rfl (fun b7=>?_);refine J.alloc Ty.zIt rfl rfl (fun b8=>?_);refine J.assign rfl rfl<|J.nil ?_;refine JX.qd (hK0 _ _ ?_);refine JC.seq (fun K1 hK1=>?_);refine JC.region<|J.qe rfl rfl<|J.qC (vs:=cI key) Ty.a23 Ty.s23 rfl rfl (fun w1 hw=>Cells.of_block (hw.own ((b5,cb (cI key) 23)) zm) rfl) rfl ?_
 refine J.qR (v:=.tuple #[.agg (cH O).toArray,.bool K]) (fun w1 w2 hw hb=>hw.step hb) Ty.bd37 rfl rfl (fun w1 hw=>by
  have h9:=rget18_spec vb (.pointer (some ⟨lb,0,none⟩)) ((inc:Nat):Int) ys _ yl ((b8,cb (cH zH) 28)::(b7,cb (cI who) 23)::(b5,cb (cI key) 23)::(lb,rlO rd q down)::(rd,rfO v p k)::lp) hy (fun y hy=>by obtain ⟨a,c,h1,_⟩:=(hV y hy).2.form;exact ⟨a,c,h1⟩) hyl key w1 (St.owns' (hw.perm (zp:List.Perm _ ((vb,cb [(.pointer (some ⟨lb,0,none⟩)),(.slice ay ys.length cy),.int .i64 ((inc:Nat):Int)] 74)::(yl++((b8,cb (cH zH) 28)::(b7,cb (cI who) 23)::(b5,cb (cI key) 23)::(lb,rlO rd q down)::(rd,rfO v p k)::lp))))))
  rw [hO,hK] at h9
  exact h9) ?_
 refine J.qe rfl rfl<|J.extract rfl rfl rfl<|J.extract rfl rfl rfl ?_;refine J.alloc Ty.zIt rfl rfl (fun zX=>?_);refine J.qN (cs:=cH zH) (vs:=cH O) Ty.s28 rfl rfl rfl rfl rfl (zi hOs) .here<|J.assign rfl rfl<|J.nil ?_;refine JX.qd (hK1 _ _ ?_);refine JC.seq (fun K2 hK2=>?_);refine JC.seq (fun K3 hK3=>?_);refine JC.region<|J.qe rfl rfl<|J.qK rfl Ty.u26 rfl rfl<|J.qj rfl rfl rfl rfl<|J.nil ?_;refine JX.qd (hK3 _ _ ?_);refine JC.qn rfl (fun h0=>?_) (fun h0=>?_)
 ·have hg:vputP n q down ⟨B,p,k⟩ (ys.map HI.it) key val who=(4,none,q,down,⟨B,p,k⟩):=by unfold vputP;rw [if_pos (by simp at h0;omega)]
  refine JC.seq (fun K4 hK4=>?_);refine JC.region<|J.qY (cs:=cH zH) Ty.pl28 Ty.zIt rfl (by kernel_rfl) rfl ?_;refine J.qN (cs:=cH zH) (vs:=cH zH) Ty.s28 rfl rfl rfl rfl rfl (zi (x:=zH) rfl) zu<|J.assign rfl rfl<|J.nil ?_;refine JX.qd (hK4 _ _ ?_);refine JC.qA<|JX.qt ?_;refine JX.z7 (vs:=cH zH) rfl rfl rfl Ty.a28 Ty.s28 rfl (fun w1 hw=>Cells.of_block (hw.own ((b8,cb (cH zH) 28)) zm) rfl) (fun w1 hw=>?_)
  exact ⟨.bad 4 q down ⟨B,p,k⟩ lp,rfl,⟨hg,by decide,hbv⟩,(hw.perm (zp:List.Perm _ ([(zX,cb (cH O) 28),(b8,cb (cH zH) 28),(b7,cb (cI who) 23),(b5,cb (cI key) 23)]++(rvB vb lb rd v q down inc (.slice ay ys.length cy) ⟨B,p,k⟩++(lp++yl))))).drop (List.sublist_append_right _ _)⟩
 ·have hv64:¬64<val.length:=by simp at h0;omega
  refine JC.skip ?_;refine JX.qd (hK2 _ _ ?_);refine JC.seq (fun K5 hK5=>?_);refine JC.seq (fun K6 hK6=>?_);refine JC.region<|J.qi Ty.fd28_1 rfl rfl<|J.qi Ty.fd25_0 rfl rfl<|J.qw (v:=.int .i64 O.ver.n) Ty.a2 rfl (fun w1 hw=>by rw [qB (hw.own ((zX,cb (cH O) 28)) zm)];rfl) rfl ?_;refine J.qj rfl rfl rfl rfl<|J.nil ?_;refine JX.qd (hK6 _ _ ?_);refine JC.qn rfl (fun h1=>?_) (fun h1=>?_)
  ·have hg:vputP n q down ⟨B,p,k⟩ (ys.map HI.it) key val who=(5,none,q,down,⟨B,p,k⟩):=by unfold vputP;rw [if_neg hv64,verN_it,hO,if_pos (by simpa using h1)]
   refine JC.seq (fun K7 hK7=>?_);refine JC.region<|J.qY (cs:=cH zH) Ty.pl28 Ty.zIt rfl (by kernel_rfl) rfl ?_;refine J.qN (cs:=cH zH) (vs:=cH zH) Ty.s28 rfl rfl rfl rfl rfl (zi (x:=zH) rfl) zu<|J.assign rfl rfl<|J.nil ?_;refine JX.qd (hK7 _ _ ?_);refine JC.qA<|JX.qt ?_;refine JX.z7 (vs:=cH zH) rfl rfl rfl Ty.a28 Ty.s28 rfl (fun w1 hw=>Cells.of_block (hw.own ((b8,cb (cH zH) 28)) zm) rfl) (fun w1 hw=>?_)
   exact ⟨.bad 5 q down ⟨B,p,k⟩ lp,rfl,⟨hg,by decide,hbv⟩,(hw.perm (zp:List.Perm _ ([(zX,cb (cH O) 28),(b8,cb (cH zH) 28),(b7,cb (cI who) 23),(b5,cb (cI key) 23)]++(rvB vb lb rd v q down inc (.slice ay ys.length cy) ⟨B,p,k⟩++(lp++yl))))).drop (List.sublist_append_right _ _)⟩
  ·have hne:¬O.ver.n=4611686018427387903:=by simpa using h1
   refine JC.skip ?_;refine JX.qd (hK5 _ _ ?_);refine JC.seq (fun K8 hK8=>?_)
   apply JC.zd (α:=Nat × Option Addr × Nat × List (Nat × Obj) × Nat) 12 (fun x=>match x with | ⟨x7,a9,c9,l9,x11⟩=>[.agg (cI key).toArray,.pointer (some ⟨zX,0+16,none⟩),.pointer (some ⟨zX,0+16+0,none⟩),.int .i64 O.ver.n,.int .i64 (O.ver.n+1),.agg (cI who).toArray,.agg (cV ⟨O.ver.n+1,who⟩).toArray,.slice (some ⟨x7,0,none⟩) 0 0,.slice a val.length c,.slice a9 val.length c9,.agg (cT key ⟨O.ver.n+1,who⟩ (.slice a9 val.length c9)).toArray,.pointer (some ⟨x11,0,none⟩)]) (fun m x=>match x with | ⟨x7,a9,c9,l9,x11⟩=>fun w1=>((m 9=true→m 7=true∧Vec 5 1 (.slice a9 val.length c9) val.length (val.map u8) l9)∧(m 10=true→m 9=true))∧St w S0 ((bif m 11 then [(x11,cb (cH zH) 28)] else [])++((bif m 9 then l9 else (bif m 7 then [(x7,cb [] 5)] else []))++((zX,cb (cH O) 28)::(b8,cb (cH zH) 28)::(b7,cb (cI who) 23)::(b5,cb (cI key) 23)::(vb,cb [(.pointer (some ⟨lb,0,none⟩)),(.slice ay ys.length cy),.int .i64 ((inc:Nat):Int)] 74)::(lb,rlO rd q down)::(rd,rfO v p k)::(lp++yl)))) w1) Ty.mixed rfl rfl rfl (by kernel_rfl) rfl rfl ?hinit ?hstep ?htail
   case hinit=>exact fun w1 hw=>⟨(0,none,0,[],0),⟨fun h=>(by cases h),fun h=>(by cases h)⟩,hw.drew⟩
   case hstep=>
    refine ⟨fun m x hm hp=>?_,fun m x hm hp=>?_,fun m x hm hp=>?_,fun m x hm hp=>?_,fun m x hm hp=>?_,fun m x hm hp=>?_,fun m x hm hp=>?_,fun m x hm hp=>?_,fun m x hm hp=>?_,fun m x hm hp=>?_,fun m x hm hp=>?_,fun m x hm hp=>?_,trivial⟩
    ·obtain ⟨x7,a9,c9,l9,x11⟩:=x
     show J _ _ _ _ _ (_) _
     refine J.pr (fun hF=>?_);refine J.qC (vs:=cI key) Ty.a23 Ty.s23 rfl rfl (fun w1 hw=>Cells.of_block (hw.own ((b5,cb (cI key) 23)) zm) rfl) rfl ?_
     exact J.ql rfl (fun _ hw=>⟨⟨x7,a9,c9,l9,x11⟩,rfl,fun _ _ _=>rfl,hF,hw⟩)
    ·obtain ⟨x7,a9,c9,l9,x11⟩:=x
     show J _ _ _ _ _ (_) _
     refine J.pr (fun hF=>?_);refine J.qi Ty.fd28_1 rfl rfl ?_
     exact J.ql rfl (fun _ hw=>⟨⟨x7,a9,c9,l9,x11⟩,rfl,fun _ _ _=>rfl,hF,hw⟩)
    ·obtain ⟨x7,a9,c9,l9,x11⟩:=x
     show J _ _ _ _ _ ((30,.pointer (some ⟨zX,0+16,none⟩))::_) _
     refine J.pr (fun hF=>?_);refine J.qi Ty.fd25_0 rfl rfl ?_
     exact J.ql rfl (fun _ hw=>⟨⟨x7,a9,c9,l9,x11⟩,rfl,fun _ _ _=>rfl,hF,hw⟩)
    ·obtain ⟨x7,a9,c9,l9,x11⟩:=x
     show J _ _ _ _ _ ((31,.pointer (some ⟨zX,0+16+0,none⟩))::_) _
     refine J.pr (fun hF=>?_);refine J.qw (v:=.int .i64 O.ver.n) Ty.a2 rfl (fun w1 hw=>by rw [qB (hw.own ((zX,cb (cH O) 28)) zm)];rfl) rfl ?_
     exact J.ql rfl (fun _ hw=>⟨⟨x7,a9,c9,l9,x11⟩,rfl,fun _ _ _=>rfl,hF,hw⟩)
    ·obtain ⟨x7,a9,c9,l9,x11⟩:=x
     show J _ _ _ _ _ ((32,.int .i64 O.ver.n)::_) _
     refine J.pr (fun hF=>?_);refine J.qG rfl rfl (by omega) (by omega) rfl ?_
     exact J.ql rfl (fun _ hw=>⟨⟨x7,a9,c9,l9,x11⟩,rfl,fun _ _ _=>rfl,hF,hw⟩)
    ·obtain ⟨x7,a9,c9,l9,x11⟩:=x
     show J _ _ _ _ _ (_) _
     refine J.pr (fun hF=>?_);refine J.qC (vs:=cI who) Ty.a23 Ty.s23 rfl rfl (fun w1 hw=>Cells.of_block (hw.own ((b7,cb (cI who) 23)) zm) rfl) rfl ?_
     exact J.ql rfl (fun _ hw=>⟨⟨x7,a9,c9,l9,x11⟩,rfl,fun _ _ _=>rfl,hF,hw⟩)
    ·obtain ⟨x7,a9,c9,l9,x11⟩:=x
     show J _ _ _ _ _ ((34,.agg (cI who).toArray)::(33,.int .i64 (O.ver.n+1))::_) _
     refine J.pr (fun hF=>?_);refine J.qY (cs:=cV ⟨O.ver.n+1,who⟩) Ty.pl25 Ty.zVr rfl (by kernel_rfl) rfl ?_
     exact J.ql rfl (fun _ hw=>⟨⟨x7,a9,c9,l9,x11⟩,rfl,fun _ _ _=>rfl,hF,hw⟩)
    ·obtain ⟨x7,a9,c9,l9,x11⟩:=x
     show J _ _ _ _ _ (_) _
     refine J.pr (fun hF=>?_)
     have h9:m 9=false:=by cases h:m 9 with
      | false=>rfl
      | true=>rw [(hF.1 h).1] at hm;cases hm
     refine J.za (cs:=[]) Ty.el26 Ty.s5 Ty.z5 rfl rfl rfl rfl rfl rfl rfl (fun b36=>?_)
     refine J.nil (JX.zR rfl (fun w1 hw=>⟨⟨⟨b36,a9,c9,l9,x11⟩,rfl,fun j h1 h2=>?_,?_⟩,trivial⟩))
     ·match j,h1 with
      | 0,_=>(first | rfl | trivial)
      | 1,_=>(first | rfl | trivial)
      | 2,_=>(first | rfl | trivial)
      | 3,_=>(first | rfl | trivial)
      | 4,_=>(first | rfl | trivial)
      | 5,_=>(first | rfl | trivial)
      | 6,_=>(first | rfl | trivial)
      | 7,_=>exact absurd (h2.symm.trans hm) (by decide)
      | 8,_=>(first | rfl | trivial)
      | 9,_=>(first | rfl | trivial)
      | 10,_=>(first | rfl | trivial)
      | 11,_=>(first | rfl | trivial)
      | j+12,h1=>omega
     show ((m 9=true→true=true∧Vec 5 1 (.slice a9 val.length c9) val.length (val.map u8) l9)∧(m 10=true→m 9=true))∧St w S0 ((bif m 11 then [(x11,cb (cH zH) 28)] else [])++((bif m 9 then l9 else (bif true then [(b36,cb [] 5)] else []))++((zX,cb (cH O) 28)::(b8,cb (cH zH) 28)::(b7,cb (cI who) 23)::(b5,cb (cI key) 23)::(vb,cb [(.pointer (some ⟨lb,0,none⟩)),(.slice ay ys.length cy),.int .i64 ((inc:Nat):Int)] 74)::(lb,rlO rd q down)::(rd,rfO v p k)::(lp++yl)))) w1
     simp only [hm,h9,cond_true,cond_false] at hw ⊢
     exact ⟨⟨fun h=>(by cases h),fun h=>(by have hq:=hF.2 h;rw [h9] at hq;cases hq)⟩,hw.perm zp⟩
    ·obtain ⟨x7,a9,c9,l9,x11⟩:=x
     show J _ _ _ _ _ (_) _
     refine J.pr (fun hF=>?_);refine J.qe rfl rfl ?_
     exact J.ql rfl (fun _ hw=>⟨⟨x7,a9,c9,l9,x11⟩,rfl,fun _ _ _=>rfl,hF,hw⟩)
    ·obtain ⟨x7,a9,c9,l9,x11⟩:=x
     show J _ _ _ _ _ ((37,.slice a val.length c)::(36,.slice (some ⟨x7,0,none⟩) 0 0)::_) _
     have hp7:m 7=true:=yV hp (by kernel_rfl)
     refine J.pr (fun hF=>?_)
     refine J.conseq (I':=St w S0 ([(x7,cb [] 5)]++((bif m 11 then [(x11,cb (cH zH) 28)] else [])++((zX,cb (cH O) 28)::(b8,cb (cH zH) 28)::(b7,cb (cI who) 23)::(b5,cb (cI key) 23)::(vb,cb [(.pointer (some ⟨lb,0,none⟩)),(.slice ay ys.length cy),.int .i64 ((inc:Nat):Int)] 74)::(lb,rlO rd q down)::(rd,rfO v p k)::(lp++yl))))) ?_ (fun w1 hw=>by simp only [hm,hp7,cond_true,cond_false] at hw;exact hw.perm zp)
     refine J.qZ (lp:=[(x7,cb [] 5)]) (xs:=[]) (ys:=val.map u8) (k:=0) (m:=val.length) Ty.el26 Ty.s5 Ty.b5 Ty.z5 rfl (.inl ⟨5,Ty.u26⟩) rfl rfl ⟨rfl,.inr ⟨x7,0,[],rfl,rfl,rfl,Nat.le_refl _⟩⟩ (fun w3 hw3=>.inl (hrv.st hoff hw3)) (by simp) (zk _) (by omega) (by omega) rfl (fun v9n l9n hv9n=>?_)
     rw [Nat.zero_add,List.nil_append] at hv9n
     obtain ⟨a9n,c9n,rfl,hc9n⟩:=hv9n.form
     refine J.nil (JX.zR rfl (fun w1 hw=>⟨⟨⟨x7,a9n,c9n,l9n,x11⟩,rfl,fun j h1 h2=>?_,?_⟩,trivial⟩))
     ·match j,h1 with
      | 0,_=>(first | rfl | trivial)
      | 1,_=>(first | rfl | trivial)
      | 2,_=>(first | rfl | trivial)
      | 3,_=>(first | rfl | trivial)
      | 4,_=>(first | rfl | trivial)
      | 5,_=>(first | rfl | trivial)
      | 6,_=>(first | rfl | trivial)
      | 7,_=>(first | rfl | trivial)
      | 8,_=>(first | rfl | trivial)
      | 9,_=>exact absurd (h2.symm.trans hm) (by decide)
      | 10,_=>exact absurd ((hF.2 h2).symm.trans hm) (by decide)
      | 11,_=>(first | rfl | trivial)
      | j+12,h1=>omega
     show ((true=true→m 7=true∧Vec 5 1 (.slice a9n val.length c9n) val.length (val.map u8) l9n)∧(m 10=true→true=true))∧St w S0 ((bif m 11 then [(x11,cb (cH zH) 28)] else [])++((bif true then l9n else (bif m 7 then [(x7,cb [] 5)] else []))++((zX,cb (cH O) 28)::(b8,cb (cH zH) 28)::(b7,cb (cI who) 23)::(b5,cb (cI key) 23)::(vb,cb [(.pointer (some ⟨lb,0,none⟩)),(.slice ay ys.length cy),.int .i64 ((inc:Nat):Int)] 74)::(lb,rlO rd q down)::(rd,rfO v p k)::(lp++yl)))) w1
     simp only [hm,cond_true,cond_false] at hw ⊢
     exact ⟨⟨fun _=>⟨hp7,hv9n⟩,fun _=>(by first | trivial | rfl)⟩,hw.perm zp⟩
    ·obtain ⟨x7,a9,c9,l9,x11⟩:=x
     show J _ _ _ _ _ ((38,.slice a9 val.length c9)::(35,.agg (cV ⟨O.ver.n+1,who⟩).toArray)::(29,.agg (cI key).toArray)::_) _
     have hp9:m 9=true:=yV hp (by kernel_rfl)
     refine J.pr (fun hF=>?_);refine J.qY (cs:=(cT key ⟨O.ver.n+1,who⟩ (.slice a9 val.length c9))) Ty.pl28 Ty.zIt rfl (by kernel_rfl) rfl ?_
     refine J.nil (JX.zR rfl (fun w1 hw=>⟨⟨⟨x7,a9,c9,l9,x11⟩,rfl,fun j h1 h2=>?_,?_⟩,trivial⟩))
     ·match j,h1 with
      | 0,_=>(first | rfl | trivial)
      | 1,_=>(first | rfl | trivial)
      | 2,_=>(first | rfl | trivial)
      | 3,_=>(first | rfl | trivial)
      | 4,_=>(first | rfl | trivial)
      | 5,_=>(first | rfl | trivial)
      | 6,_=>(first | rfl | trivial)
      | 7,_=>(first | rfl | trivial)
      | 8,_=>(first | rfl | trivial)
      | 9,_=>(first | rfl | trivial)
      | 10,_=>(first | rfl | trivial)
      | 11,_=>(first | rfl | trivial)
      | j+12,h1=>omega
     show ((m 9=true→m 7=true∧Vec 5 1 (.slice a9 val.length c9) val.length (val.map u8) l9)∧(true=true→m 9=true))∧St w S0 ((bif m 11 then [(x11,cb (cH zH) 28)] else [])++((bif m 9 then l9 else (bif m 7 then [(x7,cb [] 5)] else []))++((zX,cb (cH O) 28)::(b8,cb (cH zH) 28)::(b7,cb (cI who) 23)::(b5,cb (cI key) 23)::(vb,cb [(.pointer (some ⟨lb,0,none⟩)),(.slice ay ys.length cy),.int .i64 ((inc:Nat):Int)] 74)::(lb,rlO rd q down)::(rd,rfO v p k)::(lp++yl)))) w1
     exact ⟨⟨hF.1,fun _=>hp9⟩,hw⟩
    ·obtain ⟨x7,a9,c9,l9,x11⟩:=x
     show J _ _ _ _ _ (_) _
     refine J.pr (fun hF=>?_);refine J.alloc Ty.zIt rfl rfl (fun zb=>?_)
     refine J.nil (JX.zR rfl (fun w1 hw=>⟨⟨⟨x7,a9,c9,l9,zb⟩,rfl,fun j h1 h2=>?_,?_⟩,trivial⟩))
     ·match j,h1 with
      | 0,_=>(first | rfl | trivial)
      | 1,_=>(first | rfl | trivial)
      | 2,_=>(first | rfl | trivial)
      | 3,_=>(first | rfl | trivial)
      | 4,_=>(first | rfl | trivial)
      | 5,_=>(first | rfl | trivial)
      | 6,_=>(first | rfl | trivial)
      | 7,_=>(first | rfl | trivial)
      | 8,_=>(first | rfl | trivial)
      | 9,_=>(first | rfl | trivial)
      | 10,_=>(first | rfl | trivial)
      | 11,_=>exact absurd (h2.symm.trans hm) (by decide)
      | j+12,h1=>omega
     show ((m 9=true→m 7=true∧Vec 5 1 (.slice a9 val.length c9) val.length (val.map u8) l9)∧(m 10=true→m 9=true))∧St w S0 ((bif true then [(zb,cb (cH zH) 28)] else [])++((bif m 9 then l9 else (bif m 7 then [(x7,cb [] 5)] else []))++((zX,cb (cH O) 28)::(b8,cb (cH zH) 28)::(b7,cb (cI who) 23)::(b5,cb (cI key) 23)::(vb,cb [(.pointer (some ⟨lb,0,none⟩)),(.slice ay ys.length cy),.int .i64 ((inc:Nat):Int)] 74)::(lb,rlO rd q down)::(rd,rfO v p k)::(lp++yl)))) w1
     simp only [hm,cond_true,cond_false] at hw ⊢
     exact ⟨hF,hw.perm zp⟩
   case htail=>
    intro x
    obtain ⟨x7,a9,c9,l9,x11⟩:=x
    show J _ _ _ _ _ ((12,.pointer (some ⟨x11,0,none⟩))::(39,.agg (cT key ⟨O.ver.n+1,who⟩ (.slice a9 val.length c9)).toArray)::(38,.slice a9 val.length c9)::(37,.slice a val.length c)::(36,.slice (some ⟨x7,0,none⟩) 0 0)::(35,.agg (cV ⟨O.ver.n+1,who⟩).toArray)::(34,.agg (cI who).toArray)::(33,.int .i64 (O.ver.n+1))::(32,.int .i64 O.ver.n)::(31,.pointer (some ⟨zX,0+16+0,none⟩))::(30,.pointer (some ⟨zX,0+16,none⟩))::(29,.agg (cI key).toArray)::_) (fun w1=>((true=true→true=true∧Vec 5 1 (.slice a9 val.length c9) val.length (val.map u8) l9)∧(true=true→true=true))∧St w S0 ((bif true then [(x11,cb (cH zH) 28)] else [])++((bif true then l9 else (bif true then [(x7,cb [] 5)] else []))++((zX,cb (cH O) 28)::(b8,cb (cH zH) 28)::(b7,cb (cI who) 23)::(b5,cb (cI key) 23)::(vb,cb [(.pointer (some ⟨lb,0,none⟩)),(.slice ay ys.length cy),.int .i64 ((inc:Nat):Int)] 74)::(lb,rlO rd q down)::(rd,rfO v p k)::(lp++yl)))) w1)
    refine J.pr (fun hF=>?_)
    have hv9a:=(hF.1 rfl).2
    refine J.conseq (I':=St w S0 ((x11,cb (cH zH) 28)::(l9++((zX,cb (cH O) 28)::(b8,cb (cH zH) 28)::(b7,cb (cI who) 23)::(b5,cb (cI key) 23)::(vb,cb [(.pointer (some ⟨lb,0,none⟩)),(.slice ay ys.length cy),.int .i64 ((inc:Nat):Int)] 74)::(lb,rlO rd q down)::(rd,rfO v p k)::(lp++yl))))) ?_ (fun w1 hw=>by simp only [cond_true] at hw;exact hw.perm zp)
    refine J.qN (cs:=cH zH) (vs:=(cT key ⟨O.ver.n+1,who⟩ (.slice a9 val.length c9))) Ty.s28 rfl rfl rfl rfl rfl zF .here<|J.nil ?_;refine JX.qd (hK8 _ _ ?_);refine JC.seq (fun K9 hK9=>?_);refine JC.seq (fun K10 hK10=>?_)
    apply JC.zd (α:=Value × List (Nat × Obj)) 6 (fun x=>match x with | ⟨v46,l46⟩=>[.pointer (some ⟨vb,0,none⟩),.pointer (some ⟨vb,0,none⟩),.pointer (some ⟨vb,0+0,none⟩),.pointer (some ⟨lb,0,none⟩),.agg (cT key ⟨O.ver.n+1,who⟩ (.slice a9 val.length c9)).toArray,v46]) (fun m x=>match x with | ⟨v46,l46⟩=>fun w1=>((m 5=true→Vec 5 1 v46 (formB ⟨key,⟨O.ver.n+1,who⟩,val⟩).length ((formB ⟨key,⟨O.ver.n+1,who⟩,val⟩).map u8) l46))∧St w S0 ((bif m 5 then l46 else [])++((x11,cb (cT key ⟨O.ver.n+1,who⟩ (.slice a9 val.length c9)) 28)::(l9++((zX,cb (cH O) 28)::(b8,cb (cH zH) 28)::(b7,cb (cI who) 23)::(b5,cb (cI key) 23)::(vb,cb [(.pointer (some ⟨lb,0,none⟩)),(.slice ay ys.length cy),.int .i64 ((inc:Nat):Int)] 74)::(lb,rlO rd q down)::(rd,rfO v p k)::(lp++yl))))) w1) Ty.mixed rfl rfl rfl (by kernel_rfl) rfl rfl ?hinit ?hstep ?htail
    case hinit=>exact fun w1 hw=>⟨(.slice none 0 0,[]),fun h=>(by cases h),hw.drew⟩
    case hstep=>
     refine ⟨fun m x hm hp=>?_,fun m x hm hp=>?_,fun m x hm hp=>?_,fun m x hm hp=>?_,fun m x hm hp=>?_,fun m x hm hp=>?_,trivial⟩
     ·obtain ⟨v46,l46⟩:=x
      show J _ _ _ _ _ (_) _
      refine J.pr (fun hF=>?_);refine J.qe rfl rfl ?_
      exact J.ql rfl (fun _ hw=>⟨⟨v46,l46⟩,rfl,fun _ _ _=>rfl,hF,hw⟩)
     ·obtain ⟨v46,l46⟩:=x
      show J _ _ _ _ _ ((40,.pointer (some ⟨vb,0,none⟩))::_) _
      refine J.pr (fun hF=>?_);refine J.qq rfl rfl ?_
      exact J.ql rfl (fun _ hw=>⟨⟨v46,l46⟩,rfl,fun _ _ _=>rfl,hF,hw⟩)
     ·obtain ⟨v46,l46⟩:=x
      show J _ _ _ _ _ ((41,.pointer (some ⟨vb,0,none⟩))::_) _
      refine J.pr (fun hF=>?_);refine J.qi Ty.fd74_0 rfl rfl ?_
      exact J.ql rfl (fun _ hw=>⟨⟨v46,l46⟩,rfl,fun _ _ _=>rfl,hF,hw⟩)
     ·obtain ⟨v46,l46⟩:=x
      show J _ _ _ _ _ ((42,.pointer (some ⟨vb,0+0,none⟩))::_) _
      refine J.pr (fun hF=>?_);refine J.qw (v:=(.pointer (some ⟨lb,0,none⟩))) Ty.a60 rfl (fun w1 hw=>by rw [qB (hw.own ((vb,cb [(.pointer (some ⟨lb,0,none⟩)),(.slice ay ys.length cy),.int .i64 ((inc:Nat):Int)] 74)) zm)];rfl) rfl ?_
      exact J.ql rfl (fun _ hw=>⟨⟨v46,l46⟩,rfl,fun _ _ _=>rfl,hF,hw⟩)
     ·obtain ⟨v46,l46⟩:=x
      show J _ _ _ _ _ (_) _
      refine J.pr (fun hF=>?_);refine J.qC (vs:=cT key ⟨O.ver.n+1,who⟩ (.slice a9 val.length c9)) Ty.a28 Ty.s28 rfl rfl (fun w1 hw=>Cells.of_block (hw.own ((x11,cb (cT key ⟨O.ver.n+1,who⟩ (.slice a9 val.length c9)) 28)) zm) rfl) rfl ?_
      exact J.ql rfl (fun _ hw=>⟨⟨v46,l46⟩,rfl,fun _ _ _=>rfl,hF,hw⟩)
     ·obtain ⟨v46,l46⟩:=x
      show J _ _ _ _ _ ((44,.agg (cT key ⟨O.ver.n+1,who⟩ (.slice a9 val.length c9)).toArray)::_) _
      refine J.pr (fun hF=>?_)
      refine J.conseq (I':=St w S0 ((x11,cb (cT key ⟨O.ver.n+1,who⟩ (.slice a9 val.length c9)) 28)::(l9++((zX,cb (cH O) 28)::(b8,cb (cH zH) 28)::(b7,cb (cI who) 23)::(b5,cb (cI key) 23)::(vb,cb [(.pointer (some ⟨lb,0,none⟩)),(.slice ay ys.length cy),.int .i64 ((inc:Nat):Int)] 74)::(lb,rlO rd q down)::(rd,rfO v p k)::(lp++yl))))) ?_ (fun w1 hw=>by simp only [hm,cond_false,List.nil_append] at hw;exact hw)
      refine J.perm ([]++((x11,cb (cT key ⟨O.ver.n+1,who⟩ (.slice a9 val.length c9)) 28)::(l9++((zX,cb (cH O) 28)::(b8,cb (cH zH) 28)::(b7,cb (cI who) 23)::(b5,cb (cI key) 23)::(vb,cb [(.pointer (some ⟨lb,0,none⟩)),(.slice ay ys.length cy),.int .i64 ((inc:Nat):Int)] 74)::(lb,rlO rd q down)::(rd,rfO v p k)::(lp++yl))))) (.refl _) ?_;refine J.qO (α:=Value × List (Nat × Obj)) (V:=(·.1)) (Pr:=fun xo=>Vec 5 1 xo.1 (formB ⟨key,⟨O.ver.n+1,who⟩,val⟩).length ((formB ⟨key,⟨O.ver.n+1,who⟩,val⟩).map u8) xo.2) (L:=(·.2)) (l1:=[]) Ty.bd12 rfl rfl (fun w1 hw=>rform_spec (cT key ⟨O.ver.n+1,who⟩ (.slice a9 val.length c9)) key ⟨O.ver.n+1,who⟩ val _ w1 rfl (qW hv9a hw (fun q hq=>by simp [hq])) (by omega) (by simp only;omega) (by simp only;omega)) (fun xo hvn=>?_)
      obtain ⟨vn,ln⟩:=xo
      try simp only at hvn ⊢
      refine J.nil (JX.zR rfl (fun w1 hw=>⟨⟨⟨vn,ln⟩,rfl,fun j h1 h2=>?_,?_⟩,trivial⟩))
      ·match j,h1 with
       | 0,_=>(first | rfl | trivial)
       | 1,_=>(first | rfl | trivial)
       | 2,_=>(first | rfl | trivial)
       | 3,_=>(first | rfl | trivial)
       | 4,_=>(first | rfl | trivial)
       | 5,_=>exact absurd (h2.symm.trans hm) (by decide)
       | j+6,h1=>omega
      show ((true=true→Vec 5 1 vn (formB ⟨key,⟨O.ver.n+1,who⟩,val⟩).length ((formB ⟨key,⟨O.ver.n+1,who⟩,val⟩).map u8) ln))∧St w S0 ((bif true then ln else [])++((x11,cb (cT key ⟨O.ver.n+1,who⟩ (.slice a9 val.length c9)) 28)::(l9++((zX,cb (cH O) 28)::(b8,cb (cH zH) 28)::(b7,cb (cI who) 23)::(b5,cb (cI key) 23)::(vb,cb [(.pointer (some ⟨lb,0,none⟩)),(.slice ay ys.length cy),.int .i64 ((inc:Nat):Int)] 74)::(lb,rlO rd q down)::(rd,rfO v p k)::(lp++yl))))) w1
      simp only [cond_true] at hw ⊢
      exact ⟨fun _=>hvn,hw⟩
    case htail=>
     intro x
     obtain ⟨v46,l46⟩:=x
     show J _ _ _ _ _ ((45,v46)::(44,.agg (cT key ⟨O.ver.n+1,who⟩ (.slice a9 val.length c9)).toArray)::(43,.pointer (some ⟨lb,0,none⟩))::(42,.pointer (some ⟨vb,0+0,none⟩))::(41,.pointer (some ⟨vb,0,none⟩))::(40,.pointer (some ⟨vb,0,none⟩))::_) (fun w1=>((true=true→Vec 5 1 v46 (formB ⟨key,⟨O.ver.n+1,who⟩,val⟩).length ((formB ⟨key,⟨O.ver.n+1,who⟩,val⟩).map u8) l46))∧St w S0 ((bif true then l46 else [])++((x11,cb (cT key ⟨O.ver.n+1,who⟩ (.slice a9 val.length c9)) 28)::(l9++((zX,cb (cH O) 28)::(b8,cb (cH zH) 28)::(b7,cb (cI who) 23)::(b5,cb (cI key) 23)::(vb,cb [(.pointer (some ⟨lb,0,none⟩)),(.slice ay ys.length cy),.int .i64 ((inc:Nat):Int)] 74)::(lb,rlO rd q down)::(rd,rfO v p k)::(lp++yl))))) w1)
     refine J.pr (fun hF=>?_)
     have hv46:=hF rfl
     have hfl:=formB_le ⟨key,⟨O.ver.n+1,who⟩,val⟩
     try simp only at hfl
     obtain ⟨a46,c46,rfl,hc46⟩:=hv46.form
     refine J.conseq (I':=St w S0 (l46++((x11,cb (cT key ⟨O.ver.n+1,who⟩ (.slice a9 val.length c9)) 28)::(l9++((zX,cb (cH O) 28)::(b8,cb (cH zH) 28)::(b7,cb (cI who) 23)::(b5,cb (cI key) 23)::(vb,cb [(.pointer (some ⟨lb,0,none⟩)),(.slice ay ys.length cy),.int .i64 ((inc:Nat):Int)] 74)::(lb,rlO rd q down)::(rd,rfO v p k)::(lp++yl)))))) ?_ (fun w1 hw=>by simp only [cond_true] at hw;exact hw)
     obtain ⟨⟨e9,q9,dn9,σ9⟩,hx9⟩:∃x,appendP n q down ⟨B,p,k⟩ (formB ⟨key,⟨O.ver.n+1,who⟩,val⟩)=x:=⟨_,rfl⟩
     refine J.perm (((lb,rlO rd q down)::(rd,rfO v p k)::lp)++(l46++((x11,cb (cT key ⟨O.ver.n+1,who⟩ (.slice a9 val.length c9)) 28)::(zX,cb (cH O) 28)::(b8,cb (cH zH) 28)::(b7,cb (cI who) 23)::(b5,cb (cI key) 23)::(l9++((vb,cb [(.pointer (some ⟨lb,0,none⟩)),(.slice ay ys.length cy),.int .i64 ((inc:Nat):Int)] 74)::yl))))) zp ?_;refine J.qO (α:=List (Nat × Obj)) (V:=fun _=>.int .i64 e9) (Pr:=fun x=>Vec 5 1 v (64*n) (σ9.B.map u8) x) (L:=fun x=>(lb,rlO rd q9 dn9)::(rd,rfO v σ9.p σ9.k)::x) (l1:=(lb,rlO rd q down)::(rd,rfO v p k)::lp) Ty.bd28 rfl rfl (fun w1 hw=>rappend_all lb rd n q down _ lp B (formB ⟨key,⟨O.ver.n+1,who⟩,val⟩) p k a46 _ c46 w1 (St.owns hw) hbv hI.len hn hn3 hgl hul hcl_ hk hk2 hI.p rfl (by omega) (qW hv46 hw (fun q hq=>by simp [hq])) (zY hv46 (fun p0 hp0=>St.off (l1:=(lb,rlO rd q down)::(rd,rfO v p k)::lp) hw (o:=p0.2) (by simp [hp0]))) hx9) (fun lp9 hv9=>?_);refine J.perm ((x11,cb (cT key ⟨O.ver.n+1,who⟩ (.slice a9 val.length c9)) 28)::(zX,cb (cH O) 28)::(b8,cb (cH zH) 28)::(b7,cb (cI who) 23)::(b5,cb (cI key) 23)::(l46++(l9++((vb,cb [(.pointer (some ⟨lb,0,none⟩)),(.slice ay ys.length cy),.int .i64 ((inc:Nat):Int)] 74)::(lb,rlO rd q9 dn9)::(rd,rfO v σ9.p σ9.k)::(lp9++yl))))) zp<|J.assign rfl rfl<|J.nil ?_;refine JX.qd (hK10 _ _ ?_);refine JC.seq (fun K11 hK11=>?_);refine JC.region<|J.qe rfl rfl<|J.qj rfl rfl rfl rfl<|J.nil ?_;refine JX.qd (hK11 _ _ ?_);refine JC.qn rfl (fun h2=>?_) (fun h2=>?_)
     ·have he9:e9≠0:=by simpa using h2
      have hg:vputP n q down ⟨B,p,k⟩ (ys.map HI.it) key val who=(e9,none,q9,dn9,σ9):=by unfold vputP;rw [if_neg hv64,verN_it,hO,if_neg hne,hx9];simp only;rw [if_neg he9]
      refine JC.seq (fun K12 hK12=>?_);refine JC.region<|J.qY (cs:=cH zH) Ty.pl28 Ty.zIt rfl (by kernel_rfl) rfl ?_;refine J.qe rfl rfl<|J.qN (cs:=cH zH) (vs:=cH zH) Ty.s28 rfl rfl rfl rfl rfl (zi (x:=zH) rfl) zu<|J.assign rfl rfl<|J.nil ?_;refine JX.qd (hK12 _ _ ?_);refine JC.qA<|JX.qt ?_;refine JX.z7 (vs:=cH zH) rfl rfl rfl Ty.a28 Ty.s28 rfl (fun w1 hw=>Cells.of_block (hw.own ((b8,cb (cH zH) 28)) zm) rfl) (fun w1 hw=>?_)
      exact ⟨.bad e9 q9 dn9 σ9 lp9,rfl,⟨hg,he9,hv9⟩,(hw.perm (zp:List.Perm _ (((x11,cb (cT key ⟨O.ver.n+1,who⟩ (.slice a9 val.length c9)) 28)::(zX,cb (cH O) 28)::(b8,cb (cH zH) 28)::(b7,cb (cI who) 23)::(b5,cb (cI key) 23)::(l46++l9))++(rvB vb lb rd v q9 dn9 inc (.slice ay ys.length cy) σ9++(lp9++yl))))).drop (List.sublist_append_right _ _)⟩
     ·have he9:e9=0:=by simpa using h2
      have hg:vputP n q down ⟨B,p,k⟩ (ys.map HI.it) key val who=(0,some ⟨key,⟨O.ver.n+1,who⟩,val⟩,q9,dn9,σ9):=by unfold vputP;rw [if_neg hv64,verN_it,hO,if_neg hne,hx9];simp only;rw [if_pos he9]
      refine JC.skip ?_;refine JX.qd (hK9 _ _ ?_);refine JC.seq (fun K13 hK13=>?_);refine JC.region<|J.qe rfl rfl<|J.qC (vs:=cT key ⟨O.ver.n+1,who⟩ (.slice a9 val.length c9)) Ty.a28 Ty.s28 rfl rfl (fun w1 hw=>Cells.of_block (hw.own ((x11,cb (cT key ⟨O.ver.n+1,who⟩ (.slice a9 val.length c9)) 28)) zm) rfl) rfl ?_;refine J.perm (((vb,cb [(.pointer (some ⟨lb,0,none⟩)),(.slice ay ys.length cy),.int .i64 ((inc:Nat):Int)] 74)::yl)++((x11,cb (cT key ⟨O.ver.n+1,who⟩ (.slice a9 val.length c9)) 28)::(zX,cb (cH O) 28)::(b8,cb (cH zH) 28)::(b7,cb (cI who) 23)::(b5,cb (cI key) 23)::(l46++(l9++((lb,rlO rd q9 dn9)::(rd,rfO v σ9.p σ9.k)::lp9))))) zp ?_
      refine J.qO (α:=Value × List (Nat × Obj)) (V:=fun _=>.bool true) (Pr:=fun x=>(∀y,y∈ys→y.key=key→newB ⟨O.ver.n+1,who⟩ y.ver=true)∧Vec 28 34 x.1 (insH ys (⟨key,⟨O.ver.n+1,who⟩,val,.slice a9 val.length c9,l9⟩:HI)).length ((insH ys (⟨key,⟨O.ver.n+1,who⟩,val,.slice a9 val.length c9,l9⟩:HI)).flatMap cH) x.2) (L:=fun x=>(vb,cb [(.pointer (some ⟨lb,0,none⟩)),x.1,.int .i64 ((inc:Nat):Int)] 74)::x.2) Ty.bd58 rfl rfl (fun w1 hw=>(rtake_spec vb (.pointer (some ⟨lb,0,none⟩)) ((inc:Nat):Int) ys _ yl hy (fun y hy=>by obtain ⟨a,c,h1,_⟩:=(hV y hy).2.form;exact ⟨a,c,h1⟩) hyl _ key ⟨O.ver.n+1,who⟩ val a9 val.length c9 l9 w1 rfl (St.owns hw)).mono fun _ _ h=>by
       rcases h with ⟨h1,⟨y9,h2,h3,h4⟩,_⟩ | ⟨h1,h2,v7,l7,h3,h4⟩
       ·exact absurd (show newB ⟨O.ver.n+1,who⟩ y9.ver=true from by
         have h5:=hget_uniq hP h2 h3
         rw [h5] at hO
         rw [show O=y9 from hO.symm]
         show newB ⟨y9.ver.n+1,who⟩ y9.ver=true
         unfold newB
         rw [decide_eq_true (show y9.ver.n<y9.ver.n+1 by omega)];rfl) (by rw [h4];decide)
       ·exact ⟨(v7,l7),h1,⟨h2,h3⟩,h4⟩) (fun x hx=>?_)
      obtain ⟨v7,l7⟩:=x
      obtain ⟨hnw,hy7⟩:=hx
      try simp only at hnw hy7 ⊢
      refine J.perm ((x11,cb (cT key ⟨O.ver.n+1,who⟩ (.slice a9 val.length c9)) 28)::(zX,cb (cH O) 28)::(b8,cb (cH zH) 28)::(b7,cb (cI who) 23)::(b5,cb (cI key) 23)::(l46++(rvB vb lb rd v q9 dn9 inc v7 σ9++(lp9++(l7++l9))))) zp<|J.nil ?_;refine JX.qd (hK13 _ _ ?_);refine JC.seq (fun K14 hK14=>?_);refine JC.region<|J.qC (vs:=cT key ⟨O.ver.n+1,who⟩ (.slice a9 val.length c9)) Ty.a28 Ty.s28 rfl rfl (fun w1 hw=>Cells.of_block (hw.own ((x11,cb (cT key ⟨O.ver.n+1,who⟩ (.slice a9 val.length c9)) 28)) zm) rfl) rfl ?_;refine J.qN (cs:=cH zH) (vs:=(cT key ⟨O.ver.n+1,who⟩ (.slice a9 val.length c9))) Ty.s28 rfl rfl rfl rfl rfl zF zu<|J.assign rfl rfl<|J.nil ?_;refine JX.qd (hK14 _ _ ?_);refine JC.qA ?_;refine JX.z7 (vs:=(cT key ⟨O.ver.n+1,who⟩ (.slice a9 val.length c9))) rfl rfl rfl Ty.a28 Ty.s28 rfl (fun w1 hw=>Cells.of_block (hw.own ((b8,cb (cT key ⟨O.ver.n+1,who⟩ (.slice a9 val.length c9)) 28)) zm) rfl) (fun w1 hw=>?_)
      exact ⟨.ok (⟨key,⟨O.ver.n+1,who⟩,val,.slice a9 val.length c9,l9⟩:HI) v7 l7 q9 dn9 σ9 lp9,rfl,⟨hg,⟨⟨by simp only;omega,by simp only;omega⟩,hv9a⟩,hnw,hy7,hv9⟩,(hw.perm (zp:List.Perm _ (((x11,cb (cT key ⟨O.ver.n+1,who⟩ (.slice a9 val.length c9)) 28)::(zX,cb (cH O) 28)::(b8,cb (cT key ⟨O.ver.n+1,who⟩ (.slice a9 val.length c9)) 28)::(b7,cb (cI who) 23)::(b5,cb (cI key) 23)::l46)++(rvB vb lb rd v q9 dn9 inc v7 σ9++(lp9++(l7++l9)))))).drop (List.sublist_append_right _ _)⟩
set_option maxHeartbeats 2000000 in
theorem rmerge18_spec (vb lb rd n inc:Nat) (q:LogP) (down:Bool) (v:Value) (lp:List (Nat × Obj)) (B:List UInt8) (p k:Int) (ys:List HI) (yv:Value) (yl:List (Nat × Obj)) (hy:Vec 28 34 yv (ys).length ((ys).flatMap cH) yl) (hV:VOK ys) (hP:ys.Pairwise (fun a b=>valI a.key<valI b.key)) (hyl:ys.length≤10000) (hbv:Vec 5 1 v (64*n) (B.map u8) lp) (hI:LogI n q ⟨B,p,k⟩) (hn:n≤4096) (hk:0≤k) (hk2:k<4611686018427380000) (xc:List Value) (key:IDV) (ver:WV) (bs:List UInt8) (sv:Value) (w:World) (hxc:xc=cT key ver sv) (hw0:Own w ((vb,cb [(.pointer (some ⟨lb,0,none⟩)),yv,.int .i64 ((inc:Nat):Int)] 74)::(lb,rlO rd q down)::(rd,rfO v p k)::(lp++yl))) (hb:Row w sv bs.length (bs.map u8)) (hoff:Off (((vb,cb [(.pointer (some ⟨lb,0,none⟩)),yv,.int .i64 ((inc:Nat):Int)] 74)::(lb,rlO rd q down)::(rd,rfO v p k)::(lp++yl)).map (·.1)) sv (bs.map u8)) (hlv:bs.length≤140737488351232) :
  Calls Try.prog 36 [.pointer (some ⟨vb,0,none⟩),.agg xc.toArray].toArray w fun r w'=>∃z:RMer,r=.returned z.val∧z.Pr n q down ⟨B,p,k⟩ v ys ⟨key,ver,bs⟩∧St w (((vb,cb [(.pointer (some ⟨lb,0,none⟩)),yv,.int .i64 ((inc:Nat):Int)] 74)::(lb,rlO rd q down)::(rd,rfO v p k)::(lp++yl)).map (·.1)) (z.lst vb lb rd inc v yv yl) w':=by
 obtain ⟨a,c,rfl,hc,_⟩:=id hb
 obtain ⟨hn3,hgl,hul,hcl_,hrl⟩:=yD hI.open_ hn
 obtain ⟨ay,cy,rfl,hcy⟩:=hy.form
 obtain ⟨S0,hS0⟩:∃l9,((vb,cb [(.pointer (some ⟨lb,0,none⟩)),(.slice ay ys.length cy),.int .i64 ((inc:Nat):Int)] 74)::(lb,rlO rd q down)::(rd,rfO v p k)::(lp++yl)).map (·.1)=l9:=⟨_,rfl⟩
 have hst0:=hw0.st
 rw [hS0] at hst0 hoff ⊢
 obtain ⟨O,hO⟩:∃o,(hget ys key).getD zH=o:=⟨_,rfl⟩
 obtain ⟨K,hK⟩:∃o,(hget ys key).isSome=o:=⟨_,rfl⟩
 obtain ⟨ao,co,hOs⟩:=hV.old key
 rw [hO] at hOs
 have hon:=hV.okn key
 rw [hO] at hon
 obtain ⟨hon1,hon2⟩:=hon
 refine qD (args:=[.pointer (some ⟨vb,0,none⟩),.agg xc.toArray]) (e:=[(0,.pointer (some ⟨vb,0,none⟩)),(1,.agg xc.toArray)]) Try.func36 rfl rfl ⟨rfl,rfl,trivial⟩ (hst0) ?_;refine JC.seq (fun K0 hK0=>?_);refine JC.region ?_;refine J.box rfl rfl rfl (fun b3=>?_);refine J.assign rfl rfl<|J.assign rfl rfl<|J.nil ?_;refine JX.qd (hK0 _ _ ?_);refine JC.seq (fun K1 hK1=>?_);refine JC.seq (fun K2 hK2=>?_)
 subst hxc
 by_cases xa:ver.n<1
 ·have hg:vmergeP n q down ⟨B,p,k⟩ (ys.map HI.it) ⟨key,ver,bs⟩=(false,1,q,down,⟨B,p,k⟩):=by unfold vmergeP;rw [if_pos (.inl xa)]
  refine JC.region<|J.qi Ty.fd28_1 rfl rfl<|J.qi Ty.fd25_0 rfl rfl<|J.qw (v:=.int .i64 ver.n) Ty.a2 rfl (fun w1 hw=>by rw [qB (hw.own ((b3,cb (cT key ver (.slice a bs.length c)) 28)) zm)];rfl) rfl ?_;refine J.qj rfl rfl rfl rfl<|J.name 12 rfl (show _=Value.bool true by simp;omega) ?_;refine J.qe rfl rfl ?_
  first | refine J.skip rfl rfl rfl rfl rfl ?_ | refine J.qh rfl rfl rfl rfl ?_ | (refine J.qf rfl rfl rfl ?_;refine J.qi Ty.fd28_1 rfl rfl ?_)
  first | refine J.skip rfl rfl rfl rfl rfl ?_ | refine J.qh rfl rfl rfl rfl ?_ | (refine J.qf rfl rfl rfl ?_;refine J.qi Ty.fd25_0 rfl rfl ?_)
  first | refine J.skip rfl rfl rfl rfl rfl ?_ | refine J.qh rfl rfl rfl rfl ?_ | (refine J.qf rfl rfl rfl ?_;refine J.qQ Ty.a2 rfl zm (by exact rfl) rfl ?_)
  first | refine J.skip rfl rfl rfl rfl rfl ?_ | refine J.qh rfl rfl rfl rfl ?_ | (refine J.qf rfl rfl rfl ?_;refine J.qj rfl rfl rfl rfl ?_)
  (first | refine J.qr rfl rfl rfl ?_ | refine J.qs rfl rfl rfl ?_)
  refine J.nil ?_;refine JX.qd (hK2 _ _ ?_)
  first | refine JC.qP rfl ?_ | refine JC.qn rfl (fun _=>?_) (fun h=>by first | (exfalso;simp at h;omega) | (simp at h))
  refine JC.seq (fun K3 hK3=>?_);refine JC.region<|J.assign rfl rfl<|J.assign rfl rfl<|J.nil ?_;refine JX.qd (hK3 _ _ ?_);refine JC.qA<|JX.qt ?_;refine JX.zr rfl rfl rfl (fun w1 hw=>?_)
  exact ⟨.no 1 q down ⟨B,p,k⟩ lp,rfl,⟨hg,hbv⟩,(hw.perm (zp:List.Perm _ ([(b3,cb (cT key ver (.slice a bs.length c)) 28)]++(rvB vb lb rd v q down inc (.slice ay ys.length cy) ⟨B,p,k⟩++(lp++yl))))).drop (List.sublist_append_right _ _)⟩
 ·by_cases xb:4611686018427387904≤ver.n
  ·have hg:vmergeP n q down ⟨B,p,k⟩ (ys.map HI.it) ⟨key,ver,bs⟩=(false,1,q,down,⟨B,p,k⟩):=by unfold vmergeP;rw [if_pos (.inr xb)]
   refine JC.region<|J.qi Ty.fd28_1 rfl rfl<|J.qi Ty.fd25_0 rfl rfl<|J.qw (v:=.int .i64 ver.n) Ty.a2 rfl (fun w1 hw=>by rw [qB (hw.own ((b3,cb (cT key ver (.slice a bs.length c)) 28)) zm)];rfl) rfl ?_;refine J.qj rfl rfl rfl rfl<|J.name 12 rfl (show _=Value.bool false by simp;omega) ?_;refine J.qe rfl rfl ?_
   first | refine J.skip rfl rfl rfl rfl rfl ?_ | refine J.qh rfl rfl rfl rfl ?_ | (refine J.qf rfl rfl rfl ?_;refine J.qi Ty.fd28_1 rfl rfl ?_)
   first | refine J.skip rfl rfl rfl rfl rfl ?_ | refine J.qh rfl rfl rfl rfl ?_ | (refine J.qf rfl rfl rfl ?_;refine J.qi Ty.fd25_0 rfl rfl ?_)
   refine J.qf rfl rfl rfl<|J.qw (v:=.int .i64 ver.n) Ty.a2 rfl (fun w1 hw=>by rw [qB (hw.own ((b3,cb (cT key ver (.slice a bs.length c)) 28)) zm)];rfl) rfl ?_;refine J.qf rfl rfl rfl<|J.qj rfl rfl rfl rfl<|J.name 17 rfl (show _=Value.bool true by simp;omega) ?_
   (first | refine J.qr rfl rfl rfl ?_ | refine J.qs rfl rfl rfl ?_)
   refine J.nil ?_;refine JX.qd (hK2 _ _ ?_)
   first | refine JC.qP rfl ?_ | refine JC.qn rfl (fun _=>?_) (fun h=>by first | (exfalso;simp at h;omega) | (simp at h))
   refine JC.seq (fun K4 hK4=>?_);refine JC.region<|J.assign rfl rfl<|J.assign rfl rfl<|J.nil ?_;refine JX.qd (hK4 _ _ ?_);refine JC.qA<|JX.qt ?_;refine JX.zr rfl rfl rfl (fun w1 hw=>?_)
   exact ⟨.no 1 q down ⟨B,p,k⟩ lp,rfl,⟨hg,hbv⟩,(hw.perm (zp:List.Perm _ ([(b3,cb (cT key ver (.slice a bs.length c)) 28)]++(rvB vb lb rd v q down inc (.slice ay ys.length cy) ⟨B,p,k⟩++(lp++yl))))).drop (List.sublist_append_right _ _)⟩
  ·have hor:¬(ver.n<1∨4611686018427387904≤ver.n):=by omega
   refine JC.region<|J.qi Ty.fd28_1 rfl rfl<|J.qi Ty.fd25_0 rfl rfl<|J.qw (v:=.int .i64 ver.n) Ty.a2 rfl (fun w1 hw=>by rw [qB (hw.own ((b3,cb (cT key ver (.slice a bs.length c)) 28)) zm)];rfl) rfl ?_;refine J.qj rfl rfl rfl rfl<|J.name 12 rfl (show _=Value.bool false by simp;omega) ?_;refine J.qe rfl rfl ?_
   first | refine J.skip rfl rfl rfl rfl rfl ?_ | refine J.qh rfl rfl rfl rfl ?_ | (refine J.qf rfl rfl rfl ?_;refine J.qi Ty.fd28_1 rfl rfl ?_)
   first | refine J.skip rfl rfl rfl rfl rfl ?_ | refine J.qh rfl rfl rfl rfl ?_ | (refine J.qf rfl rfl rfl ?_;refine J.qi Ty.fd25_0 rfl rfl ?_)
   refine J.qf rfl rfl rfl<|J.qw (v:=.int .i64 ver.n) Ty.a2 rfl (fun w1 hw=>by rw [qB (hw.own ((b3,cb (cT key ver (.slice a bs.length c)) 28)) zm)];rfl) rfl ?_;refine J.qf rfl rfl rfl<|J.qj rfl rfl rfl rfl<|J.name 17 rfl (show _=Value.bool false by simp;omega) ?_
   (first | refine J.qr rfl rfl rfl ?_ | refine J.qs rfl rfl rfl ?_)
   refine J.nil ?_;refine JX.qd (hK2 _ _ ?_)
   first | refine JC.qI rfl ?_ | refine JC.qn rfl (fun h=>by first | (exfalso;simp at h;omega) | (simp at h)) (fun _=>?_)
   refine JC.skip ?_;refine JX.qd (hK1 _ _ ?_);refine JC.seq (fun K5 hK5=>?_);refine JC.seq (fun K6 hK6=>?_);refine JC.region<|J.qi Ty.fd28_2 rfl rfl<|J.qw (v:=(.slice a bs.length c)) Ty.a26 rfl (fun w1 hw=>by rw [qB (hw.own ((b3,cb (cT key ver (.slice a bs.length c)) 28)) zm)];rfl) rfl ?_;refine J.qK rfl Ty.u26 rfl rfl<|J.qj rfl rfl rfl rfl<|J.nil ?_;refine JX.qd (hK6 _ _ ?_);refine JC.qn rfl (fun h1=>?_) (fun h1=>?_)
   ·have hg:vmergeP n q down ⟨B,p,k⟩ (ys.map HI.it) ⟨key,ver,bs⟩=(false,4,q,down,⟨B,p,k⟩):=by unfold vmergeP;rw [if_neg hor,if_pos (show 64<bs.length by simp at h1;omega)]
    refine JC.seq (fun K7 hK7=>?_);refine JC.region<|J.assign rfl rfl<|J.assign rfl rfl<|J.nil ?_;refine JX.qd (hK7 _ _ ?_);refine JC.qA<|JX.qt ?_;refine JX.zr rfl rfl rfl (fun w1 hw=>?_)
    exact ⟨.no 4 q down ⟨B,p,k⟩ lp,rfl,⟨hg,hbv⟩,(hw.perm (zp:List.Perm _ ([(b3,cb (cT key ver (.slice a bs.length c)) 28)]++(rvB vb lb rd v q down inc (.slice ay ys.length cy) ⟨B,p,k⟩++(lp++yl))))).drop (List.sublist_append_right _ _)⟩
   ·have hb64:¬64<bs.length:=by simp at h1;omega
    refine JC.skip ?_;refine JX.qd (hK5 _ _ ?_);refine JC.seq (fun K8 hK8=>?_);refine JC.region<|J.qe rfl rfl<|J.qi Ty.fd28_0 rfl rfl<|J.qC (vs:=cI key) Ty.a23 Ty.s23 rfl rfl (fun w1 hw=>Cells.of_block (hw.own ((b3,cb (cT key ver (.slice a bs.length c)) 28)) zm) rfl) rfl ?_
    refine J.qR (v:=.tuple #[.agg (cH O).toArray,.bool K]) (fun w1 w2 hw hb=>hw.step hb) Ty.bd37 rfl rfl (fun w1 hw=>by
     have h9:=rget18_spec vb (.pointer (some ⟨lb,0,none⟩)) ((inc:Nat):Int) ys _ yl ((b3,cb (cT key ver (.slice a bs.length c)) 28)::(lb,rlO rd q down)::(rd,rfO v p k)::lp) hy (fun y hy=>by obtain ⟨a,c,h1,_⟩:=(hV y hy).2.form;exact ⟨a,c,h1⟩) hyl key w1 (St.owns' (hw.perm (zp:List.Perm _ ((vb,cb [(.pointer (some ⟨lb,0,none⟩)),(.slice ay ys.length cy),.int .i64 ((inc:Nat):Int)] 74)::(yl++((b3,cb (cT key ver (.slice a bs.length c)) 28)::(lb,rlO rd q down)::(rd,rfO v p k)::lp))))))
     rw [hO,hK] at h9
     exact h9) ?_
    refine J.qe rfl rfl<|J.extract rfl rfl rfl<|J.extract rfl rfl rfl ?_;refine J.alloc Ty.zIt rfl rfl (fun b6=>?_);refine J.qN (cs:=cH zH) (vs:=cH O) Ty.s28 rfl rfl rfl rfl rfl (zi hOs) .here<|J.assign rfl rfl<|J.nil ?_;refine JX.qd (hK8 _ _ ?_);refine JC.zy (α:=Nat) (fun x6=>[(0,.pointer (some ⟨vb,0,none⟩)),(3,.pointer (some ⟨b3,0,none⟩))]) (fun x6 w'=>(K=true→newB ver O.ver=true)∧St w S0 ((x6,cb (cH O) 28)::(b3,cb (cT key ver (.slice a bs.length c)) 28)::(vb,cb [(.pointer (some ⟨lb,0,none⟩)),(.slice ay ys.length cy),.int .i64 ((inc:Nat):Int)] 74)::(lb,rlO rd q down)::(rd,rfO v p k)::(lp++yl)) w') (fun x6=>?_) (fun K9 hK9=>?_)
    ·refine JC.pr (fun hnb=>?_)
     have hnb2:¬((getV (ys.map HI.it) key).isSome=true∧newB ver ((getV (ys.map HI.it) key).getD zItV).ver=false):=by
      rw [old_it,z8,Option.isSome_map,hO,hK]
      rintro ⟨h1,h2⟩
      have h3:=hnb h1
      have h4:newB ver O.ver=false:=h2
      rw [h4] at h3
      cases h3
     refine JC.seq (fun K10 hK10=>?_);refine JC.seq (fun K11 hK11=>?_)
     apply JC.zd (α:=Value × List (Nat × Obj)) 6 (fun x=>match x with | ⟨v53,l53⟩=>[.pointer (some ⟨vb,0,none⟩),.pointer (some ⟨vb,0,none⟩),.pointer (some ⟨vb,0+0,none⟩),.pointer (some ⟨lb,0,none⟩),.agg (cT key ver (.slice a bs.length c)).toArray,v53]) (fun m x=>match x with | ⟨v53,l53⟩=>fun w1=>((m 5=true→Vec 5 1 v53 (formB ⟨key,ver,bs⟩).length ((formB ⟨key,ver,bs⟩).map u8) l53))∧St w S0 ((bif m 5 then l53 else [])++((x6,cb (cH O) 28)::(b3,cb (cT key ver (.slice a bs.length c)) 28)::(vb,cb [(.pointer (some ⟨lb,0,none⟩)),(.slice ay ys.length cy),.int .i64 ((inc:Nat):Int)] 74)::(lb,rlO rd q down)::(rd,rfO v p k)::(lp++yl))) w1) Ty.mixed rfl rfl rfl (by kernel_rfl) rfl rfl ?hinit ?hstep ?htail
     case hinit=>exact fun w1 hw=>⟨(.slice none 0 0,[]),fun h=>(by cases h),hw.drew⟩
     case hstep=>
      refine ⟨fun m x hm hp=>?_,fun m x hm hp=>?_,fun m x hm hp=>?_,fun m x hm hp=>?_,fun m x hm hp=>?_,fun m x hm hp=>?_,trivial⟩
      ·obtain ⟨v53,l53⟩:=x
       show J _ _ _ _ _ (_) _
       refine J.pr (fun hF=>?_);refine J.qe rfl rfl ?_
       exact J.ql rfl (fun _ hw=>⟨⟨v53,l53⟩,rfl,fun _ _ _=>rfl,hF,hw⟩)
      ·obtain ⟨v53,l53⟩:=x
       show J _ _ _ _ _ ((39,.pointer (some ⟨vb,0,none⟩))::_) _
       refine J.pr (fun hF=>?_);refine J.qq rfl rfl ?_
       exact J.ql rfl (fun _ hw=>⟨⟨v53,l53⟩,rfl,fun _ _ _=>rfl,hF,hw⟩)
      ·obtain ⟨v53,l53⟩:=x
       show J _ _ _ _ _ ((40,.pointer (some ⟨vb,0,none⟩))::_) _
       refine J.pr (fun hF=>?_);refine J.qi Ty.fd74_0 rfl rfl ?_
       exact J.ql rfl (fun _ hw=>⟨⟨v53,l53⟩,rfl,fun _ _ _=>rfl,hF,hw⟩)
      ·obtain ⟨v53,l53⟩:=x
       show J _ _ _ _ _ ((41,.pointer (some ⟨vb,0+0,none⟩))::_) _
       refine J.pr (fun hF=>?_);refine J.qw (v:=(.pointer (some ⟨lb,0,none⟩))) Ty.a60 rfl (fun w1 hw=>by rw [qB (hw.own ((vb,cb [(.pointer (some ⟨lb,0,none⟩)),(.slice ay ys.length cy),.int .i64 ((inc:Nat):Int)] 74)) zm)];rfl) rfl ?_
       exact J.ql rfl (fun _ hw=>⟨⟨v53,l53⟩,rfl,fun _ _ _=>rfl,hF,hw⟩)
      ·obtain ⟨v53,l53⟩:=x
       show J _ _ _ _ _ (_) _
       refine J.pr (fun hF=>?_);refine J.qC (vs:=cT key ver (.slice a bs.length c)) Ty.a28 Ty.s28 rfl rfl (fun w1 hw=>Cells.of_block (hw.own ((b3,cb (cT key ver (.slice a bs.length c)) 28)) zm) rfl) rfl ?_
       exact J.ql rfl (fun _ hw=>⟨⟨v53,l53⟩,rfl,fun _ _ _=>rfl,hF,hw⟩)
      ·obtain ⟨v53,l53⟩:=x
       show J _ _ _ _ _ ((43,.agg (cT key ver (.slice a bs.length c)).toArray)::_) _
       refine J.pr (fun hF=>?_)
       refine J.conseq (I':=St w S0 ((x6,cb (cH O) 28)::(b3,cb (cT key ver (.slice a bs.length c)) 28)::(vb,cb [(.pointer (some ⟨lb,0,none⟩)),(.slice ay ys.length cy),.int .i64 ((inc:Nat):Int)] 74)::(lb,rlO rd q down)::(rd,rfO v p k)::(lp++yl))) ?_ (fun w1 hw=>by simp only [hm,cond_false,List.nil_append] at hw;exact hw)
       refine J.perm ([]++((x6,cb (cH O) 28)::(b3,cb (cT key ver (.slice a bs.length c)) 28)::(vb,cb [(.pointer (some ⟨lb,0,none⟩)),(.slice ay ys.length cy),.int .i64 ((inc:Nat):Int)] 74)::(lb,rlO rd q down)::(rd,rfO v p k)::(lp++yl))) (.refl _) ?_;refine J.qO (α:=Value × List (Nat × Obj)) (V:=(·.1)) (Pr:=fun xo=>Vec 5 1 xo.1 (formB ⟨key,ver,bs⟩).length ((formB ⟨key,ver,bs⟩).map u8) xo.2) (L:=(·.2)) (l1:=[]) Ty.bd12 rfl rfl (fun w1 hw=>rform_spec (cT key ver (.slice a bs.length c)) key ver bs _ w1 rfl (hb.st hoff hw) (by omega) (by omega) (by omega)) (fun xo hvn=>?_)
       obtain ⟨vn,ln⟩:=xo
       try simp only at hvn ⊢
       refine J.nil (JX.zR rfl (fun w1 hw=>⟨⟨⟨vn,ln⟩,rfl,fun j h1 h2=>?_,?_⟩,trivial⟩))
       ·match j,h1 with
        | 0,_=>(first | rfl | trivial)
        | 1,_=>(first | rfl | trivial)
        | 2,_=>(first | rfl | trivial)
        | 3,_=>(first | rfl | trivial)
        | 4,_=>(first | rfl | trivial)
        | 5,_=>exact absurd (h2.symm.trans hm) (by decide)
        | j+6,h1=>omega
       show ((true=true→Vec 5 1 vn (formB ⟨key,ver,bs⟩).length ((formB ⟨key,ver,bs⟩).map u8) ln))∧St w S0 ((bif true then ln else [])++((x6,cb (cH O) 28)::(b3,cb (cT key ver (.slice a bs.length c)) 28)::(vb,cb [(.pointer (some ⟨lb,0,none⟩)),(.slice ay ys.length cy),.int .i64 ((inc:Nat):Int)] 74)::(lb,rlO rd q down)::(rd,rfO v p k)::(lp++yl))) w1
       simp only [cond_true] at hw ⊢
       exact ⟨fun _=>hvn,hw⟩
     case htail=>
      intro x
      obtain ⟨v53,l53⟩:=x
      show J _ _ _ _ _ ((44,v53)::(43,.agg (cT key ver (.slice a bs.length c)).toArray)::(42,.pointer (some ⟨lb,0,none⟩))::(41,.pointer (some ⟨vb,0+0,none⟩))::(40,.pointer (some ⟨vb,0,none⟩))::(39,.pointer (some ⟨vb,0,none⟩))::_) (fun w1=>((true=true→Vec 5 1 v53 (formB ⟨key,ver,bs⟩).length ((formB ⟨key,ver,bs⟩).map u8) l53))∧St w S0 ((bif true then l53 else [])++((x6,cb (cH O) 28)::(b3,cb (cT key ver (.slice a bs.length c)) 28)::(vb,cb [(.pointer (some ⟨lb,0,none⟩)),(.slice ay ys.length cy),.int .i64 ((inc:Nat):Int)] 74)::(lb,rlO rd q down)::(rd,rfO v p k)::(lp++yl))) w1)
      refine J.pr (fun hF=>?_)
      have hv53:=hF rfl
      have hfl:=formB_le ⟨key,ver,bs⟩
      try simp only at hfl
      obtain ⟨a53,c53,rfl,hc53⟩:=hv53.form
      refine J.conseq (I':=St w S0 (l53++((x6,cb (cH O) 28)::(b3,cb (cT key ver (.slice a bs.length c)) 28)::(vb,cb [(.pointer (some ⟨lb,0,none⟩)),(.slice ay ys.length cy),.int .i64 ((inc:Nat):Int)] 74)::(lb,rlO rd q down)::(rd,rfO v p k)::(lp++yl)))) ?_ (fun w1 hw=>by simp only [cond_true] at hw;exact hw)
      obtain ⟨⟨e9,q9,dn9,σ9⟩,hx9⟩:∃x,appendP n q down ⟨B,p,k⟩ (formB ⟨key,ver,bs⟩)=x:=⟨_,rfl⟩
      refine J.perm (((lb,rlO rd q down)::(rd,rfO v p k)::lp)++(l53++((x6,cb (cH O) 28)::(b3,cb (cT key ver (.slice a bs.length c)) 28)::(vb,cb [(.pointer (some ⟨lb,0,none⟩)),(.slice ay ys.length cy),.int .i64 ((inc:Nat):Int)] 74)::yl))) zp ?_;refine J.qO (α:=List (Nat × Obj)) (V:=fun _=>.int .i64 e9) (Pr:=fun x=>Vec 5 1 v (64*n) (σ9.B.map u8) x) (L:=fun x=>(lb,rlO rd q9 dn9)::(rd,rfO v σ9.p σ9.k)::x) (l1:=(lb,rlO rd q down)::(rd,rfO v p k)::lp) Ty.bd28 rfl rfl (fun w1 hw=>rappend_all lb rd n q down _ lp B (formB ⟨key,ver,bs⟩) p k a53 _ c53 w1 (St.owns hw) hbv hI.len hn hn3 hgl hul hcl_ hk hk2 hI.p rfl (by omega) (qW hv53 hw (fun q hq=>by simp [hq])) (zY hv53 (fun p0 hp0=>St.off (l1:=(lb,rlO rd q down)::(rd,rfO v p k)::lp) hw (o:=p0.2) (by simp [hp0]))) hx9) (fun lp9 hv9=>?_);refine J.perm ((b3,cb (cT key ver (.slice a bs.length c)) 28)::(x6,cb (cH O) 28)::(l53++((vb,cb [(.pointer (some ⟨lb,0,none⟩)),(.slice ay ys.length cy),.int .i64 ((inc:Nat):Int)] 74)::(lb,rlO rd q9 dn9)::(rd,rfO v σ9.p σ9.k)::(lp9++yl)))) zp<|J.assign rfl rfl<|J.nil ?_;refine JX.qd (hK11 _ _ ?_);refine JC.seq (fun K12 hK12=>?_);refine JC.region<|J.qe rfl rfl<|J.qj rfl rfl rfl rfl<|J.nil ?_;refine JX.qd (hK12 _ _ ?_);refine JC.qn rfl (fun h3=>?_) (fun h3=>?_)
      ·have he9:e9≠0:=by simpa using h3
       have hg:vmergeP n q down ⟨B,p,k⟩ (ys.map HI.it) ⟨key,ver,bs⟩=(false,e9,q9,dn9,σ9):=by unfold vmergeP;rw [if_neg hor,if_neg hb64,if_neg hnb2,hx9];simp only;rw [decide_eq_false he9]
       refine JC.seq (fun K13 hK13=>?_);refine JC.region<|J.qe rfl rfl<|J.assign rfl rfl<|J.assign rfl rfl<|J.nil ?_;refine JX.qd (hK13 _ _ ?_);refine JC.qA<|JX.qt ?_;refine JX.zr rfl rfl rfl (fun w1 hw=>?_)
       exact ⟨.no e9 q9 dn9 σ9 lp9,rfl,⟨hg,hv9⟩,(hw.perm (zp:List.Perm _ (((x6,cb (cH O) 28)::(b3,cb (cT key ver (.slice a bs.length c)) 28)::l53)++(rvB vb lb rd v q9 dn9 inc (.slice ay ys.length cy) σ9++(lp9++yl))))).drop (List.sublist_append_right _ _)⟩
      ·have he9:e9=0:=by simpa using h3
       have hg:vmergeP n q down ⟨B,p,k⟩ (ys.map HI.it) ⟨key,ver,bs⟩=(true,0,q9,dn9,σ9):=by unfold vmergeP;rw [if_neg hor,if_neg hb64,if_neg hnb2,hx9];simp only;rw [decide_eq_true he9,he9]
       refine JC.skip ?_;refine JX.qd (hK10 _ _ ?_);refine JC.seq (fun K14 hK14=>?_);refine JC.region ?_;refine J.za Ty.el26 Ty.s5 Ty.z5 rfl rfl rfl rfl rfl rfl rfl (fun b49=>?_);refine J.qi Ty.fd28_2 rfl rfl<|J.qw (v:=(.slice a bs.length c)) Ty.a26 rfl (fun w1 hw=>by rw [qB (hw.own ((b3,cb (cT key ver (.slice a bs.length c)) 28)) zm)];rfl) rfl ?_;refine J.qZ (lp:=[(b49,cb [] 5)]) (xs:=[]) (ys:=bs.map u8) (k:=0) (m:=bs.length) Ty.el26 Ty.s5 Ty.b5 Ty.z5 rfl (.inl ⟨5,Ty.u26⟩) rfl rfl ⟨rfl,.inr ⟨b49,0,[],rfl,rfl,rfl,Nat.le_refl _⟩⟩ (fun w1 hw=>.inl (hb.st hoff hw)) (by simp) (zk _) (by omega) (by omega) rfl (fun v52 l52 hv52=>?_)
       rw [Nat.zero_add,List.nil_append] at hv52
       obtain ⟨a52,c52,rfl,hc52⟩:=hv52.form
       refine J.perm ((b3,cb (cT key ver (.slice a bs.length c)) 28)::(l52++((x6,cb (cH O) 28)::(l53++((vb,cb [(.pointer (some ⟨lb,0,none⟩)),(.slice ay ys.length cy),.int .i64 ((inc:Nat):Int)] 74)::(lb,rlO rd q9 dn9)::(rd,rfO v σ9.p σ9.k)::(lp9++yl)))))) zp<|J.qi Ty.fd28_2 rfl rfl<|J.qU (cs:=(cT key ver (.slice a bs.length c))) (vs:=[(.slice a52 bs.length c52)]) (l':=(b3,cb (cT key ver (.slice a52 bs.length c52)) 28)::(l52++((x6,cb (cH O) 28)::(l53++((vb,cb [(.pointer (some ⟨lb,0,none⟩)),(.slice ay ys.length cy),.int .i64 ((inc:Nat):Int)] 74)::(lb,rlO rd q9 dn9)::(rd,rfO v σ9.p σ9.k)::(lp9++yl)))))) Ty.s26 rfl rfl rfl rfl (fun v hv=>by rw [List.mem_singleton.1 hv];rfl) .here (by show _≤34;omega) ?_;refine J.nil ?_;refine JX.qd (hK14 _ _ ?_);refine JC.seq (fun K15 hK15=>?_);refine JC.region<|J.qe rfl rfl<|J.qC (vs:=cT key ver (.slice a52 bs.length c52)) Ty.a28 Ty.s28 rfl rfl (fun w1 hw=>Cells.of_block (hw.own ((b3,cb (cT key ver (.slice a52 bs.length c52)) 28)) zm) rfl) rfl ?_;refine J.perm (((vb,cb [(.pointer (some ⟨lb,0,none⟩)),(.slice ay ys.length cy),.int .i64 ((inc:Nat):Int)] 74)::yl)++((b3,cb (cT key ver (.slice a52 bs.length c52)) 28)::(x6,cb (cH O) 28)::(l52++(l53++((lb,rlO rd q9 dn9)::(rd,rfO v σ9.p σ9.k)::lp9))))) zp ?_
       refine J.qO (α:=Value × List (Nat × Obj)) (V:=fun _=>.bool true) (Pr:=fun x=>(∀y,y∈ys→y.key=key→newB ver y.ver=true)∧Vec 28 34 x.1 (insH ys (⟨key,ver,bs,(.slice a52 bs.length c52),l52⟩:HI)).length ((insH ys (⟨key,ver,bs,(.slice a52 bs.length c52),l52⟩:HI)).flatMap cH) x.2) (L:=fun x=>(vb,cb [(.pointer (some ⟨lb,0,none⟩)),x.1,.int .i64 ((inc:Nat):Int)] 74)::x.2) Ty.bd58 rfl rfl (fun w1 hw=>(rtake_spec vb (.pointer (some ⟨lb,0,none⟩)) ((inc:Nat):Int) ys _ yl hy (fun y hy=>by obtain ⟨a,c,h1,_⟩:=(hV y hy).2.form;exact ⟨a,c,h1⟩) hyl _ key ver bs a52 bs.length c52 l52 w1 rfl (St.owns hw)).mono fun _ _ h=>by
        rcases h with ⟨h1,⟨y9,h2,h3,h4⟩,_⟩ | ⟨h1,h2,v7,l7,h3,h4⟩
        ·exact absurd (show newB ver y9.ver=true from by
          have h5:=hget_uniq hP h2 h3
          rw [h5] at hO hK
          have h6:=hnb hK.symm
          rw [show O=y9 from hO.symm] at h6
          exact h6) (by rw [h4];decide)
        ·exact ⟨(v7,l7),h1,⟨h2,h3⟩,h4⟩) (fun x hx=>?_)
       obtain ⟨v7,l7⟩:=x
       obtain ⟨hnw,hy7⟩:=hx
       try simp only at hnw hy7 ⊢
       refine J.perm ((b3,cb (cT key ver (.slice a52 bs.length c52)) 28)::(x6,cb (cH O) 28)::(l53++(rvB vb lb rd v q9 dn9 inc v7 σ9++(lp9++(l7++l52))))) zp<|J.nil ?_;refine JX.qd (hK15 _ _ ?_);refine JC.seq (fun K16 hK16=>?_);refine JC.region<|J.assign rfl rfl<|J.assign rfl rfl<|J.nil ?_;refine JX.qd (hK16 _ _ ?_);refine JC.qA ?_;refine JX.zr rfl rfl rfl (fun w1 hw=>?_)
       exact ⟨.yes (⟨key,ver,bs,(.slice a52 bs.length c52),l52⟩:HI) v7 l7 q9 dn9 σ9 lp9,rfl,⟨hg,rfl,⟨⟨by simp only;omega,by simp only;omega⟩,hv52⟩,hnw,hy7,hv9⟩,(hw.perm (zp:List.Perm _ (((x6,cb (cH O) 28)::(b3,cb (cT key ver (.slice a52 bs.length c52)) 28)::l53)++(rvB vb lb rd v q9 dn9 inc v7 σ9++(lp9++(l7++l52)))))).drop (List.sublist_append_right _ _)⟩
    ·refine JC.seq (fun K17 hK17=>?_)
     cases K with
     | false=>
      have hnb:(false=true→newB ver O.ver=true):=fun h=>(by cases h)
      refine JC.region<|J.qe rfl rfl<|J.qe rfl rfl ?_
      first | refine J.skip rfl rfl rfl rfl rfl ?_ | refine J.qh rfl rfl rfl rfl ?_ | (refine J.qf rfl rfl rfl ?_;refine J.qi Ty.fd28_1 rfl rfl ?_)
      first | refine J.skip rfl rfl rfl rfl rfl ?_ | refine J.qh rfl rfl rfl rfl ?_ | (refine J.qf rfl rfl rfl ?_;refine J.zB Ty.a25 Ty.s25 rfl zm (by exact rfl) rfl rfl ?_)
      first | refine J.skip rfl rfl rfl rfl rfl ?_ | refine J.qh rfl rfl rfl rfl ?_ | (refine J.qf rfl rfl rfl ?_;refine J.qi Ty.fd28_1 rfl rfl ?_)
      first | refine J.skip rfl rfl rfl rfl rfl ?_ | refine J.qh rfl rfl rfl rfl ?_ | (refine J.qf rfl rfl rfl ?_;refine J.zB Ty.a25 Ty.s25 rfl zm (by exact rfl) rfl rfl ?_)
      first | refine J.skip rfl rfl rfl rfl rfl ?_ | refine J.qh rfl rfl rfl rfl ?_ | (refine J.qf rfl rfl rfl ?_;fail)
      first | refine J.skip rfl rfl rfl rfl rfl ?_ | refine J.qh rfl rfl rfl rfl ?_ | (refine J.qf rfl rfl rfl ?_;refine J.zC rfl rfl ?_)
      (first | refine J.qr rfl rfl rfl ?_ | refine J.qs rfl rfl rfl ?_)
      refine J.nil ?_;refine JX.qd (hK17 _ _ ?_)
      first | refine JC.qI rfl ?_ | refine JC.qn rfl (fun h=>by first | (exfalso;simp at h;omega) | (simp at h)) (fun _=>?_)
      refine JC.skip<|JX.qd ?_
      exact JX.cut (hK9 b6) ⟨rfl,rfl,trivial⟩ (fun w1 hw=>⟨hnb,hw⟩)
     | true=>
      refine JC.region<|J.qe rfl rfl<|J.qe rfl rfl ?_
      first | refine J.skip rfl rfl rfl rfl rfl ?_ | refine J.qh rfl rfl rfl rfl ?_ | (refine J.qf rfl rfl rfl ?_;refine J.qi Ty.fd28_1 rfl rfl ?_)
      refine J.qf rfl rfl rfl<|J.qC (vs:=cV ver) Ty.a25 Ty.s25 rfl rfl (fun w1 hw=>Cells.of_block (hw.own ((b3,cb (cT key ver (.slice a bs.length c)) 28)) zm) rfl) rfl ?_
      first | refine J.skip rfl rfl rfl rfl rfl ?_ | refine J.qh rfl rfl rfl rfl ?_ | (refine J.qf rfl rfl rfl ?_;refine J.qi Ty.fd28_1 rfl rfl ?_)
      refine J.qf rfl rfl rfl<|J.qC (vs:=cV O.ver) Ty.a25 Ty.s25 rfl rfl (fun w1 hw=>Cells.of_block (hw.own ((b6,cb (cH O) 28)) zm) rfl) rfl ?_;refine J.qf rfl rfl rfl<|J.qR (v:=.bool (newB ver O.ver)) (fun w1 w2 hw hb=>hw.step hb) Ty.bd14 rfl rfl (fun w1 hw=>rnewer_spec ver O.ver w1) ?_
      first | refine J.skip rfl rfl rfl rfl rfl ?_ | refine J.qh rfl rfl rfl rfl ?_ | (refine J.qf rfl rfl rfl ?_;refine J.zC rfl rfl ?_)
      (first | refine J.qr rfl rfl rfl ?_ | refine J.qs rfl rfl rfl ?_)
      refine J.nil ?_;refine JX.qd (hK17 _ _ ?_);refine JC.qn rfl (fun h2=>?_) (fun h2=>?_)
      ·have hnf:newB ver O.ver=false:=by simpa using h2
       have hg:vmergeP n q down ⟨B,p,k⟩ (ys.map HI.it) ⟨key,ver,bs⟩=(false,0,q,down,⟨B,p,k⟩):=by unfold vmergeP;rw [if_neg hor,if_neg hb64,old_it,z8,Option.isSome_map,hO,hK,if_pos ⟨rfl,hnf⟩]
       refine JC.seq (fun K18 hK18=>?_);refine JC.region<|J.assign rfl rfl<|J.assign rfl rfl<|J.nil ?_;refine JX.qd (hK18 _ _ ?_);refine JC.qA<|JX.qt ?_;refine JX.zr rfl rfl rfl (fun w1 hw=>?_)
       exact ⟨.no 0 q down ⟨B,p,k⟩ lp,rfl,⟨hg,hbv⟩,(hw.perm (zp:List.Perm _ ([(b6,cb (cH O) 28),(b3,cb (cT key ver (.slice a bs.length c)) 28)]++(rvB vb lb rd v q down inc (.slice ay ys.length cy) ⟨B,p,k⟩++(lp++yl))))).drop (List.sublist_append_right _ _)⟩
      ·have hnb:(true=true→newB ver O.ver=true):=fun _=>by simpa using h2
       refine JC.skip<|JX.qd ?_
       exact JX.cut (hK9 b6) ⟨rfl,rfl,trivial⟩ (fun w1 hw=>⟨hnb,hw⟩)
structure OpX where
 kind:Int
 n:Int
 x:ItX
abbrev cOp (o:OpX):List Value:=.int .i64 o.kind::.int .i64 o.n::cT o.x.key o.x.ver o.x.v.v
def ROpx:World→List Value→OpX→Prop:=fun W cs o=>cs=cOp o∧okN o.kind∧okN o.n∧okN o.x.ver.n∧RSl 1 1 RU8 W [o.x.v.v] o.x.v
theorem fsOpx:fieldsT Try.prog 78=some [(3,0,1),(3,1,1),(28,2,34)]:=by kernel_rfl
theorem dec_opx:Decodes Try.prog 78 ROpx:=by
 intro H enc w fuel cs x h hn
 have hl:=dec_len Ty.a78 Ty.s78 h
 obtain ⟨k,hk,wk⟩:=yo fsOpx h hn 0 _ rfl (dec_int Ty.u3)
 obtain ⟨n,hj,wj⟩:=yo fsOpx h hn 1 _ rfl (dec_int Ty.u3)
 obtain ⟨a,ha,wa,wb⟩:=yo fsOpx h hn 2 _ rfl dec_itx
 have hd:∀(k j:Nat),(cs.drop k).drop j=cs.drop (k+j):=fun k j=>by rw [List.drop_drop]
 have e2:cs.drop 1=[.int .i64 n]++cT a.key a.ver a.v.v:=split2s (k:=1) (m:=34) (by simpa using hj) (by rw [hd];exact ha) (by simp;omega)
 have e1:cs=[.int .i64 k]++cs.drop 1:=split2s (k:=1) (m:=35) hk (List.take_of_length_le (by simp;omega)) hl
 refine ⟨⟨k,n,a⟩,?_,wk,wj,wa,wb⟩
 show cs=[.int .i64 k]++([.int .i64 n]++cT a.key a.ver a.v.v)
 rw [e1,e2]
theorem rows_opx {w:World} {s:Sl OpX} {cs:List Value} (h:RSl 36 80 ROpx w cs s):Row w s.v s.xs.length (s.xs.flatMap cOp)∧∀x,x∈s.xs→okN x.kind∧okN x.n∧okN x.x.ver.n∧RSl 1 1 RU8 w [x.x.v.v] x.x.v:=by
 refine ⟨rslG (c:=cOp) (sz:=36) (fun _=>rfl) (by omega) (fun _ _ _ h=>h.1) h,?_⟩
 obtain ⟨_,_,_,h4⟩:=h
 intro x hx
 rcases h4 with h4 | ⟨b,o,_,h4⟩
 ·rw [h4] at hx;cases hx
 ·obtain ⟨i,hi⟩:=List.mem_iff_getElem?.1 hx
  obtain ⟨cs',_,_,h5⟩:=h4 i x hi
  exact h5.2
theorem getV_uniq {A:List ItV} {y:ItV} {k:IDV} (hd:A.Pairwise (fun a b=>a.key≠b.key)) (hy:y∈A) (hk:y.key=k):getV A k=some y:=by
 induction A with
 | nil=>cases hy
 | cons a A ih=>
  obtain ⟨h1,h2⟩:=List.pairwise_cons.1 hd
  unfold getV
  rcases List.mem_cons.1 hy with rfl | hy
  ·exact List.find?_cons_of_pos (by simpa using hk)
  ·rw [List.find?_cons_of_neg]
   ·exact ih h2 hy
   ·intro h4
    exact h1 y hy ((of_decide_eq_true h4:a.key=k).trans hk.symm)
theorem getV_srt {A B:List ItV} (h:SrtOf A B) (k:IDV):getV B k=getV A k:=by
 cases hb:getV B k with
 | none=>
  cases ha:getV A k with
  | none=>rfl
  | some y=>
   obtain ⟨h1,h2⟩:=getV_mem ha
   have h3:=h.1.symm.mem_iff.1 h1
   unfold getV at hb
   exact absurd (decide_eq_true h2) (List.find?_eq_none.1 hb y h3)
 | some y=>
  obtain ⟨h1,h2⟩:=getV_mem hb
  exact (getV_uniq (srt_keys h) (h.1.mem_iff.1 h1) h2).symm
theorem vputP_srt {A B:List ItV} (h:SrtOf A B) (n:Nat) (q:LogP) (dn:Bool) (σ:DS) (key:IDV) (val:List UInt8) (who:IDV):vputP n q dn σ B key val who=vputP n q dn σ A key val who:=by
 unfold vputP verN
 rw [getV_srt h]
theorem vmergeP_srt {A B:List ItV} (h:SrtOf A B) (n:Nat) (q:LogP) (dn:Bool) (σ:DS) (x:ItV):vmergeP n q dn σ B x=vmergeP n q dn σ A x:=by
 unfold vmergeP
 rw [getV_srt h]
theorem srt_pair {A:List ItV} {ys:List HI} (h:SrtOf A (ys.map HI.it)):ys.Pairwise (fun a b=>valI a.key<valI b.key):=by
 have h1:=h.2
 rw [List.pairwise_map] at h1
 exact h1
theorem srt_put {L ys:List HI} {x y:HI} (h:SrtOf (L.map HI.it) (ys.map HI.it)) (he:x.it=y.it):SrtOf ((hset L x).map HI.it) ((insH ys y).map HI.it):=by
 rw [hset_it,insH_it,he]
 exact srt_set h
theorem srt_len {L ys:List HI} (h:SrtOf (L.map HI.it) (ys.map HI.it)):ys.length=L.length:=by
 have:=h.1.length_eq
 rwa [List.length_map,List.length_map] at this
theorem srt_it {L ys:List HI} (h:SrtOf (L.map HI.it) (ys.map HI.it)) (k:IDV):((hget ys k).getD zH).it=((hget L k).getD zH).it∧(hget ys k).isSome=(hget L k).isSome:=by
 have h1:=getV_srt h k
 rw [← old_it,← old_it,h1]
 rw [z8,z8] at h1
 have h2:=congrArg Option.isSome h1
 rw [Option.isSome_map,Option.isSome_map] at h2
 exact ⟨rfl,h2⟩
inductive VP where
 | bad (e:Int)
 | ok (v1 m1 l1:Nat) (q:LogP) (dn:Bool) (inc:Nat) (L:List HI) (es:Array MapEntry) (ck:Nat) (v2 l2:Nat) (ys:List HI) (ay:Option Addr) (cy:Nat) (yl:List (Nat × Obj))
def VP.e:VP→Int
 | .bad e=>e
 | .ok ..=>0
def VP.pv:VP→Value
 | .bad _=>.pointer none
 | .ok v1 ..=>.pointer (some ⟨v1,0,none⟩)
def VP.pw:VP→Value
 | .bad _=>.pointer none
 | .ok _ _ _ _ _ _ _ _ _ v2 ..=>.pointer (some ⟨v2,0,none⟩)
def VP.live:VP→Prop
 | .bad _=>False
 | .ok ..=>True
def VP.blk (d rd:Nat):VP→List (Nat × Obj)
 | .bad _=>[]
 | .ok v1 m1 l1 q dn inc L es ck v2 l2 ys ay cy yl=>(v1,vaO (.pointer (some ⟨l1,0,none⟩)) m1 ((inc:Nat):Int))::(m1,.map es ck)::(l1,lgO d q dn)::(v2,cb [.pointer (some ⟨l2,0,none⟩),.slice ay ys.length cy,.int .i64 ((inc:Nat):Int)] 74)::(l2,rlO rd q dn)::(yl++(lpsH L++lpsH ys))
def DG (N i:Nat) (σ:DS):Prop:=N<3∨∃q,LogI N q σ∧q.gen≤i+1
def VP.Pr (N i:Nat) (σ:DS):VP→Prop
 | .bad _=>DG N i σ
 | .ok _ _ _ q _ _ L es ck _ _ ys ay cy yl=>LogI N q σ∧q.gen≤i+1∧Vm L es ck∧VOK L∧L.length≤60+i∧(∀x,x∈L→x.bs.length≤64)∧SrtOf (L.map HI.it) (ys.map HI.it)∧VOK ys∧Vec 28 34 (.slice ay ys.length cy) (ys).length ((ys).flatMap cH) yl
structure PlS where
 i:Nat
 o:VP
 σ:DS
 lp:List (Nat × Obj)
structure PlI (N:Nat) (v0:Value) (st:PlS):Prop where
 i:st.i≤121
 len:st.σ.B.length=64*N
 k0:0≤st.σ.k
 kb:st.σ.k≤19*((st.i:Int)+1)
 p:st.σ.p<9223372036854775808
 vec:Vec 5 1 v0 (64*N) (st.σ.B.map u8) st.lp
 pr:st.o.Pr N (st.i+1) st.σ
abbrev plB (N d s rd:Nat) (v0:Value) (st:PlS):List (Nat × Obj):=(d,dkO s N st.σ.p st.σ.k)::(s,dkS st.σ.B)::(rd,rfO v0 st.σ.p st.σ.k)::(st.lp++st.o.blk d rd)
theorem DG.of {N i:Nat} {q:LogP} {σ:DS} (h:LogI N q σ) (hg:q.gen≤i+1):DG N i σ:=.inr ⟨q,h,hg⟩
theorem DG.pow {N i:Nat} {σ:DS} (h:DG N i σ) (p:Int) (hp:p<9223372036854775808):DG N (i+1) ⟨σ.B,p,σ.k⟩:=by
 rcases h with h | ⟨q,h1,h2⟩
 ·exact .inl h
 ·exact .inr ⟨q,h1.power p hp,by omega⟩
theorem VP.Pr.pow {N i:Nat} {σ:DS} {o:VP} (h:o.Pr N i σ) (p:Int) (hp:p<9223372036854775808):o.Pr N (i+1) ⟨σ.B,p,σ.k⟩:=by
 cases o with
 | bad e=>exact DG.pow h p hp
 | ok v1 m1 l1 q dn inc L es ck v2 l2 ys ay cy yl=>
  obtain ⟨h1,h2,h3,h4,h5,h6⟩:=h
  exact ⟨h1.power p hp,by omega,h3,h4,by omega,h6⟩
theorem VP.Pr.dg {N i:Nat} {σ:DS} {o:VP} (h:o.Pr N i σ):DG N i σ:=by
 cases o with
 | bad e=>exact h
 | ok v1 m1 l1 q dn inc L es ck v2 l2 ys ay cy yl=>exact .inr ⟨q,h.1,h.2.1⟩
theorem plays_open {N i:Nat} {σ σ':DS} {e:Int} {o:Option (LogP × Nat × List ItV)} (hB:σ.B.length=64*N) (hn:N≤60) (hi:i≤200) (hp:σ.p<9223372036854775808) (hd:DG N i σ) (h:vopenP N σ=(e,o,σ')) :
  σ'.B.length=64*N∧σ.k≤σ'.k∧σ'.k≤σ.k+19∧σ'.p<9223372036854775808∧DG N (i+1) σ'∧∀q inc A,o=some (q,inc,A)→LogI N q σ'∧q.gen≤i+2∧A.length≤N∧∀x,x∈A→x.bs.length≤64:=by
 rcases hd with hd | ⟨q0,hI,hg⟩
 ·rw [vopenP_bad (openP_small hd)] at h
  simp only [Prod.mk.injEq] at h
  obtain ⟨rfl,rfl,rfl⟩:=h
  exact ⟨hB,Int.le_refl _,by omega,hp,.inl hd,fun _ _ _ h=>by cases h⟩
 ·have hsm:∀q inc A,o=some (q,inc,A)→e=0→A.length≤N∧∀x,x∈A→x.bs.length≤64:=fun q inc A ho he=>by
   subst ho he
   exact vopen_small (by omega) hI h
  unfold vopenP at h
  rw [hI.open_] at h
  simp only at h
  have hself:DG N (i+1) σ:=.inr ⟨q0,hI,by omega⟩
  rcases hh:heldV q0.recs with _ | ⟨inc0,A0⟩
  ·rw [hh] at h
   simp only [Prod.mk.injEq] at h
   obtain ⟨rfl,rfl,rfl⟩:=h
   exact ⟨hB,Int.le_refl _,by omega,hp,hself,fun _ _ _ h=>by cases h⟩
  ·rw [hh] at h
   simp only at h
   obtain ⟨e9,q9,d9,σ9,h9,hI9,hk1,hk2,hg9,_⟩:=yX (n:=N) (down:=false) (rec_:=incB (inc0+1)) (by omega) hI (by omega)
   split at h
   ·simp only [Prod.mk.injEq] at h
    obtain ⟨rfl,rfl,rfl⟩:=h
    exact ⟨hB,Int.le_refl _,by omega,hp,hself,fun _ _ _ h=>by cases h⟩
   ·rw [h9] at h
    simp only at h
    split at h
    ·rename_i he9
     simp only [Prod.mk.injEq] at h
     obtain ⟨rfl,rfl,rfl⟩:=h
     refine ⟨hI9.len,hk1,hk2,hI9.p,.inr ⟨q9,hI9,by omega⟩,fun q inc A ho=>?_⟩
     have h2:=hsm q inc A ho rfl
     simp only [Option.some.injEq,Prod.mk.injEq] at ho
     obtain ⟨rfl,rfl,rfl⟩:=ho
     exact ⟨hI9,by omega,h2⟩
    ·simp only [Prod.mk.injEq] at h
     obtain ⟨rfl,rfl,rfl⟩:=h
     exact ⟨hI9.len,hk1,hk2,hI9.p,.inr ⟨q9,hI9,by omega⟩,fun _ _ _ h=>by cases h⟩
theorem hset_small {L:List HI} {x:HI} (h:∀y,y∈L→y.bs.length≤64) (hx:x.bs.length≤64):∀y,y∈hset L x→y.bs.length≤64:=fun y hy=>by
 rcases hset_mem hy with rfl | hy
 ·exact hx
 ·exact h y hy
theorem insH_self (ys:List HI) (x:HI):x∈insH ys x:=List.mem_append_left _ (List.mem_append_right _ (List.mem_singleton.2 rfl))
def zOpx:OpX:=⟨0,0,⟨zI,zV,⟨none,0,[]⟩⟩⟩
theorem Ty.zOpx:zeroT Try.prog 78=some (.agg (cOp zOpx).toArray):=by kernel_rfl
theorem one_cOp (z:OpX):∀v,v∈cOp z→v.oneCell'=true:=fun v hv=>by
 rcases List.mem_cons.1 hv with rfl | hv
 ·rfl
 ·rcases List.mem_cons.1 hv with rfl | hv
  ·rfl
  ·exact zF v hv
def VO.pv:VO→Value
 | .bad ..=>.pointer none
 | .ok vb ..=>.pointer (some ⟨vb,0,none⟩)
def VO.er:VO→Value
 | .bad e _=>.int .i64 e
 | .ok ..=>.int .i64 0
structure PtS where
 st:PlS
 key:IDV
 ver:WV
 bs:List UInt8
 a:Option Addr
 c:Nat
 la:List (Nat × Obj)
 hb:HI
 b14:Nat
 b16:Nat
 e:Int
end Go.Proofs.Ytoaenmlhehcjfaa
