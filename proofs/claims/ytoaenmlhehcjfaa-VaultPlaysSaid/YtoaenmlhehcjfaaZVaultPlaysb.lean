/-
  VaultPlays: texts that its proof needs, part 2.
-/
import Derived.Test.YtoaenmlhehcjfaaZVaultPlaysa
namespace Go.Proofs.Ytoaenmlhehcjfaa
open Go.J Go.RowKit
set_option linter.unusedVariables false
set_option linter.unusedSimpArgs false
set_option maxRecDepth 8000
theorem wst_byte {B bs:List UInt8} {n i:Nat} (hB:B.length=64*n) (hi:i<n) (hb:bs.length≤64) (j:Nat) (hj:j<64) (hjm:j<bs.length):((wst B i bs j).set (64*i+j) 0).set (64*i+j) bs[j]=wst B i bs (j+1):=by
 apply List.ext_getElem?
 intro q
 rw [List.set_set,List.getElem?_set,wst_get hB hi hb j q (by omega),wst_get hB hi hb (j+1) q (by omega),zo hB hi hb j (by omega)]
 by_cases h:64*i+j=q
 ·subst h
  rw [if_pos rfl,if_pos (by omega),if_neg (by omega),if_pos (by omega),List.getElem?_append_left (by omega)]
  rw [show 64*i+j - 64*i=j by omega,List.getElem?_eq_getElem hjm]
 ·rw [if_neg h]
  by_cases h1:q<64*i
  ·rw [if_pos h1,if_pos h1]
  ·rw [if_neg h1,if_neg h1]
   by_cases h2:q<64*i+j
   ·rw [if_pos h2,if_pos (by omega)]
   ·rw [if_neg h2,if_neg (by omega)]
theorem yw (l:List UInt8) (sp:List Value) (q:Nat) (x:UInt8) (h:q<l.length):setMany (l.map u8++sp) q [u8 x]=(l.set q x).map u8++sp:=by
 simp only [setMany]
 rw [List.set_append_left _ _ (by simpa using h),← List.map_set]
theorem rwrite_long (r n:Nat) (v:Value) (lp:List (Nat × Obj)) (B:List UInt8) (p k:Int) (w:World) (hw0:Own w ((r,rfO v p k)::lp)) (hv:Vec 5 1 v (64*n) (B.map u8) lp) (hn:n≤4096) (i:Int) (a:Option Addr) (m c:Nat) (hi:0≤i) (hi2:i<(n:Int)) (hm:64<m) :
  Calls Try.prog 55 [.pointer (some ⟨r,0,none⟩),.int .i64 i,.slice a m c].toArray w fun ρ w'=>ρ=.returned (.int .i64 4)∧Bel w w':=by
 obtain ⟨a0,c0,rfl,hnc0⟩:=hv.form
 refine qD (args:=[.pointer (some ⟨r,0,none⟩),.int .i64 i,.slice a m c]) (e:=[(0,.pointer (some ⟨r,0,none⟩)),(1,.int .i64 i),(2,.slice a m c)]) Try.func55 rfl rfl ⟨rfl,rfl,rfl,trivial⟩ (hw0.st) ?_;refine JC.seq (fun K0 hK0=>?_);refine JC.region<|J.assign rfl rfl<|J.nil ?_;refine JX.qd (hK0 _ _ ?_);refine JC.seq (fun K1 hK1=>?_);refine JC.seq (fun K2 hK2=>?_);refine JC.region<|J.qe rfl rfl<|J.qj rfl rfl rfl rfl<|J.qe rfl rfl ?_;refine J.z6 10 rfl (fun h=>by first | (exfalso;simp at h;omega) | (simp at h)) (fun _=>?_)
 first | refine J.skip rfl rfl rfl rfl rfl ?_ | refine J.qh rfl rfl rfl rfl ?_ | (refine J.qf rfl rfl rfl ?_;refine J.qe rfl rfl ?_)
 first | refine J.skip rfl rfl rfl rfl rfl ?_ | refine J.qh rfl rfl rfl rfl ?_ | (refine J.qf rfl rfl rfl ?_;refine J.qe rfl rfl ?_)
 first | refine J.skip rfl rfl rfl rfl rfl ?_ | refine J.qh rfl rfl rfl rfl ?_ | (refine J.qf rfl rfl rfl ?_;refine J.qq rfl rfl ?_)
 first | refine J.skip rfl rfl rfl rfl rfl ?_ | refine J.qh rfl rfl rfl rfl ?_ | (refine J.qf rfl rfl rfl ?_;refine J.qi Ty.fd67_0 rfl rfl ?_)
 first | refine J.skip rfl rfl rfl rfl rfl ?_ | refine J.qh rfl rfl rfl rfl ?_ | (refine J.qf rfl rfl rfl ?_;refine J.qQ Ty.a26 rfl zm (by exact rfl) rfl ?_)
 first | refine J.skip rfl rfl rfl rfl rfl ?_ | refine J.qh rfl rfl rfl rfl ?_ | (refine J.qf rfl rfl rfl ?_;refine J.qK rfl Ty.u26 rfl rfl ?_)
 refine J.qf rfl rfl rfl<|J.ym rfl rfl (by omega) (by omega) (by omega) rfl ?_;refine J.name 17 rfl (congrArg (Value.int .i64) (show ((64*n:Nat):Int) / 64=(n:Int) by omega)) ?_
 first | refine J.skip rfl rfl rfl rfl rfl ?_ | refine J.qh rfl rfl rfl rfl ?_ | (refine J.qf rfl rfl rfl ?_;refine J.qj rfl rfl rfl rfl ?_)
 (first | refine J.qr rfl rfl rfl ?_ | refine J.qs rfl rfl rfl ?_)
 refine J.nil ?_;refine JX.qd (hK2 _ _ ?_)
 first | refine JC.qI rfl ?_ | refine JC.qn rfl (fun h=>by first | (exfalso;simp at h;omega) | (simp at h)) (fun _=>?_)
 refine JC.skip ?_;refine JX.qd (hK1 _ _ ?_);refine JC.seq (fun K3 hK3=>?_);refine JC.seq (fun K4 hK4=>?_);refine JC.region<|J.qe rfl rfl<|J.qK rfl Ty.u26 rfl rfl<|J.qj rfl rfl rfl rfl<|J.nil ?_;refine JX.qd (hK4 _ _ ?_)
 first | refine JC.qP rfl ?_ | refine JC.qn rfl (fun _=>?_) (fun h=>by first | (exfalso;simp at h;omega) | (simp at h))
 refine JC.seq (fun K5 hK5=>?_);refine JC.region<|J.assign rfl rfl<|J.nil ?_;refine JX.qd (hK5 _ _ ?_);refine JC.qA<|JX.qt ?_;refine JX.qL rfl rfl (fun w hw=>?_)
 exact ⟨rfl,hw.same hw0 (fun p hp=>hp)⟩
theorem rwrite_down (r n:Nat) (v:Value) (lp:List (Nat × Obj)) (B:List UInt8) (k:Int) (w:World) (hw0:Own w ((r,rfO v 0 k)::lp)) (hv:Vec 5 1 v (64*n) (B.map u8) lp) (hn:n≤4096) (i:Int) (a:Option Addr) (m c:Nat) (hi:0≤i) (hi2:i<(n:Int)) (hm:m≤64) :
  Calls Try.prog 55 [.pointer (some ⟨r,0,none⟩),.int .i64 i,.slice a m c].toArray w fun ρ w'=>ρ=.returned (.int .i64 8)∧Bel w w':=by
 obtain ⟨a0,c0,rfl,hnc0⟩:=hv.form
 refine qD (args:=[.pointer (some ⟨r,0,none⟩),.int .i64 i,.slice a m c]) (e:=[(0,.pointer (some ⟨r,0,none⟩)),(1,.int .i64 i),(2,.slice a m c)]) Try.func55 rfl rfl ⟨rfl,rfl,rfl,trivial⟩ (hw0.st) ?_;refine JC.seq (fun K0 hK0=>?_);refine JC.region<|J.assign rfl rfl<|J.nil ?_;refine JX.qd (hK0 _ _ ?_);refine JC.seq (fun K1 hK1=>?_);refine JC.seq (fun K2 hK2=>?_);refine JC.region<|J.qe rfl rfl<|J.qj rfl rfl rfl rfl<|J.qe rfl rfl ?_;refine J.z6 10 rfl (fun h=>by first | (exfalso;simp at h;omega) | (simp at h)) (fun _=>?_)
 first | refine J.skip rfl rfl rfl rfl rfl ?_ | refine J.qh rfl rfl rfl rfl ?_ | (refine J.qf rfl rfl rfl ?_;refine J.qe rfl rfl ?_)
 first | refine J.skip rfl rfl rfl rfl rfl ?_ | refine J.qh rfl rfl rfl rfl ?_ | (refine J.qf rfl rfl rfl ?_;refine J.qe rfl rfl ?_)
 first | refine J.skip rfl rfl rfl rfl rfl ?_ | refine J.qh rfl rfl rfl rfl ?_ | (refine J.qf rfl rfl rfl ?_;refine J.qq rfl rfl ?_)
 first | refine J.skip rfl rfl rfl rfl rfl ?_ | refine J.qh rfl rfl rfl rfl ?_ | (refine J.qf rfl rfl rfl ?_;refine J.qi Ty.fd67_0 rfl rfl ?_)
 first | refine J.skip rfl rfl rfl rfl rfl ?_ | refine J.qh rfl rfl rfl rfl ?_ | (refine J.qf rfl rfl rfl ?_;refine J.qQ Ty.a26 rfl zm (by exact rfl) rfl ?_)
 first | refine J.skip rfl rfl rfl rfl rfl ?_ | refine J.qh rfl rfl rfl rfl ?_ | (refine J.qf rfl rfl rfl ?_;refine J.qK rfl Ty.u26 rfl rfl ?_)
 refine J.qf rfl rfl rfl<|J.ym rfl rfl (by omega) (by omega) (by omega) rfl ?_;refine J.name 17 rfl (congrArg (Value.int .i64) (show ((64*n:Nat):Int) / 64=(n:Int) by omega)) ?_
 first | refine J.skip rfl rfl rfl rfl rfl ?_ | refine J.qh rfl rfl rfl rfl ?_ | (refine J.qf rfl rfl rfl ?_;refine J.qj rfl rfl rfl rfl ?_)
 (first | refine J.qr rfl rfl rfl ?_ | refine J.qs rfl rfl rfl ?_)
 refine J.nil ?_;refine JX.qd (hK2 _ _ ?_)
 first | refine JC.qI rfl ?_ | refine JC.qn rfl (fun h=>by first | (exfalso;simp at h;omega) | (simp at h)) (fun _=>?_)
 refine JC.skip ?_;refine JX.qd (hK1 _ _ ?_);refine JC.seq (fun K3 hK3=>?_);refine JC.seq (fun K4 hK4=>?_);refine JC.region<|J.qe rfl rfl<|J.qK rfl Ty.u26 rfl rfl<|J.qj rfl rfl rfl rfl<|J.nil ?_;refine JX.qd (hK4 _ _ ?_)
 first | refine JC.qI rfl ?_ | refine JC.qn rfl (fun h=>by first | (exfalso;simp at h;omega) | (simp at h)) (fun _=>?_)
 refine JC.skip ?_;refine JX.qd (hK3 _ _ ?_);refine JC.seq (fun K5 hK5=>?_);refine JC.seq (fun K6 hK6=>?_);refine JC.region<|J.qe rfl rfl<|J.qq rfl rfl<|J.qi Ty.fd67_1 rfl rfl<|J.qQ Ty.a3 rfl zm (by exact rfl) rfl ?_;refine J.qj rfl rfl rfl rfl<|J.nil ?_;refine JX.qd (hK6 _ _ ?_)
 first | refine JC.qP rfl ?_ | refine JC.qn rfl (fun _=>?_) (fun h=>by first | (exfalso;simp at h;omega) | (simp at h))
 refine JC.seq (fun K7 hK7=>?_);refine JC.region<|J.assign rfl rfl<|J.nil ?_;refine JX.qd (hK7 _ _ ?_);refine JC.qA<|JX.qt ?_;refine JX.qL rfl rfl (fun w hw=>?_)
 exact ⟨rfl,hw.same hw0 (fun p hp=>hp)⟩
theorem rwrite_endless (r n:Nat) (v:Value) (lp:List (Nat × Obj)) (B:List UInt8) (p k:Int) (w:World) (hw0:Own w ((r,rfO v p k)::lp)) (hv:Vec 5 1 v (64*n) (B.map u8) lp) (hn:n≤4096) (bs:List UInt8) (i:Int) (a:Option Addr) (m c:Nat) (hB:B.length=64*n) (hi:0≤i) (hi2:i<(n:Int)) (hk:0≤k) (hk2:k<4611686018427387904) (hm:m≤64) (hbl:bs.length=m) (hbv:Row w (.slice a m c) m (bs.map u8)) (hoff:Off (r::lp.map (·.1)) (.slice a m c) (bs.map u8)) (hp:p<0) :
  Calls Try.prog 55 [.pointer (some ⟨r,0,none⟩),.int .i64 i,.slice a m c].toArray w fun ρ w'=>ρ=.returned (.int .i64 0)∧∃lp',Vec 5 1 v (64*n) ((put B i.toNat bs).map u8) lp'∧St w (r::lp.map (·.1)) ((r,rfO v p (k+1))::lp') w':=by
 have hbl64:bs.length≤64:=by omega
 have hi2n:i.toNat<n:=by omega
 obtain ⟨hvl,hv⟩:=hv
 rcases hv with ⟨_,h0,_⟩ | ⟨q,c0,sp,rfl,rfl,hcap,hnc⟩
 ·omega
 have hz:u8 0=Value.int .u8 0:=rfl
 refine qD (args:=[.pointer (some ⟨r,0,none⟩),.int .i64 i,.slice a m c]) (e:=[(0,.pointer (some ⟨r,0,none⟩)),(1,.int .i64 i),(2,.slice a m c)]) Try.func55 rfl rfl ⟨rfl,rfl,rfl,trivial⟩ (hw0.st) ?_;refine JC.seq (fun K0 hK0=>?_);refine JC.region<|J.assign rfl rfl<|J.nil ?_;refine JX.qd (hK0 _ _ ?_);refine JC.seq (fun K1 hK1=>?_);refine JC.seq (fun K2 hK2=>?_);refine JC.region<|J.qe rfl rfl<|J.qj rfl rfl rfl rfl<|J.qe rfl rfl ?_;refine J.z6 10 rfl (fun h=>by first | (exfalso;simp at h;omega) | (simp at h)) (fun _=>?_)
 first | refine J.skip rfl rfl rfl rfl rfl ?_ | refine J.qh rfl rfl rfl rfl ?_ | (refine J.qf rfl rfl rfl ?_;refine J.qe rfl rfl ?_)
 first | refine J.skip rfl rfl rfl rfl rfl ?_ | refine J.qh rfl rfl rfl rfl ?_ | (refine J.qf rfl rfl rfl ?_;refine J.qe rfl rfl ?_)
 first | refine J.skip rfl rfl rfl rfl rfl ?_ | refine J.qh rfl rfl rfl rfl ?_ | (refine J.qf rfl rfl rfl ?_;refine J.qq rfl rfl ?_)
 first | refine J.skip rfl rfl rfl rfl rfl ?_ | refine J.qh rfl rfl rfl rfl ?_ | (refine J.qf rfl rfl rfl ?_;refine J.qi Ty.fd67_0 rfl rfl ?_)
 first | refine J.skip rfl rfl rfl rfl rfl ?_ | refine J.qh rfl rfl rfl rfl ?_ | (refine J.qf rfl rfl rfl ?_;refine J.qQ Ty.a26 rfl zm (by exact rfl) rfl ?_)
 first | refine J.skip rfl rfl rfl rfl rfl ?_ | refine J.qh rfl rfl rfl rfl ?_ | (refine J.qf rfl rfl rfl ?_;refine J.qK rfl Ty.u26 rfl rfl ?_)
 refine J.qf rfl rfl rfl<|J.ym rfl rfl (by omega) (by omega) (by omega) rfl ?_;refine J.name 17 rfl (congrArg (Value.int .i64) (show ((64*n:Nat):Int) / 64=(n:Int) by omega)) ?_
 first | refine J.skip rfl rfl rfl rfl rfl ?_ | refine J.qh rfl rfl rfl rfl ?_ | (refine J.qf rfl rfl rfl ?_;refine J.qj rfl rfl rfl rfl ?_)
 (first | refine J.qr rfl rfl rfl ?_ | refine J.qs rfl rfl rfl ?_)
 refine J.nil ?_;refine JX.qd (hK2 _ _ ?_)
 first | refine JC.qI rfl ?_ | refine JC.qn rfl (fun h=>by first | (exfalso;simp at h;omega) | (simp at h)) (fun _=>?_)
 refine JC.skip ?_;refine JX.qd (hK1 _ _ ?_);refine JC.seq (fun K3 hK3=>?_);refine JC.seq (fun K4 hK4=>?_);refine JC.region<|J.qe rfl rfl<|J.qK rfl Ty.u26 rfl rfl<|J.qj rfl rfl rfl rfl<|J.nil ?_;refine JX.qd (hK4 _ _ ?_)
 first | refine JC.qI rfl ?_ | refine JC.qn rfl (fun h=>by first | (exfalso;simp at h;omega) | (simp at h)) (fun _=>?_)
 refine JC.skip ?_;refine JX.qd (hK3 _ _ ?_);refine JC.seq (fun K5 hK5=>?_);refine JC.seq (fun K6 hK6=>?_);refine JC.region<|J.qe rfl rfl<|J.qq rfl rfl<|J.qi Ty.fd67_1 rfl rfl<|J.qQ Ty.a3 rfl zm (by exact rfl) rfl ?_;refine J.qj rfl rfl rfl rfl<|J.nil ?_;refine JX.qd (hK6 _ _ ?_)
 first | refine JC.qI rfl ?_ | refine JC.qn rfl (fun h=>by first | (exfalso;simp at h;omega) | (simp at h)) (fun _=>?_)
 refine JC.skip ?_;refine JX.qd (hK5 _ _ ?_);refine JC.seq (fun K7 hK7=>?_);refine JC.seq (fun K8 hK8=>?_);refine JC.region<|J.assign rfl rfl<|J.nil ?_;refine JX.qd (hK8 _ _ ?_);refine JC.block ?_
 refine JC.conseq (JC.cov (f:=(fun x=>[(0,.pointer (some ⟨r,0,none⟩)),(1,.int .i64 i),(2,.slice a m c),(7,.int .i64 x)]) (0:Nat)) ⟨rfl,rfl,rfl,rfl,trivial⟩ (JC.loop (α:=Nat) (fun x=>[(0,.pointer (some ⟨r,0,none⟩)),(1,.int .i64 i),(2,.slice a m c),(7,.int .i64 x)]) (fun x w'=>x≤64∧St w [r,q] [(r,rfO (.slice (some ⟨q,0,none⟩) (64*n) c0) p k),(q,cb ((wst B i.toNat bs x).map u8++sp) 5)] w') (fun x=>64 - x) (0:Nat) (fun j=>?_))) (fun w hw=>⟨Nat.zero_le _,by rw [wst_zero];exact hw⟩)
 refine JC.pr (fun hj64=>?_);refine JC.seq (fun K9 hK9=>?_);refine JC.seq (fun K10 hK10=>?_);refine JC.region<|J.qe rfl rfl<|J.qj rfl rfl rfl rfl<|J.nil ?_;refine JX.qd (hK10 _ _ ?_);refine JC.qn rfl (fun h3=>?_) (fun h3=>?_)
 ·have hlt:j<64:=by simp at h3;omega
  refine JC.skip ?_;refine JX.qd (hK9 _ _ ?_);refine JC.seq (fun K11 hK11=>?_);refine JC.block ?_;refine JC.seq (fun K12 hK12=>?_);refine JC.region<|J.qe rfl rfl<|J.qq rfl rfl<|J.qi Ty.fd67_0 rfl rfl<|J.qQ Ty.a26 rfl zm (by exact rfl) rfl ?_;refine J.qe rfl rfl ?_
  (first | refine J.zO rfl rfl (by omega) (by omega) rfl ?_ | refine J.qj rfl rfl rfl rfl ?_)
  refine J.qe rfl rfl ?_
  (first | refine J.qG rfl rfl (by omega) (by omega) rfl ?_ | refine J.qj rfl rfl rfl rfl ?_)
  refine J.qu Ty.el26 Ty.s5 rfl rfl (by omega) (by omega) rfl ?_;refine J.name 40 rfl (show Value.pointer (some ⟨q,0+(64*i+(j:Int)).toNat*1,none⟩)=.pointer (some ⟨q,64*i.toNat+j,none⟩) by congr 3;omega) ?_;refine J.qU (vs:=[.int .u8 0]) Ty.s5 rfl rfl rfl rfl (by simp [Value.oneCell']) (.there .here) (by simp [zo hB hi2n hbl64 j (by omega)];omega) ?_;refine J.nil ?_;refine JX.qd (hK12 _ _ ?_);refine JC.seq (fun K13 hK13=>?_);refine JC.region<|J.qe rfl rfl<|J.qe rfl rfl<|J.qK rfl Ty.u26 rfl rfl<|J.qj rfl rfl rfl rfl<|J.nil ?_;refine JX.qd (hK13 _ _ ?_);refine JC.qn rfl (fun h4=>?_) (fun h4=>?_)
  ·have hjm:j<m:=by simp at h4;omega
   obtain ⟨b,o,rfl,hcl⟩:∃b o,a=some ⟨b,o,none⟩∧Cells w b o (bs.map u8):=by
    obtain ⟨_,_,hv,_,hx⟩:=hbv
    simp only [Value.slice.injEq] at hv
    obtain ⟨rfl,_,rfl⟩:=hv
    rcases hx with hx | hx
    ·have hx2:=congrArg List.length hx;rw [List.length_map,List.length_nil] at hx2;omega
    ·exact hx
   have hbS:b ∉ [r,q]:=by
    rcases hoff with hx | hx
    ·have hx2:=congrArg List.length hx;rw [List.length_map,List.length_nil] at hx2;omega
    ·exact hx b o _ _ rfl
   have hcj:Cells w b o (bs.map u8):=hcl
   apply JC.zc 12 [Eqv (_),Eqv (_),Eqv (_),Eqv (_),Eqv (_),Eqv (_),Eqv (_),Eqv (_),Eqv (_),Eqv (_),Eqv (_),Eqv (_)] Ty.mixed rfl rfl rfl (by kernel_rfl) rfl rfl (fun w w' hw hb=>hw.step hb) ⟨fun _ _ _ h _=>h,fun _ _ _ h _=>h,fun _ _ _ h _=>h,fun _ _ _ h _=>h,fun _ _ _ h _=>h,fun _ _ _ h _=>h,fun _ _ _ h _=>h,fun _ _ _ h _=>h,fun _ _ _ h _=>h,fun _ _ _ h _=>h,fun _ _ _ h _=>h,fun _ _ _ h _=>h,trivial⟩ ?hstep ?htail
   case hstep=>
    refine ⟨fun wi=>?_,fun wi=>?_,fun wi=>?_,fun wi=>?_,fun wi=>?_,fun wi=>?_,fun wi=>?_,fun wi=>?_,fun wi=>?_,fun wi=>?_,fun wi=>?_,fun wi=>?_,trivial⟩
    ·refine Fin.nil<|J.qe rfl rfl ?_
     exact J.qm rfl
    ·refine Fin.qc rfl (Fin.nil ?_);refine J.qq rfl rfl ?_
     exact J.qm rfl
    ·refine Fin.qc rfl (Fin.nil ?_);refine J.qi Ty.fd67_0 rfl rfl ?_
     exact J.qm rfl
    ·refine Fin.qc rfl (Fin.nil ?_);refine J.qw Ty.a26 rfl (fun w hw=>(qB (hw.2.own (_,_) zm)).trans (by exact rfl)) rfl ?_
     exact J.qm rfl
    ·refine Fin.nil<|J.qe rfl rfl ?_
     exact J.qm rfl
    ·refine Fin.qc rfl (Fin.nil ?_)
     (first | refine J.zO rfl rfl (by omega) (by omega) rfl ?_ | refine J.qj rfl rfl rfl rfl ?_)
     exact J.qm rfl
    ·refine Fin.nil<|J.qe rfl rfl ?_
     exact J.qm rfl
    ·refine Fin.qc rfl (Fin.qc rfl (Fin.nil ?_))
     (first | refine J.qG rfl rfl (by omega) (by omega) rfl ?_ | refine J.qj rfl rfl rfl rfl ?_)
     exact J.qm rfl
    ·refine Fin.nil<|J.qe rfl rfl ?_
     exact J.qm rfl
    ·refine Fin.nil<|J.qe rfl rfl ?_
     exact J.qm rfl
    ·refine Fin.qc rfl (Fin.qc rfl (Fin.nil ?_))
     refine J.qu Ty.el26 Ty.s5 rfl rfl (by omega) (by omega) rfl ?_
     exact J.qm rfl
    ·refine Fin.qc rfl (Fin.nil ?_);refine J.qw (v:=u8 (bs[j]'(by omega))) Ty.a5 rfl (fun w hw=>?_) rfl ?_
     ·have h1:=hcj.blk (hw.2.keep b (hcj.lt (by intro hx;have hx2:=congrArg List.length hx;rw [List.length_map,List.length_nil] at hx2;omega)) hbS)
      have h2:=h1 j (by simp;omega)
      rw [show o+(j:Int).toNat*1=o+j by omega,h2]
      simp [List.getElem?_eq_getElem (show j<bs.length by omega)]
     exact J.qm rfl
   case htail=>
    refine Fin.qc rfl (Fin.qc rfl (Fin.qc rfl (Fin.qc rfl (Fin.qc rfl (Fin.qc rfl (Fin.qc rfl (Fin.qc rfl (Fin.qc rfl (Fin.qc rfl (Fin.qc rfl (Fin.qc rfl (Fin.nil ?_))))))))))))
    refine J.qu Ty.el26 Ty.s5 rfl rfl (by omega) (by omega) rfl ?_;refine J.name 57 rfl (show Value.pointer (some ⟨q,0+(64*i+(j:Int)).toNat*1,none⟩)=.pointer (some ⟨q,64*i.toNat+j,none⟩) by congr 3;omega) ?_;refine J.qU (vs:=[u8 (bs[j]'(by omega))]) Ty.s5 rfl rfl rfl rfl (by simp [Value.oneCell']) (.there .here) (by simp [setMany_length,zo hB hi2n hbl64 j (by omega)];omega) ?_;refine J.nil<|JX.qJ ?_;refine JX.qd (hK11 _ _ ?_);refine JC.region<|J.qe rfl rfl ?_
    (first | refine J.qG rfl rfl (by omega) (by omega) rfl ?_ | refine J.qj rfl rfl rfl rfl ?_)
    refine J.assign rfl rfl<|J.nil<|JX.qd<|JX.qS (j+1) ?_ ?_ ?_
    ·omega
    ·exact ⟨rfl,rfl,rfl,rfl,trivial⟩
    ·exact fun w hw=>⟨hlt,by
      first
      | exact (by rw [← wst_byte hB hi2n hbl64 j hlt (by omega),← yw _ _ _ _ (by rw [List.length_set,zo hB hi2n hbl64 j (by omega)];omega),← yw _ _ _ _ (by rw [zo hB hi2n hbl64 j (by omega)];omega)];exact hw)
      | exact (by rw [← wst_pad hB hi2n hbl64 j hlt (by omega),← yw _ _ _ _ (by rw [zo hB hi2n hbl64 j (by omega)];omega)];exact hw)⟩
  ·have hjm:m≤j:=by simp at h4;omega
   refine JC.skip<|JX.qJ ?_;refine JX.qd (hK11 _ _ ?_);refine JC.region<|J.qe rfl rfl ?_
   (first | refine J.qG rfl rfl (by omega) (by omega) rfl ?_ | refine J.qj rfl rfl rfl rfl ?_)
   refine J.assign rfl rfl<|J.nil<|JX.qd<|JX.qS (j+1) ?_ ?_ ?_
   ·omega
   ·exact ⟨rfl,rfl,rfl,rfl,trivial⟩
   ·exact fun w hw=>⟨hlt,by
     first
     | exact (by rw [← wst_byte hB hi2n hbl64 j hlt (by omega),← yw _ _ _ _ (by rw [List.length_set,zo hB hi2n hbl64 j (by omega)];omega),← yw _ _ _ _ (by rw [zo hB hi2n hbl64 j (by omega)];omega)];exact hw)
     | exact (by rw [← wst_pad hB hi2n hbl64 j hlt (by omega),← yw _ _ _ _ (by rw [zo hB hi2n hbl64 j (by omega)];omega)];exact hw)⟩
 ·have hge:j=64:=by simp at h3;omega
  subst hge
  refine JC.qX<|JX.qE<|JX.qE<|JX.qT ?_;refine JX.qd (hK7 _ _ ?_);refine JC.seq (fun K14 hK14=>?_);refine JC.seq (fun K15 hK15=>?_);refine JC.region<|J.qe rfl rfl<|J.qq rfl rfl<|J.qi Ty.fd67_1 rfl rfl<|J.qQ Ty.a3 rfl zm (by exact rfl) rfl ?_;refine J.qj rfl rfl rfl rfl<|J.nil ?_;refine JX.qd (hK15 _ _ ?_)
  first | refine JC.qI rfl ?_ | refine JC.qn rfl (fun h=>by first | (exfalso;simp at h;omega) | (simp at h)) (fun _=>?_)
  refine JC.skip ?_;refine JX.qd (hK14 _ _ ?_);refine JC.seq (fun K16 hK16=>?_);refine JC.region<|J.qe rfl rfl<|J.qq rfl rfl<|J.qi Ty.fd67_2 rfl rfl<|J.qQ Ty.a3 rfl zm (by exact rfl) rfl ?_
  (first | refine J.qG rfl rfl (by omega) (by omega) rfl ?_ | refine J.qj rfl rfl rfl rfl ?_)
  refine J.qq rfl rfl<|J.qi Ty.fd67_2 rfl rfl<|J.qU Ty.s3 rfl rfl rfl rfl (by simp [Value.oneCell']) zu (by simp) ?_;refine J.nil ?_;refine JX.qd (hK16 _ _ ?_);refine JC.seq (fun K17 hK17=>?_);refine JC.region<|J.assign rfl rfl<|J.nil ?_;refine JX.qd (hK17 _ _ ?_);refine JC.qA ?_;refine JX.qL rfl rfl (fun w hw=>?_)
  rw [wst_all (by omega)] at hw
  exact ⟨rfl,[(q,cb ((put B i.toNat bs).map u8++sp) 5)],⟨by rw [List.length_map,yf hB hi2n hbl64];omega,.inr ⟨q,c0,sp,rfl,rfl,by simp only [List.length_append,List.length_map,yf hB hi2n hbl64,hB] at hcap ⊢;exact hcap,hnc⟩⟩,hw⟩
theorem rwrite_power (r n:Nat) (v:Value) (lp:List (Nat × Obj)) (B:List UInt8) (p k:Int) (w:World) (hw0:Own w ((r,rfO v p k)::lp)) (hv:Vec 5 1 v (64*n) (B.map u8) lp) (hn:n≤4096) (bs:List UInt8) (i:Int) (a:Option Addr) (m c:Nat) (hB:B.length=64*n) (hi:0≤i) (hi2:i<(n:Int)) (hk:0≤k) (hk2:k<4611686018427387904) (hm:m≤64) (hbl:bs.length=m) (hbv:Row w (.slice a m c) m (bs.map u8)) (hoff:Off (r::lp.map (·.1)) (.slice a m c) (bs.map u8)) (hp:0<p) (hp2:p<9223372036854775808) :
  Calls Try.prog 55 [.pointer (some ⟨r,0,none⟩),.int .i64 i,.slice a m c].toArray w fun ρ w'=>ρ=.returned (.int .i64 0)∧∃lp',Vec 5 1 v (64*n) ((put B i.toNat bs).map u8) lp'∧St w (r::lp.map (·.1)) ((r,rfO v (p - 1) (k+1))::lp') w':=by
 have hbl64:bs.length≤64:=by omega
 have hi2n:i.toNat<n:=by omega
 obtain ⟨hvl,hv⟩:=hv
 rcases hv with ⟨_,h0,_⟩ | ⟨q,c0,sp,rfl,rfl,hcap,hnc⟩
 ·omega
 have hz:u8 0=Value.int .u8 0:=rfl
 refine qD (args:=[.pointer (some ⟨r,0,none⟩),.int .i64 i,.slice a m c]) (e:=[(0,.pointer (some ⟨r,0,none⟩)),(1,.int .i64 i),(2,.slice a m c)]) Try.func55 rfl rfl ⟨rfl,rfl,rfl,trivial⟩ (hw0.st) ?_;refine JC.seq (fun K0 hK0=>?_);refine JC.region<|J.assign rfl rfl<|J.nil ?_;refine JX.qd (hK0 _ _ ?_);refine JC.seq (fun K1 hK1=>?_);refine JC.seq (fun K2 hK2=>?_);refine JC.region<|J.qe rfl rfl<|J.qj rfl rfl rfl rfl<|J.qe rfl rfl ?_;refine J.z6 10 rfl (fun h=>by first | (exfalso;simp at h;omega) | (simp at h)) (fun _=>?_)
 first | refine J.skip rfl rfl rfl rfl rfl ?_ | refine J.qh rfl rfl rfl rfl ?_ | (refine J.qf rfl rfl rfl ?_;refine J.qe rfl rfl ?_)
 first | refine J.skip rfl rfl rfl rfl rfl ?_ | refine J.qh rfl rfl rfl rfl ?_ | (refine J.qf rfl rfl rfl ?_;refine J.qe rfl rfl ?_)
 first | refine J.skip rfl rfl rfl rfl rfl ?_ | refine J.qh rfl rfl rfl rfl ?_ | (refine J.qf rfl rfl rfl ?_;refine J.qq rfl rfl ?_)
 first | refine J.skip rfl rfl rfl rfl rfl ?_ | refine J.qh rfl rfl rfl rfl ?_ | (refine J.qf rfl rfl rfl ?_;refine J.qi Ty.fd67_0 rfl rfl ?_)
 first | refine J.skip rfl rfl rfl rfl rfl ?_ | refine J.qh rfl rfl rfl rfl ?_ | (refine J.qf rfl rfl rfl ?_;refine J.qQ Ty.a26 rfl zm (by exact rfl) rfl ?_)
 first | refine J.skip rfl rfl rfl rfl rfl ?_ | refine J.qh rfl rfl rfl rfl ?_ | (refine J.qf rfl rfl rfl ?_;refine J.qK rfl Ty.u26 rfl rfl ?_)
 refine J.qf rfl rfl rfl<|J.ym rfl rfl (by omega) (by omega) (by omega) rfl ?_;refine J.name 17 rfl (congrArg (Value.int .i64) (show ((64*n:Nat):Int) / 64=(n:Int) by omega)) ?_
 first | refine J.skip rfl rfl rfl rfl rfl ?_ | refine J.qh rfl rfl rfl rfl ?_ | (refine J.qf rfl rfl rfl ?_;refine J.qj rfl rfl rfl rfl ?_)
 (first | refine J.qr rfl rfl rfl ?_ | refine J.qs rfl rfl rfl ?_)
 refine J.nil ?_;refine JX.qd (hK2 _ _ ?_)
 first | refine JC.qI rfl ?_ | refine JC.qn rfl (fun h=>by first | (exfalso;simp at h;omega) | (simp at h)) (fun _=>?_)
 refine JC.skip ?_;refine JX.qd (hK1 _ _ ?_);refine JC.seq (fun K3 hK3=>?_);refine JC.seq (fun K4 hK4=>?_);refine JC.region<|J.qe rfl rfl<|J.qK rfl Ty.u26 rfl rfl<|J.qj rfl rfl rfl rfl<|J.nil ?_;refine JX.qd (hK4 _ _ ?_)
 first | refine JC.qI rfl ?_ | refine JC.qn rfl (fun h=>by first | (exfalso;simp at h;omega) | (simp at h)) (fun _=>?_)
 refine JC.skip ?_;refine JX.qd (hK3 _ _ ?_);refine JC.seq (fun K5 hK5=>?_);refine JC.seq (fun K6 hK6=>?_);refine JC.region<|J.qe rfl rfl<|J.qq rfl rfl<|J.qi Ty.fd67_1 rfl rfl<|J.qQ Ty.a3 rfl zm (by exact rfl) rfl ?_;refine J.qj rfl rfl rfl rfl<|J.nil ?_;refine JX.qd (hK6 _ _ ?_)
 first | refine JC.qI rfl ?_ | refine JC.qn rfl (fun h=>by first | (exfalso;simp at h;omega) | (simp at h)) (fun _=>?_)
 refine JC.skip ?_;refine JX.qd (hK5 _ _ ?_);refine JC.seq (fun K7 hK7=>?_);refine JC.seq (fun K8 hK8=>?_);refine JC.region<|J.assign rfl rfl<|J.nil ?_;refine JX.qd (hK8 _ _ ?_);refine JC.block ?_
 refine JC.conseq (JC.cov (f:=(fun x=>[(0,.pointer (some ⟨r,0,none⟩)),(1,.int .i64 i),(2,.slice a m c),(7,.int .i64 x)]) (0:Nat)) ⟨rfl,rfl,rfl,rfl,trivial⟩ (JC.loop (α:=Nat) (fun x=>[(0,.pointer (some ⟨r,0,none⟩)),(1,.int .i64 i),(2,.slice a m c),(7,.int .i64 x)]) (fun x w'=>x≤64∧St w [r,q] [(r,rfO (.slice (some ⟨q,0,none⟩) (64*n) c0) p k),(q,cb ((wst B i.toNat bs x).map u8++sp) 5)] w') (fun x=>64 - x) (0:Nat) (fun j=>?_))) (fun w hw=>⟨Nat.zero_le _,by rw [wst_zero];exact hw⟩)
 refine JC.pr (fun hj64=>?_);refine JC.seq (fun K9 hK9=>?_);refine JC.seq (fun K10 hK10=>?_);refine JC.region<|J.qe rfl rfl<|J.qj rfl rfl rfl rfl<|J.nil ?_;refine JX.qd (hK10 _ _ ?_);refine JC.qn rfl (fun h3=>?_) (fun h3=>?_)
 ·have hlt:j<64:=by simp at h3;omega
  refine JC.skip ?_;refine JX.qd (hK9 _ _ ?_);refine JC.seq (fun K11 hK11=>?_);refine JC.block ?_;refine JC.seq (fun K12 hK12=>?_);refine JC.region<|J.qe rfl rfl<|J.qq rfl rfl<|J.qi Ty.fd67_0 rfl rfl<|J.qQ Ty.a26 rfl zm (by exact rfl) rfl ?_;refine J.qe rfl rfl ?_
  (first | refine J.zO rfl rfl (by omega) (by omega) rfl ?_ | refine J.qj rfl rfl rfl rfl ?_)
  refine J.qe rfl rfl ?_
  (first | refine J.qG rfl rfl (by omega) (by omega) rfl ?_ | refine J.qj rfl rfl rfl rfl ?_)
  refine J.qu Ty.el26 Ty.s5 rfl rfl (by omega) (by omega) rfl ?_;refine J.name 40 rfl (show Value.pointer (some ⟨q,0+(64*i+(j:Int)).toNat*1,none⟩)=.pointer (some ⟨q,64*i.toNat+j,none⟩) by congr 3;omega) ?_;refine J.qU (vs:=[.int .u8 0]) Ty.s5 rfl rfl rfl rfl (by simp [Value.oneCell']) (.there .here) (by simp [zo hB hi2n hbl64 j (by omega)];omega) ?_;refine J.nil ?_;refine JX.qd (hK12 _ _ ?_);refine JC.seq (fun K13 hK13=>?_);refine JC.region<|J.qe rfl rfl<|J.qe rfl rfl<|J.qK rfl Ty.u26 rfl rfl<|J.qj rfl rfl rfl rfl<|J.nil ?_;refine JX.qd (hK13 _ _ ?_);refine JC.qn rfl (fun h4=>?_) (fun h4=>?_)
  ·have hjm:j<m:=by simp at h4;omega
   obtain ⟨b,o,rfl,hcl⟩:∃b o,a=some ⟨b,o,none⟩∧Cells w b o (bs.map u8):=by
    obtain ⟨_,_,hv,_,hx⟩:=hbv
    simp only [Value.slice.injEq] at hv
    obtain ⟨rfl,_,rfl⟩:=hv
    rcases hx with hx | hx
    ·have hx2:=congrArg List.length hx;rw [List.length_map,List.length_nil] at hx2;omega
    ·exact hx
   have hbS:b ∉ [r,q]:=by
    rcases hoff with hx | hx
    ·have hx2:=congrArg List.length hx;rw [List.length_map,List.length_nil] at hx2;omega
    ·exact hx b o _ _ rfl
   have hcj:Cells w b o (bs.map u8):=hcl
   apply JC.zc 12 [Eqv (_),Eqv (_),Eqv (_),Eqv (_),Eqv (_),Eqv (_),Eqv (_),Eqv (_),Eqv (_),Eqv (_),Eqv (_),Eqv (_)] Ty.mixed rfl rfl rfl (by kernel_rfl) rfl rfl (fun w w' hw hb=>hw.step hb) ⟨fun _ _ _ h _=>h,fun _ _ _ h _=>h,fun _ _ _ h _=>h,fun _ _ _ h _=>h,fun _ _ _ h _=>h,fun _ _ _ h _=>h,fun _ _ _ h _=>h,fun _ _ _ h _=>h,fun _ _ _ h _=>h,fun _ _ _ h _=>h,fun _ _ _ h _=>h,fun _ _ _ h _=>h,trivial⟩ ?hstep ?htail
   case hstep=>
    refine ⟨fun wi=>?_,fun wi=>?_,fun wi=>?_,fun wi=>?_,fun wi=>?_,fun wi=>?_,fun wi=>?_,fun wi=>?_,fun wi=>?_,fun wi=>?_,fun wi=>?_,fun wi=>?_,trivial⟩
    ·refine Fin.nil<|J.qe rfl rfl ?_
     exact J.qm rfl
    ·refine Fin.qc rfl (Fin.nil ?_);refine J.qq rfl rfl ?_
     exact J.qm rfl
    ·refine Fin.qc rfl (Fin.nil ?_);refine J.qi Ty.fd67_0 rfl rfl ?_
     exact J.qm rfl
    ·refine Fin.qc rfl (Fin.nil ?_);refine J.qw Ty.a26 rfl (fun w hw=>(qB (hw.2.own (_,_) zm)).trans (by exact rfl)) rfl ?_
     exact J.qm rfl
    ·refine Fin.nil<|J.qe rfl rfl ?_
     exact J.qm rfl
    ·refine Fin.qc rfl (Fin.nil ?_)
     (first | refine J.zO rfl rfl (by omega) (by omega) rfl ?_ | refine J.qj rfl rfl rfl rfl ?_)
     exact J.qm rfl
    ·refine Fin.nil<|J.qe rfl rfl ?_
     exact J.qm rfl
    ·refine Fin.qc rfl (Fin.qc rfl (Fin.nil ?_))
     (first | refine J.qG rfl rfl (by omega) (by omega) rfl ?_ | refine J.qj rfl rfl rfl rfl ?_)
     exact J.qm rfl
    ·refine Fin.nil<|J.qe rfl rfl ?_
     exact J.qm rfl
    ·refine Fin.nil<|J.qe rfl rfl ?_
     exact J.qm rfl
    ·refine Fin.qc rfl (Fin.qc rfl (Fin.nil ?_))
     refine J.qu Ty.el26 Ty.s5 rfl rfl (by omega) (by omega) rfl ?_
     exact J.qm rfl
    ·refine Fin.qc rfl (Fin.nil ?_);refine J.qw (v:=u8 (bs[j]'(by omega))) Ty.a5 rfl (fun w hw=>?_) rfl ?_
     ·have h1:=hcj.blk (hw.2.keep b (hcj.lt (by intro hx;have hx2:=congrArg List.length hx;rw [List.length_map,List.length_nil] at hx2;omega)) hbS)
      have h2:=h1 j (by simp;omega)
      rw [show o+(j:Int).toNat*1=o+j by omega,h2]
      simp [List.getElem?_eq_getElem (show j<bs.length by omega)]
     exact J.qm rfl
   case htail=>
    refine Fin.qc rfl (Fin.qc rfl (Fin.qc rfl (Fin.qc rfl (Fin.qc rfl (Fin.qc rfl (Fin.qc rfl (Fin.qc rfl (Fin.qc rfl (Fin.qc rfl (Fin.qc rfl (Fin.qc rfl (Fin.nil ?_))))))))))))
    refine J.qu Ty.el26 Ty.s5 rfl rfl (by omega) (by omega) rfl ?_;refine J.name 57 rfl (show Value.pointer (some ⟨q,0+(64*i+(j:Int)).toNat*1,none⟩)=.pointer (some ⟨q,64*i.toNat+j,none⟩) by congr 3;omega) ?_;refine J.qU (vs:=[u8 (bs[j]'(by omega))]) Ty.s5 rfl rfl rfl rfl (by simp [Value.oneCell']) (.there .here) (by simp [setMany_length,zo hB hi2n hbl64 j (by omega)];omega) ?_;refine J.nil<|JX.qJ ?_;refine JX.qd (hK11 _ _ ?_);refine JC.region<|J.qe rfl rfl ?_
    (first | refine J.qG rfl rfl (by omega) (by omega) rfl ?_ | refine J.qj rfl rfl rfl rfl ?_)
    refine J.assign rfl rfl<|J.nil<|JX.qd<|JX.qS (j+1) ?_ ?_ ?_
    ·omega
    ·exact ⟨rfl,rfl,rfl,rfl,trivial⟩
    ·exact fun w hw=>⟨hlt,by
      first
      | exact (by rw [← wst_byte hB hi2n hbl64 j hlt (by omega),← yw _ _ _ _ (by rw [List.length_set,zo hB hi2n hbl64 j (by omega)];omega),← yw _ _ _ _ (by rw [zo hB hi2n hbl64 j (by omega)];omega)];exact hw)
      | exact (by rw [← wst_pad hB hi2n hbl64 j hlt (by omega),← yw _ _ _ _ (by rw [zo hB hi2n hbl64 j (by omega)];omega)];exact hw)⟩
  ·have hjm:m≤j:=by simp at h4;omega
   refine JC.skip<|JX.qJ ?_;refine JX.qd (hK11 _ _ ?_);refine JC.region<|J.qe rfl rfl ?_
   (first | refine J.qG rfl rfl (by omega) (by omega) rfl ?_ | refine J.qj rfl rfl rfl rfl ?_)
   refine J.assign rfl rfl<|J.nil<|JX.qd<|JX.qS (j+1) ?_ ?_ ?_
   ·omega
   ·exact ⟨rfl,rfl,rfl,rfl,trivial⟩
   ·exact fun w hw=>⟨hlt,by
     first
     | exact (by rw [← wst_byte hB hi2n hbl64 j hlt (by omega),← yw _ _ _ _ (by rw [List.length_set,zo hB hi2n hbl64 j (by omega)];omega),← yw _ _ _ _ (by rw [zo hB hi2n hbl64 j (by omega)];omega)];exact hw)
     | exact (by rw [← wst_pad hB hi2n hbl64 j hlt (by omega),← yw _ _ _ _ (by rw [zo hB hi2n hbl64 j (by omega)];omega)];exact hw)⟩
 ·have hge:j=64:=by simp at h3;omega
  subst hge
  refine JC.qX<|JX.qE<|JX.qE<|JX.qT ?_;refine JX.qd (hK7 _ _ ?_);refine JC.seq (fun K14 hK14=>?_);refine JC.seq (fun K15 hK15=>?_);refine JC.region<|J.qe rfl rfl<|J.qq rfl rfl<|J.qi Ty.fd67_1 rfl rfl<|J.qQ Ty.a3 rfl zm (by exact rfl) rfl ?_;refine J.qj rfl rfl rfl rfl<|J.nil ?_;refine JX.qd (hK15 _ _ ?_)
  first | refine JC.qP rfl ?_ | refine JC.qn rfl (fun _=>?_) (fun h=>by first | (exfalso;simp at h;omega) | (simp at h))
  refine JC.region<|J.qe rfl rfl<|J.qq rfl rfl<|J.qi Ty.fd67_1 rfl rfl<|J.qQ Ty.a3 rfl zm (by exact rfl) rfl ?_
  (first | refine J.zn rfl rfl (by omega) (by omega) rfl ?_ | refine J.qj rfl rfl rfl rfl ?_)
  refine J.qq rfl rfl<|J.qi Ty.fd67_1 rfl rfl<|J.qU Ty.s3 rfl rfl rfl rfl (by simp [Value.oneCell']) zu (by simp) ?_;refine J.nil ?_;refine JX.qd (hK14 _ _ ?_);refine JC.seq (fun K16 hK16=>?_);refine JC.region<|J.qe rfl rfl<|J.qq rfl rfl<|J.qi Ty.fd67_2 rfl rfl<|J.qQ Ty.a3 rfl zm (by exact rfl) rfl ?_
  (first | refine J.qG rfl rfl (by omega) (by omega) rfl ?_ | refine J.qj rfl rfl rfl rfl ?_)
  refine J.qq rfl rfl<|J.qi Ty.fd67_2 rfl rfl<|J.qU Ty.s3 rfl rfl rfl rfl (by simp [Value.oneCell']) zu (by simp) ?_;refine J.nil ?_;refine JX.qd (hK16 _ _ ?_);refine JC.seq (fun K17 hK17=>?_);refine JC.region<|J.assign rfl rfl<|J.nil ?_;refine JX.qd (hK17 _ _ ?_);refine JC.qA ?_;refine JX.qL rfl rfl (fun w hw=>?_)
  rw [wst_all (by omega)] at hw
  exact ⟨rfl,[(q,cb ((put B i.toNat bs).map u8++sp) 5)],⟨by rw [List.length_map,yf hB hi2n hbl64];omega,.inr ⟨q,c0,sp,rfl,rfl,by simp only [List.length_append,List.length_map,yf hB hi2n hbl64,hB] at hcap ⊢;exact hcap,hnc⟩⟩,hw⟩
abbrev rlO (r:Nat) (q:LogP) (down:Bool):Obj:=cb [.pointer (some ⟨r,0,none⟩),.int .u64 ((q.gen:Nat):Int),.int .i64 ((q.used:Nat):Int),.int .i64 ((q.cnt:Nat):Int),.bool down] 83
structure OpSt2 where
 k:Nat
 at_:Nat
 out:List (List UInt8)
 vs:List Value
 v9:Value
 lv:List (Nat × Obj)
 lps:List (Nat × Obj)
 ar:Option Addr
 cr:Nat
abbrev restP (B:List UInt8) (top at_:Nat):List UInt8:=(B.drop (64*at_)).take (64*(top - at_))
theorem rest_get {B:List UInt8} {top at_ n j:Nat} (hB:B.length=64*n) (h1:at_≤top) (h2:top≤n) (hj:j<64*(top - at_)):((restP B top at_).map u8)[j]? = some (u8 (B.getD (64*at_+j) 0)):=by
 rw [List.getElem?_map,List.getElem?_take_of_lt hj,List.getElem?_drop,List.getD_eq_getElem?_getD,List.getElem?_eq_getElem (by omega)];rfl
theorem rest_length {B:List UInt8} {top at_ n:Nat} (hB:B.length=64*n) (h1:at_≤top) (h2:top≤n):(restP B top at_).length=64*(top - at_):=by simp;omega
theorem rest_rec {B:List UInt8} {top at_ sz:Nat} (h:sz+2≤64*(top - at_)):((restP B top at_).drop 2).take sz=(B.drop (64*at_+2)).take sz:=by
 rw [List.drop_take,List.take_take,List.drop_drop,show min sz (64*(top - at_) - 2)=sz by omega]
theorem rest_more {B:List UInt8} {top at_ m:Nat}:((restP B top at_).drop (64*m))=restP B top (at_+m):=by
 rw [List.drop_take,List.drop_drop]
 congr 1
 ·omega
 ·congr 1;omega
theorem size_lt (B:List UInt8) (at_:Nat):sizeAt B at_<65536:=by
 unfold sizeAt
 have:=UInt8.toNat_lt (B.getD (64*at_) 0)
 have:=UInt8.toNat_lt (B.getD (64*at_+1) 0)
 omega
theorem ropen_spec (r n:Nat) (v:Value) (lp:List (Nat × Obj)) (B:List UInt8) (p k:Int) (w:World) (hw0:Own w ((r,rfO v p k)::lp)) (hv:Vec 5 1 v (64*n) (B.map u8) lp) (hB:B.length=64*n) (hn:n≤4096) :
  Calls Try.prog 27 [.pointer (some ⟨r,0,none⟩)].toArray w fun ρ w'=>match openP B n with
   | (e,none)=>ρ=.returned (.tuple #[.pointer none,.slice none 0 0,.int .i64 e])∧Bel w w'
   | (_,some q)=>∃(b:Nat) (v:Value) (vs:List Value) (lv lps:List (Nat × Obj)),ρ=.returned (.tuple #[.pointer (some ⟨b,0,none⟩),v,.int .i64 0])∧Vec 26 1 v q.recs.length vs lv∧Recs 5 vs q.recs lps∧St w [] ((b,rlO r q false)::(lv++lps)) w':=by
 obtain ⟨a0,c0,rfl,hnc0⟩:=hv.form
 have hrow:Row w (.slice a0 (64*n) c0) (64*n) (B.map u8):=hv.row (l:=[(r,rfO (.slice a0 (64*n) c0) p k)]) (hw0.st.perm zp)
 refine qD (args:=[.pointer (some ⟨r,0,none⟩)]) (e:=[(0,.pointer (some ⟨r,0,none⟩))]) Try.func27 rfl rfl ⟨rfl,trivial⟩ (St.start w) ?_;refine JC.seq (fun K0 hK0=>?_);refine JC.region<|J.assign rfl rfl<|J.assign rfl rfl<|J.assign rfl rfl<|J.nil ?_;refine JX.qd (hK0 _ _ ?_);refine JC.seq (fun K1 hK1=>?_);refine JC.region<|J.qe rfl rfl<|J.qq rfl rfl<|J.qi Ty.fd67_0 rfl rfl<|J.zw Ty.a26 rfl (hw0.cell (.head _) rfl) (by simp) rfl ?_;refine J.qK rfl Ty.u26 rfl rfl<|J.ym rfl rfl (by omega) (by omega) (by omega) rfl ?_;refine J.name 19 rfl (congrArg (Value.int .i64) (show ((64*n:Nat):Int) / 64=(n:Int) by omega)) ?_;refine J.assign rfl rfl<|J.nil ?_;refine JX.qd (hK1 _ _ ?_);refine JC.seq (fun K2 hK2=>?_);refine JC.seq (fun K3 hK3=>?_);refine JC.region<|J.qe rfl rfl<|J.qj rfl rfl rfl rfl<|J.nil ?_;refine JX.qd (hK3 _ _ ?_);refine JC.qn rfl (fun h0=>?_) (fun h0=>?_)
 ·have hopen:=openP_small (B:=B) (show n<3 by simp at h0;omega)
  refine JC.seq (fun K4 hK4=>?_);refine JC.region<|J.assign rfl rfl<|J.assign rfl rfl<|J.assign rfl rfl<|J.nil ?_;refine JX.qd (hK4 _ _ ?_);refine JC.qA<|JX.qt ?_;refine JX.q5 rfl rfl rfl rfl (fun w1 hw=>?_)
  rw [hopen]
  first
  | exact ⟨rfl,hw.below⟩
  | exact ⟨b108,v9,vs,lv,lps,rfl,hol ▸ hvo,hro,hw⟩
 ·have hn3:¬n<3:=by simp at h0;omega
  obtain ⟨⟨gen,used,cnt_⟩,hbest⟩:∃x,bestP B 2=x:=⟨_,rfl⟩
  have hgl:gen<18446744073709551616:=by
   have h1:=bestP_lt B 2
   rw [hbest] at h1
   exact h1
  refine JC.skip ?_;refine JX.qd (hK2 _ _ ?_);refine JC.seq (fun K5 hK5=>?_);refine JC.region<|J.qe rfl rfl<|J.qq rfl rfl<|J.qi Ty.fd67_0 rfl rfl<|J.zw Ty.a26 rfl (hw0.cell (.head _) rfl) (by simp) rfl ?_
  refine J.qR (v:=.tuple #[.int .u64 ((gen:Nat):Int),.int .u64 ((used:Nat):Int),.int .u64 ((cnt_:Nat):Int)]) (fun w1 w2 hw hb=>hw.step hb) Ty.bd52 rfl rfl (fun w1 hw=>by
   have h1:=rhead_spec _ (64*n) B w1 (hrow.st (.inr (by simp)) hw) hB (by omega)
   rw [hbest] at h1
   exact h1) ?_
  refine J.qe rfl rfl<|J.extract rfl rfl rfl<|J.extract rfl rfl rfl<|J.extract rfl rfl rfl<|J.assign rfl rfl<|J.assign rfl rfl<|J.assign rfl rfl<|J.nil ?_;refine JX.qd (hK5 _ _ ?_);refine JC.seq (fun K6 hK6=>?_);refine JC.seq (fun K7 hK7=>?_);refine JC.region ?_
  rcases head_cases n (gen,used,cnt_) with hc | ⟨hc0,hc⟩ | ⟨hc0,hc1,hc⟩ | ⟨hc0,hc1,hc2⟩
  ·try simp only at hc
   try simp only at hc0
   try simp only at hc1
   try simp only at hc2
   have hopen:=yE (B:=B) hn3 (by rw [hbest];exact .inl hc)
   refine J.qe rfl rfl<|J.qj rfl rfl rfl rfl<|J.qj rfl rfl rfl rfl<|J.name 33 rfl (congrArg Value.bool ((shr63 gen hgl).trans (decide_eq_true hc)))<|J.qe rfl rfl ?_
   first | refine J.skip rfl rfl rfl rfl rfl ?_ | refine J.qh rfl rfl rfl rfl ?_ | (refine J.qf rfl rfl rfl ?_;refine J.qe rfl rfl ?_)
   first | refine J.skip rfl rfl rfl rfl rfl ?_ | refine J.qh rfl rfl rfl rfl ?_ | (refine J.qf rfl rfl rfl ?_;refine J.qe rfl rfl ?_)
   first | refine J.skip rfl rfl rfl rfl rfl ?_ | refine J.qh rfl rfl rfl rfl ?_ | (refine J.qf rfl rfl rfl ?_;(first | refine J.zn rfl rfl (by omega) (by omega) rfl ?_ | refine J.qj rfl rfl rfl rfl ?_))
   first | refine J.skip rfl rfl rfl rfl rfl ?_ | refine J.qh rfl rfl rfl rfl ?_ | (refine J.qf rfl rfl rfl ?_;refine J.qF Ty.u3 Ty.u81 rfl rfl ?_)
   first | refine J.skip rfl rfl rfl rfl rfl ?_ | refine J.qh rfl rfl rfl rfl ?_ | (refine J.qf rfl rfl rfl ?_;refine J.qj rfl rfl rfl rfl ?_)
   (first | refine J.qr rfl rfl rfl ?_ | refine J.qs rfl rfl rfl ?_)
   refine J.qe rfl rfl ?_
   first | refine J.skip rfl rfl rfl rfl rfl ?_ | refine J.qh rfl rfl rfl rfl ?_ | (refine J.qf rfl rfl rfl ?_;refine J.qe rfl rfl ?_)
   first | refine J.skip rfl rfl rfl rfl rfl ?_ | refine J.qh rfl rfl rfl rfl ?_ | (refine J.qf rfl rfl rfl ?_;refine J.qe rfl rfl ?_)
   first | refine J.skip rfl rfl rfl rfl rfl ?_ | refine J.qh rfl rfl rfl rfl ?_ | (refine J.qf rfl rfl rfl ?_;refine J.qj rfl rfl rfl rfl ?_)
   (first | refine J.qr rfl rfl rfl ?_ | refine J.qs rfl rfl rfl ?_)
   refine J.nil ?_;refine JX.qd (hK7 _ _ ?_)
   first | refine JC.qP rfl ?_ | refine JC.qn rfl (fun _=>?_) (fun h=>by first | (exfalso;simp at h;omega) | (simp at h))
   refine JC.seq (fun K8 hK8=>?_);refine JC.region<|J.assign rfl rfl<|J.assign rfl rfl<|J.assign rfl rfl<|J.nil ?_;refine JX.qd (hK8 _ _ ?_);refine JC.qA<|JX.qt ?_;refine JX.q5 rfl rfl rfl rfl (fun w1 hw=>?_)
   rw [hopen]
   first
   | exact ⟨rfl,hw.below⟩
   | exact ⟨b108,v9,vs,lv,lps,rfl,hol ▸ hvo,hro,hw⟩
  ·try simp only at hc
   try simp only at hc0
   try simp only at hc1
   try simp only at hc2
   have hopen:=yE (B:=B) hn3 (by rw [hbest];exact .inr (.inl hc))
   refine J.qe rfl rfl<|J.qj rfl rfl rfl rfl<|J.qj rfl rfl rfl rfl<|J.name 33 rfl (congrArg Value.bool ((shr63 gen hgl).trans (decide_eq_false hc0)))<|J.qe rfl rfl ?_
   first | refine J.skip rfl rfl rfl rfl rfl ?_ | refine J.qh rfl rfl rfl rfl ?_ | (refine J.qf rfl rfl rfl ?_;refine J.qe rfl rfl ?_)
   first | refine J.skip rfl rfl rfl rfl rfl ?_ | refine J.qh rfl rfl rfl rfl ?_ | (refine J.qf rfl rfl rfl ?_;refine J.qe rfl rfl ?_)
   first | refine J.skip rfl rfl rfl rfl rfl ?_ | refine J.qh rfl rfl rfl rfl ?_ | (refine J.qf rfl rfl rfl ?_;(first | refine J.zn rfl rfl (by omega) (by omega) rfl ?_ | refine J.qj rfl rfl rfl rfl ?_))
   refine J.qf rfl rfl rfl<|J.qF Ty.u3 Ty.u81 rfl rfl<|J.name 38 rfl (congrArg (Value.int .u64) (show _=((n - 2:Nat):Int) by rw [ze (by omega) (by omega)];omega)) ?_;refine J.qf rfl rfl rfl<|J.qj rfl rfl rfl rfl<|J.name 39 rfl (show Value.bool _=.bool true by simp <;> omega) ?_
   (first | refine J.qr rfl rfl rfl ?_ | refine J.qs rfl rfl rfl ?_)
   refine J.qe rfl rfl ?_
   first | refine J.skip rfl rfl rfl rfl rfl ?_ | refine J.qh rfl rfl rfl rfl ?_ | (refine J.qf rfl rfl rfl ?_;refine J.qe rfl rfl ?_)
   first | refine J.skip rfl rfl rfl rfl rfl ?_ | refine J.qh rfl rfl rfl rfl ?_ | (refine J.qf rfl rfl rfl ?_;refine J.qe rfl rfl ?_)
   first | refine J.skip rfl rfl rfl rfl rfl ?_ | refine J.qh rfl rfl rfl rfl ?_ | (refine J.qf rfl rfl rfl ?_;refine J.qj rfl rfl rfl rfl ?_)
   (first | refine J.qr rfl rfl rfl ?_ | refine J.qs rfl rfl rfl ?_)
   refine J.nil ?_;refine JX.qd (hK7 _ _ ?_)
   first | refine JC.qP rfl ?_ | refine JC.qn rfl (fun _=>?_) (fun h=>by first | (exfalso;simp at h;omega) | (simp at h))
   refine JC.seq (fun K9 hK9=>?_);refine JC.region<|J.assign rfl rfl<|J.assign rfl rfl<|J.assign rfl rfl<|J.nil ?_;refine JX.qd (hK9 _ _ ?_);refine JC.qA<|JX.qt ?_;refine JX.q5 rfl rfl rfl rfl (fun w1 hw=>?_)
   rw [hopen]
   first
   | exact ⟨rfl,hw.below⟩
   | exact ⟨b108,v9,vs,lv,lps,rfl,hol ▸ hvo,hro,hw⟩
  ·try simp only at hc
   try simp only at hc0
   try simp only at hc1
   try simp only at hc2
   have hopen:=yE (B:=B) hn3 (by rw [hbest];exact .inr (.inr hc))
   refine J.qe rfl rfl<|J.qj rfl rfl rfl rfl<|J.qj rfl rfl rfl rfl<|J.name 33 rfl (congrArg Value.bool ((shr63 gen hgl).trans (decide_eq_false hc0)))<|J.qe rfl rfl ?_
   first | refine J.skip rfl rfl rfl rfl rfl ?_ | refine J.qh rfl rfl rfl rfl ?_ | (refine J.qf rfl rfl rfl ?_;refine J.qe rfl rfl ?_)
   first | refine J.skip rfl rfl rfl rfl rfl ?_ | refine J.qh rfl rfl rfl rfl ?_ | (refine J.qf rfl rfl rfl ?_;refine J.qe rfl rfl ?_)
   first | refine J.skip rfl rfl rfl rfl rfl ?_ | refine J.qh rfl rfl rfl rfl ?_ | (refine J.qf rfl rfl rfl ?_;(first | refine J.zn rfl rfl (by omega) (by omega) rfl ?_ | refine J.qj rfl rfl rfl rfl ?_))
   refine J.qf rfl rfl rfl<|J.qF Ty.u3 Ty.u81 rfl rfl<|J.name 38 rfl (congrArg (Value.int .u64) (show _=((n - 2:Nat):Int) by rw [ze (by omega) (by omega)];omega)) ?_;refine J.qf rfl rfl rfl<|J.qj rfl rfl rfl rfl<|J.name 39 rfl (show Value.bool _=.bool false by simp <;> omega) ?_
   (first | refine J.qr rfl rfl rfl ?_ | refine J.qs rfl rfl rfl ?_)
   refine J.qe rfl rfl ?_
   first | refine J.skip rfl rfl rfl rfl rfl ?_ | refine J.qh rfl rfl rfl rfl ?_ | (refine J.qf rfl rfl rfl ?_;refine J.qe rfl rfl ?_)
   first | refine J.skip rfl rfl rfl rfl rfl ?_ | refine J.qh rfl rfl rfl rfl ?_ | (refine J.qf rfl rfl rfl ?_;refine J.qe rfl rfl ?_)
   refine J.qf rfl rfl rfl<|J.qj rfl rfl rfl rfl<|J.name 44 rfl (show Value.bool _=.bool true by simp <;> omega) ?_
   (first | refine J.qr rfl rfl rfl ?_ | refine J.qs rfl rfl rfl ?_)
   refine J.nil ?_;refine JX.qd (hK7 _ _ ?_)
   first | refine JC.qP rfl ?_ | refine JC.qn rfl (fun _=>?_) (fun h=>by first | (exfalso;simp at h;omega) | (simp at h))
   refine JC.seq (fun K10 hK10=>?_);refine JC.region<|J.assign rfl rfl<|J.assign rfl rfl<|J.assign rfl rfl<|J.nil ?_;refine JX.qd (hK10 _ _ ?_);refine JC.qA<|JX.qt ?_;refine JX.q5 rfl rfl rfl rfl (fun w1 hw=>?_)
   rw [hopen]
   first
   | exact ⟨rfl,hw.below⟩
   | exact ⟨b108,v9,vs,lv,lps,rfl,hol ▸ hvo,hro,hw⟩
  ·try simp only at hc
   try simp only at hc0
   try simp only at hc1
   try simp only at hc2
   have hgood:¬badHead n (gen,used,cnt_):=by unfold badHead;simp only;omega
   have hul:used≤4096:=by omega
   refine J.qe rfl rfl<|J.qj rfl rfl rfl rfl<|J.qj rfl rfl rfl rfl<|J.name 33 rfl (congrArg Value.bool ((shr63 gen hgl).trans (decide_eq_false hc0)))<|J.qe rfl rfl ?_
   first | refine J.skip rfl rfl rfl rfl rfl ?_ | refine J.qh rfl rfl rfl rfl ?_ | (refine J.qf rfl rfl rfl ?_;refine J.qe rfl rfl ?_)
   first | refine J.skip rfl rfl rfl rfl rfl ?_ | refine J.qh rfl rfl rfl rfl ?_ | (refine J.qf rfl rfl rfl ?_;refine J.qe rfl rfl ?_)
   first | refine J.skip rfl rfl rfl rfl rfl ?_ | refine J.qh rfl rfl rfl rfl ?_ | (refine J.qf rfl rfl rfl ?_;(first | refine J.zn rfl rfl (by omega) (by omega) rfl ?_ | refine J.qj rfl rfl rfl rfl ?_))
   refine J.qf rfl rfl rfl<|J.qF Ty.u3 Ty.u81 rfl rfl<|J.name 38 rfl (congrArg (Value.int .u64) (show _=((n - 2:Nat):Int) by rw [ze (by omega) (by omega)];omega)) ?_;refine J.qf rfl rfl rfl<|J.qj rfl rfl rfl rfl<|J.name 39 rfl (show Value.bool _=.bool false by simp <;> omega) ?_
   (first | refine J.qr rfl rfl rfl ?_ | refine J.qs rfl rfl rfl ?_)
   refine J.qe rfl rfl ?_
   first | refine J.skip rfl rfl rfl rfl rfl ?_ | refine J.qh rfl rfl rfl rfl ?_ | (refine J.qf rfl rfl rfl ?_;refine J.qe rfl rfl ?_)
   first | refine J.skip rfl rfl rfl rfl rfl ?_ | refine J.qh rfl rfl rfl rfl ?_ | (refine J.qf rfl rfl rfl ?_;refine J.qe rfl rfl ?_)
   refine J.qf rfl rfl rfl<|J.qj rfl rfl rfl rfl<|J.name 44 rfl (show Value.bool _=.bool false by simp <;> omega) ?_
   (first | refine J.qr rfl rfl rfl ?_ | refine J.qs rfl rfl rfl ?_)
   refine J.nil ?_;refine JX.qd (hK7 _ _ ?_)
   first | refine JC.qI rfl ?_ | refine JC.qn rfl (fun h=>by first | (exfalso;simp at h;omega) | (simp at h)) (fun _=>?_)
   refine JC.skip ?_;refine JX.qd (hK6 _ _ ?_);refine JC.seq (fun K11 hK11=>?_);refine JC.region<|J.assign rfl rfl<|J.nil ?_;refine JX.qd (hK11 _ _ ?_);refine JC.seq (fun K12 hK12=>?_);refine JC.region<|J.qe rfl rfl<|J.qq rfl rfl<|J.qi Ty.fd67_0 rfl rfl<|J.zw Ty.a26 rfl (hw0.cell (.head _) rfl) (by simp) rfl ?_;refine J.qe rfl rfl<|J.qF Ty.u81 Ty.u3 rfl rfl<|J.name 51 rfl (congrArg (Value.int .i64) (show _=((used:Nat):Int) from qV (by omega) (by omega))) ?_
   (first | refine J.zO rfl rfl (by omega) (by omega) rfl ?_ | refine J.qj rfl rfl rfl rfl ?_)
   refine J.qG rfl rfl (by omega) (by omega) rfl ?_;refine J.name 53 rfl (show Value.int .i64 _=.int .i64 ((128+64*used:Nat):Int) by congr 1) ?_;refine J.zx (i:=128) (j:=128+64*used) Ty.el26 Ty.s5 rfl rfl rfl (by simp [bnd]) rfl (by omega) (by omega) (by omega) rfl ?_
   have hrest0:Row w (.slice (if c0=128 then a0 else a0.map (·.add (128*1))) (64*(2+used - 2)) (c0 - 128)) (64*(2+used - 2)) ((restP B (2+used) 2).map u8):=by
    have h1:=hrow.slice (sz:=1) (i:=128) (j:=128+64*used) (by simp [hB]) (by omega) (by omega)
    rw [Nat.mul_one,← List.map_drop,← List.map_take,show (128+64*used - 128)*1=64*(2+used - 2) by omega,show 128+64*used - 128=64*(2+used - 2) by omega] at h1
    exact h1
   rw [show 128+64*used - 128=64*(2+used - 2) by omega]
   refine J.assign rfl rfl<|J.nil ?_;refine JX.qd (hK12 _ _ ?_);refine JC.seq (fun K13 hK13=>?_);refine JC.seq (fun K14 hK14=>?_);refine JC.region<|J.assign rfl rfl<|J.nil ?_;refine JX.qd (hK14 _ _ ?_);refine JC.block ?_
   refine JC.conseq (JC.cov (f:=(fun st=>[(0,.pointer (some ⟨r,0,none⟩)),(5,.int .i64 ((n:Nat):Int)),(6,.int .u64 ((gen:Nat):Int)),(7,.int .u64 ((used:Nat):Int)),(8,.int .u64 ((cnt_:Nat):Int)),(9,st.v9),(10,.slice st.ar (64*(2+used - st.at_)) st.cr),(11,.int .u64 ((st.k:Nat):Int))]) (⟨0,2,[],[],.slice none 0 0,[],[],if c0=128 then a0 else a0.map (·.add (128*1)),c0 - 128⟩:OpSt2)) ⟨rfl,rfl,rfl,rfl,rfl,rfl,rfl,rfl,trivial⟩ (JC.loop (α:=OpSt2) (fun st=>[(0,.pointer (some ⟨r,0,none⟩)),(5,.int .i64 ((n:Nat):Int)),(6,.int .u64 ((gen:Nat):Int)),(7,.int .u64 ((used:Nat):Int)),(8,.int .u64 ((cnt_:Nat):Int)),(9,st.v9),(10,.slice st.ar (64*(2+used - st.at_)) st.cr),(11,.int .u64 ((st.k:Nat):Int))]) (fun st w'=>(st.k≤cnt_∧2≤st.at_∧st.at_≤2+used∧st.out.length=st.k∧Vec 26 1 st.v9 st.k st.vs st.lv∧Recs 5 st.vs st.out st.lps∧parseS B (2+used) cnt_ 2=(parseS B (2+used) (cnt_ - st.k) st.at_).map (st.out++·)∧Row w (.slice st.ar (64*(2+used - st.at_)) st.cr) (64*(2+used - st.at_)) ((restP B (2+used) st.at_).map u8))∧St w [] (st.lv++st.lps) w') (fun st=>cnt_ - st.k) (⟨0,2,[],[],.slice none 0 0,[],[],if c0=128 then a0 else a0.map (·.add (128*1)),c0 - 128⟩:OpSt2) (fun st=>?_))) (fun w hw=>⟨⟨Nat.zero_le _,Nat.le_refl _,by show 2≤2+used;omega,rfl,Vec.nil _ _,.nil,by simp,hrest0⟩,hw⟩)
   obtain ⟨k1,at_,out,vs,v9,lv,lps,ar,cr⟩:=st
   refine JC.pr (fun hx=>?_)
   obtain ⟨hk,hat,hat2,hol,hvo,hro,hpar,hrest⟩:=hx
   simp only at hk hat hat2 hol hvo hro hpar hrest ⊢
   refine JC.seq (fun K15 hK15=>?_);refine JC.seq (fun K16 hK16=>?_);refine JC.region<|J.qe rfl rfl<|J.qe rfl rfl<|J.qj rfl rfl rfl rfl<|J.nil ?_;refine JX.qd (hK16 _ _ ?_);refine JC.qn rfl (fun h2=>?_) (fun h2=>?_)
   ·have hlt:k1<cnt_:=by simp at h2;omega
    have hsuc:cnt_ - k1=(cnt_ - (k1+1))+1:=by omega
    refine JC.skip ?_;refine JX.qd (hK15 _ _ ?_);refine JC.seq (fun K17 hK17=>?_);refine JC.block ?_;refine JC.seq (fun K18 hK18=>?_);refine JC.seq (fun K19 hK19=>?_);refine JC.region<|J.qe rfl rfl<|J.qK rfl Ty.u26 rfl rfl<|J.qj rfl rfl rfl rfl<|J.nil ?_;refine JX.qd (hK19 _ _ ?_);refine JC.qn rfl (fun h3=>?_) (fun h3=>?_)
    ·have hopen:=zZ (B:=B) hn3 hbest (by rw [hpar,hsuc,parseS,if_pos (by simp at h3;omega)];rfl)
     refine JC.seq (fun K20 hK20=>?_);refine JC.region<|J.assign rfl rfl<|J.assign rfl rfl<|J.assign rfl rfl<|J.nil ?_;refine JX.qd (hK20 _ _ ?_);refine JC.qA<|JX.qt<|JX.qH<|JX.qt<|JX.qt<|JX.qH<|JX.qt ?_;refine JX.q5 rfl rfl rfl rfl (fun w1 hw=>?_)
     rw [hopen]
     first
     | exact ⟨rfl,hw.below⟩
     | exact ⟨b108,v9,vs,lv,lps,rfl,hol ▸ hvo,hro,hw⟩
    ·have hlt5:at_<2+used:=by simp at h3;omega
     have hrel:=rest_length (top:=2+used) (at_:=at_) hB (by omega) (by omega)
     obtain ⟨qb,qo,c',hqe,hcr,hcl⟩:=Row.some hrest (by rw [List.length_map,hrel];omega)
     simp only [Value.slice.injEq,true_and] at hqe
     obtain ⟨rfl,rfl⟩:=hqe
     refine JC.skip ?_;refine JX.qd (hK18 _ _ ?_);refine JC.seq (fun K21 hK21=>?_)
     apply JC.zc 10 [Eqv (_),Eqv (_),Eqv (_),Eqv (_),Eqv (_),Eqv (_),Eqv (_),Eqv (_),Eqv (_),Eqv (_)] Ty.mixed rfl rfl rfl (by kernel_rfl) rfl rfl (fun w w' hw hb=>hw.step hb) ⟨fun _ _ _ h _=>h,fun _ _ _ h _=>h,fun _ _ _ h _=>h,fun _ _ _ h _=>h,fun _ _ _ h _=>h,fun _ _ _ h _=>h,fun _ _ _ h _=>h,fun _ _ _ h _=>h,fun _ _ _ h _=>h,fun _ _ _ h _=>h,trivial⟩ ?hstep ?htail
     case hstep=>
      refine ⟨fun wi=>?_,fun wi=>?_,fun wi=>?_,fun wi=>?_,fun wi=>?_,fun wi=>?_,fun wi=>?_,fun wi=>?_,fun wi=>?_,fun wi=>?_,trivial⟩
      ·refine Fin.nil<|J.qe rfl rfl ?_
       exact J.qm rfl
      ·refine Fin.qc rfl (Fin.nil ?_);refine J.qu Ty.el26 Ty.s5 rfl rfl (by omega) (by omega) rfl ?_
       exact J.qm rfl
      ·refine Fin.qc rfl (Fin.nil ?_);refine J.qw (v:=u8 (B.getD (64*at_) 0)) Ty.a5 rfl (fun w1 hw=>(hcl.st (by rw [List.length_map,hrel];omega) hw.2).get (rest_get hB (by omega) (by omega) (j:=0) (by omega)) (by simp)) rfl ?_
       exact J.qm rfl
      ·refine Fin.qc rfl (Fin.nil ?_);refine J.qF Ty.u5 Ty.u3 rfl rfl<|J.name 66 rfl (congrArg (Value.int .i64) (show _=(((B.getD (64*at_) 0).toNat:Nat):Int) from qV (by omega) (by have:=UInt8.toNat_lt (B.getD (64*at_) 0);omega))) ?_
       exact J.qm rfl
      ·refine Fin.qc rfl (Fin.nil ?_);refine J.zO rfl rfl (by omega) (by have:=UInt8.toNat_lt (B.getD (64*at_) 0);omega) rfl ?_
       exact J.qm rfl
      ·refine Fin.nil<|J.qe rfl rfl ?_
       exact J.qm rfl
      ·refine Fin.qc rfl (Fin.nil ?_);refine J.qu Ty.el26 Ty.s5 rfl rfl (by omega) (by omega) rfl ?_
       exact J.qm rfl
      ·refine Fin.qc rfl (Fin.nil ?_);refine J.qw (v:=u8 (B.getD (64*at_+1) 0)) Ty.a5 rfl (fun w1 hw=>(hcl.st (by rw [List.length_map,hrel];omega) hw.2).get (rest_get hB (by omega) (by omega) (j:=1) (by omega)) (by simp)) rfl ?_
       exact J.qm rfl
      ·refine Fin.qc rfl (Fin.nil ?_);refine J.qF Ty.u5 Ty.u3 rfl rfl<|J.name 71 rfl (congrArg (Value.int .i64) (show _=(((B.getD (64*at_+1) 0).toNat:Nat):Int) from qV (by omega) (by have:=UInt8.toNat_lt (B.getD (64*at_+1) 0);omega))) ?_
       exact J.qm rfl
      ·refine Fin.qc rfl (Fin.qc rfl (Fin.nil ?_))
       refine J.qG rfl rfl (by omega) (by have:=UInt8.toNat_lt (B.getD (64*at_) 0);have:=UInt8.toNat_lt (B.getD (64*at_+1) 0);omega) rfl ?_;refine J.name 72 rfl (show _=Value.int .i64 ((sizeAt B at_:Nat):Int) by unfold sizeAt;congr 1) ?_
       exact J.qm rfl
     case htail=>
      refine Fin.qc rfl (Fin.qc rfl (Fin.qc rfl (Fin.qc rfl (Fin.qc rfl (Fin.qc rfl (Fin.qc rfl (Fin.qc rfl (Fin.qc rfl (Fin.qc rfl (Fin.nil ?_))))))))))
      refine J.assign rfl rfl<|J.nil ?_;refine JX.qd (hK21 _ _ ?_);refine JC.seq (fun K22 hK22=>?_);refine JC.region ?_
      have hszb:=size_lt B at_
      refine J.qe rfl rfl ?_
      (first | refine J.qG rfl rfl (by omega) (by omega) rfl ?_ | refine J.qj rfl rfl rfl rfl ?_)
      (first | refine J.qG rfl rfl (by omega) (by omega) rfl ?_ | refine J.qj rfl rfl rfl rfl ?_)
      (first | refine J.ym rfl rfl (by omega) (by omega) (by omega) rfl ?_ | refine J.qj rfl rfl rfl rfl ?_)
      refine J.zO rfl rfl (by omega) (by omega) rfl ?_;refine J.name 77 rfl (congrArg (Value.int .i64) (show _=((64*needN (sizeAt B at_):Nat):Int) by unfold needN;omega)) ?_;refine J.assign rfl rfl<|J.nil ?_;refine JX.qd (hK22 _ _ ?_);refine JC.seq (fun K23 hK23=>?_);refine JC.seq (fun K24 hK24=>?_);refine JC.region ?_
      rcases size_cases (sizeAt B at_) (2+used) at_ with hc | ⟨hz1,hc⟩ | ⟨hz1,hz2⟩
      ·have hopen:=zZ (B:=B) hn3 hbest (by rw [hpar,hsuc,parseS,if_neg (by omega),if_pos (.inl hc)];rfl)
       refine J.qe rfl rfl<|J.qj rfl rfl rfl rfl<|J.name 79 rfl (show Value.bool _=.bool true by simp <;> omega) ?_;refine J.qe rfl rfl ?_
       first | refine J.skip rfl rfl rfl rfl rfl ?_ | refine J.qh rfl rfl rfl rfl ?_ | (refine J.qf rfl rfl rfl ?_;refine J.qe rfl rfl ?_)
       first | refine J.skip rfl rfl rfl rfl rfl ?_ | refine J.qh rfl rfl rfl rfl ?_ | (refine J.qf rfl rfl rfl ?_;refine J.qe rfl rfl ?_)
       first | refine J.skip rfl rfl rfl rfl rfl ?_ | refine J.qh rfl rfl rfl rfl ?_ | (refine J.qf rfl rfl rfl ?_;refine J.qK rfl Ty.u26 rfl rfl ?_)
       first | refine J.skip rfl rfl rfl rfl rfl ?_ | refine J.qh rfl rfl rfl rfl ?_ | (refine J.qf rfl rfl rfl ?_;refine J.qj rfl rfl rfl rfl ?_)
       (first | refine J.qr rfl rfl rfl ?_ | refine J.qs rfl rfl rfl ?_)
       refine J.nil ?_;refine JX.qd (hK24 _ _ ?_)
       first | refine JC.qP rfl ?_ | refine JC.qn rfl (fun _=>?_) (fun h=>by first | (exfalso;simp at h;omega) | (simp at h))
       refine JC.seq (fun K25 hK25=>?_);refine JC.region<|J.assign rfl rfl<|J.assign rfl rfl<|J.assign rfl rfl<|J.nil ?_;refine JX.qd (hK25 _ _ ?_);refine JC.qA<|JX.qt<|JX.qH<|JX.qt<|JX.qt<|JX.qH<|JX.qt ?_;refine JX.q5 rfl rfl rfl rfl (fun w1 hw=>?_)
       rw [hopen]
       first
       | exact ⟨rfl,hw.below⟩
       | exact ⟨b108,v9,vs,lv,lps,rfl,hol ▸ hvo,hro,hw⟩
      ·have hopen:=zZ (B:=B) hn3 hbest (by rw [hpar,hsuc,parseS,if_neg (by omega),if_pos (.inr hc)];rfl)
       refine J.qe rfl rfl<|J.qj rfl rfl rfl rfl<|J.name 79 rfl (show Value.bool _=.bool false by simp <;> omega) ?_;refine J.qe rfl rfl ?_
       first | refine J.skip rfl rfl rfl rfl rfl ?_ | refine J.qh rfl rfl rfl rfl ?_ | (refine J.qf rfl rfl rfl ?_;refine J.qe rfl rfl ?_)
       first | refine J.skip rfl rfl rfl rfl rfl ?_ | refine J.qh rfl rfl rfl rfl ?_ | (refine J.qf rfl rfl rfl ?_;refine J.qe rfl rfl ?_)
       first | refine J.skip rfl rfl rfl rfl rfl ?_ | refine J.qh rfl rfl rfl rfl ?_ | (refine J.qf rfl rfl rfl ?_;refine J.qK rfl Ty.u26 rfl rfl ?_)
       refine J.qf rfl rfl rfl<|J.qj rfl rfl rfl rfl<|J.name 84 rfl (show Value.bool _=.bool true by simp <;> omega) ?_
       (first | refine J.qr rfl rfl rfl ?_ | refine J.qs rfl rfl rfl ?_)
       refine J.nil ?_;refine JX.qd (hK24 _ _ ?_)
       first | refine JC.qP rfl ?_ | refine JC.qn rfl (fun _=>?_) (fun h=>by first | (exfalso;simp at h;omega) | (simp at h))
       refine JC.seq (fun K26 hK26=>?_);refine JC.region<|J.assign rfl rfl<|J.assign rfl rfl<|J.assign rfl rfl<|J.nil ?_;refine JX.qd (hK26 _ _ ?_);refine JC.qA<|JX.qt<|JX.qH<|JX.qt<|JX.qt<|JX.qH<|JX.qt ?_;refine JX.q5 rfl rfl rfl rfl (fun w1 hw=>?_)
       rw [hopen]
       first
       | exact ⟨rfl,hw.below⟩
       | exact ⟨b108,v9,vs,lv,lps,rfl,hol ▸ hvo,hro,hw⟩
      ·have hnb:=@need_bounds (sizeAt B at_)
       have hrl:((B.drop (64*at_+2)).take (sizeAt B at_)).length=sizeAt B at_:=by simp;omega
       refine J.qe rfl rfl<|J.qj rfl rfl rfl rfl<|J.name 79 rfl (show Value.bool _=.bool false by simp <;> omega) ?_;refine J.qe rfl rfl ?_
       first | refine J.skip rfl rfl rfl rfl rfl ?_ | refine J.qh rfl rfl rfl rfl ?_ | (refine J.qf rfl rfl rfl ?_;refine J.qe rfl rfl ?_)
       first | refine J.skip rfl rfl rfl rfl rfl ?_ | refine J.qh rfl rfl rfl rfl ?_ | (refine J.qf rfl rfl rfl ?_;refine J.qe rfl rfl ?_)
       first | refine J.skip rfl rfl rfl rfl rfl ?_ | refine J.qh rfl rfl rfl rfl ?_ | (refine J.qf rfl rfl rfl ?_;refine J.qK rfl Ty.u26 rfl rfl ?_)
       refine J.qf rfl rfl rfl<|J.qj rfl rfl rfl rfl<|J.name 84 rfl (show Value.bool _=.bool false by simp <;> omega) ?_
       (first | refine J.qr rfl rfl rfl ?_ | refine J.qs rfl rfl rfl ?_)
       refine J.nil ?_;refine JX.qd (hK24 _ _ ?_)
       first | refine JC.qI rfl ?_ | refine JC.qn rfl (fun h=>by first | (exfalso;simp at h;omega) | (simp at h)) (fun _=>?_)
       refine JC.skip ?_;refine JX.qd (hK23 _ _ ?_);refine JC.seq (fun K27 hK27=>?_);refine JC.region<|J.qe rfl rfl ?_;refine J.za Ty.el26 Ty.s5 Ty.z5 rfl rfl rfl rfl rfl rfl rfl (fun b87=>?_);refine J.qe rfl rfl<|J.qe rfl rfl<|J.qG rfl rfl (by omega) (by omega) rfl ?_;refine J.name 90 rfl (show Value.int .i64 _=.int .i64 ((2+sizeAt B at_:Nat):Int) by congr 1) ?_;refine J.zx (i:=2) (j:=2+sizeAt B at_) Ty.el26 Ty.s5 rfl rfl rfl (by simp [bnd]) rfl (by omega) (by omega) (by omega) rfl ?_;refine J.qZ (lp:=[(b87,cb [] 5)]) (xs:=[]) (ys:=((B.drop (64*at_+2)).take (sizeAt B at_)).map u8) (k:=0) (m:=2+sizeAt B at_ - 2) Ty.el26 Ty.s5 Ty.b5 Ty.z5 rfl (.inl ⟨5,Ty.u26⟩) rfl rfl ⟨rfl,.inr ⟨b87,0,[],rfl,rfl,rfl,Nat.le_refl _⟩⟩ (fun w1 hw=>.inl ?_) (by rw [List.length_map,hrl];omega) (zk _) (by omega) (by omega) rfl (fun v92 lp92 hv92=>?_)
       ·have h1:=(hrest.st (.inr (by simp)) hw).slice (sz:=1) (i:=2) (j:=2+sizeAt B at_) (by rw [List.length_map,hrel,Nat.mul_one]) (by omega) (by omega)
        rw [Nat.mul_one,Nat.mul_one,← List.map_drop,← List.map_take,show 2+sizeAt B at_ - 2=sizeAt B at_ by omega,rest_rec (by omega)] at h1
        rw [show 2+sizeAt B at_ - 2=sizeAt B at_ by omega]
        exact h1
       rw [List.nil_append,show 0+(2+sizeAt B at_ - 2)=sizeAt B at_ by omega] at hv92
       obtain ⟨a92,c92,rfl,hc92⟩:=hv92.form
       refine J.za Ty.el57 Ty.s26 Ty.z26 rfl rfl rfl rfl rfl rfl rfl (fun b93=>?_);refine J.perm ((b93,cb [.slice a92 (sizeAt B at_) c92] 26)::(lp92++(lv++lps))) (.refl _)<|J.perm (lv++([(b93,cb [.slice a92 (sizeAt B at_) c92] 26)]++(lp92++lps))) zp ?_;refine J.qZ (lp:=lv) (ys:=[.slice a92 (sizeAt B at_) c92]) (m:=1) Ty.el57 Ty.s26 Ty.b26 Ty.z26 rfl (.inl ⟨26,Ty.u57⟩) rfl rfl hvo (fun w1 hw=>.inl (Row.own (cs:=[.slice a92 (sizeAt B at_) c92]) (tb:=26) (fr:=(0,0)) hw (List.mem_append_right _ (.head _)) rfl (Nat.le_refl _))) rfl (by simp [Value.oneCell']) (by omega) (by omega) rfl (fun v94 lv94 hv94=>?_)
       have hpar2:parseS B (2+used) cnt_ 2=(parseS B (2+used) (cnt_ - (k1+1)) (at_+needN (sizeAt B at_))).map (fun x=>(out++[(B.drop (64*at_+2)).take (sizeAt B at_)])++x):=by
        rw [hpar,hsuc,parseS,if_neg (by omega),if_neg (by omega),Option.map_map]
        congr 1
        funext x
        simp
       refine J.assign rfl rfl<|J.nil ?_;refine JX.qd (hK27 _ _ ?_);refine JC.region<|J.qe rfl rfl<|J.qe rfl rfl<|J.zx (i:=64*needN (sizeAt B at_)) (j:=64*(2+used - at_)) Ty.el26 Ty.s5 rfl rfl rfl (by simp only [bnd];rw [if_pos (by omega)];congr 1 <;> omega) rfl (by omega) hrest.cap hrest.cap rfl ?_
       have hrest2:=hrest.slice (sz:=1) (i:=64*needN (sizeAt B at_)) (j:=64*(2+used - at_)) (by rw [List.length_map,hrel,Nat.mul_one]) (by omega) (Nat.le_refl _)
       rw [Nat.mul_one,Nat.mul_one,← List.map_drop,rest_more,show 64*(2+used - at_) - 64*needN (sizeAt B at_)=64*(2+used - (at_+needN (sizeAt B at_))) by omega,List.take_of_length_le (by rw [List.length_map,rest_length hB (by omega) (by omega)];omega)] at hrest2
       rw [show 64*(2+used - at_) - 64*needN (sizeAt B at_)=64*(2+used - (at_+needN (sizeAt B at_))) by omega,Nat.mul_one]
       refine J.assign rfl rfl<|J.nil<|JX.qJ ?_;refine JX.qd (hK17 _ _ ?_);refine JC.region<|J.qe rfl rfl<|J.qj rfl rfl rfl rfl<|J.name 59 rfl (congrArg (Value.int .u64) (show _=((k1+1:Nat):Int) from ze (by omega) (by omega))) ?_;refine J.assign rfl rfl<|J.nil<|JX.qd<|JX.qS (⟨k1+1,at_+needN (sizeAt B at_),out++[(B.drop (64*at_+2)).take (sizeAt B at_)],vs++[.slice a92 (sizeAt B at_) c92],v94,lv94,lps++lp92,if cr=64*needN (sizeAt B at_) then some ⟨qb,qo,none⟩ else (some ⟨qb,qo,none⟩:Option Addr).map (·.add (64*needN (sizeAt B at_))),cr - 64*needN (sizeAt B at_)⟩:OpSt2) ?_ ?_ ?_
       ·simp only;omega
       ·exact ⟨rfl,rfl,rfl,rfl,rfl,rfl,rfl,rfl,trivial⟩
       ·exact fun w1 hw=>⟨⟨hlt,by simp only;omega,by simp only;omega,by simp [hol],hv94,.snoc hro (by rw [hrl];exact hv92),hpar2,hrest2⟩,St.drop (St.perm (l':=[(b93,cb [.slice a92 (sizeAt B at_) c92] 26)]++(lv94++(lps++lp92))) hw zp) (List.sublist_append_right _ _)⟩
   ·obtain rfl:cnt_=k1:=by simp at h2;omega
    rw [Nat.sub_self] at hpar
    refine JC.qX<|JX.qE<|JX.qE<|JX.qT ?_;refine JX.qd (hK13 _ _ ?_);refine JC.seq (fun K28 hK28=>?_);refine JC.seq (fun K29 hK29=>?_);refine JC.region<|J.qe rfl rfl<|J.qK rfl Ty.u26 rfl rfl<|J.qj rfl rfl rfl rfl<|J.nil ?_;refine JX.qd (hK29 _ _ ?_);refine JC.qn rfl (fun h5=>?_) (fun h5=>?_)
    ·have hopen:=zZ (B:=B) hn3 hbest (by rw [hpar,parseS,if_neg (by simp at h5;omega)];rfl)
     refine JC.seq (fun K30 hK30=>?_);refine JC.region<|J.assign rfl rfl<|J.assign rfl rfl<|J.assign rfl rfl<|J.nil ?_;refine JX.qd (hK30 _ _ ?_);refine JC.qA<|JX.qt ?_;refine JX.q5 rfl rfl rfl rfl (fun w1 hw=>?_)
     rw [hopen]
     first
     | exact ⟨rfl,hw.below⟩
     | exact ⟨b108,v9,vs,lv,lps,rfl,hol ▸ hvo,hro,hw⟩
    ·have hopen:=openP_some (B:=B) hn3 hbest hgood (rs:=out) (by rw [hpar,parseS,if_pos (by simp at h5;omega)];simp)
     refine JC.skip ?_;refine JX.qd (hK28 _ _ ?_);refine JC.seq (fun K31 hK31=>?_);refine JC.region<|J.qe rfl rfl<|J.qe rfl rfl<|J.qe rfl rfl<|J.qF Ty.u81 Ty.u3 rfl rfl<|J.name 104 rfl (congrArg (Value.int .i64) (show _=((used:Nat):Int) from qV (by omega) (by omega))) ?_;refine J.qe rfl rfl<|J.qF Ty.u81 Ty.u3 rfl rfl<|J.name 106 rfl (congrArg (Value.int .i64) (show _=((cnt_:Nat):Int) from qV (by omega) (by omega))) ?_;refine J.qY Ty.pl83 Ty.z83 rfl rfl rfl ?_;refine J.box rfl rfl rfl (fun b108=>?_);refine J.qe rfl rfl<|J.assign rfl rfl<|J.assign rfl rfl<|J.assign rfl rfl<|J.nil ?_;refine JX.qd (hK31 _ _ ?_);refine JC.qA ?_;refine JX.q5 rfl rfl rfl rfl (fun w1 hw=>?_)
     rw [hopen]
     first
     | exact ⟨rfl,hw.below⟩
     | exact ⟨b108,v9,vs,lv,lps,rfl,hol ▸ hvo,hro,hw⟩
set_option maxRecDepth 8000
structure DS where
 B:List UInt8
 p:Int
 k:Int
def dw (σ:DS) (i:Nat) (bs:List UInt8):DS:=⟨put σ.B i bs,if 0<σ.p then σ.p - 1 else σ.p,σ.k+1⟩
def dws (σ:DS):List (Nat × List UInt8)→DS × Bool
 | []=>(σ,true)
 | x::xs=>if σ.p=0 then (σ,false) else dws (dw σ x.1 x.2) xs
def payload (rec_:List UInt8):List UInt8:=[UInt8.ofNat (rec_.length / 256),UInt8.ofNat (rec_.length%256)]++rec_
def piece (pay:List UInt8) (i:Nat):List UInt8:=(pay.drop (64*i)).take 64
def planP (gen used cnt_:Nat) (rec_:List UInt8):List (Nat × List UInt8):=
 (List.range (needN rec_.length)).map (fun i=>(2+used+i,piece (payload rec_) i))++[((gen+1)%2,[gen+1,used+needN rec_.length,cnt_+1].flatMap be8)]
def appendP (n:Nat) (q:LogP) (down:Bool) (σ:DS) (rec_:List UInt8):Int × LogP × Bool × DS:=
 if down then (8,q,true,σ) else
 if 1024<rec_.length then (4,q,false,σ) else
 if n - 2 - q.used<needN rec_.length then (5,q,false,σ) else
 match dws σ (planP q.gen q.used q.cnt rec_) with
 | (σ',true)=>(0,⟨q.gen+1,q.used+needN rec_.length,q.cnt+1,q.recs++[rec_]⟩,false,σ')
 | (σ',false)=>(8,q,true,σ')
theorem appendP_down {n:Nat} {q:LogP} {σ:DS} {rec_:List UInt8}:appendP n q true σ rec_=(8,q,true,σ):=rfl
theorem appendP_long {n:Nat} {q:LogP} {σ:DS} {rec_:List UInt8} (h:1024<rec_.length):appendP n q false σ rec_=(4,q,false,σ):=by
 rw [appendP,if_neg (by simp),if_pos h]
theorem appendP_full {n:Nat} {q:LogP} {σ:DS} {rec_:List UInt8} (h:¬1024<rec_.length) (h2:n - 2 - q.used<needN rec_.length):appendP n q false σ rec_=(5,q,false,σ):=by
 rw [appendP,if_neg (by simp),if_neg h,if_pos h2]
theorem yY {n:Nat} {q:LogP} {σ σ':DS} {rec_:List UInt8} (h:¬1024<rec_.length) (h2:¬n - 2 - q.used<needN rec_.length) (hd:dws σ (planP q.gen q.used q.cnt rec_)=(σ',false)):appendP n q false σ rec_=(8,q,true,σ'):=by
 rw [appendP,if_neg (by simp),if_neg h,if_neg h2,hd]
theorem appendP_ok {n:Nat} {q:LogP} {σ σ':DS} {rec_:List UInt8} (h:¬1024<rec_.length) (h2:¬n - 2 - q.used<needN rec_.length) (hd:dws σ (planP q.gen q.used q.cnt rec_)=(σ',true)) :
  appendP n q false σ rec_=(0,⟨q.gen+1,q.used+needN rec_.length,q.cnt+1,q.recs++[rec_]⟩,false,σ'):=by
 rw [appendP,if_neg (by simp),if_neg h,if_neg h2,hd]
theorem zA (rec_:List UInt8):(payload rec_).length=2+rec_.length:=by simp [payload];omega
theorem yj (pay:List UInt8) (i:Nat):(piece pay i).length=min (64*(i+1)) pay.length - 64*i:=by simp [piece];omega
theorem plan_at {gen used cnt_:Nat} {rec_:List UInt8} {i:Nat} (h:i<needN rec_.length) :
  (planP gen used cnt_ rec_).drop i=(2+used+i,piece (payload rec_) i)::(planP gen used cnt_ rec_).drop (i+1):=by
 have hl:i<(planP gen used cnt_ rec_).length:=by simp [planP];omega
 rw [List.drop_eq_getElem_cons hl]
 congr 1
 simp [planP,List.getElem_append,h]
theorem plan_last {gen used cnt_:Nat} {rec_:List UInt8}:(planP gen used cnt_ rec_).drop (needN rec_.length)=[((gen+1)%2,[gen+1,used+needN rec_.length,cnt_+1].flatMap be8)]:=by
 rw [planP,List.drop_left' (by simp)]
theorem yL {B:List UInt8} {k:Int} {x:Nat × List UInt8} {xs:List (Nat × List UInt8)}:dws ⟨B,0,k⟩ (x::xs)=(⟨B,0,k⟩,false):=by simp [dws]
theorem dws_cons {σ:DS} {x:Nat × List UInt8} {xs:List (Nat × List UInt8)} (h:σ.p≠0):dws σ (x::xs)=dws (dw σ x.1 x.2) xs:=by simp [dws,h]
theorem dws_nil {σ:DS}:dws σ []=(σ,true):=rfl
theorem write_done (d s n:Nat) (B bs:List UInt8) (p k:Int) (i:Nat) (a:Option Addr) (m c:Nat) (w:World) (hw0:Own w [(d,dkO s n p k),(s,dkS B)]) (hB:B.length=64*n) (hk:0≤k) (hk2:k<4611686018427387904) (hi:i<n) (hm:m≤64) (hbl:bs.length=m) (hbv:Row w (.slice a m c) m (bs.map u8)) (hoff:Off [d,s] (.slice a m c) (bs.map u8)) (hp:p<9223372036854775808) (hp0:p≠0) :
  Calls Try.prog 68 [.pointer (some ⟨d,0,none⟩),.int .i64 ((i:Nat):Int),.slice a m c].toArray w fun r w'=>r=.returned (.int .i64 0)∧St w [d,s] [(d,dkO s n (if 0<p then p - 1 else p) (k+1)),(s,dkS (put B i bs))] w':=by
 by_cases h5:0<p
 ·rw [if_pos h5]
  exact write_power d s n B bs p k i a m c w hw0 hB (by omega) (by omega) hk hk2 hm hbl hbv hoff h5 hp
 ·rw [if_neg h5]
  exact write_endless d s n B bs p k i a m c w hw0 hB (by omega) (by omega) hk hk2 hm hbl hbv hoff (by omega)
theorem rwrite_done (r n:Nat) (v:Value) (lp:List (Nat × Obj)) (B bs:List UInt8) (p k:Int) (i:Nat) (a:Option Addr) (m c:Nat) (w:World) (hw0:Own w ((r,rfO v p k)::lp)) (hv:Vec 5 1 v (64*n) (B.map u8) lp) (hn:n≤4096) (hB:B.length=64*n) (hk:0≤k) (hk2:k<4611686018427387904) (hi:i<n) (hm:m≤64)
  (hbl:bs.length=m) (hbv:Row w (.slice a m c) m (bs.map u8)) (hoff:Off (r::lp.map (·.1)) (.slice a m c) (bs.map u8)) (hp:p<9223372036854775808) (hp0:p≠0) :
  Calls Try.prog 55 [.pointer (some ⟨r,0,none⟩),.int .i64 ((i:Nat):Int),.slice a m c].toArray w fun ρ w'=>∃lp',ρ=.returned (.int .i64 0)∧Vec 5 1 v (64*n) ((put B i bs).map u8) lp'∧St w (r::lp.map (·.1)) ((r,rfO v (if 0<p then p - 1 else p) (k+1))::lp') w':=by
 by_cases h5:0<p
 ·rw [if_pos h5]
  exact (rwrite_power r n v lp B p k w hw0 hv hn bs i a m c hB (by omega) (by omega) hk hk2 hm hbl hbv hoff h5 hp).mono fun _ _ ⟨h1,lp',h2,h3⟩=>⟨lp',h1,h2,h3⟩
 ·rw [if_neg h5]
  exact (rwrite_endless r n v lp B p k w hw0 hv hn bs i a m c hB (by omega) (by omega) hk hk2 hm hbl hbv hoff (by omega)).mono fun _ _ ⟨h1,lp',h2,h3⟩=>⟨lp',h1,h2,h3⟩
theorem vec_off {w0 w:World} {S:List Nat} {l1 l lp:List (Nat × Obj)} {t sz k c:Nat} {a:Option Addr} {xs ys:List Value} (h:Vec t sz (.slice a k c) k xs lp) (hw:St w0 S (l1++(lp++l)) w) (j q k' c':Nat) :
  Off (l1.map (·.1)) (.slice (if c=j then a else a.map (·.add q)) k' c') ys:=by
 obtain ⟨_,h⟩:=h
 rcases h with ⟨he,_,_⟩ | ⟨b,c1,sp,he,rfl,_,_⟩
 ·simp only [Value.slice.injEq] at he
  obtain ⟨rfl,_,_⟩:=he
  exact .inr fun b o k c he=>by simp at he
 ·simp only [Value.slice.injEq,true_and] at he
  obtain ⟨rfl,rfl⟩:=he
  have hb:=hw.off (l1:=l1) (List.mem_append_left _ (.head _):(b,cb (xs++sp) t)∈_)
  by_cases hc:c=j
  ·rw [if_pos hc];exact Off.mk hb
  ·rw [if_neg hc,Option.map_some,zJ];exact Off.mk hb
theorem hi_byte (m:Nat):Value.int .u8 (IntKind.u8.wrap (Int.fdiv ((m:Nat):Int) (2 ^ (min (8:Int).toNat IntKind.i64.bits))))=u8 (UInt8.ofNat (m / 256)):=by
 have e:((2:Int) ^ (min (8:Int).toNat IntKind.i64.bits))=((256:Nat):Int):=by decide
 rw [e,Int.fdiv_eq_ediv_of_nonneg _ (Int.natCast_nonneg _),yM]
 show Value.int .u8 _=Value.int .u8 _
 congr 1 <;> simp
theorem lo_byte (m:Nat):Value.int .u8 (IntKind.u8.wrap ((m:Nat):Int))=u8 (UInt8.ofNat (m%256)):=by
 rw [yM]
 show Value.int .u8 _=Value.int .u8 _
 congr 1
 simp
theorem append_spec (lb d s n:Nat) (q:LogP) (down:Bool) (B rec_:List UInt8) (p k:Int) (a:Option Addr) (m c:Nat) (w:World) (hw0:Own w [(lb,lgO d q down),(d,dkO s n p k),(s,dkS B)]) (hB:B.length=64*n) (hn:n≤4096) (hn3:3≤n) (hg:q.gen<9223372036854775808) (hu:q.used≤n - 2) (hcn:q.cnt≤q.used) (hk:0≤k) (hk2:k<4611686018427380000) (hp:p<9223372036854775808) (hml:rec_.length=m) (hm47:m≤140737488351232) (hr:Row w (.slice a m c) m (rec_.map u8)) (hoff:Off [lb,d,s] (.slice a m c) (rec_.map u8)) :
  Calls Try.prog 46 [.pointer (some ⟨lb,0,none⟩),.slice a m c].toArray w fun r w'=>match appendP n q down ⟨B,p,k⟩ rec_ with
   | (e,q',down',σ')=>r=.returned (.int .i64 e)∧St w [lb,d,s] [(lb,lgO d q' down'),(d,dkO s n σ'.p σ'.k),(s,dkS σ'.B)] w':=by
 obtain ⟨gen,used,cnt_,recs⟩:=q
 simp only at hg hu hcn
 subst hml
 refine qD (args:=[.pointer (some ⟨lb,0,none⟩),.slice a rec_.length c]) (e:=[(0,.pointer (some ⟨lb,0,none⟩)),(1,.slice a rec_.length c)]) Try.func46 rfl rfl ⟨rfl,rfl,trivial⟩ (show St w [lb,d,s] [(lb,cb [.pointer (some ⟨d,0,none⟩),.int .u64 ((gen:Nat):Int),.int .i64 ((used:Nat):Int),.int .i64 ((cnt_:Nat):Int),.bool down] 124),(d,dkO s n (p) (k)),(s,dkS (B))] w from hw0.st) ?_;refine JC.seq (fun K0 hK0=>?_);refine JC.region<|J.assign rfl rfl<|J.nil ?_;refine JX.qd (hK0 _ _ ?_);refine JC.seq (fun K1 hK1=>?_);refine JC.block ?_;refine JC.seq (fun K2 hK2=>?_);refine JC.region<|J.qe rfl rfl<|J.zh Ty.u94 rfl rfl rfl<|J.assign rfl rfl<|J.nil ?_;refine JX.qd (hK2 _ _ ?_)
 first | refine JC.qI rfl ?_ | refine JC.qn rfl (fun h=>by first | (exfalso;simp at h;omega) | (simp at h)) (fun _=>?_)
 refine JC.seq (fun K3 hK3=>?_);refine JC.region<|J.qe rfl rfl<|J.qq rfl rfl<|J.qi Ty.fd124_4 rfl rfl<|J.qQ Ty.a4 rfl zm (by exact rfl) rfl ?_;refine J.assign rfl rfl<|J.nil ?_;refine JX.qd (hK3 _ _ ?_);refine JC.qn rfl (fun h1=>?_) (fun h1=>?_)
 ·have happ:=@appendP_down n ⟨gen,used,cnt_,recs⟩ ⟨B,p,k⟩ rec_
  subst h1
  refine JC.seq (fun K4 hK4=>?_);refine JC.region<|J.assign rfl rfl<|J.nil ?_;refine JX.qd (hK4 _ _ ?_);refine JC.qA<|JX.qH<|JX.qt ?_;refine JX.qL rfl rfl (fun w1 hw=>?_)
  rw [happ]
  first
  | exact ⟨rfl,hw⟩
  | exact ⟨rfl,hw.drop (.cons_cons _ (.cons_cons _ (.cons_cons _ (List.nil_sublist _))))⟩
 ·subst h1
  refine JC.seq (fun K5 hK5=>?_);refine JC.region<|J.qe rfl rfl<|J.qK rfl Ty.u26 rfl rfl<|J.qj rfl rfl rfl rfl<|J.assign rfl rfl<|J.nil ?_;refine JX.qd (hK5 _ _ ?_);refine JC.qn rfl (fun h2=>?_) (fun h2=>?_)
  ·have happ:=appendP_long (n:=n) (q:=⟨gen,used,cnt_,recs⟩) (σ:=⟨B,p,k⟩) (rec_:=rec_) (by simp at h2;omega)
   refine JC.seq (fun K6 hK6=>?_);refine JC.region<|J.assign rfl rfl<|J.nil ?_;refine JX.qd (hK6 _ _ ?_);refine JC.qA<|JX.qH<|JX.qt ?_;refine JX.qL rfl rfl (fun w1 hw=>?_)
   rw [happ]
   first
   | exact ⟨rfl,hw⟩
   | exact ⟨rfl,hw.drop (.cons_cons _ (.cons_cons _ (.cons_cons _ (List.nil_sublist _))))⟩
  ·have hlong:¬1024<rec_.length:=by simp at h2;omega
   have hnd:1≤needN rec_.length∧needN rec_.length≤18:=by unfold needN;omega
   have hpl:=zA rec_
   refine JC.seq (fun K7 hK7=>?_)
   by_cases hfull:n - 2 - used<needN rec_.length
   ·have happ:=appendP_full (n:=n) (q:=⟨gen,used,cnt_,recs⟩) (σ:=⟨B,p,k⟩) hlong hfull
    apply JC.zc 15 [Eqv (_),Eqv (_),Eqv (_),Eqv (_),Eqv (_),Eqv (_),Eqv (_),Eqv (_),Eqv (_),Eqv (_),Eqv (_),Eqv (_),Eqv (_),Eqv (_),Eqv (_)] Ty.mixed rfl rfl rfl (by kernel_rfl) rfl rfl (fun w w' hw hb=>hw.step hb) ⟨fun _ _ _ h _=>h,fun _ _ _ h _=>h,fun _ _ _ h _=>h,fun _ _ _ h _=>h,fun _ _ _ h _=>h,fun _ _ _ h _=>h,fun _ _ _ h _=>h,fun _ _ _ h _=>h,fun _ _ _ h _=>h,fun _ _ _ h _=>h,fun _ _ _ h _=>h,fun _ _ _ h _=>h,fun _ _ _ h _=>h,fun _ _ _ h _=>h,fun _ _ _ h _=>h,trivial⟩ ?hstep ?htail
    case hstep=>
     refine ⟨fun wi=>?_,fun wi=>?_,fun wi=>?_,fun wi=>?_,fun wi=>?_,fun wi=>?_,fun wi=>?_,fun wi=>?_,fun wi=>?_,fun wi=>?_,fun wi=>?_,fun wi=>?_,fun wi=>?_,fun wi=>?_,fun wi=>?_,trivial⟩
     ·refine Fin.nil<|J.qe rfl rfl ?_
      exact J.qm rfl
     ·refine Fin.qc rfl (Fin.nil ?_);refine J.qK rfl Ty.u26 rfl rfl ?_
      exact J.qm rfl
     ·refine Fin.qc rfl (Fin.nil ?_);refine J.zD Ty.bd63 rfl rfl (fun w1 hw=>z1 rec_.length w1 (by omega)) ?_
      exact J.zQ rfl
     ·refine Fin.nil<|J.qe rfl rfl ?_
      exact J.qm rfl
     ·refine Fin.qc rfl (Fin.nil ?_);refine J.qq rfl rfl ?_
      exact J.qm rfl
     ·refine Fin.qc rfl (Fin.nil ?_);refine J.qi Ty.fd124_0 rfl rfl ?_
      exact J.qm rfl
     ·refine Fin.qc rfl (Fin.nil ?_);refine J.qw Ty.a34 rfl (fun w hw=>(qB (hw.2.own (_,_) zm)).trans (by exact rfl)) rfl ?_
      exact J.qm rfl
     ·refine Fin.qc rfl (Fin.qc rfl (Fin.nil ?_))
      refine J.zD Ty.bd60 rfl rfl (fun w1 hw=>yA d s n p k w1 (St.owns (l1:=[(d,dkO s n (p) (k)),(s,dkS (B))]) (l:=[(lb,cb [.pointer (some ⟨d,0,none⟩),.int .u64 ((gen:Nat):Int),.int .i64 ((used:Nat):Int),.int .i64 ((cnt_:Nat):Int),.bool false] 124)]) (hw.perm zp))) ?_
      exact J.zQ rfl
     ·refine Fin.qc rfl (Fin.nil ?_)
      (first | refine J.zn rfl rfl (by omega) (by omega) rfl ?_ | refine J.qj rfl rfl rfl rfl ?_)
      exact J.qm rfl
     ·refine Fin.nil<|J.qe rfl rfl ?_
      exact J.qm rfl
     ·refine Fin.qc rfl (Fin.nil ?_);refine J.qq rfl rfl ?_
      exact J.qm rfl
     ·refine Fin.qc rfl (Fin.nil ?_);refine J.qi Ty.fd124_2 rfl rfl ?_
      exact J.qm rfl
     ·refine Fin.qc rfl (Fin.nil ?_);refine J.qw Ty.a3 rfl (fun w hw=>(qB (hw.2.own (_,_) zm)).trans (by exact rfl)) rfl ?_
      exact J.qm rfl
     ·refine Fin.qc rfl (Fin.qc rfl (Fin.nil ?_))
      (first | refine J.zn rfl rfl (by omega) (by omega) rfl ?_ | refine J.qj rfl rfl rfl rfl ?_)
      exact J.qm rfl
     ·refine Fin.qc rfl (Fin.qc rfl (Fin.nil ?_))
      refine J.qj rfl rfl rfl rfl<|J.name 38 rfl (show Value.bool _=.bool true by simp <;> omega) ?_
      exact J.qm rfl
    case htail=>
     refine Fin.qc rfl (Fin.qc rfl (Fin.qc rfl (Fin.qc rfl (Fin.qc rfl (Fin.qc rfl (Fin.qc rfl (Fin.qc rfl (Fin.qc rfl (Fin.qc rfl (Fin.qc rfl (Fin.qc rfl (Fin.qc rfl (Fin.qc rfl (Fin.qc rfl (Fin.nil ?_)))))))))))))))
     refine J.assign rfl rfl<|J.nil ?_;refine JX.qd (hK7 _ _ ?_)
     first | refine JC.qP rfl ?_ | refine JC.qn rfl (fun _=>?_) (fun h=>by first | (exfalso;simp at h;omega) | (simp at h))
     refine JC.seq (fun K8 hK8=>?_);refine JC.region<|J.assign rfl rfl<|J.nil ?_;refine JX.qd (hK8 _ _ ?_);refine JC.qA<|JX.qH<|JX.qt ?_;refine JX.qL rfl rfl (fun w1 hw=>?_)
     rw [happ]
     first
     | exact ⟨rfl,hw⟩
     | exact ⟨rfl,hw.drop (.cons_cons _ (.cons_cons _ (.cons_cons _ (List.nil_sublist _))))⟩
   ·apply JC.zc 15 [Eqv (_),Eqv (_),Eqv (_),Eqv (_),Eqv (_),Eqv (_),Eqv (_),Eqv (_),Eqv (_),Eqv (_),Eqv (_),Eqv (_),Eqv (_),Eqv (_),Eqv (_)] Ty.mixed rfl rfl rfl (by kernel_rfl) rfl rfl (fun w w' hw hb=>hw.step hb) ⟨fun _ _ _ h _=>h,fun _ _ _ h _=>h,fun _ _ _ h _=>h,fun _ _ _ h _=>h,fun _ _ _ h _=>h,fun _ _ _ h _=>h,fun _ _ _ h _=>h,fun _ _ _ h _=>h,fun _ _ _ h _=>h,fun _ _ _ h _=>h,fun _ _ _ h _=>h,fun _ _ _ h _=>h,fun _ _ _ h _=>h,fun _ _ _ h _=>h,fun _ _ _ h _=>h,trivial⟩ ?hstep ?htail
    case hstep=>
     refine ⟨fun wi=>?_,fun wi=>?_,fun wi=>?_,fun wi=>?_,fun wi=>?_,fun wi=>?_,fun wi=>?_,fun wi=>?_,fun wi=>?_,fun wi=>?_,fun wi=>?_,fun wi=>?_,fun wi=>?_,fun wi=>?_,fun wi=>?_,trivial⟩
     ·refine Fin.nil<|J.qe rfl rfl ?_
      exact J.qm rfl
     ·refine Fin.qc rfl (Fin.nil ?_);refine J.qK rfl Ty.u26 rfl rfl ?_
      exact J.qm rfl
     ·refine Fin.qc rfl (Fin.nil ?_);refine J.zD Ty.bd63 rfl rfl (fun w1 hw=>z1 rec_.length w1 (by omega)) ?_
      exact J.zQ rfl
     ·refine Fin.nil<|J.qe rfl rfl ?_
      exact J.qm rfl
     ·refine Fin.qc rfl (Fin.nil ?_);refine J.qq rfl rfl ?_
      exact J.qm rfl
     ·refine Fin.qc rfl (Fin.nil ?_);refine J.qi Ty.fd124_0 rfl rfl ?_
      exact J.qm rfl
     ·refine Fin.qc rfl (Fin.nil ?_);refine J.qw Ty.a34 rfl (fun w hw=>(qB (hw.2.own (_,_) zm)).trans (by exact rfl)) rfl ?_
      exact J.qm rfl
     ·refine Fin.qc rfl (Fin.qc rfl (Fin.nil ?_))
      refine J.zD Ty.bd60 rfl rfl (fun w1 hw=>yA d s n p k w1 (St.owns (l1:=[(d,dkO s n (p) (k)),(s,dkS (B))]) (l:=[(lb,cb [.pointer (some ⟨d,0,none⟩),.int .u64 ((gen:Nat):Int),.int .i64 ((used:Nat):Int),.int .i64 ((cnt_:Nat):Int),.bool false] 124)]) (hw.perm zp))) ?_
      exact J.zQ rfl
     ·refine Fin.qc rfl (Fin.nil ?_)
      (first | refine J.zn rfl rfl (by omega) (by omega) rfl ?_ | refine J.qj rfl rfl rfl rfl ?_)
      exact J.qm rfl
     ·refine Fin.nil<|J.qe rfl rfl ?_
      exact J.qm rfl
     ·refine Fin.qc rfl (Fin.nil ?_);refine J.qq rfl rfl ?_
      exact J.qm rfl
     ·refine Fin.qc rfl (Fin.nil ?_);refine J.qi Ty.fd124_2 rfl rfl ?_
      exact J.qm rfl
     ·refine Fin.qc rfl (Fin.nil ?_);refine J.qw Ty.a3 rfl (fun w hw=>(qB (hw.2.own (_,_) zm)).trans (by exact rfl)) rfl ?_
      exact J.qm rfl
     ·refine Fin.qc rfl (Fin.qc rfl (Fin.nil ?_))
      (first | refine J.zn rfl rfl (by omega) (by omega) rfl ?_ | refine J.qj rfl rfl rfl rfl ?_)
      exact J.qm rfl
     ·refine Fin.qc rfl (Fin.qc rfl (Fin.nil ?_))
      refine J.qj rfl rfl rfl rfl<|J.name 38 rfl (show Value.bool _=.bool false by simp <;> omega) ?_
      exact J.qm rfl
    case htail=>
     refine Fin.qc rfl (Fin.qc rfl (Fin.qc rfl (Fin.qc rfl (Fin.qc rfl (Fin.qc rfl (Fin.qc rfl (Fin.qc rfl (Fin.qc rfl (Fin.qc rfl (Fin.qc rfl (Fin.qc rfl (Fin.qc rfl (Fin.qc rfl (Fin.qc rfl (Fin.nil ?_)))))))))))))))
     refine J.assign rfl rfl<|J.nil ?_;refine JX.qd (hK7 _ _ ?_)
     first | refine JC.qI rfl ?_ | refine JC.qn rfl (fun h=>by first | (exfalso;simp at h;omega) | (simp at h)) (fun _=>?_)
     refine JC.skip<|JX.qJ ?_;refine JX.qd (hK1 _ _ ?_);refine JC.seq (fun K9 hK9=>?_);refine JC.region<|J.qe rfl rfl<|J.qK rfl Ty.u26 rfl rfl<|J.qj rfl rfl rfl rfl<|J.qF Ty.u3 Ty.u5 rfl rfl<|J.name 42 rfl (hi_byte rec_.length)<|J.qe rfl rfl<|J.qK rfl Ty.u26 rfl rfl<|J.qF Ty.u3 Ty.u5 rfl rfl<|J.name 45 rfl (lo_byte rec_.length) ?_;refine J.za Ty.el26 Ty.s5 Ty.z5 rfl rfl rfl rfl rfl rfl rfl (fun b46=>?_);refine J.qe rfl rfl ?_;refine J.qZ (lp:=[(b46,cb [u8 (UInt8.ofNat (rec_.length / 256)),u8 (UInt8.ofNat (rec_.length%256))] 5)]) (xs:=[u8 (UInt8.ofNat (rec_.length / 256)),u8 (UInt8.ofNat (rec_.length%256))]) (ys:=rec_.map u8) (k:=2) (m:=rec_.length) Ty.el26 Ty.s5 Ty.b5 Ty.z5 rfl (.inl ⟨5,Ty.u26⟩) rfl rfl ⟨rfl,.inr ⟨b46,2,[],rfl,rfl,rfl,Nat.le_refl _⟩⟩ (fun w1 hw=>.inl (hr.st hoff hw)) (by simp) (zk _) (by omega) (by omega) rfl (fun v48 lp48 hv48=>?_)
     obtain ⟨a48,c48,rfl,hc48⟩:=hv48.form
     have hv48:Vec 5 1 (.slice a48 (2+rec_.length) c48) (2+rec_.length) ((payload rec_).map u8) lp48:=hv48
     refine J.perm ((lb,cb [.pointer (some ⟨d,0,none⟩),.int .u64 ((gen:Nat):Int),.int .i64 ((used:Nat):Int),.int .i64 ((cnt_:Nat):Int),.bool false] 124)::(d,dkO s n (p) (k))::(s,dkS (B))::lp48) zp<|J.assign rfl rfl<|J.nil ?_;refine JX.qd (hK9 _ _ ?_);refine JC.seq (fun K10 hK10=>?_);refine JC.seq (fun K11 hK11=>?_);refine JC.region<|J.qe rfl rfl<|J.qK rfl Ty.u26 rfl rfl<|J.qR (fun w1 w2 hw hb=>hw.step hb) Ty.bd63 rfl rfl (fun w1 hw=>z1 rec_.length w1 (by omega)) ?_;refine J.qe rfl rfl<|J.nil ?_;refine JX.qd (hK11 _ _ ?_);refine JC.block ?_
     refine JC.conseq (JC.cov (f:=(fun st=>[(0,.pointer (some ⟨lb,0,none⟩)),(1,.slice a rec_.length c),(5,.slice a48 (2+rec_.length) c48),(51,.int .i64 ((needN rec_.length:Nat):Int)),(52,.int .i64 ((st.1:Nat):Int))]) ((0,B,p,k):Nat × List UInt8 × Int × Int)) ⟨rfl,rfl,rfl,rfl,rfl,trivial⟩ (JC.loop (α:=Nat × List UInt8 × Int × Int) (fun st=>[(0,.pointer (some ⟨lb,0,none⟩)),(1,.slice a rec_.length c),(5,.slice a48 (2+rec_.length) c48),(51,.int .i64 ((needN rec_.length:Nat):Int)),(52,.int .i64 ((st.1:Nat):Int))]) (fun st w'=>(st.1≤needN rec_.length∧st.2.1.length=64*n∧0≤st.2.2.2∧st.2.2.2≤k+st.1∧st.2.2.1<9223372036854775808∧dws ⟨B,p,k⟩ (planP gen used cnt_ rec_)=dws ⟨st.2.1,st.2.2.1,st.2.2.2⟩ ((planP gen used cnt_ rec_).drop st.1))∧St w [lb,d,s] ((lb,cb [.pointer (some ⟨d,0,none⟩),.int .u64 ((gen:Nat):Int),.int .i64 ((used:Nat):Int),.int .i64 ((cnt_:Nat):Int),.bool false] 124)::(d,dkO s n (st.2.2.1) (st.2.2.2))::(s,dkS (st.2.1))::lp48) w') (fun st=>needN rec_.length - st.1) ((0,B,p,k):Nat × List UInt8 × Int × Int) (fun st=>?_))) (fun w hw=>⟨⟨Nat.zero_le _,hB,hk,by simp,hp,rfl⟩,hw⟩)
     obtain ⟨i,B1,p1,k1⟩:=st
     refine JC.pr (fun hx=>?_)
     obtain ⟨hi,hB1,hk10,hk11,hp1,hdw⟩:=hx
     simp only at hi hB1 hk10 hk11 hp1 hdw ⊢
     refine JC.seq (fun K12 hK12=>?_);refine JC.region<|J.qj rfl rfl rfl rfl<|J.nil ?_;refine JX.qd (hK12 _ _ ?_);refine JC.seq (fun K13 hK13=>?_);refine JC.qn rfl (fun h4=>?_) (fun h4=>?_)
     ·have hlt:i<needN rec_.length:=by simp at h4;omega
      have hlt64:64*i<2+rec_.length:=by unfold needN at hlt;omega
      refine JC.skip ?_;refine JX.qd (hK13 _ _ ?_);refine JC.seq (fun K14 hK14=>?_);refine JC.block ?_;refine JC.seq (fun K15 hK15=>?_);refine JC.region<|J.qe rfl rfl<|J.assign rfl rfl<|J.nil ?_;refine JX.qd (hK15 _ _ ?_);refine JC.seq (fun K16 hK16=>?_);refine JC.region<|J.qe rfl rfl<|J.qe rfl rfl ?_
      (first | refine J.zO rfl rfl (by omega) (by omega) rfl ?_ | refine J.qj rfl rfl rfl rfl ?_)
      refine J.qe rfl rfl ?_
      (first | refine J.qG rfl rfl (by omega) (by omega) rfl ?_ | refine J.qj rfl rfl rfl rfl ?_)
      refine J.zO rfl rfl (by omega) (by omega) rfl ?_;refine J.qe rfl rfl<|J.qK rfl Ty.u26 rfl rfl<|J.min2 rfl rfl rfl<|J.zx (i:=64*i) (j:=min (64*(i+1)) (2+rec_.length)) Ty.el26 Ty.s5 rfl rfl rfl (by simp only [bnd];rw [if_pos (by omega)];congr 1 <;> omega) (by simp only [bnd];rw [if_pos (by omega)];congr 1 <;> omega) (by omega) (by omega) (by omega) rfl ?_;refine J.assign rfl rfl<|J.nil ?_;refine JX.qd (hK16 _ _ ?_);refine JC.seq (fun K17 hK17=>?_)
      by_cases hp0:p1=0
      ·subst hp0
       have happ:=yY (n:=n) (q:=⟨gen,used,cnt_,recs⟩) (σ:=⟨B,p,k⟩) hlong hfull (hdw.trans (by rw [plan_at hlt];exact yL))
       apply JC.zc 12 [Eqv (_),Eqv (_),Eqv (_),Eqv (_),Eqv (_),Eqv (_),Eqv (_),Eqv (_),Eqv (_),Eqv (_),Eqv (_),Eqv (_)] Ty.mixed rfl rfl rfl (by kernel_rfl) rfl rfl (fun w w' hw hb=>hw.step hb) ⟨fun _ _ _ h _=>h,fun _ _ _ h _=>h,fun _ _ _ h _=>h,fun _ _ _ h _=>h,fun _ _ _ h _=>h,fun _ _ _ h _=>h,fun _ _ _ h _=>h,fun _ _ _ h _=>h,fun _ _ _ h _=>h,fun _ _ _ h _=>h,fun _ _ _ h _=>h,fun _ _ _ h _=>h,trivial⟩ ?hstep ?htail
       case hstep=>
        refine ⟨fun wi=>?_,fun wi=>?_,fun wi=>?_,fun wi=>?_,fun wi=>?_,fun wi=>?_,fun wi=>?_,fun wi=>?_,fun wi=>?_,fun wi=>?_,fun wi=>?_,fun wi=>?_,trivial⟩
        ·refine Fin.nil<|J.qe rfl rfl ?_
         exact J.qm rfl
        ·refine Fin.qc rfl (Fin.nil ?_);refine J.qq rfl rfl ?_
         exact J.qm rfl
        ·refine Fin.qc rfl (Fin.nil ?_);refine J.qi Ty.fd124_0 rfl rfl ?_
         exact J.qm rfl
        ·refine Fin.qc rfl (Fin.nil ?_);refine J.qw Ty.a34 rfl (fun w hw=>(qB (hw.2.own (_,_) zm)).trans (by exact rfl)) rfl ?_
         exact J.qm rfl
        ·refine Fin.nil<|J.qe rfl rfl ?_
         exact J.qm rfl
        ·refine Fin.qc rfl (Fin.nil ?_);refine J.qq rfl rfl ?_
         exact J.qm rfl
        ·refine Fin.qc rfl (Fin.nil ?_);refine J.qi Ty.fd124_2 rfl rfl ?_
         exact J.qm rfl
        ·refine Fin.qc rfl (Fin.nil ?_);refine J.qw Ty.a3 rfl (fun w hw=>(qB (hw.2.own (_,_) zm)).trans (by exact rfl)) rfl ?_
         exact J.qm rfl
        ·refine Fin.qc rfl (Fin.nil ?_);refine J.qG rfl rfl (by omega) (by omega) rfl ?_
         exact J.qm rfl
        ·refine Fin.nil<|J.qe rfl rfl ?_
         exact J.qm rfl
        ·refine Fin.qc rfl (Fin.qc rfl (Fin.nil ?_))
         refine J.qG rfl rfl (by omega) (by omega) rfl ?_;refine J.name 75 rfl (show Value.int .i64 _=.int .i64 ((2+used+i:Nat):Int) by congr 1) ?_
         exact J.qm rfl
        ·refine Fin.nil<|J.qe rfl rfl ?_
         exact J.qm rfl
       case htail=>
        refine Fin.qc rfl (Fin.qc rfl (Fin.qc rfl (Fin.qc rfl (Fin.qc rfl (Fin.qc rfl (Fin.qc rfl (Fin.qc rfl (Fin.qc rfl (Fin.qc rfl (Fin.qc rfl (Fin.qc rfl (Fin.nil ?_))))))))))))
        refine J.perm ([(d,dkO s n (0) (k1)),(s,dkS (B1))]++((lb,cb [.pointer (some ⟨d,0,none⟩),.int .u64 ((gen:Nat):Int),.int .i64 ((used:Nat):Int),.int .i64 ((cnt_:Nat):Int),.bool false] 124)::lp48)) zp<|J.qR (fun w1 w2 hw hb=>hw.step hb) Ty.bd68 rfl rfl (fun w1 hw=>write_down d s n k1 w1 (St.owns (l1:=[(d,dkO s n (0) (k1)),(s,dkS (B1))]) hw) ((2+used+i:Nat):Int) _ (min (64*(i+1)) (2+rec_.length) - 64*i) (c48 - 64*i) (by omega) (by omega) (by omega)) ?_;refine J.perm ((lb,cb [.pointer (some ⟨d,0,none⟩),.int .u64 ((gen:Nat):Int),.int .i64 ((used:Nat):Int),.int .i64 ((cnt_:Nat):Int),.bool false] 124)::(d,dkO s n (0) (k1))::(s,dkS (B1))::lp48) zp<|J.assign rfl rfl<|J.nil ?_;refine JX.qd (hK17 _ _ ?_);refine JC.seq (fun K18 hK18=>?_);refine JC.region<|J.qe rfl rfl<|J.qj rfl rfl rfl rfl<|J.nil ?_;refine JX.qd (hK18 _ _ ?_)
        first | refine JC.qP rfl ?_ | refine JC.qn rfl (fun _=>?_) (fun h=>by first | (exfalso;simp at h;omega) | (simp at h))
        refine JC.seq (fun K19 hK19=>?_);refine JC.region<|J.qe rfl rfl<|J.qq rfl rfl<|J.qi Ty.fd124_4 rfl rfl<|J.qU Ty.s4 rfl rfl rfl rfl (by simp [Value.oneCell']) zu (by simp) ?_;refine J.nil ?_;refine JX.qd (hK19 _ _ ?_);refine JC.seq (fun K20 hK20=>?_);refine JC.region<|J.qe rfl rfl<|J.assign rfl rfl<|J.nil ?_;refine JX.qd (hK20 _ _ ?_);refine JC.qA<|JX.qH<|JX.qt<|JX.qt<|JX.qH<|JX.qt ?_;refine JX.qL rfl rfl (fun w1 hw=>?_)
        rw [happ]
        first
        | exact ⟨rfl,hw⟩
        | exact ⟨rfl,hw.drop (.cons_cons _ (.cons_cons _ (.cons_cons _ (List.nil_sublist _))))⟩
      ·apply JC.zc 12 [Eqv (_),Eqv (_),Eqv (_),Eqv (_),Eqv (_),Eqv (_),Eqv (_),Eqv (_),Eqv (_),Eqv (_),Eqv (_),Eqv (_)] Ty.mixed rfl rfl rfl (by kernel_rfl) rfl rfl (fun w w' hw hb=>hw.step hb) ⟨fun _ _ _ h _=>h,fun _ _ _ h _=>h,fun _ _ _ h _=>h,fun _ _ _ h _=>h,fun _ _ _ h _=>h,fun _ _ _ h _=>h,fun _ _ _ h _=>h,fun _ _ _ h _=>h,fun _ _ _ h _=>h,fun _ _ _ h _=>h,fun _ _ _ h _=>h,fun _ _ _ h _=>h,trivial⟩ ?hstep ?htail
       case hstep=>
        refine ⟨fun wi=>?_,fun wi=>?_,fun wi=>?_,fun wi=>?_,fun wi=>?_,fun wi=>?_,fun wi=>?_,fun wi=>?_,fun wi=>?_,fun wi=>?_,fun wi=>?_,fun wi=>?_,trivial⟩
        ·refine Fin.nil<|J.qe rfl rfl ?_
         exact J.qm rfl
        ·refine Fin.qc rfl (Fin.nil ?_);refine J.qq rfl rfl ?_
         exact J.qm rfl
        ·refine Fin.qc rfl (Fin.nil ?_);refine J.qi Ty.fd124_0 rfl rfl ?_
         exact J.qm rfl
        ·refine Fin.qc rfl (Fin.nil ?_);refine J.qw Ty.a34 rfl (fun w hw=>(qB (hw.2.own (_,_) zm)).trans (by exact rfl)) rfl ?_
         exact J.qm rfl
        ·refine Fin.nil<|J.qe rfl rfl ?_
         exact J.qm rfl
        ·refine Fin.qc rfl (Fin.nil ?_);refine J.qq rfl rfl ?_
         exact J.qm rfl
        ·refine Fin.qc rfl (Fin.nil ?_);refine J.qi Ty.fd124_2 rfl rfl ?_
         exact J.qm rfl
        ·refine Fin.qc rfl (Fin.nil ?_);refine J.qw Ty.a3 rfl (fun w hw=>(qB (hw.2.own (_,_) zm)).trans (by exact rfl)) rfl ?_
         exact J.qm rfl
        ·refine Fin.qc rfl (Fin.nil ?_);refine J.qG rfl rfl (by omega) (by omega) rfl ?_
         exact J.qm rfl
        ·refine Fin.nil<|J.qe rfl rfl ?_
         exact J.qm rfl
        ·refine Fin.qc rfl (Fin.qc rfl (Fin.nil ?_))
         refine J.qG rfl rfl (by omega) (by omega) rfl ?_;refine J.name 75 rfl (show Value.int .i64 _=.int .i64 ((2+used+i:Nat):Int) by congr 1) ?_
         exact J.qm rfl
        ·refine Fin.nil<|J.qe rfl rfl ?_
         exact J.qm rfl
       case htail=>
        refine Fin.qc rfl (Fin.qc rfl (Fin.qc rfl (Fin.qc rfl (Fin.qc rfl (Fin.qc rfl (Fin.qc rfl (Fin.qc rfl (Fin.qc rfl (Fin.qc rfl (Fin.qc rfl (Fin.qc rfl (Fin.nil ?_))))))))))))
        refine J.perm ([(d,dkO s n (p1) (k1)),(s,dkS (B1))]++((lb,cb [.pointer (some ⟨d,0,none⟩),.int .u64 ((gen:Nat):Int),.int .i64 ((used:Nat):Int),.int .i64 ((cnt_:Nat):Int),.bool false] 124)::lp48)) zp ?_
        refine J.callT (l1:=[(d,dkO s n (p1) (k1)),(s,dkS (B1))]) (L:=[(d,dkO s n (if 0<p1 then p1 - 1 else p1) (k1+1)),(s,dkS (put B1 (2+used+i) (piece (payload rec_) i)))]) Ty.bd68 rfl rfl (fun w1 hw=>write_done d s n B1 (piece (payload rec_) i) p1 k1 (2+used+i) (if c48=64*i then a48 else a48.map (·.add (64*i*1))) (min (64*(i+1)) (2+rec_.length) - 64*i) (c48 - 64*i) w1 hw.owns hB1 hk10 (by omega) (by omega) (by omega) (by rw [yj,zA]) (by
          have h1:=(hv48.row (l:=[(lb,cb [.pointer (some ⟨d,0,none⟩),.int .u64 ((gen:Nat):Int),.int .i64 ((used:Nat):Int),.int .i64 ((cnt_:Nat):Int),.bool false] 124),(d,dkO s n (p1) (k1)),(s,dkS (B1))]) (hw.perm zp)).slice (sz:=1) (i:=64*i) (j:=min (64*(i+1)) (2+rec_.length)) (by rw [List.length_map,zA,Nat.mul_one]) (by omega) (by omega)
          have h2:((payload rec_).drop (64*i)).take (min (64*(i+1)) (2+rec_.length) - 64*i)=piece (payload rec_) i:=by
           have h3:(payload rec_).length=2+rec_.length:=zA rec_
           rw [piece]
           by_cases h4:64*(i+1)≤2+rec_.length
           ·congr 1;omega
           ·rw [List.take_of_length_le (by simp;omega),List.take_of_length_le (by simp;omega)]
          have h5:List.take ((min (64*(i+1)) (2+rec_.length) - 64*i)*1) (List.drop (64*i*1) ((payload rec_).map u8))=(piece (payload rec_) i).map u8:=by
           rw [Nat.mul_one,Nat.mul_one,← List.map_drop,← List.map_take,h2]
          rw [h5] at h1
          exact h1) (vec_off (l1:=[(d,dkO s n (p1) (k1)),(s,dkS (B1))]) (l:=[(lb,cb [.pointer (some ⟨d,0,none⟩),.int .u64 ((gen:Nat):Int),.int .i64 ((used:Nat):Int),.int .i64 ((cnt_:Nat):Int),.bool false] 124)]) hv48 (hw.perm zp) _ _ _ _) hp1 hp0) ?_
        refine J.perm ((lb,cb [.pointer (some ⟨d,0,none⟩),.int .u64 ((gen:Nat):Int),.int .i64 ((used:Nat):Int),.int .i64 ((cnt_:Nat):Int),.bool false] 124)::(d,dkO s n (if 0<p1 then p1 - 1 else p1) (k1+1))::(s,dkS (put B1 (2+used+i) (piece (payload rec_) i)))::lp48) zp<|J.assign rfl rfl<|J.nil ?_;refine JX.qd (hK17 _ _ ?_);refine JC.seq (fun K21 hK21=>?_);refine JC.region<|J.qe rfl rfl<|J.qj rfl rfl rfl rfl<|J.nil ?_;refine JX.qd (hK21 _ _ ?_)
        first | refine JC.qI rfl ?_ | refine JC.qn rfl (fun h=>by first | (exfalso;simp at h;omega) | (simp at h)) (fun _=>?_)
        refine JC.skip<|JX.qJ ?_;refine JX.qd (hK14 _ _ ?_);refine JC.region ?_
        (first | refine J.qG rfl rfl (by omega) (by omega) rfl ?_ | refine J.qj rfl rfl rfl rfl ?_)
        refine J.qe rfl rfl<|J.nil<|JX.qd<|JX.qS (i+1,put B1 (2+used+i) (piece (payload rec_) i),if 0<p1 then p1 - 1 else p1,k1+1) ?_ ?_ ?_
        ·simp only;omega
        ·exact ⟨rfl,rfl,rfl,rfl,rfl,trivial⟩
        ·exact fun w1 hw=>⟨⟨hlt,yf hB1 (by omega) (by rw [yj];omega),by simp only;omega,by simp only;omega,by simp only;split <;> omega,by simp only;rw [hdw,plan_at hlt,dws_cons hp0];rfl⟩,hw⟩
     ·obtain rfl:i=needN rec_.length:=by simp at h4;omega
      refine JC.qX<|JX.qE<|JX.qE<|JX.qT ?_;refine JX.qd (hK10 _ _ ?_);refine JC.seq (fun K22 hK22=>?_)
      apply JC.zc 20 [Eqv (_),Eqv (_),Eqv (_),Eqv (_),Eqv (_),Eqv (_),Eqv (_),Eqv (_),Eqv (_),Eqv (_),Eqv (_),Eqv (_),Eqv (_),Eqv (_),Eqv (_),Eqv (_),Eqv (_),Eqv (_),Eqv (_),Eqv (_)] Ty.mixed rfl rfl rfl (by kernel_rfl) rfl rfl (fun w w' hw hb=>hw.step hb) ⟨fun _ _ _ h _=>h,fun _ _ _ h _=>h,fun _ _ _ h _=>h,fun _ _ _ h _=>h,fun _ _ _ h _=>h,fun _ _ _ h _=>h,fun _ _ _ h _=>h,fun _ _ _ h _=>h,fun _ _ _ h _=>h,fun _ _ _ h _=>h,fun _ _ _ h _=>h,fun _ _ _ h _=>h,fun _ _ _ h _=>h,fun _ _ _ h _=>h,fun _ _ _ h _=>h,fun _ _ _ h _=>h,fun _ _ _ h _=>h,fun _ _ _ h _=>h,fun _ _ _ h _=>h,fun _ _ _ h _=>h,trivial⟩ ?hstep ?htail
      case hstep=>
       refine ⟨fun wi=>?_,fun wi=>?_,fun wi=>?_,fun wi=>?_,fun wi=>?_,fun wi=>?_,fun wi=>?_,fun wi=>?_,fun wi=>?_,fun wi=>?_,fun wi=>?_,fun wi=>?_,fun wi=>?_,fun wi=>?_,fun wi=>?_,fun wi=>?_,fun wi=>?_,fun wi=>?_,fun wi=>?_,fun wi=>?_,trivial⟩
       ·refine Fin.nil<|J.qe rfl rfl ?_
        exact J.qm rfl
       ·refine Fin.qc rfl (Fin.nil ?_);refine J.qq rfl rfl ?_
        exact J.qm rfl
       ·refine Fin.qc rfl (Fin.nil ?_);refine J.qi Ty.fd124_1 rfl rfl ?_
        exact J.qm rfl
       ·refine Fin.qc rfl (Fin.nil ?_);refine J.qw Ty.a81 rfl (fun w hw=>(qB (hw.2.own (_,_) zm)).trans (by exact rfl)) rfl ?_
        exact J.qm rfl
       ·refine Fin.qc rfl (Fin.nil ?_);refine J.qj rfl rfl rfl rfl<|J.name 89 rfl (congrArg (Value.int .u64) (show _=((gen+1:Nat):Int) from ze (by omega) (by omega))) ?_
        exact J.qm rfl
       ·refine Fin.nil<|J.qe rfl rfl ?_
        exact J.qm rfl
       ·refine Fin.qc rfl (Fin.nil ?_);refine J.qq rfl rfl ?_
        exact J.qm rfl
       ·refine Fin.qc rfl (Fin.nil ?_);refine J.qi Ty.fd124_2 rfl rfl ?_
        exact J.qm rfl
       ·refine Fin.qc rfl (Fin.nil ?_);refine J.qw Ty.a3 rfl (fun w hw=>(qB (hw.2.own (_,_) zm)).trans (by exact rfl)) rfl ?_
        exact J.qm rfl
       ·refine Fin.nil<|J.qe rfl rfl ?_
        exact J.qm rfl
       ·refine Fin.qc rfl (Fin.nil ?_);refine J.qK rfl Ty.u26 rfl rfl ?_
        exact J.qm rfl
       ·refine Fin.qc rfl (Fin.nil ?_);refine J.zD Ty.bd63 rfl rfl (fun w1 hw=>z1 rec_.length w1 (by omega)) ?_
        exact J.zQ rfl
       ·refine Fin.qc rfl (Fin.qc rfl (Fin.nil ?_))
        (first | refine J.qG rfl rfl (by omega) (by omega) rfl ?_ | refine J.qj rfl rfl rfl rfl ?_)
        exact J.qm rfl
       ·refine Fin.qc rfl (Fin.nil ?_);refine J.qF Ty.u3 Ty.u81 rfl rfl<|J.name 98 rfl (congrArg (Value.int .u64) (show _=((used+needN rec_.length:Nat):Int) from ze (by omega) (by omega))) ?_
        exact J.qm rfl
       ·refine Fin.nil<|J.qe rfl rfl ?_
        exact J.qm rfl
       ·refine Fin.qc rfl (Fin.nil ?_);refine J.qq rfl rfl ?_
        exact J.qm rfl
       ·refine Fin.qc rfl (Fin.nil ?_);refine J.qi Ty.fd124_3 rfl rfl ?_
        exact J.qm rfl
       ·refine Fin.qc rfl (Fin.nil ?_);refine J.qw Ty.a3 rfl (fun w hw=>(qB (hw.2.own (_,_) zm)).trans (by exact rfl)) rfl ?_
        exact J.qm rfl
       ·refine Fin.qc rfl (Fin.nil ?_)
        (first | refine J.qG rfl rfl (by omega) (by omega) rfl ?_ | refine J.qj rfl rfl rfl rfl ?_)
        exact J.qm rfl
       ·refine Fin.qc rfl (Fin.nil ?_);refine J.qF Ty.u3 Ty.u81 rfl rfl<|J.name 104 rfl (congrArg (Value.int .u64) (show _=((cnt_+1:Nat):Int) from ze (by omega) (by omega))) ?_
        exact J.qm rfl
      case htail=>
       refine Fin.qc rfl (Fin.qc rfl (Fin.qc rfl (Fin.qc rfl (Fin.qc rfl (Fin.qc rfl (Fin.qc rfl (Fin.qc rfl (Fin.qc rfl (Fin.qc rfl (Fin.qc rfl (Fin.qc rfl (Fin.qc rfl (Fin.qc rfl (Fin.qc rfl (Fin.qc rfl (Fin.qc rfl (Fin.qc rfl (Fin.qc rfl (Fin.qc rfl (Fin.nil ?_))))))))))))))))))))
       refine J.za Ty.el118 Ty.s81 Ty.z81 rfl rfl rfl rfl rfl rfl rfl (fun b105=>?_);refine J.perm ([]++((b105,cb [.int .u64 ((gen+1:Nat):Int),.int .u64 ((used+needN rec_.length:Nat):Int),.int .u64 ((cnt_+1:Nat):Int)] 81)::(lb,cb [.pointer (some ⟨d,0,none⟩),.int .u64 ((gen:Nat):Int),.int .i64 ((used:Nat):Int),.int .i64 ((cnt_:Nat):Int),.bool false] 124)::(d,dkO s n (p1) (k1))::(s,dkS (B1))::lp48)) (.refl _) ?_;refine J.qO (l1:=[]) (l:=(b105,cb [.int .u64 ((gen+1:Nat):Int),.int .u64 ((used+needN rec_.length:Nat):Int),.int .u64 ((cnt_+1:Nat):Int)] 81)::(lb,cb [.pointer (some ⟨d,0,none⟩),.int .u64 ((gen:Nat):Int),.int .i64 ((used:Nat):Int),.int .i64 ((cnt_:Nat):Int),.bool false] 124)::(d,dkO s n (p1) (k1))::(s,dkS (B1))::lp48) Ty.bd69 rfl rfl (fun w1 hw=>laid_spec _ [gen+1,used+needN rec_.length,cnt_+1] w1 (Row.own (cs:=[.int .u64 ((gen+1:Nat):Int),.int .u64 ((used+needN rec_.length:Nat):Int),.int .u64 ((cnt_+1:Nat):Int)]) (tb:=81) (fr:=(0,0)) hw (.head _) rfl (Nat.le_refl _)) (by simp)) (fun x hv106=>?_)
       obtain ⟨v106,lp106⟩:=x
       simp only at hv106 ⊢
       obtain ⟨a106,c106,rfl,hc106⟩:=hv106.form
       refine J.perm ((lb,cb [.pointer (some ⟨d,0,none⟩),.int .u64 ((gen:Nat):Int),.int .i64 ((used:Nat):Int),.int .i64 ((cnt_:Nat):Int),.bool false] 124)::(d,dkO s n (p1) (k1))::(s,dkS (B1))::(lp106++(b105,cb [.int .u64 ((gen+1:Nat):Int),.int .u64 ((used+needN rec_.length:Nat):Int),.int .u64 ((cnt_+1:Nat):Int)] 81)::lp48)) zp<|J.assign rfl rfl<|J.nil ?_;refine JX.qd (hK22 _ _ ?_);refine JC.seq (fun K23 hK23=>?_);refine JC.seq (fun K24 hK24=>?_)
       by_cases hp0:p1=0
       ·subst hp0
        have happ:=yY (n:=n) (q:=⟨gen,used,cnt_,recs⟩) (σ:=⟨B,p,k⟩) hlong hfull (hdw.trans (by rw [plan_last];exact yL))
        apply JC.zc 12 [Eqv (_),Eqv (_),Eqv (_),Eqv (_),Eqv (_),Eqv (_),Eqv (_),Eqv (_),Eqv (_),Eqv (_),Eqv (_),Eqv (_)] Ty.mixed rfl rfl rfl (by kernel_rfl) rfl rfl (fun w w' hw hb=>hw.step hb) ⟨fun _ _ _ h _=>h,fun _ _ _ h _=>h,fun _ _ _ h _=>h,fun _ _ _ h _=>h,fun _ _ _ h _=>h,fun _ _ _ h _=>h,fun _ _ _ h _=>h,fun _ _ _ h _=>h,fun _ _ _ h _=>h,fun _ _ _ h _=>h,fun _ _ _ h _=>h,fun _ _ _ h _=>h,trivial⟩ ?hstep ?htail
        case hstep=>
         refine ⟨fun wi=>?_,fun wi=>?_,fun wi=>?_,fun wi=>?_,fun wi=>?_,fun wi=>?_,fun wi=>?_,fun wi=>?_,fun wi=>?_,fun wi=>?_,fun wi=>?_,fun wi=>?_,trivial⟩
         ·refine Fin.nil<|J.qe rfl rfl ?_
          exact J.qm rfl
         ·refine Fin.qc rfl (Fin.nil ?_);refine J.qq rfl rfl ?_
          exact J.qm rfl
         ·refine Fin.qc rfl (Fin.nil ?_);refine J.qi Ty.fd124_0 rfl rfl ?_
          exact J.qm rfl
         ·refine Fin.qc rfl (Fin.nil ?_);refine J.qw Ty.a34 rfl (fun w hw=>(qB (hw.2.own (_,_) zm)).trans (by exact rfl)) rfl ?_
          exact J.qm rfl
         ·refine Fin.nil<|J.qe rfl rfl ?_
          exact J.qm rfl
         ·refine Fin.qc rfl (Fin.nil ?_);refine J.qq rfl rfl ?_
          exact J.qm rfl
         ·refine Fin.qc rfl (Fin.nil ?_);refine J.qi Ty.fd124_1 rfl rfl ?_
          exact J.qm rfl
         ·refine Fin.qc rfl (Fin.nil ?_);refine J.qw Ty.a81 rfl (fun w hw=>(qB (hw.2.own (_,_) zm)).trans (by exact rfl)) rfl ?_
          exact J.qm rfl
         ·refine Fin.qc rfl (Fin.nil ?_);refine J.qj rfl rfl rfl rfl<|J.name 115 rfl (congrArg (Value.int .u64) (show _=((gen+1:Nat):Int) from ze (by omega) (by omega))) ?_
          exact J.qm rfl
         ·refine Fin.qc rfl (Fin.nil ?_);refine J.qj rfl rfl rfl rfl<|J.name 116 rfl (congrArg (Value.int .u64) (show _=(((gen+1)%2:Nat):Int) from rfl)) ?_
          exact J.qm rfl
         ·refine Fin.qc rfl (Fin.nil ?_);refine J.qF Ty.u81 Ty.u3 rfl rfl<|J.name 117 rfl (congrArg (Value.int .i64) (show _=(((gen+1)%2:Nat):Int) from qV (by omega) (by omega))) ?_
          exact J.qm rfl
         ·refine Fin.nil<|J.qe rfl rfl ?_
          exact J.qm rfl
        case htail=>
         refine Fin.qc rfl (Fin.qc rfl (Fin.qc rfl (Fin.qc rfl (Fin.qc rfl (Fin.qc rfl (Fin.qc rfl (Fin.qc rfl (Fin.qc rfl (Fin.qc rfl (Fin.qc rfl (Fin.qc rfl (Fin.nil ?_))))))))))))
         refine J.perm ([(d,dkO s n (0) (k1)),(s,dkS (B1))]++((lb,cb [.pointer (some ⟨d,0,none⟩),.int .u64 ((gen:Nat):Int),.int .i64 ((used:Nat):Int),.int .i64 ((cnt_:Nat):Int),.bool false] 124)::(lp106++(b105,cb [.int .u64 ((gen+1:Nat):Int),.int .u64 ((used+needN rec_.length:Nat):Int),.int .u64 ((cnt_+1:Nat):Int)] 81)::lp48))) zp<|J.qR (fun w1 w2 hw hb=>hw.step hb) Ty.bd68 rfl rfl (fun w1 hw=>write_down d s n k1 w1 (St.owns (l1:=[(d,dkO s n (0) (k1)),(s,dkS (B1))]) hw) (((gen+1)%2:Nat):Int) _ 24 c106 (by omega) (by omega) (by omega)) ?_;refine J.perm ((lb,cb [.pointer (some ⟨d,0,none⟩),.int .u64 ((gen:Nat):Int),.int .i64 ((used:Nat):Int),.int .i64 ((cnt_:Nat):Int),.bool false] 124)::(d,dkO s n (0) (k1))::(s,dkS (B1))::(lp106++(b105,cb [.int .u64 ((gen+1:Nat):Int),.int .u64 ((used+needN rec_.length:Nat):Int),.int .u64 ((cnt_+1:Nat):Int)] 81)::lp48)) zp<|J.assign rfl rfl<|J.nil ?_;refine JX.qd (hK24 _ _ ?_);refine JC.seq (fun K25 hK25=>?_);refine JC.region<|J.qe rfl rfl<|J.qj rfl rfl rfl rfl<|J.nil ?_;refine JX.qd (hK25 _ _ ?_)
         first | refine JC.qP rfl ?_ | refine JC.qn rfl (fun _=>?_) (fun h=>by first | (exfalso;simp at h;omega) | (simp at h))
         refine JC.seq (fun K26 hK26=>?_);refine JC.region<|J.qe rfl rfl<|J.qq rfl rfl<|J.qi Ty.fd124_4 rfl rfl<|J.qU Ty.s4 rfl rfl rfl rfl (by simp [Value.oneCell']) zu (by simp) ?_;refine J.nil ?_;refine JX.qd (hK26 _ _ ?_);refine JC.seq (fun K27 hK27=>?_);refine JC.region<|J.qe rfl rfl<|J.assign rfl rfl<|J.nil ?_;refine JX.qd (hK27 _ _ ?_);refine JC.qA<|JX.qt ?_;refine JX.qL rfl rfl (fun w1 hw=>?_)
         rw [happ]
         first
         | exact ⟨rfl,hw⟩
         | exact ⟨rfl,hw.drop (.cons_cons _ (.cons_cons _ (.cons_cons _ (List.nil_sublist _))))⟩
       ·have happ:=appendP_ok (n:=n) (q:=⟨gen,used,cnt_,recs⟩) (σ:=⟨B,p,k⟩) hlong hfull (hdw.trans (by rw [plan_last,dws_cons hp0];exact dws_nil))
        apply JC.zc 12 [Eqv (_),Eqv (_),Eqv (_),Eqv (_),Eqv (_),Eqv (_),Eqv (_),Eqv (_),Eqv (_),Eqv (_),Eqv (_),Eqv (_)] Ty.mixed rfl rfl rfl (by kernel_rfl) rfl rfl (fun w w' hw hb=>hw.step hb) ⟨fun _ _ _ h _=>h,fun _ _ _ h _=>h,fun _ _ _ h _=>h,fun _ _ _ h _=>h,fun _ _ _ h _=>h,fun _ _ _ h _=>h,fun _ _ _ h _=>h,fun _ _ _ h _=>h,fun _ _ _ h _=>h,fun _ _ _ h _=>h,fun _ _ _ h _=>h,fun _ _ _ h _=>h,trivial⟩ ?hstep ?htail
        case hstep=>
         refine ⟨fun wi=>?_,fun wi=>?_,fun wi=>?_,fun wi=>?_,fun wi=>?_,fun wi=>?_,fun wi=>?_,fun wi=>?_,fun wi=>?_,fun wi=>?_,fun wi=>?_,fun wi=>?_,trivial⟩
         ·refine Fin.nil<|J.qe rfl rfl ?_
          exact J.qm rfl
         ·refine Fin.qc rfl (Fin.nil ?_);refine J.qq rfl rfl ?_
          exact J.qm rfl
         ·refine Fin.qc rfl (Fin.nil ?_);refine J.qi Ty.fd124_0 rfl rfl ?_
          exact J.qm rfl
         ·refine Fin.qc rfl (Fin.nil ?_);refine J.qw Ty.a34 rfl (fun w hw=>(qB (hw.2.own (_,_) zm)).trans (by exact rfl)) rfl ?_
          exact J.qm rfl
         ·refine Fin.nil<|J.qe rfl rfl ?_
          exact J.qm rfl
         ·refine Fin.qc rfl (Fin.nil ?_);refine J.qq rfl rfl ?_
          exact J.qm rfl
         ·refine Fin.qc rfl (Fin.nil ?_);refine J.qi Ty.fd124_1 rfl rfl ?_
          exact J.qm rfl
         ·refine Fin.qc rfl (Fin.nil ?_);refine J.qw Ty.a81 rfl (fun w hw=>(qB (hw.2.own (_,_) zm)).trans (by exact rfl)) rfl ?_
          exact J.qm rfl
         ·refine Fin.qc rfl (Fin.nil ?_);refine J.qj rfl rfl rfl rfl<|J.name 115 rfl (congrArg (Value.int .u64) (show _=((gen+1:Nat):Int) from ze (by omega) (by omega))) ?_
          exact J.qm rfl
         ·refine Fin.qc rfl (Fin.nil ?_);refine J.qj rfl rfl rfl rfl<|J.name 116 rfl (congrArg (Value.int .u64) (show _=(((gen+1)%2:Nat):Int) from rfl)) ?_
          exact J.qm rfl
         ·refine Fin.qc rfl (Fin.nil ?_);refine J.qF Ty.u81 Ty.u3 rfl rfl<|J.name 117 rfl (congrArg (Value.int .i64) (show _=(((gen+1)%2:Nat):Int) from qV (by omega) (by omega))) ?_
          exact J.qm rfl
         ·refine Fin.nil<|J.qe rfl rfl ?_
          exact J.qm rfl
        case htail=>
         refine Fin.qc rfl (Fin.qc rfl (Fin.qc rfl (Fin.qc rfl (Fin.qc rfl (Fin.qc rfl (Fin.qc rfl (Fin.qc rfl (Fin.qc rfl (Fin.qc rfl (Fin.qc rfl (Fin.qc rfl (Fin.nil ?_))))))))))))
         refine J.perm ([(d,dkO s n (p1) (k1)),(s,dkS (B1))]++((lb,cb [.pointer (some ⟨d,0,none⟩),.int .u64 ((gen:Nat):Int),.int .i64 ((used:Nat):Int),.int .i64 ((cnt_:Nat):Int),.bool false] 124)::(lp106++(b105,cb [.int .u64 ((gen+1:Nat):Int),.int .u64 ((used+needN rec_.length:Nat):Int),.int .u64 ((cnt_+1:Nat):Int)] 81)::lp48))) zp<|J.callT (l1:=[(d,dkO s n (p1) (k1)),(s,dkS (B1))]) (L:=[(d,dkO s n (if 0<p1 then p1 - 1 else p1) (k1+1)),(s,dkS (put B1 ((gen+1)%2) ([gen+1,used+needN rec_.length,cnt_+1].flatMap be8)))]) Ty.bd68 rfl rfl (fun w1 hw=>write_done d s n B1 ([gen+1,used+needN rec_.length,cnt_+1].flatMap be8) p1 k1 ((gen+1)%2) a106 24 c106 w1 hw.owns hB1 hk10 (by omega) (by omega) (by omega) (by rw [flat_length];rfl) (hv106.row (l:=(d,dkO s n (p1) (k1))::(s,dkS (B1))::(lb,cb [.pointer (some ⟨d,0,none⟩),.int .u64 ((gen:Nat):Int),.int .i64 ((used:Nat):Int),.int .i64 ((cnt_:Nat):Int),.bool false] 124)::(b105,cb [.int .u64 ((gen+1:Nat):Int),.int .u64 ((used+needN rec_.length:Nat):Int),.int .u64 ((cnt_+1:Nat):Int)] 81)::lp48) (hw.perm zp)) (hv106.off (l1:=[(d,dkO s n (p1) (k1)),(s,dkS (B1))]) (l:=(lb,cb [.pointer (some ⟨d,0,none⟩),.int .u64 ((gen:Nat):Int),.int .i64 ((used:Nat):Int),.int .i64 ((cnt_:Nat):Int),.bool false] 124)::(b105,cb [.int .u64 ((gen+1:Nat):Int),.int .u64 ((used+needN rec_.length:Nat):Int),.int .u64 ((cnt_+1:Nat):Int)] 81)::lp48) (hw.perm zp)) hp1 hp0) ?_;refine J.perm ((lb,cb [.pointer (some ⟨d,0,none⟩),.int .u64 ((gen:Nat):Int),.int .i64 ((used:Nat):Int),.int .i64 ((cnt_:Nat):Int),.bool false] 124)::(d,dkO s n (if 0<p1 then p1 - 1 else p1) (k1+1))::(s,dkS (put B1 ((gen+1)%2) ([gen+1,used+needN rec_.length,cnt_+1].flatMap be8)))::(lp106++(b105,cb [.int .u64 ((gen+1:Nat):Int),.int .u64 ((used+needN rec_.length:Nat):Int),.int .u64 ((cnt_+1:Nat):Int)] 81)::lp48)) zp<|J.assign rfl rfl<|J.nil ?_;refine JX.qd (hK24 _ _ ?_);refine JC.seq (fun K28 hK28=>?_);refine JC.region<|J.qe rfl rfl<|J.qj rfl rfl rfl rfl<|J.nil ?_;refine JX.qd (hK28 _ _ ?_)
         first | refine JC.qI rfl ?_ | refine JC.qn rfl (fun h=>by first | (exfalso;simp at h;omega) | (simp at h)) (fun _=>?_)
         refine JC.skip ?_;refine JX.qd (hK23 _ _ ?_);refine JC.seq (fun K29 hK29=>?_);refine JC.region<|J.qe rfl rfl<|J.qq rfl rfl<|J.qi Ty.fd124_1 rfl rfl<|J.qQ Ty.a81 rfl zm (by exact rfl) rfl ?_;refine J.qj rfl rfl rfl rfl<|J.name 130 rfl (congrArg (Value.int .u64) (show _=((gen+1:Nat):Int) from ze (by omega) (by omega))) ?_;refine J.qq rfl rfl<|J.qi Ty.fd124_1 rfl rfl<|J.qU Ty.s81 rfl rfl rfl rfl (by simp [Value.oneCell']) zu (by simp) ?_;refine J.nil ?_;refine JX.qd (hK29 _ _ ?_);refine JC.seq (fun K30 hK30=>?_)
         apply JC.zc 8 [Eqv (_),Eqv (_),Eqv (_),Eqv (_),Eqv (_),Eqv (_),Eqv (_),Eqv (_)] Ty.mixed rfl rfl rfl (by kernel_rfl) rfl rfl (fun w w' hw hb=>hw.step hb) ⟨fun _ _ _ h _=>h,fun _ _ _ h _=>h,fun _ _ _ h _=>h,fun _ _ _ h _=>h,fun _ _ _ h _=>h,fun _ _ _ h _=>h,fun _ _ _ h _=>h,fun _ _ _ h _=>h,trivial⟩ ?hstep ?htail
         case hstep=>
          refine ⟨fun wi=>?_,fun wi=>?_,fun wi=>?_,fun wi=>?_,fun wi=>?_,fun wi=>?_,fun wi=>?_,fun wi=>?_,trivial⟩
          ·refine Fin.nil<|J.qe rfl rfl ?_
           exact J.qm rfl
          ·refine Fin.qc rfl (Fin.nil ?_);refine J.qq rfl rfl ?_
           exact J.qm rfl
          ·refine Fin.qc rfl (Fin.nil ?_);refine J.qi Ty.fd124_2 rfl rfl ?_
           exact J.qm rfl
          ·refine Fin.qc rfl (Fin.nil ?_);refine J.qw Ty.a3 rfl (fun w hw=>(qB (hw.2.own (_,_) zm)).trans (by exact rfl)) rfl ?_
           exact J.qm rfl
          ·refine Fin.nil<|J.qe rfl rfl ?_
           exact J.qm rfl
          ·refine Fin.qc rfl (Fin.nil ?_);refine J.qK rfl Ty.u26 rfl rfl ?_
           exact J.qm rfl
          ·refine Fin.qc rfl (Fin.nil ?_);refine J.zD Ty.bd63 rfl rfl (fun w1 hw=>z1 rec_.length w1 (by omega)) ?_
           exact J.zQ rfl
          ·refine Fin.qc rfl (Fin.qc rfl (Fin.nil ?_))
           refine J.qG rfl rfl (by omega) (by omega) rfl ?_
           exact J.qm rfl
         case htail=>
          refine Fin.qc rfl (Fin.qc rfl (Fin.qc rfl (Fin.qc rfl (Fin.qc rfl (Fin.qc rfl (Fin.qc rfl (Fin.qc rfl (Fin.nil ?_))))))))
          refine J.qq rfl rfl<|J.qi Ty.fd124_2 rfl rfl<|J.qU Ty.s3 rfl rfl rfl rfl (by simp [Value.oneCell']) zu (by simp) ?_;refine J.nil ?_;refine JX.qd (hK30 _ _ ?_);refine JC.seq (fun K31 hK31=>?_);refine JC.region<|J.qe rfl rfl<|J.qq rfl rfl<|J.qi Ty.fd124_3 rfl rfl<|J.qQ Ty.a3 rfl zm (by exact rfl) rfl ?_
          (first | refine J.qG rfl rfl (by omega) (by omega) rfl ?_ | refine J.qj rfl rfl rfl rfl ?_)
          refine J.qq rfl rfl<|J.qi Ty.fd124_3 rfl rfl<|J.qU Ty.s3 rfl rfl rfl rfl (by simp [Value.oneCell']) zu (by simp) ?_;refine J.nil ?_;refine JX.qd (hK31 _ _ ?_);refine JC.seq (fun K32 hK32=>?_);refine JC.region<|J.assign rfl rfl<|J.nil ?_;refine JX.qd (hK32 _ _ ?_);refine JC.qA ?_;refine JX.qL rfl rfl (fun w1 hw=>?_)
          rw [happ]
          first
          | exact ⟨rfl,hw⟩
          | exact ⟨rfl,hw.drop (.cons_cons _ (.cons_cons _ (.cons_cons _ (List.nil_sublist _))))⟩
def hst (pre:List UInt8) (N j z:Nat):List UInt8:=pre++(List.replicate (8 - j) 0++((be8 N).drop (8 - j)++List.replicate z 0))
theorem hst_length {pre:List UInt8} {N j z:Nat} (h:j≤8):(hst pre N j z).length=pre.length+8+z:=by
 simp only [hst,List.length_append,List.length_replicate,List.length_drop,q8];omega
theorem hst_zero {pre:List UInt8} {N z:Nat}:hst pre N 0 z=pre++List.replicate (8+z) 0:=by
 rw [hst,List.drop_eq_nil_of_le (by rw [q8];omega),List.nil_append,List.replicate_append_replicate]
theorem hst_all {pre:List UInt8} {N z:Nat}:hst pre N 8 z=(pre++be8 N)++List.replicate z 0:=by simp [hst]
theorem hst_set {pre:List UInt8} {N j z:Nat} (h:j<8):(hst pre N j z).set (pre.length+(7 - j)) ((be8 N)[7 - j]'(by rw [q8];omega))=hst pre N (j+1) z:=by
 have e1:List.replicate (8 - j) (0:UInt8)=List.replicate (7 - j) 0++[0]:=by
  rw [show 8 - j=(7 - j)+1 by omega,List.replicate_succ']
 have e2:(be8 N).drop (8 - (j+1))=(be8 N)[7 - j]'(by rw [q8];omega)::(be8 N).drop (8 - j):=by
  rw [show 8 - (j+1)=7 - j by omega,List.drop_eq_getElem_cons (by rw [q8];omega)]
  congr 2;omega
 rw [hst,hst,e1,e2,show 8 - (j+1)=7 - j by omega]
 rw [List.set_append_right _ _ (by omega),Nat.add_sub_cancel_left,List.append_assoc,List.set_append_right _ _ (by simp),List.length_replicate,Nat.sub_self]
 rfl
theorem byte_hst (N j:Nat) (h:j<8):UInt8.ofNat (N / 256 ^ j%256)=(be8 N)[7 - j]'(by rw [q8];omega):=by
 rw [be8_get N (7 - j) (by omega),show 56 - 8*(7 - j)=8*j by omega,Nat.pow_mul]
 apply UInt8.toNat_inj.1
 simp
theorem byte_u64 (N j:Nat) (h:j<8):Value.int .u8 (IntKind.u8.wrap ((N / 256 ^ j%256:Nat):Int))=u8 ((be8 N)[7 - j]'(by rw [q8];omega)):=by
 rw [← byte_hst N j h,yM]
 show Value.int .u8 _=Value.int .u8 _
 congr 1 <;> simp
theorem div_pow (N j:Nat):N / 256 ^ j / 256=N / 256 ^ (j+1):=by rw [Nat.div_div_eq_div_mul,Nat.pow_succ]
theorem flat3 (a b c:Nat):(be8 a++be8 b)++be8 c=[a,b,c].flatMap be8:=by simp [List.append_assoc]
theorem rroom_spec (lb r n:Nat) (q:LogP) (down:Bool) (a0:Option Addr) (c0:Nat) (p k:Int) (w:World) {l:List (Nat × Obj)} (hw0:Own w ((lb,rlO r q down)::(r,rfO (.slice a0 (64*n) c0) p k)::l)) (hn:n≤4096) (hu:q.used≤4096) :
  Calls Try.prog 54 [.pointer (some ⟨lb,0,none⟩)].toArray w fun ρ w'=>ρ=.returned (.int .i64 ((n:Int) - 2 - ((q.used:Nat):Int)))∧Bel w w':=by
 refine qD (args:=[.pointer (some ⟨lb,0,none⟩)]) (e:=[(0,.pointer (some ⟨lb,0,none⟩))]) Try.func54 rfl rfl ⟨rfl,trivial⟩ (hw0.st) ?_;refine JC.seq (fun K0 hK0=>?_);refine JC.region<|J.assign rfl rfl<|J.nil ?_;refine JX.qd (hK0 _ _ ?_);refine JC.seq (fun K1 hK1=>?_)
 apply JC.zc 15 [Eqv (_),Eqv (_),Eqv (_),Eqv (_),Eqv (_),Eqv (_),Eqv (_),Eqv (_),Eqv (_),Eqv (_),Eqv (_),Eqv (_),Eqv (_),Eqv (_),Eqv (_)] Ty.mixed rfl rfl rfl (by kernel_rfl) rfl rfl (fun w w' hw hb=>hw.step hb) ⟨fun _ _ _ h _=>h,fun _ _ _ h _=>h,fun _ _ _ h _=>h,fun _ _ _ h _=>h,fun _ _ _ h _=>h,fun _ _ _ h _=>h,fun _ _ _ h _=>h,fun _ _ _ h _=>h,fun _ _ _ h _=>h,fun _ _ _ h _=>h,fun _ _ _ h _=>h,fun _ _ _ h _=>h,fun _ _ _ h _=>h,fun _ _ _ h _=>h,fun _ _ _ h _=>h,trivial⟩ ?hstep ?htail
 case hstep=>
  refine ⟨fun wi=>?_,fun wi=>?_,fun wi=>?_,fun wi=>?_,fun wi=>?_,fun wi=>?_,fun wi=>?_,fun wi=>?_,fun wi=>?_,fun wi=>?_,fun wi=>?_,fun wi=>?_,fun wi=>?_,fun wi=>?_,fun wi=>?_,trivial⟩
  ·refine Fin.nil<|J.qe rfl rfl ?_
   exact J.qm rfl
  ·refine Fin.qc rfl (Fin.nil ?_);refine J.qq rfl rfl ?_
   exact J.qm rfl
  ·refine Fin.qc rfl (Fin.nil ?_);refine J.qi Ty.fd83_0 rfl rfl ?_
   exact J.qm rfl
  ·refine Fin.qc rfl (Fin.nil ?_);refine J.qw Ty.a58 rfl (fun w hw=>(qB (hw.2.own (_,_) zm)).trans (by exact rfl)) rfl ?_
   exact J.qm rfl
  ·refine Fin.qc rfl (Fin.nil ?_);refine J.qq rfl rfl ?_
   exact J.qm rfl
  ·refine Fin.qc rfl (Fin.nil ?_);refine J.qi Ty.fd67_0 rfl rfl ?_
   exact J.qm rfl
  ·refine Fin.qc rfl (Fin.nil ?_);refine J.qw Ty.a26 rfl (fun w hw=>(qB (hw.2.own (_,_) zm)).trans (by exact rfl)) rfl ?_
   exact J.qm rfl
  ·refine Fin.qc rfl (Fin.nil ?_);refine J.qK rfl Ty.u26 rfl rfl ?_
   exact J.qm rfl
  ·refine Fin.qc rfl (Fin.nil ?_);refine J.ym rfl rfl (by omega) (by omega) (by omega) rfl ?_;refine J.name 11 rfl (congrArg (Value.int .i64) (show ((64*n:Nat):Int) / 64=(n:Int) by omega)) ?_
   exact J.qm rfl
  ·refine Fin.qc rfl (Fin.nil ?_);refine J.zn rfl rfl (by omega) (by omega) rfl ?_
   exact J.qm rfl
  ·refine Fin.nil<|J.qe rfl rfl ?_
   exact J.qm rfl
  ·refine Fin.qc rfl (Fin.nil ?_);refine J.qq rfl rfl ?_
   exact J.qm rfl
  ·refine Fin.qc rfl (Fin.nil ?_);refine J.qi Ty.fd83_2 rfl rfl ?_
   exact J.qm rfl
  ·refine Fin.qc rfl (Fin.nil ?_);refine J.qw Ty.a3 rfl (fun w hw=>(qB (hw.2.own (_,_) zm)).trans (by exact rfl)) rfl ?_
   exact J.qm rfl
  ·refine Fin.qc rfl (Fin.qc rfl (Fin.nil ?_))
   refine J.zn rfl rfl (by omega) (by omega) rfl ?_
   exact J.qm rfl
 case htail=>
  refine Fin.qc rfl (Fin.qc rfl (Fin.qc rfl (Fin.qc rfl (Fin.qc rfl (Fin.qc rfl (Fin.qc rfl (Fin.qc rfl (Fin.qc rfl (Fin.qc rfl (Fin.qc rfl (Fin.qc rfl (Fin.qc rfl (Fin.qc rfl (Fin.qc rfl (Fin.nil ?_)))))))))))))))
  refine J.assign rfl rfl<|J.nil ?_;refine JX.qd (hK1 _ _ ?_);refine JC.qA ?_;refine JX.qL rfl rfl (fun w1 hw=>?_)
  exact ⟨rfl,hw.same hw0 (fun p hp=>hp)⟩
theorem lo_byte' (m:Nat):Value.int .u8 (IntKind.u8.wrap ((m:Nat):Int))=u8 (UInt8.ofNat m):=by
 rw [yM]
 show Value.int .u8 _=Value.int .u8 _
 congr 1
theorem Up.app {l l' L:List (Nat × Obj)} {b:Nat} {o o':Obj} (h:Up l b o o' l'):Up (L++l) b o o' (L++l'):=by
 induction L with
 | nil=>exact h
 | cons x L ih=>exact .there ih
theorem if_neg_add {c41 q:Nat} {a41:Option Addr}:(if c41 - q=0 then (if c41=q then a41 else a41.map (·.add (q*1))) else (if c41=q then a41 else a41.map (·.add (q*1))).map (·.add (0*1)))=(if c41=q then a41 else a41.map (·.add (q*1))):=by
 have h0:∀x:Addr,x.add (0*1)=x:=by intro x;simp [Addr.add]
 split
 ·rfl
 ·generalize (if c41=q then a41 else a41.map (·.add (q*1)))=y
  cases y with
  | none=>rfl
  | some y=>rw [Option.map_some,h0]
theorem rappend_spec (lb r n:Nat) (q:LogP) (down:Bool) (v:Value) (lp:List (Nat × Obj)) (B rec_:List UInt8) (p k:Int) (a:Option Addr) (m c:Nat) (w:World) (hw0:Own w ((lb,rlO r q down)::(r,rfO v p k)::lp)) (hv:Vec 5 1 v (64*n) (B.map u8) lp) (hB:B.length=64*n) (hn:n≤4096) (hn3:3≤n) (hg:q.gen<9223372036854775808) (hu:q.used≤n - 2) (hcn:q.cnt≤q.used) (hk:0≤k) (hk2:k<4611686018427380000) (hp:p<9223372036854775808) (hml:rec_.length=m) (hm47:m≤140737488351232) (hr:Row w (.slice a m c) m (rec_.map u8)) (hoff:Off (lb::r::lp.map (·.1)) (.slice a m c) (rec_.map u8)) :
  Calls Try.prog 28 [.pointer (some ⟨lb,0,none⟩),.slice a m c].toArray w fun ρ w'=>match appendP n q down ⟨B,p,k⟩ rec_ with
   | (e,q',down',σ')=>∃lp',ρ=.returned (.int .i64 e)∧Vec 5 1 v (64*n) (σ'.B.map u8) lp'∧St w (lb::r::lp.map (·.1)) ((lb,rlO r q' down')::(r,rfO v σ'.p σ'.k)::lp') w':=by
 obtain ⟨gen,used,cnt_,recs⟩:=q
 simp only at hg hu hcn
 subst hml
 obtain ⟨a0,c0,rfl,hc0⟩:=hv.form
 refine qD (args:=[.pointer (some ⟨lb,0,none⟩),.slice a rec_.length c]) (e:=[(0,.pointer (some ⟨lb,0,none⟩)),(1,.slice a rec_.length c)]) Try.func28 rfl rfl ⟨rfl,rfl,trivial⟩ (show St w (lb::r::lp.map (·.1)) ((lb,cb [.pointer (some ⟨r,0,none⟩),.int .u64 ((gen:Nat):Int),.int .i64 ((used:Nat):Int),.int .i64 ((cnt_:Nat):Int),.bool down] 83)::(r,rfO (.slice a0 (64*n) c0) (p) (k))::lp) w from hw0.st) ?_;refine JC.seq (fun K0 hK0=>?_);refine JC.region<|J.assign rfl rfl<|J.nil ?_;refine JX.qd (hK0 _ _ ?_);refine JC.seq (fun K1 hK1=>?_);refine JC.seq (fun K2 hK2=>?_);refine JC.region<|J.qe rfl rfl<|J.qq rfl rfl<|J.qi Ty.fd83_4 rfl rfl<|J.qQ Ty.a4 rfl zm (by exact rfl) rfl ?_;refine J.nil ?_;refine JX.qd (hK2 _ _ ?_);refine JC.qn rfl (fun h0=>?_) (fun h0=>?_)
 ·have happ:=@appendP_down n ⟨gen,used,cnt_,recs⟩ ⟨B,p,k⟩ rec_
  subst h0
  refine JC.seq (fun K3 hK3=>?_);refine JC.region<|J.assign rfl rfl<|J.nil ?_;refine JX.qd (hK3 _ _ ?_);refine JC.qA<|JX.qt ?_;refine JX.qL rfl rfl (fun w1 hw=>?_)
  rw [happ]
  first
  | exact ⟨lp,rfl,hv,hw⟩
  | exact ⟨lp1,rfl,hv1,hw.drop (.cons_cons _ (.cons_cons _ (List.sublist_append_left _ _)))⟩
  | exact ⟨lp2,rfl,hv2,hw.drop (.cons_cons _ (.cons_cons _ (List.sublist_append_left _ _)))⟩
 ·subst h0
  refine JC.skip ?_;refine JX.qd (hK1 _ _ ?_);refine JC.seq (fun K4 hK4=>?_);refine JC.seq (fun K5 hK5=>?_);refine JC.region<|J.qe rfl rfl<|J.qK rfl Ty.u26 rfl rfl<|J.qj rfl rfl rfl rfl<|J.nil ?_;refine JX.qd (hK5 _ _ ?_);refine JC.qn rfl (fun h1=>?_) (fun h1=>?_)
  ·have happ:=appendP_long (n:=n) (q:=⟨gen,used,cnt_,recs⟩) (σ:=⟨B,p,k⟩) (rec_:=rec_) (by simp at h1;omega)
   refine JC.seq (fun K6 hK6=>?_);refine JC.region<|J.assign rfl rfl<|J.nil ?_;refine JX.qd (hK6 _ _ ?_);refine JC.qA<|JX.qt ?_;refine JX.qL rfl rfl (fun w1 hw=>?_)
   rw [happ]
   first
   | exact ⟨lp,rfl,hv,hw⟩
   | exact ⟨lp1,rfl,hv1,hw.drop (.cons_cons _ (.cons_cons _ (List.sublist_append_left _ _)))⟩
   | exact ⟨lp2,rfl,hv2,hw.drop (.cons_cons _ (.cons_cons _ (List.sublist_append_left _ _)))⟩
  ·have hlong:¬1024<rec_.length:=by simp at h1;omega
   have hnd:1≤needN rec_.length∧needN rec_.length≤18:=by unfold needN;omega
   have hpl:=zA rec_
   refine JC.skip ?_;refine JX.qd (hK4 _ _ ?_);refine JC.seq (fun K7 hK7=>?_);refine JC.region<|J.qe rfl rfl<|J.qR (fun w1 w2 hw hb=>hw.step hb) Ty.bd53 rfl rfl (fun w1 hw=>rsectors_spec a rec_.length c w1 (by omega)) ?_;refine J.assign rfl rfl<|J.nil ?_;refine JX.qd (hK7 _ _ ?_);refine JC.seq (fun K8 hK8=>?_);refine JC.seq (fun K9 hK9=>?_);refine JC.region<|J.qe rfl rfl<|J.qe rfl rfl<|J.qR (fun w1 w2 hw hb=>hw.step hb) Ty.bd54 rfl rfl (fun w1 hw=>rroom_spec lb r n ⟨gen,used,cnt_,recs⟩ false a0 c0 p k w1 hw.owns' hn (by simp only;omega)) ?_;refine J.qj rfl rfl rfl rfl<|J.nil ?_;refine JX.qd (hK9 _ _ ?_);refine JC.qn rfl (fun h2=>?_) (fun h2=>?_)
   ·have happ:=appendP_full (n:=n) (q:=⟨gen,used,cnt_,recs⟩) (σ:=⟨B,p,k⟩) (rec_:=rec_) hlong (by simp at h2 ⊢;omega)
    refine JC.seq (fun K10 hK10=>?_);refine JC.region<|J.assign rfl rfl<|J.nil ?_;refine JX.qd (hK10 _ _ ?_);refine JC.qA<|JX.qt ?_;refine JX.qL rfl rfl (fun w1 hw=>?_)
    rw [happ]
    first
    | exact ⟨lp,rfl,hv,hw⟩
    | exact ⟨lp1,rfl,hv1,hw.drop (.cons_cons _ (.cons_cons _ (List.sublist_append_left _ _)))⟩
    | exact ⟨lp2,rfl,hv2,hw.drop (.cons_cons _ (.cons_cons _ (List.sublist_append_left _ _)))⟩
   ·have hfull:¬n - 2 - used<needN rec_.length:=by simp at h2;omega
    refine JC.skip ?_;refine JX.qd (hK8 _ _ ?_);refine JC.seq (fun K11 hK11=>?_);refine JC.region<|J.qe rfl rfl<|J.qK rfl Ty.u26 rfl rfl<|J.ym rfl rfl (by omega) (by omega) (by omega) rfl ?_;refine J.qF Ty.u3 Ty.u5 rfl rfl<|J.name 34 rfl (show _=u8 (UInt8.ofNat (rec_.length / 256)) from lo_byte' _) ?_;refine J.qe rfl rfl<|J.qK rfl Ty.u26 rfl rfl<|J.remN rfl rfl (by omega) (by omega) rfl ?_;refine J.qF Ty.u3 Ty.u5 rfl rfl<|J.name 38 rfl (show _=u8 (UInt8.ofNat (rec_.length%256)) from lo_byte' _) ?_;refine J.za Ty.el26 Ty.s5 Ty.z5 rfl rfl rfl rfl rfl rfl rfl (fun b39=>?_);refine J.qe rfl rfl ?_;refine J.qZ (lp:=[(b39,cb [u8 (UInt8.ofNat (rec_.length / 256)),u8 (UInt8.ofNat (rec_.length%256))] 5)]) (xs:=[u8 (UInt8.ofNat (rec_.length / 256)),u8 (UInt8.ofNat (rec_.length%256))]) (ys:=rec_.map u8) (k:=2) (m:=rec_.length) Ty.el26 Ty.s5 Ty.b5 Ty.z5 rfl (.inl ⟨5,Ty.u26⟩) rfl rfl ⟨rfl,.inr ⟨b39,2,[],rfl,rfl,rfl,Nat.le_refl _⟩⟩ (fun w1 hw=>.inl (hr.st hoff hw)) (by simp) (zk _) (by omega) (by omega) rfl (fun v41 lp41 hv41=>?_)
    obtain ⟨a41,c41,rfl,hc41⟩:=hv41.form
    have hv41:Vec 5 1 (.slice a41 (2+rec_.length) c41) (2+rec_.length) ((payload rec_).map u8) lp41:=hv41
    refine J.perm ((lb,cb [.pointer (some ⟨r,0,none⟩),.int .u64 ((gen:Nat):Int),.int .i64 ((used:Nat):Int),.int .i64 ((cnt_:Nat):Int),.bool false] 83)::(r,rfO (.slice a0 (64*n) c0) (p) (k))::(lp++lp41)) zp<|J.assign rfl rfl<|J.nil ?_;refine JX.qd (hK11 _ _ ?_);refine JC.seq (fun K12 hK12=>?_);refine JC.seq (fun K13 hK13=>?_);refine JC.region<|J.assign rfl rfl<|J.nil ?_;refine JX.qd (hK13 _ _ ?_);refine JC.block ?_
    refine JC.conseq (JC.cov (f:=(fun st=>[(0,.pointer (some ⟨lb,0,none⟩)),(1,.slice a rec_.length c),(5,.int .i64 ((needN rec_.length:Nat):Int)),(6,.slice a41 (2+rec_.length) c41),(7,.int .i64 ((st.1:Nat):Int))]) ((0,B,p,k,lp):Nat × List UInt8 × Int × Int × List (Nat × Obj))) ⟨rfl,rfl,rfl,rfl,rfl,trivial⟩ (JC.loop (α:=Nat × List UInt8 × Int × Int × List (Nat × Obj)) (fun st=>[(0,.pointer (some ⟨lb,0,none⟩)),(1,.slice a rec_.length c),(5,.int .i64 ((needN rec_.length:Nat):Int)),(6,.slice a41 (2+rec_.length) c41),(7,.int .i64 ((st.1:Nat):Int))]) (fun st w'=>(st.1≤needN rec_.length∧st.2.1.length=64*n∧0≤st.2.2.2.1∧st.2.2.2.1≤k+st.1∧st.2.2.1<9223372036854775808∧Vec 5 1 (.slice a0 (64*n) c0) (64*n) (st.2.1.map u8) st.2.2.2.2∧dws ⟨B,p,k⟩ (planP gen used cnt_ rec_)=dws ⟨st.2.1,st.2.2.1,st.2.2.2.1⟩ ((planP gen used cnt_ rec_).drop st.1))∧St w (lb::r::lp.map (·.1)) ((lb,cb [.pointer (some ⟨r,0,none⟩),.int .u64 ((gen:Nat):Int),.int .i64 ((used:Nat):Int),.int .i64 ((cnt_:Nat):Int),.bool false] 83)::(r,rfO (.slice a0 (64*n) c0) (st.2.2.1) (st.2.2.2.1))::(st.2.2.2.2++lp41)) w') (fun st=>needN rec_.length - st.1) ((0,B,p,k,lp):Nat × List UInt8 × Int × Int × List (Nat × Obj)) (fun st=>?_))) (fun w hw=>⟨⟨Nat.zero_le _,hB,hk,by simp,hp,hv,rfl⟩,hw⟩)
    obtain ⟨i,B1,p1,k1,lp1⟩:=st
    refine JC.pr (fun hx=>?_)
    obtain ⟨hi,hB1,hk10,hk11,hp1,hv1,hdw⟩:=hx
    simp only at hi hB1 hk10 hk11 hp1 hv1 hdw ⊢
    refine JC.seq (fun K14 hK14=>?_);refine JC.seq (fun K15 hK15=>?_);refine JC.region<|J.qe rfl rfl<|J.qe rfl rfl<|J.qj rfl rfl rfl rfl<|J.nil ?_;refine JX.qd (hK15 _ _ ?_);refine JC.qn rfl (fun h3=>?_) (fun h3=>?_)
    ·have hlt:i<needN rec_.length:=by simp at h3;omega
     have hlt64:64*i<2+rec_.length:=by unfold needN at hlt;omega
     refine JC.skip ?_;refine JX.qd (hK14 _ _ ?_);refine JC.seq (fun K16 hK16=>?_);refine JC.block ?_;refine JC.seq (fun K17 hK17=>?_);refine JC.region<|J.qe rfl rfl<|J.qe rfl rfl<|J.zO rfl rfl (by omega) (by omega) rfl ?_;refine J.zx (i:=64*i) (j:=2+rec_.length) Ty.el26 Ty.s5 rfl rfl rfl (by simp only [bnd];rw [if_pos (by omega)];congr 1 <;> omega) rfl (by omega) (by omega) (by omega) rfl ?_;refine J.assign rfl rfl<|J.nil ?_;refine JX.qd (hK17 _ _ ?_);refine JC.zy (α:=Unit) (fun _=>[(0,.pointer (some ⟨lb,0,none⟩)),(1,.slice a rec_.length c),(5,.int .i64 ((needN rec_.length:Nat):Int)),(6,.slice a41 (2+rec_.length) c41),(7,.int .i64 ((i:Nat):Int)),(8,.slice (if c41=64*i then a41 else a41.map (·.add (64*i*1))) (min (64*(i+1)) (2+rec_.length) - 64*i) (c41 - 64*i))]) (fun _ w'=>St w (lb::r::lp.map (·.1)) ((lb,cb [.pointer (some ⟨r,0,none⟩),.int .u64 ((gen:Nat):Int),.int .i64 ((used:Nat):Int),.int .i64 ((cnt_:Nat):Int),.bool false] 83)::(r,rfO (.slice a0 (64*n) c0) (p1) (k1))::(lp1++lp41)) w') (fun _=>?_) (fun K18 hK18=>?_)
     ·refine JC.seq (fun K19 hK19=>?_)
      by_cases hp0:p1=0
      ·subst hp0
       have happ:=yY (n:=n) (q:=⟨gen,used,cnt_,recs⟩) (σ:=⟨B,p,k⟩) hlong hfull (hdw.trans (by rw [plan_at hlt];exact yL))
       apply JC.zc 12 [Eqv (_),Eqv (_),Eqv (_),Eqv (_),Eqv (_),Eqv (_),Eqv (_),Eqv (_),Eqv (_),Eqv (_),Eqv (_),Eqv (_)] Ty.mixed rfl rfl rfl (by kernel_rfl) rfl rfl (fun w w' hw hb=>hw.step hb) ⟨fun _ _ _ h _=>h,fun _ _ _ h _=>h,fun _ _ _ h _=>h,fun _ _ _ h _=>h,fun _ _ _ h _=>h,fun _ _ _ h _=>h,fun _ _ _ h _=>h,fun _ _ _ h _=>h,fun _ _ _ h _=>h,fun _ _ _ h _=>h,fun _ _ _ h _=>h,fun _ _ _ h _=>h,trivial⟩ ?hstep ?htail
       case hstep=>
        refine ⟨fun wi=>?_,fun wi=>?_,fun wi=>?_,fun wi=>?_,fun wi=>?_,fun wi=>?_,fun wi=>?_,fun wi=>?_,fun wi=>?_,fun wi=>?_,fun wi=>?_,fun wi=>?_,trivial⟩
        ·refine Fin.nil<|J.qe rfl rfl ?_
         exact J.qm rfl
        ·refine Fin.qc rfl (Fin.nil ?_);refine J.qq rfl rfl ?_
         exact J.qm rfl
        ·refine Fin.qc rfl (Fin.nil ?_);refine J.qi Ty.fd83_0 rfl rfl ?_
         exact J.qm rfl
        ·refine Fin.qc rfl (Fin.nil ?_);refine J.qw Ty.a58 rfl (fun w hw=>(qB (hw.2.own (_,_) zm)).trans (by exact rfl)) rfl ?_
         exact J.qm rfl
        ·refine Fin.nil<|J.qe rfl rfl ?_
         exact J.qm rfl
        ·refine Fin.qc rfl (Fin.nil ?_);refine J.qq rfl rfl ?_
         exact J.qm rfl
        ·refine Fin.qc rfl (Fin.nil ?_);refine J.qi Ty.fd83_2 rfl rfl ?_
         exact J.qm rfl
        ·refine Fin.qc rfl (Fin.nil ?_);refine J.qw Ty.a3 rfl (fun w hw=>(qB (hw.2.own (_,_) zm)).trans (by exact rfl)) rfl ?_
         exact J.qm rfl
        ·refine Fin.qc rfl (Fin.nil ?_);refine J.qG rfl rfl (by omega) (by omega) rfl ?_
         exact J.qm rfl
        ·refine Fin.nil<|J.qe rfl rfl ?_
         exact J.qm rfl
        ·refine Fin.qc rfl (Fin.qc rfl (Fin.nil ?_))
         refine J.qG rfl rfl (by omega) (by omega) rfl ?_;refine J.name 66 rfl (show Value.int .i64 _=.int .i64 ((2+used+i:Nat):Int) by congr 1) ?_
         exact J.qm rfl
        ·refine Fin.nil<|J.qe rfl rfl ?_
         exact J.qm rfl
       case htail=>
        refine Fin.qc rfl (Fin.qc rfl (Fin.qc rfl (Fin.qc rfl (Fin.qc rfl (Fin.qc rfl (Fin.qc rfl (Fin.qc rfl (Fin.qc rfl (Fin.qc rfl (Fin.qc rfl (Fin.qc rfl (Fin.nil ?_))))))))))))
        refine J.perm ((r,rfO (.slice a0 (64*n) c0) (0) (k1))::(lp1++((lb,cb [.pointer (some ⟨r,0,none⟩),.int .u64 ((gen:Nat):Int),.int .i64 ((used:Nat):Int),.int .i64 ((cnt_:Nat):Int),.bool false] 83)::lp41))) zp<|J.qR (fun w1 w2 hw hb=>hw.step hb) Ty.bd55 rfl rfl (fun w1 hw=>rwrite_down r n _ lp1 B1 k1 w1 (St.owns (l1:=(r,rfO (.slice a0 (64*n) c0) (0) (k1))::lp1) hw) hv1 hn ((2+used+i:Nat):Int) _ (min (64*(i+1)) (2+rec_.length) - 64*i) (c41 - 64*i) (by omega) (by omega) (by omega)) ?_;refine J.perm ((lb,cb [.pointer (some ⟨r,0,none⟩),.int .u64 ((gen:Nat):Int),.int .i64 ((used:Nat):Int),.int .i64 ((cnt_:Nat):Int),.bool false] 83)::(r,rfO (.slice a0 (64*n) c0) (0) (k1))::(lp1++lp41)) zp<|J.assign rfl rfl<|J.nil ?_;refine JX.qd (hK19 _ _ ?_);refine JC.seq (fun K20 hK20=>?_);refine JC.region<|J.qe rfl rfl<|J.qj rfl rfl rfl rfl<|J.nil ?_;refine JX.qd (hK20 _ _ ?_)
        first | refine JC.qP rfl ?_ | refine JC.qn rfl (fun _=>?_) (fun h=>by first | (exfalso;simp at h;omega) | (simp at h))
        refine JC.seq (fun K21 hK21=>?_);refine JC.region<|J.qe rfl rfl<|J.qq rfl rfl<|J.qi Ty.fd83_4 rfl rfl<|J.qU Ty.s4 rfl rfl rfl rfl (by simp [Value.oneCell']) zu (by simp) ?_;refine J.nil ?_;refine JX.qd (hK21 _ _ ?_);refine JC.seq (fun K22 hK22=>?_);refine JC.region<|J.qe rfl rfl<|J.assign rfl rfl<|J.nil ?_;refine JX.qd (hK22 _ _ ?_);refine JC.qA<|JX.qH<|JX.qt<|JX.qt<|JX.qH<|JX.qt ?_;refine JX.qL rfl rfl (fun w1 hw=>?_)
        rw [happ]
        first
        | exact ⟨lp,rfl,hv,hw⟩
        | exact ⟨lp1,rfl,hv1,hw.drop (.cons_cons _ (.cons_cons _ (List.sublist_append_left _ _)))⟩
        | exact ⟨lp2,rfl,hv2,hw.drop (.cons_cons _ (.cons_cons _ (List.sublist_append_left _ _)))⟩
      ·apply JC.zc 12 [Eqv (_),Eqv (_),Eqv (_),Eqv (_),Eqv (_),Eqv (_),Eqv (_),Eqv (_),Eqv (_),Eqv (_),Eqv (_),Eqv (_)] Ty.mixed rfl rfl rfl (by kernel_rfl) rfl rfl (fun w w' hw hb=>hw.step hb) ⟨fun _ _ _ h _=>h,fun _ _ _ h _=>h,fun _ _ _ h _=>h,fun _ _ _ h _=>h,fun _ _ _ h _=>h,fun _ _ _ h _=>h,fun _ _ _ h _=>h,fun _ _ _ h _=>h,fun _ _ _ h _=>h,fun _ _ _ h _=>h,fun _ _ _ h _=>h,fun _ _ _ h _=>h,trivial⟩ ?hstep ?htail
       case hstep=>
        refine ⟨fun wi=>?_,fun wi=>?_,fun wi=>?_,fun wi=>?_,fun wi=>?_,fun wi=>?_,fun wi=>?_,fun wi=>?_,fun wi=>?_,fun wi=>?_,fun wi=>?_,fun wi=>?_,trivial⟩
        ·refine Fin.nil<|J.qe rfl rfl ?_
         exact J.qm rfl
        ·refine Fin.qc rfl (Fin.nil ?_);refine J.qq rfl rfl ?_
         exact J.qm rfl
        ·refine Fin.qc rfl (Fin.nil ?_);refine J.qi Ty.fd83_0 rfl rfl ?_
         exact J.qm rfl
        ·refine Fin.qc rfl (Fin.nil ?_);refine J.qw Ty.a58 rfl (fun w hw=>(qB (hw.2.own (_,_) zm)).trans (by exact rfl)) rfl ?_
         exact J.qm rfl
        ·refine Fin.nil<|J.qe rfl rfl ?_
         exact J.qm rfl
        ·refine Fin.qc rfl (Fin.nil ?_);refine J.qq rfl rfl ?_
         exact J.qm rfl
        ·refine Fin.qc rfl (Fin.nil ?_);refine J.qi Ty.fd83_2 rfl rfl ?_
         exact J.qm rfl
        ·refine Fin.qc rfl (Fin.nil ?_);refine J.qw Ty.a3 rfl (fun w hw=>(qB (hw.2.own (_,_) zm)).trans (by exact rfl)) rfl ?_
         exact J.qm rfl
        ·refine Fin.qc rfl (Fin.nil ?_);refine J.qG rfl rfl (by omega) (by omega) rfl ?_
         exact J.qm rfl
        ·refine Fin.nil<|J.qe rfl rfl ?_
         exact J.qm rfl
        ·refine Fin.qc rfl (Fin.qc rfl (Fin.nil ?_))
         refine J.qG rfl rfl (by omega) (by omega) rfl ?_;refine J.name 66 rfl (show Value.int .i64 _=.int .i64 ((2+used+i:Nat):Int) by congr 1) ?_
         exact J.qm rfl
        ·refine Fin.nil<|J.qe rfl rfl ?_
         exact J.qm rfl
       case htail=>
        refine Fin.qc rfl (Fin.qc rfl (Fin.qc rfl (Fin.qc rfl (Fin.qc rfl (Fin.qc rfl (Fin.qc rfl (Fin.qc rfl (Fin.qc rfl (Fin.qc rfl (Fin.qc rfl (Fin.qc rfl (Fin.nil ?_))))))))))))
        refine J.perm (((r,rfO (.slice a0 (64*n) c0) (p1) (k1))::lp1)++((lb,cb [.pointer (some ⟨r,0,none⟩),.int .u64 ((gen:Nat):Int),.int .i64 ((used:Nat):Int),.int .i64 ((cnt_:Nat):Int),.bool false] 83)::lp41)) zp ?_
        refine J.qO (α:=List (Nat × Obj)) (V:=fun _=>.int .i64 0) (Pr:=fun x=>Vec 5 1 (.slice a0 (64*n) c0) (64*n) ((put B1 (2+used+i) (piece (payload rec_) i)).map u8) x) (L:=fun x=>(r,rfO (.slice a0 (64*n) c0) (if 0<p1 then p1 - 1 else p1) (k1+1))::x) (l1:=(r,rfO (.slice a0 (64*n) c0) (p1) (k1))::lp1) Ty.bd55 rfl rfl
         (fun w1 hw=>rwrite_done r n _ lp1 B1 (piece (payload rec_) i) p1 k1 (2+used+i) (if c41=64*i then a41 else a41.map (·.add (64*i*1))) (min (64*(i+1)) (2+rec_.length) - 64*i) (c41 - 64*i) w1 hw.owns hv1 hn hB1 hk10 (by omega) (by omega) (by omega) (by rw [yj,zA]) (by
          have h1:=(hv41.row (l:=((lb,cb [.pointer (some ⟨r,0,none⟩),.int .u64 ((gen:Nat):Int),.int .i64 ((used:Nat):Int),.int .i64 ((cnt_:Nat):Int),.bool false] 83)::(r,rfO (.slice a0 (64*n) c0) (p1) (k1))::lp1)) (hw.perm zp)).slice (sz:=1) (i:=64*i) (j:=min (64*(i+1)) (2+rec_.length)) (by rw [List.length_map,zA,Nat.mul_one]) (by omega) (by omega)
          have h2:((payload rec_).drop (64*i)).take (min (64*(i+1)) (2+rec_.length) - 64*i)=piece (payload rec_) i:=by
           have h3:(payload rec_).length=2+rec_.length:=zA rec_
           rw [piece]
           by_cases h4:64*(i+1)≤2+rec_.length
           ·congr 1;omega
           ·rw [List.take_of_length_le (by simp;omega),List.take_of_length_le (by simp;omega)]
          have h5:List.take ((min (64*(i+1)) (2+rec_.length) - 64*i)*1) (List.drop (64*i*1) ((payload rec_).map u8))=(piece (payload rec_) i).map u8:=by
           rw [Nat.mul_one,Nat.mul_one,← List.map_drop,← List.map_take,h2]
          rw [h5] at h1
          exact h1) (vec_off (l1:=(r,rfO (.slice a0 (64*n) c0) (p1) (k1))::lp1) (l:=[(lb,cb [.pointer (some ⟨r,0,none⟩),.int .u64 ((gen:Nat):Int),.int .i64 ((used:Nat):Int),.int .i64 ((cnt_:Nat):Int),.bool false] 83)]) hv41 (hw.perm zp) _ _ _ _) hp1 hp0) (fun lp2 hv2=>?_)
        refine J.perm ((lb,cb [.pointer (some ⟨r,0,none⟩),.int .u64 ((gen:Nat):Int),.int .i64 ((used:Nat):Int),.int .i64 ((cnt_:Nat):Int),.bool false] 83)::(r,rfO (.slice a0 (64*n) c0) (if 0<p1 then p1 - 1 else p1) (k1+1))::(lp2++lp41)) zp<|J.assign rfl rfl<|J.nil ?_;refine JX.qd (hK19 _ _ ?_);refine JC.seq (fun K23 hK23=>?_);refine JC.region<|J.qe rfl rfl<|J.qj rfl rfl rfl rfl<|J.nil ?_;refine JX.qd (hK23 _ _ ?_)
        first | refine JC.qI rfl ?_ | refine JC.qn rfl (fun h=>by first | (exfalso;simp at h;omega) | (simp at h)) (fun _=>?_)
        refine JC.skip<|JX.qJ ?_;refine JX.qd (hK16 _ _ ?_);refine JC.region<|J.qe rfl rfl ?_
        (first | refine J.qG rfl rfl (by omega) (by omega) rfl ?_ | refine J.qj rfl rfl rfl rfl ?_)
        refine J.assign rfl rfl<|J.nil<|JX.qd<|JX.qS (i+1,put B1 (2+used+i) (piece (payload rec_) i),if 0<p1 then p1 - 1 else p1,k1+1,lp2) ?_ ?_ ?_
        ·simp only;omega
        ·exact ⟨rfl,rfl,rfl,rfl,rfl,trivial⟩
        ·exact fun w1 hw=>⟨⟨hlt,yf hB1 (by omega) (by rw [yj];omega),by simp only;omega,by simp only;omega,by simp only;split <;> omega,hv2,by simp only;rw [hdw,plan_at hlt,dws_cons hp0];rfl⟩,hw⟩
     ·refine JC.seq (fun K24 hK24=>?_);refine JC.region<|J.qe rfl rfl<|J.qK rfl Ty.u26 rfl rfl<|J.qj rfl rfl rfl rfl<|J.nil ?_;refine JX.qd (hK24 _ _ ?_);refine JC.qn rfl (fun h4=>?_) (fun h4=>?_)
      ·try simp only [decide_eq_true_eq,decide_eq_false_iff_not,beq_iff_eq,bne_iff_ne,bne_eq_false_iff_eq,ne_eq,beq_eq_false_iff_ne,Bool.not_eq_true,Bool.not_eq_false,Int.not_lt,Int.not_le] at h4
       refine JC.region<|J.qe rfl rfl<|J.zx (i:=0) (j:=64) Ty.el26 Ty.s5 rfl rfl rfl rfl (by simp [bnd]) (by omega) (by first | omega | (simp at h4;omega)) (by omega) rfl ?_;refine J.assign rfl rfl<|J.nil<|JX.qd ?_
       exact JX.cut (hK18 ()) ⟨rfl,rfl,rfl,rfl,rfl,congrArg some (show Value.slice _ _ _=Value.slice _ _ _ by
        rw [show min (64*(i+1)) (2+rec_.length) - 64*i=64 by first | omega | (simp at h4;omega),if_neg_add];rfl),trivial⟩ (fun w1 hw=>hw)
      ·try simp only [decide_eq_true_eq,decide_eq_false_iff_not,beq_iff_eq,bne_iff_ne,bne_eq_false_iff_eq,ne_eq,beq_eq_false_iff_ne,Bool.not_eq_true,Bool.not_eq_false,Int.not_lt,Int.not_le] at h4
       refine JC.skip<|JX.qd ?_
       exact JX.cut (hK18 ()) ⟨rfl,rfl,rfl,rfl,rfl,congrArg some (show Value.slice _ _ _=Value.slice _ _ _ by
        rw [show min (64*(i+1)) (2+rec_.length) - 64*i=2+rec_.length - 64*i by first | omega | (simp at h4;omega)]),trivial⟩ (fun w1 hw=>hw)
    ·obtain rfl:i=needN rec_.length:=by simp at h3;omega
     refine JC.qX<|JX.qE<|JX.qE<|JX.qT ?_;refine JX.qd (hK12 _ _ ?_);refine JC.seq (fun K25 hK25=>?_);refine JC.region ?_;refine J.make Ty.el26 Ty.s5 Ty.b5 Ty.z5 rfl rfl rfl rfl (by omega) (by omega) (by omega) rfl (fun b75=>?_);refine J.perm ((b75,cb ((hst ([]:List UInt8) ((gen+1)) 0 16).map u8) 5)::(lb,cb [.pointer (some ⟨r,0,none⟩),.int .u64 ((gen:Nat):Int),.int .i64 ((used:Nat):Int),.int .i64 ((cnt_:Nat):Int),.bool false] 83)::(r,rfO (.slice a0 (64*n) c0) (p1) (k1))::(lp1++lp41)) (by rw [hst_zero];exact .refl _) ?_;refine J.perm ((lb,cb [.pointer (some ⟨r,0,none⟩),.int .u64 ((gen:Nat):Int),.int .i64 ((used:Nat):Int),.int .i64 ((cnt_:Nat):Int),.bool false] 83)::(r,rfO (.slice a0 (64*n) c0) (p1) (k1))::(lp1++(lp41++[(b75,cb ((hst ([]:List UInt8) ((gen+1)) 0 16).map u8) 5)]))) zp<|J.assign rfl rfl<|J.nil ?_;refine JX.qd (hK25 _ _ ?_);refine JC.seq (fun K26 hK26=>?_);refine JC.seq (fun K27 hK27=>?_)
     apply JC.zc 7 [Eqv (_),Eqv (_),Eqv (_),Eqv (_),Eqv (_),Eqv (_),Eqv (_)] Ty.mixed rfl rfl rfl (by kernel_rfl) rfl rfl (fun w w' hw hb=>hw.step hb) ⟨fun _ _ _ h _=>h,fun _ _ _ h _=>h,fun _ _ _ h _=>h,fun _ _ _ h _=>h,fun _ _ _ h _=>h,fun _ _ _ h _=>h,fun _ _ _ h _=>h,trivial⟩ ?hstep ?htail
     case hstep=>
      refine ⟨fun wi=>?_,fun wi=>?_,fun wi=>?_,fun wi=>?_,fun wi=>?_,fun wi=>?_,fun wi=>?_,trivial⟩
      ·refine Fin.nil<|J.qe rfl rfl ?_
       exact J.qm rfl
      ·refine Fin.qc rfl (Fin.nil ?_);refine J.qq rfl rfl ?_
       exact J.qm rfl
      ·refine Fin.qc rfl (Fin.nil ?_);refine J.qi Ty.fd83_1 rfl rfl ?_
       exact J.qm rfl
      ·refine Fin.qc rfl (Fin.nil ?_);refine J.qw Ty.a81 rfl (fun w hw=>(qB (hw.2.own (_,_) zm)).trans (by exact rfl)) rfl ?_
       exact J.qm rfl
      ·refine Fin.qc rfl (Fin.nil ?_);refine J.qj rfl rfl rfl rfl<|J.name 80 rfl (congrArg (Value.int .u64) (show _=((gen+1:Nat):Int) from ze (by omega) (by omega))) ?_
       exact J.qm rfl
      ·refine Fin.nil<|J.assign rfl rfl ?_
       exact J.qm rfl
      ·refine Fin.qc rfl (Fin.qc rfl (Fin.qc rfl (Fin.qc rfl (Fin.qc rfl (Fin.qc rfl (Fin.qc rfl (Fin.qc rfl (Fin.nil ?_))))))))
       refine J.assign rfl rfl ?_
       exact J.qm rfl
     case htail=>
      refine Fin.qc rfl (Fin.qc rfl (Fin.qc rfl (Fin.qc rfl (Fin.qc rfl (Fin.qc rfl (Fin.qc rfl (Fin.nil ?_)))))))
      refine J.nil ?_;refine JX.qd (hK27 _ _ ?_);refine JC.block ?_
      refine JC.conseq (JC.cov (f:=(fun j=>[(0,.pointer (some ⟨lb,0,none⟩)),(1,.slice a rec_.length c),(5,.int .i64 ((needN rec_.length:Nat):Int)),(10,.slice (some ⟨b75,0,none⟩) 24 24),(11,.int .i64 ((j:Nat):Int)),(12,.int .u64 (((gen+1) / 256 ^ j:Nat):Int))]) 0) ⟨rfl,rfl,rfl,rfl,rfl,congrArg some (congrArg (Value.int .u64) (by rw [Nat.pow_zero,Nat.div_one];try rfl)),trivial⟩ (JC.loop (α:=Nat) (fun j=>[(0,.pointer (some ⟨lb,0,none⟩)),(1,.slice a rec_.length c),(5,.int .i64 ((needN rec_.length:Nat):Int)),(10,.slice (some ⟨b75,0,none⟩) 24 24),(11,.int .i64 ((j:Nat):Int)),(12,.int .u64 (((gen+1) / 256 ^ j:Nat):Int))]) (fun j w'=>j≤8∧St w (lb::r::lp.map (·.1)) ((lb,cb [.pointer (some ⟨r,0,none⟩),.int .u64 ((gen:Nat):Int),.int .i64 ((used:Nat):Int),.int .i64 ((cnt_:Nat):Int),.bool false] 83)::(r,rfO (.slice a0 (64*n) c0) (p1) (k1))::(lp1++(lp41++[(b75,cb ((hst (([]:List UInt8)) ((gen+1)) j 16).map u8) 5)]))) w') (fun j=>8 - j) 0 (fun j=>?_))) (fun w hw=>⟨Nat.zero_le _,hw⟩)
      refine JC.pr (fun hj=>?_);refine JC.seq (fun K28 hK28=>?_);refine JC.seq (fun K29 hK29=>?_);refine JC.region<|J.qe rfl rfl<|J.qj rfl rfl rfl rfl<|J.nil ?_;refine JX.qd (hK29 _ _ ?_);refine JC.qn rfl (fun h6=>?_) (fun h6=>?_)
      ·have hltj:j<8:=by simp at h6;omega
       refine JC.skip ?_;refine JX.qd (hK28 _ _ ?_);refine JC.seq (fun K30 hK30=>?_);refine JC.block<|JC.region<|J.qe rfl rfl<|J.qe rfl rfl<|J.zn rfl rfl (by omega) (by omega) rfl ?_;refine J.qe rfl rfl<|J.qj rfl rfl rfl rfl<|J.name 91 rfl (congrArg (Value.int .u64) (show _=(((gen+1) / 256 ^ j%256:Nat):Int) from by first | rfl | (rw [Int.tmod_eq_emod_of_nonneg (Int.natCast_nonneg _)];rfl))) ?_;refine J.qF Ty.u81 Ty.u5 rfl rfl<|J.name 92 rfl (byte_u64 ((gen+1)) j hltj)<|J.qu Ty.el26 Ty.s5 rfl rfl (by omega) (by omega) rfl ?_;refine J.qU (cs:=(hst (([]:List UInt8)) ((gen+1)) j 16).map u8) (vs:=[u8 ((be8 ((gen+1)))[7 - j]'(by rw [q8];omega))]) Ty.s5 rfl rfl rfl rfl (by simp [Value.oneCell']) (.there (.there (Up.app (Up.app .here)))) (by rw [List.length_map,hst_length (by omega)];simp only [List.length_append,List.length_nil,q8];omega) ?_
       refine J.conseq (I':=St w (lb::r::lp.map (·.1)) ((lb,cb [.pointer (some ⟨r,0,none⟩),.int .u64 ((gen:Nat):Int),.int .i64 ((used:Nat):Int),.int .i64 ((cnt_:Nat):Int),.bool false] 83)::(r,rfO (.slice a0 (64*n) c0) (p1) (k1))::(lp1++(lp41++[(b75,cb ((hst (([]:List UInt8)) ((gen+1)) (j+1) 16).map u8) 5)])))) ?_ (fun w1 hw=>by
        have e:setMany ((hst (([]:List UInt8)) ((gen+1)) j 16).map u8) (0+((7:Int) - (j:Int)).toNat*1) [u8 ((be8 ((gen+1)))[7 - j]'(by rw [q8];omega))]=(hst (([]:List UInt8)) ((gen+1)) (j+1) 16).map u8:=by
         rw [← hst_set hltj,show 0+((7:Int) - (j:Int)).toNat*1=(([]:List UInt8):List UInt8).length+(7 - j) by simp only [List.length_append,List.length_nil,q8];omega]
         simp only [setMany,List.map_set]
        rw [e] at hw
        exact hw)
       refine J.nil<|JX.qJ ?_;refine JX.qd (hK30 _ _ ?_);refine JC.region<|J.qe rfl rfl ?_
       (first | refine J.qG rfl rfl (by omega) (by omega) rfl ?_ | refine J.qj rfl rfl rfl rfl ?_)
       refine J.qe rfl rfl<|J.qj rfl rfl rfl rfl<|J.name 86 rfl (congrArg (Value.int .u64) (show _=(((gen+1) / 256 ^ (j+1):Nat):Int) from by rw [← div_pow];exact ze (n:=(((gen+1) / 256 ^ j / 256:Nat):Int)) (Int.natCast_nonneg _) (by have:=Nat.div_le_self ((gen+1) / 256 ^ j) 256;have:=Nat.div_le_self ((gen+1)) (256 ^ j);omega))) ?_;refine J.assign rfl rfl<|J.assign rfl rfl<|J.nil<|JX.qd<|JX.qS (j+1) ?_ ?_ ?_
       ·omega
       ·exact ⟨rfl,rfl,rfl,rfl,rfl,rfl,trivial⟩
       ·exact fun w1 hw=>⟨hltj,hw⟩
      ·obtain rfl:j=8:=by simp at h6;omega
       rw [hst_all,← hst_zero (N:=(used+needN rec_.length)) (z:=8)]
       refine JC.qX<|JX.qE<|JX.qE<|JX.qT ?_;refine JX.qd (hK26 _ _ ?_);refine JC.seq (fun K31 hK31=>?_);refine JC.seq (fun K32 hK32=>?_)
       apply JC.zc 8 [Eqv (_),Eqv (_),Eqv (_),Eqv (_),Eqv (_),Eqv (_),Eqv (_),Eqv (_)] Ty.mixed rfl rfl rfl (by kernel_rfl) rfl rfl (fun w w' hw hb=>hw.step hb) ⟨fun _ _ _ h _=>h,fun _ _ _ h _=>h,fun _ _ _ h _=>h,fun _ _ _ h _=>h,fun _ _ _ h _=>h,fun _ _ _ h _=>h,fun _ _ _ h _=>h,fun _ _ _ h _=>h,trivial⟩ ?hstep ?htail
       case hstep=>
        refine ⟨fun wi=>?_,fun wi=>?_,fun wi=>?_,fun wi=>?_,fun wi=>?_,fun wi=>?_,fun wi=>?_,fun wi=>?_,trivial⟩
        ·refine Fin.nil<|J.qe rfl rfl ?_
         exact J.qm rfl
        ·refine Fin.qc rfl (Fin.nil ?_);refine J.qq rfl rfl ?_
         exact J.qm rfl
        ·refine Fin.qc rfl (Fin.nil ?_);refine J.qi Ty.fd83_2 rfl rfl ?_
         exact J.qm rfl
        ·refine Fin.qc rfl (Fin.nil ?_);refine J.qw Ty.a3 rfl (fun w hw=>(qB (hw.2.own (_,_) zm)).trans (by exact rfl)) rfl ?_
         exact J.qm rfl
        ·refine Fin.nil<|J.qe rfl rfl ?_
         exact J.qm rfl
        ·refine Fin.qc rfl (Fin.qc rfl (Fin.nil ?_))
         refine J.qG rfl rfl (by omega) (by omega) rfl ?_
         exact J.qm rfl
        ·refine Fin.nil<|J.assign rfl rfl ?_
         exact J.qm rfl
        ·refine Fin.qc rfl (Fin.qc rfl (Fin.qc rfl (Fin.qc rfl (Fin.qc rfl (Fin.qc rfl (Fin.qc rfl (Fin.qc rfl (Fin.qc rfl (Fin.nil ?_)))))))))
         refine J.assign rfl rfl ?_
         exact J.qm rfl
       case htail=>
        refine Fin.qc rfl (Fin.qc rfl (Fin.qc rfl (Fin.qc rfl (Fin.qc rfl (Fin.qc rfl (Fin.qc rfl (Fin.qc rfl (Fin.nil ?_))))))))
        refine J.nil ?_;refine JX.qd (hK32 _ _ ?_);refine JC.block ?_
        refine JC.conseq (JC.cov (f:=(fun j=>[(0,.pointer (some ⟨lb,0,none⟩)),(1,.slice a rec_.length c),(5,.int .i64 ((needN rec_.length:Nat):Int)),(10,.slice (some ⟨b75,0,none⟩) 24 24),(13,.int .i64 ((j:Nat):Int)),(14,.int .i64 (((used+needN rec_.length) / 256 ^ j:Nat):Int))]) 0) ⟨rfl,rfl,rfl,rfl,rfl,congrArg some (congrArg (Value.int .i64) (by rw [Nat.pow_zero,Nat.div_one];try rfl)),trivial⟩ (JC.loop (α:=Nat) (fun j=>[(0,.pointer (some ⟨lb,0,none⟩)),(1,.slice a rec_.length c),(5,.int .i64 ((needN rec_.length:Nat):Int)),(10,.slice (some ⟨b75,0,none⟩) 24 24),(13,.int .i64 ((j:Nat):Int)),(14,.int .i64 (((used+needN rec_.length) / 256 ^ j:Nat):Int))]) (fun j w'=>j≤8∧St w (lb::r::lp.map (·.1)) ((lb,cb [.pointer (some ⟨r,0,none⟩),.int .u64 ((gen:Nat):Int),.int .i64 ((used:Nat):Int),.int .i64 ((cnt_:Nat):Int),.bool false] 83)::(r,rfO (.slice a0 (64*n) c0) (p1) (k1))::(lp1++(lp41++[(b75,cb ((hst ((([]:List UInt8)++be8 ((gen+1)))) ((used+needN rec_.length)) j 8).map u8) 5)]))) w') (fun j=>8 - j) 0 (fun j=>?_))) (fun w hw=>⟨Nat.zero_le _,hw⟩)
        refine JC.pr (fun hj=>?_);refine JC.seq (fun K33 hK33=>?_);refine JC.seq (fun K34 hK34=>?_);refine JC.region<|J.qe rfl rfl<|J.qj rfl rfl rfl rfl<|J.nil ?_;refine JX.qd (hK34 _ _ ?_);refine JC.qn rfl (fun h7=>?_) (fun h7=>?_)
        ·have hltj:j<8:=by simp at h7;omega
         refine JC.skip ?_;refine JX.qd (hK33 _ _ ?_);refine JC.seq (fun K35 hK35=>?_);refine JC.block<|JC.region<|J.qe rfl rfl<|J.qe rfl rfl<|J.zn rfl rfl (by omega) (by omega) rfl ?_;refine J.qe rfl rfl<|J.remN rfl rfl (Int.natCast_nonneg _) (by omega) rfl ?_;refine J.name 110 rfl (congrArg (Value.int .i64) (show _=(((used+needN rec_.length) / 256 ^ j%256:Nat):Int) from by first | rfl | (rw [Int.tmod_eq_emod_of_nonneg (Int.natCast_nonneg _)];rfl))) ?_;refine J.qF Ty.u3 Ty.u5 rfl rfl<|J.name 111 rfl (byte_u64 ((used+needN rec_.length)) j hltj)<|J.qu Ty.el26 Ty.s5 rfl rfl (by omega) (by omega) rfl ?_;refine J.qU (cs:=(hst ((([]:List UInt8)++be8 ((gen+1)))) ((used+needN rec_.length)) j 8).map u8) (vs:=[u8 ((be8 ((used+needN rec_.length)))[7 - j]'(by rw [q8];omega))]) Ty.s5 rfl rfl rfl rfl (by simp [Value.oneCell']) (.there (.there (Up.app (Up.app .here)))) (by rw [List.length_map,hst_length (by omega)];simp only [List.length_append,List.length_nil,q8];omega) ?_
         refine J.conseq (I':=St w (lb::r::lp.map (·.1)) ((lb,cb [.pointer (some ⟨r,0,none⟩),.int .u64 ((gen:Nat):Int),.int .i64 ((used:Nat):Int),.int .i64 ((cnt_:Nat):Int),.bool false] 83)::(r,rfO (.slice a0 (64*n) c0) (p1) (k1))::(lp1++(lp41++[(b75,cb ((hst ((([]:List UInt8)++be8 ((gen+1)))) ((used+needN rec_.length)) (j+1) 8).map u8) 5)])))) ?_ (fun w1 hw=>by
          have e:setMany ((hst ((([]:List UInt8)++be8 ((gen+1)))) ((used+needN rec_.length)) j 8).map u8) (0+((15:Int) - (j:Int)).toNat*1) [u8 ((be8 ((used+needN rec_.length)))[7 - j]'(by rw [q8];omega))]=(hst ((([]:List UInt8)++be8 ((gen+1)))) ((used+needN rec_.length)) (j+1) 8).map u8:=by
           rw [← hst_set hltj,show 0+((15:Int) - (j:Int)).toNat*1=((([]:List UInt8)++be8 ((gen+1))):List UInt8).length+(7 - j) by simp only [List.length_append,List.length_nil,q8];omega]
           simp only [setMany,List.map_set]
          rw [e] at hw
          exact hw)
         refine J.nil<|JX.qJ ?_;refine JX.qd (hK35 _ _ ?_);refine JC.region<|J.qe rfl rfl ?_
         (first | refine J.qG rfl rfl (by omega) (by omega) rfl ?_ | refine J.qj rfl rfl rfl rfl ?_)
         refine J.qe rfl rfl<|J.ym rfl rfl (Int.natCast_nonneg _) (by have:=Nat.div_le_self ((used+needN rec_.length)) (256 ^ j);omega) (by omega) rfl ?_;refine J.name 105 rfl (congrArg (Value.int .i64) (show _=(((used+needN rec_.length) / 256 ^ (j+1):Nat):Int) from by rw [← div_pow];rfl)) ?_;refine J.assign rfl rfl<|J.assign rfl rfl<|J.nil<|JX.qd<|JX.qS (j+1) ?_ ?_ ?_
         ·omega
         ·exact ⟨rfl,rfl,rfl,rfl,rfl,rfl,trivial⟩
         ·exact fun w1 hw=>⟨hltj,hw⟩
        ·obtain rfl:j=8:=by simp at h7;omega
         rw [hst_all,← hst_zero (N:=(cnt_+1)) (z:=0)]
         refine JC.qX<|JX.qE<|JX.qE<|JX.qT ?_;refine JX.qd (hK31 _ _ ?_);refine JC.seq (fun K36 hK36=>?_);refine JC.seq (fun K37 hK37=>?_)
         apply JC.zc 7 [Eqv (_),Eqv (_),Eqv (_),Eqv (_),Eqv (_),Eqv (_),Eqv (_)] Ty.mixed rfl rfl rfl (by kernel_rfl) rfl rfl (fun w w' hw hb=>hw.step hb) ⟨fun _ _ _ h _=>h,fun _ _ _ h _=>h,fun _ _ _ h _=>h,fun _ _ _ h _=>h,fun _ _ _ h _=>h,fun _ _ _ h _=>h,fun _ _ _ h _=>h,trivial⟩ ?hstep ?htail
         case hstep=>
          refine ⟨fun wi=>?_,fun wi=>?_,fun wi=>?_,fun wi=>?_,fun wi=>?_,fun wi=>?_,fun wi=>?_,trivial⟩
          ·refine Fin.nil<|J.qe rfl rfl ?_
           exact J.qm rfl
          ·refine Fin.qc rfl (Fin.nil ?_);refine J.qq rfl rfl ?_
           exact J.qm rfl
          ·refine Fin.qc rfl (Fin.nil ?_);refine J.qi Ty.fd83_3 rfl rfl ?_
           exact J.qm rfl
          ·refine Fin.qc rfl (Fin.nil ?_);refine J.qw Ty.a3 rfl (fun w hw=>(qB (hw.2.own (_,_) zm)).trans (by exact rfl)) rfl ?_
           exact J.qm rfl
          ·refine Fin.qc rfl (Fin.nil ?_);refine J.qG rfl rfl (by omega) (by omega) rfl ?_
           exact J.qm rfl
          ·refine Fin.nil<|J.assign rfl rfl ?_
           exact J.qm rfl
          ·refine Fin.qc rfl (Fin.qc rfl (Fin.qc rfl (Fin.qc rfl (Fin.qc rfl (Fin.qc rfl (Fin.qc rfl (Fin.qc rfl (Fin.nil ?_))))))))
           refine J.assign rfl rfl ?_
           exact J.qm rfl
         case htail=>
          refine Fin.qc rfl (Fin.qc rfl (Fin.qc rfl (Fin.qc rfl (Fin.qc rfl (Fin.qc rfl (Fin.qc rfl (Fin.nil ?_)))))))
          refine J.nil ?_;refine JX.qd (hK37 _ _ ?_);refine JC.block ?_
          refine JC.conseq (JC.cov (f:=(fun j=>[(0,.pointer (some ⟨lb,0,none⟩)),(1,.slice a rec_.length c),(5,.int .i64 ((needN rec_.length:Nat):Int)),(10,.slice (some ⟨b75,0,none⟩) 24 24),(15,.int .i64 ((j:Nat):Int)),(16,.int .i64 (((cnt_+1) / 256 ^ j:Nat):Int))]) 0) ⟨rfl,rfl,rfl,rfl,rfl,congrArg some (congrArg (Value.int .i64) (by rw [Nat.pow_zero,Nat.div_one];try rfl)),trivial⟩ (JC.loop (α:=Nat) (fun j=>[(0,.pointer (some ⟨lb,0,none⟩)),(1,.slice a rec_.length c),(5,.int .i64 ((needN rec_.length:Nat):Int)),(10,.slice (some ⟨b75,0,none⟩) 24 24),(15,.int .i64 ((j:Nat):Int)),(16,.int .i64 (((cnt_+1) / 256 ^ j:Nat):Int))]) (fun j w'=>j≤8∧St w (lb::r::lp.map (·.1)) ((lb,cb [.pointer (some ⟨r,0,none⟩),.int .u64 ((gen:Nat):Int),.int .i64 ((used:Nat):Int),.int .i64 ((cnt_:Nat):Int),.bool false] 83)::(r,rfO (.slice a0 (64*n) c0) (p1) (k1))::(lp1++(lp41++[(b75,cb ((hst (((([]:List UInt8)++be8 ((gen+1)))++be8 ((used+needN rec_.length)))) ((cnt_+1)) j 0).map u8) 5)]))) w') (fun j=>8 - j) 0 (fun j=>?_))) (fun w hw=>⟨Nat.zero_le _,hw⟩)
          refine JC.pr (fun hj=>?_);refine JC.seq (fun K38 hK38=>?_);refine JC.seq (fun K39 hK39=>?_);refine JC.region<|J.qe rfl rfl<|J.qj rfl rfl rfl rfl<|J.nil ?_;refine JX.qd (hK39 _ _ ?_);refine JC.qn rfl (fun h8=>?_) (fun h8=>?_)
          ·have hltj:j<8:=by simp at h8;omega
           refine JC.skip ?_;refine JX.qd (hK38 _ _ ?_);refine JC.seq (fun K40 hK40=>?_);refine JC.block<|JC.region<|J.qe rfl rfl<|J.qe rfl rfl<|J.zn rfl rfl (by omega) (by omega) rfl ?_;refine J.qe rfl rfl<|J.remN rfl rfl (Int.natCast_nonneg _) (by omega) rfl ?_;refine J.name 128 rfl (congrArg (Value.int .i64) (show _=(((cnt_+1) / 256 ^ j%256:Nat):Int) from by first | rfl | (rw [Int.tmod_eq_emod_of_nonneg (Int.natCast_nonneg _)];rfl))) ?_;refine J.qF Ty.u3 Ty.u5 rfl rfl<|J.name 129 rfl (byte_u64 ((cnt_+1)) j hltj)<|J.qu Ty.el26 Ty.s5 rfl rfl (by omega) (by omega) rfl ?_;refine J.qU (cs:=(hst (((([]:List UInt8)++be8 ((gen+1)))++be8 ((used+needN rec_.length)))) ((cnt_+1)) j 0).map u8) (vs:=[u8 ((be8 ((cnt_+1)))[7 - j]'(by rw [q8];omega))]) Ty.s5 rfl rfl rfl rfl (by simp [Value.oneCell']) (.there (.there (Up.app (Up.app .here)))) (by rw [List.length_map,hst_length (by omega)];simp only [List.length_append,List.length_nil,q8];omega) ?_
           refine J.conseq (I':=St w (lb::r::lp.map (·.1)) ((lb,cb [.pointer (some ⟨r,0,none⟩),.int .u64 ((gen:Nat):Int),.int .i64 ((used:Nat):Int),.int .i64 ((cnt_:Nat):Int),.bool false] 83)::(r,rfO (.slice a0 (64*n) c0) (p1) (k1))::(lp1++(lp41++[(b75,cb ((hst (((([]:List UInt8)++be8 ((gen+1)))++be8 ((used+needN rec_.length)))) ((cnt_+1)) (j+1) 0).map u8) 5)])))) ?_ (fun w1 hw=>by
            have e:setMany ((hst (((([]:List UInt8)++be8 ((gen+1)))++be8 ((used+needN rec_.length)))) ((cnt_+1)) j 0).map u8) (0+((23:Int) - (j:Int)).toNat*1) [u8 ((be8 ((cnt_+1)))[7 - j]'(by rw [q8];omega))]=(hst (((([]:List UInt8)++be8 ((gen+1)))++be8 ((used+needN rec_.length)))) ((cnt_+1)) (j+1) 0).map u8:=by
             rw [← hst_set hltj,show 0+((23:Int) - (j:Int)).toNat*1=(((([]:List UInt8)++be8 ((gen+1)))++be8 ((used+needN rec_.length))):List UInt8).length+(7 - j) by simp only [List.length_append,List.length_nil,q8];omega]
             simp only [setMany,List.map_set]
            rw [e] at hw
            exact hw)
           refine J.nil<|JX.qJ ?_;refine JX.qd (hK40 _ _ ?_);refine JC.region<|J.qe rfl rfl ?_
           (first | refine J.qG rfl rfl (by omega) (by omega) rfl ?_ | refine J.qj rfl rfl rfl rfl ?_)
           refine J.qe rfl rfl<|J.ym rfl rfl (Int.natCast_nonneg _) (by have:=Nat.div_le_self ((cnt_+1)) (256 ^ j);omega) (by omega) rfl ?_;refine J.name 123 rfl (congrArg (Value.int .i64) (show _=(((cnt_+1) / 256 ^ (j+1):Nat):Int) from by rw [← div_pow];rfl)) ?_;refine J.assign rfl rfl<|J.assign rfl rfl<|J.nil<|JX.qd<|JX.qS (j+1) ?_ ?_ ?_
           ·omega
           ·exact ⟨rfl,rfl,rfl,rfl,rfl,rfl,trivial⟩
           ·exact fun w1 hw=>⟨hltj,hw⟩
          ·obtain rfl:j=8:=by simp at h8;omega
           rw [hst_all,List.replicate_zero,List.append_nil,List.nil_append,flat3]
           refine JC.qX<|JX.qE<|JX.qE<|JX.qT ?_;refine JX.qd (hK36 _ _ ?_);refine JC.seq (fun K41 hK41=>?_);refine JC.seq (fun K42 hK42=>?_)
           by_cases hp0:p1=0
           ·subst hp0
            have happ:=yY (n:=n) (q:=⟨gen,used,cnt_,recs⟩) (σ:=⟨B,p,k⟩) hlong hfull (hdw.trans (by rw [plan_last];exact yL))
            apply JC.zc 12 [Eqv (_),Eqv (_),Eqv (_),Eqv (_),Eqv (_),Eqv (_),Eqv (_),Eqv (_),Eqv (_),Eqv (_),Eqv (_),Eqv (_)] Ty.mixed rfl rfl rfl (by kernel_rfl) rfl rfl (fun w w' hw hb=>hw.step hb) ⟨fun _ _ _ h _=>h,fun _ _ _ h _=>h,fun _ _ _ h _=>h,fun _ _ _ h _=>h,fun _ _ _ h _=>h,fun _ _ _ h _=>h,fun _ _ _ h _=>h,fun _ _ _ h _=>h,fun _ _ _ h _=>h,fun _ _ _ h _=>h,fun _ _ _ h _=>h,fun _ _ _ h _=>h,trivial⟩ ?hstep ?htail
            case hstep=>
             refine ⟨fun wi=>?_,fun wi=>?_,fun wi=>?_,fun wi=>?_,fun wi=>?_,fun wi=>?_,fun wi=>?_,fun wi=>?_,fun wi=>?_,fun wi=>?_,fun wi=>?_,fun wi=>?_,trivial⟩
             ·refine Fin.nil<|J.qe rfl rfl ?_
              exact J.qm rfl
             ·refine Fin.qc rfl (Fin.nil ?_);refine J.qq rfl rfl ?_
              exact J.qm rfl
             ·refine Fin.qc rfl (Fin.nil ?_);refine J.qi Ty.fd83_0 rfl rfl ?_
              exact J.qm rfl
             ·refine Fin.qc rfl (Fin.nil ?_);refine J.qw Ty.a58 rfl (fun w hw=>(qB (hw.2.own (_,_) zm)).trans (by exact rfl)) rfl ?_
              exact J.qm rfl
             ·refine Fin.nil<|J.qe rfl rfl ?_
              exact J.qm rfl
             ·refine Fin.qc rfl (Fin.nil ?_);refine J.qq rfl rfl ?_
              exact J.qm rfl
             ·refine Fin.qc rfl (Fin.nil ?_);refine J.qi Ty.fd83_1 rfl rfl ?_
              exact J.qm rfl
             ·refine Fin.qc rfl (Fin.nil ?_);refine J.qw Ty.a81 rfl (fun w hw=>(qB (hw.2.own (_,_) zm)).trans (by exact rfl)) rfl ?_
              exact J.qm rfl
             ·refine Fin.qc rfl (Fin.nil ?_);refine J.qj rfl rfl rfl rfl<|J.name 139 rfl (congrArg (Value.int .u64) (show _=((gen+1:Nat):Int) from ze (by omega) (by omega))) ?_
              exact J.qm rfl
             ·refine Fin.qc rfl (Fin.nil ?_);refine J.qj rfl rfl rfl rfl<|J.name 140 rfl (congrArg (Value.int .u64) (show _=(((gen+1)%2:Nat):Int) from rfl)) ?_
              exact J.qm rfl
             ·refine Fin.qc rfl (Fin.nil ?_);refine J.qF Ty.u81 Ty.u3 rfl rfl<|J.name 141 rfl (congrArg (Value.int .i64) (show _=(((gen+1)%2:Nat):Int) from qV (by omega) (by omega))) ?_
              exact J.qm rfl
             ·refine Fin.nil<|J.qe rfl rfl ?_
              exact J.qm rfl
            case htail=>
             refine Fin.qc rfl (Fin.qc rfl (Fin.qc rfl (Fin.qc rfl (Fin.qc rfl (Fin.qc rfl (Fin.qc rfl (Fin.qc rfl (Fin.qc rfl (Fin.qc rfl (Fin.qc rfl (Fin.qc rfl (Fin.nil ?_))))))))))))
             refine J.perm ((r,rfO (.slice a0 (64*n) c0) (0) (k1))::(lp1++((lb,cb [.pointer (some ⟨r,0,none⟩),.int .u64 ((gen:Nat):Int),.int .i64 ((used:Nat):Int),.int .i64 ((cnt_:Nat):Int),.bool false] 83)::(lp41++[(b75,cb (([gen+1,used+needN rec_.length,cnt_+1].flatMap be8).map u8) 5)])))) zp<|J.qR (fun w1 w2 hw hb=>hw.step hb) Ty.bd55 rfl rfl (fun w1 hw=>rwrite_down r n _ lp1 B1 k1 w1 (St.owns (l1:=(r,rfO (.slice a0 (64*n) c0) (0) (k1))::lp1) hw) hv1 hn (((gen+1)%2:Nat):Int) _ 24 24 (by omega) (by omega) (by omega)) ?_;refine J.perm ((lb,cb [.pointer (some ⟨r,0,none⟩),.int .u64 ((gen:Nat):Int),.int .i64 ((used:Nat):Int),.int .i64 ((cnt_:Nat):Int),.bool false] 83)::(r,rfO (.slice a0 (64*n) c0) (0) (k1))::(lp1++(lp41++[(b75,cb (([gen+1,used+needN rec_.length,cnt_+1].flatMap be8).map u8) 5)]))) zp<|J.assign rfl rfl<|J.nil ?_;refine JX.qd (hK42 _ _ ?_);refine JC.seq (fun K43 hK43=>?_);refine JC.region<|J.qe rfl rfl<|J.qj rfl rfl rfl rfl<|J.nil ?_;refine JX.qd (hK43 _ _ ?_)
             first | refine JC.qP rfl ?_ | refine JC.qn rfl (fun _=>?_) (fun h=>by first | (exfalso;simp at h;omega) | (simp at h))
             refine JC.seq (fun K44 hK44=>?_);refine JC.region<|J.qe rfl rfl<|J.qq rfl rfl<|J.qi Ty.fd83_4 rfl rfl<|J.qU Ty.s4 rfl rfl rfl rfl (by simp [Value.oneCell']) zu (by simp) ?_;refine J.nil ?_;refine JX.qd (hK44 _ _ ?_);refine JC.seq (fun K45 hK45=>?_);refine JC.region<|J.qe rfl rfl<|J.assign rfl rfl<|J.nil ?_;refine JX.qd (hK45 _ _ ?_);refine JC.qA<|JX.qt ?_;refine JX.qL rfl rfl (fun w1 hw=>?_)
             rw [happ]
             first
             | exact ⟨lp,rfl,hv,hw⟩
             | exact ⟨lp1,rfl,hv1,hw.drop (.cons_cons _ (.cons_cons _ (List.sublist_append_left _ _)))⟩
             | exact ⟨lp2,rfl,hv2,hw.drop (.cons_cons _ (.cons_cons _ (List.sublist_append_left _ _)))⟩
           ·have happ:=appendP_ok (n:=n) (q:=⟨gen,used,cnt_,recs⟩) (σ:=⟨B,p,k⟩) hlong hfull (hdw.trans (by rw [plan_last,dws_cons hp0];exact dws_nil))
            apply JC.zc 12 [Eqv (_),Eqv (_),Eqv (_),Eqv (_),Eqv (_),Eqv (_),Eqv (_),Eqv (_),Eqv (_),Eqv (_),Eqv (_),Eqv (_)] Ty.mixed rfl rfl rfl (by kernel_rfl) rfl rfl (fun w w' hw hb=>hw.step hb) ⟨fun _ _ _ h _=>h,fun _ _ _ h _=>h,fun _ _ _ h _=>h,fun _ _ _ h _=>h,fun _ _ _ h _=>h,fun _ _ _ h _=>h,fun _ _ _ h _=>h,fun _ _ _ h _=>h,fun _ _ _ h _=>h,fun _ _ _ h _=>h,fun _ _ _ h _=>h,fun _ _ _ h _=>h,trivial⟩ ?hstep ?htail
            case hstep=>
             refine ⟨fun wi=>?_,fun wi=>?_,fun wi=>?_,fun wi=>?_,fun wi=>?_,fun wi=>?_,fun wi=>?_,fun wi=>?_,fun wi=>?_,fun wi=>?_,fun wi=>?_,fun wi=>?_,trivial⟩
             ·refine Fin.nil<|J.qe rfl rfl ?_
              exact J.qm rfl
             ·refine Fin.qc rfl (Fin.nil ?_);refine J.qq rfl rfl ?_
              exact J.qm rfl
             ·refine Fin.qc rfl (Fin.nil ?_);refine J.qi Ty.fd83_0 rfl rfl ?_
              exact J.qm rfl
             ·refine Fin.qc rfl (Fin.nil ?_);refine J.qw Ty.a58 rfl (fun w hw=>(qB (hw.2.own (_,_) zm)).trans (by exact rfl)) rfl ?_
              exact J.qm rfl
             ·refine Fin.nil<|J.qe rfl rfl ?_
              exact J.qm rfl
             ·refine Fin.qc rfl (Fin.nil ?_);refine J.qq rfl rfl ?_
              exact J.qm rfl
             ·refine Fin.qc rfl (Fin.nil ?_);refine J.qi Ty.fd83_1 rfl rfl ?_
              exact J.qm rfl
             ·refine Fin.qc rfl (Fin.nil ?_);refine J.qw Ty.a81 rfl (fun w hw=>(qB (hw.2.own (_,_) zm)).trans (by exact rfl)) rfl ?_
              exact J.qm rfl
             ·refine Fin.qc rfl (Fin.nil ?_);refine J.qj rfl rfl rfl rfl<|J.name 139 rfl (congrArg (Value.int .u64) (show _=((gen+1:Nat):Int) from ze (by omega) (by omega))) ?_
              exact J.qm rfl
             ·refine Fin.qc rfl (Fin.nil ?_);refine J.qj rfl rfl rfl rfl<|J.name 140 rfl (congrArg (Value.int .u64) (show _=(((gen+1)%2:Nat):Int) from rfl)) ?_
              exact J.qm rfl
             ·refine Fin.qc rfl (Fin.nil ?_);refine J.qF Ty.u81 Ty.u3 rfl rfl<|J.name 141 rfl (congrArg (Value.int .i64) (show _=(((gen+1)%2:Nat):Int) from qV (by omega) (by omega))) ?_
              exact J.qm rfl
             ·refine Fin.nil<|J.qe rfl rfl ?_
              exact J.qm rfl
            case htail=>
             refine Fin.qc rfl (Fin.qc rfl (Fin.qc rfl (Fin.qc rfl (Fin.qc rfl (Fin.qc rfl (Fin.qc rfl (Fin.qc rfl (Fin.qc rfl (Fin.qc rfl (Fin.qc rfl (Fin.qc rfl (Fin.nil ?_))))))))))))
             refine J.perm (((r,rfO (.slice a0 (64*n) c0) (p1) (k1))::lp1)++((lb,cb [.pointer (some ⟨r,0,none⟩),.int .u64 ((gen:Nat):Int),.int .i64 ((used:Nat):Int),.int .i64 ((cnt_:Nat):Int),.bool false] 83)::(lp41++[(b75,cb (([gen+1,used+needN rec_.length,cnt_+1].flatMap be8).map u8) 5)]))) zp ?_
             refine J.qO (α:=List (Nat × Obj)) (V:=fun _=>.int .i64 0) (Pr:=fun x=>Vec 5 1 (.slice a0 (64*n) c0) (64*n) ((put B1 ((gen+1)%2) ([gen+1,used+needN rec_.length,cnt_+1].flatMap be8)).map u8) x) (L:=fun x=>(r,rfO (.slice a0 (64*n) c0) (if 0<p1 then p1 - 1 else p1) (k1+1))::x) (l1:=(r,rfO (.slice a0 (64*n) c0) (p1) (k1))::lp1) Ty.bd55 rfl rfl
              (fun w1 hw=>rwrite_done r n _ lp1 B1 ([gen+1,used+needN rec_.length,cnt_+1].flatMap be8) p1 k1 ((gen+1)%2) (some ⟨b75,0,none⟩) 24 24 w1 hw.owns hv1 hn hB1 hk10 (by omega) (by omega) (by omega) (by rw [flat_length];rfl) (Row.own (cs:=([gen+1,used+needN rec_.length,cnt_+1].flatMap be8).map u8) (tb:=5) (fr:=(0,0)) hw (List.mem_append_right _ (.tail _ (List.mem_append_right _ (.head _)))) (List.take_of_length_le (Nat.le_refl _)) (Nat.le_refl _)) (Off.mk (hw.off (.tail _ (List.mem_append_right _ (.head _))))) hp1 hp0) (fun lp2 hv2=>?_)
             refine J.perm ((lb,cb [.pointer (some ⟨r,0,none⟩),.int .u64 ((gen:Nat):Int),.int .i64 ((used:Nat):Int),.int .i64 ((cnt_:Nat):Int),.bool false] 83)::(r,rfO (.slice a0 (64*n) c0) (if 0<p1 then p1 - 1 else p1) (k1+1))::(lp2++(lp41++[(b75,cb (([gen+1,used+needN rec_.length,cnt_+1].flatMap be8).map u8) 5)]))) zp<|J.assign rfl rfl<|J.nil ?_;refine JX.qd (hK42 _ _ ?_);refine JC.seq (fun K46 hK46=>?_);refine JC.region<|J.qe rfl rfl<|J.qj rfl rfl rfl rfl<|J.nil ?_;refine JX.qd (hK46 _ _ ?_)
             first | refine JC.qI rfl ?_ | refine JC.qn rfl (fun h=>by first | (exfalso;simp at h;omega) | (simp at h)) (fun _=>?_)
             refine JC.skip ?_;refine JX.qd (hK41 _ _ ?_);refine JC.seq (fun K47 hK47=>?_);refine JC.region<|J.qe rfl rfl<|J.qq rfl rfl<|J.qi Ty.fd83_1 rfl rfl<|J.qQ Ty.a81 rfl zm (by exact rfl) rfl ?_;refine J.qj rfl rfl rfl rfl<|J.name 154 rfl (congrArg (Value.int .u64) (show _=((gen+1:Nat):Int) from ze (by omega) (by omega))) ?_;refine J.qq rfl rfl<|J.qi Ty.fd83_1 rfl rfl<|J.qU Ty.s81 rfl rfl rfl rfl (by simp [Value.oneCell']) zu (by simp) ?_;refine J.nil ?_;refine JX.qd (hK47 _ _ ?_);refine JC.seq (fun K48 hK48=>?_);refine JC.region<|J.qe rfl rfl<|J.qq rfl rfl<|J.qi Ty.fd83_2 rfl rfl<|J.qQ Ty.a3 rfl zm (by exact rfl) rfl ?_;refine J.qe rfl rfl ?_
             (first | refine J.qG rfl rfl (by omega) (by omega) rfl ?_ | refine J.qj rfl rfl rfl rfl ?_)
             refine J.qq rfl rfl<|J.qi Ty.fd83_2 rfl rfl<|J.qU Ty.s3 rfl rfl rfl rfl (by simp [Value.oneCell']) zu (by simp) ?_;refine J.nil ?_;refine JX.qd (hK48 _ _ ?_);refine JC.seq (fun K49 hK49=>?_);refine JC.region<|J.qe rfl rfl<|J.qq rfl rfl<|J.qi Ty.fd83_3 rfl rfl<|J.qQ Ty.a3 rfl zm (by exact rfl) rfl ?_
             (first | refine J.qG rfl rfl (by omega) (by omega) rfl ?_ | refine J.qj rfl rfl rfl rfl ?_)
             refine J.qq rfl rfl<|J.qi Ty.fd83_3 rfl rfl<|J.qU Ty.s3 rfl rfl rfl rfl (by simp [Value.oneCell']) zu (by simp) ?_;refine J.nil ?_;refine JX.qd (hK49 _ _ ?_);refine JC.seq (fun K50 hK50=>?_);refine JC.region<|J.assign rfl rfl<|J.nil ?_;refine JX.qd (hK50 _ _ ?_);refine JC.qA ?_;refine JX.qL rfl rfl (fun w1 hw=>?_)
             rw [happ]
             first
             | exact ⟨lp,rfl,hv,hw⟩
             | exact ⟨lp1,rfl,hv1,hw.drop (.cons_cons _ (.cons_cons _ (List.sublist_append_left _ _)))⟩
             | exact ⟨lp2,rfl,hv2,hw.drop (.cons_cons _ (.cons_cons _ (List.sublist_append_left _ _)))⟩
end Go.Proofs.Ytoaenmlhehcjfaa
namespace Go.J
open Go.ChangeShapes Go.WideShapes Go.ChangeAt Go.RowKit
set_option linter.unusedVariables false
set_option linter.unusedSimpArgs false
def Decodes (P:Program) (t:TypeId) {α:Type} (R:World→List Value→α→Prop):Prop:=
 ∀(H:Type) (enc:TypeId × Value→H) (w:World) (fuel:Nat) (cs:List Value) (x:DataW H × List MemPlace),
  DataW.trod enc P w 0 (fun _=>true) true fuel t cs=some x→(∀n,n∈x.1.weights P t→n≤reachBytes)→∃y:α,R w cs y
def RInt (k:IntKind):World→List Value→Int→Prop:=fun _ cs n=>cs=[.int k n]∧(Lit.int k n).wf=true
def RU8:World→List Value→UInt8→Prop:=fun _ cs b=>cs=[u8 b]
def RBool:World→List Value→Bool→Prop:=fun _ cs b=>cs=[.bool b]
def RStr:World→List Value→ByteArray→Prop:=fun _ cs s=>cs=[.string s]∧s.size≤reachBytes
structure Sl (α:Type) where
 a:Option Addr
 c:Nat
 xs:List α
abbrev Sl.v {α:Type} (s:Sl α):Value:=.slice s.a s.xs.length s.c
def RSl {α:Type} (sz by_:Nat) (R:World→List Value→α→Prop):World→List Value→Sl α→Prop:=fun w cs s=>
 cs=[s.v]∧s.xs.length≤s.c∧s.c*by_≤reachBytes∧
  (s.xs=[]∨∃b o,s.a=some ⟨b,o,none⟩∧∀i x,s.xs[i]? = some x→∃cs',cs'.length=sz∧Cells w b (o+i*sz) cs'∧R w cs' x)
theorem dec_int {P:Program} {t:TypeId} {k:IntKind} (hu:P.underlying t=some (.int k)):Decodes P t (RInt k):=by
 intro H enc w fuel cs x h _
 obtain ⟨n,rfl,_,hw⟩:=DataW.trod_int hu h
 exact ⟨n,rfl,hw⟩
theorem dec_u8 {P:Program} {t:TypeId} (hu:P.underlying t=some (.int .u8)):Decodes P t RU8:=by
 intro H enc w fuel cs x h _
 obtain ⟨n,rfl,_,hw⟩:=DataW.trod_int hu h
 have:=bounds_u8 hw
 exact ⟨UInt8.ofNat n.toNat,by
  show [Value.int .u8 n]=[Value.int .u8 ((UInt8.ofNat n.toNat).toNat:Int)]
  have h2:(UInt8.ofNat n.toNat).toNat=n.toNat:=by simp;omega
  rw [h2];congr 2;omega⟩
theorem cells_none {w:World} {a:Addr} {k:Nat} {cs:List Value} (h:w.cells? 0 a k=some cs) (hk:0<k):∃b o,a=⟨b,o,none⟩∧cs.length=k∧Cells w b o cs:=by
 unfold World.cells? at h
 rw [if_pos (Nat.zero_le _)] at h
 have hl:=mapM_some_length h
 have hg:=fun i (hi:i<k)=>mapM_some_get h i i (by simp [hi])
 obtain ⟨b,o,s⟩:=a
 have h0:w.cell? (⟨b,o,s⟩:Addr)=cs[0]?:=by simpa [Addr.add] using hg 0 hk
 have hs:s=none:=World.cell?_spot (a:=⟨b,o,s⟩) (v:=cs[0]'(by simp at hl;omega)) (by rw [h0,List.getElem?_eq_getElem])
 subst hs
 refine ⟨b,o,rfl,by simpa using hl,fun j hj=>?_⟩
 have:=hg j (by simp at hl;omega)
 rw [zJ] at this
 exact this
theorem weights_all {H:Type} {P:Program} {e:TypeId}:∀ {ds:List (DataW H)} {d:DataW H},d∈ds→∀n,n∈d.weights P e→n∈DataW.weightsAll P e ds:=by
 intro ds
 induction ds with
 | nil=>intro d h;cases h
 | cons d0 ds ih=>
  intro d h n hn
  simp only [DataW.weightsAll,List.mem_append]
  cases h with
  | head=>exact .inl hn
  | tail _ h=>exact .inr (ih h n hn)
theorem list_of {α:Type} {p:Nat→α→Prop}:∀(k:Nat),(∀i,i<k→∃x,p i x)→∃xs:List α,xs.length=k∧∀i x,xs[i]? = some x→p i x:=by
 intro k
 induction k with
 | zero=>intro _;exact ⟨[],rfl,fun i x h=>by simp at h⟩
 | succ k ih=>
  intro h
  obtain ⟨xs,hl,hx⟩:=ih (fun i hi=>h i (by omega))
  obtain ⟨y,hy⟩:=h k (by omega)
  refine ⟨xs++[y],by simp [hl],fun i x hi=>?_⟩
  by_cases h1:i<k
  ·rw [List.getElem?_append_left (by omega)] at hi;exact hx i x hi
  ·rw [List.getElem?_append_right (by omega)] at hi
   have:i - xs.length=0:=by
    have:=(List.getElem?_eq_some_iff.1 hi).1
    simp at this;omega
   rw [this] at hi
   simp at hi
   subst hi
   rw [show i=k by omega];exact hy
theorem dec_slice {P:Program} {t e:TypeId} {sz by_:Nat} {α:Type} {R:World→List Value→α→Prop} (he:elemT P t=some e) (hs:sizeT P e=some sz) (hb:bytesT P e=some by_) (hsz:0<sz) (D:Decodes P e R):Decodes P t (RSl sz by_ R):=by
 intro H enc w fuel cs x h hn
 have hu:=yk he
 have hcz:P.cellsOf e=sz:=by
  unfold Program.cellsOf;unfold sizeT at hs;rw [hs];rfl
 have hbz:P.bytesOf e=by_:=by
  unfold Program.bytesOf;unfold bytesT at hb;rw [hb];rfl
 rcases Deep.open_slice hu h with ⟨rfl,rfl⟩ | ⟨a,len,cap,m,n,Dd,Pl,rfl,_,hl,_,hm,rfl,hel⟩
 ·exact ⟨⟨none,0,[]⟩,rfl,Nat.le_refl _,by simp,.inl rfl⟩
 ·simp only [if_true] at hm
  subst hm
  have hw1:m*by_≤reachBytes:=by
   have := hn (((List.range len).map Dd).length + ((List.range (m - len)).map fun j => Dd (len + j)).length |> (· * P.bytesOf e)) (by simp [DataW.weights, hu])
   simp only [List.length_map,List.length_range,hbz] at this
   rwa [show len+(m - len)=m by omega] at this
  have hwe:∀i,i<len→∀k,k∈(Dd i).weights P e→k≤reachBytes:=by
   intro i hi k hk
   refine hn k ?_
   simp only [DataW.weights,hu,List.mem_cons,List.mem_append]
   exact .inr (.inl (weights_all (List.mem_map.2 ⟨i,List.mem_range.2 hi,rfl⟩) k hk))
  obtain ⟨xs,hxl,hx⟩:=list_of (p:=fun i (y:α)=>∃cs',w.cells? 0 (a.add (i*sz)) sz=some cs'∧R w cs' y) len (fun i hi=>by
   obtain ⟨cs',h1,h2⟩:=hel i (by omega)
   obtain ⟨y,hy⟩:=D H enc w n cs' _ h2 (hwe i hi)
   exact ⟨y,cs',by rw [← hcz];exact h1,hy⟩)
  refine ⟨⟨some a,m,xs⟩,by simp [Sl.v,hxl],by simp only [hxl];exact hl,hw1,?_⟩
  by_cases h0:xs=[]
  ·exact .inl h0
  ·right
   have h0l:0<xs.length:=List.length_pos_iff.2 h0
   obtain ⟨cs0,hc0,_⟩:=hx 0 xs[0] (List.getElem?_eq_getElem h0l)
   have ha0:a.add (0*sz)=a:=by simp [Addr.add]
   rw [ha0] at hc0
   obtain ⟨b,o,rfl,_,_⟩:=cells_none hc0 hsz
   refine ⟨b,o,rfl,fun i y hi=>?_⟩
   obtain ⟨cs',hc,hr⟩:=hx i y hi
   rw [zJ] at hc
   obtain ⟨b',o',he',hl',hcc⟩:=cells_none hc hsz
   simp only [Addr.mk.injEq] at he'
   obtain ⟨rfl,rfl,_⟩:=he'
   exact ⟨cs',hl',hcc,hr⟩
def fieldsL (P:Program):List Field→Option (List (TypeId × Nat × Nat))
 | []=>some []
 | f::fs=>match sizeT P f.type,fieldsL P fs with
  | some k,some r=>some ((f.type,f.offset,k)::r)
  | _,_=>none
def fieldsT (P:Program) (t:TypeId):Option (List (TypeId × Nat × Nat)):=match P.underlying t with
 | some (.struct fs)=>fieldsL P fs.toList
 | _=>none
theorem fieldsL_get {P:Program}:∀ {l:List Field} {r:List (TypeId × Nat × Nat)},fieldsL P l=some r→∀(j:Nat) (q:TypeId × Nat × Nat),r[j]? = some q→∃f,l[j]? = some f∧q.1=f.type∧q.2.1=f.offset∧sizeT P f.type=some q.2.2:=by
 intro l
 induction l with
 | nil=>intro r h j q hq;simp only [fieldsL,Option.some.injEq] at h;subst h;simp at hq
 | cons f fs ih=>
  intro r h j q hq
  simp only [fieldsL] at h
  split at h
  ·rename_i k r' hk hr
   simp only [Option.some.injEq] at h
   subst h
   cases j with
   | zero=>simp only [List.getElem?_cons_zero,Option.some.injEq] at hq;subst hq;exact ⟨f,rfl,rfl,rfl,hk⟩
   | succ j=>simp only [List.getElem?_cons_succ] at hq ⊢;exact ih hr j q hq
  ·cases h
theorem yo {P:Program} {t:TypeId} {l:List (TypeId × Nat × Nat)} (hf:fieldsT P t=some l) {H:Type} {enc:TypeId × Value→H} {w:World} {fuel:Nat} {cs:List Value} {x:DataW H × List MemPlace}
  (h:DataW.trod enc P w 0 (fun _=>true) true fuel t cs=some x) (hn:∀n,n∈x.1.weights P t→n≤reachBytes) :
  ∀(j:Nat) (q:TypeId × Nat × Nat),l[j]? = some q→∀ {α:Type} {R:World→List Value→α→Prop},Decodes P q.1 R→∃y:α,R w ((cs.drop q.2.1).take q.2.2) y:=by
 intro j q hq α R D
 unfold fieldsT at hf
 split at hf
 ·rename_i fs hu
  obtain ⟨xs,n,_,rfl,hlen,hxl,hfl⟩:=DataW.trod_struct hu h
  obtain ⟨f,hfj,h1,h2,h3⟩:=fieldsL_get hf j q hq
  have hfj':fs[j]? = some f:=by simpa using hfj
  have:=hfl j f hfj'
  have hcz:P.cellsOf f.type=q.2.2:=by
   unfold Program.cellsOf;unfold sizeT at h3;rw [h3];rfl
  rw [hcz,← h2] at this
  have hj:j<xs.length:=by rw [hxl];exact (Array.getElem?_eq_some_iff.1 hfj').1
  rw [List.getElem?_eq_getElem hj] at this
  refine D H enc w n _ xs[j] (h1 ▸ this) (fun k hk=>hn k ?_)
  simp only [DataW.weights,hu]
  refine DataW.weights_mem_each (j:=j) (t:=f.type) (d:=xs[j].1) ?_ ?_ k (h1 ▸ hk)
  ·simp [hfj]
  ·simp [List.getElem?_eq_getElem hj]
 ·cases hf
theorem dec_len {P:Program} {t k:Nat} (ha:aggT P t=some true) (hs:sizeT P t=some k) {H:Type} {enc:TypeId × Value→H} {w:World} {fuel:Nat} {cs:List Value} {x:DataW H × List MemPlace}
  (h:DataW.trod enc P w 0 (fun _=>true) true fuel t cs=some x):cs.length=k:=by
 have hcz:P.cellsOf t=k:=by
  unfold Program.cellsOf;unfold sizeT at hs;rw [hs];rfl
 unfold aggT at ha
 split at ha
 ·rename_i fs hu
  obtain ⟨_,_,_,_,hlen,_⟩:=DataW.trod_struct hu h
  exact hlen.trans hcz
 ·rename_i m el hu
  cases fuel with
  | zero=>simp [DataW.trod] at h
  | succ n=>
   unfold DataW.trod at h
   rw [hu] at h
   split at h <;> simp_all
 ·cases ha
 ·cases ha
def RBytes (k:Nat):World→List Value→List UInt8→Prop:=fun _ cs bs=>bs.length=k∧cs=bs.map u8
theorem dec_bytes {P:Program} {t e k:Nat} (ha:arrT P t=some (k,e)) (hu:P.underlying e=some (.int .u8)) (hs:sizeT P e=some 1) (hk:sizeT P t=some k):Decodes P t (RBytes k):=by
 intro H enc w fuel cs x h _
 have hua:=arr_u ha
 have hcz:P.cellsOf e=1:=by
  unfold Program.cellsOf;unfold sizeT at hs;rw [hs];rfl
 obtain ⟨xs,m,_,_,hl,hxl,hx⟩:=DataW.trod_array hua h
 have hlk:cs.length=k:=by
  rw [hl]
  unfold Program.cellsOf;unfold sizeT at hk;rw [hk];rfl
 obtain ⟨bs,hbl,hb⟩:=list_of (p:=fun i (b:UInt8)=>cs[i]? = some (u8 b)) k (fun i hi=>by
  have h1:=hx i hi
  rw [hcz,Nat.mul_one,List.getElem?_eq_getElem (by omega)] at h1
  have h2:(cs.drop i).take 1=[cs[i]'(by omega)]:=by
   rw [List.drop_eq_getElem_cons (by omega)];rfl
  rw [h2] at h1
  obtain ⟨b,hb⟩:=dec_u8 hu H enc w m _ _ h1 (by
   intro n hn
   obtain ⟨z,_,hz,_⟩:=DataW.trod_int hu h1
   rw [hz] at hn
   simp [DataW.weights] at hn)
  refine ⟨b,?_⟩
  have hb':[cs[i]'(by omega)]=[u8 b]:=hb
  simp only [List.cons.injEq,and_true] at hb'
  rw [List.getElem?_eq_getElem (by omega),hb'])
 refine ⟨bs,hbl,?_⟩
 apply List.ext_getElem?
 intro i
 by_cases hi:i<k
 ·rw [hb i bs[i] (List.getElem?_eq_getElem (by omega)),List.getElem?_map,List.getElem?_eq_getElem (by omega)];rfl
 ·rw [List.getElem?_eq_none (by omega),List.getElem?_eq_none (by simp;omega)]
theorem arg_int {P:Program} {W:World} {base t:Nat} {v:Value} {k:IntKind} (hu:P.underlying t=some (.int k)) (hval:Value.okWide P W .any base t v) {H:Type} {enc:TypeId × Value→H} {d:DataW H} {ps:List MemPlace}
  (h:DataW.Trod enc P W 0 (fun _=>true) true t v d ps):∃n,v=.int k n∧(Lit.int k n).wf=true:=by
 obtain ⟨n,h1,_,_,h2⟩:=open_int hu hval h
 exact ⟨n,h1,h2⟩
theorem arg_slice {P:Program} {W:World} {base t:Nat} {v:Value} {sz by_:Nat} {α:Type} {R:World→List Value→α→Prop} {e:Nat} (he:elemT P t=some e) (hval:Value.okWide P W .any base t v) (D:Decodes P t (RSl sz by_ R))
  {H:Type} {enc:TypeId × Value→H} {d:DataW H} {ps:List MemPlace} (h:DataW.Trod enc P W 0 (fun _=>true) true t v d ps) (hn:∀n,n∈d.weights P t→n≤reachBytes):∃s:Sl α,v=s.v∧RSl sz by_ R W [s.v] s:=by
 obtain ⟨a,len,cap,rfl⟩:=okWide_slice (yk he) hval
 obtain ⟨fuel,hf⟩:=h
 obtain ⟨s,hs⟩:=D H enc W fuel _ _ hf hn
 have h1:[Value.slice a len cap]=[s.v]:=hs.1
 simp only [List.cons.injEq,and_true] at h1
 exact ⟨s,h1,rfl,hs.2⟩
theorem sized_arg {H : Type} {P : Program} {ts : List TypeId} {ds : List (DataW H)} (h : (DataW.weightsEach P ts ds).all (· ≤ reachBytes) = true) {j : Nat} {t : TypeId} {d : DataW H} (ht : ts[j]? = some t) (hd : ds[j]? = some d) :
  ∀n,n∈d.weights P t→n≤reachBytes:=fun n hn=>by
 have:=List.all_eq_true.1 h _ (DataW.weights_mem_each ht hd n hn)
 simpa using this
theorem RSl.row {W:World} {by_:Nat} {s:Sl UInt8} {cs:List Value} (h:RSl 1 by_ RU8 W cs s):Row W s.v s.xs.length (s.xs.map u8):=by
 obtain ⟨_,h1,_,h2⟩:=h
 refine ⟨s.a,s.c,rfl,h1,?_⟩
 rcases h2 with h2 | ⟨b,o,ha,h2⟩
 ·left;rw [h2];rfl
 ·right
  refine ⟨b,o,ha,fun j hj=>?_⟩
  simp only [List.length_map] at hj
  obtain ⟨cs',hl,hc,hr⟩:=h2 j s.xs[j] (List.getElem?_eq_getElem hj)
  have hr':cs'=[u8 s.xs[j]]:=hr
  subst hr'
  have:=hc 0 (by simp)
  rw [show o+j=o+j*1+0 by omega,this]
  simp [List.getElem?_eq_getElem hj]
theorem RSl.at {α:Type} {W:World} {sz by_:Nat} {R:World→List Value→α→Prop} {s:Sl α} {cs:List Value} (h:RSl sz by_ R W cs s) {i:Nat} (hi:i<s.xs.length) :
  ∃b o cs',s.a=some ⟨b,o,none⟩∧cs'.length=sz∧Cells W b (o+(i:Int).toNat*sz) cs'∧R W cs' s.xs[i]:=by
 obtain ⟨_,_,_,h2⟩:=h
 rcases h2 with h2 | ⟨b,o,ha,h2⟩
 ·rw [h2] at hi;simp at hi
 ·obtain ⟨cs',h3,h4,h5⟩:=h2 i s.xs[i] (List.getElem?_eq_getElem hi)
  exact ⟨b,o,cs',ha,h3,by simpa using h4,h5⟩
end Go.J
namespace Go.Proofs.Ytoaenmlhehcjfaa
open Go.J Go.RowKit
set_option linter.unusedVariables false
set_option linter.unusedSimpArgs false
set_option maxRecDepth 8000
theorem append_all (lb d s n:Nat) (q:LogP) (down:Bool) (B rec_:List UInt8) (p k:Int) (a:Option Addr) (m c:Nat) (w:World) (hw0:Own w [(lb,lgO d q down),(d,dkO s n p k),(s,dkS B)]) (hB:B.length=64*n) (hn:n≤4096) (hn3:3≤n) (hg:q.gen<9223372036854775808) (hu:q.used≤n - 2) (hcn:q.cnt≤q.used) (hk:0≤k) (hk2:k<4611686018427380000) (hp:p<9223372036854775808) (hml:rec_.length=m) (hm47:m≤140737488351232) (hr:Row w (.slice a m c) m (rec_.map u8)) (hoff:Off [lb,d,s] (.slice a m c) (rec_.map u8)) {x:Int × LogP × Bool × DS} (hx:appendP n q down ⟨B,p,k⟩ rec_=x) :
  Calls Try.prog 46 [.pointer (some ⟨lb,0,none⟩),.slice a m c].toArray w fun r w'=>r=.returned (.int .i64 x.1)∧St w [lb,d,s] [(lb,lgO d x.2.1 x.2.2.1),(d,dkO s n x.2.2.2.p x.2.2.2.k),(s,dkS x.2.2.2.B)] w':=by
 subst hx
 exact append_spec lb d s n q down B rec_ p k a m c w hw0 hB hn hn3 hg hu hcn hk hk2 hp hml hm47 hr hoff
theorem down_spec (lb d:Nat) (q:LogP) (down:Bool) (w:World) {l:List (Nat × Obj)} (hw0:Own w ((lb,lgO d q down)::l)) :
  Calls Try.prog 51 [.pointer (some ⟨lb,0,none⟩)].toArray w fun r w'=>r=.returned (.bool down)∧Bel w w':=by
 refine qD (args:=[.pointer (some ⟨lb,0,none⟩)]) (e:=[(0,.pointer (some ⟨lb,0,none⟩))]) Try.func51 rfl rfl ⟨rfl,trivial⟩ (hw0.st) ?_;refine JC.seq (fun K0 hK0=>?_);refine JC.region<|J.assign rfl rfl<|J.nil ?_;refine JX.qd (hK0 _ _ ?_);refine JC.seq (fun K1 hK1=>?_);refine JC.region<|J.qe rfl rfl<|J.neNil Ty.u94 rfl rfl rfl<|J.qe rfl rfl ?_
 first | refine J.skip rfl rfl rfl rfl rfl ?_ | refine J.qh rfl rfl rfl rfl ?_ | (refine J.qf rfl rfl rfl ?_;refine J.qe rfl rfl ?_)
 first | refine J.skip rfl rfl rfl rfl rfl ?_ | refine J.qh rfl rfl rfl rfl ?_ | (refine J.qf rfl rfl rfl ?_;refine J.qq rfl rfl ?_)
 first | refine J.skip rfl rfl rfl rfl rfl ?_ | refine J.qh rfl rfl rfl rfl ?_ | (refine J.qf rfl rfl rfl ?_;refine J.qi Ty.fd124_4 rfl rfl ?_)
 first | refine J.skip rfl rfl rfl rfl rfl ?_ | refine J.qh rfl rfl rfl rfl ?_ | (refine J.qf rfl rfl rfl ?_;refine J.qQ Ty.a4 rfl zm (by exact rfl) rfl ?_)
 (first | refine J.qr rfl rfl rfl ?_ | refine J.qs rfl rfl rfl ?_)
 refine J.assign rfl rfl<|J.nil ?_;refine JX.qd (hK1 _ _ ?_);refine JC.qA ?_;refine JX.qL rfl rfl (fun w hw=>?_)
 exact ⟨rfl,hw.same hw0 (fun p hp=>hp)⟩
theorem append_nil (bv:Value) (w:World) :
  Calls Try.prog 46 [.pointer none,bv].toArray w fun r w'=>r=.returned (.int .i64 1)∧Bel w w':=by
 refine qD (args:=[.pointer none,bv]) (e:=[(0,.pointer none),(1,bv)]) Try.func46 rfl rfl ⟨rfl,rfl,trivial⟩ (St.start w) ?_;refine JC.seq (fun K0 hK0=>?_);refine JC.region<|J.assign rfl rfl<|J.nil ?_;refine JX.qd (hK0 _ _ ?_);refine JC.seq (fun K1 hK1=>?_);refine JC.block ?_;refine JC.seq (fun K2 hK2=>?_);refine JC.region<|J.qe rfl rfl<|J.zh Ty.u94 rfl rfl rfl<|J.assign rfl rfl<|J.nil ?_;refine JX.qd (hK2 _ _ ?_)
 first | refine JC.qP rfl ?_ | refine JC.qn rfl (fun _=>?_) (fun h=>by first | (exfalso;simp at h;omega) | (simp at h))
 refine JC.seq (fun K3 hK3=>?_);refine JC.region<|J.assign rfl rfl<|J.nil ?_;refine JX.qd (hK3 _ _ ?_);refine JC.qA<|JX.qH<|JX.qt ?_;refine JX.qL rfl rfl (fun w hw=>?_)
 exact ⟨rfl,hw.below⟩
def fa1:Int × LogP × Bool × DS:=appendP 5 ⟨0,0,0,[]⟩ false ⟨List.replicate 320 0,-1,0⟩ [97,98,99]
def fa2:Int × LogP × Bool × DS:=appendP 5 fa1.2.1 fa1.2.2.1 fa1.2.2.2 (List.replicate 63 0)
def fa3:Int × LogP × Bool × DS:=appendP 5 fa2.2.1 fa2.2.2.1 fa2.2.2.2 []
end Go.Proofs.Ytoaenmlhehcjfaa
namespace Go.J
open Go.RowKit
set_option linter.unusedVariables false
set_option linter.unusedSimpArgs false
structure EqL (P:Program) (t:TypeId):Prop where
 guard:P.eqGuardType P.depth t=false
 eq:∀(w:World) (x y:Value) (lx ly:Lit),keyOf P t x=some lx→keyOf P t y=some ly→∃r:Bool,(Op.equal t x y).run P w=.ok r w∧(r=true↔x=y)
theorem EqL.of {P:Program} {m:Nat} {t:TypeId} (hg:P.eqGuardType P.depth t=false) (hm:m+1≤10000) (hk:P.keyTypeAt m t=true) (ht:P.tiled m t=true)
  (hw:(match P.underlying t with | some (.array _ _) | some (.struct _)=>true | _=>false)=true):EqL P t:=
 ⟨hg,fun w x y lx ly hx hy=>by
  obtain ⟨r,h1,h2⟩:=run_equal_deep w (by omega) hk hw hx hy
  refine ⟨r,h1,h2.trans ⟨fun h=>?_,fun h=>?_⟩⟩
  ·subst h;exact keyOf_inj_deep ht hw hx hy
  ·subst h;rw [hx] at hy;exact Option.some.inj hy⟩
theorem binOp_eql_agg (P:Program) (t:TypeId) (a b:Array Value) (w:World):(binOp .eql t (.agg a) (.agg b)).run P w=((Op.equal t (.agg a) (.agg b)).run P w).andThen fun r w'=>.ok (.bool r) w':=by
 simp only [binOp,Sem.run_bind,Sem.run_pure]
theorem binOp_neq_agg (P:Program) (t:TypeId) (a b:Array Value) (w:World):(binOp .neq t (.agg a) (.agg b)).run P w=((Op.equal t (.agg a) (.agg b)).run P w).andThen fun r w'=>.ok (.bool !r) w':=by
 simp only [binOp,Sem.run_bind,Sem.run_pure]
theorem run_eqGuard_agg {P:Program} {op:BinOp} {t:TypeId} {x y:Operand} {a b:Array Value} (w:World) (hg:P.eqGuardType P.depth t=false):(eqGuard op t x y (.agg a) (.agg b)).run P w=.ok () w:=by
 unfold eqGuard
 cases op <;> simp [hg]
theorem run_key {P:Program} {w:World} {b clock:Nat} {es:Array MapEntry} (hb:w.heap[b]? = some (.map es clock)):(getObj b).run P w=.ok (.map es clock) w:=by simp [getObj,Sem.run,hb]
theorem run_keyset {P:Program} {w:World} {b clock:Nat} {es:Array MapEntry} (o:Obj) (hb:w.heap[b]? = some (.map es clock)):(setObj b o).run P w=.ok () { w with heap:=w.heap.setIfInBounds b o }:=by simp [setObj,Sem.run,hb]
inductive Look (L:List MapEntry) (k z:Value):Value→Bool→Prop
 | no:(∀e,e∈L→e.key≠k)→Look L k z z false
 | yes (j:Nat) (e:MapEntry):L[j]? = some e→e.key=k→Look L k z e.val true
theorem run_lookup {P:Program} {w:World} {mt kt et:TypeId} {b clock:Nat} {es:Array MapEntry} {k z:Value} {l:Lit} (hm:P.underlying mt=some (.map kt et)) (K:WideMaps.KeyLaw P kt) (hz:zeroT P et=some z)
  (hb:w.heap[b]? = some (.map es clock)) (hk:keyOf P kt k=some l) (hes:∀e,e∈es.toList→∃l,keyOf P kt e.key=some l) :
  ∃v ok,(Instr.lookup mt (.map (some b)) k true).run P w=.ok (.tuple #[v,.bool ok]) w∧Look es.toList k z v ok:=by
 rcases K.find w hk es.toList hes with ⟨h1,h2⟩ | ⟨j,e0,h1,h2,h3⟩
 ·refine ⟨z,false,?_,.no h2⟩
  simp [Instr.lookup,qM hm,run_key hb,K.check w _ hk,h1,zz hz]
 ·refine ⟨e0.val,true,?_,.yes j e0 h2 h3⟩
  simp [Instr.lookup,qM hm,run_key hb,K.check w _ hk,h1]
theorem run_lookup1 {P:Program} {w:World} {mt kt et:TypeId} {b clock:Nat} {es:Array MapEntry} {k z:Value} {l:Lit} (hm:P.underlying mt=some (.map kt et)) (K:WideMaps.KeyLaw P kt) (hz:zeroT P et=some z)
  (hb:w.heap[b]? = some (.map es clock)) (hk:keyOf P kt k=some l) (hes:∀e,e∈es.toList→∃l,keyOf P kt e.key=some l) :
  ∃v ok,(Instr.lookup mt (.map (some b)) k false).run P w=.ok v w∧Look es.toList k z v ok:=by
 rcases K.find w hk es.toList hes with ⟨h1,h2⟩ | ⟨j,e0,h1,h2,h3⟩
 ·refine ⟨z,false,?_,.no h2⟩
  simp [Instr.lookup,qM hm,run_key hb,K.check w _ hk,h1,zz hz]
 ·refine ⟨e0.val,true,?_,.yes j e0 h2 h3⟩
  simp [Instr.lookup,qM hm,run_key hb,K.check w _ hk,h1]
theorem wrote_set {w:World} {b:Nat} {o o':Obj} (hb:w.heap[b]? = some o):Wrote w { w with heap:=w.heap.setIfInBounds b o' } b o':=
 ⟨rfl,rfl,rfl,by simp,rfl,by
  have:=zj hb
  simp [this],fun k hk=>by
  simp only [Array.getElem?_setIfInBounds]
  rw [if_neg (fun e=>hk e.symm)]⟩
section
variable {P:Program} {ops:Array Oper} {Q:Exit→Act→World→Prop} {n:Nat} {e:Env} {I I':World→Prop} {rest:List Oper}
variable {d t yt:Nat} {p:String} {af:Array Edge} {x y z:Operand} {v v1 v2:Value} {w0:World} {S:List Nat} {l l':List (Nat × Obj)}
theorem J.eqA {ty:TypeId} {a b:Array Value} {la lb:Lit} (K:EqL P ty) (hx:ev e x=some (.agg a)) (hy:ev e y=some (.agg b)) (ha:keyOf P ty (.agg a)=some la) (hb:keyOf P ty (.agg b)=some lb) (hd:Nat.blt d n=true)
  (h:∀r:Bool,(r=true↔a=b)→J P ops Q n rest ((d,.bool r)::e) I):J P ops Q n (⟨some d,.binOp .eql ty x y yt,t,p,af,none⟩::rest) e I:=by
 intro T w ht hw
 obtain ⟨r,h1,h2⟩:=K.eq w _ _ la lb ha hb
 refine (J.zf (I:=fun w'=>w'=w) hd (fun T w' ht hw'=>?_) (h r (h2.trans (by simp)))) T w ht rfl
 subst hw'
 refine ⟨w',?_,hw⟩
 simp only [execOp,ht.eval hx,ht.eval hy,Sem.run_bind,Sem.run_pure]
 rw [run_eqGuard_agg w' K.guard,Result.andThen_ok,binOp_eql_agg,h1];rfl
theorem J.neA {ty:TypeId} {a b:Array Value} {la lb:Lit} (K:EqL P ty) (hx:ev e x=some (.agg a)) (hy:ev e y=some (.agg b)) (ha:keyOf P ty (.agg a)=some la) (hb:keyOf P ty (.agg b)=some lb) (hd:Nat.blt d n=true)
  (h:∀r:Bool,(r=true↔a=b)→J P ops Q n rest ((d,.bool (!r))::e) I):J P ops Q n (⟨some d,.binOp .neq ty x y yt,t,p,af,none⟩::rest) e I:=by
 intro T w ht hw
 obtain ⟨r,h1,h2⟩:=K.eq w _ _ la lb ha hb
 refine (J.zf (I:=fun w'=>w'=w) hd (fun T w' ht hw'=>?_) (h r (h2.trans (by simp)))) T w ht rfl
 subst hw'
 refine ⟨w',?_,hw⟩
 simp only [execOp,ht.eval hx,ht.eval hy,Sem.run_bind,Sem.run_pure]
 rw [run_eqGuard_agg w' K.guard,Result.andThen_ok,binOp_neq_agg,h1];rfl
theorem setMany_all {cs vs:List Value} (h:vs.length=cs.length):setMany cs 0 vs=vs:=by
 rw [yr _ _ _ (by omega)]
 simp [h]
theorem J.qN {ty k b:Nat} {cs vs:List Value} {tb:TypeId} (hs:sizeT P ty=some k) (hx:ev e x=some (.pointer (some ⟨b,0,none⟩))) (hy:ev e y=some v) (hv:v.cells=vs.toArray) (hk:vs.length=k) (hk':cs.length=k) (h1:∀v,v∈vs→v.oneCell'=true)
  (hu:Up l b (cb cs tb) (cb vs tb) l') (h:J P ops Q n rest e (St w0 S l')):J P ops Q n (⟨none,.store ty x y,t,p,af,none⟩::rest) e (St w0 S l):=
 J.qU (cs:=cs) hs hx hy hv hk h1 (by rw [setMany_all (by omega)];exact hu) (by omega) h
theorem J.makeMap {ty:TypeId} (hd:Nat.blt d n=true)
  (h:∀b,J P ops Q n rest ((d,.map (some b))::e) (St w0 S ((b,.map #[] 0)::l))):J P ops Q n (⟨some d,.makeMap ty none,t,p,af,none⟩::rest) e (St w0 S l):=by
 refine J.yq (V:=fun b=>.map (some b)) hd (fun T w ht hw=>⟨w.heap.size,w.alloc (.map #[] 0),?_,?_⟩) h
 ·simp [execOp,Instr.makeMap,run_newObj]
 ·exact hw.new (zU w _) (Nat.le_refl _) (yu w _)
theorem J.lookup2 {mt kt et:TypeId} {b clock:Nat} {es:Array MapEntry} {k zv:Value} {lk:Lit} (hm:P.underlying mt=some (.map kt et)) (K:WideMaps.KeyLaw P kt) (hz:zeroT P et=some zv) (hx:ev e x=some (.map (some b))) (hy:ev e y=some k)
  (hb:∀w,I w→w.heap[b]? = some (.map es clock)) (hk:keyOf P kt k=some lk) (hes:∀e,e∈es.toList→∃l,keyOf P kt e.key=some l) (hd:Nat.blt d n=true)
  (h:∀u ok,Look es.toList k zv u ok→J P ops Q n rest ((d,.tuple #[u,.bool ok])::e) I):J P ops Q n (⟨some d,.lookup mt x y true,t,p,af,none⟩::rest) e I:=by
 intro T w ht hw
 obtain ⟨u,ok,h1,h2⟩:=run_lookup hm K hz (hb w hw) hk hes
 refine (J.zf (I:=fun w'=>w'=w) hd (fun T w' ht hw'=>?_) (h u ok h2)) T w ht rfl
 subst hw'
 exact ⟨w',by simp [execOp,ht.eval hx,ht.eval hy,h1],hw⟩
theorem J.lookup1 {mt kt et:TypeId} {b clock:Nat} {es:Array MapEntry} {k zv:Value} {lk:Lit} (hm:P.underlying mt=some (.map kt et)) (K:WideMaps.KeyLaw P kt) (hz:zeroT P et=some zv) (hx:ev e x=some (.map (some b))) (hy:ev e y=some k)
  (hb:∀w,I w→w.heap[b]? = some (.map es clock)) (hk:keyOf P kt k=some lk) (hes:∀e,e∈es.toList→∃l,keyOf P kt e.key=some l) (hd:Nat.blt d n=true)
  (h:∀u ok,Look es.toList k zv u ok→J P ops Q n rest ((d,u)::e) I):J P ops Q n (⟨some d,.lookup mt x y false,t,p,af,none⟩::rest) e I:=by
 intro T w ht hw
 obtain ⟨u,ok,h1,h2⟩:=run_lookup1 hm K hz (hb w hw) hk hes
 refine (J.zf (I:=fun w'=>w'=w) hd (fun T w' ht hw'=>?_) (h u ok h2)) T w ht rfl
 subst hw'
 exact ⟨w',by simp [execOp,ht.eval hx,ht.eval hy,h1],hw⟩
def isStructT (P:Program) (t:TypeId):Bool:=match P.underlying t with | some (.struct _)=>true | _=>false
theorem isStructT.ex {P:Program} {t:TypeId} (h:isStructT P t=true):∃fs,P.underlying t=some (.struct fs):=by
 unfold isStructT at h
 split at h
 ·exact ⟨_,by assumption⟩
 ·cases h
end
theorem results_cell {fn:Func} {t:Tmp} {ty:TypeId} {tmps:Array Value} {a:Addr} {v:Value} {P:Program} {w:World} (h:fn.results=#[.cell t ty]) (ht:tmps.getD t undef=.pointer (some a)) (hl:(loadVar ty a).run P w=.ok v w) :
  (results fn tmps).run P w=.ok v w:=by
 have ha:(asAddr (.pointer (some a))).run P w=.ok a w:=by simp [asAddr]
 rw [Array.getD_eq_getD_getElem?] at ht
 simp only [results,h,Sem.run_bind]
 simp [ht,ha,hl]
theorem results_cell_tmp {fn:Func} {t u:Tmp} {ty:TypeId} {tmps:Array Value} {a:Addr} {v:Value} {P:Program} {w:World} (h:fn.results=#[.cell t ty,.tmp u]) (ht:tmps.getD t undef=.pointer (some a)) (hl:(loadVar ty a).run P w=.ok v w) :
  (results fn tmps).run P w=.ok (.tuple #[v,tmps.getD u undef]) w:=by
 have ha:(asAddr (.pointer (some a))).run P w=.ok a w:=by simp [asAddr]
 rw [Array.getD_eq_getD_getElem?] at ht
 simp only [results,h,Sem.run_bind]
 simp [ht,ha,hl]
theorem JX.retC {P:Program} {fn:Func} {R:Ending→World→Prop} {n:Nat} {e:Env} {I:World→Prop} {t ty k b o:Nat} {vs:List Value} (hr:fn.results=#[.cell t ty]) (hv:get e t=some (.pointer (some ⟨b,o,none⟩)))
  (ha:aggT P ty=some true) (hs:sizeT P ty=some k) (hl:vs.length=k) (hc:∀w,I w→Cells w b o vs) (h:∀w,I w→R (.returned (.agg vs.toArray)) w) :
  JX (bodyPost P fn R) n .ret e I:=by
 intro T w ht hw
 refine ⟨rfl,.agg vs.toArray,?_,h w hw⟩
 exact results_cell hr (by rw [Array.getD_eq_getD_getElem?,ht.2 t _ hv];rfl) (yz ha hs hl (hc w hw))
theorem JX.z7 {P:Program} {fn:Func} {R:Ending→World→Prop} {n:Nat} {e:Env} {I:World→Prop} {t u ty k b o:Nat} {vs:List Value} {v:Value} (hr:fn.results=#[.cell t ty,.tmp u]) (hv:get e t=some (.pointer (some ⟨b,o,none⟩))) (hv':get e u=some v)
  (ha:aggT P ty=some true) (hs:sizeT P ty=some k) (hl:vs.length=k) (hc:∀w,I w→Cells w b o vs) (h:∀w,I w→R (.returned (.tuple #[.agg vs.toArray,v])) w) :
  JX (bodyPost P fn R) n .ret e I:=by
 intro T w ht hw
 refine ⟨rfl,.tuple #[.agg vs.toArray,v],?_,h w hw⟩
 have:=results_cell_tmp (u:=u) hr (by rw [Array.getD_eq_getD_getElem?,ht.2 t _ hv];rfl) (yz ha hs hl (hc w hw))
 rw [this,Array.getD_eq_getD_getElem?,ht.2 u v hv'];rfl
theorem lits_int {P:Program} {t d:Nat} {q:IntKind} {n:Int} (hu:P.underlying t=some (.int q)) (hw:(Lit.int q n).wf=true):P.keyLits (d+1) t [.int q n]=some [.int q n]:=by
 unfold Program.keyLits
 rw [hu]
 simp [hw]
theorem lits_u8 {P:Program} {t d:Nat} {b:UInt8} (hu:P.underlying t=some (.int .u8)):P.keyLits (d+1) t [u8 b]=some [.int .u8 (b.toNat:Int)]:=
 lits_int hu (by
  have:=b.toNat_lt
  simp [Lit.wf,IntKind.min,IntKind.max,IntKind.signed,IntKind.bits]
  omega)
def fieldsK (P:Program) (t:TypeId):Option (List (Nat × Nat)):=match P.underlying t with
 | some (.struct fs) => if fs.all (·.name != "_") then some (fs.toList.map fun f => (f.type, f.offset)) else none
 | _=>none
theorem mapM_map {α β γ:Type} (g:β→Option γ) (f:α→β):∀l:List α,l.mapM (fun a=>g (f a))=(l.map f).mapM g
 | []=>rfl
 | a::l=>by simp [List.mapM_cons,mapM_map g f l]
theorem lits_struct {P:Program} {t d:Nat} {fs:List (Nat × Nat)} {cs:List Value} {ls:List (List Lit)} (h:fieldsK P t=some fs) (hl:cs.length=P.cellsOf t)
  (hm:fs.mapM (fun q=>P.keyLits d q.1 ((cs.drop q.2).take (P.cellsOf q.1)))=some ls):P.keyLits (d+1) t cs=some ls.flatten:=by
 unfold fieldsK at h
 split at h
 ·rename_i gs hu
  split at h
  ·rename_i ha
   simp only [Option.some.injEq] at h
   subst h
   unfold Program.keyLits
   rw [hu]
   simp only
   rw [if_pos ⟨hl,ha⟩,mapM_map (fun q:Nat × Nat=>P.keyLits d q.1 ((cs.drop q.2).take (P.cellsOf q.1))) (fun f:Field=>(f.type,f.offset)),hm]
   rfl
  ·cases h
 ·cases h
theorem lits_arr {P:Program} {t d n e:Nat} {cs:List Value} {ls:List (List Lit)} (hu:P.underlying t=some (.array n e)) (hl:cs.length=P.cellsOf t)
  (hm:(List.range n).mapM (fun i=>P.keyLits d e ((cs.drop (i*P.cellsOf e)).take (P.cellsOf e)))=some ls):P.keyLits (d+1) t cs=some ls.flatten:=by
 unfold Program.keyLits
 rw [hu]
 simp only
 rw [if_pos hl,hm]
 rfl
theorem key_of {P:Program} {t d:Nat} {cs:List Value} {ls:List Lit} (hd:P.types.size+1=d) (hk:P.keyType t=true) (hw:(match P.underlying t with | some (.array _ _) | some (.struct _)=>true | _=>false)=true) (hl:cs.length=P.cellsOf t)
  (h:P.keyLits d t cs=some ls):∃l,keyOf P t (.agg cs.toArray)=some l:=by
 subst hd
 unfold keyOf
 split
 ·rename_i hu
  rw [if_pos (by simp [hk,Value.formed,hu,hl])]
  exact ⟨_,by simp only [Value.cells];rw [h];rfl⟩
 ·rename_i hu
  rw [if_pos (by simp [hk,Value.formed,hu,hl])]
  exact ⟨_,by simp only [Value.cells];rw [h];rfl⟩
 ·split at hw <;> simp_all
abbrev IDV:=_root_.Fin 16→UInt8
abbrev cI (a:IDV):List Value:=[u8 (a 0),u8 (a 1),u8 (a 2),u8 (a 3),u8 (a 4),u8 (a 5),u8 (a 6),u8 (a 7),u8 (a 8),u8 (a 9),u8 (a 10),u8 (a 11),u8 (a 12),u8 (a 13),u8 (a 14),u8 (a 15)]
def lI (a:IDV):List (List Lit):=[[.int .u8 ((a 0).toNat:Int)],[.int .u8 ((a 1).toNat:Int)],[.int .u8 ((a 2).toNat:Int)],[.int .u8 ((a 3).toNat:Int)],[.int .u8 ((a 4).toNat:Int)],[.int .u8 ((a 5).toNat:Int)],[.int .u8 ((a 6).toNat:Int)],[.int .u8 ((a 7).toNat:Int)],[.int .u8 ((a 8).toNat:Int)],[.int .u8 ((a 9).toNat:Int)],[.int .u8 ((a 10).toNat:Int)],[.int .u8 ((a 11).toNat:Int)],[.int .u8 ((a 12).toNat:Int)],[.int .u8 ((a 13).toNat:Int)],[.int .u8 ((a 14).toNat:Int)],[.int .u8 ((a 15).toNat:Int)]]
theorem lits_id {P:Program} {t e d:Nat} {a:IDV} (hu:P.underlying t=some (.array 16 e)) (he:P.underlying e=some (.int .u8)) (hc:P.cellsOf t=16) (hc':P.cellsOf e=1):P.keyLits (d+2) t (cI a)=some (lI a).flatten:=by
 refine lits_arr (d:=d+1) hu (by rw [hc];rfl) ?_
 rw [hc',show List.range 16=[0,1,2,3,4,5,6,7,8,9,10,11,12,13,14,15] from rfl]
 simp only [List.mapM_cons,List.mapM_nil]
 simp only [Nat.mul_one,List.drop_succ_cons,List.drop_zero,List.take_succ_cons,List.take_zero,lits_u8 he]
 rfl
structure PV where
 who:IDV
 n:Int
abbrev cP (p:PV):List Value:=cI p.who++[.int .i64 p.n]
structure EV where
 p:PV
 a:IDV
 b:IDV
 na:Int
 nb:Int
abbrev cE (x:EV):List Value:=cP x.p++cI x.a++cI x.b++[.int .i64 x.na,.int .i64 x.nb]
abbrev okN (n:Int):Prop:=(Lit.int .i64 n).wf=true
abbrev okE (x:EV):Prop:=okN x.p.n∧okN x.na∧okN x.nb
theorem u8_inj {a b:UInt8}:u8 a=u8 b↔a=b:=by
 constructor
 ·intro h
  have:(a.toNat:Int)=(b.toNat:Int):=by injection h
  exact UInt8.toNat_inj.1 (by omega)
 ·intro h;rw [h]
instance : DecidableEq IDV := fun a b => decidable_of_iff (∀ i, a i = b i) ⟨funext, fun h i => by rw [h]⟩
deriving instance DecidableEq for PV, EV
theorem cI_eq {a b:IDV}:cI a=cI b↔a=b:=by
 constructor
 ·intro h
  simp only [cI,List.cons.injEq,u8_inj,and_true] at h
  obtain ⟨h0,h1,h2,h3,h4,h5,h6,h7,h8,h9,h10,h11,h12,h13,h14,h15⟩:=h
  funext i
  match i with
  | 0=>exact h0 | 1=>exact h1 | 2=>exact h2 | 3=>exact h3 | 4=>exact h4 | 5=>exact h5 | 6=>exact h6 | 7=>exact h7
  | 8=>exact h8 | 9=>exact h9 | 10=>exact h10 | 11=>exact h11 | 12=>exact h12 | 13=>exact h13 | 14=>exact h14 | 15=>exact h15
  | ⟨n+16,h⟩=>omega
 ·intro h;rw [h]
theorem app_iff {a b c d:List Value} (h:a.length=b.length):a++c=b++d↔a=b∧c=d:=⟨fun e=>List.append_inj e h,fun ⟨e1,e2⟩=>by rw [e1,e2]⟩
theorem cP_eq {p q:PV}:cP p=cP q↔p=q:=by
 obtain ⟨a,n⟩:=p
 obtain ⟨b,m⟩:=q
 show cI a++[.int .i64 n]=cI b++[.int .i64 m]↔_
 rw [app_iff (by rfl),cI_eq]
 simp
structure Tab (L:List EV) (es:Array MapEntry) (clock:Nat):Prop where
 st:MapKept.Stamped es clock
 is_:es.toList.map (fun e=>(e.key,e.val))=L.map (fun x=>(Value.agg (cP x.p).toArray,Value.agg (cE x).toArray))
 ok:∀x,x∈L→okE x
 dist:L.Pairwise (fun x y=>x.p≠y.p)
theorem Tab.mem {L:List EV} {es:Array MapEntry} {clock:Nat} (h:Tab L es clock) {e:MapEntry} (he:e∈es.toList):∃x,x∈L∧e.key=.agg (cP x.p).toArray∧e.val=.agg (cE x).toArray:=by
 have:(e.key,e.val)∈L.map (fun x=>(Value.agg (cP x.p).toArray,Value.agg (cE x).toArray)):=by rw [← h.is_];exact List.mem_map.2 ⟨e,he,rfl⟩
 obtain ⟨x,hx,h2⟩:=List.mem_map.1 this
 simp only [Prod.mk.injEq] at h2
 exact ⟨x,hx,h2.1.symm,h2.2.symm⟩
theorem Tab.mem' {L:List EV} {es:Array MapEntry} {clock:Nat} (h:Tab L es clock) {x:EV} (hx:x∈L):∃e,e∈es.toList∧e.key=.agg (cP x.p).toArray:=by
 have:(Value.agg (cP x.p).toArray,Value.agg (cE x).toArray)∈es.toList.map (fun e=>(e.key,e.val)):=by rw [h.is_];exact List.mem_map.2 ⟨x,hx,rfl⟩
 obtain ⟨e,he,h2⟩:=List.mem_map.1 this
 simp only [Prod.mk.injEq] at h2
 exact ⟨e,he,h2.1⟩
theorem Tab.size {L:List EV} {es:Array MapEntry} {clock:Nat} (h:Tab L es clock):es.size=L.length:=by
 have:=congrArg List.length h.is_
 simpa using this
theorem arr_inj {a b:List Value}:a.toArray=b.toArray↔a=b:=by
 constructor
 ·intro h;simpa using h
 ·intro h;rw [h]
theorem agg_inj {a b:List Value}:Value.agg a.toArray=Value.agg b.toArray↔a=b:=by
 simp
def tget (L:List EV) (p:PV):Option EV:=L.find? (fun x=>decide (x.p=p))
theorem tget_some {L:List EV} (hd:L.Pairwise (fun x y=>x.p≠y.p)) {x:EV} (hx:x∈L):tget L x.p=some x:=by
 induction L with
 | nil=>cases hx
 | cons y L ih=>
  rw [List.pairwise_cons] at hd
  simp only [tget,List.find?_cons]
  cases hx with
  | head=>simp
  | tail _ hx=>
   rw [decide_eq_false (hd.1 x hx)]
   exact ih hd.2 hx
theorem tget_none {L:List EV} {p:PV}:tget L p=none↔∀x,x∈L→x.p≠p:=by
 simp [tget,List.find?_eq_none]
theorem Tab.look {L:List EV} {es:Array MapEntry} {clock:Nat} (h:Tab L es clock) {p:PV} {z v:Value} {ok:Bool} (hl:Look es.toList (.agg (cP p).toArray) z v ok) :
  (tget L p=none∧v=z∧ok=false)∨∃x,tget L p=some x∧x∈L∧x.p=p∧v=.agg (cE x).toArray∧ok=true:=by
 generalize hk:Value.agg (cP p).toArray=k at hl
 cases hl with
 | no hno=>
  refine .inl ⟨tget_none.2 (fun x hx hp=>?_),rfl,rfl⟩
  obtain ⟨e,he,h1⟩:=h.mem' hx
  exact hno e he (by rw [h1,hp,hk])
 | yes j e h1 h2=>
  obtain ⟨x,hx,h3,h4⟩:=h.mem (List.mem_of_getElem? h1)
  have hp:x.p=p:=by
   have:=h3.symm.trans (h2.trans hk.symm)
   exact cP_eq.1 (agg_inj.1 this)
  refine .inr ⟨x,?_,hx,hp,h4,rfl⟩
  rw [← hp]
  exact tget_some h.dist hx
theorem Tab.fresh {L:List EV} {es:Array MapEntry} {clock:Nat} (h:Tab L es clock) {p:PV} (hn:tget L p=none):∀e,e∈es.toList→e.key≠.agg (cP p).toArray:=by
 intro e he hk
 obtain ⟨x,hx,h3,_⟩:=h.mem he
 exact tget_none.1 hn x hx (cP_eq.1 (agg_inj.1 (h3.symm.trans hk)))
theorem Tab.keys {P:Program} {kt:TypeId} {L:List EV} {es:Array MapEntry} {clock:Nat} (h:Tab L es clock) (kp:∀p:PV,okN p.n→∃l,keyOf P kt (.agg (cP p).toArray)=some l):∀e,e∈es.toList→∃l,keyOf P kt e.key=some l:=by
 intro e he
 obtain ⟨x,hx,h3,_⟩:=h.mem he
 rw [h3]
 exact kp _ (h.ok x hx).1
theorem Tab.nil:Tab [] #[] 0:=⟨⟨by simp,by simp,by simp⟩,rfl,by simp,.nil⟩
theorem Tab.push {L:List EV} {es:Array MapEntry} {clock:Nat} (h:Tab L es clock) {x:EV} (hx:okE x) (hn:tget L x.p=none):Tab (L++[x]) (es.push { key:=.agg (cP x.p).toArray,val:=.agg (cE x).toArray,born:=clock }) (clock+1):=by
 refine ⟨MapKept.stamped_push h.st (h.fresh hn),by simp [h.is_],fun y hy=>?_,?_⟩
 ·rcases List.mem_append.1 hy with hy | hy
  ·exact h.ok y hy
  ·simp at hy;subst hy;exact hx
 ·rw [List.pairwise_append]
  refine ⟨h.dist,by simp,fun y hy z hz=>?_⟩
  simp at hz
  subst hz
  exact tget_none.1 hn y hy
section
variable {P:Program} {ops:Array Oper} {Q:Exit→Act→World→Prop} {n:Nat} {e:Env} {I I':World→Prop} {rest:List Oper}
variable {d t yt:Nat} {p:String} {af:Array Edge} {x y z:Operand} {v v1 v2:Value} {w0:World} {S:List Nat} {l l':List (Nat × Obj)}
theorem dec_of {r:Bool} {q:Prop} [Decidable q] (h:r=true↔q):r=decide q:=by
 rw [Bool.eq_iff_iff,h];simp
theorem J.eqI {ty:TypeId} {a b:IDV} (K:EqL P ty) (k:∀a:IDV,∃l,keyOf P ty (.agg (cI a).toArray)=some l) (hx:ev e x=some (.agg (cI a).toArray)) (hy:ev e y=some (.agg (cI b).toArray)) (hd:Nat.blt d n=true)
  (h:J P ops Q n rest ((d,.bool (decide (a=b)))::e) I):J P ops Q n (⟨some d,.binOp .eql ty x y yt,t,p,af,none⟩::rest) e I:=by
 obtain ⟨_,k1⟩:=k a
 obtain ⟨_,k2⟩:=k b
 refine J.eqA K hx hy k1 k2 hd fun r hr=>?_
 rw [arr_inj,cI_eq] at hr
 rw [dec_of hr];exact h
theorem J.neI {ty:TypeId} {a b:IDV} (K:EqL P ty) (k:∀a:IDV,∃l,keyOf P ty (.agg (cI a).toArray)=some l) (hx:ev e x=some (.agg (cI a).toArray)) (hy:ev e y=some (.agg (cI b).toArray)) (hd:Nat.blt d n=true)
  (h:J P ops Q n rest ((d,.bool (!decide (a=b)))::e) I):J P ops Q n (⟨some d,.binOp .neq ty x y yt,t,p,af,none⟩::rest) e I:=by
 obtain ⟨_,k1⟩:=k a
 obtain ⟨_,k2⟩:=k b
 refine J.neA K hx hy k1 k2 hd fun r hr=>?_
 rw [arr_inj,cI_eq] at hr
 rw [dec_of hr];exact h
def zI:IDV:=fun _=>0
def zP:PV:=⟨zI,0⟩
def zE:EV:=⟨zP,zI,zI,0,0⟩
end
end Go.J
namespace Go.J
open Go.RowKit
set_option linter.unusedVariables false
set_option linter.unusedSimpArgs false
def eX (ds:List (Option Nat)) (c:Nat→Value):List Nat→Env→Env
 | [],e=>e
 | j::js,e=>match ds.getD j none with
  | some d=>eX ds c js ((d,c j)::e)
  | none=>eX ds c js e
def QN (R:Value→World→Prop):Exit→Act→World→Prop:=fun x a w=>x=.normal∧a.defers=[]∧∃v,R v w
def QD (d:Option Nat) (R:Value→World→Prop):Exit→Act→World→Prop:=match d with
 | some d=>QB d R (fun _=>True)
 | none=>QN R
theorem wpOp_of_listN {P:Program} {ops:Array Oper} {Q:Exit→Act→World→Prop} {i:Nat} {o:Oper} {T:Array Value} {w:World} {R:Value→World→Prop} {K:Act→World→Prop}
  (ho:ops[i]? = some o) (hd:o.dst=none) (h:wpList P ops (QN R) [o] (act T) w)
  (hk:∀v w',R v w'→K (act T) w'):wpOp P ops Q i K (act T) w:=by
 have fin:∀a w',QN R .normal a w'→K (act T) w':=by
  rintro a w' ⟨_,_,v,hr⟩
  exact hk v w' hr
 unfold wpOp
 simp only [ho]
 simp only [wpList] at h
 split at h
 ·rename_i hw
  rw [if_pos hw]
  rcases h with h | ⟨_,⟨_,_,h,_⟩⟩
  ·left
   unfold Oper.wp at h ⊢
   generalize (execOp (act T).eval o).run P w=r at h
   cases r with
   | ok nx w'=>
    cases nx <;> simp only [Oper.upon,hd] at h ⊢
    case value v=>exact fin _ w' h
    case skip=>exact fin _ w' h
    case defer dd=>exact absurd h.2.1 (by simp [Act.put])
    case enter f args=>
     refine h.mono fun r w'' hr=>?_
     cases r with
     | returned v=>exact fin _ w'' hr
     | panicked c=>exact absurd hr.1 (by simp)
     | outgrown=>obtain ⟨_,_,h,_⟩:=hr;cases h
    case row row args=>exact Rows.mono h fun v w'' hr=>fin _ w'' hr
   | halt x w'=>cases x <;> simp only [Oper.upon] at h;exact absurd h.1 (by simp)
  ·cases h
 ·rename_i hw
  rw [if_neg hw]
  simp only [hd] at h ⊢
  exact fin _ w h
def nodupO:List (Option Nat)→Bool
 | []=>true
 | none::xs=>nodupO xs
 | some x::xs=>!(xs.any fun y=>match y with | some y=>Nat.beq x y | none=>false)&&nodupO xs
theorem nodupO_spec:∀ {l:List (Option Nat)},nodupO l=true→∀i j d,l.getD i none=some d→l.getD j none=some d→i=j:=by
 intro l
 induction l with
 | nil=>intro _ i j d hi;simp at hi
 | cons x xs ih=>
  intro h i j d hi hj
  have hx:∀k,x=some d→xs.getD k none≠some d:=by
   intro k hxd e
   subst hxd
   simp only [nodupO,Bool.and_eq_true,Bool.not_eq_true',List.any_eq_false] at h
   have hm:some d∈xs:=by
    rw [List.getD_eq_getElem?_getD] at e
    cases hk:xs[k]? with
    | none=>rw [hk] at e;cases e
    | some y=>rw [hk] at e;simp only [Option.getD_some] at e;subst e;exact List.mem_of_getElem? hk
   have:=h.1 _ hm
   simp at this
  have hr:nodupO xs=true:=by
   cases x with
   | none=>exact h
   | some x=>simp only [nodupO,Bool.and_eq_true] at h;exact h.2
  cases i with
  | zero=>
   cases j with
   | zero=>rfl
   | succ j=>simp only [List.getD_cons_zero,List.getD_cons_succ] at hi hj;exact absurd hj (hx j hi)
  | succ i=>
   cases j with
   | zero=>simp only [List.getD_cons_zero,List.getD_cons_succ] at hi hj;exact absurd hi (hx i hj)
   | succ j=>simp only [List.getD_cons_succ] at hi hj;rw [ih hr i j d hi hj]
def mset (m:Nat→Bool) (i:Nat):Nat→Bool:=fun j=>cond (Nat.beq j i) true (m j)
theorem Rep.eX {ds:List (Option Nat)} {c:Nat→Value} {n:Nat} {T:Array Value}:∀ {js:List Nat} {e:Env},Rep n T e→(∀j,j∈js→∀d,ds.getD j none=some d→T[d]? = some (c j))→Rep n T (J.eX ds c js e)
 | [],_,h,_=>h
 | j::js,e,h,hj=>by
  unfold J.eX
  split
  ·rename_i d hd
   refine Rep.eX (js:=js) (e:=(d,c j)::e) ⟨h.1,fun t u hu=>?_⟩ (fun k hk=>hj k (.tail _ hk))
   simp only [J.get] at hu
   cases hb:Nat.beq d t with
   | true=>
    rw [hb] at hu
    have:d=t:=by simpa using hb
    subst this
    simp only [Option.some.injEq] at hu
    subst hu
    exact hj j (.head _) _ hd
   | false=>rw [hb] at hu;exact h.2 t u hu
  ·exact Rep.eX (js:=js) (e:=e) h (fun k hk=>hj k (.tail _ hk))
theorem JC.anyX {α:Type} {P:Program} {Q:Exit→Act→World→Prop} {n id:Nat} {l:List Oper} {e:Env} {I:World→Prop} (N:Nat) (c:Nat→α→Value) (L:(Nat→Bool)→α→World→Prop) {ds:List (Option Nat)}
  (hm:P.follows .mixedOrders=true) (hds:(l.take N).map (·.dst)=ds) (hnd:nodupO ds=true) (hN:Nat.ble N l.length=true) (hB:headB l N=true)
  (hlt:(ds.all fun d=>match d with | some d=>Nat.blt d n | none=>true)=true) (hkeys:(ds.all fun d=>match d with | some d=>(get e d).isNone | none=>true)=true)
  (hinit:∀w,I w→∃x,L (fun j=>Nat.ble N j) x { w with drawn:=w.drawn+1 })
  (hstep:∀(i:Nat) (o:Oper) (m:Nat→Bool) (x:α),i<N→l[i]? = some o→m i=false→(preds o).all m=true→
   J P l.toArray (QD (ds.getD i none) (fun v w=>∃x',v=c i x'∧(∀j,j<N→m j=true→c j x'=c j x)∧L (mset m i) x' w)) n [o] (eX ds (fun j=>c j x) (preds o) e) (L m x))
  (htail:∀x,J P l.toArray Q n (l.drop N) (eX ds (fun j=>c j x) (List.range N) e) (L (fun _=>true) x)):JC P Q n (.region id l.toArray true) e I:=by
 intro T w ht hw
 refine wp_region_any hm ?_
 have hN':N≤l.length:=Nat.le_of_ble_eq_true hN
 have htk:(l.take N).length=N:=by simp;omega
 simp only [headB,Bool.and_eq_true,Bool.or_eq_true] at hB
 obtain ⟨⟨hback,hseq⟩,hsink⟩:=hB
 have hdst:∀i o,i<N→l[i]? = some o→o.dst=ds.getD i none:=by
  intro i o hi ho
  rw [← hds,List.getD_eq_getElem?_getD,List.getElem?_map,List.getElem?_take_of_lt hi,ho]
  rfl
 have hd1:∀i d,i<N→ds.getD i none=some d→d<n∧get e d=none:=by
  intro i d hi hd
  have hmem:some d∈ds:=by
   rw [List.getD_eq_getElem?_getD] at hd
   cases hk:ds[i]? with
   | none=>rw [hk] at hd;cases hd
   | some y=>rw [hk] at hd;simp only [Option.getD_some] at hd;subst hd;exact List.mem_of_getElem? hk
  have h1:=List.all_eq_true.1 hlt _ hmem
  have h2:=List.all_eq_true.1 hkeys _ hmem
  exact ⟨Nat.blt_eq.mp h1,by simpa using h2⟩
 have key:∀(m:Nat) (listed:Array Bool) (T:Array Value) (w:World),cnt listed N=m→HeadInv .any l.toArray N listed→Rep n T e→(∃x,L (fun j=>Nat.ble N j || listed.getD j true) x w∧∀i,i<N→listed.getD i true=true→∀d,ds.getD i none=some d→T[d]? = some (c i x))→
   wpAny P .any l.toArray Q (m+(l.length - N)) listed (act T) w:=by
  intro m
  induction m with
  | zero=>
   rintro listed T w hcnt inv ht ⟨x,hw,hfacts⟩
   have hall:=cnt_zero N hcnt
   have hlisted:listed=(List.replicate N true++List.replicate (l.length - N) false).toArray:=by
    have hs:=inv.size
    simp only [List.size_toArray] at hs
    apply Array.ext
    ·simp [hs];omega
    ·intro i hi1 hi2
     by_cases hiN:i<N
     ·have:=hall i hiN
      simp only [Array.getD_eq_getD_getElem?,Array.getElem?_eq_getElem hi1,Option.getD_some] at this
      rw [this]
      simp [List.getElem_append,hiN]
     ·have:=inv.tail i (by omega) (by simp;omega)
      simp only [Array.getD_eq_getD_getElem?,Array.getElem?_eq_getElem hi1,Option.getD_some] at this
      rw [this]
      simp [List.getElem_append,hiN]
   rw [Nat.zero_add]
   have hdl:(l.drop N).length=l.length - N:=by simp
   have hmask:(fun j=>Nat.ble N j || listed.getD j true)=fun _=>true:=by
    funext j
    by_cases hj:j<N
    ·rw [hall j hj];simp
    ·have:Nat.ble N j=true:=Nat.ble_eq_true_of_le (by omega)
     rw [this];rfl
   rw [hmask] at hw
   have hwl:wpList P l.toArray Q (l.drop N) (act T) w:=
    htail x T w (ht.eX (fun j hj=>hfacts j (List.mem_range.1 hj) (hall j (List.mem_range.1 hj)))) hw
   have:=wpAny_of_seq (P:=P) (md:=.any) (Q':=Q) (ops:=l.toArray) (l.drop N) N listed (act T) w (fun j=>by simp [List.getElem?_drop]) (by rw [hdl,hlisted];exact hseq) hwl
   rwa [hdl] at this
  | succ m ih=>
   rintro listed T w hcnt inv ht ⟨x,hw,hfacts⟩
   rw [show m+1+(l.length - N)=(m+(l.length - N))+1 by omega]
   have hsz:listed.size=l.length:=by simpa using inv.size
   obtain ⟨i0,hi0,hun0,hmin0⟩:∃i,i<N∧listed.getD i true=false∧∀j,j<i→listed.getD j true=true:=by
    rcases all_below listed N with h | h
    ·exact h
    ·exfalso
     have:cnt listed N=0:=by
      have:∀M,M≤N→cnt listed M=0:=by
       intro M
       induction M with
       | zero=>intro _;rfl
       | succ M ihM=>intro hM;simp only [cnt];rw [h M (by omega),ihM (by omega)];rfl
      exact this N (Nat.le_refl _)
     omega
   have hgd:∀j,j<l.length→listed.getD j true=true→listed.getD j false=true:=by
    intro j hj h
    have hj':j<listed.size:=by omega
    simp only [Array.getD_eq_getD_getElem?,Array.getElem?_eq_getElem hj',Option.getD_some] at h ⊢
    exact h
   have hready0:i0∈Region.ready .any l.toArray listed:=by
    refine mem_ready.2 ⟨hun0,l[i0]'(by omega),by simp,fun ed hed hbd=>?_⟩
    have hp:ed.on∈preds (l[i0]'(by omega)):=by
     simp only [preds,List.mem_map,List.mem_filter]
     exact ⟨ed,⟨by simpa using hed,hbd⟩,rfl⟩
    have:=backB_spec hback hi0 (List.getElem?_eq_getElem (by omega)) ed.on hp
    exact hgd _ (by omega) (hmin0 _ this)
   refine ⟨fun h0=>(by rw [h0] at hready0;cases hready0),fun i hi=>?_⟩
   have hiN:i<N:=by
    rcases Nat.lt_or_ge i N with h | h
    ·exact h
    ·exfalso
     rcases hsink with h1 | ⟨⟨h1,h2⟩,h3⟩
     ·have:N=l.length:=Nat.eq_of_beq_eq_true h1
      obtain ⟨_,o,ho,_⟩:=mem_ready.1 hi
      have:=(Array.getElem?_eq_some_iff.1 ho).1
      simp at this;omega
     ·exact tail_waits h2 h3 (by simpa using Nat.blt_eq.mp h1) inv _ i0 rfl hi0 hun0 i h hi
   obtain ⟨hun,o,ho,hall⟩:=mem_ready.1 hi
   have ho':l[i]? = some o:=by simpa using ho
   have hpre:∀j,j∈preds o→j<N∧listed.getD j true=true:=by
    intro j hj
    have hjlt:=backB_spec hback hiN ho' j hj
    simp only [preds,List.mem_map,List.mem_filter] at hj
    obtain ⟨ed,⟨hed,hbd⟩,rfl⟩:=hj
    have h1:=hall ed (by simpa using hed) hbd
    have hj':ed.on<listed.size:=by omega
    refine ⟨by omega,?_⟩
    simp only [Array.getD_eq_getD_getElem?,Array.getElem?_eq_getElem hj',Option.getD_some] at h1 ⊢
    exact h1
   have hle:Nat.ble N i=false:=by
    cases h:Nat.ble N i with
    | false=>rfl
    | true=>have:=Nat.le_of_ble_eq_true h;omega
   have hwl:=hstep i o (fun j=>Nat.ble N j || listed.getD j true) x hiN ho' (by show (Nat.ble N i || listed.getD i true)=false;rw [hle,hun];rfl)
    (List.all_eq_true.2 fun j hj=>by rw [(hpre j hj).2];simp) T w (ht.eX (fun j hj=>hfacts j (hpre j hj).1 (hpre j hj).2)) hw
   have hisz:i<listed.size:=by omega
   have hmask:mset (fun j=>Nat.ble N j || listed.getD j true) i=fun j=>Nat.ble N j || (listed.setIfInBounds i true).getD j true:=by
    funext j
    by_cases hji:j=i
    ·subst hji
     simp [mset,hisz]
    ·have hb:Nat.beq j i=false:=Bool.eq_false_iff.2 fun h=>hji (Nat.eq_of_beq_eq_true h)
     simp only [mset,hb,cond_false]
     rw [getD_set_ne true (Ne.symm hji)]
   have hdi:=hdst i o hiN ho'
   cases hdd:ds.getD i none with
   | some d=>
    rw [hdd] at hwl hdi
    refine wpOp_of_listB ho hdi hwl (fun v w' hv hφ _=>?_) (by rw [ht.1];exact (hd1 i d hiN hdd).1)
    obtain ⟨x',rfl,hsame,hL⟩:=hφ
    refine ih _ _ w' (by have:=cnt_set hisz hun N hiN;omega) (inv.set hi hiN) (ht.other (hd1 i d hiN hdd).2 _) ⟨x',by rw [← hmask];exact hL,fun j hj hlj d' hd'=>?_⟩
    by_cases hji:j=i
    ·subst hji
     rw [hdd] at hd'
     cases hd'
     exact hv
    ·rw [getD_set_ne true (Ne.symm hji)] at hlj
     have hu:=hfacts j hj hlj d' hd'
     rw [hsame j hj (by rw [hlj];simp)]
     rw [Array.getElem?_setIfInBounds,if_neg (fun he=>hji (nodupO_spec hnd j i d' hd' (by rw [hdd,he])))]
     exact hu
   | none=>
    rw [hdd] at hwl hdi
    refine wpOp_of_listN ho hdi hwl (fun v w' hφ=>?_)
    obtain ⟨x',rfl,hsame,hL⟩:=hφ
    refine ih _ _ w' (by have:=cnt_set hisz hun N hiN;omega) (inv.set hi hiN) ht ⟨x',by rw [← hmask];exact hL,fun j hj hlj d' hd'=>?_⟩
    by_cases hji:j=i
    ·subst hji
     rw [hdd] at hd'
     cases hd'
    ·rw [getD_set_ne true (Ne.symm hji)] at hlj
     have hu:=hfacts j hj hlj d' hd'
     rw [hsame j hj (by rw [hlj];simp)]
     exact hu
 have hcnt0:cnt (Array.replicate l.toArray.size false) N=N:=by
  have:∀M,M≤N→cnt (Array.replicate l.toArray.size false) M=M:=by
   intro M
   induction M with
   | zero=>intro _;rfl
   | succ M ihM=>
    intro hM
    simp only [cnt]
    rw [getD_in (by simp;omega) (getD_replicate_false _ _),ihM (by omega)]
    simp;omega
  exact this N (Nat.le_refl _)
 obtain ⟨x0,hx0⟩:=hinit w hw
 have:=key N (Array.replicate l.toArray.size false) T { w with drawn:=w.drawn+1 } hcnt0
  ⟨by simp,fun j oj _ hl=>(by rw [getD_replicate_false] at hl;cases hl),fun t _ ht=>getD_in (by simpa using ht) (getD_replicate_false _ _)⟩ ht
  ⟨x0,by
   have hmask:(fun j=>Nat.ble N j || (Array.replicate l.toArray.size false).getD j true)=fun j=>Nat.ble N j:=by
    funext j
    by_cases hj:j<N
    ·rw [getD_in (by simp;omega) (getD_replicate_false _ _)];simp
    ·have:Nat.ble N j=true:=Nat.ble_eq_true_of_le (by omega)
     rw [this];rfl
   rw [hmask];exact hx0,fun i hi hl=>by rw [getD_in (by simp;omega) (getD_replicate_false _ _)] at hl;cases hl⟩
 rw [show N+(l.length - N)=l.toArray.size by simp;omega] at this
 exact this
def StepsX {α:Type} (P:Program) (l:List Oper) (n N:Nat) (ds:List (Option Nat)) (c:Nat→α→Value) (L:(Nat→Bool)→α→World→Prop) (e:Env):Nat→List Oper→Prop
 | _,[]=>True
 | i,o::os=>(∀m x,m i=false→(preds o).all m=true→
   J P l.toArray (QD (ds.getD i none) (fun v w=>∃x',v=c i x'∧(∀j,j<N→m j=true→c j x'=c j x)∧L (mset m i) x' w)) n [o] (eX ds (fun j=>c j x) (preds o) e) (L m x))∧StepsX P l n N ds c L e (i+1) os
theorem StepsX.all {α:Type} {P:Program} {l:List Oper} {n N:Nat} {ds:List (Option Nat)} {c:Nat→α→Value} {L:(Nat→Bool)→α→World→Prop} {e:Env}:∀(k:List Oper) (i0:Nat),StepsX P l n N ds c L e i0 k→∀(i:Nat) (o:Oper),k[i]? = some o→
  ∀m x,m (i0+i)=false→(preds o).all m=true→
   J P l.toArray (QD (ds.getD (i0+i) none) (fun v w=>∃x',v=c (i0+i) x'∧(∀j,j<N→m j=true→c j x'=c j x)∧L (mset m (i0+i)) x' w)) n [o] (eX ds (fun j=>c j x) (preds o) e) (L m x):=by
 intro k
 induction k with
 | nil=>intro i0 _ i o ho;simp at ho
 | cons p ps ih=>
  intro i0 h i o ho
  cases i with
  | zero=>simp only [List.getElem?_cons_zero,Option.some.injEq] at ho;subst ho;exact h.1
  | succ i=>
   simp only [List.getElem?_cons_succ] at ho
   have:=ih (i0+1) h.2 i o ho
   rw [show i0+1+i=i0+(i+1) by omega] at this
   exact this
theorem JC.zd {α:Type} {P:Program} {Q:Exit→Act→World→Prop} {n id:Nat} {l:List Oper} {e:Env} {I:World→Prop} (N:Nat) (vals:α→List Value) (L:(Nat→Bool)→α→World→Prop) {ds:List (Option Nat)}
  (hm:P.follows .mixedOrders=true) (hds:(l.take N).map (·.dst)=ds) (hnd:nodupO ds=true) (hN:Nat.ble N l.length=true) (hB:headB l N=true)
  (hlt:(ds.all fun d=>match d with | some d=>Nat.blt d n | none=>true)=true) (hkeys:(ds.all fun d=>match d with | some d=>(get e d).isNone | none=>true)=true)
  (hinit:∀w,I w→∃x,L (fun j=>Nat.ble N j) x { w with drawn:=w.drawn+1 })
  (hstep:StepsX P l n N ds (fun j x=>(vals x).getD j undef) L e 0 (l.take N))
  (htail:∀x,J P l.toArray Q n (l.drop N) (eX ds (fun j=>(vals x).getD j undef) (List.range N) e) (L (fun _=>true) x)):JC P Q n (.region id l.toArray true) e I:=
 JC.anyX N (fun j x=>(vals x).getD j undef) L hm hds hnd hN hB hlt hkeys hinit (fun i o m x hi ho h1 h2=>by
  have:=StepsX.all (l.take N) 0 hstep i o (by rw [List.getElem?_take_of_lt hi];exact ho) m x (by rw [Nat.zero_add];exact h1) h2
  rw [Nat.zero_add] at this
  exact this) htail
theorem J.ql {P:Program} {ops:Array Oper} {n d:Nat} {R:Value→World→Prop} {e:Env} {I:World→Prop} {v:Value} (hv:get e d=some v) (h:∀w,I w→R v w):J P ops (QD (some d) R) n [] e I:=
 J.nil (JX.zR hv fun w hw=>⟨h w hw,trivial⟩)
theorem JX.finN {n:Nat} {R:Value→World→Prop} {e:Env} {I:World→Prop} (v:Value) (h:∀w,I w→R v w):JX (QN R) n .normal e I:=
 fun _ w ht hw=>⟨rfl,rfl,v,h w hw⟩
theorem St.drew {w0 w:World} {S:List Nat} {l:List (Nat × Obj)} (h:St w0 S l w):St w0 S l { w with drawn:=w.drawn+1 }:=h.step ((Bel.refl w).drew)
theorem yV {o:Oper} {m:Nat→Bool} (h:(preds o).all m=true) {j:Nat} (hj:(preds o).any (Nat.beq j)=true):m j=true:=by
 obtain ⟨k,hk,h2⟩:=List.any_eq_true.1 hj
 have:j=k:=Nat.eq_of_beq_eq_true h2
 subst this
 exact List.all_eq_true.1 h j hk
theorem J.makeFn {P:Program} {ops:Array Oper} {Q:Exit→Act→World→Prop} {n:Nat} {e:Env} {I:World→Prop} {rest:List Oper} {d t:Nat} {p:String} {af:Array Edge} {f:FuncId} {cs:List Operand} {vs:List Value} (hx:evs e cs=some vs) (hd:Nat.blt d n=true)
  (h:J P ops Q n rest ((d,.func (.func f) #[] vs.toArray)::e) I):J P ops Q n (⟨some d,.makeFunc (.func f) #[] cs.toArray,t,p,af,none⟩::rest) e I:=
 J.zf hd (fun T w ht hw=>⟨w,by
  have:=ht.evals hx
  simp [execOp,Instr.makeFunc,this],hw⟩) h
theorem J.callX {P:Program} {ops:Array Oper} {Q:Exit→Act→World→Prop} {n:Nat} {e:Env} {I:World→Prop} {rest:List Oper} {d t:Nat} {p:String} {af:Array Edge} {f:FuncId} {fn:Func} {ex:Array Value→Sem Value} {xs:List Operand} {ats:Array TypeId} {vs:List Value} {v:Value}
  (hf : P.funcs[f]? = some fn) (hn : (fn.name == "runtime.NumGoroutine") = false) (hb : fn.body.isNone = true) (h1 : (Extern.findNext fn).isNone = true) (h2 : Extern.find fn = some ex) (hx : evs e xs = some vs) (hd : Nat.blt d n = true)
  (hr:∀w,I w→(ex vs.toArray).run P w=.ok v w)
  (h:J P ops Q n rest ((d,v)::e) I):J P ops Q n (⟨some d,.call ⟨.value (.func f),xs.toArray,ats⟩,t,p,af,none⟩::rest) e I:=
 J.zf hd (fun T w ht hw=>⟨w,by
  have hxs:=ht.evals hx
  have h1':Extern.findNext fn=none:=by cases h:Extern.findNext fn with
   | none=>rfl
   | some _=>rw [h] at h1;cases h1
  have hn' : ¬ fn.name = "runtime.NumGoroutine" := fun e => by rw [e] at hn; simp at hn
  have hb':fn.body=none:=by simpa using hb
  simp [execOp,resolve,Act.eval,Deferred.ofValue,invoke,hxs,callFunc,hf,hn',hb',h1',h2,hr w hw],hw⟩) h
section
variable {P:Program} {ops:Array Oper} {Q:Exit→Act→World→Prop} {n:Nat} {e:Env} {I:World→Prop} {rest:List Oper} {d t yt:Nat} {p:String} {af:Array Edge} {x y:Operand} {w0:World} {S:List Nat} {l l':List (Nat × Obj)}
theorem zeroCells_length (z:Array Value) (n:Nat):(Builtin.zeroCells z n).toList.length=n*z.size:=by simp [Builtin.zeroCells]
theorem zeroCells_mem {z:Array Value} {n:Nat} {v:Value} (h:v∈(Builtin.zeroCells z n).toList) (hz:∀u,u∈z.toList→u.oneCell'=true) (h0:0<z.size):v.oneCell'=true:=by
 simp only [Builtin.zeroCells,Array.toList_map,List.mem_map] at h
 obtain ⟨i,_,rfl⟩:=h
 have hi:i%z.size<z.size:=Nat.mod_lt _ h0
 rw [getElem!_pos z _ hi]
 exact hz _ (by simp)
theorem J.clear {ty el k c b o sz:Nat} {ats:Array TypeId} {zv:Value} {cs:List Value} {tb:TypeId} (hats:ats[0]? = some ty) (he:elemT P ty=some el) (hz:zeroT P el=some zv) (hsz:zv.cells.size=sz) (h0:0<sz) (hone:∀u,u∈zv.cells.toList→u.oneCell'=true)
  (hx:ev e x=some (.slice (some ⟨b,o,none⟩) k c)) (hu:Up l b (cb cs tb) (cb (setMany cs o (Builtin.zeroCells zv.cells k).toList) tb) l') (hl:k=0∨o+k*sz≤cs.length)
  (h:J P ops Q n rest e (St w0 S l')):J P ops Q n (⟨none,.call ⟨.builtin .clear,#[x],ats⟩,t,p,af,none⟩::rest) e (St w0 S l):=by
 refine J.valueN (fun T w ht hw=>?_) h
 have hb:=hw.own _ hu.mem
 by_cases hk:k=0
 ·subst hk
  have e0:(Builtin.zeroCells zv.cells 0).toList=[]:=List.eq_nil_of_length_eq_zero (by rw [zeroCells_length];simp)
  rw [e0] at hu
  refine ⟨.tuple #[],w,by simp [execOp,resolve,invoke,builtin,Builtin.clear_,ht.eval hx,qM (yk he),hats],?_⟩
  exact hw.set hu rfl rfl rfl (Nat.le_refl _) rfl hb (fun _ _ _=>rfl)
 ·obtain ⟨w',hr,hw'⟩:=yI (P:=P) (Builtin.zeroCells zv.cells k).toList w cs o 0 hb (by rw [zeroCells_length,hsz];rcases hl with h | h <;> omega) (fun v hv=>zeroCells_mem hv hone (by omega))
  refine ⟨.tuple #[],w',?_,hw.wrote hu (by simpa using hw')⟩
  have hr':(storeCells ⟨b,o,none⟩ (Builtin.zeroCells zv.cells k).toList).run P w=.ok () w':=hr
  match k,hk with
  | k+1,_=>simp [execOp,resolve,invoke,builtin,Builtin.clear_,ht.eval hx,qM (yk he),hats,zz hz,hr']
end
end Go.J
namespace Go.J
open Go.RowKit
set_option linter.unusedVariables false
set_option linter.unusedSimpArgs false
def lexB:List UInt8→List UInt8→Int
 | [],[]=>0
 | [],_::_=>-1
 | _::_,[]=>1
 | a::az,b::bs=>if a=b then lexB az bs else if a<b then -1 else 1
theorem str_get (xs:List UInt8) (i:Nat):(str xs)[i]! = xs.getD i 0:=by
 by_cases h:i<xs.length
 ·rw [getElem!_pos (str xs) i (by rw [str_size];exact h)]
  simp [str,List.getD_eq_getElem?_getD,List.getElem?_eq_getElem h]
  rfl
 ·rw [getElem!_neg (str xs) i (by rw [str_size];exact h)]
  simp [List.getD_eq_getElem?_getD,List.getElem?_eq_none (by omega:xs.length≤i)]
  rfl
theorem find_range (p : Nat → Bool) : ∀ n, (List.range (n + 1)).find? p = if p 0 then some 0 else ((List.range n).find? fun i => p (i + 1)).map (· + 1) := by
 intro n
 rw [List.range_succ_eq_map,List.find?_cons]
 cases h:p 0 with
 | true=>rfl
 | false=>
  simp only [Bool.false_eq_true,if_false]
  rw [List.find?_map]
  rfl
theorem cmp_lex:∀(xs ys:List UInt8),xs.length=ys.length→Extern.BytealgCompare.cmp (str xs) (str ys)=lexB xs ys
 | [],[],_=>rfl
 | [],_::_,h=>by simp at h
 | _::_,[],h=>by simp at h
 | x::xs,y::ys,h=>by
  have ih:=cmp_lex xs ys (by simpa using h)
  unfold Extern.BytealgCompare.cmp at ih ⊢
  simp only [str_size,List.length_cons] at ih ⊢
  rw [show min (xs.length+1) (ys.length+1)=min xs.length ys.length+1 by omega,find_range]
  simp only [str_get,List.getD_cons_zero,List.getD_cons_succ] at ih ⊢
  by_cases hxy:x=y
  ·subst hxy
   simp only [bne_self_eq_false,Bool.false_eq_true,if_false]
   rw [lexB,if_pos rfl,← ih]
   cases hf:(List.range (min xs.length ys.length)).find? (fun i=>xs.getD i 0 != ys.getD i 0) with
   | none=>
    simp only [Option.map_none]
    have:xs.length=ys.length:=by simpa using h
    simp [this]
   | some i=>simp only [Option.map_some,List.getD_cons_succ]
  ·rw [if_pos (by simpa using hxy)]
   simp only [List.getD_cons_zero]
   rw [lexB,if_neg hxy]
def valB:List UInt8→Nat
 | []=>0
 | b::bs=>b.toNat*256 ^ bs.length+valB bs
theorem valB_lt:∀bs:List UInt8,valB bs<256 ^ bs.length
 | []=>by simp [valB]
 | b::bs=>by
  have h1:=valB_lt bs
  have h2:=b.toNat_lt
  simp only [valB,List.length_cons,Nat.pow_succ]
  have h3:b.toNat*256 ^ bs.length≤255*256 ^ bs.length:=Nat.mul_le_mul_right _ (by omega)
  omega
theorem lexB_val:∀(xs ys:List UInt8),xs.length=ys.length→lexB xs ys=if valB xs<valB ys then -1 else if valB ys<valB xs then 1 else 0
 | [],[],_=>by simp [lexB,valB]
 | [],_::_,h=>by simp at h
 | _::_,[],h=>by simp at h
 | x::xs,y::ys,h=>by
  have hl:xs.length=ys.length:=by simpa using h
  have ih:=lexB_val xs ys hl
  have h1:=valB_lt xs
  have h2:=valB_lt ys
  rw [hl] at h1
  have hA:valB (x::xs)=x.toNat*256 ^ ys.length+valB xs:=by simp only [valB];rw [hl]
  have hB:valB (y::ys)=y.toNat*256 ^ ys.length+valB ys:=rfl
  rw [hA,hB]
  simp only [lexB]
  by_cases hxy:x=y
  ·subst hxy
   rw [if_pos rfl,ih]
   simp only [Nat.add_lt_add_iff_left]
  ·rw [if_neg hxy]
   have hne:x.toNat≠y.toNat:=fun e=>hxy (UInt8.toNat_inj.1 e)
   rcases Nat.lt_or_ge x.toNat y.toNat with hlt | hge
   ·have h3:(x.toNat+1)*256 ^ ys.length≤y.toNat*256 ^ ys.length:=Nat.mul_le_mul_right _ hlt
    rw [Nat.add_mul,Nat.one_mul] at h3
    rw [if_pos (UInt8.lt_iff_toNat_lt.2 hlt),if_pos (by omega)]
   ·have h3:(y.toNat+1)*256 ^ ys.length≤x.toNat*256 ^ ys.length:=Nat.mul_le_mul_right _ (by omega)
    rw [Nat.add_mul,Nat.one_mul] at h3
    rw [if_neg (by rw [UInt8.lt_iff_toNat_lt];omega),if_neg (by omega),if_pos (by omega)]
theorem valB_inj:∀(xs ys:List UInt8),xs.length=ys.length→valB xs=valB ys→xs=ys
 | [],[],_,_=>rfl
 | [],_::_,h,_=>by simp at h
 | _::_,[],h,_=>by simp at h
 | x::xs,y::ys,h,hv=>by
  have hl:xs.length=ys.length:=by simpa using h
  have h1:=valB_lt xs
  have h2:=valB_lt ys
  simp only [valB] at hv
  rw [hl] at h1 hv
  have hxy:x.toNat=y.toNat:=by
   rcases Nat.lt_trichotomy x.toNat y.toNat with hlt | he | hlt
   ·have h3:(x.toNat+1)*256 ^ ys.length≤y.toNat*256 ^ ys.length:=Nat.mul_le_mul_right _ hlt
    rw [Nat.add_mul,Nat.one_mul] at h3
    omega
   ·exact he
   ·have h3:(y.toNat+1)*256 ^ ys.length≤x.toNat*256 ^ ys.length:=Nat.mul_le_mul_right _ hlt
    rw [Nat.add_mul,Nat.one_mul] at h3
    omega
  rw [hxy] at hv
  rw [UInt8.toNat_inj.1 hxy,valB_inj xs ys hl (by omega)]
abbrev bI (a:IDV):List UInt8:=[a 0,a 1,a 2,a 3,a 4,a 5,a 6,a 7,a 8,a 9,a 10,a 11,a 12,a 13,a 14,a 15]
def valI (a:IDV):Nat:=valB (bI a)
theorem bI_inj {a b:IDV} (h:bI a=bI b):a=b:=cI_eq.1 (by
 have:=congrArg (List.map u8) h
 exact this)
theorem valI_inj {a b:IDV} (h:valI a=valI b):a=b:=bI_inj (valB_inj _ _ rfl h)
def cmpI (a b:IDV):Int:=if valI a<valI b then -1 else if valI b<valI a then 1 else 0
theorem cmp_bI (a b:IDV):Extern.BytealgCompare.cmp (str (bI a)) (str (bI b))=cmpI a b:=by
 rw [cmp_lex (bI a) (bI b) rfl,lexB_val (bI a) (bI b) rfl]
 rfl
theorem run_loadBytesE {P:Program} {w:World} {b:Nat}:∀(l:List UInt8) (o:Nat) (acc:ByteArray),(∀j x,l[j]? = some x→w.cell? ⟨b,o+j,none⟩=some (u8 x))→
  (Extern.Bytes.loadBytes ⟨b,o,none⟩ l.length acc).run P w=.ok ⟨acc.data++l.toArray⟩ w
 | [],o,acc,_=>by simp [Extern.Bytes.loadBytes]
 | x::l,o,acc,h=>by
  have h0:w.cell? ⟨b,o,none⟩=some (u8 x):=h 0 x rfl
  have ih:=run_loadBytesE (P:=P) (w:=w) (b:=b) l (o+1) (acc.push x) (fun j y hy=>by
   have:=h (j+1) y (by simpa using hy)
   rw [show o+1+j=o+(j+1) by omega];exact this)
  have hx:((x.toNat:Int).toNat).toUInt8=x:=by simp
  simp only [List.length_cons,Extern.Bytes.loadBytes,Sem.run_bind,run_load,h0,Result.andThen_ok,zJ,hx]
  rw [ih]
  congr 1
  apply ByteArray.ext
  simp [ByteArray.push]
theorem run_bytesOf {P:Program} {w:World} {v:Value} {m:Nat} {bs:List UInt8} (h:Row w v m (bs.map u8)) (hl:bs.length=m):(Extern.Bytes.bytesOf v).run P w=.ok (str bs) w:=by
 obtain ⟨a,c,rfl,_,h⟩:=h
 cases a with
 | none=>
  have:bs=[]:=by
   rcases h with h | ⟨b,o,ha,_⟩
   ·exact List.map_eq_nil_iff.1 h
   ·cases ha
  subst this
  rfl
 | some a=>
  rcases h with h | ⟨b,o,ha,hc⟩
  ·have:=List.map_eq_nil_iff.1 h
   subst this
   simp only [List.length_nil] at hl
   subst hl
   rfl
  ·simp only [Option.some.injEq] at ha
   subst ha
   subst hl
   simp only [Extern.Bytes.bytesOf]
   rw [run_loadBytesE bs o .empty (fun j x hj=>by
    have hlt:=(List.getElem?_eq_some_iff.1 hj).1
    have:=hc j (by simpa using hlt)
    rw [this,List.getElem?_map,hj];rfl)]
   simp [str]
theorem run_compare {P:Program} {w:World} {v1 v2:Value} {xs ys:List UInt8} (h1:Row w v1 xs.length (xs.map u8)) (h2:Row w v2 ys.length (ys.map u8)) :
  (Extern.BytealgCompare.compare #[v1,v2]).run P w=.ok (.int .i64 (Extern.BytealgCompare.cmp (str xs) (str ys))) w:=by
 have e:Extern.BytealgCompare.compare #[v1,v2]=(do pure (goInt (Extern.BytealgCompare.cmp (← Extern.Bytes.bytesOf v1) (← Extern.Bytes.bytesOf v2)))):=rfl
 rw [e]
 simp only [Sem.run_bind,run_bytesOf h1 rfl,run_bytesOf h2 rfl,Result.andThen_ok,Sem.run_pure]
 rfl
theorem Bel.grown {w w':World} (h:Bel w w'):∃q os',w'=Sort.grow (w.drewN q) os':=by
 refine ⟨w'.drawn - w.drawn,w'.heap.extract w.heap.size w'.heap.size,?_⟩
 have hh:w'.heap=w.heap++w'.heap.extract w.heap.size w'.heap.size:=by
  apply Array.ext_getElem?
  intro k
  by_cases hk:k<w.heap.size
  ·rw [Array.getElem?_append_left hk]
   exact h.block k hk
  ·rw [Array.getElem?_append_right (by omega),Array.getElem?_extract]
   by_cases hk2:k<w'.heap.size
   ·rw [if_pos (by have:=h.size;omega),show w.heap.size+(k - w.heap.size)=k by omega]
   ·rw [if_neg (by omega),Array.getElem?_eq_none (by omega)]
 have hd:w.drawn+(w'.drawn - w.drawn)=w'.drawn:=by have:=h.drawn;omega
 cases w'
 simp only [Sort.grow,World.drewN] at hh hd ⊢
 have h1:=h.os;have h2:=h.tape;have h3:=h.output
 simp only at h1 h2 h3
 subst h1 h2 h3
 rw [← hh,hd]
end Go.J
namespace Go.Proofs.Ytoaenmlhehcjfaa
namespace Ty
open Go.J Go.RowKit
set_option linter.unusedVariables false
set_option linter.unusedSimpArgs false
theorem size_:Try.prog.types.size+1=176+2:=by kernel_rfl
theorem cID:Try.prog.cellsOf 23=16:=by kernel_rfl
theorem cU8:Try.prog.cellsOf 5=1:=by kernel_rfl
theorem litsI (a:IDV) (d:Nat):Try.prog.keyLits (d+2) 23 (cI a)=some (lI a).flatten:=lits_id u23 u5 cID cU8
theorem keyI (a:IDV):∃l,keyOf Try.prog 23 (.agg (cI a).toArray)=some l:=key_of size_ (by kernel_rfl) (by kernel_rfl) (by rw [cID];rfl) (litsI a _)
theorem QI:EqL Try.prog 23:=EqL.of (m:=4) (by kernel_rfl) (by omega) (by kernel_rfl) (by kernel_rfl) (by kernel_rfl)
theorem zID:zeroT Try.prog 23=some (.agg (cI zI).toArray):=by kernel_rfl
end Ty
open Go.J Go.RowKit
set_option maxRecDepth 4000
abbrev fI (xs:List IDV):List Value:=xs.flatMap cI
theorem yh:∀xs:List IDV,(fI xs).length=xs.length*16
 | []=>rfl
 | x::xs=>by
  have:=yh xs
  simp only [fI,List.flatMap_cons,List.length_append,List.length_cons] at this ⊢
  simp only [List.length_nil] at this ⊢
  omega
theorem fI_at:∀ {xs:List IDV} {i:Nat} {a:IDV},xs[i]? = some a→((fI xs).drop (i*16)).take 16=cI a
 | [],i,a,h=>by simp at h
 | x::xs,0,a,h=>by
  simp only [List.getElem?_cons_zero,Option.some.injEq] at h
  subst h
  rfl
 | x::xs,i+1,a,h=>by
  have ih:=fI_at (xs:=xs) (i:=i) (by simpa using h)
  rw [show (i+1)*16=16+i*16 by omega]
  show (((cI x++fI xs).drop (16+i*16)).take 16)=cI a
  rw [← List.drop_drop,show (cI x++fI xs).drop 16=fI xs from rfl]
  exact ih
theorem rowF_at {w:World} {b o k c q i:Nat} {xs:List IDV} {a:IDV} (h:Row w (.slice (some ⟨b,o,none⟩) k c) k (fI xs)) (hi:xs[i]? = some a) (hq:q=o+i*16):Cells w b q (cI a):=by
 have hl:i<xs.length:=(List.getElem?_eq_some_iff.1 hi).1
 have hlen:=yh xs
 obtain ⟨b',o',c',hv,_,hc⟩:=Row.some h (by omega)
 simp only [Value.slice.injEq,Option.some.injEq,Addr.mk.injEq] at hv
 obtain ⟨⟨rfl,rfl,_⟩,_,rfl⟩:=hv
 subst hq
 intro j hj
 have hj16:j<16:=hj
 rw [Nat.add_assoc,hc (i*16+j) (by omega)]
 have e:=fI_at hi
 have:(cI a)[j]? = (((fI xs).drop (i*16)).take 16)[j]?:=by rw [e]
 rw [this,List.getElem?_take_of_lt hj16,List.getElem?_drop]
theorem bcompare_spec (v1 v2:Value) (xs ys:List UInt8) (w:World) (hr1:Row w v1 xs.length (xs.map u8)) (hr2:Row w v2 ys.length (ys.map u8)) :
  Calls Try.prog 59 [v1,v2].toArray w fun r w'=>r=.returned (.int .i64 (Extern.BytealgCompare.cmp (str xs) (str ys)))∧Bel w w':=by
 refine qD (args:=[v1,v2]) (e:=[(0,v1),(1,v2)]) Try.func59 rfl rfl ⟨rfl,rfl,trivial⟩ (St.start w) ?_;refine JC.seq (fun K0 hK0=>?_);refine JC.region<|J.assign rfl rfl<|J.nil ?_;refine JX.qd (hK0 _ _ ?_);refine JC.seq (fun K1 hK1=>?_);refine JC.region<|J.qe rfl rfl<|J.qe rfl rfl<|J.callX (v:=.int .i64 (Extern.BytealgCompare.cmp (str xs) (str ys))) Try.func75 (by kernel_rfl) (by kernel_rfl) (by kernel_rfl) (ex:=Extern.BytealgCompare.compare) (by kernel_rfl) rfl rfl (fun w1 hw=>run_compare (hr1.below hw.below) (hr2.below hw.below)) ?_;refine J.assign rfl rfl<|J.nil ?_;refine JX.qd (hK1 _ _ ?_);refine JC.qA ?_;refine JX.qL rfl rfl (fun w hw=>?_)
 exact ⟨rfl,hw.below⟩
theorem compare_spec (a b:IDV) (w:World) :
  Calls Try.prog 43 [.agg (cI a).toArray,.agg (cI b).toArray].toArray w fun r w'=>r=.returned (.int .i64 (cmpI a b))∧Bel w w':=by
 refine qD (args:=[.agg (cI a).toArray,.agg (cI b).toArray]) (e:=[(0,.agg (cI a).toArray),(1,.agg (cI b).toArray)]) Try.func43 rfl rfl ⟨rfl,rfl,trivial⟩ (St.start w) ?_;refine JC.seq (fun K0 hK0=>?_);refine JC.region ?_;refine J.box rfl rfl rfl (fun b2=>?_);refine J.box rfl rfl rfl (fun b3=>?_);refine J.assign rfl rfl<|J.nil ?_;refine JX.qd (hK0 _ _ ?_);refine JC.seq (fun K1 hK1=>?_)
 apply JC.zc 3 [Eqv (.slice (some ⟨b2,0,none⟩) 16 16),Eqv (.slice (some ⟨b3,0,none⟩) 16 16),Eqv (.int .i64 (cmpI a b))] Ty.mixed rfl rfl rfl (by kernel_rfl) rfl rfl (fun w w' hw hb=>hw.step hb) ⟨fun _ _ _ h _=>h,fun _ _ _ h _=>h,fun _ _ _ h _=>h,trivial⟩ ?hstep ?htail
 case hstep=>
  refine ⟨fun wi=>?_,fun wi=>?_,fun wi=>?_,trivial⟩
  ·refine Fin.nil<|J.zK Ty.ar23 (by rw [Ty.s5];rfl) rfl rfl ?_
   exact J.qm rfl
  ·refine Fin.nil<|J.zK Ty.ar23 (by rw [Ty.s5];rfl) rfl rfl ?_
   exact J.qm rfl
  ·refine Fin.qc rfl (Fin.qc rfl (Fin.nil ?_))
   refine J.zD (v:=.int .i64 (cmpI a b)) Ty.bd59 rfl rfl (fun w1 hw=>by
    have h:=bcompare_spec (.slice (some ⟨b2,0,none⟩) 16 16) (.slice (some ⟨b3,0,none⟩) 16 16) (bI a) (bI b) w1 (Row.own hw (.tail _ (.head _)) rfl (Nat.le_refl _)) (Row.own hw (.head _) rfl (Nat.le_refl _))
    rw [cmp_bI] at h
    exact h) ?_
   exact J.zQ rfl
 case htail=>
  refine Fin.qc rfl (Fin.qc rfl (Fin.qc rfl (Fin.nil ?_)))
  refine J.assign rfl rfl<|J.nil ?_;refine JX.qd (hK1 _ _ ?_);refine JC.qA ?_;refine JX.qL rfl rfl (fun w hw=>?_)
  exact ⟨rfl,hw.below⟩
set_option linter.unusedVariables false
set_option linter.unusedSimpArgs false
theorem valB_append:∀(xs ys:List UInt8),valB (xs++ys)=valB xs*256 ^ ys.length+valB ys
 | [],ys=>by simp [valB]
 | x::xs,ys=>by
  simp only [List.cons_append,valB,valB_append xs ys,List.length_append,Nat.pow_add]
  rw [Nat.add_mul,Nat.mul_assoc,Nat.add_assoc]
theorem valB_snoc (xs:List UInt8) (b:UInt8):valB (xs++[b])=valB xs*256+b.toNat:=by
 rw [valB_append];simp [valB]
def hiI (a:IDV):Nat:=valB ((bI a).take 8)
def loI (a:IDV):Nat:=valB ((bI a).drop 8)
theorem valI_hl (a:IDV):valI a=hiI a*2 ^ 64+loI a:=by
 have:bI a=(bI a).take 8++(bI a).drop 8:=(List.take_append_drop 8 _).symm
 unfold valI
 rw [this,valB_append,show ((bI a).drop 8).length=8 from rfl,show (256:Nat) ^ 8=2 ^ 64 by decide]
 rfl
theorem loI_lt (a:IDV):loI a<18446744073709551616:=by
 have:=valB_lt ((bI a).drop 8)
 simpa [loI] using this
theorem valB_take_lt (l:List UInt8) (k:Nat):valB (l.take k)<256 ^ k:=by
 have h:=valB_lt (l.take k)
 refine Nat.lt_of_lt_of_le h (Nat.pow_le_pow_right (by omega) ?_)
 rw [List.length_take];omega
theorem valB_take_succ {l:List UInt8} {k:Nat} (h:k<l.length):valB (l.take (k+1))=valB (l.take k)*256+(l[k]).toNat:=by
 rw [take_add_one h,valB_snoc]
theorem muladd_u64 (n x:Nat):Value.int .u64 (IntKind.u64.wrap (IntKind.u64.wrap ((n:Int)*256)+IntKind.u64.wrap (x:Int)))=.int .u64 (((n*256+x)%18446744073709551616:Nat):Int):=by
 congr 1
 rw [ye,ye,ye];omega
theorem take_bound {l:List UInt8} {k:Nat} (hk:k<8) (h:k<l.length):(valB (l.take k)*256+(l[k]).toNat)%18446744073709551616=valB (l.take (k+1)):=by
 rw [← valB_take_succ h]
 refine Nat.mod_eq_of_lt (Nat.lt_of_lt_of_le (valB_take_lt l (k+1)) ?_)
 exact Nat.le_trans (Nat.pow_le_pow_right (by omega) (show k+1≤8 by omega)) (by decide)
theorem less_hl (a b:IDV):(decide (hiI a<hiI b) || (decide (hiI a=hiI b)&&decide (loI a<loI b)))=decide (valI a<valI b):=by
 have h1:=loI_lt a
 have h2:=loI_lt b
 rw [← Bool.decide_and,← Bool.decide_or]
 refine decide_eq_decide.2 ?_
 rw [valI_hl a,valI_hl b]
 omega
theorem wide_spec (a:IDV) (w:World) :
  Calls Try.prog 50 [.agg (cI a).toArray].toArray w fun r w'=>r=.returned (.tuple #[.int .u64 ((hiI a:Nat):Int),.int .u64 ((loI a:Nat):Int)])∧Bel w w':=by
 refine qD (args:=[.agg (cI a).toArray]) (e:=[(0,.agg (cI a).toArray)]) Try.func50 rfl rfl ⟨rfl,trivial⟩ (St.start w) ?_;refine JC.seq (fun K0 hK0=>?_);refine JC.region ?_;refine J.box rfl rfl rfl (fun b1=>?_);refine J.assign rfl rfl<|J.assign rfl rfl<|J.nil ?_;refine JX.qd (hK0 _ _ ?_);refine JC.seq (fun K1 hK1=>?_);refine JC.region<|J.assign rfl rfl<|J.assign rfl rfl<|J.nil ?_;refine JX.qd (hK1 _ _ ?_);refine JC.seq (fun K2 hK2=>?_);refine JC.seq (fun K3 hK3=>?_);refine JC.region<|J.assign rfl rfl<|J.nil ?_;refine JX.qd (hK3 _ _ ?_);refine JC.block ?_
 refine JC.conseq (JC.cov (f:=(fun k=>[(1,.pointer (some ⟨b1,0,none⟩)),(4,.int .u64 ((valB ((bI a).take k):Nat):Int)),(5,.int .u64 ((valB (((bI a).drop 8).take k):Nat):Int)),(6,.int .i64 ((k:Nat):Int))]) 0) ⟨rfl,rfl,rfl,rfl,trivial⟩ (JC.loop (α:=Nat) (fun k=>[(1,.pointer (some ⟨b1,0,none⟩)),(4,.int .u64 ((valB ((bI a).take k):Nat):Int)),(5,.int .u64 ((valB (((bI a).drop 8).take k):Nat):Int)),(6,.int .i64 ((k:Nat):Int))]) (fun k w'=>(k≤8)∧St w [] [(b1,cb (cI a) 23)] w') (fun k=>8 - k) 0 (fun k=>?_))) (fun w hw=>⟨by omega,hw⟩)
 refine JC.pr (fun hk8=>?_);refine JC.seq (fun K4 hK4=>?_);refine JC.seq (fun K5 hK5=>?_);refine JC.region<|J.qe rfl rfl<|J.qj rfl rfl rfl rfl<|J.nil ?_;refine JX.qd (hK5 _ _ ?_);refine JC.qn rfl (fun h0=>?_) (fun h0=>?_)
 ·have hlt:k<8:=by simp at h0;omega
  refine JC.skip ?_;refine JX.qd (hK4 _ _ ?_);refine JC.seq (fun K6 hK6=>?_);refine JC.block ?_;refine JC.seq (fun K7 hK7=>?_);refine JC.region<|J.qe rfl rfl<|J.qj rfl rfl rfl rfl<|J.qe rfl rfl<|J.zL Ty.ar23 Ty.s5 rfl rfl (by omega) (by omega) rfl ?_;refine J.qw (v:=u8 ((bI a)[k]'(by show _<16;omega))) Ty.a5 rfl (fun w1 hw=>(qB (hw.own _ (.head _))).trans (by rw [show 0+((k:Int):Int).toNat*1=k by omega];show ((bI a).map u8)[k]? = _;rw [List.getElem?_map,List.getElem?_eq_getElem (show k<(bI a).length by show _<16;omega)];rfl)) rfl ?_;refine J.qF Ty.u5 Ty.u81 rfl rfl<|J.qj rfl rfl rfl rfl<|J.name 17 rfl ((muladd_u64 _ ((bI a)[k]'(by show _<16;omega)).toNat).trans (by rw [take_bound hlt])) ?_;refine J.assign rfl rfl<|J.nil ?_;refine JX.qd (hK7 _ _ ?_);refine JC.region<|J.qe rfl rfl<|J.qj rfl rfl rfl rfl<|J.qe rfl rfl ?_
  (first | refine J.qG rfl rfl (by omega) (by omega) rfl ?_ | refine J.qj rfl rfl rfl rfl ?_)
  refine J.zL Ty.ar23 Ty.s5 rfl rfl (by omega) (by omega) rfl ?_;refine J.qw (v:=u8 ((bI a)[8+k]'(by show _<16;omega))) Ty.a5 rfl (fun w1 hw=>(qB (hw.own _ (.head _))).trans (by rw [show 0+(8+(k:Int):Int).toNat*1=8+k by omega];show ((bI a).map u8)[8+k]? = _;rw [List.getElem?_map,List.getElem?_eq_getElem (show 8+k<(bI a).length by show _<16;omega)];rfl)) rfl ?_;refine J.qF Ty.u5 Ty.u81 rfl rfl<|J.qj rfl rfl rfl rfl ?_
  refine J.name 25 rfl ((muladd_u64 _ ((bI a)[8+k]'(by show _<16;omega)).toNat).trans (by
   have e:(bI a)[8+k]'(by show _<16;omega)=((bI a).drop 8)[k]'(by show k<8;omega):=by rw [List.getElem_drop]
   rw [e,take_bound hlt (by show k<8;omega)])) ?_
  refine J.assign rfl rfl<|J.nil<|JX.qJ ?_;refine JX.qd (hK6 _ _ ?_);refine JC.region<|J.qe rfl rfl ?_
  (first | refine J.qG rfl rfl (by omega) (by omega) rfl ?_ | refine J.qj rfl rfl rfl rfl ?_)
  refine J.assign rfl rfl<|J.nil<|JX.qd<|JX.qS (k+1) ?_ ?_ ?_
  ·omega
  ·exact ⟨rfl,rfl,rfl,rfl,trivial⟩
  ·exact fun w1 hw=>⟨hlt,hw⟩
 ·have hge:k=8:=by simp at h0;omega
  subst hge
  refine JC.qX<|JX.qE<|JX.qE<|JX.qT ?_;refine JX.qd (hK2 _ _ ?_);refine JC.seq (fun K8 hK8=>?_);refine JC.region<|J.qe rfl rfl<|J.qe rfl rfl<|J.assign rfl rfl<|J.assign rfl rfl<|J.nil ?_;refine JX.qd (hK8 _ _ ?_);refine JC.qA ?_;refine JX.zr rfl rfl rfl (fun w hw=>?_)
  exact ⟨rfl,hw.below⟩
theorem less_spec (a b:IDV) (w:World) :
  Calls Try.prog 21 [.agg (cI a).toArray,.agg (cI b).toArray].toArray w fun r w'=>r=.returned (.bool (decide (valI a<valI b)))∧Bel w w':=by
 refine qD (args:=[.agg (cI a).toArray,.agg (cI b).toArray]) (e:=[(0,.agg (cI a).toArray),(1,.agg (cI b).toArray)]) Try.func21 rfl rfl ⟨rfl,rfl,trivial⟩ (St.start w) ?_;refine JC.seq (fun K0 hK0=>?_);refine JC.region ?_;refine J.box rfl rfl rfl (fun b2=>?_);refine J.box rfl rfl rfl (fun b3=>?_);refine J.assign rfl rfl<|J.nil ?_;refine JX.qd (hK0 _ _ ?_);refine JC.seq (fun K1 hK1=>?_);refine JC.region<|J.zB (vs:=cI a) Ty.a23 Ty.s23 rfl zm (by exact rfl) rfl rfl ?_;refine J.qR (v:=.tuple #[.int .u64 ((hiI a:Nat):Int),.int .u64 ((loI a:Nat):Int)]) (fun w1 w2 hw hb=>hw.step hb) Ty.bd50 rfl rfl (fun w1 hw=>wide_spec a w1) ?_;refine J.qe rfl rfl<|J.extract rfl rfl rfl<|J.extract rfl rfl rfl<|J.assign rfl rfl<|J.assign rfl rfl<|J.nil ?_;refine JX.qd (hK1 _ _ ?_);refine JC.seq (fun K2 hK2=>?_);refine JC.region<|J.zB (vs:=cI b) Ty.a23 Ty.s23 rfl zm (by exact rfl) rfl rfl ?_;refine J.qR (v:=.tuple #[.int .u64 ((hiI b:Nat):Int),.int .u64 ((loI b:Nat):Int)]) (fun w1 w2 hw hb=>hw.step hb) Ty.bd50 rfl rfl (fun w1 hw=>wide_spec b w1) ?_;refine J.qe rfl rfl<|J.extract rfl rfl rfl<|J.extract rfl rfl rfl<|J.assign rfl rfl<|J.assign rfl rfl<|J.nil ?_;refine JX.qd (hK2 _ _ ?_);refine JC.seq (fun K3 hK3=>?_);refine JC.region<|J.qe rfl rfl<|J.qe rfl rfl<|J.qj rfl rfl rfl rfl<|J.name 21 rfl (show _=Value.bool (decide (hiI a<hiI b)) by first | (congr 1;refine decide_eq_decide.2 ?_;omega) | (simp;done) | (simp;omega)) ?_;refine J.qe rfl rfl ?_;refine J.z6 22 rfl (fun hs22=>?_) (fun hs22=>?_)
 ·try simp only [decide_eq_true_eq,decide_eq_false_iff_not,beq_iff_eq,bne_iff_ne,bne_eq_false_iff_eq,ne_eq,beq_eq_false_iff_ne,Bool.not_eq_true,Bool.not_eq_false,Int.not_lt,Int.not_le] at hs22
  first
  | exact absurd hs22 (by decide)
  |skip
   first | refine J.skip rfl rfl rfl rfl rfl ?_ | refine J.qh rfl rfl rfl rfl ?_ | (refine J.qf rfl rfl rfl ?_;refine J.qe rfl rfl ?_)
   first | refine J.skip rfl rfl rfl rfl rfl ?_ | refine J.qh rfl rfl rfl rfl ?_ | (refine J.qf rfl rfl rfl ?_;refine J.qe rfl rfl ?_)
   first | refine J.skip rfl rfl rfl rfl rfl ?_ | refine J.qh rfl rfl rfl rfl ?_ | (refine J.qf rfl rfl rfl ?_;refine J.qj rfl rfl rfl rfl ?_;refine J.name 25 rfl (show _=Value.bool (decide (hiI a=hiI b)) by first | (congr 1;refine decide_eq_decide.2 ?_;omega) | (simp;done) | (simp;omega)) ?_)
   first | refine J.skip rfl rfl rfl rfl rfl ?_ | refine J.qh rfl rfl rfl rfl ?_ | (refine J.qf rfl rfl rfl ?_;refine J.qe rfl rfl ?_)
   first | refine J.skip rfl rfl rfl rfl rfl ?_ | refine J.qh rfl rfl rfl rfl ?_ | (refine J.qf rfl rfl rfl ?_;refine J.qe rfl rfl ?_)
   first | refine J.skip rfl rfl rfl rfl rfl ?_ | refine J.qh rfl rfl rfl rfl ?_ | (refine J.qf rfl rfl rfl ?_;refine J.qe rfl rfl ?_)
   first | refine J.skip rfl rfl rfl rfl rfl ?_ | refine J.qh rfl rfl rfl rfl ?_ | (refine J.qf rfl rfl rfl ?_;refine J.qj rfl rfl rfl rfl ?_;refine J.name 29 rfl (show _=Value.bool (decide (loI a<loI b)) by first | (congr 1;refine decide_eq_decide.2 ?_;omega) | (simp;done) | (simp;omega)) ?_)
   first | refine J.skip rfl rfl rfl rfl rfl ?_ | refine J.qh rfl rfl rfl rfl ?_ | (refine J.qf rfl rfl rfl ?_;(first | refine J.qr rfl rfl rfl ?_ | refine J.qs rfl rfl rfl ?_))
   (first | refine J.qr rfl rfl rfl ?_ | refine J.qs rfl rfl rfl ?_)
   refine J.assign rfl rfl<|J.nil ?_;refine JX.qd (hK3 _ _ ?_);refine JC.qA ?_;refine JX.qL rfl rfl (fun w hw=>?_)
   refine ⟨?_,hw.below⟩
   rw [← less_hl]
   simp_all
 ·try simp only [decide_eq_true_eq,decide_eq_false_iff_not,beq_iff_eq,bne_iff_ne,bne_eq_false_iff_eq,ne_eq,beq_eq_false_iff_ne,Bool.not_eq_true,Bool.not_eq_false,Int.not_lt,Int.not_le] at hs22
  first
  | exact absurd hs22 (by decide)
  |skip
   first | refine J.skip rfl rfl rfl rfl rfl ?_ | refine J.qh rfl rfl rfl rfl ?_ | (refine J.qf rfl rfl rfl ?_;refine J.qe rfl rfl ?_)
   first | refine J.skip rfl rfl rfl rfl rfl ?_ | refine J.qh rfl rfl rfl rfl ?_ | (refine J.qf rfl rfl rfl ?_;refine J.qe rfl rfl ?_)
   first | refine J.skip rfl rfl rfl rfl rfl ?_ | refine J.qh rfl rfl rfl rfl ?_ | (refine J.qf rfl rfl rfl ?_;refine J.qj rfl rfl rfl rfl ?_;refine J.name 25 rfl (show _=Value.bool (decide (hiI a=hiI b)) by first | (congr 1;refine decide_eq_decide.2 ?_;omega) | (simp;done) | (simp;omega)) ?_)
   first | refine J.skip rfl rfl rfl rfl rfl ?_ | refine J.qh rfl rfl rfl rfl ?_ | (refine J.qf rfl rfl rfl ?_;refine J.qe rfl rfl ?_)
   refine J.z6 26 rfl (fun hs26=>?_) (fun hs26=>?_)
   ·try simp only [decide_eq_true_eq,decide_eq_false_iff_not,beq_iff_eq,bne_iff_ne,bne_eq_false_iff_eq,ne_eq,beq_eq_false_iff_ne,Bool.not_eq_true,Bool.not_eq_false,Int.not_lt,Int.not_le] at hs26
    first
    | exact absurd hs26 (by decide)
    |skip
     first | refine J.skip rfl rfl rfl rfl rfl ?_ | refine J.qh rfl rfl rfl rfl ?_ | (refine J.qf rfl rfl rfl ?_;refine J.qe rfl rfl ?_)
     first | refine J.skip rfl rfl rfl rfl rfl ?_ | refine J.qh rfl rfl rfl rfl ?_ | (refine J.qf rfl rfl rfl ?_;refine J.qe rfl rfl ?_)
     first | refine J.skip rfl rfl rfl rfl rfl ?_ | refine J.qh rfl rfl rfl rfl ?_ | (refine J.qf rfl rfl rfl ?_;refine J.qj rfl rfl rfl rfl ?_;refine J.name 29 rfl (show _=Value.bool (decide (loI a<loI b)) by first | (congr 1;refine decide_eq_decide.2 ?_;omega) | (simp;done) | (simp;omega)) ?_)
     first | refine J.skip rfl rfl rfl rfl rfl ?_ | refine J.qh rfl rfl rfl rfl ?_ | (refine J.qf rfl rfl rfl ?_;(first | refine J.qr rfl rfl rfl ?_ | refine J.qs rfl rfl rfl ?_))
     (first | refine J.qr rfl rfl rfl ?_ | refine J.qs rfl rfl rfl ?_)
     refine J.assign rfl rfl<|J.nil ?_;refine JX.qd (hK3 _ _ ?_);refine JC.qA ?_;refine JX.qL rfl rfl (fun w hw=>?_)
     refine ⟨?_,hw.below⟩
     rw [← less_hl]
     simp_all
   ·try simp only [decide_eq_true_eq,decide_eq_false_iff_not,beq_iff_eq,bne_iff_ne,bne_eq_false_iff_eq,ne_eq,beq_eq_false_iff_ne,Bool.not_eq_true,Bool.not_eq_false,Int.not_lt,Int.not_le] at hs26
    first
    | exact absurd hs26 (by decide)
    |skip
     first | refine J.skip rfl rfl rfl rfl rfl ?_ | refine J.qh rfl rfl rfl rfl ?_ | (refine J.qf rfl rfl rfl ?_;refine J.qe rfl rfl ?_)
     first | refine J.skip rfl rfl rfl rfl rfl ?_ | refine J.qh rfl rfl rfl rfl ?_ | (refine J.qf rfl rfl rfl ?_;refine J.qe rfl rfl ?_)
     first | refine J.skip rfl rfl rfl rfl rfl ?_ | refine J.qh rfl rfl rfl rfl ?_ | (refine J.qf rfl rfl rfl ?_;refine J.qj rfl rfl rfl rfl ?_;refine J.name 29 rfl (show _=Value.bool (decide (loI a<loI b)) by first | (congr 1;refine decide_eq_decide.2 ?_;omega) | (simp;done) | (simp;omega)) ?_)
     first | refine J.skip rfl rfl rfl rfl rfl ?_ | refine J.qh rfl rfl rfl rfl ?_ | (refine J.qf rfl rfl rfl ?_;(first | refine J.qr rfl rfl rfl ?_ | refine J.qs rfl rfl rfl ?_))
     (first | refine J.qr rfl rfl rfl ?_ | refine J.qs rfl rfl rfl ?_)
     refine J.assign rfl rfl<|J.nil ?_;refine JX.qd (hK3 _ _ ?_);refine JC.qA ?_;refine JX.qL rfl rfl (fun w hw=>?_)
     refine ⟨?_,hw.below⟩
     rw [← less_hl]
     simp_all
set_option maxRecDepth 8000
def widF:Nat→Nat→Nat
 | 0,_=>0
 | f+1,n=>if n=0 then 0 else widF f (n / 256)+1
def wid (n:Nat):Nat:=widF 8 n
theorem widF_le:∀f n,widF f n≤f
 | 0,_=>Nat.le_refl _
 | f+1,n=>by
  unfold widF
  have:=widF_le f (n / 256)
  split <;> omega
theorem yR (n:Nat):wid n≤8:=widF_le 8 n
theorem widF_lt:∀(f n k:Nat),k<f→(k<widF f n↔0<n / 256 ^ k)
 | 0,_,k,h=>by omega
 | f+1,n,0,_=>by
  unfold widF
  rw [Nat.pow_zero,Nat.div_one]
  split <;> omega
 | f+1,n,k+1,h=>by
  unfold widF
  by_cases h0:n=0
  ·rw [if_pos h0,h0,Nat.zero_div];omega
  ·rw [if_neg h0,Nat.add_lt_add_iff_right,widF_lt f (n / 256) k (by omega),Nat.div_div_eq_div_mul,Nat.pow_succ,Nat.mul_comm]
theorem wid_lt {n k:Nat} (h:k<8):k<wid n↔0<n / 2 ^ (8*k):=by
 rw [Nat.pow_mul]
 exact widF_lt 8 n k h
theorem wid_pow:∀(f n:Nat),n<256 ^ f→n<256 ^ widF f n
 | 0,n,h=>h
 | f+1,n,h=>by
  unfold widF
  by_cases h0:n=0
  ·rw [if_pos h0,h0];decide
  ·rw [if_neg h0,Nat.pow_succ]
   have:=wid_pow f (n / 256) (by rw [Nat.pow_succ] at h;omega)
   omega
theorem wid_ub {n:Nat} (h:n<18446744073709551616):n<256 ^ wid n:=wid_pow 8 n h
def numB (n:Nat):List UInt8:=UInt8.ofNat (wid n)::(List.range (wid n)).map (fun i=>UInt8.ofNat (n / 2 ^ (8*(wid n - 1 - i))))
def textB (bs:List UInt8):List UInt8:=numB bs.length++bs
theorem yO (n:Nat):(numB n).length=1+wid n:=by simp [numB];omega
theorem zM (n:Nat):(numB n).length≤9:=by
 have:=yR n
 rw [yO];omega
theorem numB_0 (n:Nat):(numB n).take 1=[UInt8.ofNat (wid n)]:=rfl
theorem numB_snoc {n i:Nat} (h:i<wid n):(numB n).take (1+(i+1))=(numB n).take (1+i)++[UInt8.ofNat (n / 2 ^ (8*(wid n - 1 - i)))]:=by
 rw [show 1+(i+1)=(1+i)+1 by omega,take_add_one (by rw [yO];omega)]
 congr 2
 simp only [numB,Nat.add_comm 1 i,List.getElem_cons_succ,List.getElem_map,List.getElem_range]
theorem nums_le (ns:List Nat):(ns.flatMap numB).length≤9*ns.length:=by
 induction ns with
 | nil=>exact Nat.le_refl _
 | cons n ns ih=>
  rw [List.flatMap_cons,List.length_append,List.length_cons]
  have:=zM n
  omega
theorem nums_snoc {ns:List Nat} {k n:Nat} (h:ns[k]? = some n):(ns.take (k+1)).flatMap numB=(ns.take k).flatMap numB++numB n:=by
 rw [List.take_add_one,h,List.flatMap_append]
 simp
theorem shr_nat (n j:Nat) {q:Int} (hq:q=((8*j:Nat):Int)) (hj:j≤7):Int.fdiv ((n:Nat):Int) (2 ^ (min q.toNat IntKind.u64.bits))=((n / 2 ^ (8*j):Nat):Int):=by
 have e1:min q.toNat IntKind.u64.bits=8*j:=by
  have:IntKind.u64.bits=64:=rfl
  omega
 have e2:((2:Int) ^ (8*j))=((2 ^ (8*j):Nat):Int):=by simp
 rw [e1,e2,Int.fdiv_eq_ediv_of_nonneg _ (Int.natCast_nonneg _)]
 rfl
theorem conv_u8 (n:Nat):Value.int .u8 (IntKind.u8.wrap ((n:Nat):Int))=u8 (UInt8.ofNat n):=by
 rw [yM]
 show Value.int .u8 _=Value.int .u8 _
 congr 1 <;> simp
theorem byte_num (n i:Nat) (h:i<wid n) {q:Int} (hq:q=8*((wid n:Int) - 1 - (i:Int))):Value.int .u8 (IntKind.u8.wrap (Int.fdiv ((n:Nat):Int) (2 ^ (min q.toNat IntKind.u64.bits))))=u8 (UInt8.ofNat (n / 2 ^ (8*(wid n - 1 - i)))):=by
 have:=yR n
 rw [shr_nat n (wid n - 1 - i) (by omega) (by omega),conv_u8]
structure ByS where
 i:Nat
 v:Value
 lp:List (Nat × Obj)
theorem putNum_spec (v:Value) (ns:List Nat) (w:World) (hr:Row w v ns.length (ns.map fun n=>.int .u64 ((n:Nat):Int))) (hn:ns.length≤1000) :
  Calls Try.prog 39 [v].toArray w fun r w'=>∃x:Value × List (Nat × Obj),r=.returned x.1∧Vec 5 1 x.1 (ns.flatMap numB).length ((ns.flatMap numB).map u8) x.2∧St w [] x.2 w':=by
 obtain ⟨a,c,rfl,hc,hra⟩:=hr
 refine qD (args:=[.slice a ns.length c]) (e:=[(0,.slice a ns.length c)]) Try.func39 rfl rfl ⟨rfl,trivial⟩ (St.start w) ?_;refine JC.seq (fun K0 hK0=>?_);refine JC.region<|J.assign rfl rfl<|J.nil ?_;refine JX.qd (hK0 _ _ ?_);refine JC.seq (fun K1 hK1=>?_);refine JC.region<|J.assign rfl rfl<|J.nil ?_;refine JX.qd (hK1 _ _ ?_);refine JC.seq (fun K2 hK2=>?_);refine JC.seq (fun K3 hK3=>?_);refine JC.region<|J.qe rfl rfl<|J.qK rfl Ty.u118 rfl rfl<|J.qe rfl rfl<|J.nil ?_;refine JX.qd (hK3 _ _ ?_);refine JC.block ?_
 refine JC.conseq (JC.cov (f:=(fun st=>[(8,.slice a ns.length c),(9,.int .i64 ((ns.length:Nat):Int)),(10,.int .i64 ((st.i:Nat):Int)),(3,st.v)]) (⟨0,.slice none 0 0,[]⟩:ByS)) ⟨rfl,rfl,rfl,rfl,trivial⟩ (JC.loop (α:=ByS) (fun st=>[(8,.slice a ns.length c),(9,.int .i64 ((ns.length:Nat):Int)),(10,.int .i64 ((st.i:Nat):Int)),(3,st.v)]) (fun st w'=>(st.i≤ns.length∧Vec 5 1 st.v (((ns.take st.i).flatMap numB)).length ((((ns.take st.i).flatMap numB)).map u8) st.lp)∧St w [] st.lp w') (fun st=>ns.length - st.i) (⟨0,.slice none 0 0,[]⟩:ByS) (fun st=>?_))) (fun w hw=>⟨⟨Nat.zero_le _,Vec.nil _ _⟩,hw⟩)
 obtain ⟨k,v3,l3⟩:=st
 refine JC.pr (fun hI=>?_)
 obtain ⟨hk,hv3⟩:=hI
 try simp only at hk hv3 ⊢
 refine JC.seq (fun K4 hK4=>?_);refine JC.region<|J.qj rfl rfl rfl rfl<|J.nil ?_;refine JX.qd (hK4 _ _ ?_);refine JC.seq (fun K5 hK5=>?_);refine JC.qn rfl (fun h0=>?_) (fun h0=>?_)
 ·have hlt:k<ns.length:=by simp at h0;omega
  obtain ⟨nk,hnk⟩:∃x,ns[k]? = some x:=⟨_,List.getElem?_eq_getElem hlt⟩
  obtain ⟨b,o,rfl,hcl⟩:∃b o,a=some ⟨b,o,none⟩∧Cells w b o (ns.map fun n=>.int .u64 ((n:Nat):Int)):=by
   rcases hra with h | h
   ·have h2:=congrArg List.length h;simp at h2;rw [h2] at hlt;simp at hlt
   ·exact h
  have hcell:w.cell? ⟨b,o+(k:Int).toNat*1,none⟩=some (.int .u64 ((nk:Nat):Int)):=by
   rw [Int.toNat_natCast,Nat.mul_one,hcl k (by rw [List.length_map];exact hlt),List.getElem?_map,hnk];rfl
  have hwl:=yR nk
  have hfl:((ns.take k).flatMap numB).length≤9000:=by
   have:=nums_le (ns.take k)
   rw [List.length_take] at this
   omega
  refine JC.skip ?_;refine JX.qd (hK5 _ _ ?_);refine JC.seq (fun K6 hK6=>?_);refine JC.block ?_;refine JC.seq (fun K7 hK7=>?_);refine JC.region<|J.qu Ty.el118 Ty.s81 rfl rfl (by omega) (by omega) rfl ?_;refine J.zw Ty.a81 rfl hcell (by simp) rfl ?_;refine J.assign rfl rfl<|J.nil ?_;refine JX.qd (hK7 _ _ ?_);refine JC.seq (fun K8 hK8=>?_);refine JC.region<|J.assign rfl rfl<|J.nil ?_;refine JX.qd (hK8 _ _ ?_);refine JC.zy (α:=Unit) (fun _=>[(8,.slice (some ⟨b,o,none⟩) ns.length c),(9,.int .i64 ((ns.length:Nat):Int)),(10,.int .i64 ((k:Nat):Int)),(3,v3),(5,.int .u64 ((nk:Nat):Int)),(6,.int .i64 ((wid nk:Nat):Int))]) (fun _ w'=>St w [] l3 w') (fun _=>?_) (fun K9 hK9=>?_)
  ·refine JC.seq (fun K10 hK10=>?_);refine JC.region<|J.qe rfl rfl<|J.qe rfl rfl<|J.qF Ty.u3 Ty.u5 rfl rfl<|J.name 27 rfl (conv_u8 (wid nk)) ?_;refine J.za Ty.el26 Ty.s5 Ty.z5 rfl rfl rfl rfl rfl rfl rfl (fun b28=>?_);refine J.perm (l3++((b28,cb ([UInt8.ofNat (wid nk)].map u8) 5)::[])) zp ?_;refine J.qZ (lp:=l3) (xs:=(((ns.take k).flatMap numB)).map u8) (ys:=([UInt8.ofNat (wid nk)]).map u8) (k:=(((ns.take k).flatMap numB)).length) (m:=([UInt8.ofNat (wid nk)]).length) Ty.el26 Ty.s5 Ty.b5 Ty.z5 rfl (.inl ⟨5,Ty.u26⟩) rfl rfl hv3 (fun w1 hw=>.inl (Row.own (cs:=([UInt8.ofNat (wid nk)]).map u8) (tb:=5) (fr:=(0,0)) hw (List.mem_append_right _ (.head _)) (List.take_of_length_le (Nat.le_refl _)) (Nat.le_refl _))) (by rw [List.length_map,Nat.mul_one]) (zk _) (by simp only [List.length_singleton];omega) (by simp only [List.length_singleton];omega) rfl (fun v29 l29 hv29=>?_)
   rw [← List.map_append,← List.length_append] at hv29
   rw [← numB_0] at hv29
   refine J.assign rfl rfl<|J.nil ?_;refine JX.qd (hK10 _ _ ?_);refine JC.seq (fun K11 hK11=>?_);refine JC.region<|J.qe rfl rfl<|J.qe rfl rfl<|J.nil ?_;refine JX.qd (hK11 _ _ ?_);refine JC.block ?_
   refine JC.conseq (JC.cov (f:=(fun st=>[(8,.slice (some ⟨b,o,none⟩) ns.length c),(9,.int .i64 ((ns.length:Nat):Int)),(10,.int .i64 ((k:Nat):Int)),(5,.int .u64 ((nk:Nat):Int)),(6,.int .i64 ((wid nk:Nat):Int)),(30,.int .i64 ((wid nk:Nat):Int)),(31,.int .i64 ((st.i:Nat):Int)),(3,st.v)]) (⟨0,v29,l29⟩:ByS)) ⟨rfl,rfl,rfl,rfl,rfl,rfl,rfl,rfl,trivial⟩ (JC.loop (α:=ByS) (fun st=>[(8,.slice (some ⟨b,o,none⟩) ns.length c),(9,.int .i64 ((ns.length:Nat):Int)),(10,.int .i64 ((k:Nat):Int)),(5,.int .u64 ((nk:Nat):Int)),(6,.int .i64 ((wid nk:Nat):Int)),(30,.int .i64 ((wid nk:Nat):Int)),(31,.int .i64 ((st.i:Nat):Int)),(3,st.v)]) (fun st w'=>(st.i≤wid nk∧Vec 5 1 st.v ((((ns.take k).flatMap numB)++(numB nk).take (1+st.i))).length (((((ns.take k).flatMap numB)++(numB nk).take (1+st.i))).map u8) st.lp)∧St w [] st.lp w') (fun st=>wid nk - st.i) (⟨0,v29,l29⟩:ByS) (fun st=>?_))) (fun w hw=>⟨⟨Nat.zero_le _,hv29⟩,hw.drop (List.sublist_append_left _ _)⟩)
   obtain ⟨i,v4,l4⟩:=st
   refine JC.pr (fun hI=>?_)
   obtain ⟨hi,hv4⟩:=hI
   try simp only at hi hv4 ⊢
   have hwl:=yR nk
   have hfl:((ns.take k).flatMap numB).length≤9000:=by
    have:=nums_le (ns.take k)
    rw [List.length_take] at this
    omega
   have hnl:=yO nk
   refine JC.seq (fun K12 hK12=>?_);refine JC.region<|J.qj rfl rfl rfl rfl<|J.nil ?_;refine JX.qd (hK12 _ _ ?_);refine JC.seq (fun K13 hK13=>?_);refine JC.qn rfl (fun h2=>?_) (fun h2=>?_)
   ·have hil:i<wid nk:=by simp at h2;omega
    refine JC.skip ?_;refine JX.qd (hK13 _ _ ?_);refine JC.seq (fun K14 hK14=>?_);refine JC.block ?_;refine JC.seq (fun K15 hK15=>?_);refine JC.region<|J.qe rfl rfl<|J.assign rfl rfl<|J.nil ?_;refine JX.qd (hK15 _ _ ?_);refine JC.region<|J.qe rfl rfl<|J.qe rfl rfl<|J.qe rfl rfl<|J.zn rfl rfl (by omega) (by omega) rfl ?_;refine J.qe rfl rfl<|J.zn rfl rfl (by omega) (by omega) rfl ?_;refine J.zO rfl rfl (by omega) (by omega) rfl ?_;refine J.shrN rfl rfl (by omega) rfl ?_;refine J.qF Ty.u81 Ty.u5 rfl rfl<|J.name 42 rfl (byte_num nk i hil rfl) ?_;refine J.za Ty.el26 Ty.s5 Ty.z5 rfl rfl rfl rfl rfl rfl rfl (fun b43=>?_);refine J.perm (l4++((b43,cb ([UInt8.ofNat (nk / 2 ^ (8*(wid nk - 1 - i)))].map u8) 5)::[])) zp ?_;refine J.qZ (lp:=l4) (xs:=((((ns.take k).flatMap numB)++(numB nk).take (1+i))).map u8) (ys:=([UInt8.ofNat (nk / 2 ^ (8*(wid nk - 1 - i)))]).map u8) (k:=((((ns.take k).flatMap numB)++(numB nk).take (1+i))).length) (m:=([UInt8.ofNat (nk / 2 ^ (8*(wid nk - 1 - i)))]).length) Ty.el26 Ty.s5 Ty.b5 Ty.z5 rfl (.inl ⟨5,Ty.u26⟩) rfl rfl hv4 (fun w1 hw=>.inl (Row.own (cs:=([UInt8.ofNat (nk / 2 ^ (8*(wid nk - 1 - i)))]).map u8) (tb:=5) (fr:=(0,0)) hw (List.mem_append_right _ (.head _)) (List.take_of_length_le (Nat.le_refl _)) (Nat.le_refl _))) (by rw [List.length_map,Nat.mul_one]) (zk _) (by simp only [List.length_singleton,List.length_append,List.length_take];omega) (by simp only [List.length_singleton,List.length_append,List.length_take];omega) rfl (fun v44 l44 hv44=>?_)
    rw [← List.map_append,← List.length_append] at hv44
    rw [List.append_assoc,← numB_snoc hil] at hv44
    refine J.assign rfl rfl<|J.nil<|JX.qJ ?_;refine JX.qd (hK14 _ _ ?_);refine JC.region ?_
    (first | refine J.qG rfl rfl (by omega) (by omega) rfl ?_ | refine J.qj rfl rfl rfl rfl ?_)
    refine J.qe rfl rfl<|J.nil<|JX.qd<|JX.qS (⟨i+1,v44,l44⟩:ByS) ?_ ?_ ?_
    ·simp only;omega
    ·exact ⟨rfl,rfl,rfl,rfl,rfl,rfl,rfl,rfl,trivial⟩
    ·exact fun w1 hw=>⟨⟨hil,hv44⟩,hw.drop (List.sublist_append_left _ _)⟩
   ·have hie:i=wid nk:=by simp at h2;omega
    rw [hie,List.take_of_length_le (l:=numB nk) (by rw [yO];exact Nat.le_refl _),← nums_snoc hnk] at hv4
    refine JC.qX<|JX.qE<|JX.qE<|JX.qT<|JX.qJ ?_;refine JX.qd (hK6 _ _ ?_);refine JC.region ?_
    (first | refine J.qG rfl rfl (by omega) (by omega) rfl ?_ | refine J.qj rfl rfl rfl rfl ?_)
    refine J.qe rfl rfl<|J.nil<|JX.qd<|JX.qS (⟨k+1,v4,l4⟩:ByS) ?_ ?_ ?_
    ·simp only;omega
    ·exact ⟨rfl,rfl,rfl,rfl,trivial⟩
    ·exact fun w1 hw=>⟨⟨hlt,hv4⟩,hw⟩
  ·refine JC.block ?_
   refine JC.conseq (JC.cov (f:=(fun j=>[(8,.slice (some ⟨b,o,none⟩) ns.length c),(9,.int .i64 ((ns.length:Nat):Int)),(10,.int .i64 ((k:Nat):Int)),(3,v3),(5,.int .u64 ((nk:Nat):Int)),(6,.int .i64 ((j:Nat):Int))]) 0) ⟨rfl,rfl,rfl,rfl,rfl,rfl,trivial⟩ (JC.loop (α:=Nat) (fun j=>[(8,.slice (some ⟨b,o,none⟩) ns.length c),(9,.int .i64 ((ns.length:Nat):Int)),(10,.int .i64 ((k:Nat):Int)),(3,v3),(5,.int .u64 ((nk:Nat):Int)),(6,.int .i64 ((j:Nat):Int))]) (fun j w'=>(j≤wid nk)∧St w [] l3 w') (fun j=>wid nk - j) 0 (fun j=>?_))) (fun w hw=>⟨Nat.zero_le _,hw⟩)
   refine JC.pr (fun hj=>?_);refine JC.seq (fun K16 hK16=>?_);refine JC.seq (fun K17 hK17=>?_)
   by_cases h8:j<8
   ·refine JC.region<|J.qe rfl rfl<|J.qj rfl rfl rfl rfl<|J.name 15 rfl (show _=Value.bool true by simp;omega) ?_;refine J.qe rfl rfl ?_
    first | refine J.skip rfl rfl rfl rfl rfl ?_ | refine J.qh rfl rfl rfl rfl ?_ | (refine J.qf rfl rfl rfl ?_;refine J.qe rfl rfl ?_)
    first | refine J.skip rfl rfl rfl rfl rfl ?_ | refine J.qh rfl rfl rfl rfl ?_ | (refine J.qf rfl rfl rfl ?_;refine J.qe rfl rfl ?_)
    refine J.qf rfl rfl rfl<|J.zO rfl rfl (by omega) (by omega) rfl ?_;refine J.name 19 rfl (show _=Value.int .i64 ((8*j:Nat):Int) from congrArg (Value.int .i64) (by omega)) ?_;refine J.qf rfl rfl rfl<|J.shrN rfl rfl (by omega) rfl ?_;refine J.name 20 rfl (show _=Value.int .u64 ((nk / 2 ^ (8*j):Nat):Int) from congrArg (Value.int .u64) (shr_nat nk j rfl (by omega))) ?_;refine J.qf rfl rfl rfl<|J.qj rfl rfl rfl rfl<|J.name 21 rfl (show _=Value.bool (decide (j<wid nk)) from congrArg Value.bool (decide_eq_decide.2 ((show ((nk / 2 ^ (8*j):Nat):Int)>0↔0<nk / 2 ^ (8*j) by omega).trans (wid_lt h8).symm))) ?_
    (first | refine J.qr rfl rfl rfl ?_ | refine J.qs rfl rfl rfl ?_)
    refine J.nil ?_;refine JX.qd (hK17 _ _ ?_);refine JC.qn rfl (fun h1=>?_) (fun h1=>?_)
    ·have hjl:j<wid nk:=by simpa using h1
     refine JC.skip ?_;refine JX.qd (hK16 _ _ ?_);refine JC.block<|JC.region<|J.qe rfl rfl ?_
     (first | refine J.qG rfl rfl (by omega) (by omega) rfl ?_ | refine J.qj rfl rfl rfl rfl ?_)
     refine J.assign rfl rfl<|J.nil<|JX.qJ<|JX.qd<|JX.qS (j+1) ?_ ?_ ?_
     ·omega
     ·exact ⟨rfl,rfl,rfl,rfl,rfl,rfl,trivial⟩
     ·exact fun w1 hw=>⟨hjl,hw⟩
    ·have hje:j=wid nk:=by simp at h1;omega
     refine JC.qX<|JX.qE<|JX.qE<|JX.qT<|JX.qd ?_
     exact JX.cut (hK9 ()) ⟨rfl,rfl,rfl,rfl,rfl,by rw [← hje];rfl,trivial⟩ (fun w1 hw=>hw)
   ·have hje:j=wid nk:=by have:=yR nk;omega
    refine JC.region<|J.qe rfl rfl<|J.qj rfl rfl rfl rfl<|J.name 15 rfl (show _=Value.bool false by simp;omega) ?_;refine J.qe rfl rfl ?_
    first | refine J.skip rfl rfl rfl rfl rfl ?_ | refine J.qh rfl rfl rfl rfl ?_ | (refine J.qf rfl rfl rfl ?_;refine J.qe rfl rfl ?_)
    first | refine J.skip rfl rfl rfl rfl rfl ?_ | refine J.qh rfl rfl rfl rfl ?_ | (refine J.qf rfl rfl rfl ?_;refine J.qe rfl rfl ?_)
    first | refine J.skip rfl rfl rfl rfl rfl ?_ | refine J.qh rfl rfl rfl rfl ?_ | (refine J.qf rfl rfl rfl ?_;(first | refine J.zO rfl rfl (by omega) (by omega) rfl ?_ | refine J.qj rfl rfl rfl rfl ?_))
    first | refine J.skip rfl rfl rfl rfl rfl ?_ | refine J.qh rfl rfl rfl rfl ?_ | (refine J.qf rfl rfl rfl ?_;refine J.qj rfl rfl rfl rfl ?_)
    first | refine J.skip rfl rfl rfl rfl rfl ?_ | refine J.qh rfl rfl rfl rfl ?_ | (refine J.qf rfl rfl rfl ?_;refine J.qj rfl rfl rfl rfl ?_)
    (first | refine J.qr rfl rfl rfl ?_ | refine J.qs rfl rfl rfl ?_)
    refine J.nil ?_;refine JX.qd (hK17 _ _ ?_)
    first | refine JC.qI rfl ?_ | refine JC.qn rfl (fun h=>by first | (exfalso;simp at h;omega) | (simp at h)) (fun _=>?_)
    refine JC.qX<|JX.qE<|JX.qE<|JX.qT<|JX.qd ?_
    exact JX.cut (hK9 ()) ⟨rfl,rfl,rfl,rfl,rfl,by rw [← hje];rfl,trivial⟩ (fun w1 hw=>hw)
 ·have hge:k=ns.length:=by simp at h0;omega
  rw [hge,List.take_of_length_le (Nat.le_refl _)] at hv3
  refine JC.qX<|JX.qE<|JX.qE<|JX.qT ?_;refine JX.qd (hK2 _ _ ?_);refine JC.seq (fun K18 hK18=>?_);refine JC.region<|J.qe rfl rfl<|J.assign rfl rfl<|J.nil ?_;refine JX.qd (hK18 _ _ ?_);refine JC.qA ?_;refine JX.qL rfl rfl (fun w hw=>?_)
  exact ⟨(v3,l3),rfl,hv3,hw⟩
theorem putText_spec (v sv:Value) (bs:List UInt8) (w:World) (hr:Row w v 1 [sv]) (hs:Row w sv bs.length (bs.map u8)) (hl:bs.length≤140737488351232) :
  Calls Try.prog 40 [v].toArray w fun r w'=>∃x:Value × List (Nat × Obj),r=.returned x.1∧Vec 5 1 x.1 (textB bs).length ((textB bs).map u8) x.2∧St w [] x.2 w':=by
 obtain ⟨b,o,c,rfl,hc,hcl⟩:=hr.some (by simp)
 obtain ⟨as_,cs_,rfl,hcs,_⟩:=id hs
 refine qD (args:=[.slice (some ⟨b,o,none⟩) 1 c]) (e:=[(0,.slice (some ⟨b,o,none⟩) 1 c)]) Try.func40 rfl rfl ⟨rfl,trivial⟩ (St.start w) ?_;refine JC.seq (fun K0 hK0=>?_);refine JC.region<|J.assign rfl rfl<|J.nil ?_;refine JX.qd (hK0 _ _ ?_);refine JC.seq (fun K1 hK1=>?_);refine JC.region<|J.assign rfl rfl<|J.nil ?_;refine JX.qd (hK1 _ _ ?_);refine JC.seq (fun K2 hK2=>?_);refine JC.seq (fun K3 hK3=>?_);refine JC.region<|J.qe rfl rfl<|J.qK rfl Ty.u57 rfl rfl<|J.qe rfl rfl<|J.nil ?_;refine JX.qd (hK3 _ _ ?_);refine JC.block ?_
 refine JC.conseq (JC.cov (f:=(fun st=>[(6,.slice (some ⟨b,o,none⟩) 1 c),(7,.int .i64 1),(8,.int .i64 ((st.i:Nat):Int)),(3,st.v)]) (⟨0,.slice none 0 0,[]⟩:ByS)) ⟨rfl,rfl,rfl,rfl,trivial⟩ (JC.loop (α:=ByS) (fun st=>[(6,.slice (some ⟨b,o,none⟩) 1 c),(7,.int .i64 1),(8,.int .i64 ((st.i:Nat):Int)),(3,st.v)]) (fun st w'=>(st.i≤1∧Vec 5 1 st.v (((List.replicate st.i bs).flatMap textB)).length ((((List.replicate st.i bs).flatMap textB)).map u8) st.lp)∧St w [] st.lp w') (fun st=>1 - st.i) (⟨0,.slice none 0 0,[]⟩:ByS) (fun st=>?_))) (fun w hw=>⟨⟨Nat.zero_le _,Vec.nil _ _⟩,hw⟩)
 obtain ⟨k,v3,l3⟩:=st
 refine JC.pr (fun hI=>?_)
 obtain ⟨hk,hv3⟩:=hI
 try simp only at hk hv3 ⊢
 refine JC.seq (fun K4 hK4=>?_);refine JC.region<|J.qj rfl rfl rfl rfl<|J.nil ?_;refine JX.qd (hK4 _ _ ?_);refine JC.seq (fun K5 hK5=>?_);refine JC.qn rfl (fun h0=>?_) (fun h0=>?_)
 ·have hk0:k=0:=by simp at h0;omega
  subst hk0
  refine JC.skip ?_;refine JX.qd (hK5 _ _ ?_);refine JC.seq (fun K6 hK6=>?_);refine JC.block ?_;refine JC.seq (fun K7 hK7=>?_);refine JC.region<|J.qu Ty.el57 Ty.s26 rfl rfl (by omega) (by omega) rfl ?_;refine J.zw (v:=.slice as_ bs.length cs_) Ty.a26 rfl (hcl 0 Nat.one_pos) (by simp) rfl ?_;refine J.assign rfl rfl<|J.nil ?_;refine JX.qd (hK7 _ _ ?_);refine JC.region<|J.qe rfl rfl<|J.qe rfl rfl<|J.qK rfl Ty.u26 rfl rfl<|J.qF Ty.u3 Ty.u81 rfl rfl<|J.name 15 rfl (show _=Value.int .u64 ((bs.length:Nat):Int) from congrArg (Value.int .u64) (ze (by omega) (by omega))) ?_;refine J.za Ty.el118 Ty.s81 Ty.z81 rfl rfl rfl rfl rfl rfl rfl (fun b16=>?_);refine J.perm ([]++((b16,cb [.int .u64 ((bs.length:Nat):Int)] 81)::l3)) (.refl _) ?_;refine J.qO (α:=Value × List (Nat × Obj)) (V:=(·.1)) (Pr:=fun x=>Vec 5 1 x.1 ([bs.length].flatMap numB).length (([bs.length].flatMap numB).map u8) x.2) (L:=(·.2)) (l1:=[]) Ty.bd39 rfl rfl (fun w1 hw=>putNum_spec _ [bs.length] w1 (Row.own (cs:=[.int .u64 ((bs.length:Nat):Int)]) (tb:=81) (fr:=(0,0)) hw (.head _) rfl (Nat.le_refl _)) (by simp)) (fun x hv17=>?_)
  obtain ⟨v17,l17⟩:=x
  simp only at hv17 ⊢
  rw [show [bs.length].flatMap numB=(numB bs.length) by simp] at hv17
  have hnl:=zM bs.length
  refine J.perm (l3++(l17++[(b16,cb [.int .u64 ((bs.length:Nat):Int)] 81)])) zp ?_;refine J.qZ (lp:=l3) (xs:=(((List.replicate 0 bs).flatMap textB)).map u8) (ys:=((numB bs.length)).map u8) (k:=(((List.replicate 0 bs).flatMap textB)).length) (m:=((numB bs.length)).length) Ty.el26 Ty.s5 Ty.b5 Ty.z5 rfl (.inl ⟨5,Ty.u26⟩) rfl rfl hv3 (fun w1 hw=>.inl (hv17.row (l:=l3++[(b16,cb [.int .u64 ((bs.length:Nat):Int)] 81)]) (hw.perm zp))) (by rw [List.length_map,Nat.mul_one]) (zk _) (by simp only [List.replicate_zero,List.flatMap_nil,List.length_nil];omega) (by simp only [List.replicate_zero,List.flatMap_nil,List.length_nil];omega) rfl (fun v18 l18 hv18=>?_)
  rw [← List.map_append,← List.length_append] at hv18
  refine J.qe rfl rfl<|J.perm (l18++(l17++[(b16,cb [.int .u64 ((bs.length:Nat):Int)] 81)])) zp ?_;refine J.qZ (lp:=l18) (xs:=(((List.replicate 0 bs).flatMap textB)++(numB bs.length)).map u8) (ys:=(bs).map u8) (k:=(((List.replicate 0 bs).flatMap textB)++(numB bs.length)).length) (m:=(bs).length) Ty.el26 Ty.s5 Ty.b5 Ty.z5 rfl (.inl ⟨5,Ty.u26⟩) rfl rfl hv18 (fun w1 hw=>.inl (hs.below (hw.drop (List.nil_sublist _)).below)) (by rw [List.length_map,Nat.mul_one]) (zk _) (by simp only [List.replicate_zero,List.flatMap_nil,List.nil_append];omega) (by simp only [List.replicate_zero,List.flatMap_nil,List.nil_append];omega) rfl (fun v20 l20 hv20=>?_)
  rw [← List.map_append,← List.length_append] at hv20
  rw [show ((List.replicate 0 bs).flatMap textB)++(numB bs.length)++bs=((List.replicate (0+1) bs).flatMap textB) by simp [textB]] at hv20
  refine J.assign rfl rfl<|J.nil<|JX.qJ ?_;refine JX.qd (hK6 _ _ ?_);refine JC.region ?_
  (first | refine J.qG rfl rfl (by omega) (by omega) rfl ?_ | refine J.qj rfl rfl rfl rfl ?_)
  refine J.qe rfl rfl<|J.nil<|JX.qd<|JX.qS (⟨0+1,v20,l20⟩:ByS) ?_ ?_ ?_
  ·simp only;omega
  ·exact ⟨rfl,rfl,rfl,rfl,trivial⟩
  ·exact fun w1 hw=>⟨⟨Nat.le_refl _,hv20⟩,hw.drop (List.sublist_append_left _ _)⟩
 ·have hk1:k=1:=by simp at h0;omega
  subst hk1
  rw [show ((List.replicate 1 bs).flatMap textB)=textB bs by simp] at hv3
  refine JC.qX<|JX.qE<|JX.qE<|JX.qT ?_;refine JX.qd (hK2 _ _ ?_);refine JC.seq (fun K8 hK8=>?_);refine JC.region<|J.qe rfl rfl<|J.assign rfl rfl<|J.nil ?_;refine JX.qd (hK8 _ _ ?_);refine JC.qA ?_;refine JX.qL rfl rfl (fun w hw=>?_)
  exact ⟨(v3,l3),rfl,hv3,hw⟩
theorem row_subB {w:World} {a:Option Addr} {c n:Nat} {bs:List UInt8} (h:Row w (.slice a n c) n (bs.map u8)) (hl:bs.length=n) {i j:Nat} (hij:i≤j) (hj:j≤n) :
  Row w (.slice (if c=i then a else a.map (·.add (i*1))) (j - i) (c - i)) (j - i) (((bs.drop i).take (j - i)).map u8):=by
 have h1:=h.slice (sz:=1) (i:=i) (j:=j) (by simp [hl]) hij hj
 have e:(((bs.map u8).drop (i*1)).take ((j - i)*1))=((bs.drop i).take (j - i)).map u8:=by rw [Nat.mul_one,Nat.mul_one,List.map_take,List.map_drop]
 rw [e] at h1
 exact h1
def getN (bs:List UInt8) (at_:Nat):Nat × Nat × Int:=
 if bs.length<at_ then (0,0,1) else if at_=bs.length then (0,0,3) else
 if 8<(bs.getD at_ 0).toNat then (0,0,2) else if bs.length - at_ - 1<(bs.getD at_ 0).toNat then (0,0,3) else
 if 0<(bs.getD at_ 0).toNat∧(bs.getD (at_+1) 0).toNat=0 then (0,0,2) else
 (num ((bs.drop (at_+1)).take (bs.getD at_ 0).toNat),at_+1+(bs.getD at_ 0).toNat,0)
def idB (l:List UInt8):IDV:=fun i=>l.getD i.val 0
theorem list16B {l:List UInt8} (h:l.length=16):l=[l.getD 0 0,l.getD 1 0,l.getD 2 0,l.getD 3 0,l.getD 4 0,l.getD 5 0,l.getD 6 0,l.getD 7 0,l.getD 8 0,l.getD 9 0,l.getD 10 0,l.getD 11 0,l.getD 12 0,l.getD 13 0,l.getD 14 0,l.getD 15 0]:=by
 match l,h with
 | [_,_,_,_,_,_,_,_,_,_,_,_,_,_,_,_],_=>rfl
theorem cI_idB {l:List UInt8} (h:l.length=16):cI (idB l)=l.map u8:=by
 conv=>rhs;rw [list16B h]
 rfl
theorem zN (a:IDV):∀y,y∈cI a→y.oneCell'=true:=fun y hy=>by
 simp only [List.mem_cons,List.not_mem_nil,or_false] at hy
 rcases hy with rfl | rfl | rfl | rfl | rfl | rfl | rfl | rfl | rfl | rfl | rfl | rfl | rfl | rfl | rfl | rfl <;> rfl
theorem idB_bI (a:IDV):idB (bI a)=a:=by
 apply cI_eq.1
 rw [cI_idB rfl]
 rfl
def getI (bs:List UInt8) (at_:Nat):IDV × Nat × Int:=
 if bs.length<at_ then (zI,0,1) else if bs.length - at_<16 then (zI,0,3) else (idB ((bs.drop at_).take 16),at_+16,0)
def getT (bs:List UInt8) (at_ most:Nat):List UInt8 × Nat × Int:=
 if (getN bs at_).2.2≠0 then ([],0,(getN bs at_).2.2) else
 if most<(getN bs at_).1 then ([],0,4) else
 if bs.length - (getN bs at_).2.1<(getN bs at_).1 then ([],0,3) else
 ((bs.drop (getN bs at_).2.1).take (getN bs at_).1,(getN bs at_).2.1+(getN bs at_).1,0)
theorem getN_cases (bs:List UInt8) (at_:Nat):getN bs at_=(0,0,1)∨getN bs at_=(0,0,2)∨getN bs at_=(0,0,3)∨(getN bs at_=(num ((bs.drop (at_+1)).take (bs.getD at_ 0).toNat),at_+1+(bs.getD at_ 0).toNat,0)∧at_<bs.length∧(bs.getD at_ 0).toNat≤8∧at_+1+(bs.getD at_ 0).toNat≤bs.length):=by
 unfold getN
 split
 ·exact .inl rfl
 ·split
  ·exact .inr (.inr (.inl rfl))
  ·split
   ·exact .inr (.inl rfl)
   ·split
    ·exact .inr (.inr (.inl rfl))
    ·split
     ·exact .inr (.inl rfl)
     ·exact .inr (.inr (.inr ⟨rfl,by omega,by omega,by omega⟩))
theorem yG (bs:List UInt8) (at_:Nat):(getN bs at_).1<18446744073709551616:=by
 rcases getN_cases bs at_ with h | h | h | ⟨h,h1,h2,h3⟩
 ·rw [h];decide
 ·rw [h];decide
 ·rw [h];decide
 ·rw [h]
  have h4:=num_lt ((bs.drop (at_+1)).take (bs.getD at_ 0).toNat) (bs.getD at_ 0).toNat (by rw [List.length_take,List.length_drop];omega)
  rw [List.take_of_length_le (by rw [List.length_take];exact Nat.min_le_left _ _)] at h4
  have h5:256 ^ (bs.getD at_ 0).toNat≤256 ^ 8:=Nat.pow_le_pow_right (by omega) h2
  have h6:(256:Nat) ^ 8=18446744073709551616:=by decide
  simp only
  omega
theorem yi (bs:List UInt8) (at_:Nat):(getN bs at_).2.1≤bs.length:=by
 rcases getN_cases bs at_ with h | h | h | ⟨h,h1,h2,h3⟩
 ·rw [h];exact Nat.zero_le _
 ·rw [h];exact Nat.zero_le _
 ·rw [h];exact Nat.zero_le _
 ·rw [h];exact h3
theorem JX.zl {P:Program} {fn:Func} {R:Ending→World→Prop} {n:Nat} {e:Env} {I:World→Prop} {t u u2 ty k b o:Nat} {vs:List Value} {v v2:Value} (hr:fn.results=#[.cell t ty,.tmp u,.tmp u2]) (hv:get e t=some (.pointer (some ⟨b,o,none⟩))) (hv':get e u=some v) (hv2:get e u2=some v2)
  (ha:aggT P ty=some true) (hs:sizeT P ty=some k) (hl:vs.length=k) (hc:∀w,I w→Cells w b o vs) (h:∀w,I w→R (.returned (.tuple #[.agg vs.toArray,v,v2])) w) :
  JX (bodyPost P fn R) n .ret e I:=by
 intro T w ht hw
 refine ⟨rfl,.tuple #[.agg vs.toArray,v,v2],?_,h w hw⟩
 have ht0:T.getD t undef=.pointer (some ⟨b,o,none⟩):=by rw [Array.getD_eq_getD_getElem?,ht.2 t _ hv];rfl
 have hld:=yz (P:=P) ha hs hl (hc w hw)
 have haa:(asAddr (.pointer (some ⟨b,o,none⟩))).run P w=.ok ⟨b,o,none⟩ w:=by simp [asAddr]
 have e1:T.getD u undef=v:=by rw [Array.getD_eq_getD_getElem?,ht.2 u v hv'];rfl
 have e2:T.getD u2 undef=v2:=by rw [Array.getD_eq_getD_getElem?,ht.2 u2 v2 hv2];rfl
 rw [Array.getD_eq_getD_getElem?] at ht0 e1 e2
 simp only [results,hr,Sem.run_bind]
 simp [ht0,haa,hld,e1,e2]
theorem getN_ok {bs:List UInt8} {at_:Nat} {x0:UInt8} (hat:at_<bs.length) (h8:x0.toNat≤8) (hsh:x0.toNat≤bs.length - at_ - 1) (h:x0.toNat=0∨¬(bs.getD (at_+1) 0).toNat=0) (hkk:(bs.getD at_ 0).toNat=x0.toNat):getN bs at_=(num ((bs.drop (at_+1)).take (bs.getD at_ 0).toNat),at_+1+(bs.getD at_ 0).toNat,0):=by
 unfold getN
 rw [if_neg (by omega),if_neg (by omega),if_neg (by omega),if_neg (by omega),if_neg (by omega)]
theorem getN_bad {bs:List UInt8} {at_:Nat} {x0:UInt8} (hat:at_<bs.length) (h8:x0.toNat≤8) (hsh:x0.toNat≤bs.length - at_ - 1) (h:0<x0.toNat) (h1:(bs.getD (at_+1) 0).toNat=0) (hkk:(bs.getD at_ 0).toNat=x0.toNat):getN bs at_=(0,0,2):=by
 unfold getN
 rw [if_neg (by omega),if_neg (by omega),if_neg (by omega),if_neg (by omega),if_pos (by omega)]
end Go.Proofs.Ytoaenmlhehcjfaa
