/-
  VaultPlays: texts that its proof needs, part 6.
-/
import Derived.Test.YtoaenmlhehcjfaaZVaultPlayse
namespace Go.Proofs.Ytoaenmlhehcjfaa
open Go.J Go.RowKit
set_option linter.unusedVariables false
set_option linter.unusedSimpArgs false
set_option maxRecDepth 8000
set_option maxHeartbeats 4000000 in
theorem vaultPlaysL_spec (x:Int) (v:Value) (os:List OpX) (w:World) (hr:Row w v os.length (os.flatMap cOp)) (hok:∀o,o∈os→okN o.kind∧okN o.n∧okN o.x.ver.n∧RSl 1 1 RU8 w [o.x.v.v] o.x.v) :
  Calls Try.prog 9 [.int .i64 x,v].toArray w fun r w'=>r=.returned (.bool true)∧Bel w w':=by
 obtain ⟨aq,cq,rfl,hcq,_⟩:=id hr
 obtain ⟨N,hN,hN60⟩:∃N:Nat,IntKind.u64.wrap x%60=(N:Int)∧N<60:=⟨(IntKind.u64.wrap x%60).toNat,by rw [ye];omega,by omega⟩
 refine qD (args:=[.int .i64 x,.slice aq os.length cq]) (e:=[(0,.int .i64 x),(1,.slice aq os.length cq)]) Try.func9 rfl rfl ⟨rfl,rfl,trivial⟩ (St.start w) ?_;refine JC.seq (fun K0 hK0=>?_);refine JC.region<|J.assign rfl rfl<|J.nil ?_;refine JX.qd (hK0 _ _ ?_);refine JC.seq (fun K1 hK1=>?_);refine JC.region<|J.qe rfl rfl<|J.qF Ty.u3 Ty.u37 rfl rfl<|J.remV rfl rfl (by rw [ye];omega) (by omega) rfl ?_;refine J.name 32 rfl (show _=Value.int .u64 ((N:Nat):Int) from congrArg (Value.int .u64) hN) ?_;refine J.qF Ty.u37 Ty.u3 rfl rfl<|J.name 33 rfl (show _=Value.int .i64 ((N:Nat):Int) from congrArg (Value.int .i64) (qV (by omega) (by omega))) ?_;refine J.zO rfl rfl (by omega) (by omega) rfl ?_;refine J.name 34 rfl (congrArg (Value.int .i64) (show _=((64*N:Nat):Int) by omega)) ?_;refine J.make Ty.el26 Ty.s5 Ty.b5 Ty.z5 rfl rfl rfl rfl (by omega) (by omega) (by omega) rfl (fun b35=>?_);refine J.perm ([]++[(b35,cb ((List.replicate (64*N) (0:UInt8)).map u8) 5)]) (by rw [← flat1B];exact .refl _) ?_;refine J.qO (l1:=[]) Ty.bd29 rfl rfl (fun w1 hw=>pair18_spec (some ⟨b35,0,none⟩) (64*N) (64*N) N (List.replicate (64*N) (0:UInt8)) w1 (Row.own (cs:=(List.replicate (64*N) (0:UInt8)).map u8) (tb:=5) (fr:=(0,0)) hw (.head _) (List.take_of_length_le (Nat.le_refl _)) (Nat.le_refl _)) List.length_replicate rfl (by omega)) (fun y hvR=>?_)
 obtain ⟨d,s,rd,vR,lp0⟩:=y
 simp only at hvR ⊢
 obtain ⟨a0,c0,rfl,hc0⟩:=hvR.form
 obtain ⟨σ0,hσ0⟩:∃σ0:DS,σ0=⟨(List.replicate (64*N) (0:UInt8)),-1,0⟩:=⟨_,rfl⟩
 have hlen:σ0.B.length=64*N:=by rw [hσ0];exact List.length_replicate
 have hk00:σ0.k=0:=by rw [hσ0]
 have hk0:0≤σ0.k:=by omega
 have hp:σ0.p<9223372036854775808:=by rw [hσ0];show (-1:Int)<_;omega
 have hdg:DG N 0 σ0:=by
  by_cases h3:N<3
  ·exact .inl h3
  ·rw [hσ0];exact .inr ⟨_,logI_zero (by omega) (by omega) _ _ (by omega),Nat.zero_le _⟩
 have hv0:Vec 5 1 (.slice a0 (64*N) c0) (64*N) (σ0.B.map u8) lp0:=by rw [hσ0];exact hvR
 refine J.conseq (I':=St w [] ((d,dkO s N σ0.p σ0.k)::(s,dkS σ0.B)::((rd,rfO (.slice a0 (64*N) c0) σ0.p σ0.k)::lp0))) ?_ (fun w1 hw=>by rw [hσ0];exact hw.drop (List.sublist_append_left _ _))
 refine J.qe rfl rfl<|J.extract rfl rfl rfl<|J.extract rfl rfl rfl<|J.assign rfl rfl<|J.assign rfl rfl<|J.nil ?_;refine JX.qd (hK1 _ _ ?_);refine JC.seq (fun K2 hK2=>?_);refine JC.seq (fun K3 hK3=>?_);refine JC.region<|J.qe rfl rfl<|J.zh Ty.u34 rfl rfl rfl<|J.qe rfl rfl<|J.qf rfl rfl rfl<|J.qR (v:=.bool true) (fun w1 w2 hw hb=>hw.step hb) Ty.bd10 rfl rfl (fun w1 hw=>fixed18_spec w1) ?_
 first | refine J.skip rfl rfl rfl rfl rfl ?_ | refine J.qh rfl rfl rfl rfl ?_ | (refine J.qf rfl rfl rfl ?_;refine J.zC rfl rfl ?_)
 (first | refine J.qr rfl rfl rfl ?_ | refine J.qs rfl rfl rfl ?_)
 refine J.nil ?_;refine JX.qd (hK3 _ _ ?_)
 first | refine JC.qI rfl ?_ | refine JC.qn rfl (fun h=>by first | (exfalso;simp at h;omega) | (simp at h)) (fun _=>?_)
 refine JC.skip ?_;refine JX.qd (hK2 _ _ ?_);refine JC.zy (α:=VO) (fun z=>[(5,.pointer (some ⟨d,0,none⟩)),(6,.pointer (some ⟨rd,0,none⟩)),(7,z.pv),(8,z.er),(1,.slice aq os.length cq)]) (fun z w'=>z.Pr N ⟨σ0.B,σ0.p,σ0.k⟩∧St w [] (z.lst d s N++((rd,rfO (.slice a0 (64*N) c0) σ0.p σ0.k)::lp0)) w') (fun z=>?_) (fun K4 hK4=>?_)
 ·refine JC.pr (fun hz=>?_);refine JC.zy (α:=PlS) (fun st=>[(5,.pointer (some ⟨d,0,none⟩)),(6,.pointer (some ⟨rd,0,none⟩)),(7,st.o.pv),(8,.int .i64 st.o.e),(9,st.o.pw),(10,.int .i64 st.o.e),(1,.slice aq os.length cq)]) (fun st w'=>(st.i=0∧PlI N (.slice a0 (64*N) c0) st)∧St w [] ((d,dkO s N st.σ.p st.σ.k)::(s,dkS st.σ.B)::(rd,rfO (.slice a0 (64*N) c0) st.σ.p st.σ.k)::(st.lp++st.o.blk d rd)) w') (fun st=>?_) (fun K5 hK5=>?_)
  ·obtain ⟨i0,o1,σ1,lp1⟩:=st
   refine JC.pr (fun hI1=>?_)
   obtain ⟨rfl,hI1⟩:=hI1
   try simp only
   refine JC.zy (α:=PlS) (fun st=>[(5,.pointer (some ⟨d,0,none⟩)),(6,.pointer (some ⟨rd,0,none⟩)),(7,st.o.pv),(8,.int .i64 st.o.e),(9,st.o.pw),(10,.int .i64 st.o.e)]) (fun st w'=>PlI N (.slice a0 (64*N) c0) st∧St w [] ((d,dkO s N st.σ.p st.σ.k)::(s,dkS st.σ.B)::(rd,rfO (.slice a0 (64*N) c0) st.σ.p st.σ.k)::(st.lp++st.o.blk d rd)) w') (fun st=>?_) (fun K6 hK6=>?_)
   ·obtain ⟨i,o,σ,lp9⟩:=st
    refine JC.pr (fun hI=>?_)
    try simp only
    obtain ⟨hi121,hlen,hk0,hkb,hp,hv9,hpr⟩:=id hI
    try simp only at hi121 hlen hk0 hkb hp hv9 hpr
    refine JC.seq (fun K7 hK7=>?_)
    rcases o with e | ⟨v1,m1,l1,q,dn,inc,L,es,ck,v2,l2,ys,ay,cy,yl⟩
    ·refine JC.conseq (I':=St w [] ((d,dkO s N σ.p σ.k)::(s,dkS σ.B)::(rd,rfO (.slice a0 (64*N) c0) σ.p σ.k)::(lp9++([])))) ?_ (fun w1 hw=>hw)
     apply JC.zc 21 [Eqv (.int .i64 e),Eqv (.int .i64 e),Eqv (.bool true),Eqv (.bool true),Eqv (.pointer none),Eqv (.bool true),Eqv (.pointer none),Eqv (.bool true),Eqv (.bool true),Eqv (.bool true),Eqv (.bool true),Eqv (.pointer (some ⟨d,0,none⟩)),RowP (64*N) (σ.B.map u8),Eqv (.string (str σ.B)),Eqv (.pointer (some ⟨rd,0,none⟩)),Eqv (.pointer (some ⟨rd,0,none⟩)),Eqv (.pointer (some ⟨rd,0+0,none⟩)),Eqv (.slice a0 (64*N) c0),Eqv (.string (str σ.B)),Eqv (.bool true),Eqv (.bool true)] Ty.mixed rfl rfl rfl (by kernel_rfl) rfl rfl (fun w w' hw hb=>hw.step hb) ⟨fun _ _ _ h _=>h,fun _ _ _ h _=>h,fun _ _ _ h _=>h,fun _ _ _ h _=>h,fun _ _ _ h _=>h,fun _ _ _ h _=>h,fun _ _ _ h _=>h,fun _ _ _ h _=>h,fun _ _ _ h _=>h,fun _ _ _ h _=>h,fun _ _ _ h _=>h,fun _ _ _ h _=>h,RowP.st _ _,fun _ _ _ h _=>h,fun _ _ _ h _=>h,fun _ _ _ h _=>h,fun _ _ _ h _=>h,fun _ _ _ h _=>h,fun _ _ _ h _=>h,fun _ _ _ h _=>h,fun _ _ _ h _=>h,trivial⟩ ?hstep ?htail
     case hstep=>
      refine ⟨fun wi=>?_,fun wi=>?_,fun wi=>?_,fun wi=>?_,fun wi=>?_,fun wi=>?_,fun wi=>?_,fun wi=>?_,fun wi=>?_,fun wi=>?_,fun wi=>?_,fun wi=>?_,fun wi=>?_,fun wi=>?_,fun wi=>?_,fun wi=>?_,fun wi=>?_,fun wi=>?_,fun wi=>?_,fun wi=>?_,fun wi=>?_,trivial⟩
      ·refine Fin.nil<|J.qe rfl rfl ?_
       exact J.qm rfl
      ·refine Fin.nil<|J.qe rfl rfl ?_
       exact J.qm rfl
      ·refine Fin.qc rfl (Fin.qc rfl (Fin.nil ?_))
       refine J.qj rfl rfl rfl rfl<|J.name 291 rfl (show Value.bool _=.bool true by simp) ?_
       exact J.qm rfl
      ·refine Fin.qc rfl (Fin.nil ?_);refine J.qe rfl rfl ?_
       exact J.qm rfl
      ·refine Fin.qc rfl (Fin.nil ?_)
       first | refine J.skip rfl rfl rfl rfl rfl ?_ | refine J.qh rfl rfl rfl rfl ?_ | (refine J.qf rfl rfl rfl ?_;refine J.qe rfl rfl ?_)
       exact J.qm rfl
      ·refine Fin.qc rfl (Fin.qc rfl (Fin.nil ?_))
       first | refine J.skip rfl rfl rfl rfl rfl ?_ | refine J.qh rfl rfl rfl rfl ?_ | (refine J.qf rfl rfl rfl ?_;refine J.zh Ty.u38 rfl rfl rfl ?_)
       exact J.qm rfl
      ·refine Fin.qc rfl (Fin.nil ?_)
       first | refine J.skip rfl rfl rfl rfl rfl ?_ | refine J.qh rfl rfl rfl rfl ?_ | (refine J.qf rfl rfl rfl ?_;refine J.qe rfl rfl ?_)
       exact J.qm rfl
      ·refine Fin.qc rfl (Fin.qc rfl (Fin.nil ?_))
       first | refine J.skip rfl rfl rfl rfl rfl ?_ | refine J.qh rfl rfl rfl rfl ?_ | (refine J.qf rfl rfl rfl ?_;refine J.zh Ty.u68 rfl rfl rfl ?_)
       exact J.qm rfl
      ·refine Fin.qc rfl (Fin.qc rfl (Fin.qc rfl (Fin.nil ?_)))
       refine J.qf rfl rfl rfl<|J.yH (.inl rfl) Ty.u4 rfl rfl rfl<|J.name 297 rfl (show Value.bool _=.bool true by simp) ?_
       exact J.qm rfl
      ·refine Fin.qc rfl (Fin.qc rfl (Fin.nil ?_))
       (first | refine J.qr rfl rfl rfl ?_ | refine J.qs rfl rfl rfl ?_)
       exact J.qm rfl
      ·refine Fin.qc rfl (Fin.qc rfl (Fin.nil ?_))
       refine J.qe rfl rfl ?_
       exact J.qm rfl
      ·refine Fin.qc rfl (Fin.nil ?_)
       first | refine J.skip rfl rfl rfl rfl rfl ?_ | refine J.qh rfl rfl rfl rfl ?_ | (refine J.qf rfl rfl rfl ?_;refine J.qe rfl rfl ?_)
       exact J.qm rfl
      ·refine Fin.qc rfl (Fin.qc rfl (Fin.qc rfl (Fin.nil ?_)))
       refine J.qf rfl rfl rfl ?_;refine J.callR (k:=64*N) (ys:=σ.B.map u8) Ty.bd31 rfl rfl (fun w1 hw=>(bytes_spec d s N σ.B σ.p σ.k w1 (St.owns (l1:=[(d,dkO s N σ.p σ.k),(s,dkS σ.B)]) (l:=(rd,rfO (.slice a0 (64*N) c0) σ.p σ.k)::(lp9++([]))) (hw.perm zp)) hlen (by omega)).mono fun _ w2 ⟨x,h1,h2,h3⟩=>⟨x.1,h1,h2.row (l:=[(d,dkO s N σ.p σ.k),(s,dkS σ.B)]) h3,h3.same (St.owns (l1:=[(d,dkO s N σ.p σ.k),(s,dkS σ.B)]) (l:=(rd,rfO (.slice a0 (64*N) c0) σ.p σ.k)::(lp9++([]))) (hw.perm zp)) (fun p hp=>List.mem_append_right _ hp)⟩) (fun v301=>?_)
       refine J.nil (JX.fin rfl (fun w hw=>⟨hw.1,hw.2⟩))
      ·refine Fin.cons (fun v52_12=>Fin.qc rfl (Fin.nil ?_))
       refine J.prR<|J.qf rfl rfl rfl<|J.z2 (m:=64*N) (bs:=σ.B) Ty.el26 Ty.u5 Ty.u9 rfl (fun w1 hw=>hw.2.1) hlen rfl ?_
       exact J.qm rfl
      ·refine Fin.qc rfl (Fin.nil ?_)
       first | refine J.skip rfl rfl rfl rfl rfl ?_ | refine J.qh rfl rfl rfl rfl ?_ | (refine J.qf rfl rfl rfl ?_;refine J.qe rfl rfl ?_)
       exact J.qm rfl
      ·refine Fin.qc rfl (Fin.qc rfl (Fin.nil ?_))
       first | refine J.skip rfl rfl rfl rfl rfl ?_ | refine J.qh rfl rfl rfl rfl ?_ | (refine J.qf rfl rfl rfl ?_;refine J.qq rfl rfl ?_)
       exact J.qm rfl
      ·refine Fin.qc rfl (Fin.qc rfl (Fin.nil ?_))
       first | refine J.skip rfl rfl rfl rfl rfl ?_ | refine J.qh rfl rfl rfl rfl ?_ | (refine J.qf rfl rfl rfl ?_;refine J.qi Ty.fd67_0 rfl rfl ?_)
       exact J.qm rfl
      ·refine Fin.qc rfl (Fin.qc rfl (Fin.nil ?_))
       refine J.qf rfl rfl rfl<|J.qw (v:=.slice a0 (64*N) c0) Ty.a26 rfl (fun w1 hw=>(qB (hw.2.own ((rd,rfO (.slice a0 (64*N) c0) σ.p σ.k)) zm)).trans rfl) rfl ?_
       exact J.qm rfl
      ·refine Fin.qc rfl (Fin.qc rfl (Fin.nil ?_))
       refine J.qf rfl rfl rfl<|J.z2 (m:=64*N) (bs:=σ.B) Ty.el26 Ty.u5 Ty.u9 rfl (fun w1 hw=>qW hv9 hw.2 zq) hlen rfl ?_
       exact J.qm rfl
      ·refine Fin.qc rfl (Fin.qc rfl (Fin.qc rfl (Fin.nil ?_)))
       refine J.qf rfl rfl rfl<|J.strEq rfl rfl rfl<|J.name 308 rfl (show Value.bool _=.bool true by simp) ?_
       exact J.qm rfl
      ·refine Fin.qc rfl (Fin.qc rfl (Fin.nil ?_))
       (first | refine J.qr rfl rfl rfl ?_ | refine J.qs rfl rfl rfl ?_)
       exact J.qm rfl
     case htail=>
      refine Fin.qc rfl (Fin.qc rfl (Fin.qc rfl (Fin.qc rfl (Fin.qc rfl (Fin.qc rfl (Fin.qc rfl (Fin.qc rfl (Fin.qc rfl (Fin.qc rfl (Fin.qc rfl (Fin.qc rfl (Fin.cons (fun v52_12=>Fin.qc rfl (Fin.qc rfl (Fin.qc rfl (Fin.qc rfl (Fin.qc rfl (Fin.qc rfl (Fin.qc rfl (Fin.qc rfl (Fin.nil ?_)))))))))))))))))))))
      refine J.drop<|J.assign rfl rfl<|J.nil ?_;refine JX.qd (hK7 _ _ ?_);refine JC.qA ?_;refine JX.qL rfl rfl (fun w hw=>?_)
      exact ⟨rfl,(hw.drop (List.nil_sublist _)).below⟩
    ·refine JC.conseq (I':=St w [] ((d,dkO s N σ.p σ.k)::(s,dkS σ.B)::(rd,rfO (.slice a0 (64*N) c0) σ.p σ.k)::(lp9++((v1,vaO (.pointer (some ⟨l1,0,none⟩)) m1 ((inc:Nat):Int))::(m1,.map es ck)::(l1,lgO d q dn)::(v2,cb [.pointer (some ⟨l2,0,none⟩),.slice ay ys.length cy,.int .i64 ((inc:Nat):Int)] 74)::(l2,rlO rd q dn)::(yl++(lpsH L++lpsH ys)))))) ?_ (fun w1 hw=>hw)
     apply JC.zc 21 [Eqv (.int .i64 0),Eqv (.int .i64 0),Eqv (.bool true),Eqv (.bool true),Eqv (.pointer (some ⟨v1,0,none⟩)),Eqv (.bool false),Eqv (.pointer (some ⟨v2,0,none⟩)),Eqv (.bool false),Eqv (.bool true),Eqv (.bool true),Eqv (.bool true),Eqv (.pointer (some ⟨d,0,none⟩)),RowP (64*N) (σ.B.map u8),Eqv (.string (str σ.B)),Eqv (.pointer (some ⟨rd,0,none⟩)),Eqv (.pointer (some ⟨rd,0,none⟩)),Eqv (.pointer (some ⟨rd,0+0,none⟩)),Eqv (.slice a0 (64*N) c0),Eqv (.string (str σ.B)),Eqv (.bool true),Eqv (.bool true)] Ty.mixed rfl rfl rfl (by kernel_rfl) rfl rfl (fun w w' hw hb=>hw.step hb) ⟨fun _ _ _ h _=>h,fun _ _ _ h _=>h,fun _ _ _ h _=>h,fun _ _ _ h _=>h,fun _ _ _ h _=>h,fun _ _ _ h _=>h,fun _ _ _ h _=>h,fun _ _ _ h _=>h,fun _ _ _ h _=>h,fun _ _ _ h _=>h,fun _ _ _ h _=>h,fun _ _ _ h _=>h,RowP.st _ _,fun _ _ _ h _=>h,fun _ _ _ h _=>h,fun _ _ _ h _=>h,fun _ _ _ h _=>h,fun _ _ _ h _=>h,fun _ _ _ h _=>h,fun _ _ _ h _=>h,fun _ _ _ h _=>h,trivial⟩ ?hstep ?htail
     case hstep=>
      refine ⟨fun wi=>?_,fun wi=>?_,fun wi=>?_,fun wi=>?_,fun wi=>?_,fun wi=>?_,fun wi=>?_,fun wi=>?_,fun wi=>?_,fun wi=>?_,fun wi=>?_,fun wi=>?_,fun wi=>?_,fun wi=>?_,fun wi=>?_,fun wi=>?_,fun wi=>?_,fun wi=>?_,fun wi=>?_,fun wi=>?_,fun wi=>?_,trivial⟩
      ·refine Fin.nil<|J.qe rfl rfl ?_
       exact J.qm rfl
      ·refine Fin.nil<|J.qe rfl rfl ?_
       exact J.qm rfl
      ·refine Fin.qc rfl (Fin.qc rfl (Fin.nil ?_))
       refine J.qj rfl rfl rfl rfl<|J.name 291 rfl (show Value.bool _=.bool true by simp) ?_
       exact J.qm rfl
      ·refine Fin.qc rfl (Fin.nil ?_);refine J.qe rfl rfl ?_
       exact J.qm rfl
      ·refine Fin.qc rfl (Fin.nil ?_)
       first | refine J.skip rfl rfl rfl rfl rfl ?_ | refine J.qh rfl rfl rfl rfl ?_ | (refine J.qf rfl rfl rfl ?_;refine J.qe rfl rfl ?_)
       exact J.qm rfl
      ·refine Fin.qc rfl (Fin.qc rfl (Fin.nil ?_))
       first | refine J.skip rfl rfl rfl rfl rfl ?_ | refine J.qh rfl rfl rfl rfl ?_ | (refine J.qf rfl rfl rfl ?_;refine J.zh Ty.u38 rfl rfl rfl ?_)
       exact J.qm rfl
      ·refine Fin.qc rfl (Fin.nil ?_)
       first | refine J.skip rfl rfl rfl rfl rfl ?_ | refine J.qh rfl rfl rfl rfl ?_ | (refine J.qf rfl rfl rfl ?_;refine J.qe rfl rfl ?_)
       exact J.qm rfl
      ·refine Fin.qc rfl (Fin.qc rfl (Fin.nil ?_))
       first | refine J.skip rfl rfl rfl rfl rfl ?_ | refine J.qh rfl rfl rfl rfl ?_ | (refine J.qf rfl rfl rfl ?_;refine J.zh Ty.u68 rfl rfl rfl ?_)
       exact J.qm rfl
      ·refine Fin.qc rfl (Fin.qc rfl (Fin.qc rfl (Fin.nil ?_)))
       refine J.qf rfl rfl rfl<|J.yH (.inl rfl) Ty.u4 rfl rfl rfl<|J.name 297 rfl (show Value.bool _=.bool true by simp) ?_
       exact J.qm rfl
      ·refine Fin.qc rfl (Fin.qc rfl (Fin.nil ?_))
       (first | refine J.qr rfl rfl rfl ?_ | refine J.qs rfl rfl rfl ?_)
       exact J.qm rfl
      ·refine Fin.qc rfl (Fin.qc rfl (Fin.nil ?_))
       refine J.qe rfl rfl ?_
       exact J.qm rfl
      ·refine Fin.qc rfl (Fin.nil ?_)
       first | refine J.skip rfl rfl rfl rfl rfl ?_ | refine J.qh rfl rfl rfl rfl ?_ | (refine J.qf rfl rfl rfl ?_;refine J.qe rfl rfl ?_)
       exact J.qm rfl
      ·refine Fin.qc rfl (Fin.qc rfl (Fin.qc rfl (Fin.nil ?_)))
       refine J.qf rfl rfl rfl ?_;refine J.callR (k:=64*N) (ys:=σ.B.map u8) Ty.bd31 rfl rfl (fun w1 hw=>(bytes_spec d s N σ.B σ.p σ.k w1 (St.owns (l1:=[(d,dkO s N σ.p σ.k),(s,dkS σ.B)]) (l:=(rd,rfO (.slice a0 (64*N) c0) σ.p σ.k)::(lp9++((v1,vaO (.pointer (some ⟨l1,0,none⟩)) m1 ((inc:Nat):Int))::(m1,.map es ck)::(l1,lgO d q dn)::(v2,cb [.pointer (some ⟨l2,0,none⟩),.slice ay ys.length cy,.int .i64 ((inc:Nat):Int)] 74)::(l2,rlO rd q dn)::(yl++(lpsH L++lpsH ys))))) (hw.perm zp)) hlen (by omega)).mono fun _ w2 ⟨x,h1,h2,h3⟩=>⟨x.1,h1,h2.row (l:=[(d,dkO s N σ.p σ.k),(s,dkS σ.B)]) h3,h3.same (St.owns (l1:=[(d,dkO s N σ.p σ.k),(s,dkS σ.B)]) (l:=(rd,rfO (.slice a0 (64*N) c0) σ.p σ.k)::(lp9++((v1,vaO (.pointer (some ⟨l1,0,none⟩)) m1 ((inc:Nat):Int))::(m1,.map es ck)::(l1,lgO d q dn)::(v2,cb [.pointer (some ⟨l2,0,none⟩),.slice ay ys.length cy,.int .i64 ((inc:Nat):Int)] 74)::(l2,rlO rd q dn)::(yl++(lpsH L++lpsH ys))))) (hw.perm zp)) (fun p hp=>List.mem_append_right _ hp)⟩) (fun v301=>?_)
       refine J.nil (JX.fin rfl (fun w hw=>⟨hw.1,hw.2⟩))
      ·refine Fin.cons (fun v52_12=>Fin.qc rfl (Fin.nil ?_))
       refine J.prR<|J.qf rfl rfl rfl<|J.z2 (m:=64*N) (bs:=σ.B) Ty.el26 Ty.u5 Ty.u9 rfl (fun w1 hw=>hw.2.1) hlen rfl ?_
       exact J.qm rfl
      ·refine Fin.qc rfl (Fin.nil ?_)
       first | refine J.skip rfl rfl rfl rfl rfl ?_ | refine J.qh rfl rfl rfl rfl ?_ | (refine J.qf rfl rfl rfl ?_;refine J.qe rfl rfl ?_)
       exact J.qm rfl
      ·refine Fin.qc rfl (Fin.qc rfl (Fin.nil ?_))
       first | refine J.skip rfl rfl rfl rfl rfl ?_ | refine J.qh rfl rfl rfl rfl ?_ | (refine J.qf rfl rfl rfl ?_;refine J.qq rfl rfl ?_)
       exact J.qm rfl
      ·refine Fin.qc rfl (Fin.qc rfl (Fin.nil ?_))
       first | refine J.skip rfl rfl rfl rfl rfl ?_ | refine J.qh rfl rfl rfl rfl ?_ | (refine J.qf rfl rfl rfl ?_;refine J.qi Ty.fd67_0 rfl rfl ?_)
       exact J.qm rfl
      ·refine Fin.qc rfl (Fin.qc rfl (Fin.nil ?_))
       refine J.qf rfl rfl rfl<|J.qw (v:=.slice a0 (64*N) c0) Ty.a26 rfl (fun w1 hw=>(qB (hw.2.own ((rd,rfO (.slice a0 (64*N) c0) σ.p σ.k)) zm)).trans rfl) rfl ?_
       exact J.qm rfl
      ·refine Fin.qc rfl (Fin.qc rfl (Fin.nil ?_))
       refine J.qf rfl rfl rfl<|J.z2 (m:=64*N) (bs:=σ.B) Ty.el26 Ty.u5 Ty.u9 rfl (fun w1 hw=>qW hv9 hw.2 zq) hlen rfl ?_
       exact J.qm rfl
      ·refine Fin.qc rfl (Fin.qc rfl (Fin.qc rfl (Fin.nil ?_)))
       refine J.qf rfl rfl rfl<|J.strEq rfl rfl rfl<|J.name 308 rfl (show Value.bool _=.bool true by simp) ?_
       exact J.qm rfl
      ·refine Fin.qc rfl (Fin.qc rfl (Fin.nil ?_))
       (first | refine J.qr rfl rfl rfl ?_ | refine J.qs rfl rfl rfl ?_)
       exact J.qm rfl
     case htail=>
      refine Fin.qc rfl (Fin.qc rfl (Fin.qc rfl (Fin.qc rfl (Fin.qc rfl (Fin.qc rfl (Fin.qc rfl (Fin.qc rfl (Fin.qc rfl (Fin.qc rfl (Fin.qc rfl (Fin.qc rfl (Fin.cons (fun v52_12=>Fin.qc rfl (Fin.qc rfl (Fin.qc rfl (Fin.qc rfl (Fin.qc rfl (Fin.qc rfl (Fin.qc rfl (Fin.qc rfl (Fin.nil ?_)))))))))))))))))))))
      refine J.drop<|J.assign rfl rfl<|J.nil ?_;refine JX.qd (hK7 _ _ ?_);refine JC.qA ?_;refine JX.qL rfl rfl (fun w hw=>?_)
      exact ⟨rfl,(hw.drop (List.nil_sublist _)).below⟩
   ·refine JC.seq (fun K8 hK8=>?_);refine JC.region<|J.qe rfl rfl<|J.qK rfl Ty.u76 rfl rfl<|J.qe rfl rfl<|J.nil ?_;refine JX.qd (hK8 _ _ ?_);refine JC.block ?_
    refine JC.conseq (JC.cov (f:=(fun st=>[(5,.pointer (some ⟨d,0,none⟩)),(6,.pointer (some ⟨rd,0,none⟩)),(7,st.o.pv),(8,.int .i64 st.o.e),(9,st.o.pw),(10,.int .i64 st.o.e),(55,.slice aq os.length cq),(56,.int .i64 ((os.length:Nat):Int)),(57,.int .i64 ((st.i:Nat):Int))]) (⟨0,o1,σ1,lp1⟩:PlS)) ⟨rfl,rfl,rfl,rfl,rfl,rfl,rfl,rfl,rfl,trivial⟩ (JC.loop (α:=PlS) (fun st=>[(5,.pointer (some ⟨d,0,none⟩)),(6,.pointer (some ⟨rd,0,none⟩)),(7,st.o.pv),(8,.int .i64 st.o.e),(9,st.o.pw),(10,.int .i64 st.o.e),(55,.slice aq os.length cq),(56,.int .i64 ((os.length:Nat):Int)),(57,.int .i64 ((st.i:Nat):Int))]) (fun st w'=>(st.i≤os.length∧PlI N (.slice a0 (64*N) c0) st)∧St w [] ((d,dkO s N st.σ.p st.σ.k)::(s,dkS st.σ.B)::(rd,rfO (.slice a0 (64*N) c0) st.σ.p st.σ.k)::(st.lp++st.o.blk d rd)) w') (fun st=>os.length - st.i) (⟨0,o1,σ1,lp1⟩:PlS) (fun st=>?_))) (fun w hw=>⟨⟨Nat.zero_le _,hI1⟩,hw⟩)
    obtain ⟨i,o,σ,lp9⟩:=st
    refine JC.pr (fun hI=>?_)
    obtain ⟨hi,hI⟩:=hI
    try simp only at hi ⊢
    obtain ⟨hi121,hlen,hk0,hkb,hp,hv9,hpr⟩:=id hI
    try simp only at hi121 hlen hk0 hkb hp hv9 hpr
    refine JC.seq (fun K9 hK9=>?_);refine JC.region<|J.qj rfl rfl rfl rfl<|J.nil ?_;refine JX.qd (hK9 _ _ ?_);refine JC.seq (fun K10 hK10=>?_);refine JC.qn rfl (fun h1=>?_) (fun h1=>?_)
    ·have hlt:i<os.length:=by simp at h1;omega
     obtain ⟨z,hzg⟩:∃x,os[i]? = some x:=⟨_,List.getElem?_eq_getElem hlt⟩
     obtain ⟨hzK,hzN,hvx,hzb⟩:=hok z (List.mem_of_getElem? hzg)
     obtain ⟨K,n0,kx,vx,au,cu,bx⟩:=z
     try simp only at hzK hzN hvx hzb
     have hzr:=hzb.row
     have hbxl:=reach_len1 hzb
     try simp only at hbxl
     have hzK2:=okN_lt hzK
     have hzN2:=okN_lt hzN
     obtain ⟨q1,o1',c1',hv1,-,-⟩:=hr.some (by rw [fG_length (c:=cOp) (sz:=36) (fun _=>rfl)];omega)
     simp only [Value.slice.injEq] at hv1
     obtain ⟨hq1,-,-⟩:=hv1
     refine JC.skip ?_;refine JX.qd (hK10 _ _ ?_);refine JC.zy (α:=PlS) (fun st=>[(5,.pointer (some ⟨d,0,none⟩)),(6,.pointer (some ⟨rd,0,none⟩)),(7,st.o.pv),(8,.int .i64 st.o.e),(9,st.o.pw),(10,.int .i64 st.o.e),(55,.slice aq os.length cq),(56,.int .i64 ((os.length:Nat):Int)),(57,.int .i64 ((i:Nat):Int))]) (fun st w'=>(st.i=i+1∧PlI N (.slice a0 (64*N) c0) st)∧St w [] ((d,dkO s N st.σ.p st.σ.k)::(s,dkS st.σ.B)::(rd,rfO (.slice a0 (64*N) c0) st.σ.p st.σ.k)::(st.lp++st.o.blk d rd)) w') (fun st=>?_) (fun K11 hK11=>?_)
     ·obtain ⟨i2,o2,σ2,lp2⟩:=st
      refine JC.pr (fun hI2=>?_)
      obtain ⟨rfl,hI2⟩:=hI2
      try simp only
      refine JC.region ?_
      (first | refine J.qG rfl rfl (by omega) (by omega) rfl ?_ | refine J.qj rfl rfl rfl rfl ?_)
      refine J.qe rfl rfl<|J.nil<|JX.qd<|JX.qS (⟨i+1,o2,σ2,lp2⟩:PlS) ?_ ?_ ?_
      ·simp only;omega
      ·exact ⟨rfl,rfl,rfl,rfl,rfl,rfl,rfl,rfl,rfl,trivial⟩
      ·exact fun w1 hw=>⟨⟨hlt,hI2⟩,hw⟩
     ·refine JC.block ?_;refine JC.seq (fun K12 hK12=>?_);refine JC.region<|J.qe rfl rfl<|J.name 55 rfl (show Value.slice aq os.length cq=Value.slice (some ⟨q1,o1',none⟩) os.length cq by rw [hq1]) ?_;refine J.qu Ty.el76 Ty.s78 rfl rfl (by omega) (by omega) rfl ?_;refine J.name 55 rfl (show Value.slice (some ⟨q1,o1',none⟩) os.length cq=Value.slice aq os.length cq by rw [hq1]) ?_;refine J.qC (vs:=(cOp ⟨K,n0,⟨kx,vx,⟨au,cu,bx⟩⟩⟩)) Ty.a78 Ty.s78 rfl rfl (fun w1 hw=>rowG_at (c:=cOp) (sz:=36) (fun _=>rfl) (by have h9:=(hr.below (hw.drop (List.nil_sublist _)).below);rw [hq1] at h9;exact h9) hzg (by rw [Int.toNat_natCast])) rfl ?_;refine J.alloc Ty.zOpx rfl rfl (fun zb=>?_);refine J.assign rfl rfl<|J.qN (cs:=cOp zOpx) (vs:=(cOp ⟨K,n0,⟨kx,vx,⟨au,cu,bx⟩⟩⟩)) Ty.s78 rfl rfl rfl rfl rfl (one_cOp _) .here<|J.nil ?_;refine JX.qd (hK12 _ _ ?_);refine JC.seq (fun K13 hK13=>?_);refine JC.zy (α:=Bool) (fun bb=>[(5,.pointer (some ⟨d,0,none⟩)),(6,.pointer (some ⟨rd,0,none⟩)),(7,o.pv),(8,.int .i64 o.e),(9,o.pw),(10,.int .i64 o.e),(12,.pointer (some ⟨zb,0,none⟩)),(55,.slice aq os.length cq),(56,.int .i64 ((os.length:Nat):Int)),(57,.int .i64 ((i:Nat):Int)),(86,.bool bb)]) (fun bb w'=>(bb=false→i≤120)∧St w [] ((zb,cb (cOp ⟨K,n0,⟨kx,vx,⟨au,cu,bx⟩⟩⟩) 78)::(d,dkO s N σ.p σ.k)::(s,dkS σ.B)::(rd,rfO (.slice a0 (64*N) c0) σ.p σ.k)::(lp9++o.blk d rd)) w') (fun bb=>?_) (fun K14 hK14=>?_)
      ·refine JC.pr (fun hbb=>?_);refine JC.qn rfl (fun h2=>?_) (fun h2=>?_)
       ·try simp only [decide_eq_true_eq,decide_eq_false_iff_not,beq_iff_eq,bne_iff_ne,bne_eq_false_iff_eq,ne_eq,beq_eq_false_iff_ne,Bool.not_eq_true,Bool.not_eq_false,Int.not_lt,Int.not_le] at h2
        refine JC.qX<|JX.qE<|JX.blockO rfl<|JX.qE<|JX.qE<|JX.qT<|JX.qd ?_
        exact JX.cut (hK6 ⟨i,o,σ,lp9⟩) ⟨rfl,rfl,rfl,rfl,rfl,rfl,trivial⟩ (fun w1 hw=>⟨hI,by first | exact hw | exact hw.drop (List.sublist_cons_self _ _)⟩)
       ·have hi120:=hbb h2
        refine JC.skip ?_;refine JX.qd (hK13 _ _ ?_);refine JC.seq (fun K15 hK15=>?_);refine JC.seq (fun K16 hK16=>?_);refine JC.region<|J.qi Ty.fd78_0 rfl rfl<|J.qw (v:=.int .i64 K) Ty.a3 rfl (fun w1 hw=>by rw [qB (hw.own ((zb,cb (cOp ⟨K,n0,⟨kx,vx,⟨au,cu,bx⟩⟩⟩) 78)) zm)];rfl) rfl ?_;refine J.qj rfl rfl rfl rfl<|J.nil ?_;refine JX.qd (hK16 _ _ ?_);refine JC.qn rfl (fun h3=>?_) (fun h3=>?_)
        ·try simp only [decide_eq_true_eq,decide_eq_false_iff_not,beq_iff_eq,bne_iff_ne,bne_eq_false_iff_eq,ne_eq,beq_eq_false_iff_ne,Bool.not_eq_true,Bool.not_eq_false,Int.not_lt,Int.not_le] at h3
         refine JC.seq (fun K17 hK17=>?_);refine JC.region<|J.qe rfl rfl<|J.qi Ty.fd78_1 rfl rfl<|J.qw (v:=.int .i64 n0) Ty.a3 rfl (fun w1 hw=>by rw [qB (hw.own ((zb,cb (cOp ⟨K,n0,⟨kx,vx,⟨au,cu,bx⟩⟩⟩) 78)) zm)];rfl) rfl ?_;refine J.perm ([(d,dkO s N σ.p σ.k)]++((zb,cb (cOp ⟨K,n0,⟨kx,vx,⟨au,cu,bx⟩⟩⟩) 78)::(s,dkS σ.B)::(rd,rfO (.slice a0 (64*N) c0) σ.p σ.k)::(lp9++o.blk d rd))) zp<|J.callT (v:=.tuple #[]) (L:=[(d,dkO s N (max n0 (-1)) σ.k)]) Ty.bd16 rfl rfl (fun w1 hw=>power_spec d s N σ.p σ.k n0 w1 (St.owns hw)) ?_;refine J.nil ?_;refine JX.qd (hK17 _ _ ?_);refine JC.seq (fun K18 hK18=>?_);refine JC.region<|J.qe rfl rfl<|J.qi Ty.fd78_1 rfl rfl<|J.qw (v:=.int .i64 n0) Ty.a3 rfl (fun w1 hw=>by rw [qB (hw.own ((zb,cb (cOp ⟨K,n0,⟨kx,vx,⟨au,cu,bx⟩⟩⟩) 78)) zm)];rfl) rfl ?_;refine J.max2 rfl rfl rfl<|J.qq rfl rfl<|J.qi Ty.fd67_1 rfl rfl<|J.perm ((rd,rfO (.slice a0 (64*N) c0) σ.p σ.k)::((zb,cb (cOp ⟨K,n0,⟨kx,vx,⟨au,cu,bx⟩⟩⟩) 78)::(d,dkO s N (⟨σ.B,max n0 (-1),σ.k⟩:DS).p (⟨σ.B,max n0 (-1),σ.k⟩:DS).k)::(s,dkS σ.B)::(lp9++o.blk d rd))) zp<|J.qU (cs:=[.slice a0 (64*N) c0,.int .i64 σ.p,.int .i64 σ.k]) (vs:=[.int .i64 (max n0 (-1))]) (l':=(rd,rfO (.slice a0 (64*N) c0) (⟨σ.B,max n0 (-1),σ.k⟩:DS).p (⟨σ.B,max n0 (-1),σ.k⟩:DS).k)::((zb,cb (cOp ⟨K,n0,⟨kx,vx,⟨au,cu,bx⟩⟩⟩) 78)::(d,dkO s N (⟨σ.B,max n0 (-1),σ.k⟩:DS).p (⟨σ.B,max n0 (-1),σ.k⟩:DS).k)::(s,dkS σ.B)::(lp9++o.blk d rd))) Ty.s3 rfl rfl rfl rfl (fun v hv=>by rw [List.mem_singleton.1 hv];rfl) .here (by show _≤3;omega) ?_;refine J.nil ?_;refine JX.qd (hK18 _ _ ?_);refine JC.qX<|JX.qE<|JX.qT<|JX.qd ?_
         exact JX.cut (hK11 ⟨i+1,o,(⟨σ.B,max n0 (-1),σ.k⟩:DS),lp9⟩) ⟨rfl,rfl,rfl,rfl,rfl,rfl,rfl,rfl,rfl,trivial⟩ (fun w1 hw=>⟨⟨rfl,⟨by simp only;omega,hlen,hk0,by simp only;omega,by simp only;omega,hv9,hpr.pow _ (by omega)⟩⟩,(hw.perm (zp:List.Perm _ ((zb,cb (cOp ⟨K,n0,⟨kx,vx,⟨au,cu,bx⟩⟩⟩) 78)::((d,dkO s N (⟨σ.B,max n0 (-1),σ.k⟩:DS).p (⟨σ.B,max n0 (-1),σ.k⟩:DS).k)::(s,dkS σ.B)::(rd,rfO (.slice a0 (64*N) c0) (⟨σ.B,max n0 (-1),σ.k⟩:DS).p (⟨σ.B,max n0 (-1),σ.k⟩:DS).k)::(lp9++o.blk d rd))))).drop (List.sublist_cons_self _ _)⟩)
        ·try simp only [decide_eq_true_eq,decide_eq_false_iff_not,beq_iff_eq,bne_iff_ne,bne_eq_false_iff_eq,ne_eq,beq_eq_false_iff_ne,Bool.not_eq_true,Bool.not_eq_false,Int.not_lt,Int.not_le] at h3
         refine JC.skip ?_;refine JX.qd (hK15 _ _ ?_);refine JC.seq (fun K19 hK19=>?_);refine JC.zy (α:=Bool) (fun bb=>[(5,.pointer (some ⟨d,0,none⟩)),(6,.pointer (some ⟨rd,0,none⟩)),(7,o.pv),(8,.int .i64 o.e),(9,o.pw),(10,.int .i64 o.e),(12,.pointer (some ⟨zb,0,none⟩)),(55,.slice aq os.length cq),(56,.int .i64 ((os.length:Nat):Int)),(57,.int .i64 ((i:Nat):Int)),(111,.bool bb)]) (fun bb w'=>(bb=false→o.live∧0≤K∧K≤3)∧St w [] ((zb,cb (cOp ⟨K,n0,⟨kx,vx,⟨au,cu,bx⟩⟩⟩) 78)::(d,dkO s N σ.p σ.k)::(s,dkS σ.B)::(rd,rfO (.slice a0 (64*N) c0) σ.p σ.k)::(lp9++o.blk d rd)) w') (fun bb=>?_) (fun K20 hK20=>?_)
         ·refine JC.pr (fun hbb=>?_);refine JC.qn rfl (fun h4=>?_) (fun h4=>?_)
          ·try simp only [decide_eq_true_eq,decide_eq_false_iff_not,beq_iff_eq,bne_iff_ne,bne_eq_false_iff_eq,ne_eq,beq_eq_false_iff_ne,Bool.not_eq_true,Bool.not_eq_false,Int.not_lt,Int.not_le] at h4
           refine JC.seq (fun K21 hK21=>?_);refine JC.region<|J.qe rfl rfl<|J.perm ([(d,dkO s N σ.p σ.k),(s,dkS σ.B)]++((rd,rfO (.slice a0 (64*N) c0) σ.p σ.k)::(lp9++((zb,cb (cOp ⟨K,n0,⟨kx,vx,⟨au,cu,bx⟩⟩⟩) 78)::o.blk d rd)))) zp ?_;refine J.qO (α:=VO) (V:=VO.val) (Pr:=fun z=>z.Pr N ⟨σ.B,σ.p,σ.k⟩) (L:=fun z=>z.lst d s N) Ty.bd17 rfl rfl (fun w1 hw=>vopen_spec d s N σ.B σ.p σ.k w1 (St.owns hw) hlen (by omega) hk0 (by omega) hp) (fun z hz=>?_)
           rcases z with ⟨e1,σ1⟩ | ⟨v1,m1,l1,q1,inc1,L1,es1,ck1,σ1⟩
           ·simp only [VO.Pr,VO.lst] at hz ⊢
            obtain ⟨hz1,he1⟩:=hz
            obtain ⟨hpl,hpk,hpk2,hpp,hpd,hpo⟩:=plays_open hlen (by omega) (by omega) hp hpr.dg hz1
            refine J.name 114 rfl (show _=Value.tuple #[.pointer none,.int .i64 e1] from rfl) ?_;refine J.qe rfl rfl<|J.extract rfl rfl rfl<|J.extract rfl rfl rfl<|J.assign rfl rfl<|J.assign rfl rfl<|J.nil ?_;refine JX.qd (hK21 _ _ ?_);refine JC.seq (fun K22 hK22=>?_);refine JC.region<|J.qe rfl rfl<|J.perm (((rd,rfO (.slice a0 (64*N) c0) σ.p σ.k)::lp9)++((d,dkO s N σ1.p σ1.k)::(s,dkS σ1.B)::((zb,cb (cOp ⟨K,n0,⟨kx,vx,⟨au,cu,bx⟩⟩⟩) 78)::o.blk d rd))) zp ?_;refine J.qO (α:=RO) (V:=RO.val) (Pr:=fun z=>z.Pr N ⟨σ.B,σ.p,σ.k⟩ (.slice a0 (64*N) c0)) (L:=fun z=>z.lst rd (.slice a0 (64*N) c0)) (l1:=(rd,rfO (.slice a0 (64*N) c0) σ.p σ.k)::lp9) Ty.bd30 rfl rfl (fun w1 hw=>yT rd N _ lp9 σ.B σ.p σ.k w1 (St.owns hw) hv9 hlen (by omega) hk0 (by omega) hp) (fun z hz=>?_)
            rcases z with ⟨e2,σ2,lpn⟩ | ⟨v2,l2,q2,inc2,A2,ys,yv,yl,σ2,lpn⟩
            rotate_left
            ·exact absurd (congrArg (fun x=>x.1) (hz1.symm.trans hz.1)) he1
            simp only [RO.Pr,RO.lst] at hz ⊢
            obtain ⟨hz2,he2,hvn⟩:=hz
            have hz3:=hz1.symm.trans hz2
            simp only [Prod.mk.injEq,true_and] at hz3
            obtain ⟨he9,hs9⟩:=hz3
            subst he9 hs9
            refine J.name 119 rfl (show _=Value.tuple #[.pointer none,.int .i64 e1] from rfl) ?_;refine J.qe rfl rfl<|J.extract rfl rfl rfl<|J.extract rfl rfl rfl<|J.assign rfl rfl<|J.assign rfl rfl<|J.nil ?_;refine JX.qd (hK22 _ _ ?_);refine JC.qX<|JX.qE<|JX.qT<|JX.qd ?_
            exact JX.cut (hK11 ⟨i+1,.bad e1,σ1,lpn⟩) ⟨rfl,rfl,rfl,rfl,rfl,rfl,rfl,rfl,rfl,trivial⟩ (fun w1 hw=>⟨⟨rfl,⟨by simp only;omega,hpl,by simp only;omega,by simp only;omega,hpp,hvn,hpd⟩⟩,(hw.perm (zp:List.Perm _ (((zb,cb (cOp ⟨K,n0,⟨kx,vx,⟨au,cu,bx⟩⟩⟩) 78)::o.blk d rd)++((d,dkO s N σ1.p σ1.k)::(s,dkS σ1.B)::(rd,rfO (.slice a0 (64*N) c0) σ1.p σ1.k)::(lpn++([])))))).drop (List.sublist_append_right _ _)⟩)
           ·simp only [VO.Pr,VO.lst] at hz ⊢
            obtain ⟨hz1,hT1,hV1⟩:=hz
            obtain ⟨hpl,hpk,hpk2,hpp,hpd,hpo⟩:=plays_open hlen (by omega) (by omega) hp hpr.dg hz1
            obtain ⟨hlog1,hg1,hLn1,hLs1⟩:=hpo q1 inc1 _ rfl
            rw [List.length_map] at hLn1
            refine J.name 114 rfl (show _=Value.tuple #[.pointer (some ⟨v1,0,none⟩),.int .i64 0] from rfl) ?_;refine J.qe rfl rfl<|J.extract rfl rfl rfl<|J.extract rfl rfl rfl<|J.assign rfl rfl<|J.assign rfl rfl<|J.nil ?_;refine JX.qd (hK21 _ _ ?_);refine JC.seq (fun K23 hK23=>?_);refine JC.region<|J.qe rfl rfl<|J.perm (((rd,rfO (.slice a0 (64*N) c0) σ.p σ.k)::lp9)++((vltB v1 m1 l1 d s N q1 false inc1 es1 ck1 σ1++lpsH L1)++((zb,cb (cOp ⟨K,n0,⟨kx,vx,⟨au,cu,bx⟩⟩⟩) 78)::o.blk d rd))) zp ?_;refine J.qO (α:=RO) (V:=RO.val) (Pr:=fun z=>z.Pr N ⟨σ.B,σ.p,σ.k⟩ (.slice a0 (64*N) c0)) (L:=fun z=>z.lst rd (.slice a0 (64*N) c0)) (l1:=(rd,rfO (.slice a0 (64*N) c0) σ.p σ.k)::lp9) Ty.bd30 rfl rfl (fun w1 hw=>yT rd N _ lp9 σ.B σ.p σ.k w1 (St.owns hw) hv9 hlen (by omega) hk0 (by omega) hp) (fun z hz=>?_)
            rcases z with ⟨e2,σ2,lpn⟩ | ⟨v2,l2,q2,inc2,A2,ys,yv,yl,σ2,lpn⟩
            ·exact absurd (congrArg (fun x=>x.1) (hz1.symm.trans hz.1)).symm hz.2.1
            simp only [RO.Pr,RO.lst] at hz ⊢
            obtain ⟨hz2,hS,hW,hyl,hyv,hvn⟩:=hz
            have hz3:=hz1.symm.trans hz2
            simp only [Prod.mk.injEq,Option.some.injEq,true_and] at hz3
            obtain ⟨⟨hq9,hi9,hA9⟩,hs9⟩:=hz3
            subst hq9 hi9 hA9 hs9
            obtain ⟨ay,cy,rfl,hcy⟩:=hyv.form
            refine J.name 119 rfl (show _=Value.tuple #[.pointer (some ⟨v2,0,none⟩),.int .i64 0] from rfl) ?_;refine J.qe rfl rfl<|J.extract rfl rfl rfl<|J.extract rfl rfl rfl<|J.assign rfl rfl<|J.assign rfl rfl<|J.nil ?_;refine JX.qd (hK23 _ _ ?_);refine JC.qX<|JX.qE<|JX.qT<|JX.qd ?_
            exact JX.cut (hK11 ⟨i+1,.ok v1 m1 l1 q1 false inc1 L1 es1 ck1 v2 l2 ys ay cy yl,σ1,lpn⟩) ⟨rfl,rfl,rfl,rfl,rfl,rfl,rfl,rfl,rfl,trivial⟩ (fun w1 hw=>⟨⟨rfl,⟨by simp only;omega,hpl,by simp only;omega,by simp only;omega,hpp,hvn,⟨hlog1,by simp only;omega,hT1,hV1,by simp only;omega,fun x hx=>hLs1 x.it (List.mem_map.2 ⟨x,hx,rfl⟩),hS,hW,hyv⟩⟩⟩,(hw.perm (zp:List.Perm _ (((zb,cb (cOp ⟨K,n0,⟨kx,vx,⟨au,cu,bx⟩⟩⟩) 78)::o.blk d rd)++((d,dkO s N σ1.p σ1.k)::(s,dkS σ1.B)::(rd,rfO (.slice a0 (64*N) c0) σ1.p σ1.k)::(lpn++((v1,vaO (.pointer (some ⟨l1,0,none⟩)) m1 ((inc1:Nat):Int))::(m1,.map es1 ck1)::(l1,lgO d q1 false)::(v2,cb [.pointer (some ⟨l2,0,none⟩),.slice ay ys.length cy,.int .i64 ((inc1:Nat):Int)] 74)::(l2,rlO rd q1 false)::(yl++(lpsH L1++lpsH ys)))))))).drop (List.sublist_append_right _ _)⟩)
          ·obtain ⟨hlive,hK0,hK3⟩:=hbb h4
           rcases o with e | ⟨v1,m1,l1,q,dn,inc,L,es,ck,v2,l2,ys,ay,cy,yl⟩
           ·exact hlive.elim
           obtain ⟨hlog,hgen,hT,hV,hLn,hLs,hS,hW,hyv⟩:=hpr
           refine JC.conseq (I':=St w [] ((zb,cb (cOp ⟨K,n0,⟨kx,vx,⟨au,cu,bx⟩⟩⟩) 78)::(d,dkO s N σ.p σ.k)::(s,dkS σ.B)::(rd,rfO (.slice a0 (64*N) c0) σ.p σ.k)::(lp9++((v1,vaO (.pointer (some ⟨l1,0,none⟩)) m1 ((inc:Nat):Int))::(m1,.map es ck)::(l1,lgO d q dn)::(v2,cb [.pointer (some ⟨l2,0,none⟩),.slice ay ys.length cy,.int .i64 ((inc:Nat):Int)] 74)::(l2,rlO rd q dn)::(yl++(lpsH L++lpsH ys)))))) ?_ (fun w1 hw=>hw)
           refine JC.skip ?_;refine JX.qd (hK19 _ _ ?_);refine JC.seq (fun K24 hK24=>?_);refine JC.region<|J.qi Ty.fd78_2 rfl rfl<|J.qC (vs:=cT kx vx (.slice au bx.length cu)) Ty.a28 Ty.s28 rfl rfl (fun w1 hw=>Cells.of_block (hw.own ((zb,cb (cOp ⟨K,n0,⟨kx,vx,⟨au,cu,bx⟩⟩⟩) 78)) zm) rfl) rfl ?_;refine J.perm ([]++((zb,cb (cOp ⟨K,n0,⟨kx,vx,⟨au,cu,bx⟩⟩⟩) 78)::(d,dkO s N σ.p σ.k)::(s,dkS σ.B)::(rd,rfO (.slice a0 (64*N) c0) σ.p σ.k)::(lp9++((v1,vaO (.pointer (some ⟨l1,0,none⟩)) m1 ((inc:Nat):Int))::(m1,.map es ck)::(l1,lgO d q dn)::(v2,cb [.pointer (some ⟨l2,0,none⟩),.slice ay ys.length cy,.int .i64 ((inc:Nat):Int)] 74)::(l2,rlO rd q dn)::(yl++(lpsH L++lpsH ys)))))) (.refl _) ?_;refine J.qO (α:=Value × List (Nat × Obj)) (V:=fun y=>.agg (cT kx vx y.1).toArray) (Pr:=fun y=>Vec 5 1 y.1 (bx).length ((bx).map u8) y.2) (L:=(·.2)) (l1:=[]) Ty.bd33 rfl rfl (fun w1 hw=>lcopied_spec (cT kx vx (.slice au bx.length cu)) kx vx bx _ w1 rfl (hzr.below (hw.drop (List.nil_sublist _)).below) (by omega)) (fun y hxv=>?_)
           obtain ⟨vX,lX⟩:=y
           try simp only at hxv ⊢
           obtain ⟨ax,cx,rfl,hcx⟩:=hxv.form
           refine J.alloc Ty.zIt rfl rfl (fun zt=>?_);refine J.qN (cs:=cH zH) (vs:=(cT kx vx (.slice ax bx.length cx))) Ty.s28 rfl rfl rfl rfl rfl zF .here<|J.nil ?_;refine JX.qd (hK24 _ _ ?_);refine JC.zy (α:=PlS) (fun st=>[(5,.pointer (some ⟨d,0,none⟩)),(6,.pointer (some ⟨rd,0,none⟩)),(7,st.o.pv),(8,.int .i64 st.o.e),(9,st.o.pw),(10,.int .i64 st.o.e),(12,.pointer (some ⟨zb,0,none⟩)),(13,.pointer (some ⟨zt,0,none⟩)),(55,.slice aq os.length cq),(56,.int .i64 ((os.length:Nat):Int)),(57,.int .i64 ((i:Nat):Int))]) (fun st w'=>(st.i=i+1∧PlI N (.slice a0 (64*N) c0) st∧st.o.live)∧St w [] ((zt,cb (cT kx vx (.slice ax bx.length cx)) 28)::(lX++((zb,cb (cOp ⟨K,n0,⟨kx,vx,⟨au,cu,bx⟩⟩⟩) 78)::(d,dkO s N st.σ.p st.σ.k)::(s,dkS st.σ.B)::(rd,rfO (.slice a0 (64*N) c0) st.σ.p st.σ.k)::(st.lp++st.o.blk d rd)))) w') (fun st=>?_) (fun K25 hK25=>?_)
           ·obtain ⟨i2,o,σ,lp9⟩:=st
            refine JC.pr (fun hI2=>?_)
            obtain ⟨rfl,hI,hlive⟩:=hI2
            try simp only at hI hlive ⊢
            rcases o with e | ⟨v1,m1,l1,q,dn,inc,L,es,ck,v2,l2,ys,ay,cy,yl⟩
            ·exact hlive.elim
            obtain ⟨hi121,hlen,hk0,hkb,hp,hv9,hpr⟩:=id hI
            try simp only at hi121 hlen hk0 hkb hp hv9 hpr
            obtain ⟨hlog,hgen,hT,hV,hLn,hLs,hS,hW,hyv⟩:=hpr
            refine JC.conseq (I':=St w [] ((zt,cb (cT kx vx (.slice ax bx.length cx)) 28)::(lX++((zb,cb (cOp ⟨K,n0,⟨kx,vx,⟨au,cu,bx⟩⟩⟩) 78)::(d,dkO s N σ.p σ.k)::(s,dkS σ.B)::(rd,rfO (.slice a0 (64*N) c0) σ.p σ.k)::(lp9++((v1,vaO (.pointer (some ⟨l1,0,none⟩)) m1 ((inc:Nat):Int))::(m1,.map es ck)::(l1,lgO d q dn)::(v2,cb [.pointer (some ⟨l2,0,none⟩),.slice ay ys.length cy,.int .i64 ((inc:Nat):Int)] 74)::(l2,rlO rd q dn)::(yl++(lpsH L++lpsH ys)))))))) ?_ (fun w1 hw=>hw)
            refine JC.seq (fun K26 hK26=>?_);refine JC.seq (fun K27 hK27=>?_);refine JC.region<|J.qC (vs:=cT kx vx (.slice ax bx.length cx)) Ty.a28 Ty.s28 rfl rfl (fun w1 hw=>Cells.of_block (hw.own ((zt,cb (cT kx vx (.slice ax bx.length cx)) 28)) zm) rfl) rfl ?_;refine J.qi Ty.fd78_2 rfl rfl<|J.qC (vs:=cT kx vx (.slice au bx.length cu)) Ty.a28 Ty.s28 rfl rfl (fun w1 hw=>Cells.of_block (hw.own ((zb,cb (cOp ⟨K,n0,⟨kx,vx,⟨au,cu,bx⟩⟩⟩) 78)) zm) rfl) rfl ?_
            refine J.qR (v:=.bool true) (fun w1 w2 hw hb=>hw.step hb) Ty.bd35 rfl rfl (fun w1 hw=>by
             have h9:=one_spec _ _ ⟨kx,vx,bx,.slice ax bx.length cx,lX⟩ ⟨kx,vx,bx,.slice au bx.length cu,[]⟩ w1 rfl rfl ⟨⟨_,_,rfl⟩,qW hxv hw (fun p hp=>by simp [hp]),hvx⟩ ⟨⟨_,_,rfl⟩,(hzr.below (hw.drop (List.nil_sublist _)).below),hvx⟩
             rw [decide_eq_true (show (⟨kx,vx,bx,.slice ax bx.length cx,lX⟩:HI).it=(⟨kx,vx,bx,.slice au bx.length cu,[]⟩:HI).it from rfl)] at h9
             exact h9) ?_
            refine J.zC rfl rfl<|J.nil ?_;refine JX.qd (hK27 _ _ ?_)
            first | refine JC.qI rfl ?_ | refine JC.qn rfl (fun h=>by first | (exfalso;simp at h;omega) | (simp at h)) (fun _=>?_)
            refine JC.skip ?_;refine JX.qd (hK26 _ _ ?_);refine JC.seq (fun K28 hK28=>?_);refine JC.seq (fun K29 hK29=>?_);refine JC.region<|J.qi Ty.fd28_2 rfl rfl<|J.qw (v:=(.slice ax bx.length cx)) Ty.a26 rfl (fun w1 hw=>by rw [qB (hw.own ((zt,cb (cT kx vx (.slice ax bx.length cx)) 28)) zm)];rfl) rfl ?_;refine J.qK rfl Ty.u26 rfl rfl<|J.qe rfl rfl<|J.nil ?_;refine JX.qd (hK29 _ _ ?_);refine JC.block ?_
            refine JC.conseq (JC.cov (f:=(fun st=>[(5,.pointer (some ⟨d,0,none⟩)),(6,.pointer (some ⟨rd,0,none⟩)),(7,.pointer (some ⟨v1,0,none⟩)),(8,.int .i64 0),(9,.pointer (some ⟨v2,0,none⟩)),(10,.int .i64 0),(12,.pointer (some ⟨zb,0,none⟩)),(13,.pointer (some ⟨zt,0,none⟩)),(55,.slice aq os.length cq),(56,.int .i64 ((os.length:Nat):Int)),(57,.int .i64 ((i:Nat):Int)),(247,.int .i64 ((bx.length:Nat):Int)),(248,.int .i64 ((st.1:Nat):Int))]) ((0,bx,lX):Nat × List UInt8 × List (Nat × Obj))) ⟨rfl,rfl,rfl,rfl,rfl,rfl,rfl,rfl,rfl,rfl,rfl,rfl,rfl,trivial⟩ (JC.loop (α:=Nat × List UInt8 × List (Nat × Obj)) (fun st=>[(5,.pointer (some ⟨d,0,none⟩)),(6,.pointer (some ⟨rd,0,none⟩)),(7,.pointer (some ⟨v1,0,none⟩)),(8,.int .i64 0),(9,.pointer (some ⟨v2,0,none⟩)),(10,.int .i64 0),(12,.pointer (some ⟨zb,0,none⟩)),(13,.pointer (some ⟨zt,0,none⟩)),(55,.slice aq os.length cq),(56,.int .i64 ((os.length:Nat):Int)),(57,.int .i64 ((i:Nat):Int)),(247,.int .i64 ((bx.length:Nat):Int)),(248,.int .i64 ((st.1:Nat):Int))]) (fun st w'=>(st.1≤bx.length∧Vec 5 1 (.slice ax bx.length cx) bx.length (st.2.1.map u8) st.2.2)∧St w [] (st.2.2++((zt,cb (cT kx vx (.slice ax bx.length cx)) 28)::((zb,cb (cOp ⟨K,n0,⟨kx,vx,⟨au,cu,bx⟩⟩⟩) 78)::(d,dkO s N σ.p σ.k)::(s,dkS σ.B)::(rd,rfO (.slice a0 (64*N) c0) σ.p σ.k)::(lp9++((v1,vaO (.pointer (some ⟨l1,0,none⟩)) m1 ((inc:Nat):Int))::(m1,.map es ck)::(l1,lgO d q dn)::(v2,cb [.pointer (some ⟨l2,0,none⟩),.slice ay ys.length cy,.int .i64 ((inc:Nat):Int)] 74)::(l2,rlO rd q dn)::(yl++(lpsH L++lpsH ys))))))) w') (fun st=>bx.length - st.1) ((0,bx,lX):Nat × List UInt8 × List (Nat × Obj)) (fun st=>?_))) (fun w hw=>⟨⟨Nat.zero_le _,hxv⟩,hw.perm zp⟩)
            obtain ⟨jx,yx,lx⟩:=st
            refine JC.pr (fun hx=>?_)
            obtain ⟨hjx,hvx⟩:=hx
            simp only at hjx hvx ⊢
            refine JC.seq (fun K30 hK30=>?_);refine JC.region<|J.qj rfl rfl rfl rfl<|J.nil ?_;refine JX.qd (hK30 _ _ ?_);refine JC.seq (fun K31 hK31=>?_);refine JC.qn rfl (fun h13=>?_) (fun h13=>?_)
            ·have hltx:jx<bx.length:=by simp at h13;omega
             obtain ⟨qx,sx,hqx,rfl,hyx,hfx⟩:=hvx.at hltx
             subst hqx
             refine JC.skip ?_;refine JX.qd (hK31 _ _ ?_);refine JC.seq (fun K32 hK32=>?_);refine JC.block ?_;refine JC.seq (fun K33 hK33=>?_);refine JC.region<|J.qe rfl rfl<|J.assign rfl rfl<|J.nil ?_;refine JX.qd (hK33 _ _ ?_);refine JC.region<|J.qi Ty.fd28_2 rfl rfl<|J.qw (v:=(.slice (some ⟨qx,0,none⟩) bx.length cx)) Ty.a26 rfl (fun w1 hw=>by rw [qB (hw.own ((zt,cb (cT kx vx (.slice (some ⟨qx,0,none⟩) bx.length cx)) 28)) zm)];rfl) rfl ?_;refine J.qe rfl rfl<|J.qu Ty.el26 Ty.s5 rfl rfl (by omega) (by omega) rfl ?_;refine J.qQ (v:=u8 (yx[jx]'(by omega))) Ty.a5 rfl (.head _) (at_u8 (by omega)) rfl ?_;refine J.qj rfl rfl rfl rfl<|J.name 256 rfl (u8_succ (yx[jx]'(by omega))) ?_;refine J.qu Ty.el26 Ty.s5 rfl rfl (by omega) (by omega) rfl ?_;refine J.qU (vs:=[u8 (yx[jx]'(by omega)+1)]) Ty.s5 rfl rfl rfl rfl (by simp [Value.oneCell']) .here (by simp;omega) ?_;refine J.nil<|JX.qJ ?_;refine JX.qd (hK32 _ _ ?_);refine JC.region ?_
             (first | refine J.qG rfl rfl (by omega) (by omega) rfl ?_ | refine J.qj rfl rfl rfl rfl ?_)
             refine J.qe rfl rfl<|J.nil<|JX.qd<|JX.qS (jx+1,yx.set jx (yx[jx]'(by omega)+1),[(qx,cb (setMany (yx.map u8++sx) (0+(jx:Int).toNat*1) [u8 (yx[jx]'(by omega)+1)]) 5)]) ?_ ?_ ?_
             ·simp only;omega
             ·exact ⟨rfl,rfl,rfl,rfl,rfl,rfl,rfl,rfl,rfl,rfl,rfl,rfl,rfl,trivial⟩
             ·exact fun w hw=>⟨⟨hltx,hfx _⟩,hw⟩
            ·have hgex:jx=bx.length:=by simp at h13;omega
             refine JC.qX<|JX.qE<|JX.qE<|JX.qT ?_;refine JX.qd (hK28 _ _ ?_);refine JC.seq (fun K34 hK34=>?_)
             refine JC.conseq (I':=St w [] ((v1,vaO (.pointer (some ⟨l1,0,none⟩)) m1 ((inc:Nat):Int))::(m1,.map es ck)::(l1,lgO d q dn)::(d,dkO s N σ.p σ.k)::(s,dkS σ.B)::(v2,cb [.pointer (some ⟨l2,0,none⟩),.slice ay ys.length cy,.int .i64 ((inc:Nat):Int)] 74)::(l2,rlO rd q dn)::(rd,rfO (.slice a0 (64*N) c0) σ.p σ.k)::(lp9++(yl++(lpsH L++lpsH ys))))) ?_ (fun w1 hw=>(hw.perm (zp:List.Perm _ ((lx++[(zt,cb (cT kx vx (.slice ax bx.length cx)) 28),(zb,cb (cOp ⟨K,n0,⟨kx,vx,⟨au,cu,bx⟩⟩⟩) 78)])++((v1,vaO (.pointer (some ⟨l1,0,none⟩)) m1 ((inc:Nat):Int))::(m1,.map es ck)::(l1,lgO d q dn)::(d,dkO s N σ.p σ.k)::(s,dkS σ.B)::(v2,cb [.pointer (some ⟨l2,0,none⟩),.slice ay ys.length cy,.int .i64 ((inc:Nat):Int)] 74)::(l2,rlO rd q dn)::(rd,rfO (.slice a0 (64*N) c0) σ.p σ.k)::(lp9++(yl++(lpsH L++lpsH ys))))))).drop (List.sublist_append_right _ _))
             have hsubL:∀x,x∈L→∀p,p∈x.lp→p∈lpsH L:=fun x hx p hp=>List.mem_flatMap.2 ⟨x,hx,hp⟩
             have hsubY:∀x,x∈ys→∀p,p∈x.lp→p∈lpsH ys:=fun x hx p hp=>List.mem_flatMap.2 ⟨x,hx,hp⟩
             apply JC.zc 29 [Eqv (.pointer (some ⟨v1,0,none⟩)),RowH (L.map HI.it),Eqv (.pointer (some ⟨v2,0,none⟩)),Eqv (.pointer (some ⟨v2,0,none⟩)),Eqv (.pointer (some ⟨v2,0+1,none⟩)),Eqv (.slice ay ys.length cy),Eqv (.bool true),Eqv (.bool false),Eqv (.bool false),Eqv (.pointer (some ⟨v1,0,none⟩)),Eqv (.int .i64 ((inc:Nat):Int)),Eqv (.pointer (some ⟨v2,0,none⟩)),Eqv (.pointer (some ⟨v2,0,none⟩)),Eqv (.pointer (some ⟨v2,0+2,none⟩)),Eqv (.int .i64 ((inc:Nat):Int)),Eqv (.bool false),Eqv (.bool false),Eqv (.bool false),Eqv (.pointer (some ⟨v1,0,none⟩)),Eqv (.bool dn),Eqv (.pointer (some ⟨v2,0,none⟩)),Eqv (.pointer (some ⟨v2,0,none⟩)),Eqv (.pointer (some ⟨v2,0+0,none⟩)),Eqv (.pointer (some ⟨l2,0,none⟩)),Eqv (.pointer (some ⟨l2,0,none⟩)),Eqv (.pointer (some ⟨l2,0+4,none⟩)),Eqv (.bool dn),Eqv (.bool false),Eqv (.bool false)] Ty.mixed rfl rfl rfl (by kernel_rfl) rfl rfl (fun w w' hw hb=>hw.step hb) ⟨fun _ _ _ h _=>h,RowH.st _,fun _ _ _ h _=>h,fun _ _ _ h _=>h,fun _ _ _ h _=>h,fun _ _ _ h _=>h,fun _ _ _ h _=>h,fun _ _ _ h _=>h,fun _ _ _ h _=>h,fun _ _ _ h _=>h,fun _ _ _ h _=>h,fun _ _ _ h _=>h,fun _ _ _ h _=>h,fun _ _ _ h _=>h,fun _ _ _ h _=>h,fun _ _ _ h _=>h,fun _ _ _ h _=>h,fun _ _ _ h _=>h,fun _ _ _ h _=>h,fun _ _ _ h _=>h,fun _ _ _ h _=>h,fun _ _ _ h _=>h,fun _ _ _ h _=>h,fun _ _ _ h _=>h,fun _ _ _ h _=>h,fun _ _ _ h _=>h,fun _ _ _ h _=>h,fun _ _ _ h _=>h,fun _ _ _ h _=>h,trivial⟩ ?hstep ?htail
             case hstep=>
              refine ⟨fun wi=>?_,fun wi=>?_,fun wi=>?_,fun wi=>?_,fun wi=>?_,fun wi=>?_,fun wi=>?_,fun wi=>?_,fun wi=>?_,fun wi=>?_,fun wi=>?_,fun wi=>?_,fun wi=>?_,fun wi=>?_,fun wi=>?_,fun wi=>?_,fun wi=>?_,fun wi=>?_,fun wi=>?_,fun wi=>?_,fun wi=>?_,fun wi=>?_,fun wi=>?_,fun wi=>?_,fun wi=>?_,fun wi=>?_,fun wi=>?_,fun wi=>?_,fun wi=>?_,trivial⟩
              ·refine Fin.nil<|J.qe rfl rfl ?_
               exact J.qm rfl
              ·refine Fin.qc rfl (Fin.nil ?_)
               refine J.callA (RowH (L.map HI.it)) Ty.bd20 rfl rfl (fun w1 hw=>by
                have hw:=hw.perm (zp:List.Perm _ ([(v1,vaO (.pointer (some ⟨l1,0,none⟩)) m1 ((inc:Nat):Int)),(m1,.map es ck)]++((l1,lgO d q dn)::(d,dkO s N σ.p σ.k)::(s,dkS σ.B)::(v2,cb [.pointer (some ⟨l2,0,none⟩),.slice ay ys.length cy,.int .i64 ((inc:Nat):Int)] 74)::(l2,rlO rd q dn)::(rd,rfO (.slice a0 (64*N) c0) σ.p σ.k)::(lp9++(yl++(lpsH L++lpsH ys))))))
                refine (vall_spec v1 m1 _ _ L es ck hT hV (by omega) w1 (St.owns hw) (fun x hx=>⟨qW (hV x hx).2 hw (fun p hp=>by simp [hsubL x hx p hp]),zY (hV x hx).2 (fun p0 hp0=>St.off (l1:=[(v1,vaO (.pointer (some ⟨l1,0,none⟩)) m1 ((inc:Nat):Int)),(m1,.map es ck)]) hw (o:=p0.2) (by simp [hsubL x hx p0 hp0])),by have:=hLs x hx;show x.bs.length≤1000;omega⟩)).mono fun _ w2 ⟨x,h1,⟨h2,h3,h4⟩,h5⟩=>?_
                obtain ⟨zs,vz,lz⟩:=x
                simp only at h1 h2 h3 h4 h5
                have hzl:=srt_len h2
                exact ⟨vz,h1,⟨zs,h2,by omega,h4.row h5,fun x hx=>⟨by obtain ⟨a9,c9,h9,_⟩:=(h3 x hx).2.form;exact ⟨a9,c9,h9⟩,qW (h3 x hx).2 h5 (fun p hp=>List.mem_append_right _ (List.mem_append_left _ (List.mem_flatMap.2 ⟨x,hx,hp⟩))),okN_up (h3 x hx).1.1 (by have:=(h3 x hx).1.2;omega)⟩⟩,h5.same (St.owns hw) (fun p hp=>List.mem_append_right _ (List.mem_append_right _ hp))⟩) (fun v260=>?_)
               refine J.nil (JX.fin rfl (fun w hw=>⟨hw.1,hw.2⟩))
              ·refine Fin.nil<|J.qe rfl rfl ?_
               exact J.qm rfl
              ·refine Fin.qc rfl (Fin.nil ?_);refine J.qq rfl rfl ?_
               exact J.qm rfl
              ·refine Fin.qc rfl (Fin.nil ?_);refine J.qi Ty.fd74_1 rfl rfl ?_
               exact J.qm rfl
              ·refine Fin.qc rfl (Fin.nil ?_);refine J.qw (v:=.slice ay ys.length cy) Ty.a44 rfl (fun w1 hw=>(qB (hw.2.own ((v2,cb [.pointer (some ⟨l2,0,none⟩),.slice ay ys.length cy,.int .i64 ((inc:Nat):Int)] 74)) zm)).trans rfl) rfl ?_
               exact J.qm rfl
              ·refine Fin.cons (fun v49_1=>Fin.qc rfl (Fin.cons (fun v49_1=>Fin.nil ?_)))
               first | refine J.prR ?_ | refine J.two ?_
               first | refine J.prR ?_ | refine J.two ?_
               refine J.zD (v:=.bool true) Ty.bd32 rfl rfl (fun w1 hw=>by
                obtain ⟨⟨zs,h2,h3,h4,h5⟩,hw⟩:=hw
                have h9:=rsame_spec _ _ zs ys w1 h4 (qW hyv hw zq) h5 (fun x hx=>⟨by obtain ⟨a9,c9,h9,_⟩:=(hW x hx).2.form;exact ⟨a9,c9,h9⟩,qW (hW x hx).2 hw (fun p hp=>by simp [hsubY x hx p hp]),okN_up (hW x hx).1.1 (by have:=(hW x hx).1.2;omega)⟩) (by omega) (by have:=srt_len hS;omega)
                rw [decide_eq_true (srt_one h2 hS)] at h9
                exact h9) ?_
               exact J.zQ rfl
              ·refine Fin.qc rfl (Fin.nil ?_);refine J.zC rfl rfl ?_
               exact J.qm rfl
              ·refine Fin.qc rfl (Fin.qc rfl (Fin.nil ?_))
               refine J.qe rfl rfl ?_
               exact J.qm rfl
              ·refine Fin.qc rfl (Fin.nil ?_)
               first | refine J.skip rfl rfl rfl rfl rfl ?_ | refine J.qh rfl rfl rfl rfl ?_ | (refine J.qf rfl rfl rfl ?_;refine J.qe rfl rfl ?_)
               exact J.qm rfl
              ·refine Fin.qc rfl (Fin.qc rfl (Fin.qc rfl (Fin.nil ?_)))
               refine J.qf rfl rfl rfl<|J.zD Ty.bd18 rfl rfl (fun w1 hw=>inc_spec v1 m1 _ ((inc:Nat):Int) w1 (St.owns' hw)) ?_
               exact J.zQ rfl
              ·refine Fin.qc rfl (Fin.nil ?_)
               first | refine J.skip rfl rfl rfl rfl rfl ?_ | refine J.qh rfl rfl rfl rfl ?_ | (refine J.qf rfl rfl rfl ?_;refine J.qe rfl rfl ?_)
               exact J.qm rfl
              ·refine Fin.qc rfl (Fin.qc rfl (Fin.nil ?_))
               first | refine J.skip rfl rfl rfl rfl rfl ?_ | refine J.qh rfl rfl rfl rfl ?_ | (refine J.qf rfl rfl rfl ?_;refine J.qq rfl rfl ?_)
               exact J.qm rfl
              ·refine Fin.qc rfl (Fin.qc rfl (Fin.nil ?_))
               first | refine J.skip rfl rfl rfl rfl rfl ?_ | refine J.qh rfl rfl rfl rfl ?_ | (refine J.qf rfl rfl rfl ?_;refine J.qi Ty.fd74_2 rfl rfl ?_)
               exact J.qm rfl
              ·refine Fin.qc rfl (Fin.qc rfl (Fin.nil ?_))
               refine J.qf rfl rfl rfl<|J.qw (v:=.int .i64 ((inc:Nat):Int)) Ty.a2 rfl (fun w1 hw=>(qB (hw.2.own ((v2,cb [.pointer (some ⟨l2,0,none⟩),.slice ay ys.length cy,.int .i64 ((inc:Nat):Int)] 74)) zm)).trans rfl) rfl ?_
               exact J.qm rfl
              ·refine Fin.qc rfl (Fin.qc rfl (Fin.qc rfl (Fin.nil ?_)))
               refine J.qf rfl rfl rfl<|J.qj rfl rfl rfl rfl<|J.name 274 rfl (show Value.bool _=.bool false by simp) ?_
               exact J.qm rfl
              ·refine Fin.qc rfl (Fin.qc rfl (Fin.nil ?_))
               (first | refine J.qr rfl rfl rfl ?_ | refine J.qs rfl rfl rfl ?_)
               exact J.qm rfl
              ·refine Fin.qc rfl (Fin.qc rfl (Fin.nil ?_))
               refine J.qe rfl rfl ?_
               exact J.qm rfl
              ·refine Fin.qc rfl (Fin.nil ?_)
               first | refine J.skip rfl rfl rfl rfl rfl ?_ | refine J.qh rfl rfl rfl rfl ?_ | (refine J.qf rfl rfl rfl ?_;refine J.qe rfl rfl ?_)
               exact J.qm rfl
              ·refine Fin.qc rfl (Fin.qc rfl (Fin.qc rfl (Fin.nil ?_)))
               refine J.qf rfl rfl rfl<|J.zD Ty.bd25 rfl rfl (fun w1 hw=>vdown_spec v1 m1 l1 d q dn _ w1 (St.owns' (hw.perm (zp:List.Perm _ ((v1,vaO (.pointer (some ⟨l1,0,none⟩)) m1 ((inc:Nat):Int))::(l1,lgO d q dn)::(m1,.map es ck)::((d,dkO s N σ.p σ.k)::(s,dkS σ.B)::(v2,cb [.pointer (some ⟨l2,0,none⟩),.slice ay ys.length cy,.int .i64 ((inc:Nat):Int)] 74)::(l2,rlO rd q dn)::(rd,rfO (.slice a0 (64*N) c0) σ.p σ.k)::(lp9++(yl++(lpsH L++lpsH ys))))))))) ?_
               exact J.zQ rfl
              ·refine Fin.qc rfl (Fin.nil ?_)
               first | refine J.skip rfl rfl rfl rfl rfl ?_ | refine J.qh rfl rfl rfl rfl ?_ | (refine J.qf rfl rfl rfl ?_;refine J.qe rfl rfl ?_)
               exact J.qm rfl
              ·refine Fin.qc rfl (Fin.qc rfl (Fin.nil ?_))
               first | refine J.skip rfl rfl rfl rfl rfl ?_ | refine J.qh rfl rfl rfl rfl ?_ | (refine J.qf rfl rfl rfl ?_;refine J.qq rfl rfl ?_)
               exact J.qm rfl
              ·refine Fin.qc rfl (Fin.qc rfl (Fin.nil ?_))
               first | refine J.skip rfl rfl rfl rfl rfl ?_ | refine J.qh rfl rfl rfl rfl ?_ | (refine J.qf rfl rfl rfl ?_;refine J.qi Ty.fd74_0 rfl rfl ?_)
               exact J.qm rfl
              ·refine Fin.qc rfl (Fin.qc rfl (Fin.nil ?_))
               refine J.qf rfl rfl rfl<|J.qw (v:=.pointer (some ⟨l2,0,none⟩)) Ty.a60 rfl (fun w1 hw=>(qB (hw.2.own ((v2,cb [.pointer (some ⟨l2,0,none⟩),.slice ay ys.length cy,.int .i64 ((inc:Nat):Int)] 74)) zm)).trans rfl) rfl ?_
               exact J.qm rfl
              ·refine Fin.qc rfl (Fin.qc rfl (Fin.nil ?_))
               first | refine J.skip rfl rfl rfl rfl rfl ?_ | refine J.qh rfl rfl rfl rfl ?_ | (refine J.qf rfl rfl rfl ?_;refine J.qq rfl rfl ?_)
               exact J.qm rfl
              ·refine Fin.qc rfl (Fin.qc rfl (Fin.nil ?_))
               first | refine J.skip rfl rfl rfl rfl rfl ?_ | refine J.qh rfl rfl rfl rfl ?_ | (refine J.qf rfl rfl rfl ?_;refine J.qi Ty.fd83_4 rfl rfl ?_)
               exact J.qm rfl
              ·refine Fin.qc rfl (Fin.qc rfl (Fin.nil ?_))
               refine J.qf rfl rfl rfl<|J.qw (v:=.bool dn) Ty.a4 rfl (fun w1 hw=>(qB (hw.2.own ((l2,rlO rd q dn)) zm)).trans rfl) rfl ?_
               exact J.qm rfl
              ·refine Fin.qc rfl (Fin.qc rfl (Fin.qc rfl (Fin.nil ?_)))
               refine J.qf rfl rfl rfl<|J.yH (.inr rfl) Ty.u4 rfl rfl rfl<|J.name 286 rfl (show Value.bool _=.bool false by simp) ?_
               exact J.qm rfl
              ·refine Fin.qc rfl (Fin.qc rfl (Fin.nil ?_))
               (first | refine J.qr rfl rfl rfl ?_ | refine J.qs rfl rfl rfl ?_)
               exact J.qm rfl
             case htail=>
              refine Fin.qc rfl (Fin.cons (fun v49_1=>Fin.qc rfl (Fin.qc rfl (Fin.qc rfl (Fin.qc rfl (Fin.qc rfl (Fin.qc rfl (Fin.qc rfl (Fin.qc rfl (Fin.qc rfl (Fin.qc rfl (Fin.qc rfl (Fin.qc rfl (Fin.qc rfl (Fin.qc rfl (Fin.qc rfl (Fin.qc rfl (Fin.qc rfl (Fin.qc rfl (Fin.qc rfl (Fin.qc rfl (Fin.qc rfl (Fin.qc rfl (Fin.qc rfl (Fin.qc rfl (Fin.qc rfl (Fin.qc rfl (Fin.qc rfl (Fin.nil ?_)))))))))))))))))))))))))))))
              refine J.drop<|J.nil ?_;refine JX.qd (hK34 _ _ ?_)
              first | refine JC.qI rfl ?_ | refine JC.qn rfl (fun h=>by first | (exfalso;simp at h;omega) | (simp at h)) (fun _=>?_)
              refine JC.skip<|JX.qJ<|JX.qd ?_
              exact JX.cut (hK11 ⟨i+1,.ok v1 m1 l1 q dn inc L es ck v2 l2 ys ay cy yl,σ,lp9⟩) ⟨rfl,rfl,rfl,rfl,rfl,rfl,rfl,rfl,rfl,trivial⟩ (fun w1 hw=>⟨⟨rfl,hI⟩,hw.perm (zp:List.Perm _ ((d,dkO s N σ.p σ.k)::(s,dkS σ.B)::(rd,rfO (.slice a0 (64*N) c0) σ.p σ.k)::(lp9++((v1,vaO (.pointer (some ⟨l1,0,none⟩)) m1 ((inc:Nat):Int))::(m1,.map es ck)::(l1,lgO d q dn)::(v2,cb [.pointer (some ⟨l2,0,none⟩),.slice ay ys.length cy,.int .i64 ((inc:Nat):Int)] 74)::(l2,rlO rd q dn)::(yl++(lpsH L++lpsH ys))))))⟩)
           ·refine JC.seq (fun K35 hK35=>?_);refine JC.region<|J.qi Ty.fd78_0 rfl rfl<|J.qw (v:=.int .i64 K) Ty.a3 rfl (fun w1 hw=>by rw [qB (hw.own ((zb,cb (cOp ⟨K,n0,⟨kx,vx,⟨au,cu,bx⟩⟩⟩) 78)) zm)];rfl) rfl ?_;refine J.nil ?_;refine JX.qd (hK35 _ _ ?_);refine JC.block ?_;refine JC.seq (fun K36 hK36=>?_);refine JC.region<|J.qj rfl rfl rfl rfl<|J.assign rfl rfl<|J.nil ?_;refine JX.qd (hK36 _ _ ?_);refine JC.qn rfl (fun h5=>?_) (fun h5=>?_)
            ·try simp only [decide_eq_true_eq,decide_eq_false_iff_not,beq_iff_eq,bne_iff_ne,bne_eq_false_iff_eq,ne_eq,beq_eq_false_iff_ne,Bool.not_eq_true,Bool.not_eq_false,Int.not_lt,Int.not_le] at h5
             refine JC.seq (fun K37 hK37=>?_);refine JC.region<|J.qe rfl rfl<|J.qi Ty.fd28_0 rfl rfl<|J.qC (vs:=cI kx) Ty.a23 Ty.s23 rfl rfl (fun w1 hw=>Cells.of_block (hw.own ((zt,cb (cT kx vx (.slice ax bx.length cx)) 28)) zm) rfl) rfl ?_;refine J.qi Ty.fd28_2 rfl rfl<|J.qw (v:=(.slice ax bx.length cx)) Ty.a26 rfl (fun w1 hw=>by rw [qB (hw.own ((zt,cb (cT kx vx (.slice ax bx.length cx)) 28)) zm)];rfl) rfl ?_;refine J.qi Ty.fd28_1 rfl rfl<|J.qi Ty.fd25_1 rfl rfl<|J.qC (vs:=cI vx.who) Ty.a23 Ty.s23 rfl rfl (fun w1 hw=>Cells.of_block (hw.own ((zt,cb (cT kx vx (.slice ax bx.length cx)) 28)) zm) rfl) rfl ?_;refine J.perm (vltB v1 m1 l1 d s N q dn inc es ck σ++((zt,cb (cT kx vx (.slice ax bx.length cx)) 28)::(lX++((zb,cb (cOp ⟨K,n0,⟨kx,vx,⟨au,cu,bx⟩⟩⟩) 78)::(v2,cb [.pointer (some ⟨l2,0,none⟩),.slice ay ys.length cy,.int .i64 ((inc:Nat):Int)] 74)::(l2,rlO rd q dn)::(rd,rfO (.slice a0 (64*N) c0) σ.p σ.k)::(lp9++(yl++(lpsH L++lpsH ys))))))) zp ?_;refine J.qO (α:=PutR) (V:=PutR.val) (Pr:=fun z=>z.Pr N q dn ⟨σ.B,σ.p,σ.k⟩ L kx bx vx.who) (L:=fun z=>z.lst v1 m1 l1 d s N inc es ck) Ty.bd24 rfl rfl (fun w1 hw=>vput_spec v1 m1 l1 d s N inc q dn σ.B σ.p σ.k L es ck hT hV hlog (by omega) hk0 (by omega) kx vx.who bx _ w1 (St.owns hw) (qW hxv hw (fun p hp=>by simp [hp])) (zY hxv (fun p0 hp0=>St.off (l1:=vltB v1 m1 l1 d s N q dn inc es ck σ) hw (o:=p0.2) (by simp [hp0]))) (by omega)) (fun z hz=>?_)
             rcases z with ⟨ea,qa,dna,σa⟩ | ⟨ha,ya,la,esa,cka,qa,dna,σa⟩
             ·simp only [PutR.Pr,PutR.lst] at hz ⊢
              obtain ⟨hz1,hea⟩:=hz
              refine J.name 176 rfl (show _=Value.tuple #[.agg (cH zH).toArray,.int .i64 ea] from rfl) ?_
              obtain ⟨hlga,hka1,hka2,hga1,hga2,hcase⟩:=put_log (by omega) hlog (by omega) hz1
              refine J.qe rfl rfl<|J.extract rfl rfl rfl<|J.extract rfl rfl rfl ?_;refine J.alloc Ty.zIt rfl rfl (fun b14=>?_);refine J.qN (cs:=cH zH) (vs:=cH zH) Ty.s28 rfl rfl rfl rfl rfl (zi (x:=zH) rfl) .here<|J.assign rfl rfl<|J.nil ?_;refine JX.qd (hK37 _ _ ?_);refine JC.zy (α:=PtS) (fun st=>[(5,.pointer (some ⟨d,0,none⟩)),(6,.pointer (some ⟨rd,0,none⟩)),(7,st.st.o.pv),(8,.int .i64 st.st.o.e),(9,st.st.o.pw),(10,.int .i64 st.st.o.e),(12,.pointer (some ⟨zb,0,none⟩)),(13,.pointer (some ⟨zt,0,none⟩)),(14,.pointer (some ⟨st.b14,0,none⟩)),(15,.int .i64 st.e),(16,.pointer (some ⟨st.b16,0,none⟩)),(17,.int .i64 st.e),(55,.slice aq os.length cq),(56,.int .i64 ((os.length:Nat):Int)),(57,.int .i64 ((i:Nat):Int))]) (fun st w'=>(st.bs.length≤64∧st.st.i=i+1∧PlI N (.slice a0 (64*N) c0) st.st∧st.st.o.live∧st.hb.it=⟨st.key,st.ver,st.bs⟩∧okN st.ver.n∧Vec 5 1 (.slice st.a st.bs.length st.c) (st.bs).length ((st.bs).map u8) st.la∧Vec 5 1 st.hb.sv (st.hb.bs).length ((st.hb.bs).map u8) st.hb.lp∧∀p,p∈st.hb.lp→p∈st.st.o.blk d rd)∧St w [] ((st.b16,cb (cH st.hb) 28)::(st.b14,cb (cT st.key st.ver (.slice st.a st.bs.length st.c)) 28)::(st.la++((zt,cb (cT kx vx (.slice ax bx.length cx)) 28)::(lX++((zb,cb (cOp ⟨K,n0,⟨kx,vx,⟨au,cu,bx⟩⟩⟩) 78)::(d,dkO s N st.st.σ.p st.st.σ.k)::(s,dkS st.st.σ.B)::(rd,rfO (.slice a0 (64*N) c0) st.st.σ.p st.st.σ.k)::(st.st.lp++st.st.o.blk d rd)))))) w') (fun st=>?_) (fun K38 hK38=>?_)
              ·obtain ⟨⟨i2,o,σ,lp9⟩,key,ver,bs,a,c,la,hb,b14,b16,e⟩:=st
               refine JC.pr (fun hI2=>?_)
               obtain ⟨hb64,rfl,hI,hlive,hit,hvn,hva,hvb,hbl⟩:=hI2
               try simp only at hb64 hI hlive hit hvn hva hvb hbl ⊢
               have hver:hb.ver=ver:=congrArg ItV.ver hit
               obtain ⟨ab,cb_,hbs,-⟩:=hvb.form
               refine JC.seq (fun K39 hK39=>?_);refine JC.seq (fun K40 hK40=>?_);refine JC.region<|J.qC (vs:=cT key ver (.slice a bs.length c)) Ty.a28 Ty.s28 rfl rfl (fun w1 hw=>Cells.of_block (hw.own ((b14,cb (cT key ver (.slice a bs.length c)) 28)) zm) rfl) rfl ?_;refine J.qC (vs:=cH hb) Ty.a28 Ty.s28 rfl rfl (fun w1 hw=>Cells.of_block (hw.own ((b16,cb (cH hb) 28)) zm) rfl) rfl ?_
               refine J.qR (v:=.bool true) (fun w1 w2 hw hb=>hw.step hb) Ty.bd35 rfl rfl (fun w1 hw=>by
                have h9:=one_spec _ _ ⟨key,ver,bs,.slice a bs.length c,la⟩ hb w1 rfl rfl ⟨⟨_,_,rfl⟩,qW hva hw (fun p hp=>by simp [hp]),hvn⟩ ⟨⟨ab,cb_,hbs⟩,qW hvb hw (fun p hp=>by simp [hbl p hp]),by rw [hver];exact hvn⟩
                rw [decide_eq_true (show (⟨key,ver,bs,.slice a bs.length c,la⟩:HI).it=hb.it from hit.symm)] at h9
                exact h9) ?_
               refine J.zC rfl rfl<|J.qe rfl rfl ?_
               first | refine J.skip rfl rfl rfl rfl rfl ?_ | refine J.qh rfl rfl rfl rfl ?_ | (refine J.qf rfl rfl rfl ?_;refine J.qe rfl rfl ?_)
               first | refine J.skip rfl rfl rfl rfl rfl ?_ | refine J.qh rfl rfl rfl rfl ?_ | (refine J.qf rfl rfl rfl ?_;refine J.qe rfl rfl ?_)
               refine J.qf rfl rfl rfl<|J.qj rfl rfl rfl rfl<|J.name 201 rfl (show _=Value.bool false by simp) ?_
               (first | refine J.qr rfl rfl rfl ?_ | refine J.qs rfl rfl rfl ?_)
               refine J.nil ?_;refine JX.qd (hK40 _ _ ?_)
               first | refine JC.qI rfl ?_ | refine JC.qn rfl (fun h=>by first | (exfalso;simp at h;omega) | (simp at h)) (fun _=>?_)
               refine JC.skip ?_;refine JX.qd (hK39 _ _ ?_);refine JC.seq (fun K41 hK41=>?_);refine JC.region<|J.qi Ty.fd28_2 rfl rfl<|J.qw (v:=(.slice a bs.length c)) Ty.a26 rfl (fun w1 hw=>by rw [qB (hw.own ((b14,cb (cT key ver (.slice a bs.length c)) 28)) zm)];rfl) rfl ?_;refine J.qK rfl Ty.u26 rfl rfl<|J.qe rfl rfl<|J.nil ?_;refine JX.qd (hK41 _ _ ?_);refine JC.block ?_
               refine JC.conseq (JC.cov (f:=(fun st=>[(5,.pointer (some ⟨d,0,none⟩)),(6,.pointer (some ⟨rd,0,none⟩)),(7,o.pv),(8,.int .i64 o.e),(9,o.pw),(10,.int .i64 o.e),(12,.pointer (some ⟨zb,0,none⟩)),(13,.pointer (some ⟨zt,0,none⟩)),(55,.slice aq os.length cq),(56,.int .i64 ((os.length:Nat):Int)),(57,.int .i64 ((i:Nat):Int)),(14,.pointer (some ⟨b14,0,none⟩)),(205,.int .i64 ((bs.length:Nat):Int)),(206,.int .i64 ((st.1:Nat):Int))]) ((0,bs,la):Nat × List UInt8 × List (Nat × Obj))) ⟨rfl,rfl,rfl,rfl,rfl,rfl,rfl,rfl,rfl,rfl,rfl,rfl,rfl,rfl,trivial⟩ (JC.loop (α:=Nat × List UInt8 × List (Nat × Obj)) (fun st=>[(5,.pointer (some ⟨d,0,none⟩)),(6,.pointer (some ⟨rd,0,none⟩)),(7,o.pv),(8,.int .i64 o.e),(9,o.pw),(10,.int .i64 o.e),(12,.pointer (some ⟨zb,0,none⟩)),(13,.pointer (some ⟨zt,0,none⟩)),(55,.slice aq os.length cq),(56,.int .i64 ((os.length:Nat):Int)),(57,.int .i64 ((i:Nat):Int)),(14,.pointer (some ⟨b14,0,none⟩)),(205,.int .i64 ((bs.length:Nat):Int)),(206,.int .i64 ((st.1:Nat):Int))]) (fun st w'=>(st.1≤bs.length∧Vec 5 1 (.slice a bs.length c) bs.length (st.2.1.map u8) st.2.2)∧St w [] (st.2.2++((b16,cb (cH hb) 28)::(b14,cb (cT key ver (.slice a bs.length c)) 28)::((zt,cb (cT kx vx (.slice ax bx.length cx)) 28)::(lX++((zb,cb (cOp ⟨K,n0,⟨kx,vx,⟨au,cu,bx⟩⟩⟩) 78)::(d,dkO s N σ.p σ.k)::(s,dkS σ.B)::(rd,rfO (.slice a0 (64*N) c0) σ.p σ.k)::(lp9++o.blk d rd)))))) w') (fun st=>bs.length - st.1) ((0,bs,la):Nat × List UInt8 × List (Nat × Obj)) (fun st=>?_))) (fun w hw=>⟨⟨Nat.zero_le _,hva⟩,hw.perm zp⟩)
               obtain ⟨jp,yp,lp⟩:=st
               refine JC.pr (fun hx=>?_)
               obtain ⟨hjp,hvp⟩:=hx
               simp only at hjp hvp ⊢
               refine JC.seq (fun K42 hK42=>?_);refine JC.region<|J.qj rfl rfl rfl rfl<|J.nil ?_;refine JX.qd (hK42 _ _ ?_);refine JC.seq (fun K43 hK43=>?_);refine JC.qn rfl (fun h7=>?_) (fun h7=>?_)
               ·have hltp:jp<bs.length:=by simp at h7;omega
                obtain ⟨qp,sp,hqp,rfl,hyp,hfp⟩:=hvp.at hltp
                subst hqp
                refine JC.skip ?_;refine JX.qd (hK43 _ _ ?_);refine JC.seq (fun K44 hK44=>?_);refine JC.block ?_;refine JC.seq (fun K45 hK45=>?_);refine JC.region<|J.qe rfl rfl<|J.assign rfl rfl<|J.nil ?_;refine JX.qd (hK45 _ _ ?_);refine JC.region<|J.qi Ty.fd28_2 rfl rfl<|J.qw (v:=(.slice (some ⟨qp,0,none⟩) bs.length c)) Ty.a26 rfl (fun w1 hw=>by rw [qB (hw.own ((b14,cb (cT key ver (.slice (some ⟨qp,0,none⟩) bs.length c)) 28)) zm)];rfl) rfl ?_;refine J.qe rfl rfl<|J.qu Ty.el26 Ty.s5 rfl rfl (by omega) (by omega) rfl ?_;refine J.qQ (v:=u8 (yp[jp]'(by omega))) Ty.a5 rfl (.head _) (at_u8 (by omega)) rfl ?_;refine J.qj rfl rfl rfl rfl<|J.name 214 rfl (u8_succ (yp[jp]'(by omega))) ?_;refine J.qu Ty.el26 Ty.s5 rfl rfl (by omega) (by omega) rfl ?_;refine J.qU (vs:=[u8 (yp[jp]'(by omega)+1)]) Ty.s5 rfl rfl rfl rfl (by simp [Value.oneCell']) .here (by simp;omega) ?_;refine J.nil<|JX.qJ ?_;refine JX.qd (hK44 _ _ ?_);refine JC.region ?_
                (first | refine J.qG rfl rfl (by omega) (by omega) rfl ?_ | refine J.qj rfl rfl rfl rfl ?_)
                refine J.qe rfl rfl<|J.nil<|JX.qd<|JX.qS (jp+1,yp.set jp (yp[jp]'(by omega)+1),[(qp,cb (setMany (yp.map u8++sp) (0+(jp:Int).toNat*1) [u8 (yp[jp]'(by omega)+1)]) 5)]) ?_ ?_ ?_
                ·simp only;omega
                ·exact ⟨rfl,rfl,rfl,rfl,rfl,rfl,rfl,rfl,rfl,rfl,rfl,rfl,rfl,rfl,trivial⟩
                ·exact fun w hw=>⟨⟨hltp,hfp _⟩,hw⟩
               ·have hgep:jp=bs.length:=by simp at h7;omega
                refine JC.qX<|JX.qE<|JX.qE<|JX.qT<|JX.qJ<|JX.qd ?_
                exact JX.cut (hK25 ⟨i+1,o,σ,lp9⟩) ⟨rfl,rfl,rfl,rfl,rfl,rfl,rfl,rfl,rfl,rfl,rfl,trivial⟩ (fun w1 hw=>⟨⟨rfl,hI,hlive⟩,(hw.perm (zp:List.Perm _ ((lp++[(b16,cb (cH hb) 28),(b14,cb (cT key ver (.slice a bs.length c)) 28)])++((zt,cb (cT kx vx (.slice ax bx.length cx)) 28)::(lX++((zb,cb (cOp ⟨K,n0,⟨kx,vx,⟨au,cu,bx⟩⟩⟩) 78)::(d,dkO s N σ.p σ.k)::(s,dkS σ.B)::(rd,rfO (.slice a0 (64*N) c0) σ.p σ.k)::(lp9++o.blk d rd))))))).drop (List.sublist_append_right _ _)⟩)
              ·refine JC.region<|J.qe rfl rfl<|J.qi Ty.fd78_2 rfl rfl<|J.qi Ty.fd28_0 rfl rfl<|J.qC (vs:=cI kx) Ty.a23 Ty.s23 rfl rfl (fun w1 hw=>Cells.of_block (hw.own ((zb,cb (cOp ⟨K,n0,⟨kx,vx,⟨au,cu,bx⟩⟩⟩) 78)) zm) rfl) rfl ?_;refine J.qi Ty.fd78_2 rfl rfl<|J.qi Ty.fd28_2 rfl rfl<|J.qw (v:=(.slice au bx.length cu)) Ty.a26 rfl (fun w1 hw=>by rw [qB (hw.own ((zb,cb (cOp ⟨K,n0,⟨kx,vx,⟨au,cu,bx⟩⟩⟩) 78)) zm)];rfl) rfl ?_;refine J.qi Ty.fd78_2 rfl rfl<|J.qi Ty.fd28_1 rfl rfl<|J.qi Ty.fd25_1 rfl rfl<|J.qC (vs:=cI vx.who) Ty.a23 Ty.s23 rfl rfl (fun w1 hw=>Cells.of_block (hw.own ((zb,cb (cOp ⟨K,n0,⟨kx,vx,⟨au,cu,bx⟩⟩⟩) 78)) zm) rfl) rfl ?_;refine J.perm (((v2,cb [.pointer (some ⟨l2,0,none⟩),.slice ay ys.length cy,.int .i64 ((inc:Nat):Int)] 74)::(l2,rlO rd q dn)::(rd,rfO (.slice a0 (64*N) c0) σ.p σ.k)::(lp9++yl))++((b14,cb (cH zH) 28)::((vltB v1 m1 l1 d s N qa dna inc es ck σa)++((zt,cb (cT kx vx (.slice ax bx.length cx)) 28)::(lX++((zb,cb (cOp ⟨K,n0,⟨kx,vx,⟨au,cu,bx⟩⟩⟩) 78)::(lpsH L++lpsH ys))))))) zp ?_
               refine J.qO (α:=RPut) (V:=RPut.val) (Pr:=fun z=>z.Pr N q dn ⟨σ.B,σ.p,σ.k⟩ (.slice a0 (64*N) c0) ys kx bx vx.who) (L:=fun z=>z.lst v2 l2 rd inc (.slice a0 (64*N) c0) (.slice ay ys.length cy) yl) (l1:=(v2,cb [.pointer (some ⟨l2,0,none⟩),.slice ay ys.length cy,.int .i64 ((inc:Nat):Int)] 74)::(l2,rlO rd q dn)::(rd,rfO (.slice a0 (64*N) c0) σ.p σ.k)::(lp9++yl)) Ty.bd34 rfl rfl (fun w1 hw=>rput18_spec v2 l2 rd N inc q dn _ lp9 σ.B σ.p σ.k ys _ yl hyv hW (srt_pair hS) (by have:=srt_len hS;omega) hv9 hlog (by omega) hk0 (by omega) kx vx.who bx _ w1 (St.owns hw) (hzr.below (hw.drop (List.nil_sublist _)).below) (row_off hzr hw (fun b hb=>by
                 have hb2:b∈((v2,cb [.pointer (some ⟨l2,0,none⟩),.slice ay ys.length cy,.int .i64 ((inc:Nat):Int)] 74)::(l2,rlO rd q dn)::(rd,rfO (.slice a0 (64*N) c0) σ.p σ.k)::(lp9++yl)).map (·.1)++((b14,cb (cH zH) 28)::((vltB v1 m1 l1 d s N qa dna inc es ck σa)++((zt,cb (cT kx vx (.slice ax bx.length cx)) 28)::(lX++((zb,cb (cOp ⟨K,n0,⟨kx,vx,⟨au,cu,bx⟩⟩⟩) 78)::(lpsH L++lpsH ys)))))).map (·.1):=List.mem_append_left _ hb
                 rwa [← List.map_append] at hb2)) (by omega)) (fun z hz=>?_)
               rcases z with ⟨eb,qb,dnb,σb,lpn⟩ | ⟨hb,y7,yl7,qb,dnb,σb,lpn⟩
               rotate_left
               ·exact absurd (congrArg (fun x=>x.1) (hz1.symm.trans ((vputP_srt hS N q dn _ kx bx vx.who).symm.trans hz.1))) hea
               simp only [RPut.Pr,RPut.lst] at hz ⊢
               obtain ⟨hz2,heb,hvn⟩:=hz
               rw [vputP_srt hS] at hz2
               have hz3:=hz1.symm.trans hz2
               simp only [Prod.mk.injEq,true_and] at hz3
               obtain ⟨h91,h92,h93,h94⟩:=hz3
               subst h91 h92 h93 h94
               refine J.name 191 rfl (show _=Value.tuple #[.agg (cH zH).toArray,.int .i64 ea] from rfl) ?_;refine J.qe rfl rfl<|J.extract rfl rfl rfl<|J.extract rfl rfl rfl ?_;refine J.alloc Ty.zIt rfl rfl (fun b16=>?_);refine J.qN (cs:=cH zH) (vs:=cH zH) Ty.s28 rfl rfl rfl rfl rfl (zi (x:=zH) rfl) .here<|J.assign rfl rfl<|J.nil<|JX.qd ?_
               exact JX.cut (hK38 ⟨⟨i+1,.ok v1 m1 l1 qa dna inc L es ck v2 l2 ys ay cy yl,σa,lpn⟩,zI,zV,[],none,0,[],zH,b14,b16,ea⟩) ⟨rfl,rfl,rfl,rfl,rfl,rfl,rfl,rfl,rfl,rfl,rfl,rfl,rfl,rfl,rfl,trivial⟩ (fun w1 hw=>⟨⟨Nat.zero_le _,rfl,⟨by simp only;omega,hlga.len,by simp only;omega,by simp only;omega,hlga.p,hvn,⟨hlga,by simp only;omega,hT,hV,by simp only;omega,hLs,hS,hW,hyv⟩⟩,trivial,rfl,okN_up (n:=0) (by omega) (by omega),Vec.nil _ _,Vec.nil _ _,fun p hp=>(by cases hp)⟩,hw.perm (zp:List.Perm _ ((b16,cb (cH zH) 28)::(b14,cb (cH zH) 28)::([]++((zt,cb (cT kx vx (.slice ax bx.length cx)) 28)::(lX++((zb,cb (cOp ⟨K,n0,⟨kx,vx,⟨au,cu,bx⟩⟩⟩) 78)::(d,dkO s N σa.p σa.k)::(s,dkS σa.B)::(rd,rfO (.slice a0 (64*N) c0) σa.p σa.k)::(lpn++((v1,vaO (.pointer (some ⟨l1,0,none⟩)) m1 ((inc:Nat):Int))::(m1,.map es ck)::(l1,lgO d qa dna)::(v2,cb [.pointer (some ⟨l2,0,none⟩),.slice ay ys.length cy,.int .i64 ((inc:Nat):Int)] 74)::(l2,rlO rd qa dna)::(yl++(lpsH L++lpsH ys))))))))))⟩)
             ·simp only [PutR.Pr,PutR.lst] at hz ⊢
              obtain ⟨hz1,hza,hya,hTa⟩:=hz
              obtain ⟨aa,ca,rfl,hca⟩:=hya.form
              refine J.name 176 rfl (show _=Value.tuple #[.agg (cT ha.key ha.ver (.slice aa ha.bs.length ca)).toArray,.int .i64 0] from rfl) ?_
              obtain ⟨hlga,hka1,hka2,hga1,hga2,hcase⟩:=put_log (by omega) hlog (by omega) hz1
              refine J.qe rfl rfl<|J.extract rfl rfl rfl<|J.extract rfl rfl rfl ?_;refine J.alloc Ty.zIt rfl rfl (fun b14=>?_);refine J.qN (cs:=cH zH) (vs:=cT ha.key ha.ver (.slice aa ha.bs.length ca)) Ty.s28 rfl rfl rfl rfl rfl zF .here<|J.assign rfl rfl<|J.nil ?_;refine JX.qd (hK37 _ _ ?_);refine JC.zy (α:=PtS) (fun st=>[(5,.pointer (some ⟨d,0,none⟩)),(6,.pointer (some ⟨rd,0,none⟩)),(7,st.st.o.pv),(8,.int .i64 st.st.o.e),(9,st.st.o.pw),(10,.int .i64 st.st.o.e),(12,.pointer (some ⟨zb,0,none⟩)),(13,.pointer (some ⟨zt,0,none⟩)),(14,.pointer (some ⟨st.b14,0,none⟩)),(15,.int .i64 st.e),(16,.pointer (some ⟨st.b16,0,none⟩)),(17,.int .i64 st.e),(55,.slice aq os.length cq),(56,.int .i64 ((os.length:Nat):Int)),(57,.int .i64 ((i:Nat):Int))]) (fun st w'=>(st.bs.length≤64∧st.st.i=i+1∧PlI N (.slice a0 (64*N) c0) st.st∧st.st.o.live∧st.hb.it=⟨st.key,st.ver,st.bs⟩∧okN st.ver.n∧Vec 5 1 (.slice st.a st.bs.length st.c) (st.bs).length ((st.bs).map u8) st.la∧Vec 5 1 st.hb.sv (st.hb.bs).length ((st.hb.bs).map u8) st.hb.lp∧∀p,p∈st.hb.lp→p∈st.st.o.blk d rd)∧St w [] ((st.b16,cb (cH st.hb) 28)::(st.b14,cb (cT st.key st.ver (.slice st.a st.bs.length st.c)) 28)::(st.la++((zt,cb (cT kx vx (.slice ax bx.length cx)) 28)::(lX++((zb,cb (cOp ⟨K,n0,⟨kx,vx,⟨au,cu,bx⟩⟩⟩) 78)::(d,dkO s N st.st.σ.p st.st.σ.k)::(s,dkS st.st.σ.B)::(rd,rfO (.slice a0 (64*N) c0) st.st.σ.p st.st.σ.k)::(st.st.lp++st.st.o.blk d rd)))))) w') (fun st=>?_) (fun K46 hK46=>?_)
              ·obtain ⟨⟨i2,o,σ,lp9⟩,key,ver,bs,a,c,la,hb,b14,b16,e⟩:=st
               refine JC.pr (fun hI2=>?_)
               obtain ⟨hb64,rfl,hI,hlive,hit,hvn,hva,hvb,hbl⟩:=hI2
               try simp only at hb64 hI hlive hit hvn hva hvb hbl ⊢
               have hver:hb.ver=ver:=congrArg ItV.ver hit
               obtain ⟨ab,cb_,hbs,-⟩:=hvb.form
               refine JC.seq (fun K47 hK47=>?_);refine JC.seq (fun K48 hK48=>?_);refine JC.region<|J.qC (vs:=cT key ver (.slice a bs.length c)) Ty.a28 Ty.s28 rfl rfl (fun w1 hw=>Cells.of_block (hw.own ((b14,cb (cT key ver (.slice a bs.length c)) 28)) zm) rfl) rfl ?_;refine J.qC (vs:=cH hb) Ty.a28 Ty.s28 rfl rfl (fun w1 hw=>Cells.of_block (hw.own ((b16,cb (cH hb) 28)) zm) rfl) rfl ?_
               refine J.qR (v:=.bool true) (fun w1 w2 hw hb=>hw.step hb) Ty.bd35 rfl rfl (fun w1 hw=>by
                have h9:=one_spec _ _ ⟨key,ver,bs,.slice a bs.length c,la⟩ hb w1 rfl rfl ⟨⟨_,_,rfl⟩,qW hva hw (fun p hp=>by simp [hp]),hvn⟩ ⟨⟨ab,cb_,hbs⟩,qW hvb hw (fun p hp=>by simp [hbl p hp]),by rw [hver];exact hvn⟩
                rw [decide_eq_true (show (⟨key,ver,bs,.slice a bs.length c,la⟩:HI).it=hb.it from hit.symm)] at h9
                exact h9) ?_
               refine J.zC rfl rfl<|J.qe rfl rfl ?_
               first | refine J.skip rfl rfl rfl rfl rfl ?_ | refine J.qh rfl rfl rfl rfl ?_ | (refine J.qf rfl rfl rfl ?_;refine J.qe rfl rfl ?_)
               first | refine J.skip rfl rfl rfl rfl rfl ?_ | refine J.qh rfl rfl rfl rfl ?_ | (refine J.qf rfl rfl rfl ?_;refine J.qe rfl rfl ?_)
               refine J.qf rfl rfl rfl<|J.qj rfl rfl rfl rfl<|J.name 201 rfl (show _=Value.bool false by simp) ?_
               (first | refine J.qr rfl rfl rfl ?_ | refine J.qs rfl rfl rfl ?_)
               refine J.nil ?_;refine JX.qd (hK48 _ _ ?_)
               first | refine JC.qI rfl ?_ | refine JC.qn rfl (fun h=>by first | (exfalso;simp at h;omega) | (simp at h)) (fun _=>?_)
               refine JC.skip ?_;refine JX.qd (hK47 _ _ ?_);refine JC.seq (fun K49 hK49=>?_);refine JC.region<|J.qi Ty.fd28_2 rfl rfl<|J.qw (v:=(.slice a bs.length c)) Ty.a26 rfl (fun w1 hw=>by rw [qB (hw.own ((b14,cb (cT key ver (.slice a bs.length c)) 28)) zm)];rfl) rfl ?_;refine J.qK rfl Ty.u26 rfl rfl<|J.qe rfl rfl<|J.nil ?_;refine JX.qd (hK49 _ _ ?_);refine JC.block ?_
               refine JC.conseq (JC.cov (f:=(fun st=>[(5,.pointer (some ⟨d,0,none⟩)),(6,.pointer (some ⟨rd,0,none⟩)),(7,o.pv),(8,.int .i64 o.e),(9,o.pw),(10,.int .i64 o.e),(12,.pointer (some ⟨zb,0,none⟩)),(13,.pointer (some ⟨zt,0,none⟩)),(55,.slice aq os.length cq),(56,.int .i64 ((os.length:Nat):Int)),(57,.int .i64 ((i:Nat):Int)),(14,.pointer (some ⟨b14,0,none⟩)),(205,.int .i64 ((bs.length:Nat):Int)),(206,.int .i64 ((st.1:Nat):Int))]) ((0,bs,la):Nat × List UInt8 × List (Nat × Obj))) ⟨rfl,rfl,rfl,rfl,rfl,rfl,rfl,rfl,rfl,rfl,rfl,rfl,rfl,rfl,trivial⟩ (JC.loop (α:=Nat × List UInt8 × List (Nat × Obj)) (fun st=>[(5,.pointer (some ⟨d,0,none⟩)),(6,.pointer (some ⟨rd,0,none⟩)),(7,o.pv),(8,.int .i64 o.e),(9,o.pw),(10,.int .i64 o.e),(12,.pointer (some ⟨zb,0,none⟩)),(13,.pointer (some ⟨zt,0,none⟩)),(55,.slice aq os.length cq),(56,.int .i64 ((os.length:Nat):Int)),(57,.int .i64 ((i:Nat):Int)),(14,.pointer (some ⟨b14,0,none⟩)),(205,.int .i64 ((bs.length:Nat):Int)),(206,.int .i64 ((st.1:Nat):Int))]) (fun st w'=>(st.1≤bs.length∧Vec 5 1 (.slice a bs.length c) bs.length (st.2.1.map u8) st.2.2)∧St w [] (st.2.2++((b16,cb (cH hb) 28)::(b14,cb (cT key ver (.slice a bs.length c)) 28)::((zt,cb (cT kx vx (.slice ax bx.length cx)) 28)::(lX++((zb,cb (cOp ⟨K,n0,⟨kx,vx,⟨au,cu,bx⟩⟩⟩) 78)::(d,dkO s N σ.p σ.k)::(s,dkS σ.B)::(rd,rfO (.slice a0 (64*N) c0) σ.p σ.k)::(lp9++o.blk d rd)))))) w') (fun st=>bs.length - st.1) ((0,bs,la):Nat × List UInt8 × List (Nat × Obj)) (fun st=>?_))) (fun w hw=>⟨⟨Nat.zero_le _,hva⟩,hw.perm zp⟩)
               obtain ⟨jp,yp,lp⟩:=st
               refine JC.pr (fun hx=>?_)
               obtain ⟨hjp,hvp⟩:=hx
               simp only at hjp hvp ⊢
               refine JC.seq (fun K50 hK50=>?_);refine JC.region<|J.qj rfl rfl rfl rfl<|J.nil ?_;refine JX.qd (hK50 _ _ ?_);refine JC.seq (fun K51 hK51=>?_);refine JC.qn rfl (fun h7=>?_) (fun h7=>?_)
               ·have hltp:jp<bs.length:=by simp at h7;omega
                obtain ⟨qp,sp,hqp,rfl,hyp,hfp⟩:=hvp.at hltp
                subst hqp
                refine JC.skip ?_;refine JX.qd (hK51 _ _ ?_);refine JC.seq (fun K52 hK52=>?_);refine JC.block ?_;refine JC.seq (fun K53 hK53=>?_);refine JC.region<|J.qe rfl rfl<|J.assign rfl rfl<|J.nil ?_;refine JX.qd (hK53 _ _ ?_);refine JC.region<|J.qi Ty.fd28_2 rfl rfl<|J.qw (v:=(.slice (some ⟨qp,0,none⟩) bs.length c)) Ty.a26 rfl (fun w1 hw=>by rw [qB (hw.own ((b14,cb (cT key ver (.slice (some ⟨qp,0,none⟩) bs.length c)) 28)) zm)];rfl) rfl ?_;refine J.qe rfl rfl<|J.qu Ty.el26 Ty.s5 rfl rfl (by omega) (by omega) rfl ?_;refine J.qQ (v:=u8 (yp[jp]'(by omega))) Ty.a5 rfl (.head _) (at_u8 (by omega)) rfl ?_;refine J.qj rfl rfl rfl rfl<|J.name 214 rfl (u8_succ (yp[jp]'(by omega))) ?_;refine J.qu Ty.el26 Ty.s5 rfl rfl (by omega) (by omega) rfl ?_;refine J.qU (vs:=[u8 (yp[jp]'(by omega)+1)]) Ty.s5 rfl rfl rfl rfl (by simp [Value.oneCell']) .here (by simp;omega) ?_;refine J.nil<|JX.qJ ?_;refine JX.qd (hK52 _ _ ?_);refine JC.region ?_
                (first | refine J.qG rfl rfl (by omega) (by omega) rfl ?_ | refine J.qj rfl rfl rfl rfl ?_)
                refine J.qe rfl rfl<|J.nil<|JX.qd<|JX.qS (jp+1,yp.set jp (yp[jp]'(by omega)+1),[(qp,cb (setMany (yp.map u8++sp) (0+(jp:Int).toNat*1) [u8 (yp[jp]'(by omega)+1)]) 5)]) ?_ ?_ ?_
                ·simp only;omega
                ·exact ⟨rfl,rfl,rfl,rfl,rfl,rfl,rfl,rfl,rfl,rfl,rfl,rfl,rfl,rfl,trivial⟩
                ·exact fun w hw=>⟨⟨hltp,hfp _⟩,hw⟩
               ·have hgep:jp=bs.length:=by simp at h7;omega
                refine JC.qX<|JX.qE<|JX.qE<|JX.qT<|JX.qJ<|JX.qd ?_
                exact JX.cut (hK25 ⟨i+1,o,σ,lp9⟩) ⟨rfl,rfl,rfl,rfl,rfl,rfl,rfl,rfl,rfl,rfl,rfl,trivial⟩ (fun w1 hw=>⟨⟨rfl,hI,hlive⟩,(hw.perm (zp:List.Perm _ ((lp++[(b16,cb (cH hb) 28),(b14,cb (cT key ver (.slice a bs.length c)) 28)])++((zt,cb (cT kx vx (.slice ax bx.length cx)) 28)::(lX++((zb,cb (cOp ⟨K,n0,⟨kx,vx,⟨au,cu,bx⟩⟩⟩) 78)::(d,dkO s N σ.p σ.k)::(s,dkS σ.B)::(rd,rfO (.slice a0 (64*N) c0) σ.p σ.k)::(lp9++o.blk d rd))))))).drop (List.sublist_append_right _ _)⟩)
              ·refine JC.region<|J.qe rfl rfl<|J.qi Ty.fd78_2 rfl rfl<|J.qi Ty.fd28_0 rfl rfl<|J.qC (vs:=cI kx) Ty.a23 Ty.s23 rfl rfl (fun w1 hw=>Cells.of_block (hw.own ((zb,cb (cOp ⟨K,n0,⟨kx,vx,⟨au,cu,bx⟩⟩⟩) 78)) zm) rfl) rfl ?_;refine J.qi Ty.fd78_2 rfl rfl<|J.qi Ty.fd28_2 rfl rfl<|J.qw (v:=(.slice au bx.length cu)) Ty.a26 rfl (fun w1 hw=>by rw [qB (hw.own ((zb,cb (cOp ⟨K,n0,⟨kx,vx,⟨au,cu,bx⟩⟩⟩) 78)) zm)];rfl) rfl ?_;refine J.qi Ty.fd78_2 rfl rfl<|J.qi Ty.fd28_1 rfl rfl<|J.qi Ty.fd25_1 rfl rfl<|J.qC (vs:=cI vx.who) Ty.a23 Ty.s23 rfl rfl (fun w1 hw=>Cells.of_block (hw.own ((zb,cb (cOp ⟨K,n0,⟨kx,vx,⟨au,cu,bx⟩⟩⟩) 78)) zm) rfl) rfl ?_;refine J.perm (((v2,cb [.pointer (some ⟨l2,0,none⟩),.slice ay ys.length cy,.int .i64 ((inc:Nat):Int)] 74)::(l2,rlO rd q dn)::(rd,rfO (.slice a0 (64*N) c0) σ.p σ.k)::(lp9++yl))++((b14,cb (cT ha.key ha.ver (.slice aa ha.bs.length ca)) 28)::((vltB v1 m1 l1 d s N qa dna inc esa cka σa++(ha.lp++la))++((zt,cb (cT kx vx (.slice ax bx.length cx)) 28)::(lX++((zb,cb (cOp ⟨K,n0,⟨kx,vx,⟨au,cu,bx⟩⟩⟩) 78)::(lpsH L++lpsH ys))))))) zp ?_
               refine J.qO (α:=RPut) (V:=RPut.val) (Pr:=fun z=>z.Pr N q dn ⟨σ.B,σ.p,σ.k⟩ (.slice a0 (64*N) c0) ys kx bx vx.who) (L:=fun z=>z.lst v2 l2 rd inc (.slice a0 (64*N) c0) (.slice ay ys.length cy) yl) (l1:=(v2,cb [.pointer (some ⟨l2,0,none⟩),.slice ay ys.length cy,.int .i64 ((inc:Nat):Int)] 74)::(l2,rlO rd q dn)::(rd,rfO (.slice a0 (64*N) c0) σ.p σ.k)::(lp9++yl)) Ty.bd34 rfl rfl (fun w1 hw=>rput18_spec v2 l2 rd N inc q dn _ lp9 σ.B σ.p σ.k ys _ yl hyv hW (srt_pair hS) (by have:=srt_len hS;omega) hv9 hlog (by omega) hk0 (by omega) kx vx.who bx _ w1 (St.owns hw) (hzr.below (hw.drop (List.nil_sublist _)).below) (row_off hzr hw (fun b hb=>by
                 have hb2:b∈((v2,cb [.pointer (some ⟨l2,0,none⟩),.slice ay ys.length cy,.int .i64 ((inc:Nat):Int)] 74)::(l2,rlO rd q dn)::(rd,rfO (.slice a0 (64*N) c0) σ.p σ.k)::(lp9++yl)).map (·.1)++((b14,cb (cT ha.key ha.ver (.slice aa ha.bs.length ca)) 28)::((vltB v1 m1 l1 d s N qa dna inc esa cka σa++(ha.lp++la))++((zt,cb (cT kx vx (.slice ax bx.length cx)) 28)::(lX++((zb,cb (cOp ⟨K,n0,⟨kx,vx,⟨au,cu,bx⟩⟩⟩) 78)::(lpsH L++lpsH ys)))))).map (·.1):=List.mem_append_left _ hb
                 rwa [← List.map_append] at hb2)) (by omega)) (fun z hz=>?_)
               rcases z with ⟨eb,qb,dnb,σb,lpn⟩ | ⟨hb,y7,yl7,qb,dnb,σb,lpn⟩
               ·exact absurd (congrArg (fun x=>x.1) (hz1.symm.trans ((vputP_srt hS N q dn _ kx bx vx.who).symm.trans hz.1))).symm hz.2.1
               simp only [RPut.Pr,RPut.lst] at hz ⊢
               obtain ⟨hz2,hzb,hnw,hy7,hvn⟩:=hz
               rw [vputP_srt hS] at hz2
               have hz3:=hz1.symm.trans hz2
               simp only [Prod.mk.injEq,Option.some.injEq,true_and] at hz3
               obtain ⟨hab,h92,h93,h94⟩:=hz3
               subst h92 h93 h94
               obtain ⟨a7,c7,rfl,hc7⟩:=hy7.form
               refine J.name 191 rfl (show _=Value.tuple #[.agg (cH hb).toArray,.int .i64 0] from rfl) ?_;refine J.qe rfl rfl<|J.extract rfl rfl rfl<|J.extract rfl rfl rfl ?_;refine J.alloc Ty.zIt rfl rfl (fun b16=>?_)
               obtain ⟨abf,cbf,hbf,-⟩:=hzb.2.form
               refine J.qN (cs:=cH zH) (vs:=cH hb) Ty.s28 rfl rfl rfl rfl rfl (zi hbf) .here<|J.assign rfl rfl<|J.nil<|JX.qd ?_
               have hlh:=hset_len L ha
               have hbs64:ha.bs.length≤64:=by
                rcases hcase with ⟨y9,h91,_,h92,_,_,h93⟩ | ⟨h91,_⟩
                ·cases h91;show ha.it.bs.length≤64;rw [h92];exact h93
                ·cases h91
               exact JX.cut (hK46 ⟨⟨i+1,.ok v1 m1 l1 qa dna inc (hset L ha) esa cka v2 l2 (insH ys hb) a7 c7 yl7,σa,lpn⟩,ha.key,ha.ver,ha.bs,aa,ca,la,hb,b14,b16,0⟩) ⟨rfl,rfl,rfl,rfl,rfl,rfl,rfl,rfl,rfl,rfl,rfl,rfl,rfl,rfl,rfl,trivial⟩ (fun w1 hw=>⟨⟨hbs64,rfl,⟨by simp only;omega,hlga.len,by simp only;omega,by simp only;omega,hlga.p,hvn,⟨hlga,by simp only;omega,hTa,hV.set hza,by simp only;omega,hset_small hLs hbs64,srt_put hS hab,hW.ins hzb,hy7⟩⟩,trivial,hab.symm,okN_up hza.1.1 (by have:=hza.1.2;simp only;omega),hya,hzb.2,fun p hp=>.tail _ (.tail _ (.tail _ (.tail _ (.tail _ (List.mem_append_right _ (List.mem_append_right _ (List.mem_flatMap.2 ⟨hb,insH_self ys hb,hp⟩)))))))⟩,by
                 have h1:=(hset_sub hT.nodup ha).st (hw.perm (zp:List.Perm _ ((ha.lp++lpsH L)++((hb.lp++lpsH ys)++((b16,cb (cH hb) 28)::(b14,cb (cT ha.key ha.ver (.slice aa ha.bs.length ca)) 28)::(la++((zt,cb (cT kx vx (.slice ax bx.length cx)) 28)::(lX++((zb,cb (cOp ⟨K,n0,⟨kx,vx,⟨au,cu,bx⟩⟩⟩) 78)::(d,dkO s N σa.p σa.k)::(s,dkS σa.B)::(rd,rfO (.slice a0 (64*N) c0) σa.p σa.k)::(lpn++((v1,vaO (.pointer (some ⟨l1,0,none⟩)) m1 ((inc:Nat):Int))::(m1,.map esa cka)::(l1,lgO d qa dna)::(v2,cb [.pointer (some ⟨l2,0,none⟩),.slice a7 (insH ys hb).length c7,.int .i64 ((inc:Nat):Int)] 74)::(l2,rlO rd qa dna)::yl7)))))))))))
                 have h2:=(insH_sub ys hb).st (h1.perm (zp:List.Perm _ ((hb.lp++lpsH ys)++(lpsH (hset L ha)++((b16,cb (cH hb) 28)::(b14,cb (cT ha.key ha.ver (.slice aa ha.bs.length ca)) 28)::(la++((zt,cb (cT kx vx (.slice ax bx.length cx)) 28)::(lX++((zb,cb (cOp ⟨K,n0,⟨kx,vx,⟨au,cu,bx⟩⟩⟩) 78)::(d,dkO s N σa.p σa.k)::(s,dkS σa.B)::(rd,rfO (.slice a0 (64*N) c0) σa.p σa.k)::(lpn++((v1,vaO (.pointer (some ⟨l1,0,none⟩)) m1 ((inc:Nat):Int))::(m1,.map esa cka)::(l1,lgO d qa dna)::(v2,cb [.pointer (some ⟨l2,0,none⟩),.slice a7 (insH ys hb).length c7,.int .i64 ((inc:Nat):Int)] 74)::(l2,rlO rd qa dna)::yl7)))))))))))
                 exact h2.perm (zp:List.Perm _ ((b16,cb (cH hb) 28)::(b14,cb (cT ha.key ha.ver (.slice aa ha.bs.length ca)) 28)::(la++((zt,cb (cT kx vx (.slice ax bx.length cx)) 28)::(lX++((zb,cb (cOp ⟨K,n0,⟨kx,vx,⟨au,cu,bx⟩⟩⟩) 78)::(d,dkO s N σa.p σa.k)::(s,dkS σa.B)::(rd,rfO (.slice a0 (64*N) c0) σa.p σa.k)::(lpn++((v1,vaO (.pointer (some ⟨l1,0,none⟩)) m1 ((inc:Nat):Int))::(m1,.map esa cka)::(l1,lgO d qa dna)::(v2,cb [.pointer (some ⟨l2,0,none⟩),.slice a7 (insH ys hb).length c7,.int .i64 ((inc:Nat):Int)] 74)::(l2,rlO rd qa dna)::(yl7++(lpsH (hset L ha)++lpsH (insH ys hb)))))))))))⟩)
            ·try simp only [decide_eq_true_eq,decide_eq_false_iff_not,beq_iff_eq,bne_iff_ne,bne_eq_false_iff_eq,ne_eq,beq_eq_false_iff_ne,Bool.not_eq_true,Bool.not_eq_false,Int.not_lt,Int.not_le] at h5
             refine JC.seq (fun K54 hK54=>?_);refine JC.region<|J.qj rfl rfl rfl rfl<|J.assign rfl rfl<|J.nil ?_;refine JX.qd (hK54 _ _ ?_);refine JC.qn rfl (fun h8=>?_) (fun h8=>?_)
             ·try simp only [decide_eq_true_eq,decide_eq_false_iff_not,beq_iff_eq,bne_iff_ne,bne_eq_false_iff_eq,ne_eq,beq_eq_false_iff_ne,Bool.not_eq_true,Bool.not_eq_false,Int.not_lt,Int.not_le] at h8
              refine JC.seq (fun K55 hK55=>?_);refine JC.region<|J.qe rfl rfl ?_
              obtain ⟨xc,hxc⟩:∃l,l=(cT kx vx (.slice ax bx.length cx)):=⟨_,rfl⟩
              refine J.qC (vs:=xc) Ty.a28 Ty.s28 rfl (by rw [hxc];rfl) (fun w1 hw=>by rw [hxc];exact Cells.of_block (hw.own ((zt,cb (cT kx vx (.slice ax bx.length cx)) 28)) zm) rfl) rfl ?_;refine J.perm (vltB v1 m1 l1 d s N q dn inc es ck σ++((zt,cb (cT kx vx (.slice ax bx.length cx)) 28)::(lX++((zb,cb (cOp ⟨K,n0,⟨kx,vx,⟨au,cu,bx⟩⟩⟩) 78)::(v2,cb [.pointer (some ⟨l2,0,none⟩),.slice ay ys.length cy,.int .i64 ((inc:Nat):Int)] 74)::(l2,rlO rd q dn)::(rd,rfO (.slice a0 (64*N) c0) σ.p σ.k)::(lp9++(yl++(lpsH L++lpsH ys))))))) zp ?_;refine J.qO (α:=MerR) (V:=MerR.val) (Pr:=fun z=>z.Pr N q dn ⟨σ.B,σ.p,σ.k⟩ L ⟨kx,vx,bx⟩) (L:=fun z=>z.lst v1 m1 l1 d s N inc es ck) Ty.bd19 rfl rfl (fun w1 hw=>vmerge_spec v1 m1 l1 d s N inc q dn σ.B σ.p σ.k L es ck hT hV hlog (by omega) hk0 (by omega) xc kx vx bx _ w1 hxc (St.owns hw) (qW hxv hw (fun p hp=>by simp [hp])) (zY hxv (fun p0 hp0=>St.off (l1:=vltB v1 m1 l1 d s N q dn inc es ck σ) hw (o:=p0.2) (by simp [hp0]))) (by omega)) (fun z hz=>?_)
              rcases z with ⟨ea,qa,dna,σa⟩ | ⟨ha,esa,cka,qa,dna,σa⟩
              ·simp only [MerR.Pr,MerR.lst] at hz ⊢
               have hz1:=hz
               refine J.name 222 rfl (show _=Value.tuple #[.bool false,.int .i64 ea] from rfl) ?_
               obtain ⟨hlga,hka1,hka2,hga1,hcase⟩:=merge_log (by omega) hlog (by omega) hz1
               refine J.qe rfl rfl<|J.extract rfl rfl rfl<|J.extract rfl rfl rfl<|J.assign rfl rfl<|J.assign rfl rfl<|J.nil ?_;refine JX.qd (hK55 _ _ ?_);refine JC.seq (fun K56 hK56=>?_);refine JC.region<|J.qe rfl rfl<|J.qi Ty.fd78_2 rfl rfl ?_
               obtain ⟨xd,hxd⟩:∃l,l=(cT kx vx (.slice au bx.length cu)):=⟨_,rfl⟩
               refine J.qC (vs:=xd) Ty.a28 Ty.s28 rfl (by rw [hxd];rfl) (fun w1 hw=>by rw [hxd];exact Cells.of_block (hw.own ((zb,cb (cOp ⟨K,n0,⟨kx,vx,⟨au,cu,bx⟩⟩⟩) 78)) zm) rfl) rfl ?_;refine J.perm (((v2,cb [.pointer (some ⟨l2,0,none⟩),.slice ay ys.length cy,.int .i64 ((inc:Nat):Int)] 74)::(l2,rlO rd q dn)::(rd,rfO (.slice a0 (64*N) c0) σ.p σ.k)::(lp9++yl))++((vltB v1 m1 l1 d s N qa dna inc es ck σa)++((zt,cb (cT kx vx (.slice ax bx.length cx)) 28)::(lX++((zb,cb (cOp ⟨K,n0,⟨kx,vx,⟨au,cu,bx⟩⟩⟩) 78)::(lpsH L++lpsH ys)))))) zp ?_
               refine J.qO (α:=RMer) (V:=RMer.val) (Pr:=fun z=>z.Pr N q dn ⟨σ.B,σ.p,σ.k⟩ (.slice a0 (64*N) c0) ys ⟨kx,vx,bx⟩) (L:=fun z=>z.lst v2 l2 rd inc (.slice a0 (64*N) c0) (.slice ay ys.length cy) yl) (l1:=(v2,cb [.pointer (some ⟨l2,0,none⟩),.slice ay ys.length cy,.int .i64 ((inc:Nat):Int)] 74)::(l2,rlO rd q dn)::(rd,rfO (.slice a0 (64*N) c0) σ.p σ.k)::(lp9++yl)) Ty.bd36 rfl rfl (fun w1 hw=>rmerge18_spec v2 l2 rd N inc q dn _ lp9 σ.B σ.p σ.k ys _ yl hyv hW (srt_pair hS) (by have:=srt_len hS;omega) hv9 hlog (by omega) hk0 (by omega) xd kx vx bx _ w1 hxd (St.owns hw) (hzr.below (hw.drop (List.nil_sublist _)).below) (row_off hzr hw (fun b hb=>by
                 have hb2:b∈((v2,cb [.pointer (some ⟨l2,0,none⟩),.slice ay ys.length cy,.int .i64 ((inc:Nat):Int)] 74)::(l2,rlO rd q dn)::(rd,rfO (.slice a0 (64*N) c0) σ.p σ.k)::(lp9++yl)).map (·.1)++((vltB v1 m1 l1 d s N qa dna inc es ck σa)++((zt,cb (cT kx vx (.slice ax bx.length cx)) 28)::(lX++((zb,cb (cOp ⟨K,n0,⟨kx,vx,⟨au,cu,bx⟩⟩⟩) 78)::(lpsH L++lpsH ys))))).map (·.1):=List.mem_append_left _ hb
                 rwa [← List.map_append] at hb2)) (by omega)) (fun z hz=>?_)
               rcases z with ⟨eb,qb,dnb,σb,lpn⟩ | ⟨hb,y7,yl7,qb,dnb,σb,lpn⟩
               rotate_left
               ·exact absurd (congrArg (fun x=>x.1) (hz1.symm.trans ((vmergeP_srt hS N q dn _ ⟨kx,vx,bx⟩).symm.trans hz.1))) (by simp)
               simp only [RMer.Pr,RMer.lst] at hz ⊢
               obtain ⟨hz2,hvn⟩:=hz
               rw [vmergeP_srt hS] at hz2
               have hz3:=hz1.symm.trans hz2
               simp only [Prod.mk.injEq,true_and] at hz3
               obtain ⟨h91,h92,h93,h94⟩:=hz3
               subst h91 h92 h93 h94
               refine J.name 229 rfl (show _=Value.tuple #[.bool false,.int .i64 ea] from rfl) ?_;refine J.qe rfl rfl<|J.extract rfl rfl rfl<|J.extract rfl rfl rfl<|J.assign rfl rfl<|J.assign rfl rfl<|J.nil ?_;refine JX.qd (hK56 _ _ ?_);refine JC.seq (fun K57 hK57=>?_);refine JC.region<|J.qe rfl rfl<|J.qe rfl rfl<|J.yH (.inr rfl) Ty.u4 rfl rfl rfl<|J.name 234 rfl (show Value.bool _=.bool false by simp) ?_;refine J.qe rfl rfl ?_
               first | refine J.skip rfl rfl rfl rfl rfl ?_ | refine J.qh rfl rfl rfl rfl ?_ | (refine J.qf rfl rfl rfl ?_;refine J.qe rfl rfl ?_)
               first | refine J.skip rfl rfl rfl rfl rfl ?_ | refine J.qh rfl rfl rfl rfl ?_ | (refine J.qf rfl rfl rfl ?_;refine J.qe rfl rfl ?_)
               refine J.qf rfl rfl rfl<|J.qj rfl rfl rfl rfl<|J.name 238 rfl (show _=Value.bool false by simp) ?_
               (first | refine J.qr rfl rfl rfl ?_ | refine J.qs rfl rfl rfl ?_)
               refine J.nil ?_;refine JX.qd (hK57 _ _ ?_)
               first | refine JC.qI rfl ?_ | refine JC.qn rfl (fun h=>by first | (exfalso;simp at h;omega) | (simp at h)) (fun _=>?_)
               refine JC.skip<|JX.qJ<|JX.qd ?_
               exact JX.cut (hK25 ⟨i+1,.ok v1 m1 l1 qa dna inc L es ck v2 l2 ys ay cy yl,σa,lpn⟩) ⟨rfl,rfl,rfl,rfl,rfl,rfl,rfl,rfl,rfl,rfl,rfl,trivial⟩ (fun w1 hw=>⟨⟨rfl,⟨by simp only;omega,hlga.len,by simp only;omega,by simp only;omega,hlga.p,hvn,⟨hlga,by simp only;omega,hT,hV,by simp only;omega,hLs,hS,hW,hyv⟩⟩,trivial⟩,hw.perm (zp:List.Perm _ ((zt,cb (cT kx vx (.slice ax bx.length cx)) 28)::(lX++((zb,cb (cOp ⟨K,n0,⟨kx,vx,⟨au,cu,bx⟩⟩⟩) 78)::(d,dkO s N σa.p σa.k)::(s,dkS σa.B)::(rd,rfO (.slice a0 (64*N) c0) σa.p σa.k)::(lpn++((v1,vaO (.pointer (some ⟨l1,0,none⟩)) m1 ((inc:Nat):Int))::(m1,.map es ck)::(l1,lgO d qa dna)::(v2,cb [.pointer (some ⟨l2,0,none⟩),.slice ay ys.length cy,.int .i64 ((inc:Nat):Int)] 74)::(l2,rlO rd qa dna)::(yl++(lpsH L++lpsH ys))))))))⟩)
              ·simp only [MerR.Pr,MerR.lst] at hz ⊢
               obtain ⟨hz1,hax,hza,hTa⟩:=hz
               refine J.name 222 rfl (show _=Value.tuple #[.bool true,.int .i64 0] from rfl) ?_
               obtain ⟨hlga,hka1,hka2,hga1,hcase⟩:=merge_log (by omega) hlog (by omega) hz1
               refine J.qe rfl rfl<|J.extract rfl rfl rfl<|J.extract rfl rfl rfl<|J.assign rfl rfl<|J.assign rfl rfl<|J.nil ?_;refine JX.qd (hK55 _ _ ?_);refine JC.seq (fun K58 hK58=>?_);refine JC.region<|J.qe rfl rfl<|J.qi Ty.fd78_2 rfl rfl ?_
               obtain ⟨xd,hxd⟩:∃l,l=(cT kx vx (.slice au bx.length cu)):=⟨_,rfl⟩
               refine J.qC (vs:=xd) Ty.a28 Ty.s28 rfl (by rw [hxd];rfl) (fun w1 hw=>by rw [hxd];exact Cells.of_block (hw.own ((zb,cb (cOp ⟨K,n0,⟨kx,vx,⟨au,cu,bx⟩⟩⟩) 78)) zm) rfl) rfl ?_;refine J.perm (((v2,cb [.pointer (some ⟨l2,0,none⟩),.slice ay ys.length cy,.int .i64 ((inc:Nat):Int)] 74)::(l2,rlO rd q dn)::(rd,rfO (.slice a0 (64*N) c0) σ.p σ.k)::(lp9++yl))++((vltB v1 m1 l1 d s N qa dna inc esa cka σa++ha.lp)++((zt,cb (cT kx vx (.slice ax bx.length cx)) 28)::(lX++((zb,cb (cOp ⟨K,n0,⟨kx,vx,⟨au,cu,bx⟩⟩⟩) 78)::(lpsH L++lpsH ys)))))) zp ?_
               refine J.qO (α:=RMer) (V:=RMer.val) (Pr:=fun z=>z.Pr N q dn ⟨σ.B,σ.p,σ.k⟩ (.slice a0 (64*N) c0) ys ⟨kx,vx,bx⟩) (L:=fun z=>z.lst v2 l2 rd inc (.slice a0 (64*N) c0) (.slice ay ys.length cy) yl) (l1:=(v2,cb [.pointer (some ⟨l2,0,none⟩),.slice ay ys.length cy,.int .i64 ((inc:Nat):Int)] 74)::(l2,rlO rd q dn)::(rd,rfO (.slice a0 (64*N) c0) σ.p σ.k)::(lp9++yl)) Ty.bd36 rfl rfl (fun w1 hw=>rmerge18_spec v2 l2 rd N inc q dn _ lp9 σ.B σ.p σ.k ys _ yl hyv hW (srt_pair hS) (by have:=srt_len hS;omega) hv9 hlog (by omega) hk0 (by omega) xd kx vx bx _ w1 hxd (St.owns hw) (hzr.below (hw.drop (List.nil_sublist _)).below) (row_off hzr hw (fun b hb=>by
                 have hb2:b∈((v2,cb [.pointer (some ⟨l2,0,none⟩),.slice ay ys.length cy,.int .i64 ((inc:Nat):Int)] 74)::(l2,rlO rd q dn)::(rd,rfO (.slice a0 (64*N) c0) σ.p σ.k)::(lp9++yl)).map (·.1)++((vltB v1 m1 l1 d s N qa dna inc esa cka σa++ha.lp)++((zt,cb (cT kx vx (.slice ax bx.length cx)) 28)::(lX++((zb,cb (cOp ⟨K,n0,⟨kx,vx,⟨au,cu,bx⟩⟩⟩) 78)::(lpsH L++lpsH ys))))).map (·.1):=List.mem_append_left _ hb
                 rwa [← List.map_append] at hb2)) (by omega)) (fun z hz=>?_)
               rcases z with ⟨eb,qb,dnb,σb,lpn⟩ | ⟨hb,y7,yl7,qb,dnb,σb,lpn⟩
               ·exact absurd (congrArg (fun x=>x.1) (hz1.symm.trans ((vmergeP_srt hS N q dn _ ⟨kx,vx,bx⟩).symm.trans hz.1))) (by simp)
               simp only [RMer.Pr,RMer.lst] at hz ⊢
               obtain ⟨hz2,hbx,hzb,hnw,hy7,hvn⟩:=hz
               rw [vmergeP_srt hS] at hz2
               have hz3:=hz1.symm.trans hz2
               simp only [Prod.mk.injEq,true_and] at hz3
               obtain ⟨h92,h93,h94⟩:=hz3
               subst h92 h93 h94
               obtain ⟨a7,c7,rfl,hc7⟩:=hy7.form
               refine J.name 229 rfl (show _=Value.tuple #[.bool true,.int .i64 0] from rfl) ?_;refine J.qe rfl rfl<|J.extract rfl rfl rfl<|J.extract rfl rfl rfl<|J.assign rfl rfl<|J.assign rfl rfl<|J.nil ?_;refine JX.qd (hK58 _ _ ?_);refine JC.seq (fun K59 hK59=>?_);refine JC.region<|J.qe rfl rfl<|J.qe rfl rfl<|J.yH (.inr rfl) Ty.u4 rfl rfl rfl<|J.name 234 rfl (show Value.bool _=.bool false by simp) ?_;refine J.qe rfl rfl ?_
               first | refine J.skip rfl rfl rfl rfl rfl ?_ | refine J.qh rfl rfl rfl rfl ?_ | (refine J.qf rfl rfl rfl ?_;refine J.qe rfl rfl ?_)
               first | refine J.skip rfl rfl rfl rfl rfl ?_ | refine J.qh rfl rfl rfl rfl ?_ | (refine J.qf rfl rfl rfl ?_;refine J.qe rfl rfl ?_)
               refine J.qf rfl rfl rfl<|J.qj rfl rfl rfl rfl<|J.name 238 rfl (show _=Value.bool false by simp) ?_
               (first | refine J.qr rfl rfl rfl ?_ | refine J.qs rfl rfl rfl ?_)
               refine J.nil ?_;refine JX.qd (hK59 _ _ ?_)
               first | refine JC.qI rfl ?_ | refine JC.qn rfl (fun h=>by first | (exfalso;simp at h;omega) | (simp at h)) (fun _=>?_)
               refine JC.skip<|JX.qJ<|JX.qd ?_
               have hlh:=hset_len L ha
               have hbs64:ha.bs.length≤64:=by
                have h91:=(merge_new hz1).1.2.2
                rw [show ha.bs=bx from congrArg ItV.bs hax];exact h91
               exact JX.cut (hK25 ⟨i+1,.ok v1 m1 l1 qa dna inc (hset L ha) esa cka v2 l2 (insH ys hb) a7 c7 yl7,σa,lpn⟩) ⟨rfl,rfl,rfl,rfl,rfl,rfl,rfl,rfl,rfl,rfl,rfl,trivial⟩ (fun w1 hw=>⟨⟨rfl,⟨by simp only;omega,hlga.len,by simp only;omega,by simp only;omega,hlga.p,hvn,⟨hlga,by simp only;omega,hTa,hV.set hza,by simp only;omega,hset_small hLs hbs64,srt_put hS (hax.trans hbx.symm),hW.ins hzb,hy7⟩⟩,trivial⟩,by
                 have h1:=(hset_sub hT.nodup ha).st (hw.perm (zp:List.Perm _ ((ha.lp++lpsH L)++((hb.lp++lpsH ys)++((zt,cb (cT kx vx (.slice ax bx.length cx)) 28)::(lX++((zb,cb (cOp ⟨K,n0,⟨kx,vx,⟨au,cu,bx⟩⟩⟩) 78)::(d,dkO s N σa.p σa.k)::(s,dkS σa.B)::(rd,rfO (.slice a0 (64*N) c0) σa.p σa.k)::(lpn++((v1,vaO (.pointer (some ⟨l1,0,none⟩)) m1 ((inc:Nat):Int))::(m1,.map esa cka)::(l1,lgO d qa dna)::(v2,cb [.pointer (some ⟨l2,0,none⟩),.slice a7 (insH ys hb).length c7,.int .i64 ((inc:Nat):Int)] 74)::(l2,rlO rd qa dna)::yl7)))))))))
                 have h2:=(insH_sub ys hb).st (h1.perm (zp:List.Perm _ ((hb.lp++lpsH ys)++(lpsH (hset L ha)++((zt,cb (cT kx vx (.slice ax bx.length cx)) 28)::(lX++((zb,cb (cOp ⟨K,n0,⟨kx,vx,⟨au,cu,bx⟩⟩⟩) 78)::(d,dkO s N σa.p σa.k)::(s,dkS σa.B)::(rd,rfO (.slice a0 (64*N) c0) σa.p σa.k)::(lpn++((v1,vaO (.pointer (some ⟨l1,0,none⟩)) m1 ((inc:Nat):Int))::(m1,.map esa cka)::(l1,lgO d qa dna)::(v2,cb [.pointer (some ⟨l2,0,none⟩),.slice a7 (insH ys hb).length c7,.int .i64 ((inc:Nat):Int)] 74)::(l2,rlO rd qa dna)::yl7)))))))))
                 exact h2.perm (zp:List.Perm _ ((zt,cb (cT kx vx (.slice ax bx.length cx)) 28)::(lX++((zb,cb (cOp ⟨K,n0,⟨kx,vx,⟨au,cu,bx⟩⟩⟩) 78)::(d,dkO s N σa.p σa.k)::(s,dkS σa.B)::(rd,rfO (.slice a0 (64*N) c0) σa.p σa.k)::(lpn++((v1,vaO (.pointer (some ⟨l1,0,none⟩)) m1 ((inc:Nat):Int))::(m1,.map esa cka)::(l1,lgO d qa dna)::(v2,cb [.pointer (some ⟨l2,0,none⟩),.slice a7 (insH ys hb).length c7,.int .i64 ((inc:Nat):Int)] 74)::(l2,rlO rd qa dna)::(yl7++(lpsH (hset L ha)++lpsH (insH ys hb)))))))))⟩)
             ·try simp only [decide_eq_true_eq,decide_eq_false_iff_not,beq_iff_eq,bne_iff_ne,bne_eq_false_iff_eq,ne_eq,beq_eq_false_iff_ne,Bool.not_eq_true,Bool.not_eq_false,Int.not_lt,Int.not_le] at h8
              refine JC.seq (fun K60 hK60=>?_);refine JC.region<|J.qe rfl rfl<|J.qi Ty.fd28_0 rfl rfl<|J.qC (vs:=cI kx) Ty.a23 Ty.s23 rfl rfl (fun w1 hw=>Cells.of_block (hw.own ((zt,cb (cT kx vx (.slice ax bx.length cx)) 28)) zm) rfl) rfl ?_
              obtain ⟨O,hO⟩:∃o,(hget L kx).getD zH=o:=⟨_,rfl⟩
              obtain ⟨kb,hK⟩:∃o,(hget L kx).isSome=o:=⟨_,rfl⟩
              obtain ⟨O2,hO2⟩:∃o,(hget ys kx).getD zH=o:=⟨_,rfl⟩
              obtain ⟨hOO,hKK⟩:=srt_it hS kx
              rw [hO,hO2] at hOO
              rw [hK] at hKK
              have hvO:okV O.ver.n∧Vec 5 1 O.sv (O.bs).length ((O.bs).map u8) O.lp∧∀p,p∈O.lp→p∈lpsH L:=by
               rw [← hO]
               cases hg9:hget L kx with
               | none=>exact ⟨(by decide:okV 0),Vec.nil _ _,fun p hp=>(by cases hp)⟩
               | some y9=>exact ⟨(hV y9 (zT hg9).1).1,(hV y9 (zT hg9).1).2,fun p hp=>List.mem_flatMap.2 ⟨y9,(zT hg9).1,hp⟩⟩
              have hvO2:Vec 5 1 O2.sv (O2.bs).length ((O2.bs).map u8) O2.lp∧∀p,p∈O2.lp→p∈lpsH ys:=by
               rw [← hO2]
               cases hg9:hget ys kx with
               | none=>exact ⟨Vec.nil _ _,fun p hp=>(by cases hp)⟩
               | some y9=>exact ⟨(hW y9 (zT hg9).1).2,fun p hp=>List.mem_flatMap.2 ⟨y9,(zT hg9).1,hp⟩⟩
              obtain ⟨hOk,hOv,hOl⟩:=hvO
              obtain ⟨hO2v,hO2l⟩:=hvO2
              have hOb:O.bs.length≤140737488351232:=by
               rw [← hO]
               cases hg9:hget L kx with
               | none=>exact Nat.zero_le _
               | some y9=>have:=hLs y9 (zT hg9).1;show y9.bs.length≤_;omega
              obtain ⟨aO2,cO2,hO2f,-⟩:=hO2v.form
              refine J.perm ([(v1,vaO (.pointer (some ⟨l1,0,none⟩)) m1 ((inc:Nat):Int)),(m1,.map es ck)]++((zt,cb (cT kx vx (.slice ax bx.length cx)) 28)::(lX++((zb,cb (cOp ⟨K,n0,⟨kx,vx,⟨au,cu,bx⟩⟩⟩) 78)::(l1,lgO d q dn)::(d,dkO s N σ.p σ.k)::(s,dkS σ.B)::(v2,cb [.pointer (some ⟨l2,0,none⟩),.slice ay ys.length cy,.int .i64 ((inc:Nat):Int)] 74)::(l2,rlO rd q dn)::(rd,rfO (.slice a0 (64*N) c0) σ.p σ.k)::(lp9++(yl++(lpsH L++lpsH ys))))))) zp ?_;refine J.qO (α:=Value × List (Nat × Obj)) (V:=fun z=>.tuple #[.agg (cT O.key O.ver z.1).toArray,.bool kb]) (Pr:=fun z=>Vec 5 1 z.1 (O.bs).length ((O.bs).map u8) z.2) (L:=fun z=>z.2++[(v1,vaO (.pointer (some ⟨l1,0,none⟩)) m1 ((inc:Nat):Int)),(m1,.map es ck)]) Ty.bd22 rfl rfl (fun w1 hw=>vget_spec v1 m1 _ _ L es ck hT hV kx O kb w1 (St.owns hw) hO hK (qW hOv hw (fun p hp=>by simp [hOl p hp])) (zY hOv (fun p0 hp0=>St.off (l1:=[(v1,vaO (.pointer (some ⟨l1,0,none⟩)) m1 ((inc:Nat):Int)),(m1,.map es ck)]) hw (o:=p0.2) (by simp [hOl p0 hp0]))) hOb) (fun z hgv=>?_)
              obtain ⟨vg,lg⟩:=z
              try simp only at hgv ⊢
              obtain ⟨ag,cg,rfl,hcg⟩:=hgv.form
              refine J.qe rfl rfl<|J.extract rfl rfl rfl<|J.extract rfl rfl rfl ?_;refine J.alloc Ty.zIt rfl rfl (fun b23=>?_);refine J.qN (cs:=cH zH) (vs:=(cT O.key O.ver (.slice ag O.bs.length cg))) Ty.s28 rfl rfl rfl rfl rfl zF .here<|J.assign rfl rfl<|J.nil ?_;refine JX.qd (hK60 _ _ ?_);refine JC.seq (fun K61 hK61=>?_);refine JC.region<|J.qe rfl rfl<|J.qi Ty.fd78_2 rfl rfl<|J.qi Ty.fd28_0 rfl rfl<|J.qC (vs:=cI kx) Ty.a23 Ty.s23 rfl rfl (fun w1 hw=>Cells.of_block (hw.own ((zb,cb (cOp ⟨K,n0,⟨kx,vx,⟨au,cu,bx⟩⟩⟩) 78)) zm) rfl) rfl ?_
              refine J.qR (v:=.tuple #[.agg (cH O2).toArray,.bool kb]) (fun w1 w2 hw hb=>hw.step hb) Ty.bd37 rfl rfl (fun w1 hw=>by
               have h9:=rget18_spec v2 _ ((inc:Nat):Int) ys _ yl ((b23,cb (cT O.key O.ver (.slice ag O.bs.length cg)) 28)::(lg++((zt,cb (cT kx vx (.slice ax bx.length cx)) 28)::(lX++((zb,cb (cOp ⟨K,n0,⟨kx,vx,⟨au,cu,bx⟩⟩⟩) 78)::(v1,vaO (.pointer (some ⟨l1,0,none⟩)) m1 ((inc:Nat):Int))::(m1,.map es ck)::(l1,lgO d q dn)::(d,dkO s N σ.p σ.k)::(s,dkS σ.B)::(l2,rlO rd q dn)::(rd,rfO (.slice a0 (64*N) c0) σ.p σ.k)::(lp9++(lpsH L++lpsH ys))))))) hyv (fun y hy=>by obtain ⟨a,c,h1,_⟩:=(hW y hy).2.form;exact ⟨a,c,h1⟩) (by have:=srt_len hS;omega) kx w1 (St.owns' (hw.perm (zp:List.Perm _ ((v2,cb [.pointer (some ⟨l2,0,none⟩),.slice ay ys.length cy,.int .i64 ((inc:Nat):Int)] 74)::(yl++((b23,cb (cT O.key O.ver (.slice ag O.bs.length cg)) 28)::(lg++((zt,cb (cT kx vx (.slice ax bx.length cx)) 28)::(lX++((zb,cb (cOp ⟨K,n0,⟨kx,vx,⟨au,cu,bx⟩⟩⟩) 78)::(v1,vaO (.pointer (some ⟨l1,0,none⟩)) m1 ((inc:Nat):Int))::(m1,.map es ck)::(l1,lgO d q dn)::(d,dkO s N σ.p σ.k)::(s,dkS σ.B)::(l2,rlO rd q dn)::(rd,rfO (.slice a0 (64*N) c0) σ.p σ.k)::(lp9++(lpsH L++lpsH ys))))))))))))
               rw [hO2,hKK] at h9
               exact h9) ?_
              refine J.qe rfl rfl<|J.extract rfl rfl rfl<|J.extract rfl rfl rfl ?_;refine J.alloc Ty.zIt rfl rfl (fun b25=>?_);refine J.qN (cs:=cH zH) (vs:=(cH O2)) Ty.s28 rfl rfl rfl rfl rfl (zi hO2f) .here<|J.perm ((b25,cb (cH O2) 28)::(b23,cb (cT O.key O.ver (.slice ag O.bs.length cg)) 28)::(lg++((zt,cb (cT kx vx (.slice ax bx.length cx)) 28)::(lX++((zb,cb (cOp ⟨K,n0,⟨kx,vx,⟨au,cu,bx⟩⟩⟩) 78)::(d,dkO s N σ.p σ.k)::(s,dkS σ.B)::(rd,rfO (.slice a0 (64*N) c0) σ.p σ.k)::(lp9++((v1,vaO (.pointer (some ⟨l1,0,none⟩)) m1 ((inc:Nat):Int))::(m1,.map es ck)::(l1,lgO d q dn)::(v2,cb [.pointer (some ⟨l2,0,none⟩),.slice ay ys.length cy,.int .i64 ((inc:Nat):Int)] 74)::(l2,rlO rd q dn)::(yl++(lpsH L++lpsH ys))))))))) zp<|J.assign rfl rfl<|J.nil ?_;refine JX.qd (hK61 _ _ ?_);refine JC.seq (fun K62 hK62=>?_);refine JC.seq (fun K63 hK63=>?_);refine JC.region<|J.qC (vs:=cT O.key O.ver (.slice ag O.bs.length cg)) Ty.a28 Ty.s28 rfl rfl (fun w1 hw=>Cells.of_block (hw.own ((b23,cb (cT O.key O.ver (.slice ag O.bs.length cg)) 28)) zm) rfl) rfl ?_;refine J.qC (vs:=cH O2) Ty.a28 Ty.s28 rfl rfl (fun w1 hw=>Cells.of_block (hw.own ((b25,cb (cH O2) 28)) zm) rfl) rfl ?_
              refine J.qR (v:=.bool true) (fun w1 w2 hw hb=>hw.step hb) Ty.bd35 rfl rfl (fun w1 hw=>by
               have h9:=one_spec _ _ ⟨O.key,O.ver,O.bs,.slice ag O.bs.length cg,lg⟩ O2 w1 rfl rfl ⟨⟨_,_,rfl⟩,qW hgv hw (fun p hp=>by simp [hp]),okN_up hOk.1 (by have:=hOk.2;simp only;omega)⟩ ⟨⟨aO2,cO2,hO2f⟩,qW hO2v hw (fun p hp=>by simp [hO2l p hp]),by rw [show O2.ver=O.ver from congrArg ItV.ver hOO];exact okN_up hOk.1 (by have:=hOk.2;omega)⟩
               rw [decide_eq_true (show (⟨O.key,O.ver,O.bs,.slice ag O.bs.length cg,lg⟩:HI).it=O2.it from hOO.symm)] at h9
               exact h9) ?_
              refine J.zC rfl rfl<|J.qe rfl rfl ?_
              first | refine J.skip rfl rfl rfl rfl rfl ?_ | refine J.qh rfl rfl rfl rfl ?_ | (refine J.qf rfl rfl rfl ?_;refine J.qe rfl rfl ?_)
              first | refine J.skip rfl rfl rfl rfl rfl ?_ | refine J.qh rfl rfl rfl rfl ?_ | (refine J.qf rfl rfl rfl ?_;refine J.qe rfl rfl ?_)
              refine J.qf rfl rfl rfl<|J.yH (.inr rfl) Ty.u4 rfl rfl rfl<|J.name 149 rfl (show Value.bool _=.bool false by simp) ?_
              (first | refine J.qr rfl rfl rfl ?_ | refine J.qs rfl rfl rfl ?_)
              refine J.nil ?_;refine JX.qd (hK63 _ _ ?_)
              first | refine JC.qI rfl ?_ | refine JC.qn rfl (fun h=>by first | (exfalso;simp at h;omega) | (simp at h)) (fun _=>?_)
              refine JC.skip ?_;refine JX.qd (hK62 _ _ ?_);refine JC.seq (fun K64 hK64=>?_);refine JC.region<|J.qi Ty.fd28_2 rfl rfl<|J.qw (v:=(.slice ag O.bs.length cg)) Ty.a26 rfl (fun w1 hw=>by rw [qB (hw.own ((b23,cb (cT O.key O.ver (.slice ag O.bs.length cg)) 28)) zm)];rfl) rfl ?_;refine J.qK rfl Ty.u26 rfl rfl<|J.qe rfl rfl<|J.nil ?_;refine JX.qd (hK64 _ _ ?_);refine JC.block ?_
              refine JC.conseq (JC.cov (f:=(fun st=>[(5,.pointer (some ⟨d,0,none⟩)),(6,.pointer (some ⟨rd,0,none⟩)),(7,.pointer (some ⟨v1,0,none⟩)),(8,.int .i64 0),(9,.pointer (some ⟨v2,0,none⟩)),(10,.int .i64 0),(12,.pointer (some ⟨zb,0,none⟩)),(13,.pointer (some ⟨zt,0,none⟩)),(55,.slice aq os.length cq),(56,.int .i64 ((os.length:Nat):Int)),(57,.int .i64 ((i:Nat):Int)),(23,.pointer (some ⟨b23,0,none⟩)),(153,.int .i64 ((O.bs.length:Nat):Int)),(154,.int .i64 ((st.1:Nat):Int))]) ((0,O.bs,lg):Nat × List UInt8 × List (Nat × Obj))) ⟨rfl,rfl,rfl,rfl,rfl,rfl,rfl,rfl,rfl,rfl,rfl,rfl,rfl,rfl,trivial⟩ (JC.loop (α:=Nat × List UInt8 × List (Nat × Obj)) (fun st=>[(5,.pointer (some ⟨d,0,none⟩)),(6,.pointer (some ⟨rd,0,none⟩)),(7,.pointer (some ⟨v1,0,none⟩)),(8,.int .i64 0),(9,.pointer (some ⟨v2,0,none⟩)),(10,.int .i64 0),(12,.pointer (some ⟨zb,0,none⟩)),(13,.pointer (some ⟨zt,0,none⟩)),(55,.slice aq os.length cq),(56,.int .i64 ((os.length:Nat):Int)),(57,.int .i64 ((i:Nat):Int)),(23,.pointer (some ⟨b23,0,none⟩)),(153,.int .i64 ((O.bs.length:Nat):Int)),(154,.int .i64 ((st.1:Nat):Int))]) (fun st w'=>(st.1≤O.bs.length∧Vec 5 1 (.slice ag O.bs.length cg) O.bs.length (st.2.1.map u8) st.2.2)∧St w [] (st.2.2++((b25,cb (cH O2) 28)::(b23,cb (cT O.key O.ver (.slice ag O.bs.length cg)) 28)::((zt,cb (cT kx vx (.slice ax bx.length cx)) 28)::(lX++((zb,cb (cOp ⟨K,n0,⟨kx,vx,⟨au,cu,bx⟩⟩⟩) 78)::(d,dkO s N σ.p σ.k)::(s,dkS σ.B)::(rd,rfO (.slice a0 (64*N) c0) σ.p σ.k)::(lp9++((v1,vaO (.pointer (some ⟨l1,0,none⟩)) m1 ((inc:Nat):Int))::(m1,.map es ck)::(l1,lgO d q dn)::(v2,cb [.pointer (some ⟨l2,0,none⟩),.slice ay ys.length cy,.int .i64 ((inc:Nat):Int)] 74)::(l2,rlO rd q dn)::(yl++(lpsH L++lpsH ys))))))))) w') (fun st=>O.bs.length - st.1) ((0,O.bs,lg):Nat × List UInt8 × List (Nat × Obj)) (fun st=>?_))) (fun w hw=>⟨⟨Nat.zero_le _,hgv⟩,hw.perm zp⟩)
              obtain ⟨jg,yg,lg⟩:=st
              refine JC.pr (fun hx=>?_)
              obtain ⟨hjg,hvg⟩:=hx
              simp only at hjg hvg ⊢
              refine JC.seq (fun K65 hK65=>?_);refine JC.region<|J.qj rfl rfl rfl rfl<|J.nil ?_;refine JX.qd (hK65 _ _ ?_);refine JC.seq (fun K66 hK66=>?_);refine JC.qn rfl (fun h11=>?_) (fun h11=>?_)
              ·have hltg:jg<O.bs.length:=by simp at h11;omega
               obtain ⟨qg,sg,hqg,rfl,hyg,hfg⟩:=hvg.at hltg
               subst hqg
               refine JC.skip ?_;refine JX.qd (hK66 _ _ ?_);refine JC.seq (fun K67 hK67=>?_);refine JC.block ?_;refine JC.seq (fun K68 hK68=>?_);refine JC.region<|J.qe rfl rfl<|J.assign rfl rfl<|J.nil ?_;refine JX.qd (hK68 _ _ ?_);refine JC.region<|J.qi Ty.fd28_2 rfl rfl<|J.qw (v:=(.slice (some ⟨qg,0,none⟩) O.bs.length cg)) Ty.a26 rfl (fun w1 hw=>by rw [qB (hw.own ((b23,cb (cT O.key O.ver (.slice (some ⟨qg,0,none⟩) O.bs.length cg)) 28)) zm)];rfl) rfl ?_;refine J.qe rfl rfl<|J.qu Ty.el26 Ty.s5 rfl rfl (by omega) (by omega) rfl ?_;refine J.qQ (v:=u8 (yg[jg]'(by omega))) Ty.a5 rfl (.head _) (at_u8 (by omega)) rfl ?_;refine J.qj rfl rfl rfl rfl<|J.name 162 rfl (u8_succ (yg[jg]'(by omega))) ?_;refine J.qu Ty.el26 Ty.s5 rfl rfl (by omega) (by omega) rfl ?_;refine J.qU (vs:=[u8 (yg[jg]'(by omega)+1)]) Ty.s5 rfl rfl rfl rfl (by simp [Value.oneCell']) .here (by simp;omega) ?_;refine J.nil<|JX.qJ ?_;refine JX.qd (hK67 _ _ ?_);refine JC.region ?_
               (first | refine J.qG rfl rfl (by omega) (by omega) rfl ?_ | refine J.qj rfl rfl rfl rfl ?_)
               refine J.qe rfl rfl<|J.nil<|JX.qd<|JX.qS (jg+1,yg.set jg (yg[jg]'(by omega)+1),[(qg,cb (setMany (yg.map u8++sg) (0+(jg:Int).toNat*1) [u8 (yg[jg]'(by omega)+1)]) 5)]) ?_ ?_ ?_
               ·simp only;omega
               ·exact ⟨rfl,rfl,rfl,rfl,rfl,rfl,rfl,rfl,rfl,rfl,rfl,rfl,rfl,rfl,trivial⟩
               ·exact fun w hw=>⟨⟨hltg,hfg _⟩,hw⟩
              ·have hgeg:jg=O.bs.length:=by simp at h11;omega
               refine JC.qX<|JX.qE<|JX.qE<|JX.qT<|JX.qJ<|JX.qd ?_
               exact JX.cut (hK25 ⟨i+1,.ok v1 m1 l1 q dn inc L es ck v2 l2 ys ay cy yl,σ,lp9⟩) ⟨rfl,rfl,rfl,rfl,rfl,rfl,rfl,rfl,rfl,rfl,rfl,trivial⟩ (fun w1 hw=>⟨⟨rfl,⟨by simp only;omega,hlen,hk0,by simp only;omega,hp,hv9,⟨hlog,by simp only;omega,hT,hV,by simp only;omega,hLs,hS,hW,hyv⟩⟩,trivial⟩,(hw.perm (zp:List.Perm _ ((lg++[(b25,cb (cH O2) 28),(b23,cb (cT O.key O.ver (.slice ag O.bs.length cg)) 28)])++((zt,cb (cT kx vx (.slice ax bx.length cx)) 28)::(lX++((zb,cb (cOp ⟨K,n0,⟨kx,vx,⟨au,cu,bx⟩⟩⟩) 78)::(d,dkO s N σ.p σ.k)::(s,dkS σ.B)::(rd,rfO (.slice a0 (64*N) c0) σ.p σ.k)::(lp9++((v1,vaO (.pointer (some ⟨l1,0,none⟩)) m1 ((inc:Nat):Int))::(m1,.map es ck)::(l1,lgO d q dn)::(v2,cb [.pointer (some ⟨l2,0,none⟩),.slice ay ys.length cy,.int .i64 ((inc:Nat):Int)] 74)::(l2,rlO rd q dn)::(yl++(lpsH L++lpsH ys)))))))))).drop (List.sublist_append_right _ _)⟩)
         ·rcases o with e | ⟨v1,m1,l1,q,dn,inc,L,es,ck,v2,l2,ys,ay,cy,yl⟩
          ·refine JC.region<|J.qe rfl rfl<|J.zh Ty.u38 rfl rfl rfl<|J.qe rfl rfl ?_
           first | refine J.skip rfl rfl rfl rfl rfl ?_ | refine J.qh rfl rfl rfl rfl ?_ | (refine J.qf rfl rfl rfl ?_;refine J.qi Ty.fd78_0 rfl rfl ?_)
           first | refine J.skip rfl rfl rfl rfl rfl ?_ | refine J.qh rfl rfl rfl rfl ?_ | (refine J.qf rfl rfl rfl ?_;refine J.qQ Ty.a3 rfl zm (by exact rfl) rfl ?_)
           first | refine J.skip rfl rfl rfl rfl rfl ?_ | refine J.qh rfl rfl rfl rfl ?_ | (refine J.qf rfl rfl rfl ?_;refine J.qj rfl rfl rfl rfl ?_)
           (first | refine J.qr rfl rfl rfl ?_ | refine J.qs rfl rfl rfl ?_)
           refine J.qe rfl rfl ?_
           first | refine J.skip rfl rfl rfl rfl rfl ?_ | refine J.qh rfl rfl rfl rfl ?_ | (refine J.qf rfl rfl rfl ?_;refine J.qi Ty.fd78_0 rfl rfl ?_)
           first | refine J.skip rfl rfl rfl rfl rfl ?_ | refine J.qh rfl rfl rfl rfl ?_ | (refine J.qf rfl rfl rfl ?_;refine J.qQ Ty.a3 rfl zm (by exact rfl) rfl ?_)
           first | refine J.skip rfl rfl rfl rfl rfl ?_ | refine J.qh rfl rfl rfl rfl ?_ | (refine J.qf rfl rfl rfl ?_;refine J.qj rfl rfl rfl rfl ?_)
           (first | refine J.qr rfl rfl rfl ?_ | refine J.qs rfl rfl rfl ?_)
           refine J.nil<|JX.qd ?_
           exact JX.cut (hK20 true) ⟨rfl,rfl,rfl,rfl,rfl,rfl,rfl,rfl,rfl,rfl,rfl,trivial⟩ (fun w1 hw=>⟨fun h=>(by cases h),hw⟩)
          ·by_cases xa:K<0
           ·refine JC.region<|J.qe rfl rfl<|J.zh Ty.u38 rfl rfl rfl<|J.qe rfl rfl ?_
            first | refine J.skip rfl rfl rfl rfl rfl ?_ | refine J.qh rfl rfl rfl rfl ?_ | (refine J.qf rfl rfl rfl ?_;refine J.qi Ty.fd78_0 rfl rfl ?_)
            refine J.qf rfl rfl rfl<|J.qw (v:=.int .i64 K) Ty.a3 rfl (fun w1 hw=>by rw [qB (hw.own ((zb,cb (cOp ⟨K,n0,⟨kx,vx,⟨au,cu,bx⟩⟩⟩) 78)) zm)];rfl) rfl ?_;refine J.qf rfl rfl rfl<|J.qj rfl rfl rfl rfl<|J.name 105 rfl (show _=Value.bool true by simp;omega) ?_
            (first | refine J.qr rfl rfl rfl ?_ | refine J.qs rfl rfl rfl ?_)
            refine J.qe rfl rfl ?_
            first | refine J.skip rfl rfl rfl rfl rfl ?_ | refine J.qh rfl rfl rfl rfl ?_ | (refine J.qf rfl rfl rfl ?_;refine J.qi Ty.fd78_0 rfl rfl ?_)
            first | refine J.skip rfl rfl rfl rfl rfl ?_ | refine J.qh rfl rfl rfl rfl ?_ | (refine J.qf rfl rfl rfl ?_;refine J.qQ Ty.a3 rfl zm (by exact rfl) rfl ?_)
            first | refine J.skip rfl rfl rfl rfl rfl ?_ | refine J.qh rfl rfl rfl rfl ?_ | (refine J.qf rfl rfl rfl ?_;refine J.qj rfl rfl rfl rfl ?_)
            (first | refine J.qr rfl rfl rfl ?_ | refine J.qs rfl rfl rfl ?_)
            refine J.nil<|JX.qd ?_
            exact JX.cut (hK20 true) ⟨rfl,rfl,rfl,rfl,rfl,rfl,rfl,rfl,rfl,rfl,rfl,trivial⟩ (fun w1 hw=>⟨fun h=>(by cases h),hw⟩)
           ·by_cases xb:3<K
            ·refine JC.region<|J.qe rfl rfl<|J.zh Ty.u38 rfl rfl rfl<|J.qe rfl rfl ?_
             first | refine J.skip rfl rfl rfl rfl rfl ?_ | refine J.qh rfl rfl rfl rfl ?_ | (refine J.qf rfl rfl rfl ?_;refine J.qi Ty.fd78_0 rfl rfl ?_)
             refine J.qf rfl rfl rfl<|J.qw (v:=.int .i64 K) Ty.a3 rfl (fun w1 hw=>by rw [qB (hw.own ((zb,cb (cOp ⟨K,n0,⟨kx,vx,⟨au,cu,bx⟩⟩⟩) 78)) zm)];rfl) rfl ?_;refine J.qf rfl rfl rfl<|J.qj rfl rfl rfl rfl<|J.name 105 rfl (show _=Value.bool false by simp;omega) ?_
             (first | refine J.qr rfl rfl rfl ?_ | refine J.qs rfl rfl rfl ?_)
             refine J.qe rfl rfl ?_
             first | refine J.skip rfl rfl rfl rfl rfl ?_ | refine J.qh rfl rfl rfl rfl ?_ | (refine J.qf rfl rfl rfl ?_;refine J.qi Ty.fd78_0 rfl rfl ?_)
             refine J.qf rfl rfl rfl<|J.qw (v:=.int .i64 K) Ty.a3 rfl (fun w1 hw=>by rw [qB (hw.own ((zb,cb (cOp ⟨K,n0,⟨kx,vx,⟨au,cu,bx⟩⟩⟩) 78)) zm)];rfl) rfl ?_;refine J.qf rfl rfl rfl<|J.qj rfl rfl rfl rfl<|J.name 110 rfl (show _=Value.bool true by simp;omega) ?_
             (first | refine J.qr rfl rfl rfl ?_ | refine J.qs rfl rfl rfl ?_)
             refine J.nil<|JX.qd ?_
             exact JX.cut (hK20 true) ⟨rfl,rfl,rfl,rfl,rfl,rfl,rfl,rfl,rfl,rfl,rfl,trivial⟩ (fun w1 hw=>⟨fun h=>(by cases h),hw⟩)
            ·refine JC.region<|J.qe rfl rfl<|J.zh Ty.u38 rfl rfl rfl<|J.qe rfl rfl ?_
             first | refine J.skip rfl rfl rfl rfl rfl ?_ | refine J.qh rfl rfl rfl rfl ?_ | (refine J.qf rfl rfl rfl ?_;refine J.qi Ty.fd78_0 rfl rfl ?_)
             refine J.qf rfl rfl rfl<|J.qw (v:=.int .i64 K) Ty.a3 rfl (fun w1 hw=>by rw [qB (hw.own ((zb,cb (cOp ⟨K,n0,⟨kx,vx,⟨au,cu,bx⟩⟩⟩) 78)) zm)];rfl) rfl ?_;refine J.qf rfl rfl rfl<|J.qj rfl rfl rfl rfl<|J.name 105 rfl (show _=Value.bool false by simp;omega) ?_
             (first | refine J.qr rfl rfl rfl ?_ | refine J.qs rfl rfl rfl ?_)
             refine J.qe rfl rfl ?_
             first | refine J.skip rfl rfl rfl rfl rfl ?_ | refine J.qh rfl rfl rfl rfl ?_ | (refine J.qf rfl rfl rfl ?_;refine J.qi Ty.fd78_0 rfl rfl ?_)
             refine J.qf rfl rfl rfl<|J.qw (v:=.int .i64 K) Ty.a3 rfl (fun w1 hw=>by rw [qB (hw.own ((zb,cb (cOp ⟨K,n0,⟨kx,vx,⟨au,cu,bx⟩⟩⟩) 78)) zm)];rfl) rfl ?_;refine J.qf rfl rfl rfl<|J.qj rfl rfl rfl rfl<|J.name 110 rfl (show _=Value.bool false by simp;omega) ?_
             (first | refine J.qr rfl rfl rfl ?_ | refine J.qs rfl rfl rfl ?_)
             refine J.nil<|JX.qd ?_
             exact JX.cut (hK20 false) ⟨rfl,rfl,rfl,rfl,rfl,rfl,rfl,rfl,rfl,rfl,rfl,trivial⟩ (fun w1 hw=>⟨fun h=>⟨trivial,by omega,by omega⟩,hw⟩)
      ·by_cases h120:120<i
       ·apply JC.zc 25 [Eqv (.int .i64 ((i:Nat):Int)),Eqv (.bool true),Eqv (.bool true),Eqv (undef),Eqv (undef),Eqv (undef),Eqv (.bool true),Eqv (.bool true),Eqv (undef),Eqv (undef),Eqv (undef),Eqv (undef),Eqv (undef),Eqv (.bool true),Eqv (.bool true),Eqv (undef),Eqv (undef),Eqv (undef),Eqv (undef),Eqv (undef),Eqv (undef),Eqv (undef),Eqv (undef),Eqv (undef),Eqv (.bool true)] Ty.mixed rfl rfl rfl (by kernel_rfl) rfl rfl (fun w w' hw hb=>hw.step hb) ⟨fun _ _ _ h _=>h,fun _ _ _ h _=>h,fun _ _ _ h _=>h,fun _ _ _ h _=>h,fun _ _ _ h _=>h,fun _ _ _ h _=>h,fun _ _ _ h _=>h,fun _ _ _ h _=>h,fun _ _ _ h _=>h,fun _ _ _ h _=>h,fun _ _ _ h _=>h,fun _ _ _ h _=>h,fun _ _ _ h _=>h,fun _ _ _ h _=>h,fun _ _ _ h _=>h,fun _ _ _ h _=>h,fun _ _ _ h _=>h,fun _ _ _ h _=>h,fun _ _ _ h _=>h,fun _ _ _ h _=>h,fun _ _ _ h _=>h,fun _ _ _ h _=>h,fun _ _ _ h _=>h,fun _ _ _ h _=>h,fun _ _ _ h _=>h,trivial⟩ ?hstep ?htail
        case hstep=>
         refine ⟨fun wi=>?_,fun wi=>?_,fun wi=>?_,fun wi=>?_,fun wi=>?_,fun wi=>?_,fun wi=>?_,fun wi=>?_,fun wi=>?_,fun wi=>?_,fun wi=>?_,fun wi=>?_,fun wi=>?_,fun wi=>?_,fun wi=>?_,fun wi=>?_,fun wi=>?_,fun wi=>?_,fun wi=>?_,fun wi=>?_,fun wi=>?_,fun wi=>?_,fun wi=>?_,fun wi=>?_,fun wi=>?_,trivial⟩
         ·refine Fin.nil<|J.qe rfl rfl ?_
          exact J.qm rfl
         ·refine Fin.qc rfl (Fin.nil ?_);refine J.qj rfl rfl rfl rfl<|J.name 63 rfl (show _=Value.bool true by simp;omega) ?_
          exact J.qm rfl
         ·refine Fin.qc rfl (Fin.nil ?_);refine J.qe rfl rfl ?_
          exact J.qm rfl
         ·refine Fin.qc rfl (Fin.nil ?_)
          first | refine J.skip rfl rfl rfl rfl rfl ?_ | refine J.qh rfl rfl rfl rfl ?_
          exact J.qm rfl
         ·refine Fin.qc rfl (Fin.nil ?_)
          first | refine J.skip rfl rfl rfl rfl rfl ?_ | refine J.qh rfl rfl rfl rfl ?_
          exact J.qm rfl
         ·refine Fin.qc rfl (Fin.qc rfl (Fin.qc rfl (Fin.nil ?_)))
          first | refine J.skip rfl rfl rfl rfl rfl ?_ | refine J.qh rfl rfl rfl rfl ?_
          exact J.qm rfl
         ·refine Fin.qc rfl (Fin.qc rfl (Fin.nil ?_))
          (first | refine J.qr rfl rfl rfl ?_ | refine J.qs rfl rfl rfl ?_)
          exact J.qm rfl
         ·refine Fin.qc rfl (Fin.qc rfl (Fin.nil ?_))
          refine J.qe rfl rfl ?_
          exact J.qm rfl
         ·refine Fin.qc rfl (Fin.nil ?_)
          first | refine J.skip rfl rfl rfl rfl rfl ?_ | refine J.qh rfl rfl rfl rfl ?_
          exact J.qm rfl
         ·refine Fin.qc rfl (Fin.qc rfl (Fin.nil ?_))
          first | refine J.skip rfl rfl rfl rfl rfl ?_ | refine J.qh rfl rfl rfl rfl ?_
          exact J.qm rfl
         ·refine Fin.qc rfl (Fin.nil ?_)
          first | refine J.skip rfl rfl rfl rfl rfl ?_ | refine J.qh rfl rfl rfl rfl ?_
          exact J.qm rfl
         ·refine Fin.qc rfl (Fin.qc rfl (Fin.nil ?_))
          first | refine J.skip rfl rfl rfl rfl rfl ?_ | refine J.qh rfl rfl rfl rfl ?_
          exact J.qm rfl
         ·refine Fin.qc rfl (Fin.qc rfl (Fin.qc rfl (Fin.nil ?_)))
          first | refine J.skip rfl rfl rfl rfl rfl ?_ | refine J.qh rfl rfl rfl rfl ?_
          exact J.qm rfl
         ·refine Fin.qc rfl (Fin.qc rfl (Fin.nil ?_))
          (first | refine J.qr rfl rfl rfl ?_ | refine J.qs rfl rfl rfl ?_)
          exact J.qm rfl
         ·refine Fin.qc rfl (Fin.qc rfl (Fin.nil ?_))
          refine J.qe rfl rfl ?_
          exact J.qm rfl
         ·refine Fin.qc rfl (Fin.nil ?_)
          first | refine J.skip rfl rfl rfl rfl rfl ?_ | refine J.qh rfl rfl rfl rfl ?_
          exact J.qm rfl
         ·refine Fin.qc rfl (Fin.qc rfl (Fin.qc rfl (Fin.nil ?_)))
          first | refine J.skip rfl rfl rfl rfl rfl ?_ | refine J.qh rfl rfl rfl rfl ?_
          exact J.qm rfl
         ·refine Fin.qc rfl (Fin.qc rfl (Fin.nil ?_))
          first | refine J.skip rfl rfl rfl rfl rfl ?_ | refine J.qh rfl rfl rfl rfl ?_
          exact J.qm rfl
         ·refine Fin.qc rfl (Fin.nil ?_)
          first | refine J.skip rfl rfl rfl rfl rfl ?_ | refine J.qh rfl rfl rfl rfl ?_
          exact J.qm rfl
         ·refine Fin.qc rfl (Fin.qc rfl (Fin.nil ?_))
          first | refine J.skip rfl rfl rfl rfl rfl ?_ | refine J.qh rfl rfl rfl rfl ?_
          exact J.qm rfl
         ·refine Fin.qc rfl (Fin.qc rfl (Fin.nil ?_))
          first | refine J.skip rfl rfl rfl rfl rfl ?_ | refine J.qh rfl rfl rfl rfl ?_
          exact J.qm rfl
         ·refine Fin.qc rfl (Fin.qc rfl (Fin.nil ?_))
          first | refine J.skip rfl rfl rfl rfl rfl ?_ | refine J.qh rfl rfl rfl rfl ?_
          exact J.qm rfl
         ·refine Fin.qc rfl (Fin.qc rfl (Fin.nil ?_))
          first | refine J.skip rfl rfl rfl rfl rfl ?_ | refine J.qh rfl rfl rfl rfl ?_
          exact J.qm rfl
         ·refine Fin.qc rfl (Fin.qc rfl (Fin.qc rfl (Fin.nil ?_)))
          first | refine J.skip rfl rfl rfl rfl rfl ?_ | refine J.qh rfl rfl rfl rfl ?_
          exact J.qm rfl
         ·refine Fin.qc rfl (Fin.qc rfl (Fin.nil ?_))
          (first | refine J.qr rfl rfl rfl ?_ | refine J.qs rfl rfl rfl ?_)
          exact J.qm rfl
        case htail=>
         refine Fin.qc rfl (Fin.qc rfl (Fin.qc rfl (Fin.qc rfl (Fin.qc rfl (Fin.qc rfl (Fin.qc rfl (Fin.qc rfl (Fin.qc rfl (Fin.qc rfl (Fin.qc rfl (Fin.qc rfl (Fin.qc rfl (Fin.qc rfl (Fin.qc rfl (Fin.qc rfl (Fin.qc rfl (Fin.qc rfl (Fin.qc rfl (Fin.qc rfl (Fin.qc rfl (Fin.qc rfl (Fin.qc rfl (Fin.qc rfl (Fin.qc rfl (Fin.nil ?_)))))))))))))))))))))))))
         refine J.nil<|JX.qd ?_
         exact JX.cut (hK14 true) ⟨rfl,rfl,rfl,rfl,rfl,rfl,rfl,rfl,rfl,rfl,rfl,trivial⟩ (fun w1 hw=>⟨fun h=>(by cases h),hw⟩)
       ·rcases o with e | ⟨v1,m1,l1,q,dn,inc,L,es,ck,v2,l2,ys,ay,cy,yl⟩
        ·refine JC.conseq (I':=St w [] ((zb,cb (cOp ⟨K,n0,⟨kx,vx,⟨au,cu,bx⟩⟩⟩) 78)::(d,dkO s N σ.p σ.k)::(s,dkS σ.B)::(rd,rfO (.slice a0 (64*N) c0) σ.p σ.k)::(lp9++([])))) ?_ (fun w1 hw=>hw)
         apply JC.zc 25 [Eqv (.int .i64 ((i:Nat):Int)),Eqv (.bool false),Eqv (.bool false),Eqv (.int .i64 e),Eqv (.int .i64 e),Eqv (.bool false),Eqv (.bool false),Eqv (.bool false),Eqv (.pointer none),Eqv (.bool true),Eqv (.pointer none),Eqv (.bool true),Eqv (.bool false),Eqv (.bool false),Eqv (.bool false),Eqv (.pointer (some ⟨d,0,none⟩)),RowP (64*N) (σ.B.map u8),Eqv (.string (str σ.B)),Eqv (.pointer (some ⟨rd,0,none⟩)),Eqv (.pointer (some ⟨rd,0,none⟩)),Eqv (.pointer (some ⟨rd,0+0,none⟩)),Eqv (.slice a0 (64*N) c0),Eqv (.string (str σ.B)),Eqv (.bool false),Eqv (.bool false)] Ty.mixed rfl rfl rfl (by kernel_rfl) rfl rfl (fun w w' hw hb=>hw.step hb) ⟨fun _ _ _ h _=>h,fun _ _ _ h _=>h,fun _ _ _ h _=>h,fun _ _ _ h _=>h,fun _ _ _ h _=>h,fun _ _ _ h _=>h,fun _ _ _ h _=>h,fun _ _ _ h _=>h,fun _ _ _ h _=>h,fun _ _ _ h _=>h,fun _ _ _ h _=>h,fun _ _ _ h _=>h,fun _ _ _ h _=>h,fun _ _ _ h _=>h,fun _ _ _ h _=>h,fun _ _ _ h _=>h,RowP.st _ _,fun _ _ _ h _=>h,fun _ _ _ h _=>h,fun _ _ _ h _=>h,fun _ _ _ h _=>h,fun _ _ _ h _=>h,fun _ _ _ h _=>h,fun _ _ _ h _=>h,fun _ _ _ h _=>h,trivial⟩ ?hstep ?htail
         case hstep=>
          refine ⟨fun wi=>?_,fun wi=>?_,fun wi=>?_,fun wi=>?_,fun wi=>?_,fun wi=>?_,fun wi=>?_,fun wi=>?_,fun wi=>?_,fun wi=>?_,fun wi=>?_,fun wi=>?_,fun wi=>?_,fun wi=>?_,fun wi=>?_,fun wi=>?_,fun wi=>?_,fun wi=>?_,fun wi=>?_,fun wi=>?_,fun wi=>?_,fun wi=>?_,fun wi=>?_,fun wi=>?_,fun wi=>?_,trivial⟩
          ·refine Fin.nil<|J.qe rfl rfl ?_
           exact J.qm rfl
          ·refine Fin.qc rfl (Fin.nil ?_);refine J.qj rfl rfl rfl rfl<|J.name 63 rfl (show _=Value.bool false by simp;omega) ?_
           exact J.qm rfl
          ·refine Fin.qc rfl (Fin.nil ?_);refine J.qe rfl rfl ?_
           exact J.qm rfl
          ·refine Fin.qc rfl (Fin.nil ?_)
           first | refine J.skip rfl rfl rfl rfl rfl ?_ | refine J.qh rfl rfl rfl rfl ?_ | (refine J.qf rfl rfl rfl ?_;refine J.qe rfl rfl ?_)
           exact J.qm rfl
          ·refine Fin.qc rfl (Fin.nil ?_)
           first | refine J.skip rfl rfl rfl rfl rfl ?_ | refine J.qh rfl rfl rfl rfl ?_ | (refine J.qf rfl rfl rfl ?_;refine J.qe rfl rfl ?_)
           exact J.qm rfl
          ·refine Fin.qc rfl (Fin.qc rfl (Fin.qc rfl (Fin.nil ?_)))
           refine J.qf rfl rfl rfl<|J.qj rfl rfl rfl rfl<|J.name 67 rfl (show Value.bool _=.bool false by simp) ?_
           exact J.qm rfl
          ·refine Fin.qc rfl (Fin.qc rfl (Fin.nil ?_))
           (first | refine J.qr rfl rfl rfl ?_ | refine J.qs rfl rfl rfl ?_)
           exact J.qm rfl
          ·refine Fin.qc rfl (Fin.qc rfl (Fin.nil ?_))
           refine J.qe rfl rfl ?_
           exact J.qm rfl
          ·refine Fin.qc rfl (Fin.nil ?_)
           first | refine J.skip rfl rfl rfl rfl rfl ?_ | refine J.qh rfl rfl rfl rfl ?_ | (refine J.qf rfl rfl rfl ?_;refine J.qe rfl rfl ?_)
           exact J.qm rfl
          ·refine Fin.qc rfl (Fin.qc rfl (Fin.nil ?_))
           first | refine J.skip rfl rfl rfl rfl rfl ?_ | refine J.qh rfl rfl rfl rfl ?_ | (refine J.qf rfl rfl rfl ?_;refine J.zh Ty.u38 rfl rfl rfl ?_)
           exact J.qm rfl
          ·refine Fin.qc rfl (Fin.nil ?_)
           first | refine J.skip rfl rfl rfl rfl rfl ?_ | refine J.qh rfl rfl rfl rfl ?_ | (refine J.qf rfl rfl rfl ?_;refine J.qe rfl rfl ?_)
           exact J.qm rfl
          ·refine Fin.qc rfl (Fin.qc rfl (Fin.nil ?_))
           first | refine J.skip rfl rfl rfl rfl rfl ?_ | refine J.qh rfl rfl rfl rfl ?_ | (refine J.qf rfl rfl rfl ?_;refine J.zh Ty.u68 rfl rfl rfl ?_)
           exact J.qm rfl
          ·refine Fin.qc rfl (Fin.qc rfl (Fin.qc rfl (Fin.nil ?_)))
           refine J.qf rfl rfl rfl<|J.yH (.inr rfl) Ty.u4 rfl rfl rfl<|J.name 74 rfl (show Value.bool _=.bool false by simp) ?_
           exact J.qm rfl
          ·refine Fin.qc rfl (Fin.qc rfl (Fin.nil ?_))
           (first | refine J.qr rfl rfl rfl ?_ | refine J.qs rfl rfl rfl ?_)
           exact J.qm rfl
          ·refine Fin.qc rfl (Fin.qc rfl (Fin.nil ?_))
           refine J.qe rfl rfl ?_
           exact J.qm rfl
          ·refine Fin.qc rfl (Fin.nil ?_)
           first | refine J.skip rfl rfl rfl rfl rfl ?_ | refine J.qh rfl rfl rfl rfl ?_ | (refine J.qf rfl rfl rfl ?_;refine J.qe rfl rfl ?_)
           exact J.qm rfl
          ·refine Fin.qc rfl (Fin.qc rfl (Fin.qc rfl (Fin.nil ?_)))
           refine J.qf rfl rfl rfl ?_;refine J.callR (k:=64*N) (ys:=σ.B.map u8) Ty.bd31 rfl rfl (fun w1 hw=>(bytes_spec d s N σ.B σ.p σ.k w1 (St.owns (l1:=[(d,dkO s N σ.p σ.k),(s,dkS σ.B)]) (l:=(zb,cb (cOp ⟨K,n0,⟨kx,vx,⟨au,cu,bx⟩⟩⟩) 78)::(rd,rfO (.slice a0 (64*N) c0) σ.p σ.k)::(lp9++([]))) (hw.perm zp)) hlen (by omega)).mono fun _ w2 ⟨x,h1,h2,h3⟩=>⟨x.1,h1,h2.row (l:=[(d,dkO s N σ.p σ.k),(s,dkS σ.B)]) h3,h3.same (St.owns (l1:=[(d,dkO s N σ.p σ.k),(s,dkS σ.B)]) (l:=(zb,cb (cOp ⟨K,n0,⟨kx,vx,⟨au,cu,bx⟩⟩⟩) 78)::(rd,rfO (.slice a0 (64*N) c0) σ.p σ.k)::(lp9++([]))) (hw.perm zp)) (fun p hp=>List.mem_append_right _ hp)⟩) (fun v78=>?_)
           refine J.nil (JX.fin rfl (fun w hw=>⟨hw.1,hw.2⟩))
          ·refine Fin.cons (fun v9_16=>Fin.qc rfl (Fin.nil ?_))
           refine J.prR<|J.qf rfl rfl rfl<|J.z2 (m:=64*N) (bs:=σ.B) Ty.el26 Ty.u5 Ty.u9 rfl (fun w1 hw=>hw.2.1) hlen rfl ?_
           exact J.qm rfl
          ·refine Fin.qc rfl (Fin.nil ?_)
           first | refine J.skip rfl rfl rfl rfl rfl ?_ | refine J.qh rfl rfl rfl rfl ?_ | (refine J.qf rfl rfl rfl ?_;refine J.qe rfl rfl ?_)
           exact J.qm rfl
          ·refine Fin.qc rfl (Fin.qc rfl (Fin.nil ?_))
           first | refine J.skip rfl rfl rfl rfl rfl ?_ | refine J.qh rfl rfl rfl rfl ?_ | (refine J.qf rfl rfl rfl ?_;refine J.qq rfl rfl ?_)
           exact J.qm rfl
          ·refine Fin.qc rfl (Fin.qc rfl (Fin.nil ?_))
           first | refine J.skip rfl rfl rfl rfl rfl ?_ | refine J.qh rfl rfl rfl rfl ?_ | (refine J.qf rfl rfl rfl ?_;refine J.qi Ty.fd67_0 rfl rfl ?_)
           exact J.qm rfl
          ·refine Fin.qc rfl (Fin.qc rfl (Fin.nil ?_))
           refine J.qf rfl rfl rfl<|J.qw (v:=.slice a0 (64*N) c0) Ty.a26 rfl (fun w1 hw=>(qB (hw.2.own ((rd,rfO (.slice a0 (64*N) c0) σ.p σ.k)) zm)).trans rfl) rfl ?_
           exact J.qm rfl
          ·refine Fin.qc rfl (Fin.qc rfl (Fin.nil ?_))
           refine J.qf rfl rfl rfl<|J.z2 (m:=64*N) (bs:=σ.B) Ty.el26 Ty.u5 Ty.u9 rfl (fun w1 hw=>qW hv9 hw.2 zq) hlen rfl ?_
           exact J.qm rfl
          ·refine Fin.qc rfl (Fin.qc rfl (Fin.qc rfl (Fin.nil ?_)))
           refine J.qf rfl rfl rfl<|J.strNe rfl rfl rfl<|J.name 85 rfl (show Value.bool _=.bool false by simp) ?_
           exact J.qm rfl
          ·refine Fin.qc rfl (Fin.qc rfl (Fin.nil ?_))
           (first | refine J.qr rfl rfl rfl ?_ | refine J.qs rfl rfl rfl ?_)
           exact J.qm rfl
         case htail=>
          refine Fin.qc rfl (Fin.qc rfl (Fin.qc rfl (Fin.qc rfl (Fin.qc rfl (Fin.qc rfl (Fin.qc rfl (Fin.qc rfl (Fin.qc rfl (Fin.qc rfl (Fin.qc rfl (Fin.qc rfl (Fin.qc rfl (Fin.qc rfl (Fin.qc rfl (Fin.qc rfl (Fin.cons (fun v9_16=>Fin.qc rfl (Fin.qc rfl (Fin.qc rfl (Fin.qc rfl (Fin.qc rfl (Fin.qc rfl (Fin.qc rfl (Fin.qc rfl (Fin.nil ?_)))))))))))))))))))))))))
          refine J.drop<|J.nil<|JX.qd ?_
          exact JX.cut (hK14 false) ⟨rfl,rfl,rfl,rfl,rfl,rfl,rfl,rfl,rfl,rfl,rfl,trivial⟩ (fun w1 hw=>⟨fun h=>(by omega),hw⟩)
        ·refine JC.conseq (I':=St w [] ((zb,cb (cOp ⟨K,n0,⟨kx,vx,⟨au,cu,bx⟩⟩⟩) 78)::(d,dkO s N σ.p σ.k)::(s,dkS σ.B)::(rd,rfO (.slice a0 (64*N) c0) σ.p σ.k)::(lp9++((v1,vaO (.pointer (some ⟨l1,0,none⟩)) m1 ((inc:Nat):Int))::(m1,.map es ck)::(l1,lgO d q dn)::(v2,cb [.pointer (some ⟨l2,0,none⟩),.slice ay ys.length cy,.int .i64 ((inc:Nat):Int)] 74)::(l2,rlO rd q dn)::(yl++(lpsH L++lpsH ys)))))) ?_ (fun w1 hw=>hw)
         apply JC.zc 25 [Eqv (.int .i64 ((i:Nat):Int)),Eqv (.bool false),Eqv (.bool false),Eqv (.int .i64 0),Eqv (.int .i64 0),Eqv (.bool false),Eqv (.bool false),Eqv (.bool false),Eqv (.pointer (some ⟨v1,0,none⟩)),Eqv (.bool false),Eqv (.pointer (some ⟨v2,0,none⟩)),Eqv (.bool false),Eqv (.bool false),Eqv (.bool false),Eqv (.bool false),Eqv (.pointer (some ⟨d,0,none⟩)),RowP (64*N) (σ.B.map u8),Eqv (.string (str σ.B)),Eqv (.pointer (some ⟨rd,0,none⟩)),Eqv (.pointer (some ⟨rd,0,none⟩)),Eqv (.pointer (some ⟨rd,0+0,none⟩)),Eqv (.slice a0 (64*N) c0),Eqv (.string (str σ.B)),Eqv (.bool false),Eqv (.bool false)] Ty.mixed rfl rfl rfl (by kernel_rfl) rfl rfl (fun w w' hw hb=>hw.step hb) ⟨fun _ _ _ h _=>h,fun _ _ _ h _=>h,fun _ _ _ h _=>h,fun _ _ _ h _=>h,fun _ _ _ h _=>h,fun _ _ _ h _=>h,fun _ _ _ h _=>h,fun _ _ _ h _=>h,fun _ _ _ h _=>h,fun _ _ _ h _=>h,fun _ _ _ h _=>h,fun _ _ _ h _=>h,fun _ _ _ h _=>h,fun _ _ _ h _=>h,fun _ _ _ h _=>h,fun _ _ _ h _=>h,RowP.st _ _,fun _ _ _ h _=>h,fun _ _ _ h _=>h,fun _ _ _ h _=>h,fun _ _ _ h _=>h,fun _ _ _ h _=>h,fun _ _ _ h _=>h,fun _ _ _ h _=>h,fun _ _ _ h _=>h,trivial⟩ ?hstep ?htail
         case hstep=>
          refine ⟨fun wi=>?_,fun wi=>?_,fun wi=>?_,fun wi=>?_,fun wi=>?_,fun wi=>?_,fun wi=>?_,fun wi=>?_,fun wi=>?_,fun wi=>?_,fun wi=>?_,fun wi=>?_,fun wi=>?_,fun wi=>?_,fun wi=>?_,fun wi=>?_,fun wi=>?_,fun wi=>?_,fun wi=>?_,fun wi=>?_,fun wi=>?_,fun wi=>?_,fun wi=>?_,fun wi=>?_,fun wi=>?_,trivial⟩
          ·refine Fin.nil<|J.qe rfl rfl ?_
           exact J.qm rfl
          ·refine Fin.qc rfl (Fin.nil ?_);refine J.qj rfl rfl rfl rfl<|J.name 63 rfl (show _=Value.bool false by simp;omega) ?_
           exact J.qm rfl
          ·refine Fin.qc rfl (Fin.nil ?_);refine J.qe rfl rfl ?_
           exact J.qm rfl
          ·refine Fin.qc rfl (Fin.nil ?_)
           first | refine J.skip rfl rfl rfl rfl rfl ?_ | refine J.qh rfl rfl rfl rfl ?_ | (refine J.qf rfl rfl rfl ?_;refine J.qe rfl rfl ?_)
           exact J.qm rfl
          ·refine Fin.qc rfl (Fin.nil ?_)
           first | refine J.skip rfl rfl rfl rfl rfl ?_ | refine J.qh rfl rfl rfl rfl ?_ | (refine J.qf rfl rfl rfl ?_;refine J.qe rfl rfl ?_)
           exact J.qm rfl
          ·refine Fin.qc rfl (Fin.qc rfl (Fin.qc rfl (Fin.nil ?_)))
           refine J.qf rfl rfl rfl<|J.qj rfl rfl rfl rfl<|J.name 67 rfl (show Value.bool _=.bool false by simp) ?_
           exact J.qm rfl
          ·refine Fin.qc rfl (Fin.qc rfl (Fin.nil ?_))
           (first | refine J.qr rfl rfl rfl ?_ | refine J.qs rfl rfl rfl ?_)
           exact J.qm rfl
          ·refine Fin.qc rfl (Fin.qc rfl (Fin.nil ?_))
           refine J.qe rfl rfl ?_
           exact J.qm rfl
          ·refine Fin.qc rfl (Fin.nil ?_)
           first | refine J.skip rfl rfl rfl rfl rfl ?_ | refine J.qh rfl rfl rfl rfl ?_ | (refine J.qf rfl rfl rfl ?_;refine J.qe rfl rfl ?_)
           exact J.qm rfl
          ·refine Fin.qc rfl (Fin.qc rfl (Fin.nil ?_))
           first | refine J.skip rfl rfl rfl rfl rfl ?_ | refine J.qh rfl rfl rfl rfl ?_ | (refine J.qf rfl rfl rfl ?_;refine J.zh Ty.u38 rfl rfl rfl ?_)
           exact J.qm rfl
          ·refine Fin.qc rfl (Fin.nil ?_)
           first | refine J.skip rfl rfl rfl rfl rfl ?_ | refine J.qh rfl rfl rfl rfl ?_ | (refine J.qf rfl rfl rfl ?_;refine J.qe rfl rfl ?_)
           exact J.qm rfl
          ·refine Fin.qc rfl (Fin.qc rfl (Fin.nil ?_))
           first | refine J.skip rfl rfl rfl rfl rfl ?_ | refine J.qh rfl rfl rfl rfl ?_ | (refine J.qf rfl rfl rfl ?_;refine J.zh Ty.u68 rfl rfl rfl ?_)
           exact J.qm rfl
          ·refine Fin.qc rfl (Fin.qc rfl (Fin.qc rfl (Fin.nil ?_)))
           refine J.qf rfl rfl rfl<|J.yH (.inr rfl) Ty.u4 rfl rfl rfl<|J.name 74 rfl (show Value.bool _=.bool false by simp) ?_
           exact J.qm rfl
          ·refine Fin.qc rfl (Fin.qc rfl (Fin.nil ?_))
           (first | refine J.qr rfl rfl rfl ?_ | refine J.qs rfl rfl rfl ?_)
           exact J.qm rfl
          ·refine Fin.qc rfl (Fin.qc rfl (Fin.nil ?_))
           refine J.qe rfl rfl ?_
           exact J.qm rfl
          ·refine Fin.qc rfl (Fin.nil ?_)
           first | refine J.skip rfl rfl rfl rfl rfl ?_ | refine J.qh rfl rfl rfl rfl ?_ | (refine J.qf rfl rfl rfl ?_;refine J.qe rfl rfl ?_)
           exact J.qm rfl
          ·refine Fin.qc rfl (Fin.qc rfl (Fin.qc rfl (Fin.nil ?_)))
           refine J.qf rfl rfl rfl ?_;refine J.callR (k:=64*N) (ys:=σ.B.map u8) Ty.bd31 rfl rfl (fun w1 hw=>(bytes_spec d s N σ.B σ.p σ.k w1 (St.owns (l1:=[(d,dkO s N σ.p σ.k),(s,dkS σ.B)]) (l:=(zb,cb (cOp ⟨K,n0,⟨kx,vx,⟨au,cu,bx⟩⟩⟩) 78)::(rd,rfO (.slice a0 (64*N) c0) σ.p σ.k)::(lp9++((v1,vaO (.pointer (some ⟨l1,0,none⟩)) m1 ((inc:Nat):Int))::(m1,.map es ck)::(l1,lgO d q dn)::(v2,cb [.pointer (some ⟨l2,0,none⟩),.slice ay ys.length cy,.int .i64 ((inc:Nat):Int)] 74)::(l2,rlO rd q dn)::(yl++(lpsH L++lpsH ys))))) (hw.perm zp)) hlen (by omega)).mono fun _ w2 ⟨x,h1,h2,h3⟩=>⟨x.1,h1,h2.row (l:=[(d,dkO s N σ.p σ.k),(s,dkS σ.B)]) h3,h3.same (St.owns (l1:=[(d,dkO s N σ.p σ.k),(s,dkS σ.B)]) (l:=(zb,cb (cOp ⟨K,n0,⟨kx,vx,⟨au,cu,bx⟩⟩⟩) 78)::(rd,rfO (.slice a0 (64*N) c0) σ.p σ.k)::(lp9++((v1,vaO (.pointer (some ⟨l1,0,none⟩)) m1 ((inc:Nat):Int))::(m1,.map es ck)::(l1,lgO d q dn)::(v2,cb [.pointer (some ⟨l2,0,none⟩),.slice ay ys.length cy,.int .i64 ((inc:Nat):Int)] 74)::(l2,rlO rd q dn)::(yl++(lpsH L++lpsH ys))))) (hw.perm zp)) (fun p hp=>List.mem_append_right _ hp)⟩) (fun v78=>?_)
           refine J.nil (JX.fin rfl (fun w hw=>⟨hw.1,hw.2⟩))
          ·refine Fin.cons (fun v9_16=>Fin.qc rfl (Fin.nil ?_))
           refine J.prR<|J.qf rfl rfl rfl<|J.z2 (m:=64*N) (bs:=σ.B) Ty.el26 Ty.u5 Ty.u9 rfl (fun w1 hw=>hw.2.1) hlen rfl ?_
           exact J.qm rfl
          ·refine Fin.qc rfl (Fin.nil ?_)
           first | refine J.skip rfl rfl rfl rfl rfl ?_ | refine J.qh rfl rfl rfl rfl ?_ | (refine J.qf rfl rfl rfl ?_;refine J.qe rfl rfl ?_)
           exact J.qm rfl
          ·refine Fin.qc rfl (Fin.qc rfl (Fin.nil ?_))
           first | refine J.skip rfl rfl rfl rfl rfl ?_ | refine J.qh rfl rfl rfl rfl ?_ | (refine J.qf rfl rfl rfl ?_;refine J.qq rfl rfl ?_)
           exact J.qm rfl
          ·refine Fin.qc rfl (Fin.qc rfl (Fin.nil ?_))
           first | refine J.skip rfl rfl rfl rfl rfl ?_ | refine J.qh rfl rfl rfl rfl ?_ | (refine J.qf rfl rfl rfl ?_;refine J.qi Ty.fd67_0 rfl rfl ?_)
           exact J.qm rfl
          ·refine Fin.qc rfl (Fin.qc rfl (Fin.nil ?_))
           refine J.qf rfl rfl rfl<|J.qw (v:=.slice a0 (64*N) c0) Ty.a26 rfl (fun w1 hw=>(qB (hw.2.own ((rd,rfO (.slice a0 (64*N) c0) σ.p σ.k)) zm)).trans rfl) rfl ?_
           exact J.qm rfl
          ·refine Fin.qc rfl (Fin.qc rfl (Fin.nil ?_))
           refine J.qf rfl rfl rfl<|J.z2 (m:=64*N) (bs:=σ.B) Ty.el26 Ty.u5 Ty.u9 rfl (fun w1 hw=>qW hv9 hw.2 zq) hlen rfl ?_
           exact J.qm rfl
          ·refine Fin.qc rfl (Fin.qc rfl (Fin.qc rfl (Fin.nil ?_)))
           refine J.qf rfl rfl rfl<|J.strNe rfl rfl rfl<|J.name 85 rfl (show Value.bool _=.bool false by simp) ?_
           exact J.qm rfl
          ·refine Fin.qc rfl (Fin.qc rfl (Fin.nil ?_))
           (first | refine J.qr rfl rfl rfl ?_ | refine J.qs rfl rfl rfl ?_)
           exact J.qm rfl
         case htail=>
          refine Fin.qc rfl (Fin.qc rfl (Fin.qc rfl (Fin.qc rfl (Fin.qc rfl (Fin.qc rfl (Fin.qc rfl (Fin.qc rfl (Fin.qc rfl (Fin.qc rfl (Fin.qc rfl (Fin.qc rfl (Fin.qc rfl (Fin.qc rfl (Fin.qc rfl (Fin.qc rfl (Fin.cons (fun v9_16=>Fin.qc rfl (Fin.qc rfl (Fin.qc rfl (Fin.qc rfl (Fin.qc rfl (Fin.qc rfl (Fin.qc rfl (Fin.qc rfl (Fin.nil ?_)))))))))))))))))))))))))
          refine J.drop<|J.nil<|JX.qd ?_
          exact JX.cut (hK14 false) ⟨rfl,rfl,rfl,rfl,rfl,rfl,rfl,rfl,rfl,rfl,rfl,trivial⟩ (fun w1 hw=>⟨fun h=>(by omega),hw⟩)
    ·try simp only [decide_eq_true_eq,decide_eq_false_iff_not,beq_iff_eq,bne_iff_ne,bne_eq_false_iff_eq,ne_eq,beq_eq_false_iff_ne,Bool.not_eq_true,Bool.not_eq_false,Int.not_lt,Int.not_le] at h1
     refine JC.qX<|JX.qE<|JX.qE<|JX.qT<|JX.qd ?_
     exact JX.cut (hK6 ⟨i,o,σ,lp9⟩) ⟨rfl,rfl,rfl,rfl,rfl,rfl,trivial⟩ (fun w1 hw=>⟨hI,by first | exact hw | exact hw.drop (List.sublist_cons_self _ _)⟩)
  ·rcases z with ⟨e1,σ1⟩ | ⟨v1,m1,l1,q1,inc1,L1,es1,ck1,σ1⟩
   ·simp only [VO.Pr,VO.lst] at hz ⊢
    obtain ⟨hz1,he1⟩:=hz
    obtain ⟨hpl,hpk,hpk2,hpp,hpd,hpo⟩:=plays_open hlen (by omega) (by omega) hp hdg hz1
    refine JC.region<|J.qe rfl rfl<|J.perm (((rd,rfO (.slice a0 (64*N) c0) σ0.p σ0.k)::lp0)++((d,dkO s N σ1.p σ1.k)::(s,dkS σ1.B)::([]))) zp ?_;refine J.qO (α:=RO) (V:=RO.val) (Pr:=fun z=>z.Pr N ⟨σ0.B,σ0.p,σ0.k⟩ (.slice a0 (64*N) c0)) (L:=fun z=>z.lst rd (.slice a0 (64*N) c0)) (l1:=(rd,rfO (.slice a0 (64*N) c0) σ0.p σ0.k)::lp0) Ty.bd30 rfl rfl (fun w1 hw=>yT rd N _ lp0 σ0.B σ0.p σ0.k w1 (St.owns hw) hv0 hlen (by omega) hk0 (by omega) hp) (fun z hz=>?_)
    rcases z with ⟨e2,σ2,lpn⟩ | ⟨v2,l2,q2,inc2,A2,ys,yv,yl,σ2,lpn⟩
    rotate_left
    ·exact absurd (congrArg (fun x=>x.1) (hz1.symm.trans hz.1)) he1
    simp only [RO.Pr,RO.lst] at hz ⊢
    obtain ⟨hz2,he2,hvn⟩:=hz
    have hz3:=hz1.symm.trans hz2
    simp only [Prod.mk.injEq,true_and] at hz3
    obtain ⟨he9,hs9⟩:=hz3
    subst he9 hs9
    refine J.name 52 rfl (show _=Value.tuple #[.pointer none,.int .i64 e1] from rfl) ?_;refine J.qe rfl rfl<|J.extract rfl rfl rfl<|J.extract rfl rfl rfl<|J.assign rfl rfl<|J.assign rfl rfl<|J.nil<|JX.qd ?_
    exact JX.cut (hK5 ⟨0,.bad e1,σ1,lpn⟩) ⟨rfl,rfl,rfl,rfl,rfl,rfl,rfl,trivial⟩ (fun w1 hw=>⟨⟨rfl,⟨by simp only;omega,hpl,by simp only;omega,by simp only;omega,hpp,hvn,hpd⟩⟩,(hw.perm (zp:List.Perm _ (([])++((d,dkO s N σ1.p σ1.k)::(s,dkS σ1.B)::(rd,rfO (.slice a0 (64*N) c0) σ1.p σ1.k)::(lpn++([])))))).drop (List.sublist_append_right _ _)⟩)
   ·simp only [VO.Pr,VO.lst] at hz ⊢
    obtain ⟨hz1,hT1,hV1⟩:=hz
    obtain ⟨hpl,hpk,hpk2,hpp,hpd,hpo⟩:=plays_open hlen (by omega) (by omega) hp hdg hz1
    obtain ⟨hlog1,hg1,hLn1,hLs1⟩:=hpo q1 inc1 _ rfl
    rw [List.length_map] at hLn1
    refine JC.region<|J.qe rfl rfl<|J.perm (((rd,rfO (.slice a0 (64*N) c0) σ0.p σ0.k)::lp0)++((vltB v1 m1 l1 d s N q1 false inc1 es1 ck1 σ1++lpsH L1)++([]))) zp ?_;refine J.qO (α:=RO) (V:=RO.val) (Pr:=fun z=>z.Pr N ⟨σ0.B,σ0.p,σ0.k⟩ (.slice a0 (64*N) c0)) (L:=fun z=>z.lst rd (.slice a0 (64*N) c0)) (l1:=(rd,rfO (.slice a0 (64*N) c0) σ0.p σ0.k)::lp0) Ty.bd30 rfl rfl (fun w1 hw=>yT rd N _ lp0 σ0.B σ0.p σ0.k w1 (St.owns hw) hv0 hlen (by omega) hk0 (by omega) hp) (fun z hz=>?_)
    rcases z with ⟨e2,σ2,lpn⟩ | ⟨v2,l2,q2,inc2,A2,ys,yv,yl,σ2,lpn⟩
    ·exact absurd (congrArg (fun x=>x.1) (hz1.symm.trans hz.1)).symm hz.2.1
    simp only [RO.Pr,RO.lst] at hz ⊢
    obtain ⟨hz2,hS,hW,hyl,hyv,hvn⟩:=hz
    have hz3:=hz1.symm.trans hz2
    simp only [Prod.mk.injEq,Option.some.injEq,true_and] at hz3
    obtain ⟨⟨hq9,hi9,hA9⟩,hs9⟩:=hz3
    subst hq9 hi9 hA9 hs9
    obtain ⟨ay,cy,rfl,hcy⟩:=hyv.form
    refine J.name 52 rfl (show _=Value.tuple #[.pointer (some ⟨v2,0,none⟩),.int .i64 0] from rfl) ?_;refine J.qe rfl rfl<|J.extract rfl rfl rfl<|J.extract rfl rfl rfl<|J.assign rfl rfl<|J.assign rfl rfl<|J.nil<|JX.qd ?_
    exact JX.cut (hK5 ⟨0,.ok v1 m1 l1 q1 false inc1 L1 es1 ck1 v2 l2 ys ay cy yl,σ1,lpn⟩) ⟨rfl,rfl,rfl,rfl,rfl,rfl,rfl,trivial⟩ (fun w1 hw=>⟨⟨rfl,⟨by simp only;omega,hpl,by simp only;omega,by simp only;omega,hpp,hvn,⟨hlog1,by simp only;omega,hT1,hV1,by simp only;omega,fun x hx=>hLs1 x.it (List.mem_map.2 ⟨x,hx,rfl⟩),hS,hW,hyv⟩⟩⟩,(hw.perm (zp:List.Perm _ (([])++((d,dkO s N σ1.p σ1.k)::(s,dkS σ1.B)::(rd,rfO (.slice a0 (64*N) c0) σ1.p σ1.k)::(lpn++((v1,vaO (.pointer (some ⟨l1,0,none⟩)) m1 ((inc1:Nat):Int))::(m1,.map es1 ck1)::(l1,lgO d q1 false)::(v2,cb [.pointer (some ⟨l2,0,none⟩),.slice ay ys.length cy,.int .i64 ((inc1:Nat):Int)] 74)::(l2,rlO rd q1 false)::(yl++(lpsH L1++lpsH ys)))))))).drop (List.sublist_append_right _ _)⟩)
 ·refine JC.region<|J.qe rfl rfl<|J.perm ([(d,dkO s N σ0.p σ0.k),(s,dkS σ0.B)]++((rd,rfO (.slice a0 (64*N) c0) σ0.p σ0.k)::lp0)) zp ?_;refine J.qO (α:=VO) (V:=VO.val) (Pr:=fun z=>z.Pr N ⟨σ0.B,σ0.p,σ0.k⟩) (L:=fun z=>z.lst d s N) Ty.bd17 rfl rfl (fun w1 hw=>vopen_spec d s N σ0.B σ0.p σ0.k w1 (St.owns hw) hlen (by omega) hk0 (by omega) hp) (fun z hz=>?_)
  rcases z with ⟨e1,σ1⟩ | ⟨v1,m1,l1,q1,inc1,L1,es1,ck1,σ1⟩
  ·refine J.name 47 rfl (show _=Value.tuple #[.pointer none,.int .i64 e1] from rfl) ?_;refine J.qe rfl rfl<|J.extract rfl rfl rfl<|J.extract rfl rfl rfl<|J.assign rfl rfl<|J.assign rfl rfl<|J.nil<|JX.qd ?_
   exact JX.cut (hK4 (.bad e1 σ1)) ⟨rfl,rfl,rfl,rfl,rfl,trivial⟩ (fun w1 hw=>⟨hz,hw⟩)
  ·refine J.name 47 rfl (show _=Value.tuple #[.pointer (some ⟨v1,0,none⟩),.int .i64 0] from rfl) ?_;refine J.qe rfl rfl<|J.extract rfl rfl rfl<|J.extract rfl rfl rfl<|J.assign rfl rfl<|J.assign rfl rfl<|J.nil<|JX.qd ?_
   exact JX.cut (hK4 (.ok v1 m1 l1 q1 inc1 L1 es1 ck1 σ1)) ⟨rfl,rfl,rfl,rfl,rfl,trivial⟩ (fun w1 hw=>⟨hz,hw⟩)
theorem vaultPlays_walk (w:World) (x:Int) (_hx:okN x) (o:Sl OpX) (ho:RSl 36 80 ROpx w [o.v] o) :
  Calls Try.prog 9 [.int .i64 x,o.v].toArray w fun r w'=>r=.returned (.bool true)∧Bel w w':=
 vaultPlaysL_spec x o.v o.xs w (rows_opx ho).1 (rows_opx ho).2
end Go.Proofs.Ytoaenmlhehcjfaa
