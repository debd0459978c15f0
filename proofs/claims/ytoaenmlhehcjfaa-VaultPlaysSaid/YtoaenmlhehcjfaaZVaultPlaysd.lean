/-
  VaultPlays: texts that its proof needs, part 4.
-/
import Derived.Test.YtoaenmlhehcjfaaZVaultPlaysc
namespace Go.Proofs.Ytoaenmlhehcjfaa
open Go.J Go.RowKit
set_option linter.unusedVariables false
set_option linter.unusedSimpArgs false
set_option maxRecDepth 8000
set_option maxHeartbeats 2000000 in
theorem vmerge_spec (vb mb lb d s n inc:Nat) (q:LogP) (down:Bool) (B:List UInt8) (p k:Int) (L:List HI) (es:Array MapEntry) (ck:Nat) (hT:Vm L es ck) (hV:VOK L) (hI:LogI n q ⟨B,p,k⟩) (hn:n≤4096) (hk:0≤k) (hk2:k<4611686018427380000) (xc:List Value) (key:IDV) (ver:WV) (bs:List UInt8) (sv:Value) (w:World) (hxc:xc=cT key ver sv) (hw0:Own w (vltB vb mb lb d s n q down inc es ck ⟨B,p,k⟩)) (hb:Row w sv bs.length (bs.map u8)) (hoff:Off [vb,mb,lb,d,s] sv (bs.map u8)) (hlv:bs.length≤140737488351232) :
  Calls Try.prog 19 [.pointer (some ⟨vb,0,none⟩),.agg xc.toArray].toArray w fun r w'=>∃z:MerR,r=.returned z.val∧z.Pr n q down ⟨B,p,k⟩ L ⟨key,ver,bs⟩∧St w [vb,mb,lb,d,s] (z.lst vb mb lb d s n inc es ck) w':=by
 obtain ⟨hn3,hgl,hul,hcl_,hrl⟩:=yD hI.open_ hn
 obtain ⟨a,c,rfl,hc,_⟩:=id hb
 obtain ⟨O,hO⟩:∃o,(hget L key).getD zH=o:=⟨_,rfl⟩
 obtain ⟨K,hK⟩:∃o,(hget L key).isSome=o:=⟨_,rfl⟩
 obtain ⟨ao,co,hOs⟩:=hV.old key
 rw [hO] at hOs
 have hon:=hV.okn key
 rw [hO] at hon
 obtain ⟨hon1,hon2⟩:=hon
 refine qD (args:=[.pointer (some ⟨vb,0,none⟩),.agg xc.toArray]) (e:=[(0,.pointer (some ⟨vb,0,none⟩)),(1,.agg xc.toArray)]) Try.func19 rfl rfl ⟨rfl,rfl,trivial⟩ (hw0.st) ?_;refine JC.seq (fun K0 hK0=>?_);refine JC.region ?_;refine J.box rfl rfl rfl (fun b3=>?_);refine J.assign rfl rfl<|J.assign rfl rfl<|J.nil ?_;refine JX.qd (hK0 _ _ ?_);refine JC.seq (fun K1 hK1=>?_);refine JC.block ?_;refine JC.seq (fun K2 hK2=>?_)
 subst hxc
 by_cases xa:ver.n<1
 ·have hg:vmergeP n q down ⟨B,p,k⟩ (L.map HI.it) ⟨key,ver,bs⟩=(false,1,q,down,⟨B,p,k⟩):=by unfold vmergeP;rw [if_pos (.inl xa)]
  refine JC.region<|J.qe rfl rfl<|J.zh Ty.u38 rfl rfl rfl<|J.qe rfl rfl ?_
  first | refine J.skip rfl rfl rfl rfl rfl ?_ | refine J.qh rfl rfl rfl rfl ?_ | (refine J.qf rfl rfl rfl ?_;refine J.qi Ty.fd28_1 rfl rfl ?_)
  first | refine J.skip rfl rfl rfl rfl rfl ?_ | refine J.qh rfl rfl rfl rfl ?_ | (refine J.qf rfl rfl rfl ?_;refine J.qi Ty.fd25_0 rfl rfl ?_)
  refine J.qf rfl rfl rfl<|J.qw (v:=.int .i64 ver.n) Ty.a2 rfl (fun w1 hw=>by rw [qB (hw.own ((b3,cb (cT key ver (.slice a bs.length c)) 28)) zm)];rfl) rfl ?_;refine J.qf rfl rfl rfl<|J.qj rfl rfl rfl rfl<|J.name 16 rfl (show _=Value.bool true by simp;omega) ?_
  (first | refine J.qr rfl rfl rfl ?_ | refine J.qs rfl rfl rfl ?_)
  refine J.qe rfl rfl ?_
  first | refine J.skip rfl rfl rfl rfl rfl ?_ | refine J.qh rfl rfl rfl rfl ?_ | (refine J.qf rfl rfl rfl ?_;refine J.qi Ty.fd28_1 rfl rfl ?_)
  first | refine J.skip rfl rfl rfl rfl rfl ?_ | refine J.qh rfl rfl rfl rfl ?_ | (refine J.qf rfl rfl rfl ?_;refine J.qi Ty.fd25_0 rfl rfl ?_)
  first | refine J.skip rfl rfl rfl rfl rfl ?_ | refine J.qh rfl rfl rfl rfl ?_ | (refine J.qf rfl rfl rfl ?_;refine J.qQ Ty.a2 rfl zm (by exact rfl) rfl ?_)
  first | refine J.skip rfl rfl rfl rfl rfl ?_ | refine J.qh rfl rfl rfl rfl ?_ | (refine J.qf rfl rfl rfl ?_;refine J.qj rfl rfl rfl rfl ?_)
  (first | refine J.qr rfl rfl rfl ?_ | refine J.qs rfl rfl rfl ?_)
  refine J.assign rfl rfl<|J.nil ?_;refine JX.qd (hK2 _ _ ?_)
  first | refine JC.qP rfl ?_ | refine JC.qn rfl (fun _=>?_) (fun h=>by first | (exfalso;simp at h;omega) | (simp at h))
  refine JC.seq (fun K3 hK3=>?_);refine JC.region<|J.assign rfl rfl<|J.assign rfl rfl<|J.nil ?_;refine JX.qd (hK3 _ _ ?_);refine JC.qA<|JX.qH<|JX.qt ?_;refine JX.zr rfl rfl rfl (fun w1 hw=>?_)
  exact ⟨.no 1 q down ⟨B,p,k⟩,rfl,hg,(hw.perm (zp:List.Perm _ ([(b3,cb (cT key ver (.slice a bs.length c)) 28)]++(vltB vb mb lb d s n q down inc es ck ⟨B,p,k⟩)))).drop (List.sublist_append_right _ _)⟩
 ·by_cases xb:4611686018427387904≤ver.n
  ·have hg:vmergeP n q down ⟨B,p,k⟩ (L.map HI.it) ⟨key,ver,bs⟩=(false,1,q,down,⟨B,p,k⟩):=by unfold vmergeP;rw [if_pos (.inr xb)]
   refine JC.region<|J.qe rfl rfl<|J.zh Ty.u38 rfl rfl rfl<|J.qe rfl rfl ?_
   first | refine J.skip rfl rfl rfl rfl rfl ?_ | refine J.qh rfl rfl rfl rfl ?_ | (refine J.qf rfl rfl rfl ?_;refine J.qi Ty.fd28_1 rfl rfl ?_)
   first | refine J.skip rfl rfl rfl rfl rfl ?_ | refine J.qh rfl rfl rfl rfl ?_ | (refine J.qf rfl rfl rfl ?_;refine J.qi Ty.fd25_0 rfl rfl ?_)
   refine J.qf rfl rfl rfl<|J.qw (v:=.int .i64 ver.n) Ty.a2 rfl (fun w1 hw=>by rw [qB (hw.own ((b3,cb (cT key ver (.slice a bs.length c)) 28)) zm)];rfl) rfl ?_;refine J.qf rfl rfl rfl<|J.qj rfl rfl rfl rfl<|J.name 16 rfl (show _=Value.bool false by simp;omega) ?_
   (first | refine J.qr rfl rfl rfl ?_ | refine J.qs rfl rfl rfl ?_)
   refine J.qe rfl rfl ?_
   first | refine J.skip rfl rfl rfl rfl rfl ?_ | refine J.qh rfl rfl rfl rfl ?_ | (refine J.qf rfl rfl rfl ?_;refine J.qi Ty.fd28_1 rfl rfl ?_)
   first | refine J.skip rfl rfl rfl rfl rfl ?_ | refine J.qh rfl rfl rfl rfl ?_ | (refine J.qf rfl rfl rfl ?_;refine J.qi Ty.fd25_0 rfl rfl ?_)
   refine J.qf rfl rfl rfl<|J.qw (v:=.int .i64 ver.n) Ty.a2 rfl (fun w1 hw=>by rw [qB (hw.own ((b3,cb (cT key ver (.slice a bs.length c)) 28)) zm)];rfl) rfl ?_;refine J.qf rfl rfl rfl<|J.qj rfl rfl rfl rfl<|J.name 22 rfl (show _=Value.bool true by simp;omega) ?_
   (first | refine J.qr rfl rfl rfl ?_ | refine J.qs rfl rfl rfl ?_)
   refine J.assign rfl rfl<|J.nil ?_;refine JX.qd (hK2 _ _ ?_)
   first | refine JC.qP rfl ?_ | refine JC.qn rfl (fun _=>?_) (fun h=>by first | (exfalso;simp at h;omega) | (simp at h))
   refine JC.seq (fun K4 hK4=>?_);refine JC.region<|J.assign rfl rfl<|J.assign rfl rfl<|J.nil ?_;refine JX.qd (hK4 _ _ ?_);refine JC.qA<|JX.qH<|JX.qt ?_;refine JX.zr rfl rfl rfl (fun w1 hw=>?_)
   exact ⟨.no 1 q down ⟨B,p,k⟩,rfl,hg,(hw.perm (zp:List.Perm _ ([(b3,cb (cT key ver (.slice a bs.length c)) 28)]++(vltB vb mb lb d s n q down inc es ck ⟨B,p,k⟩)))).drop (List.sublist_append_right _ _)⟩
  ·have hor:¬(ver.n<1∨4611686018427387904≤ver.n):=by omega
   refine JC.region<|J.qe rfl rfl<|J.zh Ty.u38 rfl rfl rfl<|J.qe rfl rfl ?_
   first | refine J.skip rfl rfl rfl rfl rfl ?_ | refine J.qh rfl rfl rfl rfl ?_ | (refine J.qf rfl rfl rfl ?_;refine J.qi Ty.fd28_1 rfl rfl ?_)
   first | refine J.skip rfl rfl rfl rfl rfl ?_ | refine J.qh rfl rfl rfl rfl ?_ | (refine J.qf rfl rfl rfl ?_;refine J.qi Ty.fd25_0 rfl rfl ?_)
   refine J.qf rfl rfl rfl<|J.qw (v:=.int .i64 ver.n) Ty.a2 rfl (fun w1 hw=>by rw [qB (hw.own ((b3,cb (cT key ver (.slice a bs.length c)) 28)) zm)];rfl) rfl ?_;refine J.qf rfl rfl rfl<|J.qj rfl rfl rfl rfl<|J.name 16 rfl (show _=Value.bool false by simp;omega) ?_
   (first | refine J.qr rfl rfl rfl ?_ | refine J.qs rfl rfl rfl ?_)
   refine J.qe rfl rfl ?_
   first | refine J.skip rfl rfl rfl rfl rfl ?_ | refine J.qh rfl rfl rfl rfl ?_ | (refine J.qf rfl rfl rfl ?_;refine J.qi Ty.fd28_1 rfl rfl ?_)
   first | refine J.skip rfl rfl rfl rfl rfl ?_ | refine J.qh rfl rfl rfl rfl ?_ | (refine J.qf rfl rfl rfl ?_;refine J.qi Ty.fd25_0 rfl rfl ?_)
   refine J.qf rfl rfl rfl<|J.qw (v:=.int .i64 ver.n) Ty.a2 rfl (fun w1 hw=>by rw [qB (hw.own ((b3,cb (cT key ver (.slice a bs.length c)) 28)) zm)];rfl) rfl ?_;refine J.qf rfl rfl rfl<|J.qj rfl rfl rfl rfl<|J.name 22 rfl (show _=Value.bool false by simp;omega) ?_
   (first | refine J.qr rfl rfl rfl ?_ | refine J.qs rfl rfl rfl ?_)
   refine J.assign rfl rfl<|J.nil ?_;refine JX.qd (hK2 _ _ ?_)
   first | refine JC.qI rfl ?_ | refine JC.qn rfl (fun h=>by first | (exfalso;simp at h;omega) | (simp at h)) (fun _=>?_)
   refine JC.seq (fun K5 hK5=>?_);refine JC.region<|J.qi Ty.fd28_2 rfl rfl<|J.qw (v:=(.slice a bs.length c)) Ty.a26 rfl (fun w1 hw=>by rw [qB (hw.own ((b3,cb (cT key ver (.slice a bs.length c)) 28)) zm)];rfl) rfl ?_;refine J.qK rfl Ty.u26 rfl rfl<|J.qj rfl rfl rfl rfl<|J.assign rfl rfl<|J.nil ?_;refine JX.qd (hK5 _ _ ?_);refine JC.qn rfl (fun h1=>?_) (fun h1=>?_)
   ·have hg:vmergeP n q down ⟨B,p,k⟩ (L.map HI.it) ⟨key,ver,bs⟩=(false,4,q,down,⟨B,p,k⟩):=by unfold vmergeP;rw [if_neg hor,if_pos (show 64<bs.length by simp at h1;omega)]
    refine JC.seq (fun K6 hK6=>?_);refine JC.region<|J.assign rfl rfl<|J.assign rfl rfl<|J.nil ?_;refine JX.qd (hK6 _ _ ?_);refine JC.qA<|JX.qH<|JX.qt ?_;refine JX.zr rfl rfl rfl (fun w1 hw=>?_)
    exact ⟨.no 4 q down ⟨B,p,k⟩,rfl,hg,(hw.perm (zp:List.Perm _ ([(b3,cb (cT key ver (.slice a bs.length c)) 28)]++(vltB vb mb lb d s n q down inc es ck ⟨B,p,k⟩)))).drop (List.sublist_append_right _ _)⟩
   ·have hb64:¬64<bs.length:=by simp at h1;omega
    refine JC.skip<|JX.qJ ?_;refine JX.qd (hK1 _ _ ?_);refine JC.zy (α:=Nat) (fun x6=>[(0,.pointer (some ⟨vb,0,none⟩)),(3,.pointer (some ⟨b3,0,none⟩))]) (fun x6 w'=>(K=true→newB ver O.ver=true)∧St w [vb,mb,lb,d,s] ((x6,cb (cH O) 28)::(b3,cb (cT key ver (.slice a bs.length c)) 28)::(vb,vaO (.pointer (some ⟨lb,0,none⟩)) mb ((inc:Nat):Int))::(mb,.map es ck)::(lb,lgO d q down)::(d,dkO s n p k)::(s,dkS B)::[]) w') (fun x6=>?_) (fun K7 hK7=>?_)
    ·refine JC.pr (fun hnb=>?_)
     have hnb2:¬((getV (L.map HI.it) key).isSome=true∧newB ver ((getV (L.map HI.it) key).getD zItV).ver=false):=by
      rw [old_it,z8,Option.isSome_map,hO,hK]
      rintro ⟨h1,h2⟩
      have h3:=hnb h1
      have h4:newB ver O.ver=false:=h2
      rw [h4] at h3
      cases h3
     refine JC.seq (fun K8 hK8=>?_);refine JC.seq (fun K9 hK9=>?_)
     apply JC.zd (α:=Value × List (Nat × Obj)) 6 (fun x=>match x with | ⟨v53,l53⟩=>[.pointer (some ⟨vb,0,none⟩),.pointer (some ⟨vb,0,none⟩),.pointer (some ⟨vb,0+0,none⟩),.pointer (some ⟨lb,0,none⟩),.agg (cT key ver (.slice a bs.length c)).toArray,v53]) (fun m x=>match x with | ⟨v53,l53⟩=>fun w1=>((m 5=true→Vec 5 1 v53 (formB ⟨key,ver,bs⟩).length ((formB ⟨key,ver,bs⟩).map u8) l53))∧St w [vb,mb,lb,d,s] ((bif m 5 then l53 else [])++((x6,cb (cH O) 28)::(b3,cb (cT key ver (.slice a bs.length c)) 28)::(vb,vaO (.pointer (some ⟨lb,0,none⟩)) mb ((inc:Nat):Int))::(mb,.map es ck)::(lb,lgO d q down)::(d,dkO s n p k)::(s,dkS B)::[])) w1) Ty.mixed rfl rfl rfl (by kernel_rfl) rfl rfl ?hinit ?hstep ?htail
     case hinit=>exact fun w1 hw=>⟨(.slice none 0 0,[]),fun h=>(by cases h),hw.drew⟩
     case hstep=>
      refine ⟨fun m x hm hp=>?_,fun m x hm hp=>?_,fun m x hm hp=>?_,fun m x hm hp=>?_,fun m x hm hp=>?_,fun m x hm hp=>?_,trivial⟩
      ·obtain ⟨v53,l53⟩:=x
       show J _ _ _ _ _ (_) _
       refine J.pr (fun hF=>?_);refine J.qe rfl rfl ?_
       exact J.ql rfl (fun _ hw=>⟨⟨v53,l53⟩,rfl,fun _ _ _=>rfl,hF,hw⟩)
      ·obtain ⟨v53,l53⟩:=x
       show J _ _ _ _ _ ((48,.pointer (some ⟨vb,0,none⟩))::_) _
       refine J.pr (fun hF=>?_);refine J.qq rfl rfl ?_
       exact J.ql rfl (fun _ hw=>⟨⟨v53,l53⟩,rfl,fun _ _ _=>rfl,hF,hw⟩)
      ·obtain ⟨v53,l53⟩:=x
       show J _ _ _ _ _ ((49,.pointer (some ⟨vb,0,none⟩))::_) _
       refine J.pr (fun hF=>?_);refine J.qi Ty.fd99_0 rfl rfl ?_
       exact J.ql rfl (fun _ hw=>⟨⟨v53,l53⟩,rfl,fun _ _ _=>rfl,hF,hw⟩)
      ·obtain ⟨v53,l53⟩:=x
       show J _ _ _ _ _ ((50,.pointer (some ⟨vb,0+0,none⟩))::_) _
       refine J.pr (fun hF=>?_);refine J.qw (v:=.pointer (some ⟨lb,0,none⟩)) Ty.a94 rfl (fun w1 hw=>by rw [qB (hw.own ((vb,vaO (.pointer (some ⟨lb,0,none⟩)) mb ((inc:Nat):Int))) zm)];rfl) rfl ?_
       exact J.ql rfl (fun _ hw=>⟨⟨v53,l53⟩,rfl,fun _ _ _=>rfl,hF,hw⟩)
      ·obtain ⟨v53,l53⟩:=x
       show J _ _ _ _ _ (_) _
       refine J.pr (fun hF=>?_);refine J.qC (vs:=(cT key ver (.slice a bs.length c))) Ty.a28 Ty.s28 rfl rfl (fun w1 hw=>Cells.of_block (hw.own ((b3,cb (cT key ver (.slice a bs.length c)) 28)) zm) rfl) rfl ?_
       exact J.ql rfl (fun _ hw=>⟨⟨v53,l53⟩,rfl,fun _ _ _=>rfl,hF,hw⟩)
      ·obtain ⟨v53,l53⟩:=x
       show J _ _ _ _ _ ((52,.agg (cT key ver (.slice a bs.length c)).toArray)::_) _
       refine J.pr (fun hF=>?_)
       refine J.conseq (I':=St w [vb,mb,lb,d,s] ((x6,cb (cH O) 28)::(b3,cb (cT key ver (.slice a bs.length c)) 28)::(vb,vaO (.pointer (some ⟨lb,0,none⟩)) mb ((inc:Nat):Int))::(mb,.map es ck)::(lb,lgO d q down)::(d,dkO s n p k)::(s,dkS B)::[])) ?_ (fun w1 hw=>by simp only [hm,cond_false,List.nil_append] at hw;exact hw)
       refine J.perm ([]++((x6,cb (cH O) 28)::(b3,cb (cT key ver (.slice a bs.length c)) 28)::(vb,vaO (.pointer (some ⟨lb,0,none⟩)) mb ((inc:Nat):Int))::(mb,.map es ck)::(lb,lgO d q down)::(d,dkO s n p k)::(s,dkS B)::[])) (.refl _) ?_;refine J.qO (α:=Value × List (Nat × Obj)) (V:=(·.1)) (Pr:=fun xo=>Vec 5 1 xo.1 (formB ⟨key,ver,bs⟩).length ((formB ⟨key,ver,bs⟩).map u8) xo.2) (L:=(·.2)) (l1:=[]) Ty.bd11 rfl rfl (fun w1 hw=>form_spec (cT key ver (.slice a bs.length c)) key ver bs _ w1 rfl (hb.st hoff hw) (by omega) (by omega) (by omega)) (fun xo hvn=>?_)
       obtain ⟨vn,ln⟩:=xo
       try simp only at hvn ⊢
       refine J.nil (JX.zR rfl (fun w1 hw=>⟨⟨⟨vn,ln⟩,rfl,fun j h1 h2=>?_,?_⟩,trivial⟩))
       ·match j,h1 with
        | 0,_=>(first | rfl | trivial)
        | 1,_=>(first | rfl | trivial)
        | 2,_=>(first | rfl | trivial)
        | 3,_=>(first | rfl | trivial)
        | 4,_=>(first | rfl | trivial)
        | 5,_=>exact absurd (h2.symm.trans hm) (by decide)
        | j+6,h1=>omega
       show ((true=true→Vec 5 1 vn (formB ⟨key,ver,bs⟩).length ((formB ⟨key,ver,bs⟩).map u8) ln))∧St w [vb,mb,lb,d,s] ((bif true then ln else [])++((x6,cb (cH O) 28)::(b3,cb (cT key ver (.slice a bs.length c)) 28)::(vb,vaO (.pointer (some ⟨lb,0,none⟩)) mb ((inc:Nat):Int))::(mb,.map es ck)::(lb,lgO d q down)::(d,dkO s n p k)::(s,dkS B)::[])) w1
       simp only [cond_true] at hw ⊢
       exact ⟨fun _=>hvn,hw⟩
     case htail=>
      intro x
      obtain ⟨v53,l53⟩:=x
      show J _ _ _ _ _ ((53,v53)::(52,.agg (cT key ver (.slice a bs.length c)).toArray)::(51,.pointer (some ⟨lb,0,none⟩))::(50,.pointer (some ⟨vb,0+0,none⟩))::(49,.pointer (some ⟨vb,0,none⟩))::(48,.pointer (some ⟨vb,0,none⟩))::_) (fun w1=>((true=true→Vec 5 1 v53 (formB ⟨key,ver,bs⟩).length ((formB ⟨key,ver,bs⟩).map u8) l53))∧St w [vb,mb,lb,d,s] ((bif true then l53 else [])++((x6,cb (cH O) 28)::(b3,cb (cT key ver (.slice a bs.length c)) 28)::(vb,vaO (.pointer (some ⟨lb,0,none⟩)) mb ((inc:Nat):Int))::(mb,.map es ck)::(lb,lgO d q down)::(d,dkO s n p k)::(s,dkS B)::[])) w1)
      refine J.pr (fun hF=>?_)
      have hv53:=hF rfl
      have hfl:=formB_le ⟨key,ver,bs⟩
      try simp only at hfl
      obtain ⟨a53,c53,rfl,hc53⟩:=hv53.form
      refine J.conseq (I':=St w [vb,mb,lb,d,s] (l53++((x6,cb (cH O) 28)::(b3,cb (cT key ver (.slice a bs.length c)) 28)::(vb,vaO (.pointer (some ⟨lb,0,none⟩)) mb ((inc:Nat):Int))::(mb,.map es ck)::(lb,lgO d q down)::(d,dkO s n p k)::(s,dkS B)::[]))) ?_ (fun w1 hw=>by simp only [cond_true] at hw;exact hw)
      obtain ⟨⟨e9,q9,dn9,σ9⟩,hx9⟩:∃x,appendP n q down ⟨B,p,k⟩ (formB ⟨key,ver,bs⟩)=x:=⟨_,rfl⟩
      refine J.perm ([(lb,lgO d q down),(d,dkO s n p k),(s,dkS B)]++(l53++((x6,cb (cH O) 28)::(b3,cb (cT key ver (.slice a bs.length c)) 28)::(vb,vaO (.pointer (some ⟨lb,0,none⟩)) mb ((inc:Nat):Int))::(mb,.map es ck)::[]))) zp<|J.callT (v:=.int .i64 e9) (L:=[(lb,lgO d q9 dn9),(d,dkO s n σ9.p σ9.k),(s,dkS σ9.B)]) Ty.bd46 rfl rfl (fun w1 hw=>append_all lb d s n q down B (formB ⟨key,ver,bs⟩) p k a53 _ c53 w1 (St.owns hw) hI.len hn hn3 hgl hul hcl_ hk hk2 hI.p rfl (by omega) (qW hv53 hw (fun q hq=>by simp [hq])) (zY hv53 (fun p0 hp0=>St.off (l1:=[(lb,lgO d q down),(d,dkO s n p k),(s,dkS B)]) hw (o:=p0.2) (by simp [hp0]))) hx9) ?_;refine J.perm ((x6,cb (cH O) 28)::(b3,cb (cT key ver (.slice a bs.length c)) 28)::(vb,vaO (.pointer (some ⟨lb,0,none⟩)) mb ((inc:Nat):Int))::(mb,.map es ck)::(lb,lgO d q9 dn9)::(d,dkO s n σ9.p σ9.k)::(s,dkS σ9.B)::l53) zp<|J.assign rfl rfl<|J.nil ?_;refine JX.qd (hK9 _ _ ?_);refine JC.seq (fun K10 hK10=>?_);refine JC.region<|J.qe rfl rfl<|J.qj rfl rfl rfl rfl<|J.nil ?_;refine JX.qd (hK10 _ _ ?_);refine JC.qn rfl (fun h3=>?_) (fun h3=>?_)
      ·have he9:e9≠0:=by simpa using h3
       have hg:vmergeP n q down ⟨B,p,k⟩ (L.map HI.it) ⟨key,ver,bs⟩=(false,e9,q9,dn9,σ9):=by unfold vmergeP;rw [if_neg hor,if_neg hb64,if_neg hnb2,hx9];simp only;rw [decide_eq_false he9]
       refine JC.seq (fun K11 hK11=>?_);refine JC.region<|J.qe rfl rfl<|J.assign rfl rfl<|J.assign rfl rfl<|J.nil ?_;refine JX.qd (hK11 _ _ ?_);refine JC.qA<|JX.qt ?_;refine JX.zr rfl rfl rfl (fun w1 hw=>?_)
       exact ⟨.no e9 q9 dn9 σ9,rfl,hg,(hw.perm (zp:List.Perm _ (((x6,cb (cH O) 28)::(b3,cb (cT key ver (.slice a bs.length c)) 28)::l53)++(vltB vb mb lb d s n q9 dn9 inc es ck σ9)))).drop (List.sublist_append_right _ _)⟩
      ·have he9:e9=0:=by simpa using h3
       have hg:vmergeP n q down ⟨B,p,k⟩ (L.map HI.it) ⟨key,ver,bs⟩=(true,0,q9,dn9,σ9):=by unfold vmergeP;rw [if_neg hor,if_neg hb64,if_neg hnb2,hx9];simp only;rw [decide_eq_true he9,he9]
       refine JC.skip ?_;refine JX.qd (hK8 _ _ ?_);refine JC.seq (fun K12 hK12=>?_)
       apply JC.zd (α:=Option Addr × Nat × List (Nat × Obj)) 8 (fun x=>match x with | ⟨a65,c65,l65⟩=>[.pointer (some ⟨vb,0,none⟩),.pointer (some ⟨vb,0,none⟩),.pointer (some ⟨vb,0+1,none⟩),.map (some mb),.pointer (some ⟨b3,0+0,none⟩),.agg (cI key).toArray,.agg (cT key ver (.slice a bs.length c)).toArray,.agg (cT key ver (.slice a65 bs.length c65)).toArray]) (fun m x=>match x with | ⟨a65,c65,l65⟩=>fun w1=>((m 7=true→Vec 5 1 (.slice a65 bs.length c65) (bs).length ((bs).map u8) l65))∧St w [vb,mb,lb,d,s] ((bif m 7 then l65 else [])++((x6,cb (cH O) 28)::(b3,cb (cT key ver (.slice a bs.length c)) 28)::(vb,vaO (.pointer (some ⟨lb,0,none⟩)) mb ((inc:Nat):Int))::(mb,.map es ck)::(lb,lgO d q9 dn9)::(d,dkO s n σ9.p σ9.k)::(s,dkS σ9.B)::l53)) w1) Ty.mixed rfl rfl rfl (by kernel_rfl) rfl rfl ?hinit ?hstep ?htail
       case hinit=>exact fun w1 hw=>⟨(none,0,[]),fun h=>(by cases h),hw.drew⟩
       case hstep=>
        refine ⟨fun m x hm hp=>?_,fun m x hm hp=>?_,fun m x hm hp=>?_,fun m x hm hp=>?_,fun m x hm hp=>?_,fun m x hm hp=>?_,fun m x hm hp=>?_,fun m x hm hp=>?_,trivial⟩
        ·obtain ⟨a65,c65,l65⟩:=x
         show J _ _ _ _ _ (_) _
         refine J.pr (fun hF=>?_);refine J.qe rfl rfl ?_
         exact J.ql rfl (fun _ hw=>⟨⟨a65,c65,l65⟩,rfl,fun _ _ _=>rfl,hF,hw⟩)
        ·obtain ⟨a65,c65,l65⟩:=x
         show J _ _ _ _ _ ((58,.pointer (some ⟨vb,0,none⟩))::_) _
         refine J.pr (fun hF=>?_);refine J.qq rfl rfl ?_
         exact J.ql rfl (fun _ hw=>⟨⟨a65,c65,l65⟩,rfl,fun _ _ _=>rfl,hF,hw⟩)
        ·obtain ⟨a65,c65,l65⟩:=x
         show J _ _ _ _ _ ((59,.pointer (some ⟨vb,0,none⟩))::_) _
         refine J.pr (fun hF=>?_);refine J.qi Ty.fd99_1 rfl rfl ?_
         exact J.ql rfl (fun _ hw=>⟨⟨a65,c65,l65⟩,rfl,fun _ _ _=>rfl,hF,hw⟩)
        ·obtain ⟨a65,c65,l65⟩:=x
         show J _ _ _ _ _ ((60,.pointer (some ⟨vb,0+1,none⟩))::_) _
         refine J.pr (fun hF=>?_);refine J.qw (v:=.map (some mb)) Ty.a97 rfl (fun w1 hw=>by rw [qB (hw.own ((vb,vaO (.pointer (some ⟨lb,0,none⟩)) mb ((inc:Nat):Int))) zm)];rfl) rfl ?_
         exact J.ql rfl (fun _ hw=>⟨⟨a65,c65,l65⟩,rfl,fun _ _ _=>rfl,hF,hw⟩)
        ·obtain ⟨a65,c65,l65⟩:=x
         show J _ _ _ _ _ (_) _
         refine J.pr (fun hF=>?_);refine J.qi Ty.fd28_0 rfl rfl ?_
         exact J.ql rfl (fun _ hw=>⟨⟨a65,c65,l65⟩,rfl,fun _ _ _=>rfl,hF,hw⟩)
        ·obtain ⟨a65,c65,l65⟩:=x
         show J _ _ _ _ _ ((62,.pointer (some ⟨b3,0+0,none⟩))::_) _
         refine J.pr (fun hF=>?_);refine J.qC (vs:=cI key) Ty.a23 Ty.s23 rfl rfl (fun w1 hw=>Cells.of_block (hw.own ((b3,cb (cT key ver (.slice a bs.length c)) 28)) zm) rfl) rfl ?_
         exact J.ql rfl (fun _ hw=>⟨⟨a65,c65,l65⟩,rfl,fun _ _ _=>rfl,hF,hw⟩)
        ·obtain ⟨a65,c65,l65⟩:=x
         show J _ _ _ _ _ (_) _
         refine J.pr (fun hF=>?_);refine J.qC (vs:=(cT key ver (.slice a bs.length c))) Ty.a28 Ty.s28 rfl rfl (fun w1 hw=>Cells.of_block (hw.own ((b3,cb (cT key ver (.slice a bs.length c)) 28)) zm) rfl) rfl ?_
         exact J.ql rfl (fun _ hw=>⟨⟨a65,c65,l65⟩,rfl,fun _ _ _=>rfl,hF,hw⟩)
        ·obtain ⟨a65,c65,l65⟩:=x
         show J _ _ _ _ _ ((64,.agg (cT key ver (.slice a bs.length c)).toArray)::_) _
         refine J.pr (fun hF=>?_)
         refine J.conseq (I':=St w [vb,mb,lb,d,s] ((x6,cb (cH O) 28)::(b3,cb (cT key ver (.slice a bs.length c)) 28)::(vb,vaO (.pointer (some ⟨lb,0,none⟩)) mb ((inc:Nat):Int))::(mb,.map es ck)::(lb,lgO d q9 dn9)::(d,dkO s n σ9.p σ9.k)::(s,dkS σ9.B)::l53)) ?_ (fun w1 hw=>by simp only [hm,cond_false,List.nil_append] at hw;exact hw)
         refine J.perm ([]++((x6,cb (cH O) 28)::(b3,cb (cT key ver (.slice a bs.length c)) 28)::(vb,vaO (.pointer (some ⟨lb,0,none⟩)) mb ((inc:Nat):Int))::(mb,.map es ck)::(lb,lgO d q9 dn9)::(d,dkO s n σ9.p σ9.k)::(s,dkS σ9.B)::l53)) (.refl _) ?_;refine J.qO (α:=Value × List (Nat × Obj)) (V:=fun y=>.agg (cT key ver y.1).toArray) (Pr:=fun y=>Vec 5 1 y.1 (bs).length ((bs).map u8) y.2) (L:=(·.2)) (l1:=[]) Ty.bd47 rfl rfl (fun w1 hw=>yK (cT key ver (.slice a bs.length c)) key ver bs _ w1 rfl (hb.st hoff hw) (by omega)) (fun y hyn=>?_)
         obtain ⟨vn,ln⟩:=y
         try simp only at hyn ⊢
         obtain ⟨an,cn,rfl,hcn9⟩:=hyn.form
         refine J.nil (JX.zR rfl (fun w1 hw=>⟨⟨⟨an,cn,ln⟩,rfl,fun j h1 h2=>?_,?_⟩,trivial⟩))
         ·match j,h1 with
          | 0,_=>(first | rfl | trivial)
          | 1,_=>(first | rfl | trivial)
          | 2,_=>(first | rfl | trivial)
          | 3,_=>(first | rfl | trivial)
          | 4,_=>(first | rfl | trivial)
          | 5,_=>(first | rfl | trivial)
          | 6,_=>(first | rfl | trivial)
          | 7,_=>exact absurd (h2.symm.trans hm) (by decide)
          | j+8,h1=>omega
         show ((true=true→Vec 5 1 (.slice an bs.length cn) (bs).length ((bs).map u8) ln))∧St w [vb,mb,lb,d,s] ((bif true then ln else [])++((x6,cb (cH O) 28)::(b3,cb (cT key ver (.slice a bs.length c)) 28)::(vb,vaO (.pointer (some ⟨lb,0,none⟩)) mb ((inc:Nat):Int))::(mb,.map es ck)::(lb,lgO d q9 dn9)::(d,dkO s n σ9.p σ9.k)::(s,dkS σ9.B)::l53)) w1
         simp only [cond_true] at hw ⊢
         exact ⟨fun _=>hyn,hw⟩
       case htail=>
        intro x
        obtain ⟨a65,c65,l65⟩:=x
        show J _ _ _ _ _ ((65,.agg (cT key ver (.slice a65 bs.length c65)).toArray)::(64,.agg (cT key ver (.slice a bs.length c)).toArray)::(63,.agg (cI key).toArray)::(62,.pointer (some ⟨b3,0+0,none⟩))::(61,.map (some mb))::(60,.pointer (some ⟨vb,0+1,none⟩))::(59,.pointer (some ⟨vb,0,none⟩))::(58,.pointer (some ⟨vb,0,none⟩))::_) (fun w1=>((true=true→Vec 5 1 (.slice a65 bs.length c65) (bs).length ((bs).map u8) l65))∧St w [vb,mb,lb,d,s] ((bif true then l65 else [])++((x6,cb (cH O) 28)::(b3,cb (cT key ver (.slice a bs.length c)) 28)::(vb,vaO (.pointer (some ⟨lb,0,none⟩)) mb ((inc:Nat):Int))::(mb,.map es ck)::(lb,lgO d q9 dn9)::(d,dkO s n σ9.p σ9.k)::(s,dkS σ9.B)::l53)) w1)
        refine J.pr (fun hF=>?_)
        have hv65:=hF rfl
        refine J.conseq (I':=St w [vb,mb,lb,d,s] ((x6,cb (cH O) 28)::(b3,cb (cT key ver (.slice a bs.length c)) 28)::(vb,vaO (.pointer (some ⟨lb,0,none⟩)) mb ((inc:Nat):Int))::(mb,.map es ck)::(lb,lgO d q9 dn9)::(d,dkO s n σ9.p σ9.k)::(s,dkS σ9.B)::l53++l65)) ?_ (fun w1 hw=>(by simp only [cond_true] at hw;exact hw.perm zp))
        refine J.updV (xh:=⟨key,ver,bs,(.slice a65 bs.length c65),l65⟩) (l':=fun es' c'=>(x6,cb (cH O) 28)::(b3,cb (cT key ver (.slice a bs.length c)) 28)::(vb,vaO (.pointer (some ⟨lb,0,none⟩)) mb ((inc:Nat):Int))::(mb,.map es' c')::(lb,lgO d q9 dn9)::(d,dkO s n σ9.p σ9.k)::(s,dkS σ9.B)::l53++l65) Ty.u97 Ty.KI Ty.keyI rfl rfl rfl hT (fun es' c'=>zu) (fun es2 ck2 hT2=>?_);refine J.nil ?_;refine JX.qd (hK12 _ _ ?_);refine JC.seq (fun K13 hK13=>?_);refine JC.region<|J.assign rfl rfl<|J.assign rfl rfl<|J.nil ?_;refine JX.qd (hK13 _ _ ?_);refine JC.qA ?_;refine JX.zr rfl rfl rfl (fun w1 hw=>?_)
        exact ⟨.yes ⟨key,ver,bs,(.slice a65 bs.length c65),l65⟩ es2 ck2 q9 dn9 σ9,rfl,⟨hg,rfl,⟨⟨by simp only;omega,by simp only;omega⟩,hv65⟩,hT2⟩,(hw.perm (zp:List.Perm _ (((x6,cb (cH O) 28)::(b3,cb (cT key ver (.slice a bs.length c)) 28)::l53)++((vltB vb mb lb d s n q9 dn9 inc es2 ck2 σ9)++l65)))).drop (List.sublist_append_right _ _)⟩
    ·refine JC.seq (fun K14 hK14=>?_)
     apply JC.zd (α:=Nat × Unit) 12 (fun x=>match x with | ⟨x6,uu⟩=>[.pointer (some ⟨vb,0,none⟩),.pointer (some ⟨vb,0,none⟩),.pointer (some ⟨vb,0+1,none⟩),.map (some mb),.pointer (some ⟨b3,0+0,none⟩),.agg (cI key).toArray,.tuple #[.agg (cH O).toArray,.bool K],.tuple #[.agg (cH O).toArray,.bool K],.agg (cH O).toArray,.bool K,.pointer (some ⟨x6,0,none⟩),undef]) (fun m x=>match x with | ⟨x6,uu⟩=>fun w1=>((m 11=true→m 10=true))∧St w [vb,mb,lb,d,s] ((bif m 10 then [(x6,cb (cH (bif m 11 then O else zH)) 28)] else [])++((b3,cb (cT key ver (.slice a bs.length c)) 28)::(vb,vaO (.pointer (some ⟨lb,0,none⟩)) mb ((inc:Nat):Int))::(mb,.map es ck)::(lb,lgO d q down)::(d,dkO s n p k)::(s,dkS B)::[])) w1) Ty.mixed rfl rfl rfl (by kernel_rfl) rfl rfl ?hinit ?hstep ?htail
     case hinit=>exact fun w1 hw=>⟨(0,()),fun h=>(by cases h),hw.drew⟩
     case hstep=>
      refine ⟨fun m x hm hp=>?_,fun m x hm hp=>?_,fun m x hm hp=>?_,fun m x hm hp=>?_,fun m x hm hp=>?_,fun m x hm hp=>?_,fun m x hm hp=>?_,fun m x hm hp=>?_,fun m x hm hp=>?_,fun m x hm hp=>?_,fun m x hm hp=>?_,fun m x hm hp=>?_,trivial⟩
      ·obtain ⟨x6,uu⟩:=x
       show J _ _ _ _ _ (_) _
       refine J.pr (fun hF=>?_);refine J.qe rfl rfl ?_
       exact J.ql rfl (fun _ hw=>⟨⟨x6,uu⟩,rfl,fun _ _ _=>rfl,hF,hw⟩)
      ·obtain ⟨x6,uu⟩:=x
       show J _ _ _ _ _ ((30,.pointer (some ⟨vb,0,none⟩))::_) _
       refine J.pr (fun hF=>?_);refine J.qq rfl rfl ?_
       exact J.ql rfl (fun _ hw=>⟨⟨x6,uu⟩,rfl,fun _ _ _=>rfl,hF,hw⟩)
      ·obtain ⟨x6,uu⟩:=x
       show J _ _ _ _ _ ((31,.pointer (some ⟨vb,0,none⟩))::_) _
       refine J.pr (fun hF=>?_);refine J.qi Ty.fd99_1 rfl rfl ?_
       exact J.ql rfl (fun _ hw=>⟨⟨x6,uu⟩,rfl,fun _ _ _=>rfl,hF,hw⟩)
      ·obtain ⟨x6,uu⟩:=x
       show J _ _ _ _ _ ((32,.pointer (some ⟨vb,0+1,none⟩))::_) _
       refine J.pr (fun hF=>?_);refine J.qw (v:=.map (some mb)) Ty.a97 rfl (fun w1 hw=>by rw [qB (hw.own ((vb,vaO (.pointer (some ⟨lb,0,none⟩)) mb ((inc:Nat):Int))) zm)];rfl) rfl ?_
       exact J.ql rfl (fun _ hw=>⟨⟨x6,uu⟩,rfl,fun _ _ _=>rfl,hF,hw⟩)
      ·obtain ⟨x6,uu⟩:=x
       show J _ _ _ _ _ (_) _
       refine J.pr (fun hF=>?_);refine J.qi Ty.fd28_0 rfl rfl ?_
       exact J.ql rfl (fun _ hw=>⟨⟨x6,uu⟩,rfl,fun _ _ _=>rfl,hF,hw⟩)
      ·obtain ⟨x6,uu⟩:=x
       show J _ _ _ _ _ ((34,.pointer (some ⟨b3,0+0,none⟩))::_) _
       refine J.pr (fun hF=>?_);refine J.qC (vs:=cI key) Ty.a23 Ty.s23 rfl rfl (fun w1 hw=>Cells.of_block (hw.own ((b3,cb (cT key ver (.slice a bs.length c)) 28)) zm) rfl) rfl ?_
       exact J.ql rfl (fun _ hw=>⟨⟨x6,uu⟩,rfl,fun _ _ _=>rfl,hF,hw⟩)
      ·obtain ⟨x6,uu⟩:=x
       show J _ _ _ _ _ ((35,.agg (cI key).toArray)::(33,.map (some mb))::_) _
       refine J.pr (fun hF=>?_);refine J.lookV2 Ty.u97 Ty.KI Ty.keyI Ty.zIt rfl rfl hT (fun w1 hw=>hw.own ((mb,.map es ck)) zm) rfl ?_;refine J.name 36 rfl (show _=Value.tuple #[.agg (cH O).toArray,.bool K] by rw [hO,hK]) ?_
       exact J.ql rfl (fun _ hw=>⟨⟨x6,uu⟩,rfl,fun _ _ _=>rfl,hF,hw⟩)
      ·obtain ⟨x6,uu⟩:=x
       show J _ _ _ _ _ ((36,.tuple #[.agg (cH O).toArray,.bool K])::_) _
       refine J.pr (fun hF=>?_);refine J.qe rfl rfl ?_
       exact J.ql rfl (fun _ hw=>⟨⟨x6,uu⟩,rfl,fun _ _ _=>rfl,hF,hw⟩)
      ·obtain ⟨x6,uu⟩:=x
       show J _ _ _ _ _ ((29,.tuple #[.agg (cH O).toArray,.bool K])::_) _
       refine J.pr (fun hF=>?_);refine J.extract rfl rfl rfl ?_
       exact J.ql rfl (fun _ hw=>⟨⟨x6,uu⟩,rfl,fun _ _ _=>rfl,hF,hw⟩)
      ·obtain ⟨x6,uu⟩:=x
       show J _ _ _ _ _ ((29,.tuple #[.agg (cH O).toArray,.bool K])::_) _
       refine J.pr (fun hF=>?_);refine J.extract rfl rfl rfl ?_
       exact J.ql rfl (fun _ hw=>⟨⟨x6,uu⟩,rfl,fun _ _ _=>rfl,hF,hw⟩)
      ·obtain ⟨x6,uu⟩:=x
       show J _ _ _ _ _ (_) _
       refine J.pr (fun hF=>?_)
       have h11:m 11=false:=by cases h:m 11 with
        | false=>rfl
        | true=>rw [hF h] at hm;cases hm
       refine J.alloc Ty.zIt rfl rfl (fun b6=>?_)
       refine J.nil (JX.zR rfl (fun w1 hw=>⟨⟨⟨b6,uu⟩,rfl,fun j h1 h2=>?_,?_⟩,trivial⟩))
       ·match j,h1 with
        | 0,_=>(first | rfl | trivial)
        | 1,_=>(first | rfl | trivial)
        | 2,_=>(first | rfl | trivial)
        | 3,_=>(first | rfl | trivial)
        | 4,_=>(first | rfl | trivial)
        | 5,_=>(first | rfl | trivial)
        | 6,_=>(first | rfl | trivial)
        | 7,_=>(first | rfl | trivial)
        | 8,_=>(first | rfl | trivial)
        | 9,_=>(first | rfl | trivial)
        | 10,_=>exact absurd (h2.symm.trans hm) (by decide)
        | 11,_=>(first | rfl | trivial)
        | j+12,h1=>omega
       show ((m 11=true→true=true))∧St w [vb,mb,lb,d,s] ((bif true then [(b6,cb (cH (bif m 11 then O else zH)) 28)] else [])++((b3,cb (cT key ver (.slice a bs.length c)) 28)::(vb,vaO (.pointer (some ⟨lb,0,none⟩)) mb ((inc:Nat):Int))::(mb,.map es ck)::(lb,lgO d q down)::(d,dkO s n p k)::(s,dkS B)::[])) w1
       simp only [hm,h11,cond_true,cond_false] at hw ⊢
       exact ⟨fun _=>(by first | trivial | rfl),hw⟩
      ·obtain ⟨x6,uu⟩:=x
       show J _ _ _ _ _ ((6,.pointer (some ⟨x6,0,none⟩))::(37,.agg (cH O).toArray)::(29,.tuple #[.agg (cH O).toArray,.bool K])::(36,.tuple #[.agg (cH O).toArray,.bool K])::(35,.agg (cI key).toArray)::(34,.pointer (some ⟨b3,0+0,none⟩))::(33,.map (some mb))::(32,.pointer (some ⟨vb,0+1,none⟩))::(31,.pointer (some ⟨vb,0,none⟩))::(30,.pointer (some ⟨vb,0,none⟩))::(37,.agg (cH O).toArray)::(6,.pointer (some ⟨x6,0,none⟩))::_) _
       have hp10:m 10=true:=yV hp (by kernel_rfl)
       have hp10:m 10=true:=yV hp (by kernel_rfl)
       refine J.pr (fun hF=>?_)
       refine J.conseq (I':=St w [vb,mb,lb,d,s] ((x6,cb (cH zH) 28)::(b3,cb (cT key ver (.slice a bs.length c)) 28)::(vb,vaO (.pointer (some ⟨lb,0,none⟩)) mb ((inc:Nat):Int))::(mb,.map es ck)::(lb,lgO d q down)::(d,dkO s n p k)::(s,dkS B)::[])) ?_ (fun w1 hw=>by simp only [hm,hp10,cond_true,cond_false] at hw;exact hw)
       refine J.qN (cs:=cH zH) (vs:=cH O) Ty.s28 rfl rfl rfl rfl rfl (zi hOs) .here ?_
       refine J.nil (JX.finN undef (fun w1 hw=>⟨⟨x6,uu⟩,rfl,fun j h1 h2=>?_,?_⟩))
       ·match j,h1 with
        | 0,_=>(first | rfl | trivial)
        | 1,_=>(first | rfl | trivial)
        | 2,_=>(first | rfl | trivial)
        | 3,_=>(first | rfl | trivial)
        | 4,_=>(first | rfl | trivial)
        | 5,_=>(first | rfl | trivial)
        | 6,_=>(first | rfl | trivial)
        | 7,_=>(first | rfl | trivial)
        | 8,_=>(first | rfl | trivial)
        | 9,_=>(first | rfl | trivial)
        | 10,_=>(first | rfl | trivial)
        | 11,_=>(first | rfl | trivial)
        | j+12,h1=>omega
       show ((true=true→m 10=true))∧St w [vb,mb,lb,d,s] ((bif m 10 then [(x6,cb (cH (bif true then O else zH)) 28)] else [])++((b3,cb (cT key ver (.slice a bs.length c)) 28)::(vb,vaO (.pointer (some ⟨lb,0,none⟩)) mb ((inc:Nat):Int))::(mb,.map es ck)::(lb,lgO d q down)::(d,dkO s n p k)::(s,dkS B)::[])) w1
       simp only [hm,hp10,cond_true,cond_false] at hw ⊢
       exact ⟨fun _=>(by first | trivial | rfl),hw⟩
     case htail=>
      intro x
      obtain ⟨x6,uu⟩:=x
      show J _ _ _ _ _ ((6,.pointer (some ⟨x6,0,none⟩))::(38,.bool K)::(37,.agg (cH O).toArray)::(29,.tuple #[.agg (cH O).toArray,.bool K])::(36,.tuple #[.agg (cH O).toArray,.bool K])::(35,.agg (cI key).toArray)::(34,.pointer (some ⟨b3,0+0,none⟩))::(33,.map (some mb))::(32,.pointer (some ⟨vb,0+1,none⟩))::(31,.pointer (some ⟨vb,0,none⟩))::(30,.pointer (some ⟨vb,0,none⟩))::_) (fun w1=>((true=true→true=true))∧St w [vb,mb,lb,d,s] ((bif true then [(x6,cb (cH (bif true then O else zH)) 28)] else [])++((b3,cb (cT key ver (.slice a bs.length c)) 28)::(vb,vaO (.pointer (some ⟨lb,0,none⟩)) mb ((inc:Nat):Int))::(mb,.map es ck)::(lb,lgO d q down)::(d,dkO s n p k)::(s,dkS B)::[])) w1)
      refine J.pr (fun hF=>?_)
      refine J.conseq (I':=St w [vb,mb,lb,d,s] ((x6,cb (cH O) 28)::(b3,cb (cT key ver (.slice a bs.length c)) 28)::(vb,vaO (.pointer (some ⟨lb,0,none⟩)) mb ((inc:Nat):Int))::(mb,.map es ck)::(lb,lgO d q down)::(d,dkO s n p k)::(s,dkS B)::[])) ?_ (fun w1 hw=>by simp only [cond_true] at hw;exact hw)
      refine J.assign rfl rfl<|J.nil ?_;refine JX.qd (hK14 _ _ ?_);refine JC.seq (fun K15 hK15=>?_)
      cases K with
      | false=>
       have hnb:(false=true→newB ver O.ver=true):=fun h=>(by cases h)
       refine JC.region<|J.qe rfl rfl<|J.qe rfl rfl ?_
       first | refine J.skip rfl rfl rfl rfl rfl ?_ | refine J.qh rfl rfl rfl rfl ?_ | (refine J.qf rfl rfl rfl ?_;refine J.qi Ty.fd28_1 rfl rfl ?_)
       first | refine J.skip rfl rfl rfl rfl rfl ?_ | refine J.qh rfl rfl rfl rfl ?_ | (refine J.qf rfl rfl rfl ?_;refine J.zB Ty.a25 Ty.s25 rfl zm (by exact rfl) rfl rfl ?_)
       first | refine J.skip rfl rfl rfl rfl rfl ?_ | refine J.qh rfl rfl rfl rfl ?_ | (refine J.qf rfl rfl rfl ?_;refine J.qi Ty.fd28_1 rfl rfl ?_)
       first | refine J.skip rfl rfl rfl rfl rfl ?_ | refine J.qh rfl rfl rfl rfl ?_ | (refine J.qf rfl rfl rfl ?_;refine J.zB Ty.a25 Ty.s25 rfl zm (by exact rfl) rfl rfl ?_)
       first | refine J.skip rfl rfl rfl rfl rfl ?_ | refine J.qh rfl rfl rfl rfl ?_ | (refine J.qf rfl rfl rfl ?_;fail)
       first | refine J.skip rfl rfl rfl rfl rfl ?_ | refine J.qh rfl rfl rfl rfl ?_ | (refine J.qf rfl rfl rfl ?_;refine J.zC rfl rfl ?_)
       (first | refine J.qr rfl rfl rfl ?_ | refine J.qs rfl rfl rfl ?_)
       refine J.nil ?_;refine JX.qd (hK15 _ _ ?_)
       first | refine JC.qI rfl ?_ | refine JC.qn rfl (fun h=>by first | (exfalso;simp at h;omega) | (simp at h)) (fun _=>?_)
       refine JC.skip<|JX.qd ?_
       exact JX.cut (hK7 x6) ⟨rfl,rfl,trivial⟩ (fun w1 hw=>⟨hnb,hw⟩)
      | true=>
       refine JC.region<|J.qe rfl rfl<|J.qe rfl rfl ?_
       first | refine J.skip rfl rfl rfl rfl rfl ?_ | refine J.qh rfl rfl rfl rfl ?_ | (refine J.qf rfl rfl rfl ?_;refine J.qi Ty.fd28_1 rfl rfl ?_)
       refine J.qf rfl rfl rfl<|J.qC (vs:=cV ver) Ty.a25 Ty.s25 rfl rfl (fun w1 hw=>Cells.of_block (hw.own ((b3,cb (cT key ver (.slice a bs.length c)) 28)) zm) rfl) rfl ?_
       first | refine J.skip rfl rfl rfl rfl rfl ?_ | refine J.qh rfl rfl rfl rfl ?_ | (refine J.qf rfl rfl rfl ?_;refine J.qi Ty.fd28_1 rfl rfl ?_)
       refine J.qf rfl rfl rfl<|J.qC (vs:=cV O.ver) Ty.a25 Ty.s25 rfl rfl (fun w1 hw=>Cells.of_block (hw.own ((x6,cb (cH O) 28)) zm) rfl) rfl ?_;refine J.qf rfl rfl rfl<|J.qR (v:=.bool (newB ver O.ver)) (fun w1 w2 hw hb=>hw.step hb) Ty.bd13 rfl rfl (fun w1 hw=>newer_spec ver O.ver w1) ?_
       first | refine J.skip rfl rfl rfl rfl rfl ?_ | refine J.qh rfl rfl rfl rfl ?_ | (refine J.qf rfl rfl rfl ?_;refine J.zC rfl rfl ?_)
       (first | refine J.qr rfl rfl rfl ?_ | refine J.qs rfl rfl rfl ?_)
       refine J.nil ?_;refine JX.qd (hK15 _ _ ?_);refine JC.qn rfl (fun h2=>?_) (fun h2=>?_)
       ·have hnf:newB ver O.ver=false:=by simpa using h2
        have hg:vmergeP n q down ⟨B,p,k⟩ (L.map HI.it) ⟨key,ver,bs⟩=(false,0,q,down,⟨B,p,k⟩):=by unfold vmergeP;rw [if_neg hor,if_neg hb64,old_it,z8,Option.isSome_map,hO,hK,if_pos ⟨rfl,hnf⟩]
        refine JC.seq (fun K16 hK16=>?_);refine JC.region<|J.assign rfl rfl<|J.assign rfl rfl<|J.nil ?_;refine JX.qd (hK16 _ _ ?_);refine JC.qA<|JX.qt ?_;refine JX.zr rfl rfl rfl (fun w1 hw=>?_)
        exact ⟨.no 0 q down ⟨B,p,k⟩,rfl,hg,(hw.perm (zp:List.Perm _ ([(x6,cb (cH O) 28),(b3,cb (cT key ver (.slice a bs.length c)) 28)]++(vltB vb mb lb d s n q down inc es ck ⟨B,p,k⟩)))).drop (List.sublist_append_right _ _)⟩
       ·have hnb:(true=true→newB ver O.ver=true):=fun _=>by simpa using h2
        refine JC.skip<|JX.qd ?_
        exact JX.cut (hK7 x6) ⟨rfl,rfl,trivial⟩ (fun w1 hw=>⟨hnb,hw⟩)
theorem div_pow256 (n a b:Nat) (h:b≤a):n / 256 ^ a=n / 256 ^ b / 256 ^ (a - b):=by
 rw [Nat.div_div_eq_div_mul,← Nat.pow_add]
 congr 2;omega
def beB (n:Nat):List UInt8:=(List.range (wid n)).map (fun i=>UInt8.ofNat (n / 2 ^ (8*(wid n - 1 - i))))
theorem beB_len (n:Nat):(beB n).length=wid n:=by simp [beB]
theorem beB_at {n i:Nat} (h:i<(beB n).length):(beB n)[i]=UInt8.ofNat (n / 256 ^ (wid n - 1 - i)):=by
 simp only [beB,List.getElem_map,List.getElem_range]
 rw [Nat.pow_mul]
theorem numB_eq (n:Nat):numB n=UInt8.ofNat (wid n)::beB n:=rfl
theorem beB_num {n:Nat} (hn:n<18446744073709551616):∀j,j≤wid n→num ((beB n).take j)=n / 256 ^ (wid n - j):=by
 intro j
 induction j with
 | zero=>
  intro _
  rw [List.take_zero,Nat.sub_zero,Nat.div_eq_of_lt (wid_ub hn)];rfl
 | succ j ih=>
  intro h
  have hl:j<(beB n).length:=by rw [beB_len];omega
  rw [yN hl,ih (by omega),beB_at hl,div_pow256 n (wid n - j) (wid n - (j+1)) (by omega),show wid n - j - (wid n - (j+1))=1 by omega,show wid n - 1 - j=wid n - (j+1) by omega,Nat.pow_one,UInt8.toNat_ofNat']
  omega
theorem beB_all {n:Nat} (hn:n<18446744073709551616):num (beB n)=n:=by
 have h:=beB_num hn (wid n) (Nat.le_refl _)
 rwa [List.take_of_length_le (by rw [beB_len];exact Nat.le_refl _),Nat.sub_self,Nat.pow_zero,Nat.div_one] at h
theorem wid8 (n:Nat):(UInt8.ofNat (wid n)).toNat=wid n:=by
 have:=yR n
 rw [UInt8.toNat_ofNat']
 omega
theorem getD_mid (a b:List UInt8) (x:UInt8):(a++x::b).getD a.length 0=x:=by
 rw [List.getD_eq_getElem?_getD,List.getElem?_append_right (Nat.le_refl _),Nat.sub_self];rfl
theorem getN_put {n:Nat} (hn:n<18446744073709551616) (a b:List UInt8):getN (a++(numB n++b)) a.length=(n,a.length+(numB n).length,0):=by
 have hw:=yR n
 have hd:(a++(numB n++b)).getD a.length 0=UInt8.ofNat (wid n):=by rw [numB_eq,List.cons_append];exact getD_mid _ _ _
 have hk:((a++(numB n++b)).getD a.length 0).toNat=wid n:=by rw [hd,wid8]
 have hl:(a++(numB n++b)).length=a.length+(1+wid n)+b.length:=by rw [List.length_append,List.length_append,yO];omega
 have hdr:((a++(numB n++b)).drop (a.length+1)).take (wid n)=beB n:=by
  rw [← List.drop_drop,List.drop_left,numB_eq,List.cons_append,List.drop_succ_cons,List.drop_zero,← beB_len n,List.take_left]
 unfold getN
 rw [if_neg (by omega),if_neg (by omega),hk,if_neg (by omega),if_neg (by omega),if_neg ?_,hdr,beB_all hn,yO]
 ·congr 2;omega
 ·rintro ⟨h1,h2⟩
  have e:(a++(numB n++b)).getD (a.length+1) 0=(beB n)[0]'(by rw [beB_len];exact h1):=by
   rw [List.getD_eq_getElem?_getD,List.getElem?_append_right (by omega),numB_eq,List.cons_append,show a.length+1 - a.length=0+1 by omega,List.getElem?_cons_succ,List.getElem?_append_left (by rw [beB_len];exact h1),List.getElem?_eq_getElem (by rw [beB_len];exact h1)]
   rfl
  rw [e,beB_at,UInt8.toNat_ofNat',Nat.sub_zero] at h2
  have h3:=(wid_lt (n:=n) (k:=wid n - 1) (by omega)).1 (by omega)
  rw [Nat.pow_mul] at h3
  have h4:=wid_ub hn
  have h5:n / 256 ^ (wid n - 1)<256:=by
   rw [Nat.div_lt_iff_lt_mul (Nat.pow_pos (by omega)),← Nat.pow_succ']
   rw [show (wid n - 1).succ=wid n by omega]
   exact h4
  have h6:(2:Nat) ^ 8=256:=by decide
  rw [h6] at h3
  omega
theorem getI_put (k:IDV) (a b:List UInt8):getI (a++(bI k++b)) a.length=(k,a.length+16,0):=by
 have hl:(a++(bI k++b)).length=a.length+16+b.length:=by rw [List.length_append,List.length_append,zG];omega
 unfold getI
 rw [if_neg (by omega),if_neg (by omega),List.drop_left,show (bI k++b).take 16=bI k from List.take_left (l₁:=bI k),idB_bI]
theorem getT_put {t:List UInt8} {most:Nat} (ht:t.length≤most) (hm:most<18446744073709551616) (a b:List UInt8):getT (a++(textB t++b)) a.length most=(t,a.length+(textB t).length,0):=by
 have hN:getN (a++(textB t++b)) a.length=(t.length,a.length+(numB t.length).length,0):=by
  unfold textB
  rw [List.append_assoc]
  exact getN_put (by omega) a (t++b)
 have hl:(a++(textB t++b)).length=a.length+(numB t.length).length+t.length+b.length:=by
  unfold textB
  simp only [List.length_append];omega
 unfold getT
 rw [hN]
 simp only
 rw [if_neg (by simp),if_neg (by omega),if_neg (by omega)]
 have hd:((a++(textB t++b)).drop (a.length+(numB t.length).length)).take t.length=t:=by
  unfold textB
  rw [← List.drop_drop,List.drop_left,List.append_assoc,List.drop_left,List.take_left]
 rw [hd]
 have e:(textB t).length=(numB t.length).length+t.length:=by unfold textB;rw [List.length_append]
 rw [e,Nat.add_assoc]
theorem readP_incB {inc m:Nat} (h1:inc<m) (h2:m≤1048576):readP inc (incB m)=some (.inl m):=by
 have hN0:getN (incB m) 0=(1,(numB 1).length,0):=by
  have:=getN_put (n:=1) (by omega) [] (numB m)
  rw [List.nil_append,List.length_nil,Nat.zero_add] at this
  exact this
 have hN1:getN (incB m) (numB 1).length=(m,(numB 1).length+(numB m).length,0):=by
  have:=getN_put (n:=m) (by omega) (numB 1) []
  rw [List.append_nil] at this
  exact this
 exact readP_inc hN0 hN1 rfl (by unfold incB;rw [List.length_append];omega) (by omega) (by omega)
def okIt (x:ItV):Prop:=1≤x.ver.n∧x.ver.n<4611686018427387904∧x.bs.length≤64
theorem readP_formB {inc:Nat} {x:ItV} (h:okIt x):readP inc (formB x)=some (.inr x):=by
 obtain ⟨key,⟨vn,who⟩,bs⟩:=x
 obtain ⟨h1,h2,h3⟩:=h
 simp only at h1 h2 h3
 obtain ⟨v,rfl⟩:∃v:Nat,vn=(v:Int):=⟨vn.toNat,by omega⟩
 have hv:((v:Nat):Int).toNat=v:=Int.toNat_natCast v
 have e:formB ⟨key,⟨(v:Int),who⟩,bs⟩=numB 2++(bI key++(numB v++(bI who++(textB bs++[])))):=by
  unfold formB
  simp only [hv,List.append_assoc,List.append_nil]
 rw [e]
 have hN0:getN (numB 2++(bI key++(numB v++(bI who++(textB bs++[]))))) 0=(2,(numB 2).length,0):=by
  have:=getN_put (n:=2) (by omega) [] (bI key++(numB v++(bI who++(textB bs++[]))))
  rw [List.nil_append,List.length_nil,Nat.zero_add] at this
  exact this
 have hK1:=getI_put key (numB 2) (numB v++(bI who++(textB bs++[])))
 have hN2:=getN_put (n:=v) (by omega) (numB 2++bI key) (bI who++(textB bs++[]))
 rw [List.append_assoc,List.length_append,zG] at hN2
 have hK3:=getI_put who (numB 2++(bI key++numB v)) (textB bs++[])
 have hT4:=getT_put h3 (by omega) (numB 2++(bI key++(numB v++bI who))) []
 simp only [List.append_assoc,List.length_append,zG,Nat.add_assoc] at hK1 hN2 hK3 hT4 ⊢
 exact readP_item hN0 hK1 rfl hN2 (by omega) (by omega) hK3 rfl hT4 rfl (by simp only [List.length_append,zG,List.length_nil];omega)
theorem dws_endless:∀(xs:List (Nat × List UInt8)) (σ:DS),σ.p<0→∃σ',dws σ xs=(σ',true)∧σ'.p=σ.p
 | [],σ,_=>⟨σ,rfl,rfl⟩
 | x::xs,σ,h=>by
  have h1:(dw σ x.1 x.2).p=σ.p:=by
   show (if 0<σ.p then σ.p - 1 else σ.p)=σ.p
   rw [if_neg (by omega)]
  obtain ⟨σ',h2,h3⟩:=dws_endless xs (dw σ x.1 x.2) (by rw [h1];exact h)
  exact ⟨σ',by rw [dws_cons (by omega)];exact h2,by rw [h3,h1]⟩
theorem append_ok {n:Nat} {q:LogP} {σ:DS} {rec_:List UInt8} (hp:σ.p<0) (hl:rec_.length≤1024) (hr:needN rec_.length≤n - 2 - q.used) :
  ∃σ',appendP n q false σ rec_=(0,⟨q.gen+1,q.used+needN rec_.length,q.cnt+1,q.recs++[rec_]⟩,false,σ')∧σ'.p=σ.p:=by
 obtain ⟨σ',h1,h2⟩:=dws_endless (planP q.gen q.used q.cnt rec_) σ hp
 exact ⟨σ',appendP_ok (by omega) (by omega) h1,h2⟩
theorem append_used {n:Nat} {q q':LogP} {σ σ':DS} {down dn:Bool} {rec_:List UInt8} {e:Int} (h:appendP n q down σ rec_=(e,q',dn,σ')):(e=0∧q'=⟨q.gen+1,q.used+needN rec_.length,q.cnt+1,q.recs++[rec_]⟩)∨(e≠0∧q'=q):=by
 unfold appendP at h
 split at h
 ·cases h;exact .inr ⟨by decide,rfl⟩
 ·split at h
  ·cases h;exact .inr ⟨by decide,rfl⟩
  ·split at h
   ·cases h;exact .inr ⟨by decide,rfl⟩
   ·split at h
    ·cases h;exact .inl ⟨rfl,rfl⟩
    ·cases h;exact .inr ⟨by decide,rfl⟩
structure VaI (n:Nat) (q:LogP) (σ:DS) (inc:Nat) (L:List ItV):Prop where
 log:LogI n q σ
 held:heldV q.recs=some (inc,L)
 inc:inc≤1048576
theorem needN_1 {k:Nat} (h:k≤62):needN k=1:=by unfold needN;omega
theorem incB_len (m:Nat):(incB m).length≤18:=by
 unfold incB
 have h1:=zM 1
 have h2:=zM m
 rw [List.length_append];omega
def nI (k:UInt8):IDV:=fun i=>if i=15 then k else 0
theorem vopen_ok {n inc:Nat} {q:LogP} {σ:DS} {L:List ItV} (hn:n≤4096) (hI:LogI n q σ) (hh:heldV q.recs=some (inc,L)) (hi:inc<1048576) (hp:σ.p<0) (hg:q.gen+1<9223372036854775808) (hr:1≤n - 2 - q.used) :
  ∃σ',vopenP n σ=(0,some (⟨q.gen+1,q.used+1,q.cnt+1,q.recs++[incB (inc+1)]⟩,inc+1,L),σ')∧LogI n ⟨q.gen+1,q.used+1,q.cnt+1,q.recs++[incB (inc+1)]⟩ σ'∧σ'.p=σ.p∧σ.k≤σ'.k∧σ'.k≤σ.k+19:=by
 have hl:=incB_len (inc+1)
 have hn1:needN (incB (inc+1)).length=1:=needN_1 (by omega)
 obtain ⟨σ',h1,h2⟩:=append_ok (n:=n) (q:=q) (σ:=σ) (rec_:=incB (inc+1)) hp (by omega) (by rw [hn1];exact hr)
 rw [hn1] at h1
 obtain ⟨e,q',dn,σ2,h3,h4,h5,h6,_⟩:=yX (down:=false) (rec_:=incB (inc+1)) hn hI hg
 rw [h1] at h3
 simp only [Prod.mk.injEq] at h3
 obtain ⟨rfl,rfl,rfl,rfl⟩:=h3
 exact ⟨σ',vopenP_ok hI.open_ hh (by omega) h1 rfl,h4,h2,h5,h6⟩
theorem put_ok {n:Nat} {q:LogP} {σ:DS} {x:ItV} (hn:n≤4096) (hI:LogI n q σ) (hx:x.bs.length≤64) (hp:σ.p<0) (hg:q.gen+1<9223372036854775808) (hr:needN (formB x).length≤n - 2 - q.used) :
  ∃σ',appendP n q false σ (formB x)=(0,⟨q.gen+1,q.used+needN (formB x).length,q.cnt+1,q.recs++[formB x]⟩,false,σ')∧LogI n ⟨q.gen+1,q.used+needN (formB x).length,q.cnt+1,q.recs++[formB x]⟩ σ'∧σ'.p=σ.p∧σ.k≤σ'.k∧σ'.k≤σ.k+19:=by
 have hl:=formB_le x
 obtain ⟨σ',h1,h2⟩:=append_ok (n:=n) (q:=q) (σ:=σ) (rec_:=formB x) hp (by omega) hr
 obtain ⟨e,q',dn,σ2,h3,h4,h5,h6,_⟩:=yX (down:=false) (rec_:=formB x) hn hI hg
 rw [h1] at h3
 simp only [Prod.mk.injEq] at h3
 obtain ⟨rfl,rfl,rfl,rfl⟩:=h3
 exact ⟨σ',h1,h4,h2,h5,h6⟩
theorem held_inc {rs:List (List UInt8)} {inc:Nat} {L:List ItV} (h:heldV rs=some (inc,L)) (hi:inc<1048576):heldV (rs++[incB (inc+1)])=some (inc+1,L):=by
 rw [zS,h]
 simp only [Option.bind_some,stepV,readP_incB (show inc<inc+1 by omega) (show inc+1≤1048576 by omega)]
theorem held_item {rs:List (List UInt8)} {inc:Nat} {L:List ItV} {x:ItV} (h:heldV rs=some (inc,L)) (hx:okIt x):heldV (rs++[formB x])=some (inc,takeV L x):=by
 rw [zS,h]
 simp only [Option.bind_some,stepV,readP_formB hx]
def itF:ItV:=⟨nI 3,⟨1,nI 7⟩,[97]⟩
def QF1:LogP:=⟨1,1,1,[incB 1]⟩
def QF2:LogP:=⟨2,2,2,[incB 1,formB itF]⟩
def QF3:LogP:=⟨3,3,3,[incB 1,formB itF,incB 2]⟩
theorem itF_need:needN (formB itF).length=1:=by decide+kernel
theorem itG_need:needN (formB ⟨nI 3,⟨1,nI 8⟩,[]⟩).length=1:=by decide+kernel
theorem logI_zero {n:Nat} (h:3≤n) (hn:n≤4096) (p k:Int) (hp:p<9223372036854775808):LogI n ⟨0,0,0,[]⟩ ⟨List.replicate (64*n) 0,p,k⟩:=⟨by simp,openP_zero h hn,hp⟩
theorem fx_all:∃σ1 σ2 σ3:DS,∃q4 σ4,(vopenP 20 ⟨List.replicate (64*20) 0,-1,0⟩=(0,some (QF1,1,[]),σ1)∧LogI 20 QF1 σ1∧0≤σ1.k∧σ1.k≤100)∧
  (vputP 20 QF1 false σ1 [] (nI 3) [97] (nI 7)=(0,some itF,QF2,false,σ2)∧LogI 20 QF2 σ2∧0≤σ2.k∧σ2.k≤200)∧
  (vopenP 20 σ2=(0,some (QF3,2,[itF]),σ3)∧LogI 20 QF3 σ3∧0≤σ3.k∧σ3.k≤300)∧
  vmergeP 20 QF3 false σ3 [itF] ⟨nI 3,⟨1,nI 6⟩,[]⟩=(false,0,QF3,false,σ3)∧
  vmergeP 20 QF3 false σ3 [itF] ⟨nI 3,⟨1,nI 8⟩,[]⟩=(true,0,q4,false,σ4):=by
 have h0:heldV []=some (0,[]):=rfl
 have hh1:heldV [incB 1]=some (1,[]):=held_inc (rs:=[]) h0 (by omega)
 have hh2:heldV [incB 1,formB itF]=some (1,[itF]):=held_item (rs:=[incB 1]) hh1 ⟨by decide,by decide,by decide⟩
 obtain ⟨σ1,a1,a2,a3,a4,a5⟩:=vopen_ok (n:=20) (q:=⟨0,0,0,[]⟩) (σ:=⟨List.replicate (64*20) 0,-1,0⟩) (by omega) (logI_zero (by omega) (by omega) _ _ (by omega)) h0 (by omega) (by show (-1:Int)<0;omega) (by simp) (by simp)
 simp only at a3 a4 a5
 obtain ⟨σ2,b1,b2,b3,b4,b5⟩:=put_ok (n:=20) (q:=QF1) (σ:=σ1) (x:=itF) (by omega) a2 (by decide) (by omega) (by decide) (by rw [itF_need];decide)
 rw [itF_need] at b1 b2
 obtain ⟨σ3,c1,c2,c3,c4,c5⟩:=vopen_ok (n:=20) (q:=QF2) (σ:=σ2) (by omega) b2 hh2 (by omega) (by omega) (by decide) (by decide)
 obtain ⟨σ4,d1,_⟩:=put_ok (n:=20) (q:=QF3) (σ:=σ3) (x:=⟨nI 3,⟨1,nI 8⟩,[]⟩) (by omega) c2 (by decide) (by omega) (by decide) (by rw [itG_need];decide)
 obtain ⟨q4,d2⟩:∃q,appendP 20 QF3 false σ3 (formB ⟨nI 3,⟨1,nI 8⟩,[]⟩)=(0,q,false,σ4):=⟨_,d1⟩
 refine ⟨σ1,σ2,σ3,q4,σ4,⟨a1,a2,by omega,by omega⟩,⟨?_,b2,by omega,by omega⟩,⟨c1,c2,by omega,by omega⟩,?_,?_⟩
 ·unfold vputP
  rw [if_neg (by decide),if_neg (by decide+kernel),show (⟨nI 3,⟨verN [] (nI 3)+1,nI 7⟩,[97]⟩:ItV)=itF by decide+kernel,b1]
  rfl
 ·unfold vmergeP
  rw [if_neg (by decide),if_neg (by decide),if_pos (by decide+kernel)]
 ·unfold vmergeP
  rw [if_neg (by decide),if_neg (by decide),if_neg (by decide+kernel),d2]
  rfl
theorem yF (k:UInt8) (w:World) :
  Calls Try.prog 38 [u8 k].toArray w fun r w'=>r=.returned (.agg (cI (nI k)).toArray)∧Bel w w':=by
 refine qD (args:=[u8 k]) (e:=[(0,u8 k)]) Try.func38 rfl rfl ⟨rfl,trivial⟩ (St.start w) ?_;refine JC.seq (fun K0 hK0=>?_);refine JC.region ?_;refine J.alloc Ty.zID rfl rfl (fun b2=>?_);refine J.nil ?_;refine JX.qd (hK0 _ _ ?_);refine JC.seq (fun K1 hK1=>?_);refine JC.region<|J.qe rfl rfl<|J.buildA (cs:=cI (nI k)) Ty.ar23 Ty.s5 Ty.z23 rfl (by kernel_rfl) rfl ?_;refine J.qN (cs:=cI zI) (vs:=cI (nI k)) Ty.s23 rfl rfl rfl rfl rfl (zN _) .here<|J.nil ?_;refine JX.qd (hK1 _ _ ?_);refine JC.qA ?_;refine JX.retC rfl rfl Ty.a23 Ty.s23 (vs:=cI (nI k)) rfl (fun w1 hw=>Cells.of_block (hw.own _ (.head _)) rfl) (fun w1 hw=>?_)
 exact ⟨rfl,(hw.drop (List.nil_sublist _)).below⟩
set_option maxHeartbeats 2000000 in
theorem fixed18_spec (w:World) :
  Calls Try.prog 10 [].toArray w fun r w'=>r=.returned (.bool true)∧Bel w w':=by
 obtain ⟨σ1,σ2,σ3,q4,σ4,⟨hO1,hI1,hk1,hkb1⟩,⟨hO2,hI2,hk2,hkb2⟩,⟨hO3,hI3,hk3,hkb3⟩,hM6,hM8⟩:=fx_all
 refine qD (args:=[]) (e:=[]) Try.func10 rfl rfl trivial (St.start w) ?_;refine JC.seq (fun K0 hK0=>?_);refine JC.region<|J.assign rfl rfl<|J.nil ?_;refine JX.qd (hK0 _ _ ?_);refine JC.seq (fun K1 hK1=>?_);refine JC.region ?_;refine J.qO (α:=Nat × Nat) (l1:=[]) (L:=fun x=>[(x.1,dkO x.2 (min (max (20:Int) 0) 4096).toNat (-1) 0),(x.2,dkS (List.replicate (64*(min (max (20:Int) 0) 4096).toNat) 0))]) (V:=fun x=>.pointer (some ⟨x.1,0,none⟩)) (Pr:=fun _=>True) Ty.bd15 rfl rfl (fun w1 hw=>new_spec 20 w1) (fun x _=>?_)
 obtain ⟨d,s⟩:=x
 have hN:(min (max (20:Int) 0) 4096).toNat=20:=by decide
 simp only [hN,List.append_nil]
 refine J.assign rfl rfl<|J.nil ?_;refine JX.qd (hK1 _ _ ?_);refine JC.seq (fun K2 hK2=>?_);refine JC.region<|J.qe rfl rfl<|J.perm ([(d,dkO s 20 (-1) 0),(s,dkS (List.replicate (64*20) 0))]++[]) (.refl _) ?_;refine J.qO (α:=VO) (V:=VO.val) (Pr:=fun z=>z.Pr 20 (⟨(List.replicate (64*20) 0),-1,0⟩:DS)) (L:=fun z=>z.lst d s 20) Ty.bd17 rfl rfl (fun w1 hw=>vopen_spec d s 20 (List.replicate (64*20) 0) (-1) 0 w1 (St.owns hw) (by simp) (by omega) (by omega) (by omega) (by omega)) (fun z hz=>?_)
 rcases z with ⟨ez,sz⟩ | ⟨v1,m1,l1,q1,inc1,L1,es1,ck1,sz⟩
 ·exact absurd (congrArg (fun x=>x.1) (hz.1.symm.trans hO1)) hz.2
 obtain ⟨hz1,hT1,hV1⟩:=hz
 rw [hO1] at hz1
 simp only [Prod.mk.injEq,Option.some.injEq,true_and] at hz1
 obtain ⟨⟨rfl,rfl,hL1⟩,rfl⟩:=hz1
 obtain rfl:=List.map_eq_nil_iff.1 hL1.symm
 refine J.name 16 rfl (show _=Value.tuple #[.pointer (some ⟨v1,0,none⟩),.int .i64 0] from rfl) ?_;refine J.perm ((v1,vaO (.pointer (some ⟨l1,0,none⟩)) m1 ((1:Nat):Int))::(m1,.map es1 ck1)::(l1,lgO d QF1 false)::(d,dkO s 20 σ1.p σ1.k)::(s,dkS σ1.B)::[]) (by simp only [VO.lst,lpsH,List.flatMap_nil,List.append_nil];exact zp) ?_;refine J.qe rfl rfl<|J.extract rfl rfl rfl<|J.extract rfl rfl rfl<|J.assign rfl rfl<|J.assign rfl rfl<|J.nil ?_;refine JX.qd (hK2 _ _ ?_);refine JC.seq (fun K3 hK3=>?_);refine JC.seq (fun K4 hK4=>?_);refine JC.region<|J.qe rfl rfl<|J.zh Ty.u34 rfl rfl rfl<|J.qe rfl rfl ?_
 first | refine J.skip rfl rfl rfl rfl rfl ?_ | refine J.qh rfl rfl rfl rfl ?_ | (refine J.qf rfl rfl rfl ?_;refine J.qe rfl rfl ?_)
 first | refine J.skip rfl rfl rfl rfl rfl ?_ | refine J.qh rfl rfl rfl rfl ?_ | (refine J.qf rfl rfl rfl ?_;refine J.zh Ty.u38 rfl rfl rfl ?_)
 (first | refine J.qr rfl rfl rfl ?_ | refine J.qs rfl rfl rfl ?_)
 refine J.qe rfl rfl ?_
 first | refine J.skip rfl rfl rfl rfl rfl ?_ | refine J.qh rfl rfl rfl rfl ?_ | (refine J.qf rfl rfl rfl ?_;refine J.qe rfl rfl ?_)
 refine J.qf rfl rfl rfl<|J.qj rfl rfl rfl rfl<|J.name 27 rfl (show _=Value.bool false by simp) ?_
 (first | refine J.qr rfl rfl rfl ?_ | refine J.qs rfl rfl rfl ?_)
 refine J.qe rfl rfl ?_
 first | refine J.skip rfl rfl rfl rfl rfl ?_ | refine J.qh rfl rfl rfl rfl ?_ | (refine J.qf rfl rfl rfl ?_;refine J.qe rfl rfl ?_)
 refine J.qf rfl rfl rfl<|J.qR (v:=.int .i64 1) (fun w1 w2 hw hb=>hw.step hb) Ty.bd18 rfl rfl (fun w1 hw=>inc_spec v1 m1 _ 1 w1 (St.owns' hw)) ?_;refine J.qf rfl rfl rfl<|J.qj rfl rfl rfl rfl<|J.name 32 rfl (show _=Value.bool false by simp) ?_
 (first | refine J.qr rfl rfl rfl ?_ | refine J.qs rfl rfl rfl ?_)
 refine J.nil ?_;refine JX.qd (hK4 _ _ ?_)
 first | refine JC.qI rfl ?_ | refine JC.qn rfl (fun h=>by first | (exfalso;simp at h;omega) | (simp at h)) (fun _=>?_)
 refine JC.skip ?_;refine JX.qd (hK3 _ _ ?_);refine JC.seq (fun K5 hK5=>?_);refine JC.region<|J.qe rfl rfl<|J.qR (v:=.agg (cI (nI 3)).toArray) (fun w1 w2 hw hb=>hw.step hb) Ty.bd38 rfl rfl (fun w1 hw=>yF 3 w1) ?_;refine J.za (cs:=([97].map u8:List Value)) Ty.el26 Ty.s5 Ty.z5 rfl rfl rfl rfl rfl rfl rfl (fun yQ=>?_);refine J.convBytes Ty.u26 Ty.u5 rfl .here rfl<|J.perm ((yQ,Obj.cells (([97].map u8):List Value).toArray 5 (1,2))::(v1,vaO (.pointer (some ⟨l1,0,none⟩)) m1 ((1:Nat):Int))::(m1,.map es1 ck1)::(l1,lgO d QF1 false)::(d,dkO s 20 σ1.p σ1.k)::(s,dkS σ1.B)::[]) (.refl _)<|J.qR (v:=.agg (cI (nI 7)).toArray) (fun w1 w2 hw hb=>hw.step hb) Ty.bd38 rfl rfl (fun w1 hw=>yF 7 w1) ?_;refine J.perm (vltB v1 m1 l1 d s 20 QF1 false 1 es1 ck1 ⟨σ1.B,σ1.p,σ1.k⟩++[(yQ,Obj.cells (([97].map u8):List Value).toArray 5 (1,2))]) zp ?_
 refine J.qO (α:=PutR) (V:=PutR.val) (Pr:=fun z=>z.Pr 20 QF1 false σ1 [] (nI 3) [97] (nI 7)) (L:=fun z=>z.lst v1 m1 l1 d s 20 1 es1 ck1) Ty.bd24 rfl rfl (fun w1 hw=>vput_spec v1 m1 l1 d s 20 1 QF1 false σ1.B σ1.p σ1.k [] es1 ck1 hT1 hV1 hI1 (by omega) hk1 (by omega) (nI 3) (nI 7) [97] (.slice (some ⟨yQ,0,none⟩) 1 1) w1 (St.owns hw) (Row.own (cs:=[97].map u8) (tb:=5) (fr:=(1,2)) hw (List.mem_append_right _ (.head _)) rfl (Nat.le_refl _)) (.inr fun b o k c e=>by
  simp only [Value.slice.injEq,Option.some.injEq,Addr.mk.injEq] at e
  rw [← e.1.1]
  exact St.off (l1:=vltB v1 m1 l1 d s 20 QF1 false 1 es1 ck1 ⟨σ1.B,σ1.p,σ1.k⟩) hw (o:=(yQ,Obj.cells (([97].map u8):List Value).toArray 5 (1,2)).2) (.head _)) (by decide)) (fun z hz=>?_)
 rcases z with ⟨ez,qz,dz,sz⟩ | ⟨hp9,y,ly,es2,ck2,qz,dz,sz⟩
 ·exact absurd (congrArg (fun x=>x.1) (hz.1.symm.trans hO2)) hz.2
 obtain ⟨hz1,hz2,hy,hT2⟩:=hz
 have hz3:=hO2.symm.trans hz1
 simp only [Prod.mk.injEq,Option.some.injEq,true_and] at hz3
 obtain ⟨hit,rfl,rfl,rfl⟩:=hz3
 obtain ⟨kh,vh,bh,sh,lh⟩:=hp9
 simp only [HI.it,itF,ItV.mk.injEq] at hit
 obtain ⟨rfl,rfl,rfl⟩:=hit
 simp only at hy
 obtain ⟨ay,cy,rfl,hcy⟩:=hy.form
 refine J.name 40 rfl (show _=Value.tuple #[.agg (cT (nI 3) ⟨1,nI 7⟩ (.slice ay 1 cy)).toArray,.int .i64 0] from rfl) ?_;refine J.perm ((v1,vaO (.pointer (some ⟨l1,0,none⟩)) m1 ((1:Nat):Int))::(m1,.map es2 ck2)::(l1,lgO d QF2 false)::(d,dkO s 20 σ2.p σ2.k)::(s,dkS σ2.B)::(lh++(ly++[(yQ,Obj.cells (([97].map u8):List Value).toArray 5 (1,2))]))) (by simp only [PutR.lst];exact zp) ?_;refine J.qe rfl rfl<|J.extract rfl rfl rfl<|J.extract rfl rfl rfl ?_;refine J.alloc Ty.zIt rfl rfl (fun b4=>?_);refine J.qN (cs:=cH zH) (vs:=cT (nI 3) ⟨1,nI 7⟩ (.slice ay 1 cy)) Ty.s28 rfl rfl rfl rfl rfl zF .here<|J.assign rfl rfl<|J.nil ?_;refine JX.qd (hK5 _ _ ?_);refine JC.seq (fun K6 hK6=>?_);refine JC.region<|J.qe rfl rfl<|J.perm ([(d,dkO s 20 σ2.p σ2.k),(s,dkS σ2.B)]++((v1,vaO (.pointer (some ⟨l1,0,none⟩)) m1 ((1:Nat):Int))::(m1,.map es2 ck2)::(l1,lgO d QF2 false)::(lh++(ly++[(b4,cb (cT (nI 3) ⟨1,nI 7⟩ (.slice ay 1 cy)) 28),(yQ,Obj.cells (([97].map u8):List Value).toArray 5 (1,2))])))) zp ?_;refine J.qO (α:=VO) (V:=VO.val) (Pr:=fun z=>z.Pr 20 σ2) (L:=fun z=>z.lst d s 20) Ty.bd17 rfl rfl (fun w1 hw=>vopen_spec d s 20 σ2.B σ2.p σ2.k w1 (St.owns hw) hI2.len (by omega) hk2 (by omega) hI2.p) (fun z hz=>?_)
 rcases z with ⟨ez,sz⟩ | ⟨v2,m2,l2,q1,inc1,L3,es3,ck3,sz⟩
 ·exact absurd (congrArg (fun x=>x.1) (hz.1.symm.trans hO3)) hz.2
 obtain ⟨hz1,hT3,hV3⟩:=hz
 rw [hO3] at hz1
 simp only [Prod.mk.injEq,Option.some.injEq,true_and] at hz1
 obtain ⟨⟨rfl,rfl,hL3⟩,rfl⟩:=hz1
 obtain ⟨h2,rfl,hit2⟩:=List.map_eq_singleton_iff.1 hL3.symm
 obtain ⟨kh2,vh2,bh2,sv2,lp2⟩:=h2
 simp only [HI.it,itF,ItV.mk.injEq] at hit2
 obtain ⟨rfl,rfl,rfl⟩:=hit2
 refine J.name 45 rfl (show _=Value.tuple #[.pointer (some ⟨v2,0,none⟩),.int .i64 0] from rfl) ?_;refine J.perm ((v2,vaO (.pointer (some ⟨l2,0,none⟩)) m2 ((2:Nat):Int))::(m2,.map es3 ck3)::(l2,lgO d QF3 false)::(d,dkO s 20 σ3.p σ3.k)::(s,dkS σ3.B)::(lp2++((v1,vaO (.pointer (some ⟨l1,0,none⟩)) m1 ((1:Nat):Int))::(m1,.map es2 ck2)::(l1,lgO d QF2 false)::(lh++(ly++[(b4,cb (cT (nI 3) ⟨1,nI 7⟩ (.slice ay 1 cy)) 28),(yQ,Obj.cells (([97].map u8):List Value).toArray 5 (1,2))]))))) (by simp only [VO.lst,lpsH,List.flatMap_cons,List.flatMap_nil,List.append_nil];exact zp) ?_;refine J.qe rfl rfl<|J.extract rfl rfl rfl<|J.extract rfl rfl rfl<|J.assign rfl rfl<|J.assign rfl rfl<|J.nil ?_;refine JX.qd (hK6 _ _ ?_);refine JC.seq (fun K7 hK7=>?_);refine JC.seq (fun K8 hK8=>?_)
 apply JC.zd (α:=Nat × Unit) 22 (fun x=>match x with | ⟨xu,uu⟩=>[.int .i64 0,.bool false,.bool false,.int .i64 0,.bool false,.bool false,.bool false,.pointer (some ⟨v2,0,none⟩),.bool false,.bool false,.bool false,.pointer (some ⟨v2,0,none⟩),.int .i64 2,.bool false,.bool false,.bool false,.pointer (some ⟨b4,0+16,none⟩),.agg (cV (⟨1,nI 7⟩:WV)).toArray,.agg (cI (nI 7)).toArray,.agg (cV (⟨1,nI 7⟩:WV)).toArray,.bool false,.bool false]) (fun m x=>match x with | ⟨xu,uu⟩=>fun w1=>(True)∧St w [] ((v2,vaO (.pointer (some ⟨l2,0,none⟩)) m2 ((2:Nat):Int))::(m2,.map es3 ck3)::(l2,lgO d QF3 false)::(d,dkO s 20 σ3.p σ3.k)::(s,dkS σ3.B)::(lp2++((v1,vaO (.pointer (some ⟨l1,0,none⟩)) m1 ((1:Nat):Int))::(m1,.map es2 ck2)::(l1,lgO d QF2 false)::(lh++(ly++[(b4,cb (cT (nI 3) ⟨1,nI 7⟩ (.slice ay 1 cy)) 28),(yQ,Obj.cells (([97].map u8):List Value).toArray 5 (1,2))]))))) w1) Ty.mixed rfl rfl rfl (by kernel_rfl) rfl rfl ?hinit ?hstep ?htail
 case hinit=>exact fun w1 hw=>⟨(0,()),trivial,hw.drew⟩
 case hstep=>
  refine ⟨fun m x hm hp=>?_,fun m x hm hp=>?_,fun m x hm hp=>?_,fun m x hm hp=>?_,fun m x hm hp=>?_,fun m x hm hp=>?_,fun m x hm hp=>?_,fun m x hm hp=>?_,fun m x hm hp=>?_,fun m x hm hp=>?_,fun m x hm hp=>?_,fun m x hm hp=>?_,fun m x hm hp=>?_,fun m x hm hp=>?_,fun m x hm hp=>?_,fun m x hm hp=>?_,fun m x hm hp=>?_,fun m x hm hp=>?_,fun m x hm hp=>?_,fun m x hm hp=>?_,fun m x hm hp=>?_,fun m x hm hp=>?_,trivial⟩
  ·obtain ⟨xu,uu⟩:=x
   show J _ _ _ _ _ (_) _
   refine J.pr (fun hF=>?_);refine J.qe rfl rfl ?_
   exact J.ql rfl (fun _ hw=>⟨⟨xu,uu⟩,rfl,fun _ _ _=>rfl,hF,hw⟩)
  ·obtain ⟨xu,uu⟩:=x
   show J _ _ _ _ _ ((48,.int .i64 0)::_) _
   refine J.pr (fun hF=>?_);refine J.qj rfl rfl rfl rfl ?_
   exact J.ql rfl (fun _ hw=>⟨⟨xu,uu⟩,rfl,fun _ _ _=>rfl,hF,hw⟩)
  ·obtain ⟨xu,uu⟩:=x
   show J _ _ _ _ _ ((49,.bool false)::_) _
   refine J.pr (fun hF=>?_);refine J.qe rfl rfl ?_
   exact J.ql rfl (fun _ hw=>⟨⟨xu,uu⟩,rfl,fun _ _ _=>rfl,hF,hw⟩)
  ·obtain ⟨xu,uu⟩:=x
   show J _ _ _ _ _ ((50,.bool false)::_) _
   refine J.pr (fun hF=>?_)
   first | refine J.skip rfl rfl rfl rfl rfl ?_ | refine J.qh rfl rfl rfl rfl ?_ | (refine J.qf rfl rfl rfl ?_;refine J.qe rfl rfl ?_)
   exact J.ql rfl (fun _ hw=>⟨⟨xu,uu⟩,rfl,fun _ _ _=>rfl,hF,hw⟩)
  ·obtain ⟨xu,uu⟩:=x
   show J _ _ _ _ _ ((50,.bool false)::(51,.int .i64 0)::_) _
   refine J.pr (fun hF=>?_)
   first | refine J.skip rfl rfl rfl rfl rfl ?_ | refine J.qh rfl rfl rfl rfl ?_ | (refine J.qf rfl rfl rfl ?_;refine J.qj rfl rfl rfl rfl ?_)
   exact J.ql rfl (fun _ hw=>⟨⟨xu,uu⟩,rfl,fun _ _ _=>rfl,hF,hw⟩)
  ·obtain ⟨xu,uu⟩:=x
   show J _ _ _ _ _ ((52,.bool false)::(50,.bool false)::_) _
   refine J.pr (fun hF=>?_)
   (first | refine J.qr rfl rfl rfl ?_ | refine J.qs rfl rfl rfl ?_)
   exact J.ql rfl (fun _ hw=>⟨⟨xu,uu⟩,rfl,fun _ _ _=>rfl,hF,hw⟩)
  ·obtain ⟨xu,uu⟩:=x
   show J _ _ _ _ _ ((50,.bool false)::(53,.bool false)::_) _
   refine J.pr (fun hF=>?_);refine J.qe rfl rfl ?_
   exact J.ql rfl (fun _ hw=>⟨⟨xu,uu⟩,rfl,fun _ _ _=>rfl,hF,hw⟩)
  ·obtain ⟨xu,uu⟩:=x
   show J _ _ _ _ _ ((54,.bool false)::_) _
   refine J.pr (fun hF=>?_)
   first | refine J.skip rfl rfl rfl rfl rfl ?_ | refine J.qh rfl rfl rfl rfl ?_ | (refine J.qf rfl rfl rfl ?_;refine J.qe rfl rfl ?_)
   exact J.ql rfl (fun _ hw=>⟨⟨xu,uu⟩,rfl,fun _ _ _=>rfl,hF,hw⟩)
  ·obtain ⟨xu,uu⟩:=x
   show J _ _ _ _ _ ((54,.bool false)::(55,.pointer (some ⟨v2,0,none⟩))::_) _
   refine J.pr (fun hF=>?_)
   first | refine J.skip rfl rfl rfl rfl rfl ?_ | refine J.qh rfl rfl rfl rfl ?_ | (refine J.qf rfl rfl rfl ?_;refine J.zh Ty.u38 rfl rfl rfl ?_)
   exact J.ql rfl (fun _ hw=>⟨⟨xu,uu⟩,rfl,fun _ _ _=>rfl,hF,hw⟩)
  ·obtain ⟨xu,uu⟩:=x
   show J _ _ _ _ _ ((56,.bool false)::(54,.bool false)::_) _
   refine J.pr (fun hF=>?_)
   (first | refine J.qr rfl rfl rfl ?_ | refine J.qs rfl rfl rfl ?_)
   exact J.ql rfl (fun _ hw=>⟨⟨xu,uu⟩,rfl,fun _ _ _=>rfl,hF,hw⟩)
  ·obtain ⟨xu,uu⟩:=x
   show J _ _ _ _ _ ((54,.bool false)::(57,.bool false)::_) _
   refine J.pr (fun hF=>?_);refine J.qe rfl rfl ?_
   exact J.ql rfl (fun _ hw=>⟨⟨xu,uu⟩,rfl,fun _ _ _=>rfl,hF,hw⟩)
  ·obtain ⟨xu,uu⟩:=x
   show J _ _ _ _ _ ((58,.bool false)::_) _
   refine J.pr (fun hF=>?_)
   first | refine J.skip rfl rfl rfl rfl rfl ?_ | refine J.qh rfl rfl rfl rfl ?_ | (refine J.qf rfl rfl rfl ?_;refine J.qe rfl rfl ?_)
   exact J.ql rfl (fun _ hw=>⟨⟨xu,uu⟩,rfl,fun _ _ _=>rfl,hF,hw⟩)
  ·obtain ⟨xu,uu⟩:=x
   show J _ _ _ _ _ ((58,.bool false)::(58,.bool false)::(59,.pointer (some ⟨v2,0,none⟩))::_) _
   refine J.pr (fun hF=>?_);refine J.qf rfl rfl rfl<|J.qR (v:=.int .i64 2) (fun w1 w2 hw hb=>hw.step hb) Ty.bd18 rfl rfl (fun w1 hw=>inc_spec v2 m2 _ 2 w1 (St.owns' hw)) ?_
   exact J.ql rfl (fun _ hw=>⟨⟨xu,uu⟩,rfl,fun _ _ _=>rfl,hF,hw⟩)
  ·obtain ⟨xu,uu⟩:=x
   show J _ _ _ _ _ ((58,.bool false)::(60,.int .i64 2)::_) _
   refine J.pr (fun hF=>?_)
   first | refine J.skip rfl rfl rfl rfl rfl ?_ | refine J.qh rfl rfl rfl rfl ?_ | (refine J.qf rfl rfl rfl ?_;refine J.qj rfl rfl rfl rfl ?_)
   exact J.ql rfl (fun _ hw=>⟨⟨xu,uu⟩,rfl,fun _ _ _=>rfl,hF,hw⟩)
  ·obtain ⟨xu,uu⟩:=x
   show J _ _ _ _ _ ((61,.bool false)::(58,.bool false)::_) _
   refine J.pr (fun hF=>?_)
   (first | refine J.qr rfl rfl rfl ?_ | refine J.qs rfl rfl rfl ?_)
   exact J.ql rfl (fun _ hw=>⟨⟨xu,uu⟩,rfl,fun _ _ _=>rfl,hF,hw⟩)
  ·obtain ⟨xu,uu⟩:=x
   show J _ _ _ _ _ ((60,.int .i64 2)::(62,.bool false)::_) _
   refine J.pr (fun hF=>?_);refine J.qe rfl rfl ?_
   exact J.ql rfl (fun _ hw=>⟨⟨xu,uu⟩,rfl,fun _ _ _=>rfl,hF,hw⟩)
  ·obtain ⟨xu,uu⟩:=x
   show J _ _ _ _ _ ((63,.bool false)::_) _
   refine J.pr (fun hF=>?_)
   first | refine J.skip rfl rfl rfl rfl rfl ?_ | refine J.qh rfl rfl rfl rfl ?_ | (refine J.qf rfl rfl rfl ?_;refine J.qi Ty.fd28_1 rfl rfl ?_)
   exact J.ql rfl (fun _ hw=>⟨⟨xu,uu⟩,rfl,fun _ _ _=>rfl,hF,hw⟩)
  ·obtain ⟨xu,uu⟩:=x
   show J _ _ _ _ _ ((63,.bool false)::(64,.pointer (some ⟨b4,0+16,none⟩))::_) _
   refine J.pr (fun hF=>?_);refine J.qf rfl rfl rfl<|J.qC (vs:=cV ⟨1,nI 7⟩) Ty.a25 Ty.s25 rfl rfl (fun w1 hw=>Cells.of_block (hw.own ((b4,cb (cT (nI 3) ⟨1,nI 7⟩ (.slice ay 1 cy)) 28)) zm) rfl) rfl ?_
   exact J.ql rfl (fun _ hw=>⟨⟨xu,uu⟩,rfl,fun _ _ _=>rfl,hF,hw⟩)
  ·obtain ⟨xu,uu⟩:=x
   show J _ _ _ _ _ ((63,.bool false)::(63,.bool false)::_) _
   refine J.pr (fun hF=>?_);refine J.qf rfl rfl rfl<|J.qR (v:=.agg (cI (nI 7)).toArray) (fun w1 w2 hw hb=>hw.step hb) Ty.bd38 rfl rfl (fun w1 hw=>yF 7 w1) ?_
   exact J.ql rfl (fun _ hw=>⟨⟨xu,uu⟩,rfl,fun _ _ _=>rfl,hF,hw⟩)
  ·obtain ⟨xu,uu⟩:=x
   show J _ _ _ _ _ ((63,.bool false)::(66,.agg (cI (nI 7)).toArray)::_) _
   refine J.pr (fun hF=>?_);refine J.qf rfl rfl rfl<|J.qY (cs:=cV ⟨1,nI 7⟩) Ty.pl25 Ty.zVr rfl (by kernel_rfl) rfl ?_
   exact J.ql rfl (fun _ hw=>⟨⟨xu,uu⟩,rfl,fun _ _ _=>rfl,hF,hw⟩)
  ·obtain ⟨xu,uu⟩:=x
   show J _ _ _ _ _ ((63,.bool false)::(67,.agg (cV (⟨1,nI 7⟩:WV)).toArray)::(65,.agg (cV (⟨1,nI 7⟩:WV)).toArray)::_) _
   refine J.pr (fun hF=>?_);refine J.qf rfl rfl rfl<|J.neV rfl rfl (by decide) (by decide) rfl ?_;refine J.name 68 rfl (show _=Value.bool false by simp) ?_
   exact J.ql rfl (fun _ hw=>⟨⟨xu,uu⟩,rfl,fun _ _ _=>rfl,hF,hw⟩)
  ·obtain ⟨xu,uu⟩:=x
   show J _ _ _ _ _ ((68,.bool false)::(63,.bool false)::_) _
   refine J.pr (fun hF=>?_)
   (first | refine J.qr rfl rfl rfl ?_ | refine J.qs rfl rfl rfl ?_)
   exact J.ql rfl (fun _ hw=>⟨⟨xu,uu⟩,rfl,fun _ _ _=>rfl,hF,hw⟩)
 case htail=>
  intro x
  obtain ⟨xu,uu⟩:=x
  show J _ _ _ _ _ ((69,.bool false)::(68,.bool false)::(67,.agg (cV (⟨1,nI 7⟩:WV)).toArray)::(66,.agg (cI (nI 7)).toArray)::(65,.agg (cV (⟨1,nI 7⟩:WV)).toArray)::(64,.pointer (some ⟨b4,0+16,none⟩))::(63,.bool false)::(62,.bool false)::(61,.bool false)::(60,.int .i64 2)::(59,.pointer (some ⟨v2,0,none⟩))::(58,.bool false)::(57,.bool false)::(56,.bool false)::(55,.pointer (some ⟨v2,0,none⟩))::(54,.bool false)::(53,.bool false)::(52,.bool false)::(51,.int .i64 0)::(50,.bool false)::(49,.bool false)::(48,.int .i64 0)::_) (fun w1=>(True)∧St w [] ((v2,vaO (.pointer (some ⟨l2,0,none⟩)) m2 ((2:Nat):Int))::(m2,.map es3 ck3)::(l2,lgO d QF3 false)::(d,dkO s 20 σ3.p σ3.k)::(s,dkS σ3.B)::(lp2++((v1,vaO (.pointer (some ⟨l1,0,none⟩)) m1 ((1:Nat):Int))::(m1,.map es2 ck2)::(l1,lgO d QF2 false)::(lh++(ly++[(b4,cb (cT (nI 3) ⟨1,nI 7⟩ (.slice ay 1 cy)) 28),(yQ,Obj.cells (([97].map u8):List Value).toArray 5 (1,2))]))))) w1)
  refine J.pr (fun hF=>?_);refine J.nil ?_;refine JX.qd (hK8 _ _ ?_)
  first | refine JC.qI rfl ?_ | refine JC.qn rfl (fun h=>by first | (exfalso;simp at h;omega) | (simp at h)) (fun _=>?_)
  refine JC.skip ?_;refine JX.qd (hK7 _ _ ?_);refine JC.seq (fun K9 hK9=>?_);refine JC.region<|J.qe rfl rfl<|J.qR (v:=.agg (cI (nI 3)).toArray) (fun w1 w2 hw hb=>hw.step hb) Ty.bd38 rfl rfl (fun w1 hw=>yF 3 w1) ?_
  have hv3:=(hV3 _ (.head _)).2
  simp only at hv3
  refine J.perm ([(v2,vaO (.pointer (some ⟨l2,0,none⟩)) m2 ((2:Nat):Int)),(m2,.map es3 ck3)]++((l2,lgO d QF3 false)::(d,dkO s 20 σ3.p σ3.k)::(s,dkS σ3.B)::(lp2++((v1,vaO (.pointer (some ⟨l1,0,none⟩)) m1 ((1:Nat):Int))::(m1,.map es2 ck2)::(l1,lgO d QF2 false)::(lh++(ly++[(b4,cb (cT (nI 3) ⟨1,nI 7⟩ (.slice ay 1 cy)) 28),(yQ,Obj.cells (([97].map u8):List Value).toArray 5 (1,2))])))))) zp ?_;refine J.qO (α:=Value × List (Nat × Obj)) (V:=fun y=>.tuple #[.agg (cT (nI 3) ⟨1,nI 7⟩ y.1).toArray,.bool true]) (Pr:=fun y=>Vec 5 1 y.1 ([97]).length (([97]).map u8) y.2) (L:=fun y=>y.2++[(v2,vaO (.pointer (some ⟨l2,0,none⟩)) m2 ((2:Nat):Int)),(m2,.map es3 ck3)]) Ty.bd22 rfl rfl (fun w1 hw=>vget_spec v2 m2 _ _ _ es3 ck3 hT3 hV3 (nI 3) ⟨nI 3,⟨1,nI 7⟩,[97],sv2,lp2⟩ true w1 (St.owns hw) (by simp [hget]) (by simp [hget]) (qW hv3 hw (fun q hq=>by simp [hq])) (zY hv3 (fun p0 hp0=>St.off (l1:=[(v2,vaO (.pointer (some ⟨l2,0,none⟩)) m2 ((2:Nat):Int)),(m2,.map es3 ck3)]) hw (o:=p0.2) (by simp [hp0]))) (by show 1≤140737488351232;omega)) (fun y hyg=>?_)
  obtain ⟨vg,lg⟩:=y
  try simp only at hyg ⊢
  obtain ⟨ag,cg,rfl,hcg⟩:=hyg.form
  refine J.qe rfl rfl<|J.extract rfl rfl rfl<|J.extract rfl rfl rfl ?_;refine J.alloc Ty.zIt rfl rfl (fun b7=>?_);refine J.qN (cs:=cH zH) (vs:=cT (nI 3) ⟨1,nI 7⟩ (.slice ag 1 cg)) Ty.s28 rfl rfl rfl rfl rfl zF .here<|J.perm ((b7,cb (cT (nI 3) ⟨1,nI 7⟩ (.slice ag 1 cg)) 28)::(lg++((v2,vaO (.pointer (some ⟨l2,0,none⟩)) m2 ((2:Nat):Int))::(m2,.map es3 ck3)::(l2,lgO d QF3 false)::(d,dkO s 20 σ3.p σ3.k)::(s,dkS σ3.B)::(lp2++((v1,vaO (.pointer (some ⟨l1,0,none⟩)) m1 ((1:Nat):Int))::(m1,.map es2 ck2)::(l1,lgO d QF2 false)::(lh++(ly++[(b4,cb (cT (nI 3) ⟨1,nI 7⟩ (.slice ay 1 cy)) 28),(yQ,Obj.cells (([97].map u8):List Value).toArray 5 (1,2))]))))))) zp<|J.assign rfl rfl<|J.nil ?_;refine JX.qd (hK9 _ _ ?_);refine JC.seq (fun K10 hK10=>?_);refine JC.region<|J.qe rfl rfl<|J.qR (v:=.agg (cI (nI 3)).toArray) (fun w1 w2 hw hb=>hw.step hb) Ty.bd38 rfl rfl (fun w1 hw=>yF 3 w1) ?_;refine J.qR (v:=.agg (cI (nI 6)).toArray) (fun w1 w2 hw hb=>hw.step hb) Ty.bd38 rfl rfl (fun w1 hw=>yF 6 w1) ?_;refine J.qY (cs:=cV ⟨1,nI 6⟩) Ty.pl25 Ty.zVr rfl (by kernel_rfl) rfl ?_;refine J.qY (cs:=cT (nI 3) ⟨1,nI 6⟩ (.slice none 0 0)) Ty.pl28 Ty.zIt rfl (by kernel_rfl) rfl ?_;refine J.perm (vltB v2 m2 l2 d s 20 QF3 false 2 es3 ck3 ⟨σ3.B,σ3.p,σ3.k⟩++((b7,cb (cT (nI 3) ⟨1,nI 7⟩ (.slice ag 1 cg)) 28)::(lg++(lp2++((v1,vaO (.pointer (some ⟨l1,0,none⟩)) m1 ((1:Nat):Int))::(m1,.map es2 ck2)::(l1,lgO d QF2 false)::(lh++(ly++[(b4,cb (cT (nI 3) ⟨1,nI 7⟩ (.slice ay 1 cy)) 28),(yQ,Obj.cells (([97].map u8):List Value).toArray 5 (1,2))]))))))) zp ?_;refine J.qO (α:=MerR) (V:=MerR.val) (Pr:=fun z=>z.Pr 20 QF3 false σ3 [⟨nI 3,⟨1,nI 7⟩,[97],sv2,lp2⟩] ⟨nI 3,⟨1,nI 6⟩,[]⟩) (L:=fun z=>z.lst v2 m2 l2 d s 20 2 es3 ck3) Ty.bd19 rfl rfl (fun w1 hw=>vmerge_spec v2 m2 l2 d s 20 2 QF3 false σ3.B σ3.p σ3.k _ es3 ck3 hT3 hV3 hI3 (by omega) hk3 (by omega) (cT (nI 3) ⟨1,nI 6⟩ (.slice none 0 0)) (nI 3) ⟨1,nI 6⟩ [] (.slice none 0 0) w1 rfl (St.owns hw) ⟨none,0,rfl,Nat.le_refl _,.inl rfl⟩ (.inl rfl) (by decide)) (fun z hz=>?_)
  rcases z with ⟨ez,qz,dz,sz⟩ | ⟨hz9,esz,ckz,qz,dz,sz⟩
  rotate_left
  ·exact absurd (congrArg (fun x=>x.1) (hM6.symm.trans hz.1)) (by simp)
  have hz1:=hM6.symm.trans hz
  simp only [Prod.mk.injEq,true_and] at hz1
  obtain ⟨rfl,rfl,rfl,rfl⟩:=hz1
  refine J.name 82 rfl (show _=Value.tuple #[.bool false,.int .i64 0] from rfl) ?_;refine J.perm ((b7,cb (cT (nI 3) ⟨1,nI 7⟩ (.slice ag 1 cg)) 28)::(lg++((v2,vaO (.pointer (some ⟨l2,0,none⟩)) m2 ((2:Nat):Int))::(m2,.map es3 ck3)::(l2,lgO d QF3 false)::(d,dkO s 20 σ3.p σ3.k)::(s,dkS σ3.B)::(lp2++((v1,vaO (.pointer (some ⟨l1,0,none⟩)) m1 ((1:Nat):Int))::(m1,.map es2 ck2)::(l1,lgO d QF2 false)::(lh++(ly++[(b4,cb (cT (nI 3) ⟨1,nI 7⟩ (.slice ay 1 cy)) 28),(yQ,Obj.cells (([97].map u8):List Value).toArray 5 (1,2))]))))))) (by simp only [MerR.lst];exact zp) ?_;refine J.qe rfl rfl<|J.extract rfl rfl rfl<|J.extract rfl rfl rfl<|J.assign rfl rfl<|J.assign rfl rfl<|J.nil ?_;refine JX.qd (hK10 _ _ ?_);refine JC.seq (fun K11 hK11=>?_);refine JC.region<|J.qe rfl rfl<|J.qR (v:=.agg (cI (nI 3)).toArray) (fun w1 w2 hw hb=>hw.step hb) Ty.bd38 rfl rfl (fun w1 hw=>yF 3 w1) ?_;refine J.qR (v:=.agg (cI (nI 8)).toArray) (fun w1 w2 hw hb=>hw.step hb) Ty.bd38 rfl rfl (fun w1 hw=>yF 8 w1) ?_;refine J.qY (cs:=cV ⟨1,nI 8⟩) Ty.pl25 Ty.zVr rfl (by kernel_rfl) rfl ?_;refine J.qY (cs:=cT (nI 3) ⟨1,nI 8⟩ (.slice none 0 0)) Ty.pl28 Ty.zIt rfl (by kernel_rfl) rfl ?_;refine J.perm (vltB v2 m2 l2 d s 20 QF3 false 2 es3 ck3 ⟨σ3.B,σ3.p,σ3.k⟩++((b7,cb (cT (nI 3) ⟨1,nI 7⟩ (.slice ag 1 cg)) 28)::(lg++(lp2++((v1,vaO (.pointer (some ⟨l1,0,none⟩)) m1 ((1:Nat):Int))::(m1,.map es2 ck2)::(l1,lgO d QF2 false)::(lh++(ly++[(b4,cb (cT (nI 3) ⟨1,nI 7⟩ (.slice ay 1 cy)) 28),(yQ,Obj.cells (([97].map u8):List Value).toArray 5 (1,2))]))))))) zp ?_;refine J.qO (α:=MerR) (V:=MerR.val) (Pr:=fun z=>z.Pr 20 QF3 false σ3 [⟨nI 3,⟨1,nI 7⟩,[97],sv2,lp2⟩] ⟨nI 3,⟨1,nI 8⟩,[]⟩) (L:=fun z=>z.lst v2 m2 l2 d s 20 2 es3 ck3) Ty.bd19 rfl rfl (fun w1 hw=>vmerge_spec v2 m2 l2 d s 20 2 QF3 false σ3.B σ3.p σ3.k _ es3 ck3 hT3 hV3 hI3 (by omega) hk3 (by omega) (cT (nI 3) ⟨1,nI 8⟩ (.slice none 0 0)) (nI 3) ⟨1,nI 8⟩ [] (.slice none 0 0) w1 rfl (St.owns hw) ⟨none,0,rfl,Nat.le_refl _,.inl rfl⟩ (.inl rfl) (by decide)) (fun z hz=>?_)
  rcases z with ⟨ez,qz,dz,sz⟩ | ⟨hz9,esz,ckz,qz,dz,sz⟩
  ·exact absurd (congrArg (fun x=>x.1) (hM8.symm.trans hz)) (by simp)
  obtain ⟨hz1,-,-,-⟩:=hz
  have hz2:=hM8.symm.trans hz1
  simp only [Prod.mk.injEq,true_and] at hz2
  obtain ⟨rfl,rfl,rfl⟩:=hz2
  refine J.name 91 rfl (show _=Value.tuple #[.bool true,.int .i64 0] from rfl) ?_;refine J.perm ((v2,vaO (.pointer (some ⟨l2,0,none⟩)) m2 ((2:Nat):Int))::(m2,.map esz ckz)::(l2,lgO d q4 false)::(d,dkO s 20 σ4.p σ4.k)::(s,dkS σ4.B)::(b7,cb (cT (nI 3) ⟨1,nI 7⟩ (.slice ag 1 cg)) 28)::(hz9.lp++(lg++(lp2++((v1,vaO (.pointer (some ⟨l1,0,none⟩)) m1 ((1:Nat):Int))::(m1,.map es2 ck2)::(l1,lgO d QF2 false)::(lh++(ly++[(b4,cb (cT (nI 3) ⟨1,nI 7⟩ (.slice ay 1 cy)) 28),(yQ,Obj.cells (([97].map u8):List Value).toArray 5 (1,2))]))))))) (by simp only [MerR.lst];exact zp) ?_;refine J.qe rfl rfl<|J.extract rfl rfl rfl<|J.extract rfl rfl rfl<|J.assign rfl rfl<|J.assign rfl rfl<|J.nil ?_;refine JX.qd (hK11 _ _ ?_);refine JC.seq (fun K12 hK12=>?_);refine JC.region<|J.qe rfl rfl<|J.qe rfl rfl ?_
  first | refine J.skip rfl rfl rfl rfl rfl ?_ | refine J.qh rfl rfl rfl rfl ?_ | (refine J.qf rfl rfl rfl ?_;refine J.qi Ty.fd28_2 rfl rfl ?_)
  refine J.qf rfl rfl rfl<|J.qw (v:=.slice ag 1 cg) Ty.a26 rfl (fun w1 hw=>by rw [qB (hw.own ((b7,cb (cT (nI 3) ⟨1,nI 7⟩ (.slice ag 1 cg)) 28)) zm)];rfl) rfl ?_;refine J.qf rfl rfl rfl<|J.z2 (m:=1) (bs:=[97]) Ty.el26 Ty.u5 Ty.u9 rfl (fun w1 hw=>qW hyg hw (fun q hq=>by simp [hq])) rfl rfl ?_;refine J.qf rfl rfl rfl<|J.strEq (xs:=[97]) (ys:=[97]) rfl rfl rfl<|J.name 99 rfl (show _=Value.bool true from rfl) ?_
  (first | refine J.qr rfl rfl rfl ?_ | refine J.qs rfl rfl rfl ?_)
  refine J.qe rfl rfl ?_
  first | refine J.skip rfl rfl rfl rfl rfl ?_ | refine J.qh rfl rfl rfl rfl ?_ | (refine J.qf rfl rfl rfl ?_;refine J.qe rfl rfl ?_)
  first | refine J.skip rfl rfl rfl rfl rfl ?_ | refine J.qh rfl rfl rfl rfl ?_ | (refine J.qf rfl rfl rfl ?_;refine J.zC rfl rfl ?_)
  (first | refine J.qr rfl rfl rfl ?_ | refine J.qs rfl rfl rfl ?_)
  refine J.qe rfl rfl ?_
  first | refine J.skip rfl rfl rfl rfl rfl ?_ | refine J.qh rfl rfl rfl rfl ?_ | (refine J.qf rfl rfl rfl ?_;refine J.qe rfl rfl ?_)
  (first | refine J.qr rfl rfl rfl ?_ | refine J.qs rfl rfl rfl ?_)
  refine J.qe rfl rfl ?_
  first | refine J.skip rfl rfl rfl rfl rfl ?_ | refine J.qh rfl rfl rfl rfl ?_ | (refine J.qf rfl rfl rfl ?_;refine J.qe rfl rfl ?_)
  refine J.qf rfl rfl rfl<|J.qR (v:=.bool false) (fun w1 w2 hw hb=>hw.step hb) Ty.bd25 rfl rfl (fun w1 hw=>vdown_spec v2 m2 l2 d q4 false _ w1 (l:=[]) (St.owns (l1:=[_,_]) (hw.perm (zp:List.Perm _ ([(v2,vaO (.pointer (some ⟨l2,0,none⟩)) m2 ((2:Nat):Int)),(l2,lgO d q4 false)]++((m2,.map esz ckz)::(d,dkO s 20 σ4.p σ4.k)::(s,dkS σ4.B)::(b7,cb (cT (nI 3) ⟨1,nI 7⟩ (.slice ag 1 cg)) 28)::(hz9.lp++(lg++(lp2++((v1,vaO (.pointer (some ⟨l1,0,none⟩)) m1 ((1:Nat):Int))::(m1,.map es2 ck2)::(l1,lgO d QF2 false)::(lh++(ly++[(b4,cb (cT (nI 3) ⟨1,nI 7⟩ (.slice ay 1 cy)) 28),(yQ,Obj.cells (([97].map u8):List Value).toArray 5 (1,2))])))))))))))) ?_
  first | refine J.skip rfl rfl rfl rfl rfl ?_ | refine J.qh rfl rfl rfl rfl ?_ | (refine J.qf rfl rfl rfl ?_;refine J.zC rfl rfl ?_)
  (first | refine J.qr rfl rfl rfl ?_ | refine J.qs rfl rfl rfl ?_)
  refine J.assign rfl rfl<|J.nil ?_;refine JX.qd (hK12 _ _ ?_);refine JC.qA ?_;refine JX.qL rfl rfl (fun w hw=>?_)
  exact ⟨rfl,(hw.drop (List.nil_sublist _)).below⟩
end Go.Proofs.Ytoaenmlhehcjfaa
namespace Go.J
open Go.ChangeShapes Go.WideShapes Go.ChangeAt Go.RowKit
set_option linter.unusedVariables false
set_option linter.unusedSimpArgs false
def RArr {α:Type} (k sz:Nat) (R:World→List Value→α→Prop):World→List Value→List α→Prop:=fun w cs xs=>
 cs.length=k*sz∧xs.length=k∧∀i x,xs[i]? = some x→R w ((cs.drop (i*sz)).take sz) x
theorem RArr.two {α:Type} {sz:Nat} {R:World→List Value→α→Prop} {w:World} {cs:List Value} {xs:List α} (h:RArr 2 sz R w cs xs):∃a b c1 c2,cs=c1++c2∧R w c1 a∧R w c2 b:=by
 obtain ⟨h1,h2,h3⟩:=h
 match xs,h2 with
 | [a,b],_=>
  refine ⟨a,b,cs.take sz,cs.drop sz,(List.take_append_drop _ _).symm,?_,?_⟩
  ·have:=h3 0 a rfl
   simpa using this
  ·have:=h3 1 b rfl
   rw [Nat.one_mul,List.take_of_length_le (by rw [List.length_drop];omega)] at this
   exact this
end Go.J
namespace Go.J
open Go.RowKit
set_option linter.unusedVariables false
set_option linter.unusedSimpArgs false
def VecW (t sz:Nat) (v:Value) (k:Nat) (xs:List Value) (lp:List (Nat × Obj)):Prop:=
 xs.length=k*sz∧((v=.slice none 0 0∧k=0∧lp=[])∨∃b c sp,v=.slice (some ⟨b,0,none⟩) k c∧lp=[(b,cb (xs++sp) t)]∧c*sz≤(xs++sp).length∧k≤c)
theorem Vec.weak {t sz:Nat} {v:Value} {k:Nat} {xs:List Value} {lp:List (Nat × Obj)} (h:Vec t sz v k xs lp):VecW t sz v k xs lp:=by
 refine ⟨h.1,?_⟩
 rcases h.2 with h | ⟨b,c,sp,h1,h2,h3,h4⟩
 ·exact .inl h
 ·exact .inr ⟨b,c,sp,h1,h2,Nat.le_of_eq h3.symm,h4⟩
theorem VecW.nil (t sz:Nat):VecW t sz (.slice none 0 0) 0 [] []:=(Vec.nil t sz).weak
theorem VecW.row {w0 w:World} {S:List Nat} {l lp:List (Nat × Obj)} {t sz:Nat} {v:Value} {k:Nat} {xs:List Value} (h:VecW t sz v k xs lp) (hw:St w0 S (lp++l) w):Row w v k xs:=by
 obtain ⟨hl,h⟩:=h
 rcases h with ⟨rfl,rfl,rfl⟩ | ⟨b,c,sp,rfl,rfl,_,hk⟩
 ·exact ⟨none,0,rfl,Nat.le_refl _,.inl (List.eq_nil_of_length_eq_zero (by simpa using hl))⟩
 ·exact Row.own (cs:=xs++sp) (tb:=t) (fr:=(0,0)) hw (.head _) (by simp) hk
theorem VecW.form {t sz:Nat} {v:Value} {k:Nat} {xs:List Value} {lp:List (Nat × Obj)} (h:VecW t sz v k xs lp):∃a c,v=.slice a k c∧k≤c:=by
 rcases h.2 with ⟨rfl,rfl,rfl⟩ | ⟨b,c,sp,rfl,rfl,_,hk⟩
 ·exact ⟨none,0,rfl,Nat.le_refl _⟩
 ·exact ⟨_,c,rfl,hk⟩
theorem VecW.cut {t sz:Nat} {a:Option Addr} {k c j:Nat} {xs:List Value} {lp:List (Nat × Obj)} (h:VecW t sz (.slice a k c) k xs lp) (hj:j≤k):VecW t sz (.slice a j j) j (xs.take (j*sz)) lp:=by
 have hl:=h.1
 have hle:j*sz≤xs.length:=by rw [hl];exact Nat.mul_le_mul_right _ hj
 refine ⟨by rw [List.length_take];omega,?_⟩
 rcases h.2 with ⟨h1,h2,h3⟩ | ⟨b,c',sp,h1,h2,h3,h4⟩
 ·simp only [Value.slice.injEq] at h1
  obtain ⟨rfl,_,_⟩:=h1
  obtain rfl:j=0:=by omega
  exact .inl ⟨rfl,rfl,h3⟩
 ·simp only [Value.slice.injEq] at h1
  obtain ⟨rfl,_,_⟩:=h1
  refine .inr ⟨b,j,xs.drop (j*sz)++sp,rfl,?_,?_,Nat.le_refl _⟩
  ·rw [h2,← List.append_assoc,List.take_append_drop]
  ·rw [← List.append_assoc,List.take_append_drop,List.length_append];omega
section
variable {P:Program} {ops:Array Oper} {Q:Exit→Act→World→Prop} {n:Nat} {e:Env} {I I':World→Prop} {rest:List Oper}
variable {d t:Nat} {p:String} {af:Array Edge} {x y z:Operand} {v v1 v2:Value} {w0:World} {S:List Nat} {l l' lp:List (Nat × Obj)}
end
theorem fG_length {α:Type} {c:α→List Value} {sz:Nat} (hc:∀x,(c x).length=sz):∀xs:List α,(xs.flatMap c).length=xs.length*sz
 | []=>by simp
 | x::xs=>by
  have:=fG_length hc xs
  simp only [List.flatMap_cons,List.length_append,List.length_cons,this,hc,Nat.add_mul]
  omega
theorem fG_at {α:Type} {c:α→List Value} {sz:Nat} (hc:∀x,(c x).length=sz):∀ {xs:List α} {i:Nat} {a:α},xs[i]? = some a→((xs.flatMap c).drop (i*sz)).take sz=c a
 | [],i,a,h=>by simp at h
 | x::xs,0,a,h=>by
  simp only [List.getElem?_cons_zero,Option.some.injEq] at h
  subst h
  rw [Nat.zero_mul,List.drop_zero,List.flatMap_cons,← hc x,List.take_left]
 | x::xs,i+1,a,h=>by
  have ih:=fG_at hc (xs:=xs) (i:=i) (by simpa using h)
  rw [Nat.add_mul,Nat.one_mul,Nat.add_comm,← List.drop_drop,List.flatMap_cons]
  have:(c x++List.flatMap c xs).drop sz=List.flatMap c xs:=by rw [← hc x,List.drop_left]
  rw [this]
  exact ih
theorem rowG_at {α:Type} {c:α→List Value} {sz:Nat} (hc:∀x,(c x).length=sz) {w:World} {b o k cc q i:Nat} {xs:List α} {a:α} (h:Row w (.slice (some ⟨b,o,none⟩) k cc) k (xs.flatMap c)) (hi:xs[i]? = some a) (hq:q=o+i*sz):Cells w b q (c a):=by
 have hl:i<xs.length:=(List.getElem?_eq_some_iff.1 hi).1
 have hlen:=fG_length hc xs
 intro j hj
 rw [hc a] at hj
 have h1:(i+1)*sz≤xs.length*sz:=Nat.mul_le_mul_right _ hl
 rw [Nat.add_mul,Nat.one_mul] at h1
 obtain ⟨b',o',c',hv,_,hcc⟩:=Row.some h (by omega)
 simp only [Value.slice.injEq,Option.some.injEq,Addr.mk.injEq] at hv
 obtain ⟨⟨rfl,rfl,_⟩,_,rfl⟩:=hv
 subst hq
 rw [Nat.add_assoc,hcc (i*sz+j) (by omega)]
 have e:=fG_at hc hi
 have:(c a)[j]? = (((xs.flatMap c).drop (i*sz)).take sz)[j]?:=by rw [e]
 rw [this,List.getElem?_take_of_lt hj,List.getElem?_drop]
theorem fG_cell {α:Type} {c:α→List Value} {sz:Nat} (hc:∀x,(c x).length=sz) {xs:List α} {i r:Nat} {a:α} (h:xs[i]? = some a) (hr:r<sz):(xs.flatMap c)[i*sz+r]? = (c a)[r]?:=by
 rw [← fG_at hc h,List.getElem?_take_of_lt hr,List.getElem?_drop]
end Go.J
namespace Go.J
open Go.ChangeShapes Go.WideShapes Go.ChangeAt Go.RowKit
set_option linter.unusedVariables false
set_option linter.unusedSimpArgs false
theorem rslG {α:Type} {c:α→List Value} {sz by_:Nat} (hc:∀x,(c x).length=sz) (hz:0<sz) {R:World→List Value→α→Prop} (hR:∀W cs x,R W cs x→cs=c x) {W:World} {s:Sl α} {cs:List Value} (h:RSl sz by_ R W cs s):Row W s.v s.xs.length (s.xs.flatMap c):=by
 obtain ⟨_,h1,_,h2⟩:=h
 refine ⟨s.a,s.c,rfl,h1,?_⟩
 rcases h2 with h2 | ⟨b,o,ha,h2⟩
 ·left;rw [h2];rfl
 ·right
  refine ⟨b,o,ha,fun j hj=>?_⟩
  rw [fG_length hc] at hj
  have hi:j / sz<s.xs.length:=Nat.div_lt_of_lt_mul (by rw [Nat.mul_comm];exact hj)
  obtain ⟨cs',hl,hcc,hr⟩:=h2 (j / sz) s.xs[j / sz] (List.getElem?_eq_getElem hi)
  have hr':cs'=c s.xs[j / sz]:=hR _ _ _ hr
  subst hr'
  have hm:=Nat.mod_lt j hz
  have:=hcc (j%sz) (by rw [hc];exact hm)
  have hdm:j / sz*sz+j%sz=j:=by rw [Nat.mul_comm];exact Nat.div_add_mod j sz
  rw [show o+j=o+j / sz*sz+j%sz by omega,this,← fG_cell hc (List.getElem?_eq_getElem hi) hm,hdm]
end Go.J
namespace Go.Proofs.Ytoaenmlhehcjfaa
open Go.J Go.RowKit
set_option linter.unusedVariables false
set_option linter.unusedSimpArgs false
set_option maxRecDepth 8000
def RId:World→List Value→IDV→Prop:=fun _ cs a=>cs=cI a
theorem dec_id:Decodes Try.prog 23 RId:=by
 intro H enc w fuel cs x h hn
 obtain ⟨bs,hl,rfl⟩:=dec_bytes Ty.ar23 Ty.u5 Ty.s5 Ty.s23 H enc w fuel cs x h hn
 exact ⟨idB bs,(cI_idB hl).symm⟩
structure ItX where
 key:IDV
 ver:WV
 v:Sl UInt8
def RVr:World→List Value→WV→Prop:=fun _ cs x=>cs=cV x∧okN x.n
def RIt:World→List Value→ItX→Prop:=fun W cs x=>cs=cT x.key x.ver x.v.v∧okN x.ver.n∧RSl 1 1 RU8 W [x.v.v] x.v
theorem fsVx:fieldsT Try.prog 25=some [(2,0,1),(23,1,16)]:=by kernel_rfl
theorem fsIx:fieldsT Try.prog 28=some [(23,0,16),(25,16,17),(26,33,1)]:=by kernel_rfl
theorem split2s {cs a b:List Value} {k m:Nat} (h1:(cs.drop 0).take k=a) (h2:(cs.drop k).take m=b) (hl:cs.length=k+m):cs=a++b:=by
 rw [List.drop_zero] at h1
 have h3:(cs.drop k).take m=cs.drop k:=List.take_of_length_le (by rw [List.length_drop];omega)
 rw [← h1,← h2,h3,List.take_append_drop]
theorem dec_ver:Decodes Try.prog 25 RVr:=by
 intro H enc w fuel cs x h hn
 have hl:=dec_len Ty.a25 Ty.s25 h
 obtain ⟨n,hi,wi⟩:=yo fsVx h hn 0 _ rfl (dec_int Ty.u2)
 obtain ⟨a,ha⟩:=yo fsVx h hn 1 _ rfl dec_id
 exact ⟨⟨n,a⟩,split2s (k:=1) (m:=16) hi ha hl,wi⟩
theorem dec_itx:Decodes Try.prog 28 RIt:=by
 intro H enc w fuel cs x h hn
 have hl:=dec_len Ty.a28 Ty.s28 h
 obtain ⟨a,ha⟩:=yo fsIx h hn 0 _ rfl dec_id
 obtain ⟨v,hv,wv⟩:=yo fsIx h hn 1 _ rfl dec_ver
 obtain ⟨s,hs⟩:=yo fsIx h hn 2 _ rfl (dec_slice Ty.el26 Ty.s5 Ty.b5 (by omega) (dec_u8 Ty.u5))
 have hd:∀(k j:Nat),(cs.drop k).drop j=cs.drop (k+j):=fun k j=>by rw [List.drop_drop]
 have e1:(cs.drop 33).take 1=[s.v]:=hs.1
 have q1:cs.drop 16=cV v++[s.v]:=split2s (k:=17) (m:=1) (by simpa using hv) (by rw [hd];exact e1) (by simp;omega)
 have q0:cs=cI a++cs.drop 16:=split2s (k:=16) (m:=18) ha (List.take_of_length_le (by simp;omega)) hl
 refine ⟨⟨a,v,s⟩,?_,wv,?_⟩
 ·show cs=cI a++cV v++[s.v]
  rw [q0,q1,List.append_assoc]
 ·have:=hs;rw [show ((cs.drop (_:Nat)).take _)=[s.v] from e1] at this;exact this
theorem reach_len1 {W:World} {s:Sl UInt8} {cs:List Value} (h:RSl 1 1 RU8 W cs s):s.xs.length≤140737488351232:=by
 have h1:=h.2.1
 have h2:=h.2.2.1
 have h3:reachBytes=140737488351232:=rfl
 omega
section
variable {P:Program} {ops:Array Oper} {Q:Exit→Act→World→Prop} {n:Nat} {e:Env} {I I':World→Prop} {rest:List Oper}
variable {d t yt:Nat} {p:String} {af:Array Edge} {x y z:Operand}
theorem J.quoU {ty:TypeId} {a b:Int} (hx:ev e x=some (.int .u64 a)) (hy:ev e y=some (.int .u64 b)) (h1:0≤a) (h2:a<18446744073709551616) (h3:0<b) (hd:Nat.blt d n=true)
  (h:J P ops Q n rest ((d,.int .u64 (a / b))::e) I):J P ops Q n (⟨some d,.binOp .quo ty x y yt,t,p,af,none⟩::rest) e I:=by
 refine J.qj (v:=.int .u64 (IntKind.u64.wrap (a.tdiv b))) hx hy ?_ hd ?_
 ·simp only [binI,if_true]
  rw [if_neg (by omega)]
 ·rw [Int.tdiv_eq_ediv_of_nonneg h1]
  have h4:0≤a / b:=Int.ediv_nonneg h1 (by omega)
  have h5:a / b≤a:=Int.ediv_le_self b h1
  rw [ze (by omega) (by omega)]
  exact h
theorem J.remU {ty:TypeId} {a b:Int} (hx:ev e x=some (.int .u64 a)) (hy:ev e y=some (.int .u64 b)) (h1:0≤a) (h3:0<b) (hd:Nat.blt d n=true)
  (h:J P ops Q n rest ((d,.int .u64 (a%b))::e) I):J P ops Q n (⟨some d,.binOp .rem ty x y yt,t,p,af,none⟩::rest) e I:=by
 refine J.qj (v:=.int .u64 (a.tmod b)) hx hy ?_ hd ?_
 ·simp only [binI,if_true]
  rw [if_neg (by omega)]
 ·rw [Int.tmod_eq_emod_of_nonneg h1];exact h
end
structure ByM where
 i:Nat
 m:Nat
 v:Value
 lp:List (Nat × Obj)
def lowB (n k:Nat):List UInt8:=(List.range k).map (fun i=>UInt8.ofNat (n / 256 ^ i))
theorem lowB_len (n k:Nat):(lowB n k).length=k:=by simp [lowB]
theorem lowB_snoc (n k:Nat):lowB n (k+1)=lowB n k++[UInt8.ofNat (n / 256 ^ k)]:=by
 unfold lowB
 rw [List.range_succ,List.map_append];rfl
theorem lowB_at (n k j:Nat) (h:j<k):(lowB n k)[j]'(by rw [lowB_len];exact h)=UInt8.ofNat (n / 256 ^ j):=by simp [lowB]
theorem wid_at {n k:Nat} (hn:n<18446744073709551616) (h:k≤wid n):0<n / 256 ^ k↔k<wid n:=by
 rcases Nat.lt_or_ge k (wid n) with h1 | h1
 ·have h2:=yR n
  have h3:=wid_lt (n:=n) (k:=k) (by omega)
  rw [Nat.pow_mul] at h3
  have h6:(2:Nat) ^ 8=256:=by decide
  rw [h6] at h3
  exact h3.symm
 ·have:k=wid n:=by omega
  subst this
  rw [Nat.div_eq_of_lt (wid_ub hn)]
  omega
theorem byte_low (m:Nat):Value.int .u8 (IntKind.u8.wrap (((m:Nat):Int)%256))=u8 (UInt8.ofNat m):=by
 rw [show ((m:Nat):Int)%256=((m%256:Nat):Int) by omega,conv_u8]
 congr 1
 apply UInt8.toNat_inj.1
 simp
theorem numB_step {n q:Nat} (h:q+1≤wid n):(numB n).take (1+(wid n - (q+1)))++[UInt8.ofNat (n / 256 ^ q)]=(numB n).take (1+(wid n - q)):=by
 have h1:=numB_snoc (n:=n) (i:=wid n - (q+1)) (by omega)
 rw [show wid n - (q+1)+1=wid n - q by omega,show wid n - 1 - (wid n - (q+1))=q by omega,Nat.pow_mul] at h1
 exact h1.symm
theorem rnum_spec (n:Nat) (w:World) (hn:n<18446744073709551616) :
  Calls Try.prog 41 [.int .u64 ((n:Nat):Int)].toArray w fun r w'=>∃x:Value × List (Nat × Obj),r=.returned x.1∧Vec 5 1 x.1 (numB n).length ((numB n).map u8) x.2∧St w [] x.2 w':=by
 refine qD (args:=[.int .u64 ((n:Nat):Int)]) (e:=[(0,.int .u64 ((n:Nat):Int))]) Try.func41 rfl rfl ⟨rfl,trivial⟩ (St.start w) ?_;refine JC.seq (fun K0 hK0=>?_);refine JC.region<|J.assign rfl rfl<|J.nil ?_;refine JX.qd (hK0 _ _ ?_);refine JC.seq (fun K1 hK1=>?_);refine JC.region<|J.assign rfl rfl<|J.nil ?_;refine JX.qd (hK1 _ _ ?_);refine JC.seq (fun K2 hK2=>?_);refine JC.block ?_
 refine JC.conseq (JC.cov (f:=(fun st=>[(0,.int .u64 ((st.m:Nat):Int)),(3,st.v)]) (⟨0,n,.slice none 0 0,[]⟩:ByM)) ⟨rfl,rfl,trivial⟩ (JC.loop (α:=ByM) (fun st=>[(0,.int .u64 ((st.m:Nat):Int)),(3,st.v)]) (fun st w'=>(st.i≤wid n∧st.m=n / 256 ^ st.i∧Vec 5 1 st.v (lowB n st.i).length ((lowB n st.i).map u8) st.lp)∧St w [] st.lp w') (fun st=>wid n - st.i) (⟨0,n,.slice none 0 0,[]⟩:ByM) (fun st=>?_))) (fun w hw=>⟨⟨Nat.zero_le _,by simp,Vec.nil _ _⟩,hw⟩)
 obtain ⟨k,nk,v3,l3⟩:=st
 refine JC.pr (fun hI=>?_)
 obtain ⟨hk,hnk,hv3⟩:=hI
 try simp only at hk hnk hv3 ⊢
 have hw8:=yR n
 have hll:=lowB_len n k
 have hle:nk≤n:=by rw [hnk];exact Nat.div_le_self _ _
 have hwa:=wid_at hn hk
 rw [← hnk] at hwa
 refine JC.seq (fun K3 hK3=>?_);refine JC.seq (fun K4 hK4=>?_);refine JC.region<|J.qe rfl rfl<|J.qj rfl rfl rfl rfl<|J.nil ?_;refine JX.qd (hK4 _ _ ?_);refine JC.qn rfl (fun h0=>?_) (fun h0=>?_)
 ·have hlt:k<wid n:=hwa.1 (by simp at h0;omega)
  refine JC.skip ?_;refine JX.qd (hK3 _ _ ?_);refine JC.seq (fun K5 hK5=>?_);refine JC.block<|JC.region<|J.qe rfl rfl<|J.qe rfl rfl<|J.remU rfl rfl (by omega) (by omega) rfl ?_;refine J.qF Ty.u81 Ty.u5 rfl rfl<|J.name 13 rfl (byte_low nk) ?_;refine J.za Ty.el26 Ty.s5 Ty.z5 rfl rfl rfl rfl rfl rfl rfl (fun b14=>?_);refine J.perm (l3++((b14,cb ([UInt8.ofNat nk].map u8) 5)::[])) zp ?_;refine J.qZ (lp:=l3) (xs:=(lowB n k).map u8) (ys:=([UInt8.ofNat nk]).map u8) (k:=(lowB n k).length) (m:=([UInt8.ofNat nk]).length) Ty.el26 Ty.s5 Ty.b5 Ty.z5 rfl (.inl ⟨5,Ty.u26⟩) rfl rfl hv3 (fun w1 hw=>.inl (Row.own (cs:=([UInt8.ofNat nk]).map u8) (tb:=5) (fr:=(0,0)) hw (List.mem_append_right _ (.head _)) (List.take_of_length_le (Nat.le_refl _)) (Nat.le_refl _))) (by rw [List.length_map,Nat.mul_one]) (zk _) (by simp only [List.length_singleton];omega) (by simp only [List.length_singleton];omega) rfl (fun v15 l15 hv15=>?_)
  rw [← List.map_append,← List.length_append] at hv15
  rw [hnk,← lowB_snoc] at hv15
  refine J.assign rfl rfl<|J.nil<|JX.qJ ?_;refine JX.qd (hK5 _ _ ?_);refine JC.region<|J.qe rfl rfl<|J.quoU rfl rfl (by omega) (by omega) (by omega) rfl ?_;refine J.name 9 rfl (show _=Value.int .u64 ((nk / 256:Nat):Int) from congrArg (Value.int .u64) (by omega)) ?_;refine J.assign rfl rfl<|J.nil<|JX.qd<|JX.qS (⟨k+1,nk / 256,v15,l15⟩:ByM) ?_ ?_ ?_
  ·simp only;omega
  ·exact ⟨rfl,rfl,trivial⟩
  ·exact fun w1 hw=>⟨⟨hlt,by simp only;rw [hnk,Nat.pow_succ,Nat.div_div_eq_div_mul],hv15⟩,hw.drop (List.sublist_append_left _ _)⟩
 ·have hke:k=wid n:=by
   rcases Nat.lt_or_ge k (wid n) with h9 | h9
   ·have:=hwa.2 h9
    simp at h0;omega
   ·omega
  subst hke
  obtain ⟨a3,c3,rfl,hc3⟩:=hv3.form
  have hw9:(lowB n (wid n)).length=wid n:=lowB_len n _
  refine JC.qX<|JX.qE<|JX.qE<|JX.qT ?_;refine JX.qd (hK2 _ _ ?_);refine JC.seq (fun K6 hK6=>?_);refine JC.region<|J.qe rfl rfl<|J.qK rfl Ty.u26 rfl rfl<|J.qF Ty.u3 Ty.u5 rfl rfl<|J.name 18 rfl (show _=u8 (UInt8.ofNat (wid n)) by rw [conv_u8,hw9]) ?_;refine J.za (cs:=[UInt8.ofNat (wid n)].map u8) Ty.el26 Ty.s5 Ty.z5 rfl rfl rfl rfl rfl rfl rfl (fun b19=>?_);refine J.assign rfl rfl<|J.nil ?_;refine JX.qd (hK6 _ _ ?_);refine JC.seq (fun K7 hK7=>?_);refine JC.seq (fun K8 hK8=>?_);refine JC.region<|J.qe rfl rfl<|J.qK rfl Ty.u26 rfl rfl<|J.zn rfl rfl (by omega) (by omega) rfl ?_;refine J.name 22 rfl (show _=Value.int .i64 (((wid n:Nat):Int) - 1) from congrArg (Value.int .i64) (by omega)) ?_;refine J.assign rfl rfl<|J.nil ?_;refine JX.qd (hK8 _ _ ?_);refine JC.block ?_
  refine JC.conseq (JC.cov (f:=(fun st=>[(3,.slice a3 (lowB n (wid n)).length c3),(4,st.v),(5,.int .i64 (((st.i:Nat):Int) - 1))]) (⟨wid n,.slice (some ⟨b19,0,none⟩) 1 1,[(b19,cb ([UInt8.ofNat (wid n)].map u8) 5)]⟩:ByS)) ⟨rfl,rfl,rfl,trivial⟩ (JC.loop (α:=ByS) (fun st=>[(3,.slice a3 (lowB n (wid n)).length c3),(4,st.v),(5,.int .i64 (((st.i:Nat):Int) - 1))]) (fun st w'=>(st.i≤wid n∧Vec 5 1 st.v (((numB n).take (1+(wid n - st.i)))).length ((((numB n).take (1+(wid n - st.i)))).map u8) st.lp)∧St w [] (st.lp++l3) w') (fun st=>st.i) (⟨wid n,.slice (some ⟨b19,0,none⟩) 1 1,[(b19,cb ([UInt8.ofNat (wid n)].map u8) 5)]⟩:ByS) (fun st=>?_))) (fun w hw=>⟨⟨Nat.le_refl _,by simp only;rw [Nat.sub_self];exact ⟨rfl,.inr ⟨b19,1,[],rfl,rfl,rfl,Nat.le_refl _⟩⟩⟩,hw⟩)
  obtain ⟨j,v4,l4⟩:=st
  refine JC.pr (fun hI=>?_)
  obtain ⟨hj,hv4⟩:=hI
  try simp only at hj hv4 ⊢
  have hnl:=yO n
  refine JC.seq (fun K9 hK9=>?_);refine JC.seq (fun K10 hK10=>?_);refine JC.region<|J.qe rfl rfl<|J.qj rfl rfl rfl rfl<|J.nil ?_;refine JX.qd (hK10 _ _ ?_);refine JC.qn rfl (fun h1=>?_) (fun h1=>?_)
  ·obtain ⟨q,rfl⟩:∃q,j=q+1:=⟨j - 1,by simp at h1;omega⟩
   obtain ⟨q3,sp3,rfl,rfl,hq3⟩:∃b sp,a3=some ⟨b,0,none⟩∧l3=[(b,cb ((lowB n (wid n)).map u8++sp) 5)]∧(lowB n (wid n)).length≤c3:=by
    rcases hv3.2 with ⟨_,h9,_⟩ | ⟨b,c,sp,h9,h10,_,h11⟩
    ·omega
    ·simp only [Value.slice.injEq] at h9
     obtain ⟨h9,-,rfl⟩:=h9
     exact ⟨b,sp,h9,h10,h11⟩
   refine JC.skip ?_;refine JX.qd (hK9 _ _ ?_);refine JC.seq (fun K11 hK11=>?_);refine JC.block<|JC.region<|J.qe rfl rfl<|J.qe rfl rfl<|J.qe rfl rfl<|J.name 29 rfl (show _=Value.int .i64 ((q:Nat):Int) from congrArg (Value.int .i64) (by omega)) ?_;refine J.qu Ty.el26 Ty.s5 rfl rfl (by omega) (by omega) rfl ?_;refine J.qw (v:=u8 (UInt8.ofNat (n / 256 ^ q))) Ty.a5 rfl (fun w1 hw=>(qB (hw.own (q3,cb ((lowB n (wid n)).map u8++sp3) 5) zm)).trans (by rw [at_u8 (by omega),lowB_at n _ q (by omega)])) rfl ?_;refine J.za (cs:=[UInt8.ofNat (n / 256 ^ q)].map u8) Ty.el26 Ty.s5 Ty.z5 rfl rfl rfl rfl rfl rfl rfl (fun b32=>?_);refine J.perm (l4++((b32,cb (([UInt8.ofNat (n / 256 ^ q)]).map u8) 5)::[(q3,cb ((lowB n (wid n)).map u8++sp3) 5)])) zp ?_;refine J.qZ (lp:=l4) (xs:=(((numB n).take (1+(wid n - (q+1))))).map u8) (ys:=([UInt8.ofNat (n / 256 ^ q)]).map u8) (k:=(((numB n).take (1+(wid n - (q+1))))).length) (m:=([UInt8.ofNat (n / 256 ^ q)]).length) Ty.el26 Ty.s5 Ty.b5 Ty.z5 rfl (.inl ⟨5,Ty.u26⟩) rfl rfl hv4 (fun w1 hw=>.inl (Row.own (cs:=([UInt8.ofNat (n / 256 ^ q)]).map u8) (tb:=5) (fr:=(0,0)) hw (List.mem_append_right _ (.head _)) (List.take_of_length_le (Nat.le_refl _)) (Nat.le_refl _))) (by rw [List.length_map,Nat.mul_one]) (zk _) (by simp only [List.length_singleton,List.length_take];omega) (by simp only [List.length_singleton,List.length_take];omega) rfl (fun v33 l33 hv33=>?_)
   rw [← List.map_append,← List.length_append] at hv33
   rw [numB_step hj] at hv33
   refine J.assign rfl rfl<|J.nil<|JX.qJ ?_;refine JX.qd (hK11 _ _ ?_);refine JC.region<|J.qe rfl rfl<|J.zn rfl rfl (by omega) (by omega) rfl ?_;refine J.name 26 rfl (show _=Value.int .i64 (((q:Nat):Int) - 1) from congrArg (Value.int .i64) (by omega)) ?_;refine J.assign rfl rfl<|J.nil<|JX.qd<|JX.qS (⟨q,v33,l33⟩:ByS) ?_ ?_ ?_
   ·simp only;omega
   ·exact ⟨rfl,rfl,rfl,trivial⟩
   ·exact fun w1 hw=>⟨⟨by simp only;omega,hv33⟩,(hw.perm (zp:List.Perm _ ((b32,cb ([UInt8.ofNat (n / 256 ^ q)].map u8) 5)::(l33++[(q3,cb ((lowB n (wid n)).map u8++sp3) 5)])))).drop (List.sublist_cons_self _ _)⟩
  ·have hj0:j=0:=by simp at h1;omega
   subst hj0
   rw [Nat.sub_zero,List.take_of_length_le (by rw [hnl];exact Nat.le_refl _)] at hv4
   refine JC.qX<|JX.qE<|JX.qE<|JX.qT ?_;refine JX.qd (hK7 _ _ ?_);refine JC.seq (fun K12 hK12=>?_);refine JC.region<|J.qe rfl rfl<|J.assign rfl rfl<|J.nil ?_;refine JX.qd (hK12 _ _ ?_);refine JC.qA ?_;refine JX.qL rfl rfl (fun w hw=>?_)
   exact ⟨(v4,l4),rfl,hv4,hw.drop (List.sublist_append_left _ _)⟩
theorem rtext_spec (v:Value) (bs:List UInt8) (w:World) (hr:Row w v bs.length (bs.map u8)) (hl:bs.length≤140737488351232) :
  Calls Try.prog 42 [v].toArray w fun r w'=>∃x:Value × List (Nat × Obj),r=.returned x.1∧Vec 5 1 x.1 (textB bs).length ((textB bs).map u8) x.2∧St w [] x.2 w':=by
 obtain ⟨a,c,rfl,hc,_⟩:=id hr
 refine qD (args:=[.slice a bs.length c]) (e:=[(0,.slice a bs.length c)]) Try.func42 rfl rfl ⟨rfl,trivial⟩ (St.start w) ?_;refine JC.seq (fun K0 hK0=>?_);refine JC.region<|J.assign rfl rfl<|J.nil ?_;refine JX.qd (hK0 _ _ ?_);refine JC.seq (fun K1 hK1=>?_);refine JC.region<|J.qe rfl rfl<|J.qK rfl Ty.u26 rfl rfl<|J.qF Ty.u3 Ty.u81 rfl rfl<|J.name 5 rfl (show _=Value.int .u64 ((bs.length:Nat):Int) from congrArg (Value.int .u64) (ze (by omega) (by omega))) ?_;refine J.perm ([]++([])) (.refl _) ?_;refine J.qO (α:=Value × List (Nat × Obj)) (V:=(·.1)) (Pr:=fun x=>Vec 5 1 x.1 (numB bs.length).length ((numB bs.length).map u8) x.2) (L:=(·.2)) (l1:=[]) Ty.bd41 rfl rfl (fun w1 hw=>rnum_spec bs.length w1 (by omega)) (fun x hv6=>?_)
 obtain ⟨v6,l6⟩:=x
 simp only at hv6 ⊢
 have hn9:=zM bs.length
 refine J.qe rfl rfl<|J.perm (l6++([])) zp ?_;refine J.qZ (lp:=l6) (xs:=(numB bs.length).map u8) (ys:=(bs).map u8) (k:=(numB bs.length).length) (m:=(bs).length) Ty.el26 Ty.s5 Ty.b5 Ty.z5 rfl (.inl ⟨5,Ty.u26⟩) rfl rfl hv6 (fun w1 hw=>.inl (hr.below (hw.drop (List.nil_sublist _)).below)) (by rw [List.length_map,Nat.mul_one]) (zk _) (by omega) (by omega) rfl (fun v8 l8 hv8=>?_)
 rw [← List.map_append,← List.length_append] at hv8
 refine J.assign rfl rfl<|J.nil ?_;refine JX.qd (hK1 _ _ ?_);refine JC.qA ?_;refine JX.qL rfl rfl (fun w hw=>?_)
 exact ⟨(v8,l8),rfl,hv8,by simpa using hw⟩
theorem newB_ne {a b:WV} (h:a.n≠b.n):newB a b=decide (b.n<a.n):=by
 unfold newB
 rw [decide_eq_false h,Bool.false_and,Bool.or_false]
theorem newB_eq {a b:WV} (h:a.n=b.n):newB a b=decide (valI b.who<valI a.who):=by
 unfold newB
 rw [decide_eq_true h,Bool.true_and,decide_eq_false (by omega),Bool.false_or]
theorem rnewer_spec (a b:WV) (w:World) :
  Calls Try.prog 14 [.agg (cV a).toArray,.agg (cV b).toArray].toArray w fun r w'=>r=.returned (.bool (newB a b))∧Bel w w':=by
 refine qD (args:=[.agg (cV a).toArray,.agg (cV b).toArray]) (e:=[(0,.agg (cV a).toArray),(1,.agg (cV b).toArray)]) Try.func14 rfl rfl ⟨rfl,rfl,trivial⟩ (St.start w) ?_;refine JC.seq (fun K0 hK0=>?_);refine JC.region ?_;refine J.box rfl rfl rfl (fun b2=>?_);refine J.box rfl rfl rfl (fun b3=>?_);refine J.assign rfl rfl<|J.nil ?_;refine JX.qd (hK0 _ _ ?_);refine JC.seq (fun K1 hK1=>?_);refine JC.seq (fun K2 hK2=>?_);refine JC.region<|J.qi Ty.fd25_0 rfl rfl<|J.qw (v:=.int .i64 a.n) Ty.a2 rfl (fun w1 hw=>by rw [qB (hw.own ((b2,cb (cV a) 25)) zm)];rfl) rfl ?_;refine J.qi Ty.fd25_0 rfl rfl<|J.qw (v:=.int .i64 b.n) Ty.a2 rfl (fun w1 hw=>by rw [qB (hw.own ((b3,cb (cV b) 25)) zm)];rfl) rfl ?_;refine J.qj rfl rfl rfl rfl<|J.nil ?_;refine JX.qd (hK2 _ _ ?_);refine JC.qn rfl (fun h0=>?_) (fun h0=>?_)
 ·have hne:a.n≠b.n:=by simpa using h0
  refine JC.seq (fun K3 hK3=>?_);refine JC.region<|J.qi Ty.fd25_0 rfl rfl<|J.qw (v:=.int .i64 a.n) Ty.a2 rfl (fun w1 hw=>by rw [qB (hw.own ((b2,cb (cV a) 25)) zm)];rfl) rfl ?_;refine J.qi Ty.fd25_0 rfl rfl<|J.qw (v:=.int .i64 b.n) Ty.a2 rfl (fun w1 hw=>by rw [qB (hw.own ((b3,cb (cV b) 25)) zm)];rfl) rfl ?_;refine J.qj rfl rfl rfl rfl<|J.name 14 rfl (show _=Value.bool (newB a b) from congrArg Value.bool (by rw [newB_ne hne])) ?_;refine J.assign rfl rfl<|J.nil ?_;refine JX.qd (hK3 _ _ ?_);refine JC.qA<|JX.qt ?_;refine JX.qL rfl rfl (fun w hw=>?_)
  exact ⟨rfl,(hw.drop (List.nil_sublist _)).below⟩
 ·have heq:a.n=b.n:=by simpa using h0
  refine JC.skip ?_;refine JX.qd (hK1 _ _ ?_);refine JC.seq (fun K4 hK4=>?_);refine JC.region<|J.qi Ty.fd25_1 rfl rfl<|J.qC (vs:=cI b.who) Ty.a23 Ty.s23 rfl rfl (fun w1 hw=>Cells.of_block (hw.own ((b3,cb (cV b) 25)) zm) rfl) rfl ?_;refine J.qi Ty.fd25_1 rfl rfl<|J.qC (vs:=cI a.who) Ty.a23 Ty.s23 rfl rfl (fun w1 hw=>Cells.of_block (hw.own ((b2,cb (cV a) 25)) zm) rfl) rfl ?_;refine J.qR (v:=.bool (newB a b)) (fun w1 w2 hw hb=>hw.step hb) Ty.bd21 rfl rfl (fun w1 hw=>by rw [newB_eq heq];exact less_spec b.who a.who w1) ?_;refine J.assign rfl rfl<|J.nil ?_;refine JX.qd (hK4 _ _ ?_);refine JC.qA ?_;refine JX.qL rfl rfl (fun w hw=>?_)
  exact ⟨rfl,(hw.drop (List.nil_sublist _)).below⟩
theorem rform_spec (xc:List Value) (key:IDV) (ver:WV) (bs:List UInt8) (sv:Value) (w:World) (hxc:xc=cT key ver sv) (hb:Row w sv bs.length (bs.map u8)) (hl:bs.length≤140737488351232) (hn0:0≤ver.n) (hn9:ver.n<9223372036854775808) :
  Calls Try.prog 12 [.agg xc.toArray].toArray w fun r w'=>∃x:Value × List (Nat × Obj),r=.returned x.1∧Vec 5 1 x.1 (formB ⟨key,ver,bs⟩).length ((formB ⟨key,ver,bs⟩).map u8) x.2∧St w [] x.2 w':=by
 obtain ⟨a,c,rfl,hc,_⟩:=id hb
 refine qD (args:=[.agg xc.toArray]) (e:=[(0,.agg xc.toArray)]) Try.func12 rfl rfl ⟨rfl,trivial⟩ (St.start w) ?_;refine JC.seq (fun K0 hK0=>?_);refine JC.region ?_;refine J.box rfl rfl rfl (fun b1=>?_);refine J.assign rfl rfl<|J.nil ?_;refine JX.qd (hK0 _ _ ?_);refine JC.seq (fun K1 hK1=>?_);refine JC.region ?_
 subst hxc
 refine J.perm ([]++((b1,cb (cT key ver (.slice a bs.length c)) 28)::[])) (.refl _) ?_;refine J.qO (α:=Value × List (Nat × Obj)) (V:=(·.1)) (Pr:=fun x=>Vec 5 1 x.1 (numB 2).length ((numB 2).map u8) x.2) (L:=(·.2)) (l1:=[]) Ty.bd41 rfl rfl (fun w1 hw=>rnum_spec 2 w1 (by omega)) (fun x hv4=>?_)
 obtain ⟨v4,l4⟩:=x
 simp only at hv4 ⊢
 have hn4:=zM 2
 refine J.assign rfl rfl<|J.nil ?_;refine JX.qd (hK1 _ _ ?_);refine JC.seq (fun K2 hK2=>?_);refine JC.region<|J.qe rfl rfl<|J.qi Ty.fd28_0 rfl rfl<|J.zK Ty.ar23 (by rw [Ty.s5];rfl) rfl rfl ?_;refine J.perm (l4++((b1,cb (cT key ver (.slice a bs.length c)) 28)::[])) zp ?_;refine J.qZ (lp:=l4) (xs:=((numB 2)).map u8) (ys:=(bI key).map u8) (k:=((numB 2)).length) (m:=(bI key).length) Ty.el26 Ty.s5 Ty.b5 Ty.z5 rfl (.inl ⟨5,Ty.u26⟩) rfl rfl hv4 (fun w1 hw=>.inl (Row.own (o:=0) (cs:=(cT key ver (.slice a bs.length c))) (tb:=28) (fr:=(0,0)) hw zm rfl (Nat.le_refl _))) (by rw [List.length_map,Nat.mul_one]) (zk _) (by simp only [List.length_append,zG];omega) (by simp only [List.length_append,zG];omega) rfl (fun v8 l8 hv8=>?_)
 rw [← List.map_append,← List.length_append] at hv8
 refine J.assign rfl rfl<|J.nil ?_;refine JX.qd (hK2 _ _ ?_);refine JC.seq (fun K3 hK3=>?_);refine JC.region<|J.qe rfl rfl<|J.qi Ty.fd28_1 rfl rfl<|J.qi Ty.fd25_0 rfl rfl<|J.qw (v:=.int .i64 ver.n) Ty.a2 rfl (fun w1 hw=>by rw [qB (hw.own ((b1,cb (cT key ver (.slice a bs.length c)) 28)) zm)];rfl) rfl ?_;refine J.qF Ty.u2 Ty.u81 rfl rfl<|J.name 13 rfl (show _=Value.int .u64 ((ver.n.toNat:Nat):Int) from congrArg (Value.int .u64) ((ze hn0 (by omega)).trans (by omega))) ?_;refine J.perm ([]++(l8++[(b1,cb (cT key ver (.slice a bs.length c)) 28)])) (.refl _) ?_;refine J.qO (α:=Value × List (Nat × Obj)) (V:=(·.1)) (Pr:=fun x=>Vec 5 1 x.1 (numB ver.n.toNat).length ((numB ver.n.toNat).map u8) x.2) (L:=(·.2)) (l1:=[]) Ty.bd41 rfl rfl (fun w1 hw=>rnum_spec ver.n.toNat w1 (by omega)) (fun x hv14=>?_)
 obtain ⟨v14,l14⟩:=x
 simp only at hv14 ⊢
 have hn14:=zM ver.n.toNat
 refine J.perm (l8++(l14++[(b1,cb (cT key ver (.slice a bs.length c)) 28)])) zp ?_;refine J.qZ (lp:=l8) (xs:=((numB 2++bI key)).map u8) (ys:=(numB ver.n.toNat).map u8) (k:=((numB 2++bI key)).length) (m:=(numB ver.n.toNat).length) Ty.el26 Ty.s5 Ty.b5 Ty.z5 rfl (.inl ⟨5,Ty.u26⟩) rfl rfl hv8 (fun w1 hw=>.inl (hv14.row (l:=l8++[(b1,cb (cT key ver (.slice a bs.length c)) 28)]) (hw.perm zp))) (by rw [List.length_map,Nat.mul_one]) (zk _) (by simp only [List.length_append,zG];omega) (by simp only [List.length_append,zG];omega) rfl (fun v15 l15 hv15=>?_)
 rw [← List.map_append,← List.length_append] at hv15
 refine J.perm (l14++(l15++[(b1,cb (cT key ver (.slice a bs.length c)) 28)])) zp<|J.sub (List.sublist_append_right _ _)<|J.assign rfl rfl<|J.nil ?_;refine JX.qd (hK3 _ _ ?_);refine JC.seq (fun K4 hK4=>?_);refine JC.region<|J.qe rfl rfl<|J.qi Ty.fd28_1 rfl rfl<|J.qi Ty.fd25_1 rfl rfl<|J.zK Ty.ar23 (by rw [Ty.s5];rfl) rfl rfl ?_;refine J.perm (l15++((b1,cb (cT key ver (.slice a bs.length c)) 28)::[])) zp ?_;refine J.qZ (lp:=l15) (xs:=((numB 2++bI key++numB ver.n.toNat)).map u8) (ys:=(bI ver.who).map u8) (k:=((numB 2++bI key++numB ver.n.toNat)).length) (m:=(bI ver.who).length) Ty.el26 Ty.s5 Ty.b5 Ty.z5 rfl (.inl ⟨5,Ty.u26⟩) rfl rfl hv15 (fun w1 hw=>.inl (Row.own (o:=17) (cs:=(cT key ver (.slice a bs.length c))) (tb:=28) (fr:=(0,0)) hw zm rfl (Nat.le_refl _))) (by rw [List.length_map,Nat.mul_one]) (zk _) (by simp only [List.length_append,zG];omega) (by simp only [List.length_append,zG];omega) rfl (fun v20 l20 hv20=>?_)
 rw [← List.map_append,← List.length_append] at hv20
 refine J.assign rfl rfl<|J.nil ?_;refine JX.qd (hK4 _ _ ?_);refine JC.seq (fun K5 hK5=>?_);refine JC.region<|J.qe rfl rfl<|J.qi Ty.fd28_2 rfl rfl<|J.qw (v:=.slice a bs.length c) Ty.a26 rfl (fun w1 hw=>by rw [qB (hw.own ((b1,cb (cT key ver (.slice a bs.length c)) 28)) zm)];rfl) rfl ?_;refine J.perm ([]++(l20++[(b1,cb (cT key ver (.slice a bs.length c)) 28)])) (.refl _) ?_;refine J.qO (α:=Value × List (Nat × Obj)) (V:=(·.1)) (Pr:=fun x=>Vec 5 1 x.1 (textB bs).length ((textB bs).map u8) x.2) (L:=(·.2)) (l1:=[]) Ty.bd42 rfl rfl (fun w1 hw=>rtext_spec (.slice a bs.length c) bs w1 (hb.below (hw.drop (List.nil_sublist _)).below) hl) (fun x hv24=>?_)
 obtain ⟨v24,l24⟩:=x
 simp only at hv24 ⊢
 have htl:=textB_le bs
 refine J.perm (l20++(l24++[(b1,cb (cT key ver (.slice a bs.length c)) 28)])) zp ?_;refine J.qZ (lp:=l20) (xs:=((numB 2++bI key++numB ver.n.toNat++bI ver.who)).map u8) (ys:=(textB bs).map u8) (k:=((numB 2++bI key++numB ver.n.toNat++bI ver.who)).length) (m:=(textB bs).length) Ty.el26 Ty.s5 Ty.b5 Ty.z5 rfl (.inl ⟨5,Ty.u26⟩) rfl rfl hv20 (fun w1 hw=>.inl (hv24.row (l:=l20++[(b1,cb (cT key ver (.slice a bs.length c)) 28)]) (hw.perm zp))) (by rw [List.length_map,Nat.mul_one]) (zk _) (by simp only [List.length_append,zG];omega) (by simp only [List.length_append,zG];omega) rfl (fun v25 l25 hv25=>?_)
 rw [← List.map_append,← List.length_append] at hv25
 refine J.assign rfl rfl<|J.nil ?_;refine JX.qd (hK5 _ _ ?_);refine JC.qA ?_;refine JX.qL rfl rfl (fun w hw=>?_)
 exact ⟨(v25,l25),rfl,hv25,hw.drop (List.sublist_append_left _ _)⟩
theorem okN_lt {n:Int} (h:okN n) : -9223372036854775808≤n∧n<9223372036854775808:=by
 have h0:(Lit.int .i64 n).wf=true:=h
 simp only [Lit.wf] at h0
 rw [Bool.and_eq_true] at h0
 have h1:IntKind.i64.min = -9223372036854775808:=by decide
 have h2:IntKind.i64.max=9223372036854775807:=by decide
 have h3:=of_decide_eq_true h0.1
 have h4:=of_decide_eq_true h0.2
 omega
theorem set_mapB (l:List UInt8) (k:Nat) (x:UInt8):setMany (l.map u8) (0+k) [u8 x]=(l.set k x).map u8:=by
 simp only [setMany,Nat.zero_add,List.map_set]
def partI (bs:List UInt8) (at_ i:Nat):List UInt8:=(bs.drop at_).take i++List.replicate (16 - i) 0
theorem partI_set {bs:List UInt8} {at_ i:Nat} (h:at_+i<bs.length) (hi:i<16):(partI bs at_ i).set i (bs[at_+i])=partI bs at_ (i+1):=by
 unfold partI
 have hl:((bs.drop at_).take i).length=i:=by rw [List.length_take,List.length_drop];omega
 rw [List.set_append_right _ _ (by omega),hl,Nat.sub_self,take_add_one (by rw [List.length_drop];omega),show 16 - i=(16 - (i+1))+1 by omega,List.replicate_succ,List.set_cons_zero,List.append_assoc,List.getElem_drop]
 rfl
theorem partI_len (bs:List UInt8) {at_ i:Nat} (hi:i≤16) (h:at_+i≤bs.length):(partI bs at_ i).length=16:=by
 unfold partI
 rw [List.length_append,List.length_take,List.length_drop,List.length_replicate];omega
theorem partI_all (bs:List UInt8) (at_:Nat):partI bs at_ 16=(bs.drop at_).take 16:=by
 unfold partI
 rw [Nat.sub_self,List.replicate_zero,List.append_nil]
theorem yU (v : Value) (bs : List UInt8) (at_ : Nat) (w : World) (hr : Row w v bs.length (bs.map u8)) (hl : bs.length ≤ 100000) (hal : at_ ≤ 1000000) :
    Calls Try.prog 80 [v, .int .i64 ((at_ : Nat) : Int)].toArray w fun r w' => r = .returned (.tuple #[.int .u64 (((getN bs at_).1 : Nat) : Int), .int .i64 (((getN bs at_).2.1 : Nat) : Int), .int .i64 (getN bs at_).2.2]) ∧ Bel w w' := by
  obtain ⟨a, c, rfl, hc, hra⟩ := id hr
  refine qD (args := [.slice a bs.length c, .int .i64 ((at_ : Nat) : Int)]) (e := [(0, .slice a bs.length c), (1, .int .i64 ((at_ : Nat) : Int))]) Try.func80 rfl rfl ⟨rfl, rfl, trivial⟩ (St.start w) ?_
  refine JC.seq (fun K0 hK0 => ?_)
  refine JC.region ?_
  refine J.assign rfl rfl ?_
  refine J.assign rfl rfl ?_
  refine J.assign rfl rfl ?_
  refine J.nil ?_
  refine JX.qd (hK0 _ _ ?_)
  refine JC.seq (fun K1 hK1 => ?_)
  refine JC.seq (fun K2 hK2 => ?_)
  refine JC.region ?_
  refine J.qe rfl rfl ?_
  refine J.qj rfl rfl rfl rfl ?_
  refine J.name 12 rfl (show _ = Value.bool false by simp) ?_
  refine J.qe rfl rfl ?_
  first | refine J.skip rfl rfl rfl rfl rfl ?_ | refine J.qh rfl rfl rfl rfl ?_ | (refine J.qf rfl rfl rfl ?_; refine J.qe rfl rfl ?_)
  first | refine J.skip rfl rfl rfl rfl rfl ?_ | refine J.qh rfl rfl rfl rfl ?_ | (refine J.qf rfl rfl rfl ?_; refine J.qe rfl rfl ?_)
  first | refine J.skip rfl rfl rfl rfl rfl ?_ | refine J.qh rfl rfl rfl rfl ?_ | (refine J.qf rfl rfl rfl ?_; refine J.qK rfl Ty.u26 rfl rfl ?_)
  first | refine J.skip rfl rfl rfl rfl rfl ?_ | refine J.qh rfl rfl rfl rfl ?_ | (refine J.qf rfl rfl rfl ?_; refine J.qj rfl rfl rfl rfl ?_)
  (first | refine J.qr rfl rfl rfl ?_ | refine J.qs rfl rfl rfl ?_)
  refine J.nil ?_
  refine JX.qd (hK2 _ _ ?_)
  refine JC.qn rfl (fun h0 => ?_) (fun h0 => ?_)
  · skip
    have hg : getN bs at_ = (0, 0, 1) := by unfold getN; rw [if_pos (by simp at h0; omega)]
    refine JC.seq (fun K3 hK3 => ?_)
    refine JC.region ?_
    refine J.assign rfl rfl ?_
    refine J.assign rfl rfl ?_
    refine J.assign rfl rfl ?_
    refine J.nil ?_
    refine JX.qd (hK3 _ _ ?_)
    refine JC.qA ?_
    refine JX.qt ?_
    refine JX.q5 rfl rfl rfl rfl (fun w1 hw => ?_)
    exact ⟨by rw [hg] <;> rfl, hw.below⟩
  · skip
    have hal2 : at_ ≤ bs.length := by simp at h0; omega
    have hr1 := row_subB hr rfl (i := at_) (j := bs.length) hal2 (Nat.le_refl _)
    obtain ⟨q1, hq1⟩ : ∃ q, (if c = at_ then a else a.map (·.add (at_ * 1))) = q := ⟨_, rfl⟩
    rw [hq1, List.take_of_length_le (by rw [List.length_drop]; exact Nat.le_refl _)] at hr1
    refine JC.skip ?_
    refine JX.qd (hK1 _ _ ?_)
    refine JC.seq (fun K4 hK4 => ?_)
    refine JC.region ?_
    refine J.qe rfl rfl ?_
    refine J.qe rfl rfl ?_
    refine J.zx (i := at_) (j := bs.length) Ty.el26 Ty.s5 rfl rfl rfl (by simp [bnd]) rfl (by omega) (by omega) (by omega) rfl ?_
    refine J.name 21 rfl (show _ = Value.slice q1 (bs.length - at_) (c - at_) by rw [hq1]) ?_
    refine J.assign rfl rfl ?_
    refine J.nil ?_
    refine JX.qd (hK4 _ _ ?_)
    refine JC.seq (fun K5 hK5 => ?_)
    refine JC.seq (fun K6 hK6 => ?_)
    refine JC.region ?_
    refine J.qe rfl rfl ?_
    refine J.qK rfl Ty.u26 rfl rfl ?_
    refine J.qj rfl rfl rfl rfl ?_
    refine J.nil ?_
    refine JX.qd (hK6 _ _ ?_)
    refine JC.qn rfl (fun h1 => ?_) (fun h1 => ?_)
    · skip
      have hg : getN bs at_ = (0, 0, 3) := by unfold getN; rw [if_neg (by omega), if_pos (by simp at h1; omega)]
      refine JC.seq (fun K7 hK7 => ?_)
      refine JC.region ?_
      refine J.assign rfl rfl ?_
      refine J.assign rfl rfl ?_
      refine J.assign rfl rfl ?_
      refine J.nil ?_
      refine JX.qd (hK7 _ _ ?_)
      refine JC.qA ?_
      refine JX.qt ?_
      refine JX.q5 rfl rfl rfl rfl (fun w1 hw => ?_)
      exact ⟨by rw [hg] <;> rfl, hw.below⟩
    · skip
      have hat : at_ < bs.length := by simp at h1; omega
      obtain ⟨q7, o7, c7, hv7, hc7, hcl7⟩ := hr1.some (by rw [List.length_map, List.length_drop]; omega)
      simp only [Value.slice.injEq] at hv7
      obtain ⟨rfl, -, -⟩ := hv7
      obtain ⟨x0, hx0⟩ : ∃ x, (bs.drop at_)[0]'(by rw [List.length_drop]; omega) = x := ⟨_, rfl⟩
      have hx0k : (bs.getD at_ 0).toNat = x0.toNat := by rw [← hx0, List.getElem_drop, List.getD_eq_getElem?_getD, List.getElem?_eq_getElem (by omega)]; rfl
      have hx8 := UInt8.toNat_lt x0
      obtain ⟨kk, hkk⟩ : ∃ k, x0.toNat = k := ⟨_, rfl⟩
      refine JC.skip ?_
      refine JX.qd (hK5 _ _ ?_)
      refine JC.seq (fun K8 hK8 => ?_)
      refine JC.region ?_
      refine J.qe rfl rfl ?_
      refine J.qu Ty.el26 Ty.s5 rfl rfl (by omega) (by omega) rfl ?_
      refine J.zw (v := u8 ((bs.drop at_)[0]'(by rw [List.length_drop]; omega))) Ty.a5 rfl (hcl7.at_u8 (by rw [List.length_drop]; omega) rfl) (by simp) rfl ?_
      rw [hx0]
      refine J.qF Ty.u5 Ty.u3 rfl rfl ?_
      refine J.name 28 rfl (congrArg (Value.int .i64) (show _ = ((kk : Nat) : Int) by rw [← hkk]; exact qV (by omega) (by omega))) ?_
      refine J.assign rfl rfl ?_
      refine J.nil ?_
      refine JX.qd (hK8 _ _ ?_)
      refine JC.seq (fun K9 hK9 => ?_)
      refine JC.seq (fun K10 hK10 => ?_)
      refine JC.region ?_
      refine J.qe rfl rfl ?_
      refine J.qj rfl rfl rfl rfl ?_
      refine J.nil ?_
      refine JX.qd (hK10 _ _ ?_)
      refine JC.qn rfl (fun h2 => ?_) (fun h2 => ?_)
      · skip
        have hg : getN bs at_ = (0, 0, 2) := by unfold getN; rw [if_neg (by omega), if_neg (by omega), if_pos (by rw [hx0k]; simp at h2; omega)]
        refine JC.seq (fun K11 hK11 => ?_)
        refine JC.region ?_
        refine J.assign rfl rfl ?_
        refine J.assign rfl rfl ?_
        refine J.assign rfl rfl ?_
        refine J.nil ?_
        refine JX.qd (hK11 _ _ ?_)
        refine JC.qA ?_
        refine JX.qt ?_
        refine JX.q5 rfl rfl rfl rfl (fun w1 hw => ?_)
        exact ⟨by rw [hg] <;> rfl, hw.below⟩
      · skip
        have h8 : x0.toNat ≤ 8 := by simp at h2; omega
        refine JC.skip ?_
        refine JX.qd (hK9 _ _ ?_)
        refine JC.seq (fun K12 hK12 => ?_)
        refine JC.seq (fun K13 hK13 => ?_)
        refine JC.region ?_
        refine J.qe rfl rfl ?_
        refine J.qK rfl Ty.u26 rfl rfl ?_
        refine J.qe rfl rfl ?_
        refine J.qj rfl rfl rfl rfl ?_
        refine J.nil ?_
        refine JX.qd (hK13 _ _ ?_)
        refine JC.qn rfl (fun h3 => ?_) (fun h3 => ?_)
        · skip
          have hg : getN bs at_ = (0, 0, 3) := by unfold getN; rw [if_neg (by omega), if_neg (by omega), if_neg (by omega), if_pos (by rw [hx0k]; simp at h3; omega)]
          refine JC.seq (fun K14 hK14 => ?_)
          refine JC.region ?_
          refine J.assign rfl rfl ?_
          refine J.assign rfl rfl ?_
          refine J.assign rfl rfl ?_
          refine J.nil ?_
          refine JX.qd (hK14 _ _ ?_)
          refine JC.qA ?_
          refine JX.qt ?_
          refine JX.q5 rfl rfl rfl rfl (fun w1 hw => ?_)
          exact ⟨by rw [hg] <;> rfl, hw.below⟩
        · skip
          have hsh : x0.toNat ≤ bs.length - at_ - 1 := by simp at h3; omega
          have hxl : ((bs.drop (at_ + 1)).take kk).length = kk := by rw [List.length_take, List.length_drop]; omega
          refine JC.skip ?_
          refine JX.qd (hK12 _ _ ?_)
          refine JC.seq (fun K15 hK15 => ?_)
          refine JC.region ?_
          refine J.assign rfl rfl ?_
          refine J.nil ?_
          refine JX.qd (hK15 _ _ ?_)
          refine JC.seq (fun K16 hK16 => ?_)
          refine JC.seq (fun K17 hK17 => ?_)
          refine JC.region ?_
          refine J.assign rfl rfl ?_
          refine J.nil ?_
          refine JX.qd (hK17 _ _ ?_)
          refine JC.block ?_
          refine JC.conseq (JC.cov (f := (fun j => [(1, .int .i64 ((at_ : Nat) : Int)), (7, .slice (some ⟨q7, o7, none⟩) (bs.length - at_) (c - at_)), (8, .int .i64 ((kk : Nat) : Int)), (9, .int .u64 ((num ((bs.drop (at_ + 1)).take j) : Nat) : Int)), (10, .int .i64 ((j + 1 : Nat) : Int))]) 0) ⟨rfl, rfl, rfl, rfl, rfl, trivial⟩ (JC.loop (α := Nat) (fun j => [(1, .int .i64 ((at_ : Nat) : Int)), (7, .slice (some ⟨q7, o7, none⟩) (bs.length - at_) (c - at_)), (8, .int .i64 ((kk : Nat) : Int)), (9, .int .u64 ((num ((bs.drop (at_ + 1)).take j) : Nat) : Int)), (10, .int .i64 ((j + 1 : Nat) : Int))]) (fun j w' => (j ≤ kk ∧ (1 ≤ j → ¬ (bs.getD (at_ + 1) 0).toNat = 0)) ∧ St w [] [] w') (fun j => kk - j) 0 (fun j => ?_))) (fun w hw => ⟨⟨Nat.zero_le _, fun h => (by omega)⟩, hw⟩)
          refine JC.pr (fun hI => ?_)
          obtain ⟨hj, hb1⟩ := hI
          refine JC.seq (fun K18 hK18 => ?_)
          refine JC.seq (fun K19 hK19 => ?_)
          refine JC.region ?_
          refine J.qe rfl rfl ?_
          refine J.qe rfl rfl ?_
          refine J.qj rfl rfl rfl rfl ?_
          refine J.nil ?_
          refine JX.qd (hK19 _ _ ?_)
          refine JC.qn rfl (fun h4 => ?_) (fun h4 => ?_)
          · skip
            have hjl : j < kk := by simp at h4; omega
            refine JC.skip ?_
            refine JX.qd (hK18 _ _ ?_)
            refine JC.seq (fun K20 hK20 => ?_)
            refine JC.block ?_
            refine JC.seq (fun K21 hK21 => ?_)
            refine JC.seq (fun K22 hK22 => ?_)
            rcases Nat.eq_zero_or_pos j with hz0 | hz0
            · skip
              refine JC.region ?_
              refine J.qe rfl rfl ?_
              refine J.qj rfl rfl rfl rfl ?_
              refine J.name 41 rfl (show _ = Value.bool true by simp; omega) ?_
              refine J.qe rfl rfl ?_
              first | refine J.skip rfl rfl rfl rfl rfl ?_ | refine J.qh rfl rfl rfl rfl ?_ | (refine J.qf rfl rfl rfl ?_; refine J.qe rfl rfl ?_)
              refine J.qf rfl rfl rfl ?_
              refine J.qu Ty.el26 Ty.s5 rfl rfl (by omega) (by omega) rfl ?_
              refine J.qf rfl rfl rfl ?_
              refine J.zw (v := u8 ((bs.drop at_)[1]'(by rw [List.length_drop]; omega))) Ty.a5 rfl (hcl7.at_u8 (by rw [List.length_drop]; omega) (by omega)) (by simp) rfl ?_
              obtain ⟨x1, hx1⟩ : ∃ x, (bs.drop at_)[1]'(by rw [List.length_drop]; omega) = x := ⟨_, rfl⟩
              rw [hx1]
              have hk1 : (bs.getD (at_ + 1) 0).toNat = x1.toNat := by rw [← hx1, List.getElem_drop, List.getD_eq_getElem?_getD, List.getElem?_eq_getElem (by omega)]; rfl
              refine J.qf rfl rfl rfl ?_
              refine J.qj rfl rfl rfl rfl ?_
              refine J.name 46 rfl (show _ = Value.bool (decide (x1.toNat = 0)) from congrArg Value.bool (by rw [Bool.eq_iff_iff]; simp <;> omega)) ?_
              (first | refine J.qr rfl rfl rfl ?_ | refine J.qs rfl rfl rfl ?_)
              refine J.nil ?_
              refine JX.qd (hK22 _ _ ?_)
              refine JC.qn rfl (fun h5 => ?_) (fun h5 => ?_)
              · skip
                have hg : getN bs at_ = (0, 0, 2) := getN_bad hat h8 hsh (by omega) (hk1.trans (by simpa using h5)) hx0k
                refine JC.seq (fun K23 hK23 => ?_)
                refine JC.region ?_
                refine J.assign rfl rfl ?_
                refine J.assign rfl rfl ?_
                refine J.assign rfl rfl ?_
                refine J.nil ?_
                refine JX.qd (hK23 _ _ ?_)
                refine JC.qA ?_
                refine JX.qt ?_
                refine JX.qH ?_
                refine JX.qt ?_
                refine JX.qt ?_
                refine JX.qH ?_
                refine JX.qt ?_
                refine JX.q5 rfl rfl rfl rfl (fun w1 hw => ?_)
                exact ⟨by rw [hg] <;> rfl, hw.below⟩
              · skip
                have hb2 : ¬ (bs.getD (at_ + 1) 0).toNat = 0 := fun e => by have e2 := hk1.symm.trans e; simp [e2] at h5
                refine JC.skip ?_
                refine JX.qd (hK21 _ _ ?_)
                refine JC.region ?_
                refine J.qe rfl rfl ?_
                refine J.qj rfl rfl rfl rfl ?_
                refine J.qe rfl rfl ?_
                refine J.qe rfl rfl ?_
                refine J.qu Ty.el26 Ty.s5 rfl rfl (by omega) (by omega) rfl ?_
                refine J.zw (v := u8 ((bs.drop at_)[j + 1]'(by rw [List.length_drop]; omega))) Ty.a5 rfl (hcl7.at_u8 (by rw [List.length_drop]; omega) (by omega)) (by simp) rfl ?_
                rw [show (bs.drop at_)[j + 1]'(by rw [List.length_drop]; omega) = ((bs.drop (at_ + 1)).take kk)[j]'(by omega) by rw [List.getElem_take, List.getElem_drop, List.getElem_drop]; congr 1; omega]
                refine J.qF Ty.u5 Ty.u81 rfl rfl ?_
                refine J.qj rfl rfl rfl rfl ?_
                refine J.name 55 rfl (show _ = Value.int .u64 ((num ((bs.drop (at_ + 1)).take (j + 1)) : Nat) : Int) by
                  have e1 : (bs.drop (at_ + 1)).take j = ((bs.drop (at_ + 1)).take kk).take j := by rw [List.take_take, Nat.min_eq_left (by omega)]
                  have e2 : (bs.drop (at_ + 1)).take (j + 1) = ((bs.drop (at_ + 1)).take kk).take (j + 1) := by rw [List.take_take, Nat.min_eq_left (by omega)]
                  rw [e1, e2, yN (by omega)]
                  exact muladdS_u64 _ _ (UInt8.toNat_lt _) (num_step (by omega) (by omega))) ?_
                refine J.assign rfl rfl ?_
                refine J.nil ?_
                refine JX.qJ ?_
                refine JX.qd (hK20 _ _ ?_)
                refine JC.region ?_
                refine J.qe rfl rfl ?_
                refine J.qG rfl rfl (by omega) (by omega) rfl ?_
                refine J.name 39 rfl (show _ = Value.int .i64 ((j + 1 + 1 : Nat) : Int) from congrArg (Value.int .i64) (by omega)) ?_
                refine J.assign rfl rfl ?_
                refine J.nil ?_
                refine JX.qd ?_
                refine JX.qS (j + 1) ?_ ?_ ?_
                · omega
                · exact ⟨rfl, rfl, rfl, rfl, rfl, trivial⟩
                · exact fun w1 hw => ⟨⟨hjl, fun _ => hb2⟩, hw⟩
            · skip
              have hb2 := hb1 hz0
              refine JC.region ?_
              refine J.qe rfl rfl ?_
              refine J.qj rfl rfl rfl rfl ?_
              refine J.name 41 rfl (show _ = Value.bool false by simp; omega) ?_
              refine J.qe rfl rfl ?_
              first | refine J.skip rfl rfl rfl rfl rfl ?_ | refine J.qh rfl rfl rfl rfl ?_ | (refine J.qf rfl rfl rfl ?_; refine J.qe rfl rfl ?_)
              first | refine J.skip rfl rfl rfl rfl rfl ?_ | refine J.qh rfl rfl rfl rfl ?_ | (refine J.qf rfl rfl rfl ?_; refine J.qu Ty.el26 Ty.s5 rfl rfl (by omega) (by omega) rfl ?_)
              first | refine J.skip rfl rfl rfl rfl rfl ?_ | refine J.qh rfl rfl rfl rfl ?_ | (refine J.qf rfl rfl rfl ?_; refine J.qQ Ty.a5 rfl zm (by exact rfl) rfl ?_)
              first | refine J.skip rfl rfl rfl rfl rfl ?_ | refine J.qh rfl rfl rfl rfl ?_ | (refine J.qf rfl rfl rfl ?_; refine J.qj rfl rfl rfl rfl ?_)
              (first | refine J.qr rfl rfl rfl ?_ | refine J.qs rfl rfl rfl ?_)
              refine J.nil ?_
              refine JX.qd (hK22 _ _ ?_)
              first | refine JC.qI rfl ?_ | refine JC.qn rfl (fun h => by first | (exfalso; simp at h; omega) | (simp at h)) (fun _ => ?_)
              refine JC.skip ?_
              refine JX.qd (hK21 _ _ ?_)
              refine JC.region ?_
              refine J.qe rfl rfl ?_
              refine J.qj rfl rfl rfl rfl ?_
              refine J.qe rfl rfl ?_
              refine J.qe rfl rfl ?_
              refine J.qu Ty.el26 Ty.s5 rfl rfl (by omega) (by omega) rfl ?_
              refine J.zw (v := u8 ((bs.drop at_)[j + 1]'(by rw [List.length_drop]; omega))) Ty.a5 rfl (hcl7.at_u8 (by rw [List.length_drop]; omega) (by omega)) (by simp) rfl ?_
              rw [show (bs.drop at_)[j + 1]'(by rw [List.length_drop]; omega) = ((bs.drop (at_ + 1)).take kk)[j]'(by omega) by rw [List.getElem_take, List.getElem_drop, List.getElem_drop]; congr 1; omega]
              refine J.qF Ty.u5 Ty.u81 rfl rfl ?_
              refine J.qj rfl rfl rfl rfl ?_
              refine J.name 55 rfl (show _ = Value.int .u64 ((num ((bs.drop (at_ + 1)).take (j + 1)) : Nat) : Int) by
                have e1 : (bs.drop (at_ + 1)).take j = ((bs.drop (at_ + 1)).take kk).take j := by rw [List.take_take, Nat.min_eq_left (by omega)]
                have e2 : (bs.drop (at_ + 1)).take (j + 1) = ((bs.drop (at_ + 1)).take kk).take (j + 1) := by rw [List.take_take, Nat.min_eq_left (by omega)]
                rw [e1, e2, yN (by omega)]
                exact muladdS_u64 _ _ (UInt8.toNat_lt _) (num_step (by omega) (by omega))) ?_
              refine J.assign rfl rfl ?_
              refine J.nil ?_
              refine JX.qJ ?_
              refine JX.qd (hK20 _ _ ?_)
              refine JC.region ?_
              refine J.qe rfl rfl ?_
              refine J.qG rfl rfl (by omega) (by omega) rfl ?_
              refine J.name 39 rfl (show _ = Value.int .i64 ((j + 1 + 1 : Nat) : Int) from congrArg (Value.int .i64) (by omega)) ?_
              refine J.assign rfl rfl ?_
              refine J.nil ?_
              refine JX.qd ?_
              refine JX.qS (j + 1) ?_ ?_ ?_
              · omega
              · exact ⟨rfl, rfl, rfl, rfl, rfl, trivial⟩
              · exact fun w1 hw => ⟨⟨hjl, fun _ => hb2⟩, hw⟩
          · skip
            have hje : j = kk := by simp at h4; omega
            have hg : getN bs at_ = (num ((bs.drop (at_ + 1)).take kk), at_ + 1 + kk, 0) := by
              have h9 := getN_ok hat h8 hsh (by rcases Nat.eq_zero_or_pos j with h | h
                                                · left; omega
                                                · exact .inr (hb1 h)) hx0k
              rw [hx0k, hkk] at h9
              exact h9
            subst hje
            refine JC.qX ?_
            refine JX.qE ?_
            refine JX.qE ?_
            refine JX.qT ?_
            refine JX.qd (hK16 _ _ ?_)
            refine JC.seq (fun K24 hK24 => ?_)
            refine JC.region ?_
            refine J.qe rfl rfl ?_
            refine J.qe rfl rfl ?_
            refine J.qe rfl rfl ?_
            refine J.qG rfl rfl (by omega) (by omega) rfl ?_
            refine J.qG rfl rfl (by omega) (by omega) rfl ?_
            refine J.name 60 rfl (show _ = Value.int .i64 ((at_ + 1 + j : Nat) : Int) from congrArg (Value.int .i64) (by omega)) ?_
            refine J.assign rfl rfl ?_
            refine J.assign rfl rfl ?_
            refine J.assign rfl rfl ?_
            refine J.nil ?_
            refine JX.qd (hK24 _ _ ?_)
            refine JC.qA ?_
            refine JX.q5 rfl rfl rfl rfl (fun w1 hw => ?_)
            exact ⟨by rw [hg] <;> rfl, hw.below⟩
theorem rgetID_spec (v:Value) (bs:List UInt8) (at_:Nat) (w:World) (hr:Row w v bs.length (bs.map u8)) (hl:bs.length≤100000) (hal:at_≤1000000) :
  Calls Try.prog 81 [v,.int .i64 ((at_:Nat):Int)].toArray w fun r w'=>r=.returned (.tuple #[.agg (cI (getI bs at_).1).toArray,.int .i64 (((getI bs at_).2.1:Nat):Int),.int .i64 (getI bs at_).2.2])∧Bel w w':=by
 obtain ⟨a,c,rfl,hc,hra⟩:=id hr
 refine qD (args:=[.slice a bs.length c,.int .i64 ((at_:Nat):Int)]) (e:=[(0,.slice a bs.length c),(1,.int .i64 ((at_:Nat):Int))]) Try.func81 rfl rfl ⟨rfl,rfl,trivial⟩ (St.start w) ?_;refine JC.seq (fun K0 hK0=>?_);refine JC.region ?_;refine J.alloc Ty.zID rfl rfl (fun b4=>?_);refine J.assign rfl rfl<|J.assign rfl rfl<|J.nil ?_;refine JX.qd (hK0 _ _ ?_);refine JC.seq (fun K1 hK1=>?_);refine JC.region ?_;refine J.alloc Ty.zID rfl rfl (fun b7=>?_);refine J.nil ?_;refine JX.qd (hK1 _ _ ?_);refine JC.seq (fun K2 hK2=>?_);refine JC.seq (fun K3 hK3=>?_);refine JC.region<|J.qe rfl rfl<|J.qj rfl rfl rfl rfl<|J.name 10 rfl (show _=Value.bool false by simp) ?_;refine J.qe rfl rfl ?_
 first | refine J.skip rfl rfl rfl rfl rfl ?_ | refine J.qh rfl rfl rfl rfl ?_ | (refine J.qf rfl rfl rfl ?_;refine J.qe rfl rfl ?_)
 first | refine J.skip rfl rfl rfl rfl rfl ?_ | refine J.qh rfl rfl rfl rfl ?_ | (refine J.qf rfl rfl rfl ?_;refine J.qe rfl rfl ?_)
 first | refine J.skip rfl rfl rfl rfl rfl ?_ | refine J.qh rfl rfl rfl rfl ?_ | (refine J.qf rfl rfl rfl ?_;refine J.qK rfl Ty.u26 rfl rfl ?_)
 first | refine J.skip rfl rfl rfl rfl rfl ?_ | refine J.qh rfl rfl rfl rfl ?_ | (refine J.qf rfl rfl rfl ?_;refine J.qj rfl rfl rfl rfl ?_)
 (first | refine J.qr rfl rfl rfl ?_ | refine J.qs rfl rfl rfl ?_)
 refine J.nil ?_;refine JX.qd (hK3 _ _ ?_);refine JC.qn rfl (fun h0=>?_) (fun h0=>?_)
 ·have hg:getI bs at_=(zI,0,1):=by unfold getI;rw [if_pos (by simp at h0;omega)]
  refine JC.seq (fun K4 hK4=>?_);refine JC.region<|J.qC (vs:=cI zI) Ty.a23 Ty.s23 rfl rfl (fun w1 hw=>Cells.of_block (hw.own (b7,cb (cI zI) 23) zm) rfl) rfl ?_;refine J.qN (cs:=cI zI) (vs:=cI zI) Ty.s23 rfl rfl rfl rfl rfl (zN _) (.there .here)<|J.assign rfl rfl<|J.assign rfl rfl<|J.nil ?_;refine JX.qd (hK4 _ _ ?_);refine JC.qA<|JX.qt ?_;refine JX.zl (vs:=cI zI) rfl rfl rfl rfl Ty.a23 Ty.s23 rfl (fun w1 hw=>Cells.of_block (hw.own (b4,cb (cI zI) 23) zm) rfl) (fun w1 hw=>?_)
  exact ⟨by rw [hg] <;> rfl,(hw.drop (List.nil_sublist _)).below⟩
 ·have hal2:at_≤bs.length:=by simp at h0;omega
  refine JC.skip ?_;refine JX.qd (hK2 _ _ ?_);refine JC.seq (fun K5 hK5=>?_);refine JC.seq (fun K6 hK6=>?_);refine JC.region<|J.qe rfl rfl<|J.qK rfl Ty.u26 rfl rfl<|J.qe rfl rfl<|J.zn rfl rfl (by omega) (by omega) rfl ?_;refine J.qj rfl rfl rfl rfl<|J.nil ?_;refine JX.qd (hK6 _ _ ?_);refine JC.qn rfl (fun h1=>?_) (fun h1=>?_)
  ·have hg:getI bs at_=(zI,0,3):=by unfold getI;rw [if_neg (by omega),if_pos (by simp at h1;omega)]
   refine JC.seq (fun K7 hK7=>?_);refine JC.region<|J.qC (vs:=cI zI) Ty.a23 Ty.s23 rfl rfl (fun w1 hw=>Cells.of_block (hw.own (b7,cb (cI zI) 23) zm) rfl) rfl ?_;refine J.qN (cs:=cI zI) (vs:=cI zI) Ty.s23 rfl rfl rfl rfl rfl (zN _) (.there .here)<|J.assign rfl rfl<|J.assign rfl rfl<|J.nil ?_;refine JX.qd (hK7 _ _ ?_);refine JC.qA<|JX.qt ?_;refine JX.zl (vs:=cI zI) rfl rfl rfl rfl Ty.a23 Ty.s23 rfl (fun w1 hw=>Cells.of_block (hw.own (b4,cb (cI zI) 23) zm) rfl) (fun w1 hw=>?_)
   exact ⟨by rw [hg] <;> rfl,(hw.drop (List.nil_sublist _)).below⟩
  ·have h16:16≤bs.length - at_:=by simp at h1;omega
   have hg:getI bs at_=((idB ((bs.drop at_).take 16)),at_+16,0):=by unfold getI;rw [if_neg (by omega),if_neg (by omega)]
   have hx16:((bs.drop at_).take 16).length=16:=by rw [List.length_take,List.length_drop];omega
   obtain ⟨b,o,rfl,hcl⟩:∃b o,a=some ⟨b,o,none⟩∧Cells w b o (bs.map u8):=by
    rcases hra with h | h
    ·have h2:=congrArg List.length h;rw [List.length_map,List.length_nil] at h2;omega
    ·exact h
   refine JC.skip ?_;refine JX.qd (hK5 _ _ ?_);refine JC.seq (fun K8 hK8=>?_);refine JC.seq (fun K9 hK9=>?_);refine JC.region<|J.assign rfl rfl<|J.nil ?_;refine JX.qd (hK9 _ _ ?_);refine JC.block ?_
   refine JC.conseq (JC.cov (f:=(fun i=>[(0,.slice (some ⟨b,o,none⟩) bs.length c),(1,.int .i64 ((at_:Nat):Int)),(4,.pointer (some ⟨b4,0,none⟩)),(7,.pointer (some ⟨b7,0,none⟩)),(8,.int .i64 ((i:Nat):Int))]) 0) ⟨rfl,rfl,rfl,rfl,rfl,trivial⟩ (JC.loop (α:=Nat) (fun i=>[(0,.slice (some ⟨b,o,none⟩) bs.length c),(1,.int .i64 ((at_:Nat):Int)),(4,.pointer (some ⟨b4,0,none⟩)),(7,.pointer (some ⟨b7,0,none⟩)),(8,.int .i64 ((i:Nat):Int))]) (fun i w'=>(i≤16)∧St w [] ((b7,cb ((partI bs at_ i).map u8) 23)::(b4,cb (cI zI) 23)::[]) w') (fun i=>16 - i) 0 (fun i=>?_))) (fun w hw=>⟨Nat.zero_le _,hw⟩)
   refine JC.pr (fun hi=>?_);refine JC.seq (fun K10 hK10=>?_);refine JC.seq (fun K11 hK11=>?_);refine JC.region<|J.qe rfl rfl<|J.qj rfl rfl rfl rfl<|J.nil ?_;refine JX.qd (hK11 _ _ ?_);refine JC.qn rfl (fun h2=>?_) (fun h2=>?_)
   ·have hil:i<16:=by simp at h2;omega
    refine JC.skip ?_;refine JX.qd (hK10 _ _ ?_);refine JC.seq (fun K12 hK12=>?_);refine JC.block<|JC.region<|J.qe rfl rfl<|J.qe rfl rfl<|J.qe rfl rfl<|J.qe rfl rfl<|J.qG rfl rfl (by omega) (by omega) rfl ?_;refine J.name 32 rfl (show _=Value.int .i64 ((at_+i:Nat):Int) from congrArg (Value.int .i64) (by omega)) ?_;refine J.qu Ty.el26 Ty.s5 rfl rfl (by omega) (by omega) rfl ?_;refine J.zw (v:=u8 (bs[at_+i]'(by omega))) Ty.a5 rfl (hcl.at_u8 (by omega) (by omega)) (by simp) rfl ?_;refine J.zL Ty.ar23 Ty.s5 rfl rfl (by omega) (by omega) rfl ?_;refine J.qU (cs:=(partI bs at_ i).map u8) (vs:=[u8 (bs[at_+i]'(by omega))]) (l':=(b7,cb ((partI bs at_ (i+1)).map u8) 23)::(b4,cb (cI zI) 23)::[]) Ty.s5 rfl rfl rfl rfl (fun v hv=>by rw [List.mem_singleton.1 hv];rfl) (by rw [Int.toNat_natCast,Nat.mul_one,set_mapB,partI_set (by omega) hil];exact .here) (by rw [Int.toNat_natCast,List.length_map,partI_len bs (by omega) (by omega)];omega) ?_;refine J.nil<|JX.qJ ?_;refine JX.qd (hK12 _ _ ?_);refine JC.region<|J.qe rfl rfl ?_
    (first | refine J.qG rfl rfl (by omega) (by omega) rfl ?_ | refine J.qj rfl rfl rfl rfl ?_)
    refine J.assign rfl rfl<|J.nil<|JX.qd<|JX.qS (i+1) ?_ ?_ ?_
    ·omega
    ·exact ⟨rfl,rfl,rfl,rfl,rfl,trivial⟩
    ·exact fun w1 hw=>⟨hil,hw⟩
   ·have hie:i=16:=by simp at h2;omega
    subst hie
    refine JC.qX<|JX.qE<|JX.qE<|JX.qT ?_;refine JX.qd (hK8 _ _ ?_);refine JC.seq (fun K13 hK13=>?_);refine JC.region ?_
    refine J.conseq (I':=St w [] ((b7,cb (cI (idB ((bs.drop at_).take 16))) 23)::(b4,cb (cI zI) 23)::[])) ?_ (fun w1 hw=>by rw [partI_all,← cI_idB hx16] at hw;exact hw)
    refine J.qC (vs:=cI (idB ((bs.drop at_).take 16))) Ty.a23 Ty.s23 rfl rfl (fun w1 hw=>Cells.of_block (hw.own (b7,cb (cI (idB ((bs.drop at_).take 16))) 23) zm) rfl) rfl ?_;refine J.qe rfl rfl<|J.qG rfl rfl (by omega) (by omega) rfl ?_;refine J.name 38 rfl (show _=Value.int .i64 ((at_+16:Nat):Int) from congrArg (Value.int .i64) (by omega)) ?_;refine J.qN (cs:=cI zI) (vs:=cI (idB ((bs.drop at_).take 16))) Ty.s23 rfl rfl rfl rfl rfl (zN _) (.there .here)<|J.assign rfl rfl<|J.assign rfl rfl<|J.nil ?_;refine JX.qd (hK13 _ _ ?_);refine JC.qA ?_;refine JX.zl (vs:=cI (idB ((bs.drop at_).take 16))) rfl rfl rfl rfl Ty.a23 Ty.s23 rfl (fun w1 hw=>Cells.of_block (hw.own (b4,cb (cI (idB ((bs.drop at_).take 16))) 23) zm) rfl) (fun w1 hw=>?_)
    exact ⟨by rw [hg] <;> rfl,(hw.drop (List.nil_sublist _)).below⟩
theorem rgetText_spec (v:Value) (bs:List UInt8) (at_ most:Nat) (w:World) (hr:Row w v bs.length (bs.map u8)) (hl:bs.length≤100000) (hal:at_≤1000000) (hmo:most≤100000) :
  Calls Try.prog 82 [v,.int .i64 ((at_:Nat):Int),.int .i64 ((most:Nat):Int)].toArray w fun r w'=>∃x:Value × List (Nat × Obj),r=.returned (.tuple #[x.1,.int .i64 (((getT bs at_ most).2.1:Nat):Int),.int .i64 (getT bs at_ most).2.2])∧Vec 5 1 x.1 ((getT bs at_ most).1).length (((getT bs at_ most).1).map u8) x.2∧St w [] x.2 w':=by
 obtain ⟨a,c,rfl,hc,hra⟩:=id hr
 obtain ⟨⟨n0,p0,e0⟩,hG⟩:∃x,getN bs at_=x:=⟨_,rfl⟩
 have hn0:=yG bs at_
 have hp0:=yi bs at_
 rw [hG] at hn0 hp0
 simp only at hn0 hp0
 refine qD (args:=[.slice a bs.length c,.int .i64 ((at_:Nat):Int),.int .i64 ((most:Nat):Int)]) (e:=[(0,.slice a bs.length c),(1,.int .i64 ((at_:Nat):Int)),(2,.int .i64 ((most:Nat):Int))]) Try.func82 rfl rfl ⟨rfl,rfl,rfl,trivial⟩ (St.start w) ?_;refine JC.seq (fun K0 hK0=>?_);refine JC.region<|J.assign rfl rfl<|J.assign rfl rfl<|J.assign rfl rfl<|J.nil ?_;refine JX.qd (hK0 _ _ ?_);refine JC.seq (fun K1 hK1=>?_);refine JC.region<|J.qe rfl rfl<|J.qe rfl rfl<|J.qR (v:=.tuple #[.int .u64 ((n0:Nat):Int),.int .i64 ((p0:Nat):Int),.int .i64 e0]) (fun w1 w2 hw hb=>hw.step hb) Ty.bd80 rfl rfl (fun w1 hw=>by have h9:=yU _ bs at_ w1 (hr.below (hw.drop (List.nil_sublist _)).below) hl hal;rw [hG] at h9;exact h9) ?_;refine J.qe rfl rfl<|J.extract rfl rfl rfl<|J.extract rfl rfl rfl<|J.extract rfl rfl rfl<|J.assign rfl rfl<|J.assign rfl rfl<|J.assign rfl rfl<|J.nil ?_;refine JX.qd (hK1 _ _ ?_);refine JC.seq (fun K2 hK2=>?_);refine JC.seq (fun K3 hK3=>?_);refine JC.region<|J.qe rfl rfl<|J.qj rfl rfl rfl rfl<|J.nil ?_;refine JX.qd (hK3 _ _ ?_);refine JC.qn rfl (fun h0=>?_) (fun h0=>?_)
 ·have hne:e0≠0:=by simpa using h0
  have hg:getT bs at_ most=([],0,e0):=by unfold getT;rw [hG];exact if_pos hne
  refine JC.seq (fun K4 hK4=>?_);refine JC.region<|J.qe rfl rfl<|J.assign rfl rfl<|J.assign rfl rfl<|J.assign rfl rfl<|J.nil ?_;refine JX.qd (hK4 _ _ ?_);refine JC.qA<|JX.qt ?_;refine JX.q5 rfl rfl rfl rfl (fun w1 hw=>?_)
  rw [hg]
  first
  | exact ⟨(_,[]),rfl,Vec.nil _ _,hw⟩
  | exact ⟨(v47,l47),rfl,by rw [hxl];exact hv47,by simpa using hw⟩
 ·have hz:e0=0:=by simpa using h0
  subst hz
  refine JC.skip ?_;refine JX.qd (hK2 _ _ ?_);refine JC.seq (fun K5 hK5=>?_);refine JC.seq (fun K6 hK6=>?_);refine JC.region<|J.qe rfl rfl<|J.qj rfl rfl rfl rfl<|J.name 23 rfl (show _=Value.bool false by simp) ?_;refine J.qe rfl rfl ?_
  first | refine J.skip rfl rfl rfl rfl rfl ?_ | refine J.qh rfl rfl rfl rfl ?_ | (refine J.qf rfl rfl rfl ?_;refine J.qe rfl rfl ?_)
  first | refine J.skip rfl rfl rfl rfl rfl ?_ | refine J.qh rfl rfl rfl rfl ?_ | (refine J.qf rfl rfl rfl ?_;refine J.qe rfl rfl ?_)
  refine J.qf rfl rfl rfl<|J.qF Ty.u3 Ty.u81 rfl rfl<|J.name 27 rfl (show _=Value.int .u64 ((most:Nat):Int) from congrArg (Value.int .u64) (ze (by omega) (by omega))) ?_
  first | refine J.skip rfl rfl rfl rfl rfl ?_ | refine J.qh rfl rfl rfl rfl ?_ | (refine J.qf rfl rfl rfl ?_;refine J.qj rfl rfl rfl rfl ?_)
  (first | refine J.qr rfl rfl rfl ?_ | refine J.qs rfl rfl rfl ?_)
  refine J.nil ?_;refine JX.qd (hK6 _ _ ?_);refine JC.qn rfl (fun h1=>?_) (fun h1=>?_)
  ·have hg:getT bs at_ most=([],0,4):=by unfold getT;rw [hG];simp only;rw [if_neg (by simp),if_pos (by simp at h1;omega)]
   refine JC.seq (fun K7 hK7=>?_);refine JC.region<|J.assign rfl rfl<|J.assign rfl rfl<|J.assign rfl rfl<|J.nil ?_;refine JX.qd (hK7 _ _ ?_);refine JC.qA<|JX.qt ?_;refine JX.q5 rfl rfl rfl rfl (fun w1 hw=>?_)
   rw [hg]
   first
   | exact ⟨(_,[]),rfl,Vec.nil _ _,hw⟩
   | exact ⟨(v47,l47),rfl,by rw [hxl];exact hv47,by simpa using hw⟩
  ·have hn1:n0≤most:=by simp at h1;omega
   refine JC.skip ?_;refine JX.qd (hK5 _ _ ?_);refine JC.seq (fun K8 hK8=>?_);refine JC.seq (fun K9 hK9=>?_);refine JC.region<|J.qe rfl rfl<|J.qK rfl Ty.u26 rfl rfl<|J.qe rfl rfl<|J.zn rfl rfl (by omega) (by omega) rfl ?_;refine J.qF Ty.u3 Ty.u81 rfl rfl<|J.name 34 rfl (show _=Value.int .u64 ((bs.length - p0:Nat):Int) from congrArg (Value.int .u64) ((ze (by omega) (by omega)).trans (by omega))) ?_;refine J.qe rfl rfl<|J.qj rfl rfl rfl rfl<|J.nil ?_;refine JX.qd (hK9 _ _ ?_);refine JC.qn rfl (fun h2=>?_) (fun h2=>?_)
   ·have hg:getT bs at_ most=([],0,3):=by unfold getT;rw [hG];simp only;rw [if_neg (by simp),if_neg (by omega),if_pos (by simp at h2;omega)]
    refine JC.seq (fun K10 hK10=>?_);refine JC.region<|J.assign rfl rfl<|J.assign rfl rfl<|J.assign rfl rfl<|J.nil ?_;refine JX.qd (hK10 _ _ ?_);refine JC.qA<|JX.qt ?_;refine JX.q5 rfl rfl rfl rfl (fun w1 hw=>?_)
    rw [hg]
    first
    | exact ⟨(_,[]),rfl,Vec.nil _ _,hw⟩
    | exact ⟨(v47,l47),rfl,by rw [hxl];exact hv47,by simpa using hw⟩
   ·have hn2:n0≤bs.length - p0:=by simp at h2;omega
    have hg:getT bs at_ most=((bs.drop p0).take n0,p0+n0,0):=by unfold getT;rw [hG];simp only;rw [if_neg (by simp),if_neg (by omega),if_neg (by omega)]
    have hr1:=row_subB hr rfl (i:=p0) (j:=p0+n0) (by omega) (by omega)
    obtain ⟨q1,hq1⟩:∃q,(if c=p0 then a else a.map (·.add (p0*1)))=q:=⟨_,rfl⟩
    rw [hq1,Nat.add_sub_cancel_left] at hr1
    have hxl:((bs.drop p0).take n0).length=n0:=by rw [List.length_take,List.length_drop];omega
    refine JC.skip ?_;refine JX.qd (hK8 _ _ ?_);refine JC.seq (fun K11 hK11=>?_);refine JC.region ?_;refine J.za (cs:=[]) Ty.el26 Ty.s5 Ty.z5 rfl rfl rfl rfl rfl rfl rfl (fun yQ=>?_);refine J.qe rfl rfl<|J.qe rfl rfl<|J.qe rfl rfl<|J.qe rfl rfl<|J.qF Ty.u81 Ty.u3 rfl rfl<|J.name 42 rfl (show _=Value.int .i64 ((n0:Nat):Int) from congrArg (Value.int .i64) (qV (by omega) (by omega))) ?_;refine J.qG rfl rfl (by omega) (by omega) rfl ?_;refine J.name 43 rfl (show _=Value.int .i64 ((p0+n0:Nat):Int) from congrArg (Value.int .i64) (by omega)) ?_;refine J.zx (i:=p0) (j:=p0+n0) Ty.el26 Ty.s5 rfl rfl rfl (by simp [bnd]) (by simp [bnd];omega) (by omega) (by omega) (by omega) rfl ?_;refine J.name 44 rfl (show _=Value.slice q1 n0 (c - p0) by rw [hq1,Nat.add_sub_cancel_left]) ?_;refine J.qZ (lp:=[(yQ,cb [] 5)]) (xs:=[]) (ys:=((bs.drop p0).take n0).map u8) (k:=0) (m:=n0) Ty.el26 Ty.s5 Ty.b5 Ty.z5 rfl (.inl ⟨5,Ty.u26⟩) rfl rfl ⟨rfl,.inr ⟨yQ,0,[],rfl,rfl,rfl,Nat.le_refl _⟩⟩ (fun w1 hw=>.inl (hr1.below (hw.drop (List.nil_sublist _)).below)) (by rw [List.length_map,hxl,Nat.mul_one]) (zk _) (by omega) (by omega) rfl (fun v47 l47 hv47=>?_)
    rw [Nat.zero_add,List.nil_append] at hv47
    refine J.qe rfl rfl<|J.qe rfl rfl<|J.qF Ty.u81 Ty.u3 rfl rfl<|J.name 48 rfl (show _=Value.int .i64 ((n0:Nat):Int) from congrArg (Value.int .i64) (qV (by omega) (by omega))) ?_;refine J.qG rfl rfl (by omega) (by omega) rfl ?_;refine J.name 49 rfl (show _=Value.int .i64 ((p0+n0:Nat):Int) from congrArg (Value.int .i64) (by omega)) ?_;refine J.assign rfl rfl<|J.assign rfl rfl<|J.assign rfl rfl<|J.nil ?_;refine JX.qd (hK11 _ _ ?_);refine JC.qA ?_;refine JX.q5 rfl rfl rfl rfl (fun w1 hw=>?_)
    rw [hg]
    first
    | exact ⟨(_,[]),rfl,Vec.nil _ _,hw⟩
    | exact ⟨(v47,l47),rfl,by rw [hxl];exact hv47,by simpa using hw⟩
end Go.Proofs.Ytoaenmlhehcjfaa
namespace Go.Proofs
open Go.Shelf
def Try.sortI_ren:Go.Shelf.Ren:=⟨fun | 6=>71 | 15=>79 | 14=>78 | 28=>91 | 29=>92 | 20=>83 | 21=>84 | 22=>85 | 23=>86 | 24=>87 | 25=>88 | 26=>89 | 27=>90 | 46=>93 | 47=>94 | 48=>95 | 49=>96 | 50=>97 | 57=>98 | n=>n,fun | 22=>101 | 24=>23 | 25=>90 | 3=>3 | 39=>37 | 0=>0 | 53=>151 | 55=>81 | 4=>4 | 46=>144 | 45=>143 | 50=>148 | 5=>5 | 9=>9 | 66=>153 | 70=>157 | 76=>159 | 77=>160 | n=>n,fun | n=>n⟩
theorem Try.sortI:Go.Proofs.SlLaysF0.n6 Try.prog Try.sortI_ren:={
 mixed:=by kernel_rfl
 f6:=⟨Try.f71.name,by decide,Try.func71.trans (congrArg some (by kernel_rfl))⟩
 f14:=⟨Try.f78.name,by decide,Try.func78.trans (congrArg some (by kernel_rfl))⟩
 f15:=Try.func79.trans (congrArg some (by kernel_rfl))
 f20:=⟨Try.f83.name,by decide,Try.func83.trans (congrArg some (by kernel_rfl))⟩
 f21:=⟨Try.f84.name,by decide,Try.func84.trans (congrArg some (by kernel_rfl))⟩
 f22:=⟨Try.f85.name,by decide,Try.func85.trans (congrArg some (by kernel_rfl))⟩
 f23:=⟨Try.f86.name,by decide,Try.func86.trans (congrArg some (by kernel_rfl))⟩
 f24:=⟨Try.f87.name,by decide,Try.func87.trans (congrArg some (by kernel_rfl))⟩
 f25:=⟨Try.f88.name,by decide,Try.func88.trans (congrArg some (by kernel_rfl))⟩
 f26:=⟨Try.f89.name,by decide,Try.func89.trans (congrArg some (by kernel_rfl))⟩
 f27:=⟨Try.f90.name,by decide,Try.func90.trans (congrArg some (by kernel_rfl))⟩
 f28:=Try.func91.trans (congrArg some (by kernel_rfl))
 f29:=Try.func92.trans (congrArg some (by kernel_rfl))
 f46:=⟨Try.f93.name,by decide,Try.func93.trans (congrArg some (by kernel_rfl))⟩
 f47:=Try.func94.trans (congrArg some (by kernel_rfl))
 f48:=Try.func95.trans (congrArg some (by kernel_rfl))
 f49:=⟨Try.f96.name,by decide,Try.func96.trans (congrArg some (by kernel_rfl))⟩
 f50:=⟨Try.f97.name,by decide,Try.func97.trans (congrArg some (by kernel_rfl))⟩
 f57:=⟨Try.f98.name,by decide,Try.func98.trans (congrArg some (by kernel_rfl))⟩
 t0:=Try.underlying0
 a0:=Try.isAgg0
 z0:=Try.sizeOf0
 v0:=Try.zeroValue0
 t3:=Try.underlying3
 a3:=Try.isAgg3
 z3:=Try.sizeOf3
 v3:=Try.zeroValue3
 t4:=Try.underlying4
 a4:=Try.isAgg4
 z4:=Try.sizeOf4
 v4:=Try.zeroValue4
 t5:=Try.underlying5
 a5:=Try.isAgg5
 z5:=Try.sizeOf5
 v5:=Try.zeroValue5
 t9:=Try.underlying9
 a9:=Try.isAgg9
 z9:=Try.sizeOf9
 v9:=Try.zeroValue9
 t22:=Try.underlying101
 a22:=Try.isAgg101
 z22:=Try.sizeOf101
 v22:=Try.zeroValue101
 t25:=Try.underlying90
 a25:=Try.isAgg90
 z25:=Try.sizeOf90
 v25:=Try.zeroValue90
 t39:=Try.underlying37
 a39:=Try.isAgg37
 z39:=Try.sizeOf37
 v39:=Try.zeroValue37
 t45:=Try.underlying143
 a45:=Try.isAgg143
 z45:=Try.sizeOf143
 v45:=Try.zeroValue143
 t46:=Try.underlying144
 a46:=Try.isAgg144
 z46:=Try.sizeOf144
 v46:=Try.zeroValue144
 t50:=Try.underlying148
 a50:=Try.isAgg148
 z50:=Try.sizeOf148
 v50:=Try.zeroValue148
 t53:=Try.underlying151
 a53:=Try.isAgg151
 z53:=Try.sizeOf151
 v53:=Try.zeroValue151
 t55:=Try.underlying81
 a55:=Try.isAgg81
 z55:=Try.sizeOf81
 v55:=Try.zeroValue81
 t66:=Try.underlying153
 a66:=Try.isAgg153
 z66:=Try.sizeOf153
 v66:=Try.zeroValue153
 t70:=Try.underlying157
 a70:=Try.isAgg157
 z70:=Try.sizeOf157
 v70:=Try.zeroValue157
 t76:=Try.underlying159
 a76:=Try.isAgg159
 z76:=Try.sizeOf159
 v76:=Try.zeroValue159
 t77:=Try.underlying160
 a77:=Try.isAgg160
 z77:=Try.sizeOf160
 v77:=Try.zeroValue160 }
end Go.Proofs
namespace Go.Proofs.Ytoaenmlhehcjfaa
open Go.J Go.RowKit
set_option linter.unusedVariables false
set_option linter.unusedSimpArgs false
open Go.Sort Go.Shelf
set_option maxRecDepth 4000
def ltI (a b:IDV):Bool:=decide (valI a<valI b)
theorem yn (a b:IDV):ltOf cmpI a b=ltI a b:=by
 unfold ltOf cmpI ltI
 by_cases h1:valI a<valI b
 ·simp [h1]
 ·by_cases h2:valI b<valI a <;> simp [h1,h2]
theorem ltI_iff {a b:IDV}:ltI a b=true↔valI a<valI b:=decide_eq_true_iff
theorem swo_cmpI:SWO (ltOf cmpI) where
 irrefl x:=by rw [yn];exact decide_eq_false (Nat.lt_irrefl _)
 trans x y z h1 h2:=by rw [yn,ltI_iff] at*;omega
 ntrans x y z h1 h2:=by
  rw [yn] at*
  rw [Bool.eq_false_iff,ne_eq,ltI_iff] at*
  omega
theorem leI_trans (a b c:IDV) (h1:(!(ltOf cmpI) b a)=true) (h2:(!(ltOf cmpI) c b)=true):(!(ltOf cmpI) c a)=true:=by
 rw [Bool.not_eq_true',yn,Bool.eq_false_iff,ne_eq,ltI_iff] at*
 omega
theorem leI_total (a b:IDV):((!(ltOf cmpI) b a) || !(ltOf cmpI) a b)=true:=by
 rw [yn,yn,Bool.or_eq_true,Bool.not_eq_true',Bool.not_eq_true',Bool.eq_false_iff,Bool.eq_false_iff,ne_eq,ne_eq,ltI_iff,ltI_iff]
 omega
theorem ltI_total {a b:IDV} (h1:ltI a b=false) (h2:ltI b a=false):a=b:=by
 rw [Bool.eq_false_iff,ne_eq,ltI_iff] at h1 h2
 exact valI_inj (by omega)
theorem flat_fI (xs:List IDV):flatK cI 16 xs.toArray=(fI xs).toArray:=by
 have hl:=yh xs
 apply Array.ext
 ·simp [hl]
 ·intro t h1 h2
  have ht:t<xs.length*16:=by simpa using h1
  have hi:t / 16<xs.length:=by omega
  have e:=get_flatK cI 16 xs.toArray t (by simpa using ht)
  rw [getElem!_pos _ t h1] at e
  rw [e]
  have hx:xs.toArray[t / 16]! = xs[t / 16]:=by rw [getElem!_pos xs.toArray (t / 16) (by simpa using hi)];simp
  rw [hx]
  have hr:t%16<(cI xs[t / 16]).length:=by show t%16<16;omega
  rw [getElem!_pos (cI xs[t / 16]) (t%16) hr]
  have e2:=fI_at (List.getElem?_eq_getElem hi)
  have e3:(cI xs[t / 16])[t%16]? = (fI xs)[t]?:=by
   rw [← e2,List.getElem?_take_of_lt (by omega),List.getElem?_drop,show t / 16*16+t%16=t by omega]
  rw [List.getElem?_eq_getElem hr,List.getElem?_eq_getElem (by omega)] at e3
  simpa using Option.some.inj e3
theorem holds_fI {w:World} {q:Nat} {xs:List IDV} {sp:List Value} {t:TypeId} (h:w.heap[q]? = some (cb (fI xs++sp) t)):HoldsK cI 16 w q 0 xs.toArray:=by
 intro j hj
 rw [flat_fI] at hj ⊢
 have hj':j<(fI xs).length:=by simpa using hj
 refine ⟨?_,frozen_of h⟩
 rw [qB h,Nat.zero_add,List.getElem?_append_left hj',List.getElem?_eq_getElem hj']
 rw [getElem!_pos (fI xs).toArray j hj]
 rfl
theorem sortWorldI_st {w:World} {q:Nat} {xs ys:List IDV} {sp:List Value} {t:TypeId} (h:w.heap[q]? = some (cb (fI xs++sp) t)) (hl:ys.length=xs.length) (n:Nat) (os:Array Obj) :
  St w [q] [(q,cb (fI ys++sp) t)] (sortWorldK cI 16 w q 0 n ys.toArray os):=by
 have hq:=zj h
 have hlx:=yh xs
 have hly:=yh ys
 have hheap:(sortWorldK cI 16 w q 0 n ys.toArray os).heap=(w.heap.modify q (onCells (putCells id 0 (flatK cI 16 ys.toArray))))++os:=rfl
 refine ⟨rfl,rfl,rfl,by rw [hheap];simp,Nat.le_add_right _ _,fun b hb hS=>?_,fun p hp=>?_,fun p hp=>?_,by simp⟩
 ·rw [hheap,Array.getElem?_append_left (by simpa using hb),Array.getElem?_modify,if_neg (by simp at hS;exact fun e=>hS e.symm)]
 ·simp only [List.mem_singleton] at hp
  subst hp
  rw [hheap,Array.getElem?_append_left (by simpa using hq),Array.getElem?_modify,if_pos rfl,h]
  simp only [Option.map_some,onCells,flat_fI]
  congr 2
  apply Array.ext
  ·simp [putCells,hlx,hly,hl]
  ·intro i h1 h2
   have hi:i<(fI ys++sp).length:=by simpa using h2
   simp only [putCells,Array.getElem_mapIdx,Nat.zero_le,true_and,Nat.zero_add,Nat.sub_zero,id]
   by_cases hin:i<(fI ys).length
   ·rw [if_pos (by simpa using hin),getElem!_pos _ i (by simpa using hin)]
    simp [List.getElem_append_left hin]
   ·rw [if_neg (by simpa using hin)]
    simp only [List.getElem_toArray]
    rw [List.getElem_append_right (by omega),List.getElem_append_right (by omega)]
    congr 1
    omega
 ·simp only [List.mem_singleton] at hp
  subst hp
  left;simp
theorem sortI_spec (q:Nat) (xs:List IDV) (sp:List Value) (cap:Nat) (w:World) (hb:w.heap[q]? = some (cb (fI xs++sp) 23)) (hlen:xs.length<4611686018427387904) :
  Calls Try.prog 71 [.slice (some ⟨q,0,none⟩) xs.length cap,.func (.func 43) #[] #[]].toArray w fun r w'=>∃ys:List IDV,r=.returned (.tuple #[])∧(ys.Perm xs∧ys.Pairwise (fun a b=>ltI b a=false))∧St w [q] [(q,cb (fI ys++sp) 23)] w':=by
 have hcmp:CmpLays Try.prog 43 #[] cI 16 cmpI q 0 xs.toArray.size w:=by
  intro m os dk hd x y
  have h:=compare_spec x y (sortWorldK cI 16 w q 0 m dk os)
  exact Calls.mono h fun r w' ⟨h1,h2⟩=>⟨h1,h2.grown⟩
 have hcon:=AnyQ.slices_SortFunc_total Try.sortI 16 (fun w=>Go.J.run_isAgg Ty.a23 w) (fun w=>Go.J.run_sizeOf Ty.s23 w) cI (fun _=>rfl) (fun x v hv=>zN x v hv) cmpI swo_cmpI 43 #[] q 0 cap xs.toArray w
  (fun args w=>run_callFunc Ty.bd43 w) hcmp (holds_fI hb) (zj hb) (by simpa using hlen) (fun x y h1 h2=>by rw [yn] at h1 h2;exact ltI_total h1 h2)
 change Calls Try.prog 71 _ _ _ at hcon
 rw [List.size_toArray] at hcon
 refine hcon.mono fun r w' ⟨h1,n,os,h2⟩=>?_
 refine ⟨xs.mergeSort (fun x y=>!(ltOf cmpI) y x),h1,⟨List.mergeSort_perm _ _,?_⟩,?_⟩
 ·have:=List.pairwise_mergeSort (le:=fun x y=>!(ltOf cmpI) y x) leI_trans leI_total xs
  refine this.imp fun {a b} h=>?_
  simpa [yn] using h
 ·rw [h2]
  exact sortWorldI_st hb (by simp) n os
theorem nodup_len:∀ {l m:List Nat},l.Nodup→(∀x,x∈l→x∈m)→l.length≤m.length
 | [],m,_,_=>Nat.zero_le _
 | a::l,m,h,hs=>by
  have h':=List.nodup_cons.1 h
  have ha:=hs a (.head _)
  have:=nodup_len (l:=l) (m:=m.erase a) h'.2 (fun x hx=>(List.mem_erase_of_ne (fun e=>h'.1 (by rw [← e];exact hx))).2 (hs x (.tail _ hx)))
  rw [List.length_erase_of_mem ha] at this
  have:0<m.length:=List.length_pos_of_mem ha
  simp only [List.length_cons]
  omega
theorem done_perm {es done:List MapEntry} (hn:(es.map (·.born)).Nodup) (hd:(done.map (·.born)).Nodup) (h1:∀x,x∈done→x∈es) (h2:∀x,x∈es→x.born∈done.map (·.born)):done.Perm es:=by
 have nd:∀ {l:List MapEntry},(l.map (·.born)).Nodup→l.Nodup:=fun h=>(List.pairwise_map.1 h).imp fun h e=>h (by rw [e])
 refine (List.perm_ext_iff_of_nodup (nd hd) (nd hn)).2 fun x=>⟨h1 x,fun hx=>?_⟩
 obtain ⟨y,hy,he⟩:=List.mem_map.1 (h2 x hx)
 have:y=x:=by
  apply Classical.byContradiction
  intro hne
  have hp:=List.pairwise_map.1 hn
  obtain ⟨i,hi,rfl⟩:=List.getElem_of_mem (h1 y hy)
  obtain ⟨j,hj,rfl⟩:=List.getElem_of_mem hx
  rw [List.pairwise_iff_getElem] at hp
  rcases Nat.lt_trichotomy i j with h | h | h
  ·exact hp i j hi hj h he
  ·subst h;exact hne rfl
  ·exact hp j i hj hi h he.symm
 rw [← this]
 exact hy
structure KS where
 done:List MapEntry
 o:Obj
 lst:List (Nat × Obj)
open Classical in
noncomputable def kpv (en:MapEntry):IDV:=if h:∃p:IDV,en.key=.agg (cI p).toArray then h.choose else zI
theorem kpv_spec {en:MapEntry} (h:∃p:IDV,en.key=.agg (cI p).toArray):en.key=.agg (cI (kpv en)).toArray:=by
 unfold kpv
 rw [dif_pos h]
 exact h.choose_spec
theorem keys1_spec (lb Bm b clock:Nat) (es:Array MapEntry) (Inv:List MapEntry→List (Nat × Obj)→Prop) (lst0:List (Nat × Obj)) (w:World)
  (hst:MapKept.Stamped es clock) (hkey:∀en,en∈es.toList→∃p:IDV,en.key=.agg (cI p).toArray)
  (hm:w.heap[Bm]? = some (cb [.map (some b)] 97)) (hb:w.heap[b]? = some (.map es clock)) (hBm:Bm ∉ lst0.map (·.1)) (hbm:b ∉ lst0.map (·.1)) (h0:Own w lst0) (hI0:Inv [] lst0)
  (hY:∀pre en lst W1,en∈es.toList→pre.length<es.size→Inv pre lst→Own W1 lst→YieldTo (FW none) 0 Try.prog lb #[en.key] W1 fun r w'=>r=.returned (.bool true)∧∃lst',Inv (pre++[en]) lst'∧St W1 (lst.map (·.1)) lst' w') :
  Calls Try.prog 72 [.func (.yield lb) #[] #[],.pointer (some ⟨Bm,0,none⟩)].toArray w fun r w'=>∃v done lst',r=.returned v∧done.Perm es.toList∧Inv done lst'∧St w (lst0.map (·.1)) lst' w':=by
 have hstamp:=(MapKept.stamped_iff es clock).1 hst
 have hh0:=h0
 clear h0
 refine qD (args:=[.func (.yield lb) #[] #[],.pointer (some ⟨Bm,0,none⟩)]) (e:=[(0,.func (.yield lb) #[] #[]),(1,.pointer (some ⟨Bm,0,none⟩))]) Try.func72 rfl rfl ⟨rfl,rfl,trivial⟩ (hh0.st) ?_;refine JC.seq (fun K0 hK0=>?_);refine JC.region<|J.qw (v:=.map (some b)) Ty.a97 rfl (fun w1 hw=>by rw [qB (by rw [hw.keep Bm (zj hm) hBm];exact hm)];rfl) rfl ?_;refine J.range Ty.u97 rfl (fun w1 hw=>by rw [hw.keep b (zj hb) hbm];exact hb) hstamp.1 rfl (fun r0 o0 ho0=>?_);refine J.nil ?_;refine JX.qd (hK0 _ _ ?_);refine JC.block ?_
 refine JC.conseq (JC.cov (f:=(fun st=>[(0,.func (.yield lb) #[] #[]),(1,.pointer (some ⟨Bm,0,none⟩)),(5,.pointer (some ⟨r0,0,none⟩))]) (⟨[],o0,lst0⟩:KS)) ⟨rfl,rfl,rfl,trivial⟩ (JC.loop (α:=KS) (fun st=>[(0,.func (.yield lb) #[] #[]),(1,.pointer (some ⟨Bm,0,none⟩)),(5,.pointer (some ⟨r0,0,none⟩))]) (fun st w'=>(IterAt b es clock (st.done.map (·.born)) st.o∧(∀x,x∈st.done→x∈es.toList)∧(st.done.map (·.born)).Nodup∧Inv st.done st.lst)∧St w (lst0.map (·.1)) ((r0,st.o)::st.lst) w') (fun st=>es.size - st.done.length) (⟨[],o0,lst0⟩:KS) (fun st=>?_))) (fun w hw=>⟨⟨ho0,by simp,.nil,hI0⟩,hw⟩)
 obtain ⟨done,o,lst⟩:=st
 simp only
 refine JC.pr (fun hx=>?_)
 obtain ⟨hit,hsub,hnd,hInv⟩:=hx
 refine JC.seq (fun K1 hK1=>?_);refine JC.region ?_;refine J.next (l':=fun o1=>(r0,o1)::lst) rfl (fun _=>.here) hit (fun w1 hw=>by rw [hw.keep b (zj hb) hbm];exact hb) rfl (fun eo o1 hN=>?_);refine J.extract rfl (nextA_0 eo) rfl<|J.nil ?_;refine JX.qd (hK1 _ _ ?_);refine JC.seq (fun K2 hK2=>?_);refine JC.qn rfl (fun h0=>?_) (fun h0=>?_)
 ·obtain ⟨en,rfl⟩:=Option.isSome_iff_exists.1 h0
  obtain ⟨hem,hnb,hon⟩:=hN
  obtain ⟨p,hp⟩:=hkey en hem
  have hlen:done.length+1≤es.size:=by
   have h:=nodup_len (l:=(done++[en]).map (·.born)) (m:=es.toList.map (·.born)) (by rw [List.map_append];exact List.nodup_append.2 ⟨hnd,by simp,fun a ha b hb e=>hnb (by simp at hb;rw [← hb,← e];exact ha)⟩) (fun x hx=>by
    obtain ⟨y,hy,rfl⟩:=List.mem_map.1 hx
    refine List.mem_map.2 ⟨y,?_,rfl⟩
    exact (List.mem_append.1 hy).elim (hsub y) (fun h=>by rw [List.mem_singleton.1 h];exact hem))
   simpa using h
  refine JC.skip ?_;refine JX.qd (hK2 _ _ ?_);refine JC.block ?_;refine JC.seq (fun K3 hK3=>?_);refine JC.region<|J.entry rfl (.head _) hon hem hstamp.2.1 (fun w1 hw=>by rw [hw.keep b (zj hb) hbm];exact hb) rfl ?_;refine J.extract rfl rfl rfl<|J.name 9 rfl hp ?_;refine J.alloc Ty.z23 rfl rfl (fun b3=>?_);refine J.qN (cs:=cI zI) (vs:=cI p) Ty.s23 rfl rfl rfl rfl rfl (zN p) .here<|J.nil ?_;refine JX.qd (hK3 _ _ ?_);refine JC.seq (fun K4 hK4=>?_);refine JC.regionI ?_;refine JI.steps (α:=Unit) (os:=[_,_]) (rest:=[_,_]) (fun _=>[(0,.func (.yield lb) #[] #[]),(1,.pointer (some ⟨Bm,0,none⟩)),(5,.pointer (some ⟨r0,0,none⟩)),(10,.func (.yield lb) #[] #[]),(11,.agg (cI p).toArray)]) (fun _=>St w (lst0.map (·.1)) ((b3,cb (cI p) 23)::(r0,o1)::lst)) rfl ?_ (fun _=>?_)
  ·refine J.qe rfl rfl<|J.zB (vs:=cI p) Ty.a23 Ty.s23 rfl (.head _) rfl rfl rfl ?_
   exact J.nil (JX.qx () ⟨rfl,rfl,rfl,rfl,rfl,trivial⟩ (fun w1 hw=>hw))
  refine JI.yield (vs:=[.agg (cI p).toArray]) (R:=fun v w'=>∃lst',(v=.bool true∧Inv (done++[en]) lst')∧St w (lst0.map (·.1)) ((b3,cb (cI p) 23)::(r0,o1)::lst') w') rfl rfl rfl (fun w2 hw=>?_) (fun v=>?_)
  ·have hw':St w (lst0.map (·.1)) (lst++[(b3,cb (cI p) 23),(r0,o1)]) w2:=hw.perm zp
   obtain ⟨fn1,T1,as1,bd1,hy1,hy2⟩:=hY done en lst w2 hem (by omega) hInv hw'.owns
   rw [hp] at hy1
   refine ⟨fn1,T1,as1,bd1,hy1,hy2.mono ?_⟩
   rintro e1 w1 ⟨rfl,lst',hi',hst'⟩
   exact ⟨_,rfl,lst',⟨rfl,hi'⟩,(hw'.call hst').perm zp⟩
  refine JI.steps (α:=List (Nat × Obj)) (os:=[_]) (rest:=[]) (fun _=>[(0,.func (.yield lb) #[] #[]),(1,.pointer (some ⟨Bm,0,none⟩)),(5,.pointer (some ⟨r0,0,none⟩)),(13,.bool false)]) (fun lst' w'=>Inv (done++[en]) lst'∧St w (lst0.map (·.1)) ((b3,cb (cI p) 23)::(r0,o1)::lst') w') rfl ?_ (fun lst'=>JI.nil ?_)
  ·refine J.ex fun lst'=>J.pr fun hv=>?_
   obtain ⟨rfl,hi'⟩:=hv
   refine J.zC rfl rfl ?_
   exact J.nil (JX.qx lst' ⟨rfl,rfl,rfl,rfl,trivial⟩ (fun w1 hw=>⟨hi',hw⟩))
  refine JX.pr fun hi'=>?_
  refine JX.qd (hK4 _ _ ?_)
  first | refine JC.qI rfl ?_ | refine JC.qn rfl (fun h=>by first | (exfalso;simp at h;omega) | (simp at h)) (fun _=>?_)
  refine JC.skip<|JX.qJ<|JX.qd<|JX.qS (⟨done++[en],o1,lst'⟩:KS) ?_ ?_ ?_
  ·simp only [List.length_append,List.length_singleton];omega
  ·exact ⟨rfl,rfl,rfl,trivial⟩
  ·exact fun w1 hw=>⟨⟨by rw [List.map_append];exact hon.at,fun x hx=>(List.mem_append.1 hx).elim (hsub x) (fun h=>by rw [List.mem_singleton.1 h];exact hem),by rw [List.map_append];exact List.nodup_append.2 ⟨hnd,by simp,fun a ha b hb e=>hnb (by simp at hb;rw [← hb,← e];exact ha)⟩,hi'⟩,hw.drop (List.sublist_cons_self _ _)⟩
 ·have hnone:eo=none:=by cases eo with | none=>rfl | some e=>cases h0
  subst hnone
  obtain ⟨rfl,hall⟩:=hN
  have hperm:=done_perm hstamp.2.1 hnd hsub hall
  refine JC.qX<|JX.qE<|JX.qE<|JX.qT ?_;refine JX.end0 rfl (fun w1 hw=>?_)
  exact ⟨_,done,lst,rfl,hperm,hInv,hw.drop (List.sublist_cons_self _ _)⟩
open Go.Sort Go.Shelf
theorem vecI9 {v:Value} {xs:List IDV} {lp:List (Nat × Obj)} (h:Vec 23 16 v xs.length (fI xs) lp):(v=.slice none 0 0∧xs=[]∧lp=[])∨∃b c sp,v=.slice (some ⟨b,0,none⟩) xs.length c∧lp=[(b,cb (fI xs++sp) 23)]∧(fI xs++sp).length=c*16∧xs.length≤c:=by
 rcases h.2 with ⟨h1,h2,h3⟩ | h
 ·exact .inl ⟨h1,List.eq_nil_of_length_eq_zero h2,h3⟩
 ·exact .inr h
theorem vecI_mk {xs:List IDV} {b c:Nat} {sp:List Value} (h1:(fI xs++sp).length=c*16):Vec 23 16 (.slice (some ⟨b,0,none⟩) xs.length c) xs.length (fI xs) [(b,cb (fI xs++sp) 23)]:=by
 refine ⟨yh xs,.inr ⟨b,c,sp,rfl,rfl,h1,?_⟩⟩
 rw [List.length_append,yh] at h1
 omega
theorem fI_append9 (xs ys:List IDV):fI (xs++ys)=fI xs++fI ys:=by simp [fI]
def AppInv (Bs l D:Nat) (rec:Loop) (ss:List MapEntry) (lst:List (Nat × Obj)):Prop:=
 ∃v lp,Vec 23 16 v (ss.map kpv).length (fI (ss.map kpv)) lp∧lst=(Bs,cb [v] 101)::(l,.loop rec)::(D,.deferred (some []))::lp
theorem St.notin {w0 w:World} {l:List (Nat × Obj)} (h:St w0 [] l w) {b:Nat} (hb:b<w0.heap.size):b ∉ l.map (·.1):=fun hm=>by
 obtain ⟨q,hq,he⟩:=List.mem_map.1 hm
 rcases h.apart q hq with h1 | h1
 ·cases h1
 ·omega
theorem rec_back {rec:Loop} (h1:rec.state=.ready) (h2:rec.pending=none):({ ({ rec with state:=.busy }:Loop) with state:=.ready,pending:=none }:Loop)=rec:=by
 cases rec
 simp only at h1 h2
 subst h1
 subst h2
 rfl
theorem appendSeq_spec (Bm b clock:Nat) (es:Array MapEntry) (w:World) (hst:MapKept.Stamped es clock) (hkey:∀en,en∈es.toList→∃p:IDV,en.key=.agg (cI p).toArray) (hm:w.heap[Bm]? = some (cb [.map (some b)] 97)) (hb:w.heap[b]? = some (.map es clock)) (hn:es.size≤1099511627776) :
  Calls Try.prog 77 [.slice none 0 0,.func (.func 72) #[] #[.pointer (some ⟨Bm,0,none⟩)]].toArray w fun r w'=>∃x:List MapEntry × Value × List (Nat × Obj),r=.returned x.2.1∧(x.1.Perm es.toList∧Vec 23 16 x.2.1 x.1.length (fI (x.1.map kpv)) x.2.2)∧St w [] x.2.2 w':=by
 refine calls_of_JM (args:=[.slice none 0 0,.func (.func 72) #[] #[.pointer (some ⟨Bm,0,none⟩)]]) (e:=[(0,.slice none 0 0),(1,.func (.func 72) #[] #[.pointer (some ⟨Bm,0,none⟩)])]) Try.func77 rfl rfl ⟨rfl,rfl,trivial⟩ (St.start w) ?_;refine JC.seq (fun K0 hK0=>?_);refine JC.region ?_;refine J.box rfl rfl rfl (fun b2=>?_);refine J.assign rfl rfl<|J.nil ?_;refine JX.qd (hK0 _ _ ?_);refine JC.seqRaw ?_;refine JC.seq (fun K2 hK2=>?_);refine JC.region<|J.qe rfl rfl<|J.nil ?_;refine JX.qd (hK2 _ _ ?_);refine JC.block<|JC.rangeFS rfl Ty.bd72 ?_
 intro fn T lb Dd rec W1 hT hrec hW1
 have hst1:St w [] ([(b2,cb [.slice none 0 0] 101),(lb,.loop rec),(Dd,.deferred (some []))]++[]) W1:=hW1.perm zp
 refine Calls.mono (keys1_spec lb Bm b clock es (AppInv b2 lb Dd rec) [(b2,cb [.slice none 0 0] 101),(lb,.loop rec),(Dd,.deferred (some []))] W1 hst hkey (by rw [hst1.keep Bm (zj hm) (by simp)];exact hm) (by rw [hst1.keep b (zj hb) (by simp)];exact hb) (St.notin (l:=[(b2,cb [.slice none 0 0] 101),(lb,.loop rec),(Dd,.deferred (some []))]) hst1 (zj hm)) (St.notin (l:=[(b2,cb [.slice none 0 0] 101),(lb,.loop rec),(Dd,.deferred (some []))]) hst1 (zj hb)) hst1.owns ⟨.slice none 0 0,[],Vec.nil _ _,rfl⟩ ?_) ?_
 ·intro pre en lst W2 hem hlen hInv hown
  obtain ⟨v,lp,hv,rfl⟩:=hInv
  have hpk:=kpv_spec (hkey en hem)
  obtain ⟨p,hp⟩:∃p,kpv en=p:=⟨_,rfl⟩
  rw [hp] at hpk
  refine ⟨rec.fn,_,rec.assign,rec.body,run_yield (hown.own _ (.tail _ (.head _))) (by rw [hrec.params];rfl),?_⟩
  rw [hrec.assign,hrec.body,hrec.params,hrec.tmps,hpk]
  refine round1 ?_
  have hT7:=(hT.put (d:=7) rfl (.agg (cI p).toArray)).cov (f:=[(7,.agg (cI p).toArray),(2,.pointer (some ⟨b2,0,none⟩))]) ⟨rfl,rfl,trivial⟩
  refine roundIn_of_J (α:=Nat) (β:=Value × List (Nat × Obj)) (I:=St W2 (((b2,cb [v] 101)::(lb,.loop rec)::(Dd,.deferred (some []))::lp).map (·.1)) ((b2,cb [v] 101)::(lb,.loop rec)::(Dd,.deferred (some []))::lp)) (fun b5=>[(2,.pointer (some ⟨b2,0,none⟩)),(5,.pointer (some ⟨b5,0,none⟩))])
   (fun b5=>St W2 (((b2,cb [v] 101)::(lb,.loop rec)::(Dd,.deferred (some []))::lp).map (·.1)) ((b5,cb (cI p) 23)::(b2,cb [v] 101)::(lb,.loop rec)::(Dd,.deferred (some []))::lp)) (fun b5=>St W2 (((b2,cb [v] 101)::(lb,.loop rec)::(Dd,.deferred (some []))::lp).map (·.1)) ((b5,cb (cI p) 23)::(b2,cb [v] 101)::(lb,.loop { rec with state:=.busy })::(Dd,.deferred (some []))::lp))
   (fun z w1=>Vec 23 16 z.1 ((pre++[en]).map kpv).length (fI ((pre++[en]).map kpv)) z.2∧St W2 (((b2,cb [v] 101)::(lb,.loop rec)::(Dd,.deferred (some []))::lp).map (·.1)) ((b2,cb [z.1] 101)::(lb,.loop { rec with state:=.busy })::(Dd,.deferred (some []))::z.2) w1) rfl rfl ?_ ?_ ?_ ?_ hT7 hown.st
  ·refine J.alloc Ty.z23 rfl rfl (fun b5=>?_);refine J.qN (cs:=cI zI) (vs:=cI p) Ty.s23 rfl rfl rfl rfl rfl (zN p) .here ?_
   exact J.nil (JX.qx b5 ⟨rfl,rfl,trivial⟩ (fun w1 hw=>hw))
  ·intro b5 w1 hw
   exact ⟨rec,hw.own _ (.tail _ (.tail _ (.head _))),hrec.state,hw.wrote (.there (.there .here)) (wrote_put (hw.own _ (.tail _ (.tail _ (.head _)))))⟩
  ·intro b5
   refine J.qQ (v:=v) Ty.a101 rfl (.tail _ (.head _)) rfl rfl<|J.zB (vs:=cI p) Ty.a23 Ty.s23 rfl (.head _) rfl rfl rfl ?_;refine J.za (cs:=cI p) Ty.el101 Ty.s23 Ty.z23 rfl rfl rfl rfl (by kernel_rfl) rfl rfl (fun zX=>?_);refine J.perm (lp++[(zX,cb (cI p) 23),(b5,cb (cI p) 23),(b2,cb [v] 101),(lb,.loop { rec with state:=.busy }),(Dd,.deferred (some []))]) zp ?_
   have hpl:(pre.map kpv).length<es.size:=by rw [List.length_map];exact hlen
   refine J.qZ (lp:=lp) (xs:=fI (pre.map kpv)) (ys:=cI p) (k:=(pre.map kpv).length) (m:=1) Ty.el101 Ty.s23 Ty.b23 Ty.z23 rfl (.inl ⟨23,Ty.u101⟩) rfl rfl hv (fun w3 hw3=>.inl (Row.own hw3 (List.mem_append_right _ (.head _)) rfl (Nat.le_refl _))) rfl (zN p) (by omega) (by omega) rfl (fun v2 lp2 hv2=>?_)
   obtain ⟨a2,c2,rfl,hc2⟩:=hv2.form
   refine J.perm ((b2,cb [v] 101)::(lb,.loop { rec with state:=.busy })::(Dd,.deferred (some []))::(lp2++[(zX,cb (cI p) 23),(b5,cb (cI p) 23)])) zp<|J.qU (cs:=[v]) (vs:=[.slice a2 ((pre.map kpv).length+1) c2]) Ty.s101 rfl rfl rfl rfl (by simp [Value.oneCell']) .here (by simp) ?_
   refine J.nil (JX.qx (.slice a2 ((pre.map kpv).length+1) c2,lp2) trivial (fun w1 hw=>⟨?_,hw.drop (.cons_cons _ (.cons_cons _ (.cons_cons _ (List.sublist_append_left _ _))))⟩))
   rw [List.map_append,List.length_append,fI_append9,List.map_cons,List.map_nil,hp]
   simpa [fI] using hv2
  ·rintro ⟨v2,lp2⟩ w1 ⟨hv2,hw⟩
   refine ⟨{ rec with state:=.busy },hw.own _ (.tail _ (.head _)),rfl,_,⟨v2,lp2,hv2,rfl⟩,?_⟩
   have h:=hw.wrote (.there .here) (wrote_put (o':=.loop { ({ rec with state:=.busy }:Loop) with state:=.ready,pending:=none }) (hw.own _ (.tail _ (.head _))))
   rw [rec_back hrec.state hrec.pending] at h ⊢
   exact h
 ·rintro r w3 ⟨v0,done,lst',rfl,hperm,⟨v,lp,hv,rfl⟩,hst3⟩
  have hst4:=hst1.call hst3
  rw [List.append_nil] at hst4
  refine ⟨v0,rfl,hst4.own _ (.tail _ (.head _)),?_⟩
  have hst5:=hst4.wrote (.there .here) (wrote_put (o':=.loop { rec with state:=.exhausted }) (hst4.own _ (.tail _ (.head _))))
  show (Code.seq _ _).wp _ _ _ _
  refine wp_seq (wp_region_more (α:=Unit) (e:=[(2,.pointer (some ⟨b2,0,none⟩))]) (I:=St w [] ((b2,cb [v] 101)::(lb,.loop { rec with state:=.exhausted })::(Dd,.deferred (some []))::lp)) (E:=fun _=>[(4,v)]) (I':=fun _=>St w [] ((b2,cb [v] 101)::(lb,.loop { rec with state:=.exhausted })::(Dd,.deferred (some []))::lp)) ?_ (hT.cov ⟨rfl,trivial⟩) hst5 (fun _ T2 w5 hT2 hw5=>wp_ret ?_))
  ·refine J.qQ (v:=v) Ty.a101 rfl (.head _) rfl rfl<|J.assign rfl rfl ?_
   exact J.nil (JX.qx () ⟨rfl,trivial⟩ (fun w1 hw=>hw))
  ·refine ⟨by simp,.inl ⟨Dd,_,rfl,run_takeDeferred (hw5.own _ (.tail _ (.tail _ (.head _)))),?_⟩⟩
   have hst6:=hw5.wrote (.there (.there .here)) (wrote_put (o':=.deferred none) (hw5.own _ (.tail _ (.tail _ (.head _)))))
   refine ⟨v,?_,(done,v,lp),rfl,⟨hperm,?_⟩,hst6.drop (.cons _ (.cons _ (.cons _ (List.Sublist.refl _))))⟩
   ·rw [results_tmp rfl,Array.getD_eq_getD_getElem?,hT2.2 4 v rfl];rfl
   ·rw [List.length_map] at hv
    exact hv
theorem collect_spec (Bm b clock:Nat) (es:Array MapEntry) (w:World) (hst:MapKept.Stamped es clock) (hkey:∀en,en∈es.toList→∃p:IDV,en.key=.agg (cI p).toArray) (hm:w.heap[Bm]? = some (cb [.map (some b)] 97)) (hb:w.heap[b]? = some (.map es clock)) (hn:es.size≤1099511627776) :
  Calls Try.prog 70 [.func (.func 72) #[] #[.pointer (some ⟨Bm,0,none⟩)]].toArray w fun r w'=>∃x:List MapEntry × Value × List (Nat × Obj),r=.returned x.2.1∧(x.1.Perm es.toList∧Vec 23 16 x.2.1 x.1.length (fI (x.1.map kpv)) x.2.2)∧St w [] x.2.2 w':=by
 refine qD (args:=[.func (.func 72) #[] #[.pointer (some ⟨Bm,0,none⟩)]]) (e:=[(0,.func (.func 72) #[] #[.pointer (some ⟨Bm,0,none⟩)])]) Try.func70 rfl rfl ⟨rfl,trivial⟩ (St.start w) ?_;refine JC.seq (fun K0 hK0=>?_);refine JC.region<|J.assign rfl rfl<|J.nil ?_;refine JX.qd (hK0 _ _ ?_);refine JC.seq (fun K1 hK1=>?_);refine JC.region<|J.qe rfl rfl<|J.perm ([]++[]) (.refl _) ?_;refine J.qO (α:=List MapEntry × Value × List (Nat × Obj)) (V:=(·.2.1)) (Pr:=fun x=>x.1.Perm es.toList∧Vec 23 16 x.2.1 x.1.length (fI (x.1.map kpv)) x.2.2) (L:=(·.2.2)) (l1:=[]) Ty.bd77 rfl rfl (fun w1 hw=>appendSeq_spec Bm b clock es w1 hst hkey (by rw [hw.keep Bm (zj hm) (by simp)];exact hm) (by rw [hw.keep b (zj hb) (by simp)];exact hb) hn) (fun x hx=>?_)
 obtain ⟨ss,vs,ls⟩:=x
 simp only [List.append_nil] at hx ⊢
 refine J.assign rfl rfl<|J.nil ?_;refine JX.qd (hK1 _ _ ?_);refine JC.qA ?_;refine JX.qL rfl rfl (fun w hw=>?_)
 exact ⟨(ss,vs,ls),rfl,hx,hw⟩
theorem sortI_vec (v:Value) (xs:List IDV) (lp:List (Nat × Obj)) (w:World) (hv:Vec 23 16 v xs.length (fI xs) lp) (hw0:Own w lp) (hlen:xs.length<4611686018427387904) :
  Calls Try.prog 71 [v,.func (.func 43) #[] #[]].toArray w fun r w'=>∃x:List IDV × List (Nat × Obj),r=.returned (.tuple #[])∧(x.1.Perm xs∧x.1.Pairwise (fun a b=>ltI b a=false)∧Vec 23 16 v x.1.length (fI x.1) x.2)∧St w (lp.map (·.1)) x.2 w':=by
 rcases vecI9 hv with ⟨rfl,rfl,rfl⟩ | ⟨b,c,sp,rfl,rfl,h1,h2⟩
 ·exact (AnyF.slices_SortFunc_none Try.sortI none 0 _ w).mono fun r w' ⟨h1,h2⟩=>⟨([],[]),h1,⟨.refl _,.nil,Vec.nil _ _⟩,by rw [h2];exact St.start w⟩
 ·refine (sortI_spec b xs sp c w (hw0.own _ (.head _)) hlen).mono fun r w' ⟨ys,h3,h4,h5⟩=>?_
  have hl:=h4.1.length_eq
  refine ⟨(ys,[_]),h3,⟨h4.1,h4.2,?_⟩,h5⟩
  have:=vecI_mk (xs:=ys) (b:=b) (c:=c) (sp:=sp) (by rw [List.length_append,yh,hl,← yh,← List.length_append];exact h1)
  rw [hl] at this ⊢
  exact this
theorem sortedFunc_spec (Bm b clock:Nat) (es:Array MapEntry) (w:World) (hst:MapKept.Stamped es clock) (hkey:∀en,en∈es.toList→∃p:IDV,en.key=.agg (cI p).toArray) (hm:w.heap[Bm]? = some (cb [.map (some b)] 97)) (hb:w.heap[b]? = some (.map es clock)) (hn:es.size≤1099511627776) :
  Calls Try.prog 48 [.func (.func 72) #[] #[.pointer (some ⟨Bm,0,none⟩)],.func (.func 43) #[] #[]].toArray w fun r w'=>∃x:List IDV × Value × List (Nat × Obj),r=.returned x.2.1∧(x.1.Perm (es.toList.map kpv)∧x.1.Pairwise (fun a b=>ltI b a=false)∧Vec 23 16 x.2.1 x.1.length (fI x.1) x.2.2)∧St w [] x.2.2 w':=by
 refine qD (args:=[.func (.func 72) #[] #[.pointer (some ⟨Bm,0,none⟩)],.func (.func 43) #[] #[]]) (e:=[(0,.func (.func 72) #[] #[.pointer (some ⟨Bm,0,none⟩)]),(1,.func (.func 43) #[] #[])]) Try.func48 rfl rfl ⟨rfl,rfl,trivial⟩ (St.start w) ?_;refine JC.seq (fun K0 hK0=>?_);refine JC.region<|J.assign rfl rfl<|J.nil ?_;refine JX.qd (hK0 _ _ ?_);refine JC.seq (fun K1 hK1=>?_);refine JC.region<|J.qe rfl rfl<|J.perm ([]++[]) (.refl _) ?_;refine J.qO (α:=List MapEntry × Value × List (Nat × Obj)) (V:=(·.2.1)) (Pr:=fun x=>x.1.Perm es.toList∧Vec 23 16 x.2.1 x.1.length (fI (x.1.map kpv)) x.2.2) (L:=(·.2.2)) (l1:=[]) Ty.bd70 rfl rfl (fun w1 hw=>collect_spec Bm b clock es w1 hst hkey (by rw [hw.keep Bm (zj hm) (by simp)];exact hm) (by rw [hw.keep b (zj hb) (by simp)];exact hb) hn) (fun x hx=>?_)
 obtain ⟨ss,vs,ls⟩:=x
 simp only [List.append_nil] at hx ⊢
 refine J.assign rfl rfl<|J.nil ?_;refine JX.qd (hK1 _ _ ?_);refine JC.seq (fun K2 hK2=>?_);refine JC.region<|J.qe rfl rfl<|J.qe rfl rfl ?_
 have hl2:=hx.1.length_eq
 refine J.perm (ls++[]) (by simp) ?_;refine J.qO (α:=List IDV × List (Nat × Obj)) (V:=fun _=>.tuple #[]) (Pr:=fun x=>x.1.Perm (ss.map kpv)∧x.1.Pairwise (fun a b=>ltI b a=false)∧Vec 23 16 vs x.1.length (fI x.1) x.2) (L:=(·.2)) (l1:=ls) Ty.bd71 rfl rfl (fun w1 hw=>sortI_vec vs (ss.map kpv) ls w1 (by rw [List.length_map];exact hx.2) hw.owns (by rw [List.length_map];simp at hl2;omega)) (fun x hs=>?_)
 obtain ⟨ks,lk⟩:=x
 simp only [List.append_nil] at hs ⊢
 refine J.nil ?_;refine JX.qd (hK2 _ _ ?_);refine JC.seq (fun K3 hK3=>?_);refine JC.region<|J.qe rfl rfl<|J.assign rfl rfl<|J.nil ?_;refine JX.qd (hK3 _ _ ?_);refine JC.qA ?_;refine JX.qL rfl rfl (fun w hw=>?_)
 exact ⟨(ks,vs,lk),rfl,⟨hs.1.trans (hx.1.map _),hs.2⟩,hw⟩
theorem keys_spec (b:Nat) (w:World) :
  Calls Try.prog 49 [.map (some b)].toArray w fun r w'=>∃Bm:Nat,r=.returned (.func (.func 72) #[] #[.pointer (some ⟨Bm,0,none⟩)])∧St w [] [(Bm,cb [.map (some b)] 97)] w':=by
 refine qD (args:=[.map (some b)]) (e:=[(0,.map (some b))]) Try.func49 rfl rfl ⟨rfl,trivial⟩ (St.start w) ?_;refine JC.seq (fun K0 hK0=>?_);refine JC.region ?_;refine J.box rfl rfl rfl (fun b1=>?_);refine J.assign rfl rfl<|J.nil ?_;refine JX.qd (hK0 _ _ ?_);refine JC.seq (fun K1 hK1=>?_);refine JC.region<|J.makeFn rfl rfl<|J.assign rfl rfl<|J.nil ?_;refine JX.qd (hK1 _ _ ?_);refine JC.qA ?_;refine JX.qL rfl rfl (fun w hw=>?_)
 exact ⟨b1,rfl,hw⟩
set_option maxRecDepth 8000
def SrtOf (A B:List ItV):Prop:=B.Perm A∧B.Pairwise (fun a b=>valI a.key<valI b.key)
theorem Vm.kpv {L:List HI} {es:Array MapEntry} {ck:Nat} (h:Vm L es ck):es.toList.map kpv=L.map (·.key):=by
 refine List.ext_getElem? fun i=>?_
 rw [List.getElem?_map,List.getElem?_map]
 cases he:es.toList[i]? with
 | none=>
  have h1:=congrArg (fun l=>l[i]?) h.eq
  simp only [List.getElem?_map,he,Option.map_none] at h1
  cases hL:L[i]? with
  | none=>rfl
  | some x=>rw [hL] at h1;cases h1
 | some e=>
  obtain ⟨x,hx,h1,_⟩:=h.get' he
  rw [hx]
  have h2:=kpv_spec ⟨x.key,h1⟩
  rw [h1] at h2
  simp only [Option.map_some,cI_eq.1 (agg_inj.1 h2)]
theorem Vm.size {L:List HI} {es:Array MapEntry} {ck:Nat} (h:Vm L es ck):es.size=L.length:=by
 have:=congrArg List.length h.eq
 simpa using this
theorem keyed {L:List HI} (hd:L.Pairwise (fun x y=>x.key≠y.key)):(L.map (·.key)).map (fun k=>((hget L k).getD zH).it)=L.map HI.it:=by
 rw [List.map_map]
 refine List.map_congr_left fun x hx=>?_
 obtain ⟨i,hi⟩:=List.mem_iff_getElem?.1 hx
 show ((hget L x.key).getD zH).it=x.it
 rw [hget_at hd hi];rfl
theorem hget_in {L:List HI} {k:IDV} (h:k∈L.map (·.key)):∃x,hget L k=some x∧x∈L∧x.key=k:=by
 obtain ⟨x,hx,rfl⟩:=List.mem_map.1 h
 cases hg:hget L x.key with
 | none=>exact absurd rfl (hget_none.1 hg x hx)
 | some y=>exact ⟨y,rfl,(zT hg).1,(zT hg).2⟩
theorem all_srt {L:List HI} (hd:L.Pairwise (fun x y=>x.key≠y.key)) {ks:List IDV} (hp:ks.Perm (L.map (·.key))) (hs:ks.Pairwise (fun a b=>ltI b a=false)):SrtOf (L.map HI.it) (ks.map (fun k=>((hget L k).getD zH).it)):=by
 refine ⟨(hp.map _).trans (by rw [keyed hd]),?_⟩
 rw [List.pairwise_map]
 have hn:ks.Nodup:=hp.nodup_iff.2 (by rw [List.Nodup,List.pairwise_map];exact hd)
 refine (hs.and hn).imp_of_mem fun {a b} ha hb h=>?_
 obtain ⟨x,hx,_,hxk⟩:=hget_in (hp.mem_iff.1 ha)
 obtain ⟨y,hy,_,hyk⟩:=hget_in (hp.mem_iff.1 hb)
 rw [hx,hy]
 show valI x.key<valI y.key
 rw [hxk,hyk]
 have h1:=h.1
 rw [Bool.eq_false_iff,ne_eq,ltI_iff] at h1
 have h2:valI a≠valI b:=fun e=>h.2 (valI_inj e)
 omega
structure AlS where
 i:Nat
 ys:List HI
 v:Value
 lv:List (Nat × Obj)
theorem cHs_len (ys:List HI):(ys.flatMap cH).length=ys.length*34:=by
 induction ys with
 | nil=>rfl
 | cons y ys ih=>
  rw [List.flatMap_cons,List.length_append,ih,List.length_cons]
  show 34+_=_
  omega
set_option maxHeartbeats 1000000 in
theorem vall_spec (vb mb:Nat) (lv:Value) (inc:Int) (L:List HI) (es:Array MapEntry) (ck:Nat) (hT:Vm L es ck) (hV:VOK L) (hLn:L.length≤1000) (w:World) (hw0:Own w [(vb,vaO lv mb inc),(mb,.map es ck)]) (hrows:∀x,x∈L→Row w x.sv x.bs.length (x.bs.map u8)∧Off [vb,mb] x.sv (x.bs.map u8)∧x.bs.length≤1000) :
  Calls Try.prog 20 [.pointer (some ⟨vb,0,none⟩)].toArray w fun r w'=>∃x:List HI × Value × List (Nat × Obj),r=.returned x.2.1∧(SrtOf (L.map HI.it) (x.1.map HI.it)∧VOK x.1∧Vec 28 34 x.2.1 (x.1).length ((x.1).flatMap cH) x.2.2)∧St w [vb,mb] (x.2.2++(lpsH x.1++[(vb,vaO lv mb inc),(mb,.map es ck)])) w':=by
 refine qD (args:=[.pointer (some ⟨vb,0,none⟩)]) (e:=[(0,.pointer (some ⟨vb,0,none⟩))]) Try.func20 rfl rfl ⟨rfl,trivial⟩ (hw0.st) ?_;refine JC.seq (fun K0 hK0=>?_);refine JC.region<|J.assign rfl rfl<|J.nil ?_;refine JX.qd (hK0 _ _ ?_);refine JC.seq (fun K1 hK1=>?_);refine JC.seq (fun K2 hK2=>?_);refine JC.region<|J.qe rfl rfl<|J.zh Ty.u38 rfl rfl rfl<|J.nil ?_;refine JX.qd (hK2 _ _ ?_)
 first | refine JC.qI rfl ?_ | refine JC.qn rfl (fun h=>by first | (exfalso;simp at h;omega) | (simp at h)) (fun _=>?_)
 refine JC.skip ?_;refine JX.qd (hK1 _ _ ?_);refine JC.seq (fun K3 hK3=>?_);refine JC.region<|J.assign rfl rfl<|J.nil ?_;refine JX.qd (hK3 _ _ ?_);refine JC.seq (fun K4 hK4=>?_);refine JC.seq (fun K5 hK5=>?_);refine JC.region<|J.qe rfl rfl<|J.qq rfl rfl<|J.qi Ty.fd99_1 rfl rfl<|J.qw (v:=.map (some mb)) Ty.a97 rfl (fun w1 hw=>by rw [qB (hw.own ((vb,vaO lv mb inc)) zm)];rfl) rfl ?_;refine J.perm ([]++((vb,vaO lv mb inc)::(mb,.map es ck)::[])) (.refl _) ?_;refine J.qO (α:=Nat) (V:=fun Bm=>.func (.func 72) #[] #[.pointer (some ⟨Bm,0,none⟩)]) (Pr:=fun _=>True) (L:=fun Bm=>[(Bm,cb [.map (some mb)] 97)]) (l1:=[]) Ty.bd49 rfl rfl (fun w1 hw=>(keys_spec mb w1).mono fun _ _ ⟨Bm,h1,h2⟩=>⟨Bm,h1,trivial,h2⟩) (fun Bm _=>?_);refine J.perm ([]++((Bm,cb [.map (some mb)] 97)::(vb,vaO lv mb inc)::(mb,.map es ck)::[])) (.refl _) ?_
 refine J.qO (α:=List IDV × Value × List (Nat × Obj)) (V:=(·.2.1)) (Pr:=fun x=>x.1.Perm (es.toList.map kpv)∧x.1.Pairwise (fun a b=>ltI b a=false)∧Vec 23 16 x.2.1 x.1.length (fI x.1) x.2.2) (L:=(·.2.2)) (l1:=[]) Ty.bd48 rfl rfl (fun w1 hw=>sortedFunc_spec Bm mb ck es w1 hT.st (fun en hen=>by
  obtain ⟨i,hi⟩:=List.mem_iff_getElem?.1 hen
  obtain ⟨x,_,h1,_⟩:=hT.get' hi
  exact ⟨x.key,h1⟩) (hw.own ((Bm,cb [.map (some mb)] 97)) zm) (hw.own ((mb,.map es ck)) zm) (by rw [hT.size];omega)) (fun x hx=>?_)
 obtain ⟨ks,vk,lk⟩:=x
 obtain ⟨hkp,hks,hvk⟩:=hx
 try simp only at hkp hks hvk ⊢
 rw [hT.kpv] at hkp
 have hkl:ks.length=L.length:=by have:=hkp.length_eq;rwa [List.length_map] at this
 obtain ⟨ak,ckk,rfl,hckk⟩:=hvk.form
 refine J.qK rfl Ty.u101 rfl rfl<|J.qe rfl rfl<|J.nil ?_;refine JX.qd (hK5 _ _ ?_);refine JC.block ?_
 refine JC.conseq (JC.cov (f:=(fun st=>[(0,.pointer (some ⟨vb,0,none⟩)),(3,st.v),(13,.slice ak ks.length ckk),(14,.int .i64 ((ks.length:Nat):Int)),(15,.int .i64 ((st.i:Nat):Int))]) (⟨0,[],.slice none 0 0,[]⟩:AlS)) ⟨rfl,rfl,rfl,rfl,rfl,trivial⟩ (JC.loop (α:=AlS) (fun st=>[(0,.pointer (some ⟨vb,0,none⟩)),(3,st.v),(13,.slice ak ks.length ckk),(14,.int .i64 ((ks.length:Nat):Int)),(15,.int .i64 ((st.i:Nat):Int))]) (fun st w'=>(st.i≤ks.length∧st.ys.map HI.it=(ks.take st.i).map (fun k=>((hget L k).getD zH).it)∧VOK st.ys∧Vec 28 34 st.v (st.ys).length ((st.ys).flatMap cH) st.lv)∧St w [vb,mb] (st.lv++(lpsH st.ys++(lk++((Bm,cb [.map (some mb)] 97)::(vb,vaO lv mb inc)::(mb,.map es ck)::[])))) w') (fun st=>ks.length - st.i) (⟨0,[],.slice none 0 0,[]⟩:AlS) (fun st=>?_))) (fun w hw=>⟨⟨Nat.zero_le _,rfl,VOK.nil,Vec.nil _ _⟩,hw⟩)
 obtain ⟨i,ys,v10,l10⟩:=st
 refine JC.pr (fun hI=>?_)
 obtain ⟨hi,hys,hok,hv10⟩:=hI
 try simp only at hi hys hok hv10 ⊢
 have hyl:ys.length=i:=by
  have:=congrArg List.length hys
  rw [List.length_map,List.length_map,List.length_take] at this
  omega
 refine JC.seq (fun K6 hK6=>?_);refine JC.region<|J.qj rfl rfl rfl rfl<|J.nil ?_;refine JX.qd (hK6 _ _ ?_);refine JC.seq (fun K7 hK7=>?_);refine JC.qn rfl (fun h1=>?_) (fun h1=>?_)
 ·have hlt:i<ks.length:=by simp at h1;omega
  obtain ⟨kk,hkk⟩:∃x,ks[i]? = some x:=⟨_,List.getElem?_eq_getElem hlt⟩
  obtain ⟨O,hOg,hOm,hOk⟩:=hget_in (hkp.mem_iff.1 (List.mem_of_getElem? hkk))
  have hO:(hget L kk).getD zH=O:=by rw [hOg];rfl
  obtain ⟨hOr,hOf,hOl⟩:=hrows O hOm
  have hon:=(hV O hOm).1
  obtain ⟨qk,hqk⟩:∃q,ak=some ⟨q,0,none⟩:=by
   rcases hvk.2 with ⟨_,h9,_⟩ | ⟨q,c9,sp,h9,_⟩
   ·omega
   ·simp only [Value.slice.injEq] at h9;exact ⟨q,h9.1⟩
  subst hqk
  refine JC.skip ?_;refine JX.qd (hK7 _ _ ?_);refine JC.seq (fun K8 hK8=>?_);refine JC.block ?_;refine JC.seq (fun K9 hK9=>?_);refine JC.region<|J.qu Ty.el101 Ty.s23 rfl rfl (by omega) (by omega) rfl ?_;refine J.qC (vs:=cI kk) Ty.a23 Ty.s23 rfl rfl (fun w1 hw=>rowF_at (o:=0) (qW hvk hw zq) hkk (by simp)) rfl ?_;refine J.alloc Ty.zID rfl rfl (fun b5=>?_);refine J.qN (cs:=cI zI) (vs:=cI kk) Ty.s23 rfl rfl rfl rfl rfl (zN _) .here<|J.nil ?_;refine JX.qd (hK9 _ _ ?_)
  apply JC.zd (α:=Option Addr × Nat × List (Nat × Obj) × Nat) 9 (fun x=>match x with | ⟨a26,c26,l26,x27⟩=>[v10,.pointer (some ⟨vb,0,none⟩),.pointer (some ⟨vb,0,none⟩),.pointer (some ⟨vb,0+1,none⟩),.map (some mb),.agg (cI kk).toArray,.agg (cH O).toArray,.agg (cT O.key O.ver (.slice a26 O.bs.length c26)).toArray,.slice (some ⟨x27,0,none⟩) 1 1]) (fun m x=>match x with | ⟨a26,c26,l26,x27⟩=>fun w1=>((m 7=true→Vec 5 1 (.slice a26 O.bs.length c26) (O.bs).length ((O.bs).map u8) l26)∧(m 8=true→m 7=true))∧St w [vb,mb] ((bif m 7 then l26 else [])++((bif m 8 then [(x27,cb (cT O.key O.ver (.slice a26 O.bs.length c26)) 28)] else [])++((b5,cb (cI kk) 23)::(l10++(lpsH ys++(lk++((Bm,cb [.map (some mb)] 97)::(vb,vaO lv mb inc)::(mb,.map es ck)::[]))))))) w1) Ty.mixed rfl rfl rfl (by kernel_rfl) rfl rfl ?hinit ?hstep ?htail
  case hinit=>exact fun w1 hw=>⟨(none,0,[],0),⟨fun h=>(by cases h),fun h=>(by cases h)⟩,hw.drew⟩
  case hstep=>
   refine ⟨fun m x hm hp=>?_,fun m x hm hp=>?_,fun m x hm hp=>?_,fun m x hm hp=>?_,fun m x hm hp=>?_,fun m x hm hp=>?_,fun m x hm hp=>?_,fun m x hm hp=>?_,fun m x hm hp=>?_,trivial⟩
   ·obtain ⟨a26,c26,l26,x27⟩:=x
    show J _ _ _ _ _ (_) _
    refine J.pr (fun hF=>?_);refine J.qe rfl rfl ?_
    exact J.ql rfl (fun _ hw=>⟨⟨a26,c26,l26,x27⟩,rfl,fun _ _ _=>rfl,hF,hw⟩)
   ·obtain ⟨a26,c26,l26,x27⟩:=x
    show J _ _ _ _ _ (_) _
    refine J.pr (fun hF=>?_);refine J.qe rfl rfl ?_
    exact J.ql rfl (fun _ hw=>⟨⟨a26,c26,l26,x27⟩,rfl,fun _ _ _=>rfl,hF,hw⟩)
   ·obtain ⟨a26,c26,l26,x27⟩:=x
    show J _ _ _ _ _ ((20,.pointer (some ⟨vb,0,none⟩))::_) _
    refine J.pr (fun hF=>?_);refine J.qq rfl rfl ?_
    exact J.ql rfl (fun _ hw=>⟨⟨a26,c26,l26,x27⟩,rfl,fun _ _ _=>rfl,hF,hw⟩)
   ·obtain ⟨a26,c26,l26,x27⟩:=x
    show J _ _ _ _ _ ((21,.pointer (some ⟨vb,0,none⟩))::_) _
    refine J.pr (fun hF=>?_);refine J.qi Ty.fd99_1 rfl rfl ?_
    exact J.ql rfl (fun _ hw=>⟨⟨a26,c26,l26,x27⟩,rfl,fun _ _ _=>rfl,hF,hw⟩)
   ·obtain ⟨a26,c26,l26,x27⟩:=x
    show J _ _ _ _ _ ((22,.pointer (some ⟨vb,0+1,none⟩))::_) _
    refine J.pr (fun hF=>?_);refine J.qw (v:=.map (some mb)) Ty.a97 rfl (fun w1 hw=>by rw [qB (hw.own ((vb,vaO lv mb inc)) zm)];rfl) rfl ?_
    exact J.ql rfl (fun _ hw=>⟨⟨a26,c26,l26,x27⟩,rfl,fun _ _ _=>rfl,hF,hw⟩)
   ·obtain ⟨a26,c26,l26,x27⟩:=x
    show J _ _ _ _ _ (_) _
    refine J.pr (fun hF=>?_);refine J.qC (vs:=cI kk) Ty.a23 Ty.s23 rfl rfl (fun w1 hw=>Cells.of_block (hw.own ((b5,cb (cI kk) 23)) zm) rfl) rfl ?_
    exact J.ql rfl (fun _ hw=>⟨⟨a26,c26,l26,x27⟩,rfl,fun _ _ _=>rfl,hF,hw⟩)
   ·obtain ⟨a26,c26,l26,x27⟩:=x
    show J _ _ _ _ _ ((24,.agg (cI kk).toArray)::(23,.map (some mb))::_) _
    refine J.pr (fun hF=>?_);refine J.lookV1 Ty.u97 Ty.KI Ty.keyI Ty.zIt rfl rfl hT (fun w1 hw=>hw.own ((mb,.map es ck)) zm) rfl ?_;refine J.name 25 rfl (show _=Value.agg (cH O).toArray by rw [hO]) ?_
    exact J.ql rfl (fun _ hw=>⟨⟨a26,c26,l26,x27⟩,rfl,fun _ _ _=>rfl,hF,hw⟩)
   ·obtain ⟨a26,c26,l26,x27⟩:=x
    show J _ _ _ _ _ ((25,.agg (cH O).toArray)::_) _
    refine J.pr (fun hF=>?_)
    have h8:m 8=false:=by cases h:m 8 with
     | false=>rfl
     | true=>rw [hF.2 h] at hm;cases hm
    refine J.conseq (I':=St w [vb,mb] ((b5,cb (cI kk) 23)::(l10++(lpsH ys++(lk++((Bm,cb [.map (some mb)] 97)::(vb,vaO lv mb inc)::(mb,.map es ck)::[])))))) ?_ (fun w1 hw=>by simp only [hm,h8,cond_false,List.nil_append] at hw;exact hw)
    refine J.perm ([]++((b5,cb (cI kk) 23)::(l10++(lpsH ys++(lk++((Bm,cb [.map (some mb)] 97)::(vb,vaO lv mb inc)::(mb,.map es ck)::[])))))) (.refl _) ?_;refine J.qO (α:=Value × List (Nat × Obj)) (V:=fun y=>.agg (cT O.key O.ver y.1).toArray) (Pr:=fun y=>Vec 5 1 y.1 (O.bs).length ((O.bs).map u8) y.2) (L:=(·.2)) (l1:=[]) Ty.bd47 rfl rfl (fun w1 hw=>yK (cH O) O.key O.ver O.bs O.sv w1 rfl (hOr.st hOf hw) (by omega)) (fun y hyn=>?_)
    obtain ⟨vn,ln⟩:=y
    try simp only at hyn ⊢
    obtain ⟨an,cn,rfl,hcn9⟩:=hyn.form
    refine J.nil (JX.zR rfl (fun w1 hw=>⟨⟨⟨an,cn,ln,x27⟩,rfl,fun j h1 h2=>?_,?_⟩,trivial⟩))
    ·match j,h1 with
     | 0,_=>(first | rfl | trivial)
     | 1,_=>(first | rfl | trivial)
     | 2,_=>(first | rfl | trivial)
     | 3,_=>(first | rfl | trivial)
     | 4,_=>(first | rfl | trivial)
     | 5,_=>(first | rfl | trivial)
     | 6,_=>(first | rfl | trivial)
     | 7,_=>exact absurd (h2.symm.trans hm) (by decide)
     | 8,_=>(first | rfl | trivial)
     | j+9,h1=>omega
    show ((true=true→Vec 5 1 (.slice an O.bs.length cn) (O.bs).length ((O.bs).map u8) ln)∧(m 8=true→true=true))∧St w [vb,mb] ((bif true then ln else [])++((bif m 8 then [(x27,cb (cT O.key O.ver (.slice an O.bs.length cn)) 28)] else [])++((b5,cb (cI kk) 23)::(l10++(lpsH ys++(lk++((Bm,cb [.map (some mb)] 97)::(vb,vaO lv mb inc)::(mb,.map es ck)::[]))))))) w1
    simp only [hm,h8,cond_true,cond_false,List.nil_append] at hw ⊢
    exact ⟨⟨fun _=>hyn,fun h=>(by cases h)⟩,hw.perm zp⟩
   ·obtain ⟨a26,c26,l26,x27⟩:=x
    show J _ _ _ _ _ ((26,.agg (cT O.key O.ver (.slice a26 O.bs.length c26)).toArray)::_) _
    have hp7:m 7=true:=yV hp (by kernel_rfl)
    refine J.pr (fun hF=>?_)
    refine J.conseq (I':=St w [vb,mb] (l26++((b5,cb (cI kk) 23)::(l10++(lpsH ys++(lk++((Bm,cb [.map (some mb)] 97)::(vb,vaO lv mb inc)::(mb,.map es ck)::[]))))))) ?_ (fun w1 hw=>by simp only [hm,hp7,cond_true,cond_false,List.nil_append] at hw;exact hw)
    refine J.za (cs:=cT O.key O.ver (.slice a26 O.bs.length c26)) Ty.el44 Ty.s28 Ty.zIt rfl rfl rfl rfl (by kernel_rfl) rfl rfl (fun b27=>?_)
    refine J.nil (JX.zR rfl (fun w1 hw=>⟨⟨⟨a26,c26,l26,b27⟩,rfl,fun j h1 h2=>?_,?_⟩,trivial⟩))
    ·match j,h1 with
     | 0,_=>(first | rfl | trivial)
     | 1,_=>(first | rfl | trivial)
     | 2,_=>(first | rfl | trivial)
     | 3,_=>(first | rfl | trivial)
     | 4,_=>(first | rfl | trivial)
     | 5,_=>(first | rfl | trivial)
     | 6,_=>(first | rfl | trivial)
     | 7,_=>(first | rfl | trivial)
     | 8,_=>exact absurd (h2.symm.trans hm) (by decide)
     | j+9,h1=>omega
    show ((m 7=true→Vec 5 1 (.slice a26 O.bs.length c26) (O.bs).length ((O.bs).map u8) l26)∧(true=true→m 7=true))∧St w [vb,mb] ((bif m 7 then l26 else [])++((bif true then [(b27,cb (cT O.key O.ver (.slice a26 O.bs.length c26)) 28)] else [])++((b5,cb (cI kk) 23)::(l10++(lpsH ys++(lk++((Bm,cb [.map (some mb)] 97)::(vb,vaO lv mb inc)::(mb,.map es ck)::[]))))))) w1
    simp only [hm,hp7,cond_true,cond_false] at hw ⊢
    exact ⟨⟨fun _=>hF.1 hp7,fun _=>(by first | trivial | rfl)⟩,hw.perm zp⟩
  case htail=>
   intro x
   obtain ⟨a26,c26,l26,x27⟩:=x
   show J _ _ _ _ _ ((27,.slice (some ⟨x27,0,none⟩) 1 1)::(26,.agg (cT O.key O.ver (.slice a26 O.bs.length c26)).toArray)::(25,.agg (cH O).toArray)::(24,.agg (cI kk).toArray)::(23,.map (some mb))::(22,.pointer (some ⟨vb,0+1,none⟩))::(21,.pointer (some ⟨vb,0,none⟩))::(20,.pointer (some ⟨vb,0,none⟩))::(19,v10)::_) (fun w1=>((true=true→Vec 5 1 (.slice a26 O.bs.length c26) (O.bs).length ((O.bs).map u8) l26)∧(true=true→true=true))∧St w [vb,mb] ((bif true then l26 else [])++((bif true then [(x27,cb (cT O.key O.ver (.slice a26 O.bs.length c26)) 28)] else [])++((b5,cb (cI kk) 23)::(l10++(lpsH ys++(lk++((Bm,cb [.map (some mb)] 97)::(vb,vaO lv mb inc)::(mb,.map es ck)::[]))))))) w1)
   refine J.pr (fun hF=>?_)
   have hv26:=hF.1 rfl
   refine J.conseq (I':=St w [vb,mb] (l10++((x27,cb (cT O.key O.ver (.slice a26 O.bs.length c26)) 28)::(l26++((b5,cb (cI kk) 23)::(lpsH ys++(lk++((Bm,cb [.map (some mb)] 97)::(vb,vaO lv mb inc)::(mb,.map es ck)::[])))))))) ?_ (fun w1 hw=>(by simp only [cond_true] at hw;exact hw.perm zp))
   refine J.qZ (lp:=l10) (xs:=ys.flatMap cH) (ys:=cT O.key O.ver (.slice a26 O.bs.length c26)) (k:=ys.length) (m:=1) Ty.el44 Ty.s28 Ty.b28 Ty.zIt rfl (.inl ⟨28,Ty.u44⟩) rfl rfl hv10 (fun w1 hw=>.inl (Row.own (cs:=cT O.key O.ver (.slice a26 O.bs.length c26)) (tb:=28) (fr:=(0,0)) hw (List.mem_append_right _ (.head _)) (List.take_of_length_le (Nat.le_refl _)) (Nat.le_refl _))) rfl zF (by omega) (by omega) rfl (fun v28 l28 hv28=>?_)
   rw [show ys.flatMap cH++cT O.key O.ver (.slice a26 O.bs.length c26)=(ys++[(⟨O.key,O.ver,O.bs,.slice a26 O.bs.length c26,l26⟩:HI)]).flatMap cH by rw [List.flatMap_append];rfl,show ys.length+1=(ys++[(⟨O.key,O.ver,O.bs,.slice a26 O.bs.length c26,l26⟩:HI)]).length by rw [List.length_append];rfl] at hv28
   refine J.assign rfl rfl<|J.nil<|JX.qJ ?_;refine JX.qd (hK8 _ _ ?_);refine JC.region ?_
   (first | refine J.qG rfl rfl (by omega) (by omega) rfl ?_ | refine J.qj rfl rfl rfl rfl ?_)
   refine J.qe rfl rfl<|J.nil<|JX.qd<|JX.qS (⟨i+1,ys++[⟨O.key,O.ver,O.bs,.slice a26 O.bs.length c26,l26⟩],v28,l28⟩:AlS) ?_ ?_ ?_
   ·simp only;omega
   ·exact ⟨rfl,rfl,rfl,rfl,rfl,trivial⟩
   ·exact fun w1 hw=>⟨⟨hlt,by simp only;rw [List.map_append,hys,List.take_add_one,hkk,List.map_append];simp only [Option.toList_some,List.map_cons,List.map_nil,hO,HI.it],fun y hy=>by
     rcases List.mem_append.1 hy with hy | hy
     ·exact hok y hy
     ·rw [List.mem_singleton.1 hy];exact ⟨hon,hv26⟩,hv28⟩,(hw.perm (by simp only [lpsH,List.flatMap_append,List.flatMap_cons,List.flatMap_nil,List.append_nil];exact zp:List.Perm _ ([(x27,cb (cT O.key O.ver (.slice a26 O.bs.length c26)) 28),(b5,cb (cI kk) 23)]++(l28++(lpsH (ys++[⟨O.key,O.ver,O.bs,.slice a26 O.bs.length c26,l26⟩])++(lk++((Bm,cb [.map (some mb)] 97)::(vb,vaO lv mb inc)::(mb,.map es ck)::[]))))))).drop (List.sublist_append_right _ _)⟩
 ·have hge:i=ks.length:=by simp at h1;omega
  rw [hge,List.take_of_length_le (Nat.le_refl _)] at hys
  refine JC.qX<|JX.qE<|JX.qE<|JX.qT ?_;refine JX.qd (hK4 _ _ ?_);refine JC.seq (fun K10 hK10=>?_);refine JC.region<|J.qe rfl rfl<|J.assign rfl rfl<|J.nil ?_;refine JX.qd (hK10 _ _ ?_);refine JC.qA ?_;refine JX.qL rfl rfl (fun w hw=>?_)
  exact ⟨(ys,v10,l10),rfl,⟨by simp only;rw [hys];exact all_srt hT.nodup hkp hks,hok,hv10⟩,(hw.perm (zp:List.Perm _ ((lk++[(Bm,cb [.map (some mb)] 97)])++(l10++(lpsH ys++[(vb,vaO lv mb inc),(mb,.map es ck)]))))).drop (List.sublist_append_right _ _)⟩
theorem zg {w:World} {b o k c i q r:Nat} {xs:List HI} {x:HI} {vs:List Value} (h:Row w (.slice (some ⟨b,o,none⟩) k c) k (xs.flatMap cH)) (hx:xs[i]? = some x) (hv:((cH x).drop r).take vs.length=vs) (hq:q=o+i*34+r):Cells w b q vs:=by
 have h1:=rowG_at (c:=cH) (sz:=34) (fun _=>rfl) h hx (q:=o+i*34) rfl
 subst hq
 intro j hj
 have e:vs[j]? = ((cH x).drop r)[j]?:=by
  have h2:(((cH x).drop r).take vs.length)[j]? = ((cH x).drop r)[j]?:=List.getElem?_take_of_lt hj
  rw [hv] at h2;exact h2
 rw [e,List.getElem?_drop]
 have hl:r+j<(cH x).length:=by
  have:=congrArg List.length hv
  rw [List.length_take,List.length_drop] at this
  omega
 rw [show o+i*34+r+j=o+i*34+(r+j) by omega]
 exact h1 (r+j) hl
theorem take_it {xa:List HI} {i:Nat} {x:HI} (h:xa[i]? = some x):(xa.take (i+1)).map HI.it=(xa.take i).map HI.it++[x.it]:=by
 rw [List.take_add_one,h,List.map_append];rfl
theorem differ {xa bs:List HI} {i:Nat} {x y:HI} (hx:xa[i]? = some x) (hy:bs[i]? = some y) (h:x.it≠y.it):¬xa.map HI.it=bs.map HI.it:=fun e=>by
 have h1:=congrArg (fun l=>l[i]?) e
 simp only [List.getElem?_map,hx,hy,Option.map_some,Option.some.injEq] at h1
 exact h h1
set_option maxHeartbeats 1000000 in
theorem rsame_spec (v1 v2:Value) (xa bs:List HI) (w:World) (hr1:Row w v1 xa.length (xa.flatMap cH)) (hr2:Row w v2 bs.length (bs.flatMap cH)) (he1:(∀x,x∈xa→(∃a c,x.sv=.slice a x.bs.length c)∧Row w x.sv x.bs.length (x.bs.map u8)∧okN x.ver.n)) (he2:(∀x,x∈bs→(∃a c,x.sv=.slice a x.bs.length c)∧Row w x.sv x.bs.length (x.bs.map u8)∧okN x.ver.n)) (hl1:xa.length≤100000) (hl2:bs.length≤100000) :
  Calls Try.prog 32 [v1,v2].toArray w fun r w'=>r=.returned (.bool (decide (xa.map HI.it=bs.map HI.it)))∧Bel w w':=by
 obtain ⟨a1,c1,rfl,hc1,_⟩:=id hr1
 obtain ⟨a2,c2,rfl,hc2,_⟩:=id hr2
 refine qD (args:=[.slice a1 xa.length c1,.slice a2 bs.length c2]) (e:=[(0,.slice a1 xa.length c1),(1,.slice a2 bs.length c2)]) Try.func32 rfl rfl ⟨rfl,rfl,trivial⟩ (St.start w) ?_;refine JC.seq (fun K0 hK0=>?_);refine JC.region<|J.assign rfl rfl<|J.nil ?_;refine JX.qd (hK0 _ _ ?_);refine JC.seq (fun K1 hK1=>?_);refine JC.seq (fun K2 hK2=>?_);refine JC.region<|J.qe rfl rfl<|J.qK rfl Ty.u44 rfl rfl<|J.qe rfl rfl<|J.qK rfl Ty.u44 rfl rfl<|J.qj rfl rfl rfl rfl<|J.nil ?_;refine JX.qd (hK2 _ _ ?_);refine JC.qn rfl (fun h0=>?_) (fun h0=>?_)
 ·have hg:¬xa.map HI.it=bs.map HI.it:=fun e=>by
   have:=congrArg List.length e
   rw [List.length_map,List.length_map] at this
   simp at h0;omega
  refine JC.seq (fun K3 hK3=>?_);refine JC.region<|J.assign rfl rfl<|J.nil ?_;refine JX.qd (hK3 _ _ ?_);refine JC.qA<|JX.qt ?_;refine JX.qL rfl rfl (fun w hw=>?_)
  first
  | exact ⟨by rw [decide_eq_true hg],hw.below⟩
  | exact ⟨by rw [decide_eq_false hg],hw.below⟩
 ·have hll:xa.length=bs.length:=by simp at h0;omega
  refine JC.skip ?_;refine JX.qd (hK1 _ _ ?_);refine JC.seq (fun K4 hK4=>?_);refine JC.seq (fun K5 hK5=>?_);refine JC.region<|J.assign rfl rfl<|J.nil ?_;refine JX.qd (hK5 _ _ ?_);refine JC.block ?_
  refine JC.conseq (JC.cov (f:=(fun i=>[(0,.slice a1 xa.length c1),(1,.slice a2 bs.length c2),(5,.int .i64 ((i:Nat):Int))]) 0) ⟨rfl,rfl,rfl,trivial⟩ (JC.loop (α:=Nat) (fun i=>[(0,.slice a1 xa.length c1),(1,.slice a2 bs.length c2),(5,.int .i64 ((i:Nat):Int))]) (fun i w'=>(i≤xa.length∧(xa.take i).map HI.it=(bs.take i).map HI.it)∧St w [] [] w') (fun i=>xa.length - i) 0 (fun i=>?_))) (fun w hw=>⟨⟨Nat.zero_le _,rfl⟩,hw⟩)
  refine JC.pr (fun hI=>?_)
  obtain ⟨hi,hti⟩:=hI
  refine JC.seq (fun K6 hK6=>?_);refine JC.seq (fun K7 hK7=>?_);refine JC.region<|J.qe rfl rfl<|J.qe rfl rfl<|J.qK rfl Ty.u44 rfl rfl<|J.qj rfl rfl rfl rfl<|J.nil ?_;refine JX.qd (hK7 _ _ ?_);refine JC.qn rfl (fun h1=>?_) (fun h1=>?_)
  ·have hlt:i<xa.length:=by simp at h1;omega
   obtain ⟨x,hxg⟩:∃x,xa[i]? = some x:=⟨_,List.getElem?_eq_getElem hlt⟩
   obtain ⟨y,hyg⟩:∃x,bs[i]? = some x:=⟨_,List.getElem?_eq_getElem (by omega)⟩
   obtain ⟨⟨ax,cx,hsx⟩,hxr,hvx⟩:=he1 x (List.mem_of_getElem? hxg)
   obtain ⟨⟨ay,cy,hsy⟩,hyr,hvy⟩:=he2 y (List.mem_of_getElem? hyg)
   obtain ⟨kx,vx,bx,sx,lx⟩:=x
   obtain ⟨ky,vy,by_,sy,ly⟩:=y
   simp only at hsx hsy hxr hyr hvx hvy
   subst hsx hsy
   obtain ⟨q1,o1,c1',hv1,-,-⟩:=hr1.some (by rw [cHs_len];omega)
   simp only [Value.slice.injEq] at hv1
   obtain ⟨rfl,-,-⟩:=hv1
   obtain ⟨q2,o2,c2',hv2,-,-⟩:=hr2.some (by rw [cHs_len];omega)
   simp only [Value.slice.injEq] at hv2
   obtain ⟨rfl,-,-⟩:=hv2
   refine JC.skip ?_;refine JX.qd (hK6 _ _ ?_);refine JC.seq (fun K8 hK8=>?_);refine JC.block ?_;refine JC.seq (fun K9 hK9=>?_)
   by_cases e1:kx=ky
   ·by_cases e2:vx=vy
    ·by_cases e3:bx=by_
     ·apply JC.zd (α:=Nat × Unit) 39 (fun x=>match x with | ⟨xu,uu⟩=>[.slice (some ⟨q1,o1,none⟩) xa.length c1,.int .i64 ((i:Nat):Int),.pointer (some ⟨q1,o1+((i:Nat):Int).toNat*34,none⟩),.pointer (some ⟨q1,o1+((i:Nat):Int).toNat*34+0,none⟩),.agg (cI kx).toArray,.slice (some ⟨q2,o2,none⟩) bs.length c2,.int .i64 ((i:Nat):Int),.pointer (some ⟨q2,o2+((i:Nat):Int).toNat*34,none⟩),.pointer (some ⟨q2,o2+((i:Nat):Int).toNat*34+0,none⟩),.agg (cI ky).toArray,.bool false,.bool false,.slice (some ⟨q1,o1,none⟩) xa.length c1,.int .i64 ((i:Nat):Int),.pointer (some ⟨q1,o1+((i:Nat):Int).toNat*34,none⟩),.pointer (some ⟨q1,o1+((i:Nat):Int).toNat*34+16,none⟩),.agg (cV vx).toArray,.slice (some ⟨q2,o2,none⟩) bs.length c2,.int .i64 ((i:Nat):Int),.pointer (some ⟨q2,o2+((i:Nat):Int).toNat*34,none⟩),.pointer (some ⟨q2,o2+((i:Nat):Int).toNat*34+16,none⟩),.agg (cV vy).toArray,.bool false,.bool false,.bool false,.slice (some ⟨q1,o1,none⟩) xa.length c1,.int .i64 ((i:Nat):Int),.pointer (some ⟨q1,o1+((i:Nat):Int).toNat*34,none⟩),.pointer (some ⟨q1,o1+((i:Nat):Int).toNat*34+33,none⟩),(.slice ax bx.length cx),.string (str bx),.slice (some ⟨q2,o2,none⟩) bs.length c2,.int .i64 ((i:Nat):Int),.pointer (some ⟨q2,o2+((i:Nat):Int).toNat*34,none⟩),.pointer (some ⟨q2,o2+((i:Nat):Int).toNat*34+33,none⟩),(.slice ay by_.length cy),.string (str by_),.bool false,.bool false]) (fun m x=>match x with | ⟨xu,uu⟩=>fun w1=>(True)∧St w [] ([]) w1) Ty.mixed rfl rfl rfl (by kernel_rfl) rfl rfl ?hinit ?hstep ?htail
      case hinit=>exact fun w1 hw=>⟨(0,()),trivial,hw.drew⟩
      case hstep=>
       refine ⟨fun m x hm hp=>?_,fun m x hm hp=>?_,fun m x hm hp=>?_,fun m x hm hp=>?_,fun m x hm hp=>?_,fun m x hm hp=>?_,fun m x hm hp=>?_,fun m x hm hp=>?_,fun m x hm hp=>?_,fun m x hm hp=>?_,fun m x hm hp=>?_,fun m x hm hp=>?_,fun m x hm hp=>?_,fun m x hm hp=>?_,fun m x hm hp=>?_,fun m x hm hp=>?_,fun m x hm hp=>?_,fun m x hm hp=>?_,fun m x hm hp=>?_,fun m x hm hp=>?_,fun m x hm hp=>?_,fun m x hm hp=>?_,fun m x hm hp=>?_,fun m x hm hp=>?_,fun m x hm hp=>?_,fun m x hm hp=>?_,fun m x hm hp=>?_,fun m x hm hp=>?_,fun m x hm hp=>?_,fun m x hm hp=>?_,fun m x hm hp=>?_,fun m x hm hp=>?_,fun m x hm hp=>?_,fun m x hm hp=>?_,fun m x hm hp=>?_,fun m x hm hp=>?_,fun m x hm hp=>?_,fun m x hm hp=>?_,fun m x hm hp=>?_,trivial⟩
       ·obtain ⟨xu,uu⟩:=x
        show J _ _ _ _ _ (_) _
        refine J.pr (fun hF=>?_);refine J.qe rfl rfl ?_
        exact J.ql rfl (fun _ hw=>⟨⟨xu,uu⟩,rfl,fun _ _ _=>rfl,hF,hw⟩)
       ·obtain ⟨xu,uu⟩:=x
        show J _ _ _ _ _ (_) _
        refine J.pr (fun hF=>?_);refine J.qe rfl rfl ?_
        exact J.ql rfl (fun _ hw=>⟨⟨xu,uu⟩,rfl,fun _ _ _=>rfl,hF,hw⟩)
       ·obtain ⟨xu,uu⟩:=x
        show J _ _ _ _ _ ((18,.int .i64 ((i:Nat):Int))::(17,.slice (some ⟨q1,o1,none⟩) xa.length c1)::_) _
        refine J.pr (fun hF=>?_);refine J.qu Ty.el44 Ty.s28 rfl rfl (by omega) (by omega) rfl ?_
        exact J.ql rfl (fun _ hw=>⟨⟨xu,uu⟩,rfl,fun _ _ _=>rfl,hF,hw⟩)
       ·obtain ⟨xu,uu⟩:=x
        show J _ _ _ _ _ ((19,.pointer (some ⟨q1,o1+((i:Nat):Int).toNat*34,none⟩))::_) _
        refine J.pr (fun hF=>?_);refine J.qi Ty.fd28_0 rfl rfl ?_
        exact J.ql rfl (fun _ hw=>⟨⟨xu,uu⟩,rfl,fun _ _ _=>rfl,hF,hw⟩)
       ·obtain ⟨xu,uu⟩:=x
        show J _ _ _ _ _ ((20,.pointer (some ⟨q1,o1+((i:Nat):Int).toNat*34+0,none⟩))::_) _
        refine J.pr (fun hF=>?_);refine J.qC (vs:=cI kx) Ty.a23 Ty.s23 rfl rfl (fun w1 hw=>zg (r:=0) (hr1.below (hw.drop (List.nil_sublist _)).below) hxg rfl (by rw [Int.toNat_natCast])) rfl ?_
        exact J.ql rfl (fun _ hw=>⟨⟨xu,uu⟩,rfl,fun _ _ _=>rfl,hF,hw⟩)
       ·obtain ⟨xu,uu⟩:=x
        show J _ _ _ _ _ (_) _
        refine J.pr (fun hF=>?_);refine J.qe rfl rfl ?_
        exact J.ql rfl (fun _ hw=>⟨⟨xu,uu⟩,rfl,fun _ _ _=>rfl,hF,hw⟩)
       ·obtain ⟨xu,uu⟩:=x
        show J _ _ _ _ _ (_) _
        refine J.pr (fun hF=>?_);refine J.qe rfl rfl ?_
        exact J.ql rfl (fun _ hw=>⟨⟨xu,uu⟩,rfl,fun _ _ _=>rfl,hF,hw⟩)
       ·obtain ⟨xu,uu⟩:=x
        show J _ _ _ _ _ ((23,.int .i64 ((i:Nat):Int))::(22,.slice (some ⟨q2,o2,none⟩) bs.length c2)::_) _
        refine J.pr (fun hF=>?_);refine J.qu Ty.el44 Ty.s28 rfl rfl (by omega) (by omega) rfl ?_
        exact J.ql rfl (fun _ hw=>⟨⟨xu,uu⟩,rfl,fun _ _ _=>rfl,hF,hw⟩)
       ·obtain ⟨xu,uu⟩:=x
        show J _ _ _ _ _ ((24,.pointer (some ⟨q2,o2+((i:Nat):Int).toNat*34,none⟩))::_) _
        refine J.pr (fun hF=>?_);refine J.qi Ty.fd28_0 rfl rfl ?_
        exact J.ql rfl (fun _ hw=>⟨⟨xu,uu⟩,rfl,fun _ _ _=>rfl,hF,hw⟩)
       ·obtain ⟨xu,uu⟩:=x
        show J _ _ _ _ _ ((25,.pointer (some ⟨q2,o2+((i:Nat):Int).toNat*34+0,none⟩))::_) _
        refine J.pr (fun hF=>?_);refine J.qC (vs:=cI ky) Ty.a23 Ty.s23 rfl rfl (fun w1 hw=>zg (r:=0) (hr2.below (hw.drop (List.nil_sublist _)).below) hyg rfl (by rw [Int.toNat_natCast])) rfl ?_
        exact J.ql rfl (fun _ hw=>⟨⟨xu,uu⟩,rfl,fun _ _ _=>rfl,hF,hw⟩)
       ·obtain ⟨xu,uu⟩:=x
        show J _ _ _ _ _ ((26,.agg (cI ky).toArray)::(21,.agg (cI kx).toArray)::_) _
        refine J.pr (fun hF=>?_);refine J.neI Ty.QI Ty.keyI rfl rfl rfl<|J.name 27 rfl (show _=Value.bool false by simp [e1]) ?_
        exact J.ql rfl (fun _ hw=>⟨⟨xu,uu⟩,rfl,fun _ _ _=>rfl,hF,hw⟩)
       ·obtain ⟨xu,uu⟩:=x
        show J _ _ _ _ _ ((27,.bool false)::_) _
        refine J.pr (fun hF=>?_);refine J.qe rfl rfl ?_
        exact J.ql rfl (fun _ hw=>⟨⟨xu,uu⟩,rfl,fun _ _ _=>rfl,hF,hw⟩)
       ·obtain ⟨xu,uu⟩:=x
        show J _ _ _ _ _ ((28,.bool false)::_) _
        refine J.pr (fun hF=>?_)
        first | refine J.skip rfl rfl rfl rfl rfl ?_ | refine J.qh rfl rfl rfl rfl ?_ | (refine J.qf rfl rfl rfl ?_;refine J.qe rfl rfl ?_)
        exact J.ql rfl (fun _ hw=>⟨⟨xu,uu⟩,rfl,fun _ _ _=>rfl,hF,hw⟩)
       ·obtain ⟨xu,uu⟩:=x
        show J _ _ _ _ _ ((28,.bool false)::_) _
        refine J.pr (fun hF=>?_)
        first | refine J.skip rfl rfl rfl rfl rfl ?_ | refine J.qh rfl rfl rfl rfl ?_ | (refine J.qf rfl rfl rfl ?_;refine J.qe rfl rfl ?_)
        exact J.ql rfl (fun _ hw=>⟨⟨xu,uu⟩,rfl,fun _ _ _=>rfl,hF,hw⟩)
       ·obtain ⟨xu,uu⟩:=x
        show J _ _ _ _ _ ((28,.bool false)::(30,.int .i64 ((i:Nat):Int))::(29,.slice (some ⟨q1,o1,none⟩) xa.length c1)::_) _
        refine J.pr (fun hF=>?_);refine J.qf rfl rfl rfl<|J.qu Ty.el44 Ty.s28 rfl rfl (by omega) (by omega) rfl ?_
        exact J.ql rfl (fun _ hw=>⟨⟨xu,uu⟩,rfl,fun _ _ _=>rfl,hF,hw⟩)
       ·obtain ⟨xu,uu⟩:=x
        show J _ _ _ _ _ ((28,.bool false)::(31,.pointer (some ⟨q1,o1+((i:Nat):Int).toNat*34,none⟩))::_) _
        refine J.pr (fun hF=>?_)
        first | refine J.skip rfl rfl rfl rfl rfl ?_ | refine J.qh rfl rfl rfl rfl ?_ | (refine J.qf rfl rfl rfl ?_;refine J.qi Ty.fd28_1 rfl rfl ?_)
        exact J.ql rfl (fun _ hw=>⟨⟨xu,uu⟩,rfl,fun _ _ _=>rfl,hF,hw⟩)
       ·obtain ⟨xu,uu⟩:=x
        show J _ _ _ _ _ ((28,.bool false)::(32,.pointer (some ⟨q1,o1+((i:Nat):Int).toNat*34+16,none⟩))::_) _
        refine J.pr (fun hF=>?_);refine J.qf rfl rfl rfl<|J.qC (vs:=cV vx) Ty.a25 Ty.s25 rfl rfl (fun w1 hw=>zg (r:=16) (hr1.below (hw.drop (List.nil_sublist _)).below) hxg rfl (by rw [Int.toNat_natCast])) rfl ?_
        exact J.ql rfl (fun _ hw=>⟨⟨xu,uu⟩,rfl,fun _ _ _=>rfl,hF,hw⟩)
       ·obtain ⟨xu,uu⟩:=x
        show J _ _ _ _ _ ((28,.bool false)::_) _
        refine J.pr (fun hF=>?_)
        first | refine J.skip rfl rfl rfl rfl rfl ?_ | refine J.qh rfl rfl rfl rfl ?_ | (refine J.qf rfl rfl rfl ?_;refine J.qe rfl rfl ?_)
        exact J.ql rfl (fun _ hw=>⟨⟨xu,uu⟩,rfl,fun _ _ _=>rfl,hF,hw⟩)
       ·obtain ⟨xu,uu⟩:=x
        show J _ _ _ _ _ ((28,.bool false)::_) _
        refine J.pr (fun hF=>?_)
        first | refine J.skip rfl rfl rfl rfl rfl ?_ | refine J.qh rfl rfl rfl rfl ?_ | (refine J.qf rfl rfl rfl ?_;refine J.qe rfl rfl ?_)
        exact J.ql rfl (fun _ hw=>⟨⟨xu,uu⟩,rfl,fun _ _ _=>rfl,hF,hw⟩)
       ·obtain ⟨xu,uu⟩:=x
        show J _ _ _ _ _ ((28,.bool false)::(35,.int .i64 ((i:Nat):Int))::(34,.slice (some ⟨q2,o2,none⟩) bs.length c2)::_) _
        refine J.pr (fun hF=>?_);refine J.qf rfl rfl rfl<|J.qu Ty.el44 Ty.s28 rfl rfl (by omega) (by omega) rfl ?_
        exact J.ql rfl (fun _ hw=>⟨⟨xu,uu⟩,rfl,fun _ _ _=>rfl,hF,hw⟩)
       ·obtain ⟨xu,uu⟩:=x
        show J _ _ _ _ _ ((28,.bool false)::(36,.pointer (some ⟨q2,o2+((i:Nat):Int).toNat*34,none⟩))::_) _
        refine J.pr (fun hF=>?_)
        first | refine J.skip rfl rfl rfl rfl rfl ?_ | refine J.qh rfl rfl rfl rfl ?_ | (refine J.qf rfl rfl rfl ?_;refine J.qi Ty.fd28_1 rfl rfl ?_)
        exact J.ql rfl (fun _ hw=>⟨⟨xu,uu⟩,rfl,fun _ _ _=>rfl,hF,hw⟩)
       ·obtain ⟨xu,uu⟩:=x
        show J _ _ _ _ _ ((28,.bool false)::(37,.pointer (some ⟨q2,o2+((i:Nat):Int).toNat*34+16,none⟩))::_) _
        refine J.pr (fun hF=>?_);refine J.qf rfl rfl rfl<|J.qC (vs:=cV vy) Ty.a25 Ty.s25 rfl rfl (fun w1 hw=>zg (r:=16) (hr2.below (hw.drop (List.nil_sublist _)).below) hyg rfl (by rw [Int.toNat_natCast])) rfl ?_
        exact J.ql rfl (fun _ hw=>⟨⟨xu,uu⟩,rfl,fun _ _ _=>rfl,hF,hw⟩)
       ·obtain ⟨xu,uu⟩:=x
        show J _ _ _ _ _ ((28,.bool false)::(38,.agg (cV vy).toArray)::(33,.agg (cV vx).toArray)::_) _
        refine J.pr (fun hF=>?_);refine J.qf rfl rfl rfl<|J.neV rfl rfl hvx hvy rfl<|J.name 39 rfl (show _=Value.bool false by simp [e2]) ?_
        exact J.ql rfl (fun _ hw=>⟨⟨xu,uu⟩,rfl,fun _ _ _=>rfl,hF,hw⟩)
       ·obtain ⟨xu,uu⟩:=x
        show J _ _ _ _ _ ((39,.bool false)::(28,.bool false)::_) _
        refine J.pr (fun hF=>?_)
        (first | refine J.qr rfl rfl rfl ?_ | refine J.qs rfl rfl rfl ?_)
        exact J.ql rfl (fun _ hw=>⟨⟨xu,uu⟩,rfl,fun _ _ _=>rfl,hF,hw⟩)
       ·obtain ⟨xu,uu⟩:=x
        show J _ _ _ _ _ ((28,.bool false)::(40,.bool false)::_) _
        refine J.pr (fun hF=>?_);refine J.qe rfl rfl ?_
        exact J.ql rfl (fun _ hw=>⟨⟨xu,uu⟩,rfl,fun _ _ _=>rfl,hF,hw⟩)
       ·obtain ⟨xu,uu⟩:=x
        show J _ _ _ _ _ ((41,.bool false)::_) _
        refine J.pr (fun hF=>?_)
        first | refine J.skip rfl rfl rfl rfl rfl ?_ | refine J.qh rfl rfl rfl rfl ?_ | (refine J.qf rfl rfl rfl ?_;refine J.qe rfl rfl ?_)
        exact J.ql rfl (fun _ hw=>⟨⟨xu,uu⟩,rfl,fun _ _ _=>rfl,hF,hw⟩)
       ·obtain ⟨xu,uu⟩:=x
        show J _ _ _ _ _ ((41,.bool false)::_) _
        refine J.pr (fun hF=>?_)
        first | refine J.skip rfl rfl rfl rfl rfl ?_ | refine J.qh rfl rfl rfl rfl ?_ | (refine J.qf rfl rfl rfl ?_;refine J.qe rfl rfl ?_)
        exact J.ql rfl (fun _ hw=>⟨⟨xu,uu⟩,rfl,fun _ _ _=>rfl,hF,hw⟩)
       ·obtain ⟨xu,uu⟩:=x
        show J _ _ _ _ _ ((41,.bool false)::(43,.int .i64 ((i:Nat):Int))::(42,.slice (some ⟨q1,o1,none⟩) xa.length c1)::_) _
        refine J.pr (fun hF=>?_);refine J.qf rfl rfl rfl<|J.qu Ty.el44 Ty.s28 rfl rfl (by omega) (by omega) rfl ?_
        exact J.ql rfl (fun _ hw=>⟨⟨xu,uu⟩,rfl,fun _ _ _=>rfl,hF,hw⟩)
       ·obtain ⟨xu,uu⟩:=x
        show J _ _ _ _ _ ((41,.bool false)::(44,.pointer (some ⟨q1,o1+((i:Nat):Int).toNat*34,none⟩))::_) _
        refine J.pr (fun hF=>?_)
        first | refine J.skip rfl rfl rfl rfl rfl ?_ | refine J.qh rfl rfl rfl rfl ?_ | (refine J.qf rfl rfl rfl ?_;refine J.qi Ty.fd28_2 rfl rfl ?_)
        exact J.ql rfl (fun _ hw=>⟨⟨xu,uu⟩,rfl,fun _ _ _=>rfl,hF,hw⟩)
       ·obtain ⟨xu,uu⟩:=x
        show J _ _ _ _ _ ((41,.bool false)::(45,.pointer (some ⟨q1,o1+((i:Nat):Int).toNat*34+33,none⟩))::_) _
        refine J.pr (fun hF=>?_);refine J.qf rfl rfl rfl<|J.qw (v:=(.slice ax bx.length cx)) Ty.a26 rfl (fun w1 hw=>(zg (r:=33) (q:=o1+((i:Nat):Int).toNat*34+33) (vs:=[(.slice ax bx.length cx)]) (hr1.below (hw.drop (List.nil_sublist _)).below) hxg rfl (by rw [Int.toNat_natCast]) 0 Nat.one_pos:_)) rfl ?_
        exact J.ql rfl (fun _ hw=>⟨⟨xu,uu⟩,rfl,fun _ _ _=>rfl,hF,hw⟩)
       ·obtain ⟨xu,uu⟩:=x
        show J _ _ _ _ _ ((41,.bool false)::(46,(.slice ax bx.length cx))::_) _
        refine J.pr (fun hF=>?_);refine J.qf rfl rfl rfl<|J.z2 (m:=bx.length) (bs:=bx) Ty.el26 Ty.u5 Ty.u9 rfl (fun w1 hw=>(hxr.below (hw.drop (List.nil_sublist _)).below)) rfl rfl ?_
        exact J.ql rfl (fun _ hw=>⟨⟨xu,uu⟩,rfl,fun _ _ _=>rfl,hF,hw⟩)
       ·obtain ⟨xu,uu⟩:=x
        show J _ _ _ _ _ ((41,.bool false)::_) _
        refine J.pr (fun hF=>?_)
        first | refine J.skip rfl rfl rfl rfl rfl ?_ | refine J.qh rfl rfl rfl rfl ?_ | (refine J.qf rfl rfl rfl ?_;refine J.qe rfl rfl ?_)
        exact J.ql rfl (fun _ hw=>⟨⟨xu,uu⟩,rfl,fun _ _ _=>rfl,hF,hw⟩)
       ·obtain ⟨xu,uu⟩:=x
        show J _ _ _ _ _ ((41,.bool false)::_) _
        refine J.pr (fun hF=>?_)
        first | refine J.skip rfl rfl rfl rfl rfl ?_ | refine J.qh rfl rfl rfl rfl ?_ | (refine J.qf rfl rfl rfl ?_;refine J.qe rfl rfl ?_)
        exact J.ql rfl (fun _ hw=>⟨⟨xu,uu⟩,rfl,fun _ _ _=>rfl,hF,hw⟩)
       ·obtain ⟨xu,uu⟩:=x
        show J _ _ _ _ _ ((41,.bool false)::(49,.int .i64 ((i:Nat):Int))::(48,.slice (some ⟨q2,o2,none⟩) bs.length c2)::_) _
        refine J.pr (fun hF=>?_);refine J.qf rfl rfl rfl<|J.qu Ty.el44 Ty.s28 rfl rfl (by omega) (by omega) rfl ?_
        exact J.ql rfl (fun _ hw=>⟨⟨xu,uu⟩,rfl,fun _ _ _=>rfl,hF,hw⟩)
       ·obtain ⟨xu,uu⟩:=x
        show J _ _ _ _ _ ((41,.bool false)::(50,.pointer (some ⟨q2,o2+((i:Nat):Int).toNat*34,none⟩))::_) _
        refine J.pr (fun hF=>?_)
        first | refine J.skip rfl rfl rfl rfl rfl ?_ | refine J.qh rfl rfl rfl rfl ?_ | (refine J.qf rfl rfl rfl ?_;refine J.qi Ty.fd28_2 rfl rfl ?_)
        exact J.ql rfl (fun _ hw=>⟨⟨xu,uu⟩,rfl,fun _ _ _=>rfl,hF,hw⟩)
       ·obtain ⟨xu,uu⟩:=x
        show J _ _ _ _ _ ((41,.bool false)::(51,.pointer (some ⟨q2,o2+((i:Nat):Int).toNat*34+33,none⟩))::_) _
        refine J.pr (fun hF=>?_);refine J.qf rfl rfl rfl<|J.qw (v:=(.slice ay by_.length cy)) Ty.a26 rfl (fun w1 hw=>(zg (r:=33) (q:=o2+((i:Nat):Int).toNat*34+33) (vs:=[(.slice ay by_.length cy)]) (hr2.below (hw.drop (List.nil_sublist _)).below) hyg rfl (by rw [Int.toNat_natCast]) 0 Nat.one_pos:_)) rfl ?_
        exact J.ql rfl (fun _ hw=>⟨⟨xu,uu⟩,rfl,fun _ _ _=>rfl,hF,hw⟩)
       ·obtain ⟨xu,uu⟩:=x
        show J _ _ _ _ _ ((41,.bool false)::(52,(.slice ay by_.length cy))::_) _
        refine J.pr (fun hF=>?_);refine J.qf rfl rfl rfl<|J.z2 (m:=by_.length) (bs:=by_) Ty.el26 Ty.u5 Ty.u9 rfl (fun w1 hw=>(hyr.below (hw.drop (List.nil_sublist _)).below)) rfl rfl ?_
        exact J.ql rfl (fun _ hw=>⟨⟨xu,uu⟩,rfl,fun _ _ _=>rfl,hF,hw⟩)
       ·obtain ⟨xu,uu⟩:=x
        show J _ _ _ _ _ ((41,.bool false)::(53,.string (str by_))::(47,.string (str bx))::_) _
        refine J.pr (fun hF=>?_);refine J.qf rfl rfl rfl<|J.strNe (xs:=bx) (ys:=by_) rfl rfl rfl<|J.name 54 rfl (show _=Value.bool false by simp [e3]) ?_
        exact J.ql rfl (fun _ hw=>⟨⟨xu,uu⟩,rfl,fun _ _ _=>rfl,hF,hw⟩)
       ·obtain ⟨xu,uu⟩:=x
        show J _ _ _ _ _ ((54,.bool false)::(41,.bool false)::_) _
        refine J.pr (fun hF=>?_)
        (first | refine J.qr rfl rfl rfl ?_ | refine J.qs rfl rfl rfl ?_)
        exact J.ql rfl (fun _ hw=>⟨⟨xu,uu⟩,rfl,fun _ _ _=>rfl,hF,hw⟩)
      case htail=>
       intro x
       obtain ⟨xu,uu⟩:=x
       show J _ _ _ _ _ ((55,.bool false)::(54,.bool false)::(53,.string (str by_))::(52,(.slice ay by_.length cy))::(51,.pointer (some ⟨q2,o2+((i:Nat):Int).toNat*34+33,none⟩))::(50,.pointer (some ⟨q2,o2+((i:Nat):Int).toNat*34,none⟩))::(49,.int .i64 ((i:Nat):Int))::(48,.slice (some ⟨q2,o2,none⟩) bs.length c2)::(47,.string (str bx))::(46,(.slice ax bx.length cx))::(45,.pointer (some ⟨q1,o1+((i:Nat):Int).toNat*34+33,none⟩))::(44,.pointer (some ⟨q1,o1+((i:Nat):Int).toNat*34,none⟩))::(43,.int .i64 ((i:Nat):Int))::(42,.slice (some ⟨q1,o1,none⟩) xa.length c1)::(41,.bool false)::(40,.bool false)::(39,.bool false)::(38,.agg (cV vy).toArray)::(37,.pointer (some ⟨q2,o2+((i:Nat):Int).toNat*34+16,none⟩))::(36,.pointer (some ⟨q2,o2+((i:Nat):Int).toNat*34,none⟩))::(35,.int .i64 ((i:Nat):Int))::(34,.slice (some ⟨q2,o2,none⟩) bs.length c2)::(33,.agg (cV vx).toArray)::(32,.pointer (some ⟨q1,o1+((i:Nat):Int).toNat*34+16,none⟩))::(31,.pointer (some ⟨q1,o1+((i:Nat):Int).toNat*34,none⟩))::(30,.int .i64 ((i:Nat):Int))::(29,.slice (some ⟨q1,o1,none⟩) xa.length c1)::(28,.bool false)::(27,.bool false)::(26,.agg (cI ky).toArray)::(25,.pointer (some ⟨q2,o2+((i:Nat):Int).toNat*34+0,none⟩))::(24,.pointer (some ⟨q2,o2+((i:Nat):Int).toNat*34,none⟩))::(23,.int .i64 ((i:Nat):Int))::(22,.slice (some ⟨q2,o2,none⟩) bs.length c2)::(21,.agg (cI kx).toArray)::(20,.pointer (some ⟨q1,o1+((i:Nat):Int).toNat*34+0,none⟩))::(19,.pointer (some ⟨q1,o1+((i:Nat):Int).toNat*34,none⟩))::(18,.int .i64 ((i:Nat):Int))::(17,.slice (some ⟨q1,o1,none⟩) xa.length c1)::_) (fun w1=>(True)∧St w [] ([]) w1)
       refine J.pr (fun hF=>?_);refine J.nil ?_;refine JX.qd (hK9 _ _ ?_)
       first | refine JC.qI rfl ?_ | refine JC.qn rfl (fun h=>by first | (exfalso;simp at h;omega) | (simp at h)) (fun _=>?_)
       refine JC.skip<|JX.qJ ?_;refine JX.qd (hK8 _ _ ?_);refine JC.region<|J.qe rfl rfl ?_
       (first | refine J.qG rfl rfl (by omega) (by omega) rfl ?_ | refine J.qj rfl rfl rfl rfl ?_)
       refine J.assign rfl rfl<|J.nil<|JX.qd<|JX.qS (i+1) ?_ ?_ ?_
       ·omega
       ·exact ⟨rfl,rfl,rfl,trivial⟩
       ·exact fun w1 hw=>⟨⟨hlt,by rw [take_it hxg,take_it hyg,hti];simp [HI.it,e1,e2,e3]⟩,hw⟩
     ·have hg:=differ hxg hyg (by simp [HI.it,e3])
      apply JC.zd (α:=Nat × Unit) 39 (fun x=>match x with | ⟨xu,uu⟩=>[.slice (some ⟨q1,o1,none⟩) xa.length c1,.int .i64 ((i:Nat):Int),.pointer (some ⟨q1,o1+((i:Nat):Int).toNat*34,none⟩),.pointer (some ⟨q1,o1+((i:Nat):Int).toNat*34+0,none⟩),.agg (cI kx).toArray,.slice (some ⟨q2,o2,none⟩) bs.length c2,.int .i64 ((i:Nat):Int),.pointer (some ⟨q2,o2+((i:Nat):Int).toNat*34,none⟩),.pointer (some ⟨q2,o2+((i:Nat):Int).toNat*34+0,none⟩),.agg (cI ky).toArray,.bool false,.bool false,.slice (some ⟨q1,o1,none⟩) xa.length c1,.int .i64 ((i:Nat):Int),.pointer (some ⟨q1,o1+((i:Nat):Int).toNat*34,none⟩),.pointer (some ⟨q1,o1+((i:Nat):Int).toNat*34+16,none⟩),.agg (cV vx).toArray,.slice (some ⟨q2,o2,none⟩) bs.length c2,.int .i64 ((i:Nat):Int),.pointer (some ⟨q2,o2+((i:Nat):Int).toNat*34,none⟩),.pointer (some ⟨q2,o2+((i:Nat):Int).toNat*34+16,none⟩),.agg (cV vy).toArray,.bool false,.bool false,.bool false,.slice (some ⟨q1,o1,none⟩) xa.length c1,.int .i64 ((i:Nat):Int),.pointer (some ⟨q1,o1+((i:Nat):Int).toNat*34,none⟩),.pointer (some ⟨q1,o1+((i:Nat):Int).toNat*34+33,none⟩),(.slice ax bx.length cx),.string (str bx),.slice (some ⟨q2,o2,none⟩) bs.length c2,.int .i64 ((i:Nat):Int),.pointer (some ⟨q2,o2+((i:Nat):Int).toNat*34,none⟩),.pointer (some ⟨q2,o2+((i:Nat):Int).toNat*34+33,none⟩),(.slice ay by_.length cy),.string (str by_),.bool true,.bool true]) (fun m x=>match x with | ⟨xu,uu⟩=>fun w1=>(True)∧St w [] ([]) w1) Ty.mixed rfl rfl rfl (by kernel_rfl) rfl rfl ?hinit ?hstep ?htail
      case hinit=>exact fun w1 hw=>⟨(0,()),trivial,hw.drew⟩
      case hstep=>
       refine ⟨fun m x hm hp=>?_,fun m x hm hp=>?_,fun m x hm hp=>?_,fun m x hm hp=>?_,fun m x hm hp=>?_,fun m x hm hp=>?_,fun m x hm hp=>?_,fun m x hm hp=>?_,fun m x hm hp=>?_,fun m x hm hp=>?_,fun m x hm hp=>?_,fun m x hm hp=>?_,fun m x hm hp=>?_,fun m x hm hp=>?_,fun m x hm hp=>?_,fun m x hm hp=>?_,fun m x hm hp=>?_,fun m x hm hp=>?_,fun m x hm hp=>?_,fun m x hm hp=>?_,fun m x hm hp=>?_,fun m x hm hp=>?_,fun m x hm hp=>?_,fun m x hm hp=>?_,fun m x hm hp=>?_,fun m x hm hp=>?_,fun m x hm hp=>?_,fun m x hm hp=>?_,fun m x hm hp=>?_,fun m x hm hp=>?_,fun m x hm hp=>?_,fun m x hm hp=>?_,fun m x hm hp=>?_,fun m x hm hp=>?_,fun m x hm hp=>?_,fun m x hm hp=>?_,fun m x hm hp=>?_,fun m x hm hp=>?_,fun m x hm hp=>?_,trivial⟩
       ·obtain ⟨xu,uu⟩:=x
        show J _ _ _ _ _ (_) _
        refine J.pr (fun hF=>?_);refine J.qe rfl rfl ?_
        exact J.ql rfl (fun _ hw=>⟨⟨xu,uu⟩,rfl,fun _ _ _=>rfl,hF,hw⟩)
       ·obtain ⟨xu,uu⟩:=x
        show J _ _ _ _ _ (_) _
        refine J.pr (fun hF=>?_);refine J.qe rfl rfl ?_
        exact J.ql rfl (fun _ hw=>⟨⟨xu,uu⟩,rfl,fun _ _ _=>rfl,hF,hw⟩)
       ·obtain ⟨xu,uu⟩:=x
        show J _ _ _ _ _ ((18,.int .i64 ((i:Nat):Int))::(17,.slice (some ⟨q1,o1,none⟩) xa.length c1)::_) _
        refine J.pr (fun hF=>?_);refine J.qu Ty.el44 Ty.s28 rfl rfl (by omega) (by omega) rfl ?_
        exact J.ql rfl (fun _ hw=>⟨⟨xu,uu⟩,rfl,fun _ _ _=>rfl,hF,hw⟩)
       ·obtain ⟨xu,uu⟩:=x
        show J _ _ _ _ _ ((19,.pointer (some ⟨q1,o1+((i:Nat):Int).toNat*34,none⟩))::_) _
        refine J.pr (fun hF=>?_);refine J.qi Ty.fd28_0 rfl rfl ?_
        exact J.ql rfl (fun _ hw=>⟨⟨xu,uu⟩,rfl,fun _ _ _=>rfl,hF,hw⟩)
       ·obtain ⟨xu,uu⟩:=x
        show J _ _ _ _ _ ((20,.pointer (some ⟨q1,o1+((i:Nat):Int).toNat*34+0,none⟩))::_) _
        refine J.pr (fun hF=>?_);refine J.qC (vs:=cI kx) Ty.a23 Ty.s23 rfl rfl (fun w1 hw=>zg (r:=0) (hr1.below (hw.drop (List.nil_sublist _)).below) hxg rfl (by rw [Int.toNat_natCast])) rfl ?_
        exact J.ql rfl (fun _ hw=>⟨⟨xu,uu⟩,rfl,fun _ _ _=>rfl,hF,hw⟩)
       ·obtain ⟨xu,uu⟩:=x
        show J _ _ _ _ _ (_) _
        refine J.pr (fun hF=>?_);refine J.qe rfl rfl ?_
        exact J.ql rfl (fun _ hw=>⟨⟨xu,uu⟩,rfl,fun _ _ _=>rfl,hF,hw⟩)
       ·obtain ⟨xu,uu⟩:=x
        show J _ _ _ _ _ (_) _
        refine J.pr (fun hF=>?_);refine J.qe rfl rfl ?_
        exact J.ql rfl (fun _ hw=>⟨⟨xu,uu⟩,rfl,fun _ _ _=>rfl,hF,hw⟩)
       ·obtain ⟨xu,uu⟩:=x
        show J _ _ _ _ _ ((23,.int .i64 ((i:Nat):Int))::(22,.slice (some ⟨q2,o2,none⟩) bs.length c2)::_) _
        refine J.pr (fun hF=>?_);refine J.qu Ty.el44 Ty.s28 rfl rfl (by omega) (by omega) rfl ?_
        exact J.ql rfl (fun _ hw=>⟨⟨xu,uu⟩,rfl,fun _ _ _=>rfl,hF,hw⟩)
       ·obtain ⟨xu,uu⟩:=x
        show J _ _ _ _ _ ((24,.pointer (some ⟨q2,o2+((i:Nat):Int).toNat*34,none⟩))::_) _
        refine J.pr (fun hF=>?_);refine J.qi Ty.fd28_0 rfl rfl ?_
        exact J.ql rfl (fun _ hw=>⟨⟨xu,uu⟩,rfl,fun _ _ _=>rfl,hF,hw⟩)
       ·obtain ⟨xu,uu⟩:=x
        show J _ _ _ _ _ ((25,.pointer (some ⟨q2,o2+((i:Nat):Int).toNat*34+0,none⟩))::_) _
        refine J.pr (fun hF=>?_);refine J.qC (vs:=cI ky) Ty.a23 Ty.s23 rfl rfl (fun w1 hw=>zg (r:=0) (hr2.below (hw.drop (List.nil_sublist _)).below) hyg rfl (by rw [Int.toNat_natCast])) rfl ?_
        exact J.ql rfl (fun _ hw=>⟨⟨xu,uu⟩,rfl,fun _ _ _=>rfl,hF,hw⟩)
       ·obtain ⟨xu,uu⟩:=x
        show J _ _ _ _ _ ((26,.agg (cI ky).toArray)::(21,.agg (cI kx).toArray)::_) _
        refine J.pr (fun hF=>?_);refine J.neI Ty.QI Ty.keyI rfl rfl rfl<|J.name 27 rfl (show _=Value.bool false by simp [e1]) ?_
        exact J.ql rfl (fun _ hw=>⟨⟨xu,uu⟩,rfl,fun _ _ _=>rfl,hF,hw⟩)
       ·obtain ⟨xu,uu⟩:=x
        show J _ _ _ _ _ ((27,.bool false)::_) _
        refine J.pr (fun hF=>?_);refine J.qe rfl rfl ?_
        exact J.ql rfl (fun _ hw=>⟨⟨xu,uu⟩,rfl,fun _ _ _=>rfl,hF,hw⟩)
       ·obtain ⟨xu,uu⟩:=x
        show J _ _ _ _ _ ((28,.bool false)::_) _
        refine J.pr (fun hF=>?_)
        first | refine J.skip rfl rfl rfl rfl rfl ?_ | refine J.qh rfl rfl rfl rfl ?_ | (refine J.qf rfl rfl rfl ?_;refine J.qe rfl rfl ?_)
        exact J.ql rfl (fun _ hw=>⟨⟨xu,uu⟩,rfl,fun _ _ _=>rfl,hF,hw⟩)
       ·obtain ⟨xu,uu⟩:=x
        show J _ _ _ _ _ ((28,.bool false)::_) _
        refine J.pr (fun hF=>?_)
        first | refine J.skip rfl rfl rfl rfl rfl ?_ | refine J.qh rfl rfl rfl rfl ?_ | (refine J.qf rfl rfl rfl ?_;refine J.qe rfl rfl ?_)
        exact J.ql rfl (fun _ hw=>⟨⟨xu,uu⟩,rfl,fun _ _ _=>rfl,hF,hw⟩)
       ·obtain ⟨xu,uu⟩:=x
        show J _ _ _ _ _ ((28,.bool false)::(30,.int .i64 ((i:Nat):Int))::(29,.slice (some ⟨q1,o1,none⟩) xa.length c1)::_) _
        refine J.pr (fun hF=>?_);refine J.qf rfl rfl rfl<|J.qu Ty.el44 Ty.s28 rfl rfl (by omega) (by omega) rfl ?_
        exact J.ql rfl (fun _ hw=>⟨⟨xu,uu⟩,rfl,fun _ _ _=>rfl,hF,hw⟩)
       ·obtain ⟨xu,uu⟩:=x
        show J _ _ _ _ _ ((28,.bool false)::(31,.pointer (some ⟨q1,o1+((i:Nat):Int).toNat*34,none⟩))::_) _
        refine J.pr (fun hF=>?_)
        first | refine J.skip rfl rfl rfl rfl rfl ?_ | refine J.qh rfl rfl rfl rfl ?_ | (refine J.qf rfl rfl rfl ?_;refine J.qi Ty.fd28_1 rfl rfl ?_)
        exact J.ql rfl (fun _ hw=>⟨⟨xu,uu⟩,rfl,fun _ _ _=>rfl,hF,hw⟩)
       ·obtain ⟨xu,uu⟩:=x
        show J _ _ _ _ _ ((28,.bool false)::(32,.pointer (some ⟨q1,o1+((i:Nat):Int).toNat*34+16,none⟩))::_) _
        refine J.pr (fun hF=>?_);refine J.qf rfl rfl rfl<|J.qC (vs:=cV vx) Ty.a25 Ty.s25 rfl rfl (fun w1 hw=>zg (r:=16) (hr1.below (hw.drop (List.nil_sublist _)).below) hxg rfl (by rw [Int.toNat_natCast])) rfl ?_
        exact J.ql rfl (fun _ hw=>⟨⟨xu,uu⟩,rfl,fun _ _ _=>rfl,hF,hw⟩)
       ·obtain ⟨xu,uu⟩:=x
        show J _ _ _ _ _ ((28,.bool false)::_) _
        refine J.pr (fun hF=>?_)
        first | refine J.skip rfl rfl rfl rfl rfl ?_ | refine J.qh rfl rfl rfl rfl ?_ | (refine J.qf rfl rfl rfl ?_;refine J.qe rfl rfl ?_)
        exact J.ql rfl (fun _ hw=>⟨⟨xu,uu⟩,rfl,fun _ _ _=>rfl,hF,hw⟩)
       ·obtain ⟨xu,uu⟩:=x
        show J _ _ _ _ _ ((28,.bool false)::_) _
        refine J.pr (fun hF=>?_)
        first | refine J.skip rfl rfl rfl rfl rfl ?_ | refine J.qh rfl rfl rfl rfl ?_ | (refine J.qf rfl rfl rfl ?_;refine J.qe rfl rfl ?_)
        exact J.ql rfl (fun _ hw=>⟨⟨xu,uu⟩,rfl,fun _ _ _=>rfl,hF,hw⟩)
       ·obtain ⟨xu,uu⟩:=x
        show J _ _ _ _ _ ((28,.bool false)::(35,.int .i64 ((i:Nat):Int))::(34,.slice (some ⟨q2,o2,none⟩) bs.length c2)::_) _
        refine J.pr (fun hF=>?_);refine J.qf rfl rfl rfl<|J.qu Ty.el44 Ty.s28 rfl rfl (by omega) (by omega) rfl ?_
        exact J.ql rfl (fun _ hw=>⟨⟨xu,uu⟩,rfl,fun _ _ _=>rfl,hF,hw⟩)
       ·obtain ⟨xu,uu⟩:=x
        show J _ _ _ _ _ ((28,.bool false)::(36,.pointer (some ⟨q2,o2+((i:Nat):Int).toNat*34,none⟩))::_) _
        refine J.pr (fun hF=>?_)
        first | refine J.skip rfl rfl rfl rfl rfl ?_ | refine J.qh rfl rfl rfl rfl ?_ | (refine J.qf rfl rfl rfl ?_;refine J.qi Ty.fd28_1 rfl rfl ?_)
        exact J.ql rfl (fun _ hw=>⟨⟨xu,uu⟩,rfl,fun _ _ _=>rfl,hF,hw⟩)
       ·obtain ⟨xu,uu⟩:=x
        show J _ _ _ _ _ ((28,.bool false)::(37,.pointer (some ⟨q2,o2+((i:Nat):Int).toNat*34+16,none⟩))::_) _
        refine J.pr (fun hF=>?_);refine J.qf rfl rfl rfl<|J.qC (vs:=cV vy) Ty.a25 Ty.s25 rfl rfl (fun w1 hw=>zg (r:=16) (hr2.below (hw.drop (List.nil_sublist _)).below) hyg rfl (by rw [Int.toNat_natCast])) rfl ?_
        exact J.ql rfl (fun _ hw=>⟨⟨xu,uu⟩,rfl,fun _ _ _=>rfl,hF,hw⟩)
       ·obtain ⟨xu,uu⟩:=x
        show J _ _ _ _ _ ((28,.bool false)::(38,.agg (cV vy).toArray)::(33,.agg (cV vx).toArray)::_) _
        refine J.pr (fun hF=>?_);refine J.qf rfl rfl rfl<|J.neV rfl rfl hvx hvy rfl<|J.name 39 rfl (show _=Value.bool false by simp [e2]) ?_
        exact J.ql rfl (fun _ hw=>⟨⟨xu,uu⟩,rfl,fun _ _ _=>rfl,hF,hw⟩)
       ·obtain ⟨xu,uu⟩:=x
        show J _ _ _ _ _ ((39,.bool false)::(28,.bool false)::_) _
        refine J.pr (fun hF=>?_)
        (first | refine J.qr rfl rfl rfl ?_ | refine J.qs rfl rfl rfl ?_)
        exact J.ql rfl (fun _ hw=>⟨⟨xu,uu⟩,rfl,fun _ _ _=>rfl,hF,hw⟩)
       ·obtain ⟨xu,uu⟩:=x
        show J _ _ _ _ _ ((28,.bool false)::(40,.bool false)::_) _
        refine J.pr (fun hF=>?_);refine J.qe rfl rfl ?_
        exact J.ql rfl (fun _ hw=>⟨⟨xu,uu⟩,rfl,fun _ _ _=>rfl,hF,hw⟩)
       ·obtain ⟨xu,uu⟩:=x
        show J _ _ _ _ _ ((41,.bool false)::_) _
        refine J.pr (fun hF=>?_)
        first | refine J.skip rfl rfl rfl rfl rfl ?_ | refine J.qh rfl rfl rfl rfl ?_ | (refine J.qf rfl rfl rfl ?_;refine J.qe rfl rfl ?_)
        exact J.ql rfl (fun _ hw=>⟨⟨xu,uu⟩,rfl,fun _ _ _=>rfl,hF,hw⟩)
       ·obtain ⟨xu,uu⟩:=x
        show J _ _ _ _ _ ((41,.bool false)::_) _
        refine J.pr (fun hF=>?_)
        first | refine J.skip rfl rfl rfl rfl rfl ?_ | refine J.qh rfl rfl rfl rfl ?_ | (refine J.qf rfl rfl rfl ?_;refine J.qe rfl rfl ?_)
        exact J.ql rfl (fun _ hw=>⟨⟨xu,uu⟩,rfl,fun _ _ _=>rfl,hF,hw⟩)
       ·obtain ⟨xu,uu⟩:=x
        show J _ _ _ _ _ ((41,.bool false)::(43,.int .i64 ((i:Nat):Int))::(42,.slice (some ⟨q1,o1,none⟩) xa.length c1)::_) _
        refine J.pr (fun hF=>?_);refine J.qf rfl rfl rfl<|J.qu Ty.el44 Ty.s28 rfl rfl (by omega) (by omega) rfl ?_
        exact J.ql rfl (fun _ hw=>⟨⟨xu,uu⟩,rfl,fun _ _ _=>rfl,hF,hw⟩)
       ·obtain ⟨xu,uu⟩:=x
        show J _ _ _ _ _ ((41,.bool false)::(44,.pointer (some ⟨q1,o1+((i:Nat):Int).toNat*34,none⟩))::_) _
        refine J.pr (fun hF=>?_)
        first | refine J.skip rfl rfl rfl rfl rfl ?_ | refine J.qh rfl rfl rfl rfl ?_ | (refine J.qf rfl rfl rfl ?_;refine J.qi Ty.fd28_2 rfl rfl ?_)
        exact J.ql rfl (fun _ hw=>⟨⟨xu,uu⟩,rfl,fun _ _ _=>rfl,hF,hw⟩)
       ·obtain ⟨xu,uu⟩:=x
        show J _ _ _ _ _ ((41,.bool false)::(45,.pointer (some ⟨q1,o1+((i:Nat):Int).toNat*34+33,none⟩))::_) _
        refine J.pr (fun hF=>?_);refine J.qf rfl rfl rfl<|J.qw (v:=(.slice ax bx.length cx)) Ty.a26 rfl (fun w1 hw=>(zg (r:=33) (q:=o1+((i:Nat):Int).toNat*34+33) (vs:=[(.slice ax bx.length cx)]) (hr1.below (hw.drop (List.nil_sublist _)).below) hxg rfl (by rw [Int.toNat_natCast]) 0 Nat.one_pos:_)) rfl ?_
        exact J.ql rfl (fun _ hw=>⟨⟨xu,uu⟩,rfl,fun _ _ _=>rfl,hF,hw⟩)
       ·obtain ⟨xu,uu⟩:=x
        show J _ _ _ _ _ ((41,.bool false)::(46,(.slice ax bx.length cx))::_) _
        refine J.pr (fun hF=>?_);refine J.qf rfl rfl rfl<|J.z2 (m:=bx.length) (bs:=bx) Ty.el26 Ty.u5 Ty.u9 rfl (fun w1 hw=>(hxr.below (hw.drop (List.nil_sublist _)).below)) rfl rfl ?_
        exact J.ql rfl (fun _ hw=>⟨⟨xu,uu⟩,rfl,fun _ _ _=>rfl,hF,hw⟩)
       ·obtain ⟨xu,uu⟩:=x
        show J _ _ _ _ _ ((41,.bool false)::_) _
        refine J.pr (fun hF=>?_)
        first | refine J.skip rfl rfl rfl rfl rfl ?_ | refine J.qh rfl rfl rfl rfl ?_ | (refine J.qf rfl rfl rfl ?_;refine J.qe rfl rfl ?_)
        exact J.ql rfl (fun _ hw=>⟨⟨xu,uu⟩,rfl,fun _ _ _=>rfl,hF,hw⟩)
       ·obtain ⟨xu,uu⟩:=x
        show J _ _ _ _ _ ((41,.bool false)::_) _
        refine J.pr (fun hF=>?_)
        first | refine J.skip rfl rfl rfl rfl rfl ?_ | refine J.qh rfl rfl rfl rfl ?_ | (refine J.qf rfl rfl rfl ?_;refine J.qe rfl rfl ?_)
        exact J.ql rfl (fun _ hw=>⟨⟨xu,uu⟩,rfl,fun _ _ _=>rfl,hF,hw⟩)
       ·obtain ⟨xu,uu⟩:=x
        show J _ _ _ _ _ ((41,.bool false)::(49,.int .i64 ((i:Nat):Int))::(48,.slice (some ⟨q2,o2,none⟩) bs.length c2)::_) _
        refine J.pr (fun hF=>?_);refine J.qf rfl rfl rfl<|J.qu Ty.el44 Ty.s28 rfl rfl (by omega) (by omega) rfl ?_
        exact J.ql rfl (fun _ hw=>⟨⟨xu,uu⟩,rfl,fun _ _ _=>rfl,hF,hw⟩)
       ·obtain ⟨xu,uu⟩:=x
        show J _ _ _ _ _ ((41,.bool false)::(50,.pointer (some ⟨q2,o2+((i:Nat):Int).toNat*34,none⟩))::_) _
        refine J.pr (fun hF=>?_)
        first | refine J.skip rfl rfl rfl rfl rfl ?_ | refine J.qh rfl rfl rfl rfl ?_ | (refine J.qf rfl rfl rfl ?_;refine J.qi Ty.fd28_2 rfl rfl ?_)
        exact J.ql rfl (fun _ hw=>⟨⟨xu,uu⟩,rfl,fun _ _ _=>rfl,hF,hw⟩)
       ·obtain ⟨xu,uu⟩:=x
        show J _ _ _ _ _ ((41,.bool false)::(51,.pointer (some ⟨q2,o2+((i:Nat):Int).toNat*34+33,none⟩))::_) _
        refine J.pr (fun hF=>?_);refine J.qf rfl rfl rfl<|J.qw (v:=(.slice ay by_.length cy)) Ty.a26 rfl (fun w1 hw=>(zg (r:=33) (q:=o2+((i:Nat):Int).toNat*34+33) (vs:=[(.slice ay by_.length cy)]) (hr2.below (hw.drop (List.nil_sublist _)).below) hyg rfl (by rw [Int.toNat_natCast]) 0 Nat.one_pos:_)) rfl ?_
        exact J.ql rfl (fun _ hw=>⟨⟨xu,uu⟩,rfl,fun _ _ _=>rfl,hF,hw⟩)
       ·obtain ⟨xu,uu⟩:=x
        show J _ _ _ _ _ ((41,.bool false)::(52,(.slice ay by_.length cy))::_) _
        refine J.pr (fun hF=>?_);refine J.qf rfl rfl rfl<|J.z2 (m:=by_.length) (bs:=by_) Ty.el26 Ty.u5 Ty.u9 rfl (fun w1 hw=>(hyr.below (hw.drop (List.nil_sublist _)).below)) rfl rfl ?_
        exact J.ql rfl (fun _ hw=>⟨⟨xu,uu⟩,rfl,fun _ _ _=>rfl,hF,hw⟩)
       ·obtain ⟨xu,uu⟩:=x
        show J _ _ _ _ _ ((41,.bool false)::(53,.string (str by_))::(47,.string (str bx))::_) _
        refine J.pr (fun hF=>?_);refine J.qf rfl rfl rfl<|J.strNe (xs:=bx) (ys:=by_) rfl rfl rfl<|J.name 54 rfl (show _=Value.bool true by simp [e3]) ?_
        exact J.ql rfl (fun _ hw=>⟨⟨xu,uu⟩,rfl,fun _ _ _=>rfl,hF,hw⟩)
       ·obtain ⟨xu,uu⟩:=x
        show J _ _ _ _ _ ((54,.bool true)::(41,.bool false)::_) _
        refine J.pr (fun hF=>?_)
        (first | refine J.qr rfl rfl rfl ?_ | refine J.qs rfl rfl rfl ?_)
        exact J.ql rfl (fun _ hw=>⟨⟨xu,uu⟩,rfl,fun _ _ _=>rfl,hF,hw⟩)
      case htail=>
       intro x
       obtain ⟨xu,uu⟩:=x
       show J _ _ _ _ _ ((55,.bool true)::(54,.bool true)::(53,.string (str by_))::(52,(.slice ay by_.length cy))::(51,.pointer (some ⟨q2,o2+((i:Nat):Int).toNat*34+33,none⟩))::(50,.pointer (some ⟨q2,o2+((i:Nat):Int).toNat*34,none⟩))::(49,.int .i64 ((i:Nat):Int))::(48,.slice (some ⟨q2,o2,none⟩) bs.length c2)::(47,.string (str bx))::(46,(.slice ax bx.length cx))::(45,.pointer (some ⟨q1,o1+((i:Nat):Int).toNat*34+33,none⟩))::(44,.pointer (some ⟨q1,o1+((i:Nat):Int).toNat*34,none⟩))::(43,.int .i64 ((i:Nat):Int))::(42,.slice (some ⟨q1,o1,none⟩) xa.length c1)::(41,.bool false)::(40,.bool false)::(39,.bool false)::(38,.agg (cV vy).toArray)::(37,.pointer (some ⟨q2,o2+((i:Nat):Int).toNat*34+16,none⟩))::(36,.pointer (some ⟨q2,o2+((i:Nat):Int).toNat*34,none⟩))::(35,.int .i64 ((i:Nat):Int))::(34,.slice (some ⟨q2,o2,none⟩) bs.length c2)::(33,.agg (cV vx).toArray)::(32,.pointer (some ⟨q1,o1+((i:Nat):Int).toNat*34+16,none⟩))::(31,.pointer (some ⟨q1,o1+((i:Nat):Int).toNat*34,none⟩))::(30,.int .i64 ((i:Nat):Int))::(29,.slice (some ⟨q1,o1,none⟩) xa.length c1)::(28,.bool false)::(27,.bool false)::(26,.agg (cI ky).toArray)::(25,.pointer (some ⟨q2,o2+((i:Nat):Int).toNat*34+0,none⟩))::(24,.pointer (some ⟨q2,o2+((i:Nat):Int).toNat*34,none⟩))::(23,.int .i64 ((i:Nat):Int))::(22,.slice (some ⟨q2,o2,none⟩) bs.length c2)::(21,.agg (cI kx).toArray)::(20,.pointer (some ⟨q1,o1+((i:Nat):Int).toNat*34+0,none⟩))::(19,.pointer (some ⟨q1,o1+((i:Nat):Int).toNat*34,none⟩))::(18,.int .i64 ((i:Nat):Int))::(17,.slice (some ⟨q1,o1,none⟩) xa.length c1)::_) (fun w1=>(True)∧St w [] ([]) w1)
       refine J.pr (fun hF=>?_);refine J.nil ?_;refine JX.qd (hK9 _ _ ?_)
       first | refine JC.qP rfl ?_ | refine JC.qn rfl (fun _=>?_) (fun h=>by first | (exfalso;simp at h;omega) | (simp at h))
       refine JC.seq (fun K10 hK10=>?_);refine JC.region<|J.assign rfl rfl<|J.nil ?_;refine JX.qd (hK10 _ _ ?_);refine JC.qA<|JX.qH<|JX.qt<|JX.qt<|JX.qH<|JX.qt ?_;refine JX.qL rfl rfl (fun w hw=>?_)
       first
       | exact ⟨by rw [decide_eq_true hg],hw.below⟩
       | exact ⟨by rw [decide_eq_false hg],hw.below⟩
    ·have hg:=differ hxg hyg (by simp [HI.it,e2])
     apply JC.zd (α:=Nat × Unit) 39 (fun x=>match x with | ⟨xu,uu⟩=>[.slice (some ⟨q1,o1,none⟩) xa.length c1,.int .i64 ((i:Nat):Int),.pointer (some ⟨q1,o1+((i:Nat):Int).toNat*34,none⟩),.pointer (some ⟨q1,o1+((i:Nat):Int).toNat*34+0,none⟩),.agg (cI kx).toArray,.slice (some ⟨q2,o2,none⟩) bs.length c2,.int .i64 ((i:Nat):Int),.pointer (some ⟨q2,o2+((i:Nat):Int).toNat*34,none⟩),.pointer (some ⟨q2,o2+((i:Nat):Int).toNat*34+0,none⟩),.agg (cI ky).toArray,.bool false,.bool false,.slice (some ⟨q1,o1,none⟩) xa.length c1,.int .i64 ((i:Nat):Int),.pointer (some ⟨q1,o1+((i:Nat):Int).toNat*34,none⟩),.pointer (some ⟨q1,o1+((i:Nat):Int).toNat*34+16,none⟩),.agg (cV vx).toArray,.slice (some ⟨q2,o2,none⟩) bs.length c2,.int .i64 ((i:Nat):Int),.pointer (some ⟨q2,o2+((i:Nat):Int).toNat*34,none⟩),.pointer (some ⟨q2,o2+((i:Nat):Int).toNat*34+16,none⟩),.agg (cV vy).toArray,.bool true,.bool true,.bool true,undef,undef,undef,undef,undef,undef,undef,undef,undef,undef,undef,undef,undef,.bool true]) (fun m x=>match x with | ⟨xu,uu⟩=>fun w1=>(True)∧St w [] ([]) w1) Ty.mixed rfl rfl rfl (by kernel_rfl) rfl rfl ?hinit ?hstep ?htail
     case hinit=>exact fun w1 hw=>⟨(0,()),trivial,hw.drew⟩
     case hstep=>
      refine ⟨fun m x hm hp=>?_,fun m x hm hp=>?_,fun m x hm hp=>?_,fun m x hm hp=>?_,fun m x hm hp=>?_,fun m x hm hp=>?_,fun m x hm hp=>?_,fun m x hm hp=>?_,fun m x hm hp=>?_,fun m x hm hp=>?_,fun m x hm hp=>?_,fun m x hm hp=>?_,fun m x hm hp=>?_,fun m x hm hp=>?_,fun m x hm hp=>?_,fun m x hm hp=>?_,fun m x hm hp=>?_,fun m x hm hp=>?_,fun m x hm hp=>?_,fun m x hm hp=>?_,fun m x hm hp=>?_,fun m x hm hp=>?_,fun m x hm hp=>?_,fun m x hm hp=>?_,fun m x hm hp=>?_,fun m x hm hp=>?_,fun m x hm hp=>?_,fun m x hm hp=>?_,fun m x hm hp=>?_,fun m x hm hp=>?_,fun m x hm hp=>?_,fun m x hm hp=>?_,fun m x hm hp=>?_,fun m x hm hp=>?_,fun m x hm hp=>?_,fun m x hm hp=>?_,fun m x hm hp=>?_,fun m x hm hp=>?_,fun m x hm hp=>?_,trivial⟩
      ·obtain ⟨xu,uu⟩:=x
       show J _ _ _ _ _ (_) _
       refine J.pr (fun hF=>?_);refine J.qe rfl rfl ?_
       exact J.ql rfl (fun _ hw=>⟨⟨xu,uu⟩,rfl,fun _ _ _=>rfl,hF,hw⟩)
      ·obtain ⟨xu,uu⟩:=x
       show J _ _ _ _ _ (_) _
       refine J.pr (fun hF=>?_);refine J.qe rfl rfl ?_
       exact J.ql rfl (fun _ hw=>⟨⟨xu,uu⟩,rfl,fun _ _ _=>rfl,hF,hw⟩)
      ·obtain ⟨xu,uu⟩:=x
       show J _ _ _ _ _ ((18,.int .i64 ((i:Nat):Int))::(17,.slice (some ⟨q1,o1,none⟩) xa.length c1)::_) _
       refine J.pr (fun hF=>?_);refine J.qu Ty.el44 Ty.s28 rfl rfl (by omega) (by omega) rfl ?_
       exact J.ql rfl (fun _ hw=>⟨⟨xu,uu⟩,rfl,fun _ _ _=>rfl,hF,hw⟩)
      ·obtain ⟨xu,uu⟩:=x
       show J _ _ _ _ _ ((19,.pointer (some ⟨q1,o1+((i:Nat):Int).toNat*34,none⟩))::_) _
       refine J.pr (fun hF=>?_);refine J.qi Ty.fd28_0 rfl rfl ?_
       exact J.ql rfl (fun _ hw=>⟨⟨xu,uu⟩,rfl,fun _ _ _=>rfl,hF,hw⟩)
      ·obtain ⟨xu,uu⟩:=x
       show J _ _ _ _ _ ((20,.pointer (some ⟨q1,o1+((i:Nat):Int).toNat*34+0,none⟩))::_) _
       refine J.pr (fun hF=>?_);refine J.qC (vs:=cI kx) Ty.a23 Ty.s23 rfl rfl (fun w1 hw=>zg (r:=0) (hr1.below (hw.drop (List.nil_sublist _)).below) hxg rfl (by rw [Int.toNat_natCast])) rfl ?_
       exact J.ql rfl (fun _ hw=>⟨⟨xu,uu⟩,rfl,fun _ _ _=>rfl,hF,hw⟩)
      ·obtain ⟨xu,uu⟩:=x
       show J _ _ _ _ _ (_) _
       refine J.pr (fun hF=>?_);refine J.qe rfl rfl ?_
       exact J.ql rfl (fun _ hw=>⟨⟨xu,uu⟩,rfl,fun _ _ _=>rfl,hF,hw⟩)
      ·obtain ⟨xu,uu⟩:=x
       show J _ _ _ _ _ (_) _
       refine J.pr (fun hF=>?_);refine J.qe rfl rfl ?_
       exact J.ql rfl (fun _ hw=>⟨⟨xu,uu⟩,rfl,fun _ _ _=>rfl,hF,hw⟩)
      ·obtain ⟨xu,uu⟩:=x
       show J _ _ _ _ _ ((23,.int .i64 ((i:Nat):Int))::(22,.slice (some ⟨q2,o2,none⟩) bs.length c2)::_) _
       refine J.pr (fun hF=>?_);refine J.qu Ty.el44 Ty.s28 rfl rfl (by omega) (by omega) rfl ?_
       exact J.ql rfl (fun _ hw=>⟨⟨xu,uu⟩,rfl,fun _ _ _=>rfl,hF,hw⟩)
      ·obtain ⟨xu,uu⟩:=x
       show J _ _ _ _ _ ((24,.pointer (some ⟨q2,o2+((i:Nat):Int).toNat*34,none⟩))::_) _
       refine J.pr (fun hF=>?_);refine J.qi Ty.fd28_0 rfl rfl ?_
       exact J.ql rfl (fun _ hw=>⟨⟨xu,uu⟩,rfl,fun _ _ _=>rfl,hF,hw⟩)
      ·obtain ⟨xu,uu⟩:=x
       show J _ _ _ _ _ ((25,.pointer (some ⟨q2,o2+((i:Nat):Int).toNat*34+0,none⟩))::_) _
       refine J.pr (fun hF=>?_);refine J.qC (vs:=cI ky) Ty.a23 Ty.s23 rfl rfl (fun w1 hw=>zg (r:=0) (hr2.below (hw.drop (List.nil_sublist _)).below) hyg rfl (by rw [Int.toNat_natCast])) rfl ?_
       exact J.ql rfl (fun _ hw=>⟨⟨xu,uu⟩,rfl,fun _ _ _=>rfl,hF,hw⟩)
      ·obtain ⟨xu,uu⟩:=x
       show J _ _ _ _ _ ((26,.agg (cI ky).toArray)::(21,.agg (cI kx).toArray)::_) _
       refine J.pr (fun hF=>?_);refine J.neI Ty.QI Ty.keyI rfl rfl rfl<|J.name 27 rfl (show _=Value.bool false by simp [e1]) ?_
       exact J.ql rfl (fun _ hw=>⟨⟨xu,uu⟩,rfl,fun _ _ _=>rfl,hF,hw⟩)
      ·obtain ⟨xu,uu⟩:=x
       show J _ _ _ _ _ ((27,.bool false)::_) _
       refine J.pr (fun hF=>?_);refine J.qe rfl rfl ?_
       exact J.ql rfl (fun _ hw=>⟨⟨xu,uu⟩,rfl,fun _ _ _=>rfl,hF,hw⟩)
      ·obtain ⟨xu,uu⟩:=x
       show J _ _ _ _ _ ((28,.bool false)::_) _
       refine J.pr (fun hF=>?_)
       first | refine J.skip rfl rfl rfl rfl rfl ?_ | refine J.qh rfl rfl rfl rfl ?_ | (refine J.qf rfl rfl rfl ?_;refine J.qe rfl rfl ?_)
       exact J.ql rfl (fun _ hw=>⟨⟨xu,uu⟩,rfl,fun _ _ _=>rfl,hF,hw⟩)
      ·obtain ⟨xu,uu⟩:=x
       show J _ _ _ _ _ ((28,.bool false)::_) _
       refine J.pr (fun hF=>?_)
       first | refine J.skip rfl rfl rfl rfl rfl ?_ | refine J.qh rfl rfl rfl rfl ?_ | (refine J.qf rfl rfl rfl ?_;refine J.qe rfl rfl ?_)
       exact J.ql rfl (fun _ hw=>⟨⟨xu,uu⟩,rfl,fun _ _ _=>rfl,hF,hw⟩)
      ·obtain ⟨xu,uu⟩:=x
       show J _ _ _ _ _ ((28,.bool false)::(30,.int .i64 ((i:Nat):Int))::(29,.slice (some ⟨q1,o1,none⟩) xa.length c1)::_) _
       refine J.pr (fun hF=>?_);refine J.qf rfl rfl rfl<|J.qu Ty.el44 Ty.s28 rfl rfl (by omega) (by omega) rfl ?_
       exact J.ql rfl (fun _ hw=>⟨⟨xu,uu⟩,rfl,fun _ _ _=>rfl,hF,hw⟩)
      ·obtain ⟨xu,uu⟩:=x
       show J _ _ _ _ _ ((28,.bool false)::(31,.pointer (some ⟨q1,o1+((i:Nat):Int).toNat*34,none⟩))::_) _
       refine J.pr (fun hF=>?_)
       first | refine J.skip rfl rfl rfl rfl rfl ?_ | refine J.qh rfl rfl rfl rfl ?_ | (refine J.qf rfl rfl rfl ?_;refine J.qi Ty.fd28_1 rfl rfl ?_)
       exact J.ql rfl (fun _ hw=>⟨⟨xu,uu⟩,rfl,fun _ _ _=>rfl,hF,hw⟩)
      ·obtain ⟨xu,uu⟩:=x
       show J _ _ _ _ _ ((28,.bool false)::(32,.pointer (some ⟨q1,o1+((i:Nat):Int).toNat*34+16,none⟩))::_) _
       refine J.pr (fun hF=>?_);refine J.qf rfl rfl rfl<|J.qC (vs:=cV vx) Ty.a25 Ty.s25 rfl rfl (fun w1 hw=>zg (r:=16) (hr1.below (hw.drop (List.nil_sublist _)).below) hxg rfl (by rw [Int.toNat_natCast])) rfl ?_
       exact J.ql rfl (fun _ hw=>⟨⟨xu,uu⟩,rfl,fun _ _ _=>rfl,hF,hw⟩)
      ·obtain ⟨xu,uu⟩:=x
       show J _ _ _ _ _ ((28,.bool false)::_) _
       refine J.pr (fun hF=>?_)
       first | refine J.skip rfl rfl rfl rfl rfl ?_ | refine J.qh rfl rfl rfl rfl ?_ | (refine J.qf rfl rfl rfl ?_;refine J.qe rfl rfl ?_)
       exact J.ql rfl (fun _ hw=>⟨⟨xu,uu⟩,rfl,fun _ _ _=>rfl,hF,hw⟩)
      ·obtain ⟨xu,uu⟩:=x
       show J _ _ _ _ _ ((28,.bool false)::_) _
       refine J.pr (fun hF=>?_)
       first | refine J.skip rfl rfl rfl rfl rfl ?_ | refine J.qh rfl rfl rfl rfl ?_ | (refine J.qf rfl rfl rfl ?_;refine J.qe rfl rfl ?_)
       exact J.ql rfl (fun _ hw=>⟨⟨xu,uu⟩,rfl,fun _ _ _=>rfl,hF,hw⟩)
      ·obtain ⟨xu,uu⟩:=x
       show J _ _ _ _ _ ((28,.bool false)::(35,.int .i64 ((i:Nat):Int))::(34,.slice (some ⟨q2,o2,none⟩) bs.length c2)::_) _
       refine J.pr (fun hF=>?_);refine J.qf rfl rfl rfl<|J.qu Ty.el44 Ty.s28 rfl rfl (by omega) (by omega) rfl ?_
       exact J.ql rfl (fun _ hw=>⟨⟨xu,uu⟩,rfl,fun _ _ _=>rfl,hF,hw⟩)
      ·obtain ⟨xu,uu⟩:=x
       show J _ _ _ _ _ ((28,.bool false)::(36,.pointer (some ⟨q2,o2+((i:Nat):Int).toNat*34,none⟩))::_) _
       refine J.pr (fun hF=>?_)
       first | refine J.skip rfl rfl rfl rfl rfl ?_ | refine J.qh rfl rfl rfl rfl ?_ | (refine J.qf rfl rfl rfl ?_;refine J.qi Ty.fd28_1 rfl rfl ?_)
       exact J.ql rfl (fun _ hw=>⟨⟨xu,uu⟩,rfl,fun _ _ _=>rfl,hF,hw⟩)
      ·obtain ⟨xu,uu⟩:=x
       show J _ _ _ _ _ ((28,.bool false)::(37,.pointer (some ⟨q2,o2+((i:Nat):Int).toNat*34+16,none⟩))::_) _
       refine J.pr (fun hF=>?_);refine J.qf rfl rfl rfl<|J.qC (vs:=cV vy) Ty.a25 Ty.s25 rfl rfl (fun w1 hw=>zg (r:=16) (hr2.below (hw.drop (List.nil_sublist _)).below) hyg rfl (by rw [Int.toNat_natCast])) rfl ?_
       exact J.ql rfl (fun _ hw=>⟨⟨xu,uu⟩,rfl,fun _ _ _=>rfl,hF,hw⟩)
      ·obtain ⟨xu,uu⟩:=x
       show J _ _ _ _ _ ((28,.bool false)::(38,.agg (cV vy).toArray)::(33,.agg (cV vx).toArray)::_) _
       refine J.pr (fun hF=>?_);refine J.qf rfl rfl rfl<|J.neV rfl rfl hvx hvy rfl<|J.name 39 rfl (show _=Value.bool true by simp [e2]) ?_
       exact J.ql rfl (fun _ hw=>⟨⟨xu,uu⟩,rfl,fun _ _ _=>rfl,hF,hw⟩)
      ·obtain ⟨xu,uu⟩:=x
       show J _ _ _ _ _ ((39,.bool true)::(28,.bool false)::_) _
       refine J.pr (fun hF=>?_)
       (first | refine J.qr rfl rfl rfl ?_ | refine J.qs rfl rfl rfl ?_)
       exact J.ql rfl (fun _ hw=>⟨⟨xu,uu⟩,rfl,fun _ _ _=>rfl,hF,hw⟩)
      ·obtain ⟨xu,uu⟩:=x
       show J _ _ _ _ _ ((28,.bool false)::(40,.bool true)::_) _
       refine J.pr (fun hF=>?_);refine J.qe rfl rfl ?_
       exact J.ql rfl (fun _ hw=>⟨⟨xu,uu⟩,rfl,fun _ _ _=>rfl,hF,hw⟩)
      ·obtain ⟨xu,uu⟩:=x
       show J _ _ _ _ _ ((41,.bool true)::_) _
       refine J.pr (fun hF=>?_)
       first | refine J.skip rfl rfl rfl rfl rfl ?_ | refine J.qh rfl rfl rfl rfl ?_ | (refine J.qf rfl rfl rfl ?_;refine J.qe rfl rfl ?_)
       exact J.ql rfl (fun _ hw=>⟨⟨xu,uu⟩,rfl,fun _ _ _=>rfl,hF,hw⟩)
      ·obtain ⟨xu,uu⟩:=x
       show J _ _ _ _ _ ((41,.bool true)::_) _
       refine J.pr (fun hF=>?_)
       first | refine J.skip rfl rfl rfl rfl rfl ?_ | refine J.qh rfl rfl rfl rfl ?_ | (refine J.qf rfl rfl rfl ?_;refine J.qe rfl rfl ?_)
       exact J.ql rfl (fun _ hw=>⟨⟨xu,uu⟩,rfl,fun _ _ _=>rfl,hF,hw⟩)
      ·obtain ⟨xu,uu⟩:=x
       show J _ _ _ _ _ ((41,.bool true)::(43,undef)::(42,undef)::_) _
       refine J.pr (fun hF=>?_)
       first | refine J.skip rfl rfl rfl rfl rfl ?_ | refine J.qh rfl rfl rfl rfl ?_ | (refine J.qf rfl rfl rfl ?_;refine J.qu Ty.el44 Ty.s28 rfl rfl (by omega) (by omega) rfl ?_)
       exact J.ql rfl (fun _ hw=>⟨⟨xu,uu⟩,rfl,fun _ _ _=>rfl,hF,hw⟩)
      ·obtain ⟨xu,uu⟩:=x
       show J _ _ _ _ _ ((41,.bool true)::(44,undef)::_) _
       refine J.pr (fun hF=>?_)
       first | refine J.skip rfl rfl rfl rfl rfl ?_ | refine J.qh rfl rfl rfl rfl ?_ | (refine J.qf rfl rfl rfl ?_;refine J.qi Ty.fd28_2 rfl rfl ?_)
       exact J.ql rfl (fun _ hw=>⟨⟨xu,uu⟩,rfl,fun _ _ _=>rfl,hF,hw⟩)
      ·obtain ⟨xu,uu⟩:=x
       show J _ _ _ _ _ ((41,.bool true)::(45,undef)::_) _
       refine J.pr (fun hF=>?_)
       first | refine J.skip rfl rfl rfl rfl rfl ?_ | refine J.qh rfl rfl rfl rfl ?_ | (refine J.qf rfl rfl rfl ?_;refine J.qQ Ty.a26 rfl zm (by exact rfl) rfl ?_)
       exact J.ql rfl (fun _ hw=>⟨⟨xu,uu⟩,rfl,fun _ _ _=>rfl,hF,hw⟩)
      ·obtain ⟨xu,uu⟩:=x
       show J _ _ _ _ _ ((41,.bool true)::(46,undef)::_) _
       refine J.pr (fun hF=>?_)
       first | refine J.skip rfl rfl rfl rfl rfl ?_ | refine J.qh rfl rfl rfl rfl ?_ | (refine J.qf rfl rfl rfl ?_;fail)
       exact J.ql rfl (fun _ hw=>⟨⟨xu,uu⟩,rfl,fun _ _ _=>rfl,hF,hw⟩)
      ·obtain ⟨xu,uu⟩:=x
       show J _ _ _ _ _ ((41,.bool true)::_) _
       refine J.pr (fun hF=>?_)
       first | refine J.skip rfl rfl rfl rfl rfl ?_ | refine J.qh rfl rfl rfl rfl ?_ | (refine J.qf rfl rfl rfl ?_;refine J.qe rfl rfl ?_)
       exact J.ql rfl (fun _ hw=>⟨⟨xu,uu⟩,rfl,fun _ _ _=>rfl,hF,hw⟩)
      ·obtain ⟨xu,uu⟩:=x
       show J _ _ _ _ _ ((41,.bool true)::_) _
       refine J.pr (fun hF=>?_)
       first | refine J.skip rfl rfl rfl rfl rfl ?_ | refine J.qh rfl rfl rfl rfl ?_ | (refine J.qf rfl rfl rfl ?_;refine J.qe rfl rfl ?_)
       exact J.ql rfl (fun _ hw=>⟨⟨xu,uu⟩,rfl,fun _ _ _=>rfl,hF,hw⟩)
      ·obtain ⟨xu,uu⟩:=x
       show J _ _ _ _ _ ((41,.bool true)::(49,undef)::(48,undef)::_) _
       refine J.pr (fun hF=>?_)
       first | refine J.skip rfl rfl rfl rfl rfl ?_ | refine J.qh rfl rfl rfl rfl ?_ | (refine J.qf rfl rfl rfl ?_;refine J.qu Ty.el44 Ty.s28 rfl rfl (by omega) (by omega) rfl ?_)
       exact J.ql rfl (fun _ hw=>⟨⟨xu,uu⟩,rfl,fun _ _ _=>rfl,hF,hw⟩)
      ·obtain ⟨xu,uu⟩:=x
       show J _ _ _ _ _ ((41,.bool true)::(50,undef)::_) _
       refine J.pr (fun hF=>?_)
       first | refine J.skip rfl rfl rfl rfl rfl ?_ | refine J.qh rfl rfl rfl rfl ?_ | (refine J.qf rfl rfl rfl ?_;refine J.qi Ty.fd28_2 rfl rfl ?_)
       exact J.ql rfl (fun _ hw=>⟨⟨xu,uu⟩,rfl,fun _ _ _=>rfl,hF,hw⟩)
      ·obtain ⟨xu,uu⟩:=x
       show J _ _ _ _ _ ((41,.bool true)::(51,undef)::_) _
       refine J.pr (fun hF=>?_)
       first | refine J.skip rfl rfl rfl rfl rfl ?_ | refine J.qh rfl rfl rfl rfl ?_ | (refine J.qf rfl rfl rfl ?_;refine J.qQ Ty.a26 rfl zm (by exact rfl) rfl ?_)
       exact J.ql rfl (fun _ hw=>⟨⟨xu,uu⟩,rfl,fun _ _ _=>rfl,hF,hw⟩)
      ·obtain ⟨xu,uu⟩:=x
       show J _ _ _ _ _ ((41,.bool true)::(52,undef)::_) _
       refine J.pr (fun hF=>?_)
       first | refine J.skip rfl rfl rfl rfl rfl ?_ | refine J.qh rfl rfl rfl rfl ?_ | (refine J.qf rfl rfl rfl ?_;fail)
       exact J.ql rfl (fun _ hw=>⟨⟨xu,uu⟩,rfl,fun _ _ _=>rfl,hF,hw⟩)
      ·obtain ⟨xu,uu⟩:=x
       show J _ _ _ _ _ ((41,.bool true)::(53,undef)::(47,undef)::_) _
       refine J.pr (fun hF=>?_)
       first | refine J.skip rfl rfl rfl rfl rfl ?_ | refine J.qh rfl rfl rfl rfl ?_ | (refine J.qf rfl rfl rfl ?_;(first | refine J.strNe rfl rfl rfl ?_ | refine J.qj rfl rfl rfl rfl ?_))
       exact J.ql rfl (fun _ hw=>⟨⟨xu,uu⟩,rfl,fun _ _ _=>rfl,hF,hw⟩)
      ·obtain ⟨xu,uu⟩:=x
       show J _ _ _ _ _ ((54,undef)::(41,.bool true)::_) _
       refine J.pr (fun hF=>?_)
       (first | refine J.qr rfl rfl rfl ?_ | refine J.qs rfl rfl rfl ?_)
       exact J.ql rfl (fun _ hw=>⟨⟨xu,uu⟩,rfl,fun _ _ _=>rfl,hF,hw⟩)
     case htail=>
      intro x
      obtain ⟨xu,uu⟩:=x
      show J _ _ _ _ _ ((55,.bool true)::(54,undef)::(53,undef)::(52,undef)::(51,undef)::(50,undef)::(49,undef)::(48,undef)::(47,undef)::(46,undef)::(45,undef)::(44,undef)::(43,undef)::(42,undef)::(41,.bool true)::(40,.bool true)::(39,.bool true)::(38,.agg (cV vy).toArray)::(37,.pointer (some ⟨q2,o2+((i:Nat):Int).toNat*34+16,none⟩))::(36,.pointer (some ⟨q2,o2+((i:Nat):Int).toNat*34,none⟩))::(35,.int .i64 ((i:Nat):Int))::(34,.slice (some ⟨q2,o2,none⟩) bs.length c2)::(33,.agg (cV vx).toArray)::(32,.pointer (some ⟨q1,o1+((i:Nat):Int).toNat*34+16,none⟩))::(31,.pointer (some ⟨q1,o1+((i:Nat):Int).toNat*34,none⟩))::(30,.int .i64 ((i:Nat):Int))::(29,.slice (some ⟨q1,o1,none⟩) xa.length c1)::(28,.bool false)::(27,.bool false)::(26,.agg (cI ky).toArray)::(25,.pointer (some ⟨q2,o2+((i:Nat):Int).toNat*34+0,none⟩))::(24,.pointer (some ⟨q2,o2+((i:Nat):Int).toNat*34,none⟩))::(23,.int .i64 ((i:Nat):Int))::(22,.slice (some ⟨q2,o2,none⟩) bs.length c2)::(21,.agg (cI kx).toArray)::(20,.pointer (some ⟨q1,o1+((i:Nat):Int).toNat*34+0,none⟩))::(19,.pointer (some ⟨q1,o1+((i:Nat):Int).toNat*34,none⟩))::(18,.int .i64 ((i:Nat):Int))::(17,.slice (some ⟨q1,o1,none⟩) xa.length c1)::_) (fun w1=>(True)∧St w [] ([]) w1)
      refine J.pr (fun hF=>?_);refine J.nil ?_;refine JX.qd (hK9 _ _ ?_)
      first | refine JC.qP rfl ?_ | refine JC.qn rfl (fun _=>?_) (fun h=>by first | (exfalso;simp at h;omega) | (simp at h))
      refine JC.seq (fun K11 hK11=>?_);refine JC.region<|J.assign rfl rfl<|J.nil ?_;refine JX.qd (hK11 _ _ ?_);refine JC.qA<|JX.qH<|JX.qt<|JX.qt<|JX.qH<|JX.qt ?_;refine JX.qL rfl rfl (fun w hw=>?_)
      first
      | exact ⟨by rw [decide_eq_true hg],hw.below⟩
      | exact ⟨by rw [decide_eq_false hg],hw.below⟩
   ·have hg:=differ hxg hyg (by simp [HI.it,e1])
    apply JC.zd (α:=Nat × Unit) 39 (fun x=>match x with | ⟨xu,uu⟩=>[.slice (some ⟨q1,o1,none⟩) xa.length c1,.int .i64 ((i:Nat):Int),.pointer (some ⟨q1,o1+((i:Nat):Int).toNat*34,none⟩),.pointer (some ⟨q1,o1+((i:Nat):Int).toNat*34+0,none⟩),.agg (cI kx).toArray,.slice (some ⟨q2,o2,none⟩) bs.length c2,.int .i64 ((i:Nat):Int),.pointer (some ⟨q2,o2+((i:Nat):Int).toNat*34,none⟩),.pointer (some ⟨q2,o2+((i:Nat):Int).toNat*34+0,none⟩),.agg (cI ky).toArray,.bool true,.bool true,undef,undef,undef,undef,undef,undef,undef,undef,undef,undef,undef,.bool true,.bool true,undef,undef,undef,undef,undef,undef,undef,undef,undef,undef,undef,undef,undef,.bool true]) (fun m x=>match x with | ⟨xu,uu⟩=>fun w1=>(True)∧St w [] ([]) w1) Ty.mixed rfl rfl rfl (by kernel_rfl) rfl rfl ?hinit ?hstep ?htail
    case hinit=>exact fun w1 hw=>⟨(0,()),trivial,hw.drew⟩
    case hstep=>
     refine ⟨fun m x hm hp=>?_,fun m x hm hp=>?_,fun m x hm hp=>?_,fun m x hm hp=>?_,fun m x hm hp=>?_,fun m x hm hp=>?_,fun m x hm hp=>?_,fun m x hm hp=>?_,fun m x hm hp=>?_,fun m x hm hp=>?_,fun m x hm hp=>?_,fun m x hm hp=>?_,fun m x hm hp=>?_,fun m x hm hp=>?_,fun m x hm hp=>?_,fun m x hm hp=>?_,fun m x hm hp=>?_,fun m x hm hp=>?_,fun m x hm hp=>?_,fun m x hm hp=>?_,fun m x hm hp=>?_,fun m x hm hp=>?_,fun m x hm hp=>?_,fun m x hm hp=>?_,fun m x hm hp=>?_,fun m x hm hp=>?_,fun m x hm hp=>?_,fun m x hm hp=>?_,fun m x hm hp=>?_,fun m x hm hp=>?_,fun m x hm hp=>?_,fun m x hm hp=>?_,fun m x hm hp=>?_,fun m x hm hp=>?_,fun m x hm hp=>?_,fun m x hm hp=>?_,fun m x hm hp=>?_,fun m x hm hp=>?_,fun m x hm hp=>?_,trivial⟩
     ·obtain ⟨xu,uu⟩:=x
      show J _ _ _ _ _ (_) _
      refine J.pr (fun hF=>?_);refine J.qe rfl rfl ?_
      exact J.ql rfl (fun _ hw=>⟨⟨xu,uu⟩,rfl,fun _ _ _=>rfl,hF,hw⟩)
     ·obtain ⟨xu,uu⟩:=x
      show J _ _ _ _ _ (_) _
      refine J.pr (fun hF=>?_);refine J.qe rfl rfl ?_
      exact J.ql rfl (fun _ hw=>⟨⟨xu,uu⟩,rfl,fun _ _ _=>rfl,hF,hw⟩)
     ·obtain ⟨xu,uu⟩:=x
      show J _ _ _ _ _ ((18,.int .i64 ((i:Nat):Int))::(17,.slice (some ⟨q1,o1,none⟩) xa.length c1)::_) _
      refine J.pr (fun hF=>?_);refine J.qu Ty.el44 Ty.s28 rfl rfl (by omega) (by omega) rfl ?_
      exact J.ql rfl (fun _ hw=>⟨⟨xu,uu⟩,rfl,fun _ _ _=>rfl,hF,hw⟩)
     ·obtain ⟨xu,uu⟩:=x
      show J _ _ _ _ _ ((19,.pointer (some ⟨q1,o1+((i:Nat):Int).toNat*34,none⟩))::_) _
      refine J.pr (fun hF=>?_);refine J.qi Ty.fd28_0 rfl rfl ?_
      exact J.ql rfl (fun _ hw=>⟨⟨xu,uu⟩,rfl,fun _ _ _=>rfl,hF,hw⟩)
     ·obtain ⟨xu,uu⟩:=x
      show J _ _ _ _ _ ((20,.pointer (some ⟨q1,o1+((i:Nat):Int).toNat*34+0,none⟩))::_) _
      refine J.pr (fun hF=>?_);refine J.qC (vs:=cI kx) Ty.a23 Ty.s23 rfl rfl (fun w1 hw=>zg (r:=0) (hr1.below (hw.drop (List.nil_sublist _)).below) hxg rfl (by rw [Int.toNat_natCast])) rfl ?_
      exact J.ql rfl (fun _ hw=>⟨⟨xu,uu⟩,rfl,fun _ _ _=>rfl,hF,hw⟩)
     ·obtain ⟨xu,uu⟩:=x
      show J _ _ _ _ _ (_) _
      refine J.pr (fun hF=>?_);refine J.qe rfl rfl ?_
      exact J.ql rfl (fun _ hw=>⟨⟨xu,uu⟩,rfl,fun _ _ _=>rfl,hF,hw⟩)
     ·obtain ⟨xu,uu⟩:=x
      show J _ _ _ _ _ (_) _
      refine J.pr (fun hF=>?_);refine J.qe rfl rfl ?_
      exact J.ql rfl (fun _ hw=>⟨⟨xu,uu⟩,rfl,fun _ _ _=>rfl,hF,hw⟩)
     ·obtain ⟨xu,uu⟩:=x
      show J _ _ _ _ _ ((23,.int .i64 ((i:Nat):Int))::(22,.slice (some ⟨q2,o2,none⟩) bs.length c2)::_) _
      refine J.pr (fun hF=>?_);refine J.qu Ty.el44 Ty.s28 rfl rfl (by omega) (by omega) rfl ?_
      exact J.ql rfl (fun _ hw=>⟨⟨xu,uu⟩,rfl,fun _ _ _=>rfl,hF,hw⟩)
     ·obtain ⟨xu,uu⟩:=x
      show J _ _ _ _ _ ((24,.pointer (some ⟨q2,o2+((i:Nat):Int).toNat*34,none⟩))::_) _
      refine J.pr (fun hF=>?_);refine J.qi Ty.fd28_0 rfl rfl ?_
      exact J.ql rfl (fun _ hw=>⟨⟨xu,uu⟩,rfl,fun _ _ _=>rfl,hF,hw⟩)
     ·obtain ⟨xu,uu⟩:=x
      show J _ _ _ _ _ ((25,.pointer (some ⟨q2,o2+((i:Nat):Int).toNat*34+0,none⟩))::_) _
      refine J.pr (fun hF=>?_);refine J.qC (vs:=cI ky) Ty.a23 Ty.s23 rfl rfl (fun w1 hw=>zg (r:=0) (hr2.below (hw.drop (List.nil_sublist _)).below) hyg rfl (by rw [Int.toNat_natCast])) rfl ?_
      exact J.ql rfl (fun _ hw=>⟨⟨xu,uu⟩,rfl,fun _ _ _=>rfl,hF,hw⟩)
     ·obtain ⟨xu,uu⟩:=x
      show J _ _ _ _ _ ((26,.agg (cI ky).toArray)::(21,.agg (cI kx).toArray)::_) _
      refine J.pr (fun hF=>?_);refine J.neI Ty.QI Ty.keyI rfl rfl rfl<|J.name 27 rfl (show _=Value.bool true by simp [e1]) ?_
      exact J.ql rfl (fun _ hw=>⟨⟨xu,uu⟩,rfl,fun _ _ _=>rfl,hF,hw⟩)
     ·obtain ⟨xu,uu⟩:=x
      show J _ _ _ _ _ ((27,.bool true)::_) _
      refine J.pr (fun hF=>?_);refine J.qe rfl rfl ?_
      exact J.ql rfl (fun _ hw=>⟨⟨xu,uu⟩,rfl,fun _ _ _=>rfl,hF,hw⟩)
     ·obtain ⟨xu,uu⟩:=x
      show J _ _ _ _ _ ((28,.bool true)::_) _
      refine J.pr (fun hF=>?_)
      first | refine J.skip rfl rfl rfl rfl rfl ?_ | refine J.qh rfl rfl rfl rfl ?_ | (refine J.qf rfl rfl rfl ?_;refine J.qe rfl rfl ?_)
      exact J.ql rfl (fun _ hw=>⟨⟨xu,uu⟩,rfl,fun _ _ _=>rfl,hF,hw⟩)
     ·obtain ⟨xu,uu⟩:=x
      show J _ _ _ _ _ ((28,.bool true)::_) _
      refine J.pr (fun hF=>?_)
      first | refine J.skip rfl rfl rfl rfl rfl ?_ | refine J.qh rfl rfl rfl rfl ?_ | (refine J.qf rfl rfl rfl ?_;refine J.qe rfl rfl ?_)
      exact J.ql rfl (fun _ hw=>⟨⟨xu,uu⟩,rfl,fun _ _ _=>rfl,hF,hw⟩)
     ·obtain ⟨xu,uu⟩:=x
      show J _ _ _ _ _ ((28,.bool true)::(30,undef)::(29,undef)::_) _
      refine J.pr (fun hF=>?_)
      first | refine J.skip rfl rfl rfl rfl rfl ?_ | refine J.qh rfl rfl rfl rfl ?_ | (refine J.qf rfl rfl rfl ?_;refine J.qu Ty.el44 Ty.s28 rfl rfl (by omega) (by omega) rfl ?_)
      exact J.ql rfl (fun _ hw=>⟨⟨xu,uu⟩,rfl,fun _ _ _=>rfl,hF,hw⟩)
     ·obtain ⟨xu,uu⟩:=x
      show J _ _ _ _ _ ((28,.bool true)::(31,undef)::_) _
      refine J.pr (fun hF=>?_)
      first | refine J.skip rfl rfl rfl rfl rfl ?_ | refine J.qh rfl rfl rfl rfl ?_ | (refine J.qf rfl rfl rfl ?_;refine J.qi Ty.fd28_1 rfl rfl ?_)
      exact J.ql rfl (fun _ hw=>⟨⟨xu,uu⟩,rfl,fun _ _ _=>rfl,hF,hw⟩)
     ·obtain ⟨xu,uu⟩:=x
      show J _ _ _ _ _ ((28,.bool true)::(32,undef)::_) _
      refine J.pr (fun hF=>?_)
      first | refine J.skip rfl rfl rfl rfl rfl ?_ | refine J.qh rfl rfl rfl rfl ?_ | (refine J.qf rfl rfl rfl ?_;refine J.zB Ty.a25 Ty.s25 rfl zm (by exact rfl) rfl rfl ?_)
      exact J.ql rfl (fun _ hw=>⟨⟨xu,uu⟩,rfl,fun _ _ _=>rfl,hF,hw⟩)
     ·obtain ⟨xu,uu⟩:=x
      show J _ _ _ _ _ ((28,.bool true)::_) _
      refine J.pr (fun hF=>?_)
      first | refine J.skip rfl rfl rfl rfl rfl ?_ | refine J.qh rfl rfl rfl rfl ?_ | (refine J.qf rfl rfl rfl ?_;refine J.qe rfl rfl ?_)
      exact J.ql rfl (fun _ hw=>⟨⟨xu,uu⟩,rfl,fun _ _ _=>rfl,hF,hw⟩)
     ·obtain ⟨xu,uu⟩:=x
      show J _ _ _ _ _ ((28,.bool true)::_) _
      refine J.pr (fun hF=>?_)
      first | refine J.skip rfl rfl rfl rfl rfl ?_ | refine J.qh rfl rfl rfl rfl ?_ | (refine J.qf rfl rfl rfl ?_;refine J.qe rfl rfl ?_)
      exact J.ql rfl (fun _ hw=>⟨⟨xu,uu⟩,rfl,fun _ _ _=>rfl,hF,hw⟩)
     ·obtain ⟨xu,uu⟩:=x
      show J _ _ _ _ _ ((28,.bool true)::(35,undef)::(34,undef)::_) _
      refine J.pr (fun hF=>?_)
      first | refine J.skip rfl rfl rfl rfl rfl ?_ | refine J.qh rfl rfl rfl rfl ?_ | (refine J.qf rfl rfl rfl ?_;refine J.qu Ty.el44 Ty.s28 rfl rfl (by omega) (by omega) rfl ?_)
      exact J.ql rfl (fun _ hw=>⟨⟨xu,uu⟩,rfl,fun _ _ _=>rfl,hF,hw⟩)
     ·obtain ⟨xu,uu⟩:=x
      show J _ _ _ _ _ ((28,.bool true)::(36,undef)::_) _
      refine J.pr (fun hF=>?_)
      first | refine J.skip rfl rfl rfl rfl rfl ?_ | refine J.qh rfl rfl rfl rfl ?_ | (refine J.qf rfl rfl rfl ?_;refine J.qi Ty.fd28_1 rfl rfl ?_)
      exact J.ql rfl (fun _ hw=>⟨⟨xu,uu⟩,rfl,fun _ _ _=>rfl,hF,hw⟩)
     ·obtain ⟨xu,uu⟩:=x
      show J _ _ _ _ _ ((28,.bool true)::(37,undef)::_) _
      refine J.pr (fun hF=>?_)
      first | refine J.skip rfl rfl rfl rfl rfl ?_ | refine J.qh rfl rfl rfl rfl ?_ | (refine J.qf rfl rfl rfl ?_;refine J.zB Ty.a25 Ty.s25 rfl zm (by exact rfl) rfl rfl ?_)
      exact J.ql rfl (fun _ hw=>⟨⟨xu,uu⟩,rfl,fun _ _ _=>rfl,hF,hw⟩)
     ·obtain ⟨xu,uu⟩:=x
      show J _ _ _ _ _ ((28,.bool true)::(38,undef)::(33,undef)::_) _
      refine J.pr (fun hF=>?_)
      (first | refine J.skip rfl rfl rfl rfl rfl ?_ | refine J.qh rfl rfl rfl rfl ?_)
      exact J.ql rfl (fun _ hw=>⟨⟨xu,uu⟩,rfl,fun _ _ _=>rfl,hF,hw⟩)
     ·obtain ⟨xu,uu⟩:=x
      show J _ _ _ _ _ ((39,undef)::(28,.bool true)::_) _
      refine J.pr (fun hF=>?_)
      (first | refine J.qr rfl rfl rfl ?_ | refine J.qs rfl rfl rfl ?_)
      exact J.ql rfl (fun _ hw=>⟨⟨xu,uu⟩,rfl,fun _ _ _=>rfl,hF,hw⟩)
     ·obtain ⟨xu,uu⟩:=x
      show J _ _ _ _ _ ((28,.bool true)::(40,.bool true)::_) _
      refine J.pr (fun hF=>?_);refine J.qe rfl rfl ?_
      exact J.ql rfl (fun _ hw=>⟨⟨xu,uu⟩,rfl,fun _ _ _=>rfl,hF,hw⟩)
     ·obtain ⟨xu,uu⟩:=x
      show J _ _ _ _ _ ((41,.bool true)::_) _
      refine J.pr (fun hF=>?_)
      first | refine J.skip rfl rfl rfl rfl rfl ?_ | refine J.qh rfl rfl rfl rfl ?_ | (refine J.qf rfl rfl rfl ?_;refine J.qe rfl rfl ?_)
      exact J.ql rfl (fun _ hw=>⟨⟨xu,uu⟩,rfl,fun _ _ _=>rfl,hF,hw⟩)
     ·obtain ⟨xu,uu⟩:=x
      show J _ _ _ _ _ ((41,.bool true)::_) _
      refine J.pr (fun hF=>?_)
      first | refine J.skip rfl rfl rfl rfl rfl ?_ | refine J.qh rfl rfl rfl rfl ?_ | (refine J.qf rfl rfl rfl ?_;refine J.qe rfl rfl ?_)
      exact J.ql rfl (fun _ hw=>⟨⟨xu,uu⟩,rfl,fun _ _ _=>rfl,hF,hw⟩)
     ·obtain ⟨xu,uu⟩:=x
      show J _ _ _ _ _ ((41,.bool true)::(43,undef)::(42,undef)::_) _
      refine J.pr (fun hF=>?_)
      first | refine J.skip rfl rfl rfl rfl rfl ?_ | refine J.qh rfl rfl rfl rfl ?_ | (refine J.qf rfl rfl rfl ?_;refine J.qu Ty.el44 Ty.s28 rfl rfl (by omega) (by omega) rfl ?_)
      exact J.ql rfl (fun _ hw=>⟨⟨xu,uu⟩,rfl,fun _ _ _=>rfl,hF,hw⟩)
     ·obtain ⟨xu,uu⟩:=x
      show J _ _ _ _ _ ((41,.bool true)::(44,undef)::_) _
      refine J.pr (fun hF=>?_)
      first | refine J.skip rfl rfl rfl rfl rfl ?_ | refine J.qh rfl rfl rfl rfl ?_ | (refine J.qf rfl rfl rfl ?_;refine J.qi Ty.fd28_2 rfl rfl ?_)
      exact J.ql rfl (fun _ hw=>⟨⟨xu,uu⟩,rfl,fun _ _ _=>rfl,hF,hw⟩)
     ·obtain ⟨xu,uu⟩:=x
      show J _ _ _ _ _ ((41,.bool true)::(45,undef)::_) _
      refine J.pr (fun hF=>?_)
      first | refine J.skip rfl rfl rfl rfl rfl ?_ | refine J.qh rfl rfl rfl rfl ?_ | (refine J.qf rfl rfl rfl ?_;refine J.qQ Ty.a26 rfl zm (by exact rfl) rfl ?_)
      exact J.ql rfl (fun _ hw=>⟨⟨xu,uu⟩,rfl,fun _ _ _=>rfl,hF,hw⟩)
     ·obtain ⟨xu,uu⟩:=x
      show J _ _ _ _ _ ((41,.bool true)::(46,undef)::_) _
      refine J.pr (fun hF=>?_)
      first | refine J.skip rfl rfl rfl rfl rfl ?_ | refine J.qh rfl rfl rfl rfl ?_ | (refine J.qf rfl rfl rfl ?_;fail)
      exact J.ql rfl (fun _ hw=>⟨⟨xu,uu⟩,rfl,fun _ _ _=>rfl,hF,hw⟩)
     ·obtain ⟨xu,uu⟩:=x
      show J _ _ _ _ _ ((41,.bool true)::_) _
      refine J.pr (fun hF=>?_)
      first | refine J.skip rfl rfl rfl rfl rfl ?_ | refine J.qh rfl rfl rfl rfl ?_ | (refine J.qf rfl rfl rfl ?_;refine J.qe rfl rfl ?_)
      exact J.ql rfl (fun _ hw=>⟨⟨xu,uu⟩,rfl,fun _ _ _=>rfl,hF,hw⟩)
     ·obtain ⟨xu,uu⟩:=x
      show J _ _ _ _ _ ((41,.bool true)::_) _
      refine J.pr (fun hF=>?_)
      first | refine J.skip rfl rfl rfl rfl rfl ?_ | refine J.qh rfl rfl rfl rfl ?_ | (refine J.qf rfl rfl rfl ?_;refine J.qe rfl rfl ?_)
      exact J.ql rfl (fun _ hw=>⟨⟨xu,uu⟩,rfl,fun _ _ _=>rfl,hF,hw⟩)
     ·obtain ⟨xu,uu⟩:=x
      show J _ _ _ _ _ ((41,.bool true)::(49,undef)::(48,undef)::_) _
      refine J.pr (fun hF=>?_)
      first | refine J.skip rfl rfl rfl rfl rfl ?_ | refine J.qh rfl rfl rfl rfl ?_ | (refine J.qf rfl rfl rfl ?_;refine J.qu Ty.el44 Ty.s28 rfl rfl (by omega) (by omega) rfl ?_)
      exact J.ql rfl (fun _ hw=>⟨⟨xu,uu⟩,rfl,fun _ _ _=>rfl,hF,hw⟩)
     ·obtain ⟨xu,uu⟩:=x
      show J _ _ _ _ _ ((41,.bool true)::(50,undef)::_) _
      refine J.pr (fun hF=>?_)
      first | refine J.skip rfl rfl rfl rfl rfl ?_ | refine J.qh rfl rfl rfl rfl ?_ | (refine J.qf rfl rfl rfl ?_;refine J.qi Ty.fd28_2 rfl rfl ?_)
      exact J.ql rfl (fun _ hw=>⟨⟨xu,uu⟩,rfl,fun _ _ _=>rfl,hF,hw⟩)
     ·obtain ⟨xu,uu⟩:=x
      show J _ _ _ _ _ ((41,.bool true)::(51,undef)::_) _
      refine J.pr (fun hF=>?_)
      first | refine J.skip rfl rfl rfl rfl rfl ?_ | refine J.qh rfl rfl rfl rfl ?_ | (refine J.qf rfl rfl rfl ?_;refine J.qQ Ty.a26 rfl zm (by exact rfl) rfl ?_)
      exact J.ql rfl (fun _ hw=>⟨⟨xu,uu⟩,rfl,fun _ _ _=>rfl,hF,hw⟩)
     ·obtain ⟨xu,uu⟩:=x
      show J _ _ _ _ _ ((41,.bool true)::(52,undef)::_) _
      refine J.pr (fun hF=>?_)
      first | refine J.skip rfl rfl rfl rfl rfl ?_ | refine J.qh rfl rfl rfl rfl ?_ | (refine J.qf rfl rfl rfl ?_;fail)
      exact J.ql rfl (fun _ hw=>⟨⟨xu,uu⟩,rfl,fun _ _ _=>rfl,hF,hw⟩)
     ·obtain ⟨xu,uu⟩:=x
      show J _ _ _ _ _ ((41,.bool true)::(53,undef)::(47,undef)::_) _
      refine J.pr (fun hF=>?_)
      first | refine J.skip rfl rfl rfl rfl rfl ?_ | refine J.qh rfl rfl rfl rfl ?_ | (refine J.qf rfl rfl rfl ?_;(first | refine J.strNe rfl rfl rfl ?_ | refine J.qj rfl rfl rfl rfl ?_))
      exact J.ql rfl (fun _ hw=>⟨⟨xu,uu⟩,rfl,fun _ _ _=>rfl,hF,hw⟩)
     ·obtain ⟨xu,uu⟩:=x
      show J _ _ _ _ _ ((54,undef)::(41,.bool true)::_) _
      refine J.pr (fun hF=>?_)
      (first | refine J.qr rfl rfl rfl ?_ | refine J.qs rfl rfl rfl ?_)
      exact J.ql rfl (fun _ hw=>⟨⟨xu,uu⟩,rfl,fun _ _ _=>rfl,hF,hw⟩)
    case htail=>
     intro x
     obtain ⟨xu,uu⟩:=x
     show J _ _ _ _ _ ((55,.bool true)::(54,undef)::(53,undef)::(52,undef)::(51,undef)::(50,undef)::(49,undef)::(48,undef)::(47,undef)::(46,undef)::(45,undef)::(44,undef)::(43,undef)::(42,undef)::(41,.bool true)::(40,.bool true)::(39,undef)::(38,undef)::(37,undef)::(36,undef)::(35,undef)::(34,undef)::(33,undef)::(32,undef)::(31,undef)::(30,undef)::(29,undef)::(28,.bool true)::(27,.bool true)::(26,.agg (cI ky).toArray)::(25,.pointer (some ⟨q2,o2+((i:Nat):Int).toNat*34+0,none⟩))::(24,.pointer (some ⟨q2,o2+((i:Nat):Int).toNat*34,none⟩))::(23,.int .i64 ((i:Nat):Int))::(22,.slice (some ⟨q2,o2,none⟩) bs.length c2)::(21,.agg (cI kx).toArray)::(20,.pointer (some ⟨q1,o1+((i:Nat):Int).toNat*34+0,none⟩))::(19,.pointer (some ⟨q1,o1+((i:Nat):Int).toNat*34,none⟩))::(18,.int .i64 ((i:Nat):Int))::(17,.slice (some ⟨q1,o1,none⟩) xa.length c1)::_) (fun w1=>(True)∧St w [] ([]) w1)
     refine J.pr (fun hF=>?_);refine J.nil ?_;refine JX.qd (hK9 _ _ ?_)
     first | refine JC.qP rfl ?_ | refine JC.qn rfl (fun _=>?_) (fun h=>by first | (exfalso;simp at h;omega) | (simp at h))
     refine JC.seq (fun K12 hK12=>?_);refine JC.region<|J.assign rfl rfl<|J.nil ?_;refine JX.qd (hK12 _ _ ?_);refine JC.qA<|JX.qH<|JX.qt<|JX.qt<|JX.qH<|JX.qt ?_;refine JX.qL rfl rfl (fun w hw=>?_)
     first
     | exact ⟨by rw [decide_eq_true hg],hw.below⟩
     | exact ⟨by rw [decide_eq_false hg],hw.below⟩
  ·have hge:i=xa.length:=by simp at h1;omega
   have hg:xa.map HI.it=bs.map HI.it:=by
    rw [hge,List.take_of_length_le (Nat.le_refl _),List.take_of_length_le (by omega)] at hti
    exact hti
   refine JC.qX<|JX.qE<|JX.qE<|JX.qT ?_;refine JX.qd (hK4 _ _ ?_);refine JC.seq (fun K13 hK13=>?_);refine JC.region<|J.assign rfl rfl<|J.nil ?_;refine JX.qd (hK13 _ _ ?_);refine JC.qA ?_;refine JX.qL rfl rfl (fun w hw=>?_)
   first
   | exact ⟨by rw [decide_eq_true hg],hw.below⟩
   | exact ⟨by rw [decide_eq_false hg],hw.below⟩
theorem one_spec (xc yc:List Value) (x y:HI) (w:World) (hxc:xc=cH x) (hyc:yc=cH y) (hx:(∃a c,x.sv=.slice a x.bs.length c)∧Row w x.sv x.bs.length (x.bs.map u8)∧okN x.ver.n) (hy:(∃a c,y.sv=.slice a y.bs.length c)∧Row w y.sv y.bs.length (y.bs.map u8)∧okN y.ver.n) :
  Calls Try.prog 35 [.agg xc.toArray,.agg yc.toArray].toArray w fun r w'=>r=.returned (.bool (decide (x.it=y.it)))∧Bel w w':=by
 obtain ⟨⟨ax,cx,hsx⟩,hxr,hxv⟩:=hx
 obtain ⟨⟨ay,cy,hsy⟩,hyr,hyv⟩:=hy
 obtain ⟨kx,vx,bx,sx,lx⟩:=x
 obtain ⟨ky,vy,by_,sy,ly⟩:=y
 simp only at hsx hsy hxr hyr hxv hyv
 subst hsx hsy
 refine qD (args:=[.agg xc.toArray,.agg yc.toArray]) (e:=[(0,.agg xc.toArray),(1,.agg yc.toArray)]) Try.func35 rfl rfl ⟨rfl,rfl,trivial⟩ (St.start w) ?_;refine JC.seq (fun K0 hK0=>?_);refine JC.region ?_;refine J.box rfl rfl rfl (fun b2=>?_);refine J.box rfl rfl rfl (fun b3=>?_)
 subst hxc hyc
 refine J.assign rfl rfl<|J.nil ?_;refine JX.qd (hK0 _ _ ?_);refine JC.seq (fun K1 hK1=>?_);refine JC.region<|J.qC (vs:=(cT kx vx (.slice ax bx.length cx))) Ty.a28 Ty.s28 rfl rfl (fun w1 hw=>Cells.of_block (hw.own (b2,cb (cT kx vx (.slice ax bx.length cx)) 28) zm) rfl) rfl ?_;refine J.za (cs:=(cT kx vx (.slice ax bx.length cx))) Ty.el44 Ty.s28 Ty.zIt rfl rfl rfl rfl (by kernel_rfl) rfl rfl (fun b6=>?_);refine J.qC (vs:=(cT ky vy (.slice ay by_.length cy))) Ty.a28 Ty.s28 rfl rfl (fun w1 hw=>Cells.of_block (hw.own (b3,cb (cT ky vy (.slice ay by_.length cy)) 28) zm) rfl) rfl ?_;refine J.za (cs:=(cT ky vy (.slice ay by_.length cy))) Ty.el44 Ty.s28 Ty.zIt rfl rfl rfl rfl (by kernel_rfl) rfl rfl (fun b8=>?_);refine J.qR (v:=.bool (decide (([⟨kx,vx,bx,.slice ax bx.length cx,lx⟩]:List HI).map HI.it=([⟨ky,vy,by_,.slice ay by_.length cy,ly⟩]:List HI).map HI.it))) (fun w1 w2 hw hb=>hw.step hb) Ty.bd32 rfl rfl (fun w1 hw=>rsame_spec _ _ [⟨kx,vx,bx,.slice ax bx.length cx,lx⟩] [⟨ky,vy,by_,.slice ay by_.length cy,ly⟩] w1 (Row.own (cs:=(cT kx vx (.slice ax bx.length cx))) (tb:=28) (fr:=(0,0)) hw (.tail _ (.head _)) rfl (Nat.le_refl _)) (Row.own (cs:=(cT ky vy (.slice ay by_.length cy))) (tb:=28) (fr:=(0,0)) hw (.head _) rfl (Nat.le_refl _)) (fun z hz=>by rw [List.mem_singleton.1 hz];exact ⟨⟨_,_,rfl⟩,(hxr.below (hw.drop (List.nil_sublist _)).below),hxv⟩) (fun z hz=>by rw [List.mem_singleton.1 hz];exact ⟨⟨_,_,rfl⟩,(hyr.below (hw.drop (List.nil_sublist _)).below),hyv⟩) (by show 1≤100000;omega) (by show 1≤100000;omega)) ?_;refine J.assign rfl rfl<|J.nil ?_;refine JX.qd (hK1 _ _ ?_);refine JC.qA ?_;refine JX.qL rfl rfl (fun w hw=>?_)
 exact ⟨by congr 2;simp [HI.it],(hw.drop (List.nil_sublist _)).below⟩
theorem newB_iff {a b:WV}:newB a b=true↔b.n<a.n∨(a.n=b.n∧valI b.who<valI a.who):=by
 unfold newB
 rw [Bool.or_eq_true,Bool.and_eq_true,decide_eq_true_eq,decide_eq_true_eq,decide_eq_true_eq]
theorem newB_le {x y t:WV} (h1:newB x y=true) (h2:newB t y=false):newB t x=false:=by
 rw [Bool.eq_false_iff,ne_eq,newB_iff] at h2 ⊢
 rw [newB_iff] at h1
 omega
theorem newB_self (x:WV):newB x x=false:=by
 rw [Bool.eq_false_iff,ne_eq,newB_iff]
 omega
theorem hget_set {L:List HI} (hd:L.Pairwise (fun x y=>x.key≠y.key)) (x:HI) (k:IDV):hget (hset L x) k=if k=x.key then some x else hget L k:=by
 cases h:hget L x.key with
 | none=>
  have e:hset L x=L++[x]:=by unfold hset;rw [h];rfl
  rw [e]
  unfold hget
  rw [List.find?_append]
  by_cases hk:k=x.key
  ·subst hk
   rw [if_pos rfl]
   have h0:L.find? (fun h=>decide (h.key=x.key))=none:=h
   rw [h0]
   simp
  ·rw [if_neg hk]
   have:[x].find? (fun h=>decide (h.key=k))=none:=by simp [Ne.symm hk]
   rw [this,Option.or_none]
 | some y=>
  obtain ⟨l1,l2,h1,h2⟩:=hset_split hd h
  have hyk:=(zT h).2
  rw [h2]
  by_cases hk:k=x.key
  ·subst hk
   rw [if_pos rfl]
   unfold hget
   rw [List.find?_append]
   have hn:l1.find? (fun h=>decide (h.key=x.key))=none:=List.find?_eq_none.2 fun z hz=>by
    rw [h1] at hd
    have:=(List.pairwise_append.1 hd).2.2 z hz y (.head _)
    simp only [decide_eq_true_eq]
    exact fun e=>this (e.trans hyk.symm)
   rw [hn]
   simp
  ·rw [if_neg hk,h1]
   unfold hget
   rw [List.find?_append,List.find?_append,List.find?_cons,List.find?_cons]
   have e1:decide (x.key=k)=false:=decide_eq_false (Ne.symm hk)
   have e2:decide (y.key=k)=false:=decide_eq_false (fun e=>hk (by rw [← e,hyk]))
   rw [e1,e2]
structure Kept (L sure tried:List HI):Prop where
 sure:∀x,x∈sure→∃y,hget L x.key=some y∧newB x.ver y.ver=false
 tried:∀x,x∈L→x.it∈tried.map HI.it
theorem Kept.nil:Kept [] [] []:=⟨fun _ h=>(by cases h),fun _ h=>(by cases h)⟩
theorem Kept.more {L sure tried:List HI} (h:Kept L sure tried) (t:HI):Kept L sure (tried++[t]):=⟨h.sure,fun x hx=>by rw [List.map_append];exact List.mem_append_left _ (h.tried x hx)⟩
theorem Kept.old {L sure tried:List HI} (h:Kept L sure tried) (t:HI) (ht:∃y,hget L t.key=some y∧newB t.ver y.ver=false):Kept L (sure++[t]) (tried++[t]):=⟨fun x hx=>by
 rcases List.mem_append.1 hx with hx | hx
 ·exact h.sure x hx
 ·rw [List.mem_singleton.1 hx];exact ht,(h.more t).tried⟩
theorem Kept.set {L sure tried:List HI} (hd:L.Pairwise (fun x y=>x.key≠y.key)) (h:Kept L sure tried) (x t:HI) (ht:x.it=t.it) (hn:∀y,hget L x.key=some y→newB x.ver y.ver=true):Kept (hset L x) (sure++[t]) (tried++[t]):=by
 have hk:x.key=t.key:=congrArg ItV.key ht
 have hv:x.ver=t.ver:=congrArg ItV.ver ht
 refine ⟨fun z hz=>?_,fun z hz=>?_⟩
 ·rw [hget_set hd]
  rcases List.mem_append.1 hz with hz | hz
  ·obtain ⟨y,hy1,hy2⟩:=h.sure z hz
   by_cases hkz:z.key=x.key
   ·rw [if_pos hkz]
    exact ⟨x,rfl,newB_le (hn y (by rw [← hkz];exact hy1)) hy2⟩
   ·rw [if_neg hkz];exact ⟨y,hy1,hy2⟩
  ·rw [List.mem_singleton.1 hz,if_pos hk.symm]
   exact ⟨x,rfl,by rw [hv];exact newB_self _⟩
 ·rw [List.map_append]
  rcases hset_mem hz with rfl | hz
  ·exact List.mem_append_right _ (by rw [ht];exact .head _)
  ·exact List.mem_append_left _ (h.tried z hz)
theorem row_off {w w1:World} {l:List (Nat × Obj)} {v:Value} {k:Nat} {xs:List Value} {T:List Nat} (h:Row w v k xs) (hw:St w [] l w1) (hT:∀b,b∈T→b∈l.map (·.1)):Off T v xs:=by
 obtain ⟨a,c,rfl,hc,h⟩:=h
 by_cases hx:xs=[]
 ·exact .inl hx
 ·rcases h with h | ⟨b,o,rfl,hcl⟩
  ·exact absurd h hx
  ·refine .inr fun b' o' k' c' e=>?_
   simp only [Value.slice.injEq,Option.some.injEq,Addr.mk.injEq] at e
   rw [← e.1.1]
   exact fun hm=>St.notin hw (hcl.lt hx) (hT _ hm)
theorem merge_new {n:Nat} {q q':LogP} {σ σ':DS} {dn dn':Bool} {L:List HI} {x:ItV} {e:Int} (h:vmergeP n q dn σ (L.map HI.it) x=(true,e,q',dn',σ')):okIt x∧∀y,hget L x.key=some y→newB x.ver y.ver=true:=by
 unfold vmergeP at h
 split at h
 ·cases h
 ·rename_i h1
  split at h
  ·cases h
  ·rename_i h2
   split at h
   ·cases h
   ·rename_i h3
    refine ⟨⟨by omega,by omega,by omega⟩,fun y hy=>?_⟩
    rw [z8,Option.isSome_map,hy] at h3
    cases hb:newB x.ver y.ver with
    | true=>rfl
    | false=>exact absurd ⟨rfl,hb⟩ h3
theorem merge_log {n:Nat} {q q':LogP} {σ σ':DS} {dn dn':Bool} {L:List ItV} {x:ItV} {r:Bool} {e:Int} (hn:n≤4096) (hI:LogI n q σ) (hg:q.gen+1<9223372036854775808) (h:vmergeP n q dn σ L x=(r,e,q',dn',σ')) :
  LogI n q' σ'∧σ.k≤σ'.k∧σ'.k≤σ.k+19∧q'.gen≤q.gen+1∧((r=true∧e=0∧q'.recs=q.recs++[formB x])∨(r=false∧q'=q)):=by
 unfold vmergeP at h
 split at h
 ·simp only [Prod.mk.injEq] at h
  obtain ⟨rfl,rfl,rfl,rfl,rfl⟩:=h
  exact ⟨hI,Int.le_refl _,by omega,by omega,.inr ⟨rfl,rfl⟩⟩
 ·split at h
  ·simp only [Prod.mk.injEq] at h
   obtain ⟨rfl,rfl,rfl,rfl,rfl⟩:=h
   exact ⟨hI,Int.le_refl _,by omega,by omega,.inr ⟨rfl,rfl⟩⟩
  ·split at h
   ·simp only [Prod.mk.injEq] at h
    obtain ⟨rfl,rfl,rfl,rfl,rfl⟩:=h
    exact ⟨hI,Int.le_refl _,by omega,by omega,.inr ⟨rfl,rfl⟩⟩
   ·obtain ⟨e2,q2,d2,s2,h1,h2,h3,h4,h5,h6,h7,h8⟩:=yX (down:=dn) (rec_:=formB x) hn hI hg
    rw [h1] at h
    simp only [Prod.mk.injEq] at h
    obtain ⟨h9,rfl,rfl,rfl,rfl⟩:=h
    refine ⟨h2,h3,h4,h5,?_⟩
    rcases h7 with ⟨ha,hb⟩ | ⟨ha,hb⟩
    ·exact .inl ⟨by rw [← h9];exact decide_eq_true ha,ha,hb⟩
    ·exact .inr ⟨by rw [← h9];exact decide_eq_false ha,hb⟩
structure NwS where
 i:Nat
 q:LogP
 dn:Bool
 σ:DS
 L:List HI
 es:Array MapEntry
 ck:Nat
 tk:List HI
 v5:Value
 l5:List (Nat × Obj)
structure NwI (w:World) (st:NwS):Prop where
 i:st.i≤61
 log:LogI 900 st.q st.σ
 k0:0≤st.σ.k
 k:st.σ.k≤100+19*st.i
 gen:st.q.gen≤st.i+1
 vm:Vm st.L st.es st.ck
 ok:VOK st.L
 len:st.L.length≤st.i
 short:∀x,x∈st.L→x.bs.length≤64
 kept:Kept st.L st.tk st.tk
 tkl:st.tk.length≤st.i
 tke:∀x,x∈st.tk→(∃a c,x.sv=.slice a x.bs.length c)∧Row w x.sv x.bs.length (x.bs.map u8)∧okN x.ver.n
 vec:Vec 28 34 st.v5 st.tk.length (st.tk.flatMap cH) st.l5
def QN1:LogP:=⟨1,1,1,[incB 1]⟩
def toHI (x:ItX):HI:=⟨x.key,x.ver,x.v.xs,x.v.v,[]⟩
structure KeptV (L:List ItV) (sure tried:List HI):Prop where
 sure:∀x,x∈sure→∃y,getV L x.key=some y∧newB x.ver y.ver=false
 tried:∀x,x∈L→x∈tried.map HI.it
theorem KeptV.of {L:List HI} {sure tried:List HI} (h:Kept L sure tried):KeptV (L.map HI.it) sure tried:=⟨fun x hx=>by
 obtain ⟨y,h1,h2⟩:=h.sure x hx
 exact ⟨y.it,by rw [z8,h1];rfl,h2⟩,fun x hx=>by
 obtain ⟨z,hz,rfl⟩:=List.mem_map.1 hx
 exact h.tried z hz⟩
theorem KeptV.to {L:List HI} {sure tried:List HI} (h:KeptV (L.map HI.it) sure tried):Kept L sure tried:=⟨fun x hx=>by
 obtain ⟨y,h1,h2⟩:=h.sure x hx
 rw [z8] at h1
 obtain ⟨z,hz,rfl⟩:=Option.map_eq_some_iff.1 h1
 exact ⟨z,hz,h2⟩,fun x hx=>h.tried _ (List.mem_map.2 ⟨x,hx,rfl⟩)⟩
theorem Kept.put {L sure tried:List HI} (hd:L.Pairwise (fun x y=>x.key≠y.key)) (h:Kept L sure tried) (x s t:HI) (hs:s.it=x.it) (ht:x.it=t.it) (hn:∀y,hget L x.key=some y→newB x.ver y.ver=true):Kept (hset L x) (sure++[s]) (tried++[t]):=by
 have h0:=h.set hd x t ht hn
 refine ⟨fun z hz=>?_,h0.tried⟩
 rcases List.mem_append.1 hz with hz | hz
 ·exact h0.sure z (List.mem_append_left _ hz)
 ·rw [List.mem_singleton.1 hz]
  have hk:s.key=x.key:=congrArg ItV.key hs
  have hv:s.ver=x.ver:=congrArg ItV.ver hs
  refine ⟨x,?_,by rw [hv];exact newB_self _⟩
  rw [hget_set hd,if_pos hk]
theorem put_log {n:Nat} {q q':LogP} {σ σ':DS} {dn dn':Bool} {L:List ItV} {key who:IDV} {val:List UInt8} {e:Int} {o:Option ItV} (hn:n≤4096) (hI:LogI n q σ) (hg:q.gen+1<9223372036854775808) (h:vputP n q dn σ L key val who=(e,o,q',dn',σ')) :
  LogI n q' σ'∧σ.k≤σ'.k∧σ'.k≤σ.k+19∧q'.gen≤q.gen+1∧q.gen≤q'.gen∧((∃y,o=some y∧e=0∧y.bs=val∧q'.recs=q.recs++[formB y]∧q'.used=q.used+needN (formB y).length∧val.length≤64)∨(o=none∧e≠0∧q'=q)):=by
 unfold vputP at h
 split at h
 ·simp only [Prod.mk.injEq] at h
  obtain ⟨rfl,rfl,rfl,rfl,rfl⟩:=h
  exact ⟨hI,Int.le_refl _,by omega,by omega,Nat.le_refl _,.inr ⟨rfl,by decide,rfl⟩⟩
 ·rename_i hv
  split at h
  ·simp only [Prod.mk.injEq] at h
   obtain ⟨rfl,rfl,rfl,rfl,rfl⟩:=h
   exact ⟨hI,Int.le_refl _,by omega,by omega,Nat.le_refl _,.inr ⟨rfl,by decide,rfl⟩⟩
  ·obtain ⟨e2,q2,d2,s2,h1,h2,h3,h4,h5,h6,h7,h8⟩:=yX (down:=dn) (rec_:=formB ⟨key,⟨verN L key+1,who⟩,val⟩) hn hI hg
   rw [h1] at h
   simp only at h
   have hau:=append_used h1
   split at h
   ·rename_i he
    simp only [Prod.mk.injEq] at h
    obtain ⟨rfl,rfl,rfl,rfl,rfl⟩:=h
    rcases hau with ⟨_,hb⟩ | ⟨ha,_⟩
    ·exact ⟨h2,h3,h4,h5,h6,.inl ⟨_,rfl,rfl,rfl,by rw [hb],by rw [hb],by omega⟩⟩
    ·exact absurd he ha
   ·rename_i he
    simp only [Prod.mk.injEq] at h
    obtain ⟨rfl,rfl,rfl,rfl,rfl⟩:=h
    rcases hau with ⟨ha,_⟩ | ⟨_,hb⟩
    ·exact absurd ha he
    ·exact ⟨h2,h3,h4,h5,h6,.inr ⟨rfl,he,hb⟩⟩
section
variable {P:Program} {ops:Array Oper} {Q:Exit→Act→World→Prop} {n:Nat} {e:Env} {I I':World→Prop} {rest:List Oper}
variable {d t yt:Nat} {p:String} {af:Array Edge} {x y z:Operand}
theorem J.remV {ty:TypeId} {a b:Int} (hx:ev e x=some (.int .u64 a)) (hy:ev e y=some (.int .u64 b)) (h1:0≤a) (h3:0<b) (hd:Nat.blt d n=true)
  (h:J P ops Q n rest ((d,.int .u64 (a%b))::e) I):J P ops Q n (⟨some d,.binOp .rem ty x y yt,t,p,af,none⟩::rest) e I:=by
 refine J.qj (v:=.int .u64 (a.tmod b)) hx hy ?_ hd ?_
 ·simp only [binI,if_true]
  rw [if_neg (by omega)]
 ·rw [Int.tmod_eq_emod_of_nonneg h1];exact h
end
theorem LogI.power {n:Nat} {q:LogP} {σ:DS} (h:LogI n q σ) (p:Int) (hp:p<9223372036854775808):LogI n q ⟨σ.B,p,σ.k⟩:=⟨h.len,h.open_,hp⟩
structure BgS where
 i:Nat
 last:Nat
 q:LogP
 σ:DS
structure BgI (n:Nat) (st:BgS):Prop where
 log:LogI n st.q st.σ
 held:heldV st.q.recs=some (st.last,[])
 used:st.q.used≤st.i
 gen:st.q.gen≤st.i
 last:st.last≤st.i
 k0:0≤st.σ.k
 k:st.σ.k≤19*st.i
theorem BgI.ok {n:Nat} {st:BgS} (h:BgI n st) {σ':DS} (hl:LogI n ⟨st.q.gen+1,st.q.used+1,st.q.cnt+1,st.q.recs++[incB (st.last+1)]⟩ σ') (hi:st.i≤1000) (hk:st.σ.k≤σ'.k) (hk2:σ'.k≤st.σ.k+19) :
  BgI n ⟨st.i+1,st.last+1,⟨st.q.gen+1,st.q.used+1,st.q.cnt+1,st.q.recs++[incB (st.last+1)]⟩,σ'⟩:=by
 have h1:=h.used
 have h2:=h.gen
 have h3:=h.last
 have h4:=h.k0
 have h5:=h.k
 exact ⟨hl,held_inc h.held (by omega),by simp only;omega,by simp only;omega,by simp only;omega,by simp only;omega,by simp only;omega⟩
theorem BgI.bad {n:Nat} {st:BgS} (h:BgI n st) {σ':DS} (hl:LogI n st.q σ') (hk:st.σ.k≤σ'.k) (hk2:σ'.k≤st.σ.k+19):BgI n ⟨st.i+1,st.last,st.q,σ'⟩:=by
 have h1:=h.used
 have h2:=h.gen
 have h3:=h.last
 have h4:=h.k0
 have h5:=h.k
 exact ⟨hl,h.held,by simp only;omega,by simp only;omega,by simp only;omega,by simp only;omega,by simp only;omega⟩
structure KpS where
 k:Nat
 at_:Nat
 q:LogP
 σ:DS
 Lp:List ItV
 sure:List HI
 tried:List HI
 v6:Value
 l6:List (Nat × Obj)
 v7:Value
 l7:List (Nat × Obj)
structure KpI (w:World) (st:KpS):Prop where
 k:st.k≤16
 at_:st.at_≤60
 log:LogI 900 st.q st.σ
 held:heldV st.q.recs=some (st.k,st.Lp)
 k0:0≤st.σ.k
 kb:st.σ.k≤19*(st.at_+st.k)
 gen:st.q.gen≤st.at_+st.k
 used:st.q.used≤3*st.at_+st.k
 kept:KeptV st.Lp st.sure st.tried
 len:st.Lp.length≤st.at_
 short:∀x,x∈st.Lp→x.bs.length≤64
 sl:st.sure.length≤st.at_
 tl:st.tried.length≤st.at_
 sf:∀x,x∈st.sure→∃a c,x.sv=.slice a x.bs.length c
 te:∀x,x∈st.tried→(∃a c,x.sv=.slice a x.bs.length c)∧Row w x.sv x.bs.length (x.bs.map u8)∧okN x.ver.n
 vec6:Vec 28 34 st.v6 st.sure.length (st.sure.flatMap cH) st.l6
 vec7:Vec 28 34 st.v7 st.tried.length (st.tried.flatMap cH) st.l7
structure KqS where
 at_:Nat
 q:LogP
 dn:Bool
 σ:DS
 L:List HI
 es:Array MapEntry
 ck:Nat
 sure:List HI
 tried:List HI
 v6:Value
 l6:List (Nat × Obj)
 v7:Value
 l7:List (Nat × Obj)
structure KqI (w:World) (k:Nat) (st:KqS):Prop where
 at_:st.at_≤60
 log:LogI 900 st.q st.σ
 held:heldV st.q.recs=some (k+1,st.L.map HI.it)
 k0:0≤st.σ.k
 kb:st.σ.k≤19*(st.at_+k+1)
 gen:st.q.gen≤st.at_+k+1
 used:st.q.used≤3*st.at_+k+1
 vm:Vm st.L st.es st.ck
 ok:VOK st.L
 len:st.L.length≤st.at_
 short:∀x,x∈st.L→x.bs.length≤64
 kept:Kept st.L st.sure st.tried
 sl:st.sure.length≤st.at_
 tl:st.tried.length≤st.at_
 sf:∀x,x∈st.sure→∃a c,x.sv=.slice a x.bs.length c
 te:∀x,x∈st.tried→(∃a c,x.sv=.slice a x.bs.length c)∧Row w x.sv x.bs.length (x.bs.map u8)∧okN x.ver.n
 vec6:Vec 28 34 st.v6 st.sure.length (st.sure.flatMap cH) st.l6
 vec7:Vec 28 34 st.v7 st.tried.length (st.tried.flatMap cH) st.l7
theorem okN_up {n:Int} (h1:0≤n) (h2:n<9223372036854775808):okN n:=by
 obtain ⟨m,rfl⟩:∃m:Nat,n=(m:Int):=⟨n.toNat,by omega⟩
 exact okN_of (by omega)
theorem getT_endle (bs:List UInt8) (at_ most:Nat):(getT bs at_ most).2.1≤bs.length:=by
 have h:=yi bs at_
 unfold getT
 split
 ·exact Nat.zero_le _
 ·split
  ·exact Nat.zero_le _
  ·split
   ·exact Nat.zero_le _
   ·simp only;omega
inductive RdR where
 | no (n:Int)
 | inc (n:Nat)
 | item (h:HI)
def RdR.val:RdR→Value
 | .no n=>.tuple #[.agg (cH zH).toArray,.int .i64 n,.bool false]
 | .inc n=>.tuple #[.agg (cH zH).toArray,.int .i64 ((n:Nat):Int),.bool true]
 | .item h=>.tuple #[.agg (cH h).toArray,.int .i64 0,.bool true]
def RdR.lst:RdR→List (Nat × Obj)
 | .item h=>h.lp
 | _=>[]
end Go.Proofs.Ytoaenmlhehcjfaa
