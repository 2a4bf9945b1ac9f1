/- The document's store: is there room? one version more of a key. -/
import Derived.Test.YtcedmfnlkelhkaaGreatDoorJck
import Derived.Test.YtcedmfnlkelhkaaGreatDoorJbr
import Derived.Test.YtcedmfnlkelhkaaGreatDoorJbv
import Derived.Deep.Cut
namespace Go.Proofs.YtcedmfnlkelhkaaGreatDoor
set_option maxHeartbeats 40000000
set_option maxRecDepth 100000
open Go.RowKit

theorem uY (R:RD) (v:Value) (lt:Int) (w:World) (h:eP w w.heap.size v R) (f:K25->List Ver) (live:Int) (hd:DS R f live) (hR:R.length<=100000) (dv:Value) (l:List Wr) (hl:SlA w w.heap.size 35 dv (l.map kC)) (hn:l.length<=16) :
  Gives Tryz.prog 86 #[.agg #[v,.int .u64 lt],dv] w (.int .i64 (if 200<live+dL f l then 6 else 0)):=by
 have HLV:=Lib.hid (fun (V:World) (hb:Below w.heap.size w V)=>aBq R v lt V (h.up hb) hd.ne)
 have HMR:=Lib.hid (fun (V:World) (hb:Below w.heap.size w V)=>aBr R v lt V (h.up hb) f hd.vs dv l ((hl.below hb).more hb.size) hn)
 have hlv:=hd.live
 have hb1:=kH f l 0
 have hb2 : -16<=dL f l/\dL f l<=16:=by unfold dL;omega
 have hb3:qA R<=100000:=Nat.le_trans List.countP_le_length hR
 rw[<-hlv]
 obtain ⟨a0,cap0,rfl,_,_⟩:=h.sl.form
 simp only[List.length_map] at *
 generalize dL f l=m at *
 generalize qA R=n at *
 obtain ⟨hm1,hm2⟩:=hb2
 obtain ⟨e,he⟩:∃ e:Int,e=if 200<(n:Int)+m then 6 else 0:=⟨_,rfl⟩
 rw[<-he]
 have HE:=Lib.hid he
 have hwn:IntKind.i64.wrap ((n:Int)+m)=n+m:=by rw[IntWalk.i64_in _ (by omega)]
 clear h hd hl hb1 hlv he
 unfold Gives
 go_enter Tryz.func86,Tryz.ntmps86
 go_upto_region 1 with fail
 refine aP ?_
 intro W hW
 obtain ⟨b0,hb0⟩:∃ b0,b0=w.heap.size:=⟨_,rfl⟩
 have hbW:Below w.heap.size w W:=by rw[hW];exact blw
 have hcs0:W.cell? ⟨b0,0,none⟩=some (.slice a0 R.length cap0):=by rw[hW,hb0];simp[go_sem]
 have hcs1:W.cell? ⟨b0,1,none⟩=some (.int .u64 lt):=by rw[hW,hb0];simp[go_sem]
 have hls:b0<W.heap.size:=by rw[hW,hb0];simp
 simp only[<-hb0]
 have HB:=Lib.hid hbW
 have HL2:=Lib.hid (fun (V:World) (hb:Below W.heap.size W V)=>HLV.out V (hbW.trans (hb.mono hbW.size)))
 have HM2:=Lib.hid (fun (V:World) (hb:Below W.heap.size W V)=>HMR.out V (hbW.trans (hb.mono hbW.size)))
 have hlW:=hbW.size
 clear hW hbW hb0 HLV HMR
 obtain ⟨cb,hcb⟩:∃ cb,cb=decide (200<(n:Int)+m):=⟨_,rfl⟩
 have HCB:=Lib.hid hcb
 clear hcb
 go_cut [11] (fun v wx=>v = .bool cb/\Hid (Below W.heap.size W wx))
 case first =>
  clear HE
  by_cases h2:200<(n:Int)+m
  ·have h2t:(200<(n:Int)+m)=True:=eq_true h2
   have HC:=Lib.hid (show cb=true by rw[HCB.out];exact decide_eq_true h2)
   clear h2 HCB
   go_wp2_with fail
   apply aG (by rfl) [.val _,.val _,.val _,.val _,.val _,.val _,.val _] 7 (by rfl) [5,6,7,8,9,10,11] [] [] (by rfl) (by rfl) (by decide) (by decide +kernel) (fun _ _ _ _ _ h=>h)
   case hF=>intro x;simp only[over,List.foldl_cons,List.foldl_nil,List.setIfInBounds_toArray,List.set_cons_succ,List.set_cons_zero];exact rfl
   case hops =>
    refine ⟨?o0,?o1,?o2,?o3,?o4,?o5,?o6,trivial⟩
    case o0 =>
     intro x w1 hH K hK
     obtain ⟨xs,d,rfl⟩:=aA hH.below
     clear hH
     try simp only[World.aB] at hK |-
     try simp only[World.grow_grow] at hK |-
     exact zw
    case o1 =>
     intro x w1 hH K hK
     have e5:x 5=_:=hH.g 0 5
     obtain ⟨xs,d,rfl⟩:=aA hH.below
     clear hH
     try simp only[World.aB] at hK |-
     try simp only[World.grow_grow] at hK |-
     simp only[e5] at hK |-
     clear e5
     go_simp
     go_wp2_with (refine Gives.use (HL2.out _ blw) ?_;intro ys e)
     exact zu
    case o2 =>
     intro x w1 hH K hK
     obtain ⟨xs,d,rfl⟩:=aA hH.below
     clear hH
     try simp only[World.aB] at hK |-
     try simp only[World.grow_grow] at hK |-
     exact zw
    case o3 =>
     intro x w1 hH K hK
     obtain ⟨xs,d,rfl⟩:=aA hH.below
     clear hH
     try simp only[World.aB] at hK |-
     try simp only[World.grow_grow] at hK |-
     exact zw
    case o4 =>
     intro x w1 hH K hK
     have e7:x 7=_:=hH.g 2 7
     have e8:x 8=_:=hH.g 3 8
     obtain ⟨xs,d,rfl⟩:=aA hH.below
     clear hH
     try simp only[World.aB] at hK |-
     try simp only[World.grow_grow] at hK |-
     simp only[e7,e8] at hK |-
     clear e7 e8
     go_simp
     go_wp2_with (refine Gives.use (HM2.out _ blw) ?_;intro ys e)
     exact zu
    case o5 =>
     intro x w1 hH K hK
     have e6:x 6=_:=hH.g 1 6
     have e9:x 9=_:=hH.g 4 9
     obtain ⟨xs,d,rfl⟩:=aA hH.below
     clear hH
     try simp only[World.aB] at hK |-
     try simp only[World.grow_grow] at hK |-
     simp only[e6,e9] at hK |-
     clear e6 e9
     exact zw
    case o6 =>
     intro x w1 hH K hK
     have e10:x 10=_:=hH.g 5 10
     obtain ⟨xs,d,rfl⟩:=aA hH.below
     clear hH
     try simp only[World.aB] at hK |-
     try simp only[World.grow_grow] at hK |-
     simp only[e10] at hK |-
     clear e10
     exact zw
   intro x w1 hH
   have e5:x 5=_:=hH.t 0 5
   have e6:x 6=_:=hH.t 1 6
   have e7:x 7=_:=hH.t 2 7
   have e8:x 8=_:=hH.t 3 8
   have e9:x 9=_:=hH.t 4 9
   have e10:x 10=_:=hH.t 5 10
   have e11:x 11=_:=hH.t 6 11
   obtain ⟨xs,d,rfl⟩:=aA hH.below
   clear hH
   simp only[e5,e6,e7,e8,e9,e10,e11];clear e5 e6 e7 e8 e9 e10 e11
   simp only[List.drop_succ_cons,List.drop_nil]
   go_wp2_with fail
   go_meet
   exact ⟨congrArg Value.bool HC.out.symm,Lib.hid blw⟩
  have h2t:(200<(n:Int)+m)=False:=eq_false h2
  have HC:=Lib.hid (show cb=false by rw[HCB.out];exact decide_eq_false h2)
  clear h2 HCB
  go_wp2_with fail
  apply aG (by rfl) [.val _,.val _,.val _,.val _,.val _,.val _,.val _] 7 (by rfl) [5,6,7,8,9,10,11] [] [] (by rfl) (by rfl) (by decide) (by decide +kernel) (fun _ _ _ _ _ h=>h)
  case hF=>intro x;simp only[over,List.foldl_cons,List.foldl_nil,List.setIfInBounds_toArray,List.set_cons_succ,List.set_cons_zero];exact rfl
  case hops =>
   refine ⟨?o0,?o1,?o2,?o3,?o4,?o5,?o6,trivial⟩
   case o0 =>
    intro x w1 hH K hK
    obtain ⟨xs,d,rfl⟩:=aA hH.below
    clear hH
    try simp only[World.aB] at hK |-
    try simp only[World.grow_grow] at hK |-
    exact zw
   case o1 =>
    intro x w1 hH K hK
    have e5:x 5=_:=hH.g 0 5
    obtain ⟨xs,d,rfl⟩:=aA hH.below
    clear hH
    try simp only[World.aB] at hK |-
    try simp only[World.grow_grow] at hK |-
    simp only[e5] at hK |-
    clear e5
    go_simp
    go_wp2_with (refine Gives.use (HL2.out _ blw) ?_;intro ys e)
    exact zu
   case o2 =>
    intro x w1 hH K hK
    obtain ⟨xs,d,rfl⟩:=aA hH.below
    clear hH
    try simp only[World.aB] at hK |-
    try simp only[World.grow_grow] at hK |-
    exact zw
   case o3 =>
    intro x w1 hH K hK
    obtain ⟨xs,d,rfl⟩:=aA hH.below
    clear hH
    try simp only[World.aB] at hK |-
    try simp only[World.grow_grow] at hK |-
    exact zw
   case o4 =>
    intro x w1 hH K hK
    have e7:x 7=_:=hH.g 2 7
    have e8:x 8=_:=hH.g 3 8
    obtain ⟨xs,d,rfl⟩:=aA hH.below
    clear hH
    try simp only[World.aB] at hK |-
    try simp only[World.grow_grow] at hK |-
    simp only[e7,e8] at hK |-
    clear e7 e8
    go_simp
    go_wp2_with (refine Gives.use (HM2.out _ blw) ?_;intro ys e)
    exact zu
   case o5 =>
    intro x w1 hH K hK
    have e6:x 6=_:=hH.g 1 6
    have e9:x 9=_:=hH.g 4 9
    obtain ⟨xs,d,rfl⟩:=aA hH.below
    clear hH
    try simp only[World.aB] at hK |-
    try simp only[World.grow_grow] at hK |-
    simp only[e6,e9] at hK |-
    clear e6 e9
    exact zw
   case o6 =>
    intro x w1 hH K hK
    have e10:x 10=_:=hH.g 5 10
    obtain ⟨xs,d,rfl⟩:=aA hH.below
    clear hH
    try simp only[World.aB] at hK |-
    try simp only[World.grow_grow] at hK |-
    simp only[e10] at hK |-
    clear e10
    exact zw
  intro x w1 hH
  have e5:x 5=_:=hH.t 0 5
  have e6:x 6=_:=hH.t 1 6
  have e7:x 7=_:=hH.t 2 7
  have e8:x 8=_:=hH.t 3 8
  have e9:x 9=_:=hH.t 4 9
  have e10:x 10=_:=hH.t 5 10
  have e11:x 11=_:=hH.t 6 11
  obtain ⟨xs,d,rfl⟩:=aA hH.below
  clear hH
  simp only[e5,e6,e7,e8,e9,e10,e11];clear e5 e6 e7 e8 e9 e10 e11
  simp only[List.drop_succ_cons,List.drop_nil]
  go_wp2_with fail
  go_meet
  exact ⟨congrArg Value.bool HC.out.symm,Lib.hid blw⟩
 obtain ⟨rfl,HB2⟩:=hcut
 have HBF:=Lib.hid (HB.out.trans (HB2.out.mono hlW))
 clear HL2 HM2 HB HB2
 cases cb with
 | true =>
  have HF:=Lib.hid (show e=6 from HE.out.trans (if_pos (of_decide_eq_true HCB.out.symm)))
  clear HE HCB
  go_wp2_with fail
  go_ret
  exact ⟨congrArg (fun n:Int=>Ending.returned (Value.int .i64 n)) HF.out.symm,HBF.out⟩
 | false =>
  have HF:=Lib.hid (show e=0 from HE.out.trans (if_neg (of_decide_eq_false HCB.out.symm)))
  clear HE HCB
  go_wp2_with fail
  go_ret
  exact ⟨congrArg (fun n:Int=>Ending.returned (Value.int .i64 n)) HF.out.symm,HBF.out⟩
theorem aAe (l:List Ver) (lv:Value) (w:World) (h:SlA w w.heap.size 11 lv (l.map nU)):Gives Tryz.prog 142 #[lv] w (.int .u64 (fC l).toNat):=by
 obtain ⟨_,a,cap,rfl,hcl,hcm,hc⟩:=h
 rw[List.length_map] at *
 unfold maxLen at hcm
 by_cases h0:l.length=0
 ·have hl0:l = []:=List.eq_nil_of_length_eq_zero h0
  have hne:(fC l).toNat=0:=by rw[hl0];rfl
  rw[hne,h0]
  clear hl0 hne hc hcl h0
  unfold Gives
  go_enter Tryz.func142,Tryz.ntmps142
  go_wp2_with fail
  go_ret
  exact ⟨rfl,blw⟩
 have hp:0<l.length:=by omega
 obtain ⟨q,o,rfl,hlb,hcut⟩:=hc hp
 obtain ⟨y,hy⟩:∃ y,l.getLast? = some y:=by
  rw[List.getLast?_eq_getElem?,List.getElem?_eq_getElem (by omega)];exact ⟨_,rfl⟩
 have hcy:=(dF (hcut _ _ (aFF hy))).2 0 (by decide)
 rw[aHo,Nat.add_zero] at hcy
 have hne:fC l=y.at_:=by unfold fC;rw[hy]
 rw[hne]
 have h0:((l.length:Int) == 0)=false:=by rw[beq_eq_false_iff_ne];omega
 obtain ⟨n,hn⟩:∃ n,n=l.length - 1:=⟨_,rfl⟩
 rw[<-hn] at hcy
 have hn2:((l.length:Int) - 1)=(n:Int):=by omega
 have hn3:n<l.length:=by omega
 have hwn:wrap64 (n:Int)=n:=by unfold wrap64;omega
 generalize l.length=ln at *
 clear hcut hc hn hne hy
 unfold Gives
 go_enter Tryz.func142,Tryz.ntmps142
 go_wp2_with fail
 go_ret
 exact ⟨rfl,blw⟩
theorem aAg (l:List Ver) (hl:l.length<=1000) (lv:Value) (x:Ver) (w:World) (hlv:SlA w w.heap.size 11 lv (l.map nU)) (hw:pY x=0) (hnw:(fC l).toNat<x.at_.toNat) :
  Calls Tryz.prog 121 #[lv,.agg (nU x)] w fun e w' => ∃ v',e = .returned (.tuple #[v',.int .i64 0])/\Below w.heap.size w w'/\SlA w' w'.heap.size 11 v' ((l ++ [x]).map nU)/\nX w.heap.size v':=by
 obtain ⟨a0,cap0,rfl,hcl,hcm⟩:=hlv.form
 rw[List.length_map] at *
 obtain ⟨xa,xd,xr⟩:=x
 simp only at hnw
 have HV:=Lib.hid hlv
 have HNW:=Lib.hid (fun (V:World) (hb:Below w.heap.size w V)=>aAe l (.slice a0 l.length cap0) V ((hlv.below hb).more hb.size))
 have HC:=Lib.hid (pU xr)
 have hdz:(xd=true/\decide (xr=Rec.zero)=true)\/(xd=false/\mW xr=0):=by
  unfold pY at hw
  simp only at hw
  cases xd with
  | true =>
   rw[if_neg (by decide)] at hw
   refine .inl ⟨rfl,?_⟩
   split at hw
   ·rename_i hz;exact decide_eq_true hz
   exact absurd hw (by decide)
  | false=>rw[if_pos rfl] at hw;exact .inr ⟨rfl,hw⟩
 have HDZ:=Lib.hid hdz
 have hle:((xa.toNat:Int)<=(fC l).toNat)=False:=eq_false (by omega)
 generalize (fC l).toNat=nw at *
 unfold maxLen at hcm
 clear hlv hw hnw hdz
 go_enter Tryz.func121,Tryz.ntmps121
 go_upto_region 1 with fail
 refine aP ?_
 intro W hW
 obtain ⟨b0,hb0⟩:∃ b0,b0=w.heap.size:=⟨_,rfl⟩
 have hbW:Below w.heap.size w W:=by rw[hW];exact blw
 have hh0:W.heap[b0]? = some (.cells (nU ⟨xa,xd,xr⟩) 283):=by rw[hW,hb0,aC,if_pos rfl]
 have hcw:=aI hh0 (aAX _)
 have hcr:W.aW b0 2 9=some (dS xr):=by
  have:=iC (i:=2) (m:=9) hcw (by decide)
  rw[Nat.zero_add,aFE] at this;exact this
 have hcd:W.cell? ⟨b0,1,none⟩=some (.bool xd):=((dF hcw).2 1 (by decide)).trans (aFD _)
 have hca:W.cell? ⟨b0,0,none⟩=some (.int .u64 xa.toNat):=((dF hcw).2 0 (by decide)).trans (aHo _)
 have lb:b0<W.heap.size:=(Array.getElem?_eq_some_iff.1 hh0).1
 simp only[<-hb0]
 have HB:=Lib.hid (And.intro hbW hb0)
 have HN2:=Lib.hid (fun (V:World) (hb:Below W.heap.size W V)=>HNW.out V (hbW.trans (hb.mono hbW.size)))
 clear hW hbW hb0 hh0 HNW
 go_cut [14] (fun v wx=>v = .bool false/\wx=W)
 case first =>
  clear HC HN2 HV
  rcases HDZ.out with ⟨rfl,hz⟩ | ⟨rfl,_⟩
  ·clear HDZ
   go_wp2_with fail
   go_meet
   exact ⟨rfl,rfl⟩
  clear HDZ
  go_wp2_with fail
  go_meet
  exact ⟨rfl,rfl⟩
 obtain ⟨rfl,e0⟩:=hcut
 have e1:=e0.symm
 subst e1
 clear e0
 go_upto_region 3 with fail
 go_cut [18] (fun v wx=>v = .bool (!xd)/\wx=W)
 case first =>
  clear HC HN2 HV HDZ
  go_wp2_with fail
  go_meet
  exact ⟨rfl,rfl⟩
 case rest =>
 obtain ⟨rfl,e0⟩:=hcut
 have e1:=e0.symm
 subst e1
 clear e0
 go_upto_if 18 with fail
 go_cut [] (fun wx => ∃ xs d,wx=W.grow xs d)
 case first =>
  rcases HDZ.out with ⟨rfl,hz⟩ | ⟨rfl,hr⟩
  ·clear HDZ hz
   go_wp2_with fail
   go_meet
   exact ⟨#[],_,World.jE.symm⟩
  rw[hr] at HC
  clear HDZ hr
  go_wp2_with fail
  refine Gives.use (HC.out _) ?_
  intro xs d
  go_wp2_with fail
  go_meet
  exact ⟨_,_,rfl⟩
 obtain ⟨xs,d,rfl⟩:=hcut
 have HV2:=Lib.hid ((HV.out.below HB.out.1).more HB.out.1.size)
 clear HC HDZ HV hcd hcr
 go_upto_region 7 with fail
 go_cut [30] (fun v wx=>v = .bool false /\ ∃ xs d,wx=W.grow xs d)
 case first =>
  go_wp2_with fail
  apply aG (by rfl) [.val _,.val _,.val _,.val _,.val _] 5 (by rfl) [26,27,28,29,30] [] [] (by rfl) (by rfl) (by decide) (by decide +kernel) (fun _ _ _ _ _ h=>h)
  case hF=>intro x;simp only[over,List.foldl_cons,List.foldl_nil,List.setIfInBounds_toArray,List.set_cons_succ,List.set_cons_zero];exact rfl
  case hops =>
   refine ⟨?o0,?o1,?o2,?o3,?o4,trivial⟩
   case o0 =>
    intro x w1 hH K hK
    obtain ⟨xs,d,rfl⟩:=aA hH.below
    clear hH
    try simp only[World.aB] at hK |-
    try simp only[World.grow_grow] at hK |-
    exact zw
   case o1 =>
    intro x w1 hH K hK
    have e26:x 26=_:=hH.g 0 26
    obtain ⟨xs,d,rfl⟩:=aA hH.below
    clear hH
    try simp only[World.aB] at hK |-
    try simp only[World.grow_grow] at hK |-
    simp only[e26] at hK |-
    clear e26
    exact zw
   case o2 =>
    intro x w1 hH K hK
    obtain ⟨xs,d,rfl⟩:=aA hH.below
    clear hH
    try simp only[World.aB] at hK |-
    try simp only[World.grow_grow] at hK |-
    exact zw
   case o3 =>
    intro x w1 hH K hK
    have e28:x 28=_:=hH.g 2 28
    obtain ⟨xs,d,rfl⟩:=aA hH.below
    clear hH
    try simp only[World.aB] at hK |-
    try simp only[World.grow_grow] at hK |-
    simp only[e28] at hK |-
    clear e28
    go_simp
    go_wp2_with (refine Gives.use (HN2.out _ blw) ?_;intro ys e)
    exact zu
   case o4 =>
    intro x w1 hH K hK
    have e27:x 27=_:=hH.g 1 27
    have e29:x 29=_:=hH.g 3 29
    obtain ⟨xs,d,rfl⟩:=aA hH.below
    clear hH
    try simp only[World.aB] at hK |-
    try simp only[World.grow_grow] at hK |-
    simp only[e27,e29] at hK |-
    clear e27 e29
    exact zw
  intro x w1 hH
  have e26:x 26=_:=hH.t 0 26
  have e27:x 27=_:=hH.t 1 27
  have e28:x 28=_:=hH.t 2 28
  have e29:x 29=_:=hH.t 3 29
  have e30:x 30=_:=hH.t 4 30
  obtain ⟨xs,d,rfl⟩:=aA hH.below
  clear hH
  simp only[e26,e27,e28,e29,e30];clear e26 e27 e28 e29 e30
  simp only[List.drop_succ_cons,List.drop_nil]
  go_wp2_with fail
  go_meet
  exact ⟨rfl,aA blw⟩
 obtain ⟨rfl,xs2,d2,rfl⟩:=hcut
 clear HN2 hle hca
 have H1:=Lib.hid (show ∀ z∈l.map nU,bZ z=true from fun z hz=>by
  obtain ⟨y,_,rfl⟩:=List.mem_map.1 hz
  exact aEi y)
 have HSY:=Lib.hid HV2.out
 have HBY:=Lib.hid HB.out.1
 have lbY:=lb
 have hll:l.length<=1000:=hl
 obtain ⟨x,hx⟩:∃ x:Ver,x=⟨xa,xd,xr⟩:=⟨_,rfl⟩
 have HX:=Lib.hid hx
 rw[<-hx] at hcw |-
 have hcY:=hcw
 clear HV2 HB hcw lb hx
 go_wp2_with fail
 have e2:(W.grow xs2 (d2+1)).aW b0 0 11=some (nU x):=by rw[lI _ _ _ _ _ lbY];exact hcY
 have e1:((W.grow xs2 (d2+1)).alloc (.cells #[] 283)).aW b0 0 11=some (nU x):=by rw[nP _ _ _ _ (by simp;omega)];exact e2
 go_region_law (first
  | (refine step_append (o:=⟨some 34,_,_,_,_,_⟩) (B:=W.heap.size) (xs := []) (ys:=l.map nU) aEu rfl (.tmp 32) (.tmp 33) rfl (v:=_) rfl ?_ (y:=_) rfl ?_ H1.out ?_ ?_ ?_
     ·exact aCo (by repeat (first | exact (aC _ _ _).trans (if_pos (by simp;done)) | refine (aC _ _ _).trans ((if_neg (by simp;done)).trans ?_))) (by first | omega | (simp;omega) | simp)
     ·exact ⟨W.heap.size,HSY.out.below (show Below W.heap.size W _ from blw)⟩
     ·first | omega | (simp;omega)
     ·first | omega | (simp;omega)
     intro v1 w1 ho1 hg1 hl1
     have bw1:Below W.heap.size W w1:=Below.grown (show Below W.heap.size W _ from blw) hg1 (by first | omega | (simp;omega) | simp) (fun q hq=>by
      have hq2:(Value.slice (some ⟨_,0,none⟩) 0 0).ownBlock=some q:=hq
      obtain rfl:=Option.some.inj hq2
      first | omega | (simp;omega) | simp)
     have c1:w1.aW b0 0 11=some (nU x):=(aK (bw1.block _ lbY) _ _).trans hcY
     have z1:=bw1.size)
  | (refine step_append (o:=⟨some 37,_,_,_,_,_⟩) (B:=W.heap.size) (xs:=l.map nU) (ys := [nU x]) aEu rfl (.tmp 34) (.tmp 36) rfl (v:=_) rfl ?_ (y:=_) rfl ?_ ?_ ?_ ?_ ?_
     ·repeat (first | exact ho1 | refine gU.alloc ?_ _)
     ·refine ⟨_,pW (Nat.le_refl _) (by decide) ?_⟩
      first
       | exact aI ((aC _ _ _).trans (if_pos (by simp;done))) (aAX _)
       | exact aI ((hg1.block _ (by first | (simp;done) | (simp;omega)) (by simp[Value.ownBlock,Act.eval])).trans (by repeat (first | exact (aC _ _ _).trans (if_pos (by simp;done)) | refine (aC _ _ _).trans ((if_neg (by simp;done)).trans ?_)))) (aAX _)
     ·intro z hz;simp at hz;subst hz;exact aEi _
     ·first | omega | (simp;omega)
     ·first | omega | (simp;omega)
     intro v2 w2 ho2 hg2 hl2
     have bw2:Below W.heap.size W w2:=Below.grown (by first | exact bw1 | exact bw1.alloc z1 _) hg2 (by first | omega | (simp;omega)) (fun q hq=>(ho1.lt q hq).1)
     have HB2:=Lib.hid bw2
     have HO2:=Lib.hid ho2
     clear bw1 bw2 hg1 hg2 ho1 ho2 hl1 hl2 z1))
 all_goals
  have HS3:=Lib.hid (show SlA w2 w2.heap.size 11 v2 ((l ++ [x]).map nU) by have:=HO2.out.sl;simpa using this)
  have HFN:=Lib.hid (HO2.out.aFR.mono HBY.out.size)
  obtain ⟨a5,c5,hv5,_,_⟩:=HS3.out.form
  obtain ⟨n5,hn5⟩:∃ n5,n5=((l ++ [x]).map nU).length:=⟨_,rfl⟩
  rw[<-hn5] at hv5
  subst hv5
  clear HO2 hn5
  go_wp2_with fail
  exact bodyPost_ret (v := .tuple #[.slice a5 n5 c5,.int .i64 0]) (by simp[results,Tryz.results121,go_sem]) rfl ⟨_,rfl,HBY.out.trans (HB2.out.mono HBY.out.size),by rw[<-HX.out];exact HS3.out,HFN.out⟩
end Go.Proofs.YtcedmfnlkelhkaaGreatDoor
