/- The document's store: a key's versions, how many keys are live. -/
import Derived.Test.YtcedmfnlkelhkaaGreatDoorJcf
import Derived.BigRegion
import Derived.Deep.CutBlock
import Derived.Deep.Cut
namespace Go.Proofs.YtcedmfnlkelhkaaGreatDoor
set_option maxHeartbeats 40000000
set_option maxRecDepth 100000
open Go.RowKit

@[go_sem] theorem aOO:Tryz.prog.bJ 39=some 2:=by kernel_rfl
theorem aLw (R:RD) (k:K25) (i:Nat) (h:i<R.length) (hn:∀ j (h:j<R.length),j<i->R[j].1≠k) (he:R[i].1=k):slR R k=R[i].2.1/\vsR R k=R[i].2.2:=by
 unfold slR vsR
 rw[aJY R k i h hn he]
 exact ⟨rfl,rfl⟩
theorem pF (R:RD) (v:Value) (lt:Int) (k:K25) (w:World) (h:eP w w.heap.size v R) :
  Gives Tryz.prog 122 #[.agg #[v,.int .u64 lt],.agg (iR k.val)] w (slR R k):=by
 obtain ⟨a0,cap0,rfl,hcl,hcm⟩:=h.sl.form
 rw[List.length_map] at *
 have HV:=Lib.hid h.sl
 obtain ⟨sv,hsv⟩:∃ sv,sv=slR R k:=⟨_,rfl⟩
 rw[<-hsv]
 have HSV:=Lib.hid hsv
 have hkl:=k.len
 unfold maxLen at hcm
 clear h hsv
 unfold Gives
 go_enter Tryz.func122,Tryz.ntmps122
 go_wp2_with fail
 refine aP ?_
 intro W hW
 obtain ⟨b0,hb0⟩:∃ b0,b0=w.heap.size:=⟨_,rfl⟩
 have hbW:Below w.heap.size w W:=by rw[hW];exact blw
 have hcs:W.cell? ⟨b0,0,none⟩=some (.slice a0 R.length cap0):=by rw[hW,hb0];simp[go_sem]
 have hck:W.aW (b0+1) 0 25=some (iR k.val):=by rw[hW,hb0];exact aI ((aC _ _ _).trans (if_pos (by simp))) (by simp)
 have hlk:b0+1<W.heap.size:=by rw[hW,hb0];simp
 have hls:b0<W.heap.size:=by omega
 simp only[<-hb0]
 have HB:=Lib.hid (And.intro hbW hb0)
 clear hW hbW hb0
 go_loopw [5] (fun s5 wr => ∃ (i:Nat) (xs:Array Obj) (d:Nat),i<=R.length/\s5 = .int .i64 i/\wr=W.grow xs d/\Hid (∀ j (h:j<R.length),j<i->R[j].1≠k)) (fun s5 _=>R.length - (intOf s5).toNat)
 case atStart=>exact ⟨0, #[],_,Nat.zero_le _,rfl,World.jE.symm,Lib.hid fun j _ h=>by omega⟩
 obtain ⟨i,xs,d,hi,rfl,rfl,HN⟩:=hrel
 by_cases hli:i<R.length
 ·have hliI:(i:Int)<R.length:=by omega
  obtain ⟨_,a3,cap3,he,_,_,hc⟩:=HV.out.below HB.out.1
  simp only[Value.slice.injEq,List.length_map,true_and] at he
  obtain ⟨rfl,rfl⟩:=he
  obtain ⟨q,o,rfl,hlb,hcut⟩:=hc (by simp;omega)
  have hcuti:=hcut i (xI R[i]) (by simp[hli])
  unfold xI at hcuti
  have hcutk:=iC (i:=0) (m:=25) hcuti (by decide)
  rw[Nat.add_zero,aDD] at hcutk
  have hcell:W.cell? ⟨q,o+i * 26+25,none⟩=some R[i].2.1:=by
   have:=(dF hcuti).2 25 (by decide)
   rw[aBy] at this;exact this
  have hqW:q<W.heap.size:=by have:=HB.out.1.size;omega
  by_cases hk:R[i].1=k
  ·have HO:=Lib.hid (show sv=R[i].2.1 by rw[HSV.out];exact (aLw R k i hli HN.out hk).1)
   generalize R[i]=x at *
   obtain ⟨xk,xv,xl⟩:=x
   simp only at hk hcell HO
   subst hk
   simp only at hcutk
   clear hcut hc hcuti HN
   go_wp2_with fail
   apply aG (by rfl) [.val _,.val _,.val _,.val _,.val _,.val _,.val _,.val _] 8 (by rfl) [13,14,15,16,17,18,19,20] [] [] (by rfl) (by rfl) (by decide) (by decide +kernel) (fun _ _ _ _ _ h=>h)
   case hF=>exact zh
   case hops =>
    refine ⟨?o0,?o1,?o2,?o3,?o4,?o5,?o6,?o7,trivial⟩
    case o0=>exact ow0
    case o1=>exact ow1 0 13
    case o2=>exact ow0
    case o3=>exact ow2 1 14 2 15
    case o4=>exact ow1 3 16
    case o5=>exact ow1 4 17
    case o6=>exact ow0
    case o7=>exact ow2 5 18 6 19
   intro x w1 hH
   have e13:=hH.e 0 13;have e14:=hH.e 1 14;have e15:=hH.e 2 15;have e16:=hH.e 3 16;have e17:=hH.e 4 17;have e18:=hH.e 5 18;have e19:=hH.e 6 19;have e20:=hH.e 7 20
   obtain ⟨xs,d,rfl⟩:=aA hH.below
   simp only[e13,e14,e15,e16,e17,e18,e19,e20];clear hH e13 e14 e15 e16 e17 e18 e19 e20
   simp only[List.drop_succ_cons,List.drop_nil]
   go_wp2_with fail
   go_ret
   exact ⟨congrArg Ending.returned HO.out.symm,HB.out.1.trans ((show Below W.heap.size W _ from blw).mono HB.out.1.size)⟩
  have HN2:=Lib.hid (fun j (h:j<R.length) (hj:j<i+1)=>show R[j].1≠k from by
   by_cases hji:j=i
   ·subst hji;exact hk
   exact HN.out j h (by omega))
  generalize R[i]=x at *
  obtain ⟨xk,xv,xl⟩:=x
  simp only at hk hcutk
  have hkl2:=xk.len
  have hne:(xk.val == k.val)=false:=by
   rw[beq_eq_false_iff_ne];exact fun e=>hk (Subtype.ext e)
  clear hcut hc hcuti HN hk hcell
  go_wp2_with fail
  apply aG (by rfl) [.val _,.val _,.val _,.val _,.val _,.val _,.val _,.val _] 8 (by rfl) [13,14,15,16,17,18,19,20] [] [] (by rfl) (by rfl) (by decide) (by decide +kernel) (fun _ _ _ _ _ h=>h)
  case hF=>exact zh
  case hops =>
   refine ⟨?o0,?o1,?o2,?o3,?o4,?o5,?o6,?o7,trivial⟩
   case o0=>exact ow0
   case o1=>exact ow1 0 13
   case o2=>exact ow0
   case o3=>exact ow2 1 14 2 15
   case o4=>exact ow1 3 16
   case o5=>exact ow1 4 17
   case o6=>exact ow0
   case o7=>exact ow2 5 18 6 19
  intro x w1 hH
  have e13:=hH.e 0 13;have e14:=hH.e 1 14;have e15:=hH.e 2 15;have e16:=hH.e 3 16;have e17:=hH.e 4 17;have e18:=hH.e 5 18;have e19:=hH.e 6 19;have e20:=hH.e 7 20
  obtain ⟨xs,d,rfl⟩:=aA hH.below
  simp only[e13,e14,e15,e16,e17,e18,e19,e20];clear hH e13 e14 e15 e16 e17 e18 e19 e20
  simp only[List.drop_succ_cons,List.drop_nil]
  go_wp2_with fail
  go_roundw
  case rel=>exact ⟨i+1,_,_,by omega,by go_num,rfl,HN2⟩
  simp[intOf];omega
 have hgn:¬ (i:Int)<R.length:=by omega
 have HO:=Lib.hid (show sv = .slice none 0 0 by rw[HSV.out];unfold slR;rw[aLv R k fun j h=>HN.out j h (by omega)];rfl)
 clear HN
 go_wp2_with fail
 go_ret
 exact ⟨congrArg Ending.returned HO.out.symm,HB.out.1.trans ((show Below W.heap.size W _ from blw).mono HB.out.1.size)⟩
theorem aF0 (R:RD) (i:Nat) (h:i<R.length):qA (R.take (i+1))=qA (R.take i)+if qM R[i].2.2=true then 1 else 0:=by
 unfold qA
 rw[List.take_succ_eq_append_getElem h,List.countP_append,List.countP_cons,List.countP_nil]
 simp
theorem aBq (R:RD) (v:Value) (lt:Int) (w:World) (h:eP w w.heap.size v R) (hne:∀ p∈R,p.2.2 ≠ []) :
  Gives Tryz.prog 119 #[.agg #[v,.int .u64 lt]] w (.int .i64 (qA R)):=by
 obtain ⟨a0,cap0,rfl,hcl,hcm⟩:=h.sl.form
 rw[List.length_map] at *
 have HD:=Lib.hid h
 have HNE:=Lib.hid hne
 unfold maxLen at hcm
 clear h hne
 unfold Gives
 go_enter Tryz.func119,Tryz.ntmps119
 go_wp2_with fail
 refine aP ?_
 intro W hW
 obtain ⟨b0,hb0⟩:∃ b0,b0=w.heap.size:=⟨_,rfl⟩
 have hbW:Below w.heap.size w W:=by rw[hW];exact blw
 have hcs:W.cell? ⟨b0,0,none⟩=some (.slice a0 R.length cap0):=by rw[hW,hb0];simp[go_sem]
 have hls:b0<W.heap.size:=by rw[hW,hb0];simp
 simp only[<-hb0]
 have HB:=Lib.hid (And.intro hbW hb0)
 clear hW hbW hb0
 go_loopw [3,4] (fun s3 s4 wr => ∃ (i d:Nat),i<=R.length/\s4 = .int .i64 i/\s3 = .int .i64 (qA (R.take i))/\wr=W.drewN d) (fun _ s4 _=>R.length - (intOf s4).toNat)
 case atStart=>exact ⟨0,0,Nat.zero_le _,rfl,rfl,rfl⟩
 obtain ⟨i,d,hi,rfl,rfl,rfl⟩:=hrel
 by_cases hli:i<R.length
 ·have hliI:(i:Int)<R.length:=by omega
  obtain ⟨_,a3,cap3,he,_,_,hc⟩:=HD.out.sl.below HB.out.1
  simp only[Value.slice.injEq,List.length_map,true_and] at he
  obtain ⟨rfl,rfl⟩:=he
  obtain ⟨q,o,rfl,hlb,hcut⟩:=hc (by simp;omega)
  have hcuti:=hcut i (xI R[i]) (by simp[hli])
  unfold xI at hcuti
  have hcell:W.cell? ⟨q,o+i * 26+25,none⟩=some R[i].2.1:=by
   have:=(dF hcuti).2 25 (by decide)
   rw[aBy] at this;exact this
  have hqW:q<W.heap.size:=by have:=HB.out.1.size;omega
  have hvs:=(HD.out.vs R[i] (List.getElem_mem hli)).below HB.out.1
  have hne:=HNE.out R[i] (List.getElem_mem hli)
  have hlv:=aF0 R i hli
  have hbd:qA (R.take i)<=i:=by
   have:=List.countP_le_length (p:=fun p:K25×VR=>qM p.2.2) (l:=R.take i)
   unfold qA
   rw[List.length_take] at this
   omega
  generalize R[i]=x at *
  obtain ⟨xk,xv,xl⟩:=x
  simp only at hcell hvs hne hlv
  obtain ⟨_,a4,cap4,rfl,hcl4,hcm4,hc4⟩:=hvs
  rw[List.length_map] at *
  have hpos:0<xl.length:=List.length_pos_iff.2 hne
  obtain ⟨q4,o4,rfl,hlb4,hcut4⟩:=hc4 hpos
  obtain ⟨y,hy⟩:∃ y,xl.getLast? = some y:=by
   rw[List.getLast?_eq_getElem?,List.getElem?_eq_getElem (by omega)];exact ⟨_,rfl⟩
  have hyl:(xl.map nU)[xl.length - 1]? = some (nU y):=by rw[List.getElem?_map,<-List.getLast?_eq_getElem?,hy];rfl
  have hcy:=(dF (hcut4 _ _ hyl)).2 1 (by decide)
  rw[aFD] at hcy
  have hq4:q4<W.heap.size:=by have:=HB.out.1.size;omega
  have hle:qM xl = !y.dead:=by unfold qM;rw[hy]
  rw[hle] at hlv
  obtain ⟨n,hn⟩:∃ n,n=xl.length - 1:=⟨_,rfl⟩
  have hn2:((xl.length:Int) - 1)=(n:Int):=by omega
  have hn3:n<xl.length:=by omega
  unfold maxLen at hcm4
  have hwn:wrap64 (n:Int)=n:=by unfold wrap64;omega
  rw[<-hn] at hcy
  generalize qA (R.take i)=m at *
  have HLV:=Lib.hid hlv
  clear hlv hle hyl hy hcut4 hc4 hcut hc hcuti hn hne
  cases hd:y.dead with
  | true =>
   rw[hd] at hcy HLV
   have HL2:=Lib.hid (show qA (R.take (i+1))=m from by rw[HLV.out];simp)
   clear HLV hd
   go_wp2_with fail
   go_roundw
   case rel=>exact ⟨i+1,_,by omega,by go_num,by rw[HL2.out],rfl⟩
   simp[intOf];omega
  | false =>
   rw[hd] at hcy HLV
   have HL2:=Lib.hid (show qA (R.take (i+1))=m+1 from by rw[HLV.out];simp)
   clear HLV hd
   go_wp2_with fail
   go_roundw
   case rel=>exact ⟨i+1,_,by omega,by go_num,by rw[HL2.out];go_num,rfl⟩
   simp[intOf];omega
 have hie:i=R.length:=by omega
 have hgn:¬ (i:Int)<R.length:=by omega
 have HL2:=Lib.hid (show qA (R.take i)=qA R by rw[hie,List.take_length])
 clear hie
 go_wp2_with fail
 go_ret
 exact ⟨congrArg (fun x:Nat=>Ending.returned (Value.int .i64 (x:Int))) HL2.out,HB.out.1.trans ((show Below W.heap.size W _ from blw).mono HB.out.1.size)⟩
def aLz (R:RD) (k:K25) (y:VR) (i:Nat) (cb:Bool):RD:=if cb=true then rW R k y i ++ [(k,y)] else rW R k y i
theorem aH5 {R:RD} {k:K25} {y:VR} {i:Nat} (hi:i<R.length) {bb pt:Bool} (hb:ltA k R[i]=bb) (hp:aBT R k i=pt) :
  aBT R k (i+1)=(pt || (!pt && !bb))/\rW R k y (i+1)=aLz R k y i (!pt && !bb)++if R[i].1=k then [] else [R[i]]:=by
 unfold aLz
 cases pt with
 | true =>
  obtain ⟨h1,h2⟩:=aH3 (y:=y) hi hp
  rw[h1,h2]
  exact ⟨rfl,rfl⟩
 | false =>
  cases bb with
  | true =>
   obtain ⟨h1,h2,h3⟩:=aJD (y:=y) hi hp hb
   rw[h1,h3,if_neg h2]
   exact ⟨rfl,rfl⟩
  | false =>
   obtain ⟨h1,h2⟩:=aJC (y:=y) hi hp hb
   rw[h1,h2]
   refine ⟨rfl,?_⟩
   show _=(rW R k y i ++ [(k,y)])++_
   rw[List.append_assoc]
   rfl
theorem aKM (R:RD) (k:K25) (y:VR) (i:Nat) (cb:Bool):(aLz R k y i cb).length<=R.length+2:=by
 have:=aCD (k:=k) (y:=y) R i
 unfold aLz
 split
 ·rw[List.length_append];simp;omega
 omega
theorem aCv (R:RD) (hR:R.length<=2000) (v:Value) (lt:Int) (k:K25) (al:Option Addr) (cl:Nat) (l:List Ver) (hl0:l ≠ []) (w:World) (h:eP w w.heap.size v R) (hlv:SlA w w.heap.size 11 (.slice al l.length cl) (l.map nU)) :
  Calls Tryz.prog 123 #[.agg #[v,.int .u64 lt],.agg (iR k.val),.slice al l.length cl] w fun e w' => ∃ v',e = .returned (.agg #[v',.int .u64 lt])/\Below w.heap.size w w'/\eP w' w'.heap.size v' (oQ R k (.slice al l.length cl,l))/\nX w.heap.size v':=by
 obtain ⟨a0,cap0,rfl,hcl,hcm⟩:=h.sl.form
 rw[List.length_map] at *
 have HD:=Lib.hid h
 have HLV:=Lib.hid hlv
 obtain ⟨y,hy⟩:∃ y:VR,y=(.slice al l.length cl,l):=⟨_,rfl⟩
 have HY:=Lib.hid hy
 rw[<-hy]
 have hln:((l.length:Int) == 0)=false:=by
  rw[beq_eq_false_iff_ne]
  have:=List.length_pos_iff.2 hl0
  omega
 have hkl:=k.len
 unfold maxLen at hcm
 clear h hlv hy hl0
 go_enter Tryz.func123,Tryz.ntmps123
 go_upto_block 0 with fail
 refine aP ?_
 intro W hW
 obtain ⟨b0,hb0⟩:∃ b0,b0=w.heap.size:=⟨_,rfl⟩
 have hbW:Below w.heap.size w W:=by rw[hW];exact blw
 have hcs0:W.cell? ⟨b0,0,none⟩=some (.slice a0 R.length cap0):=by rw[hW,hb0];simp[go_sem]
 have hcs1:W.cell? ⟨b0,1,none⟩=some (.int .u64 lt):=by rw[hW,hb0];simp[go_sem]
 have hck:W.aW (b0+1) 0 25=some (iR k.val):=by rw[hW,hb0];simp[go_sem]
 have h6:W.heap[b0+2]? = some (.cells #[.slice none 0 0,.int .u64 0] 39):=by rw[hW,hb0];exact (aC _ _ _).trans (if_pos (by simp))
 have h0:W.heap[b0]? = some (.cells #[.slice a0 R.length cap0,.int .u64 lt] 39):=by rw[hW,hb0,aC,if_neg (by simp;omega),aC,if_neg (by simp),aC,if_pos rfl]
 have hl6:b0+2<W.heap.size:=(Array.getElem?_eq_some_iff.1 h6).1
 simp only[<-hb0]
 have HB:=Lib.hid (And.intro hbW (And.intro hb0 (And.intro h6 h0)))
 clear hW hbW hb0 h6 h0
 go_cut [7,8] (fun s7 s8 wx=>s8 = .bool (aBT R k R.length)/\Hid (Below W.heap.size W wx)/\Hid (gU wx W.heap.size 26 307 s7 ((rW R k y R.length).map xI)))
 case first =>
  go_wp2_with fail
  go_loopw [7,8,9] (fun s7 s8 s9 wr => ∃ i:Nat,i<=R.length/\s9 = .int .i64 i/\s8 = .bool (aBT R k i)/\Hid (Below W.heap.size W wr)/\Hid (gU wr W.heap.size 26 307 s7 ((rW R k y i).map xI))) (fun _ _ s9 _=>R.length - (intOf s9).toNat)
  case atStart=>exact ⟨0,Nat.zero_le _,rfl,rfl,Lib.hid (Below.refl _ _),Lib.hid (gU.nil _ _ _ _)⟩
  obtain ⟨i,hi,rfl,rfl,HBR,HO⟩:=hrel
  by_cases hli:i<R.length
  ·have hliI:(i:Int)<R.length:=by omega
   obtain ⟨_,a3,cap3,he,_,_,hc⟩:=HD.out.sl.below HB.out.1
   simp only[Value.slice.injEq,List.length_map,true_and] at he
   obtain ⟨rfl,rfl⟩:=he
   obtain ⟨q,o,rfl,hlb,hcut⟩:=hc (by simp;omega)
   have hcuti:=hcut i (xI R[i]) (by simp[hli])
   unfold xI at hcuti
   have hcutk:=iC (i:=0) (m:=25) hcuti (by decide)
   rw[Nat.add_zero,aDD] at hcutk
   have hqW:q<W.heap.size:=by have:=HB.out.1.size;omega
   obtain ⟨bb,hbb⟩:∃ bb,bb=ltA k R[i]:=⟨_,rfl⟩
   obtain ⟨pt,hpt⟩:∃ pt,pt=aBT R k i:=⟨_,rfl⟩
   rw[<-hpt]
   have HSR:=Lib.hid (aH5 (y:=y) hli hbb.symm hpt.symm)
   have HLS:=Lib.hid (aBp R[i].1.val k.val R[i].1.len k.len)
   have HBB:=Lib.hid (show bb=oL R[i].1.val k.val from hbb)
   have hone:=HD.out.one (xI R[i]) (List.mem_map.2 ⟨_,List.getElem_mem hli,rfl⟩)
   unfold xI at hone
   have hml:=aKM R k y i (!pt && !bb)
   obtain ⟨md,hmd⟩:∃ md,md=aLz R k y i (!pt && !bb):=⟨_,rfl⟩
   have HMD:=Lib.hid (show md=if (!pt && !bb)=true then rW R k y i ++ [(k,y)] else rW R k y i from hmd)
   have hsl:=aCD (k:=k) (y:=y) R i
   rw[<-hmd] at HSR hml
   generalize R[i]=x at *
   obtain ⟨xk,xv,xl⟩:=x
   simp only at hcutk hcuti hone HSR HLS HBB
   rw[<-HBB.out] at HLS
   have hxkl:=xk.len
   have hszr:=HBR.out.size
   have hck2:wr.aW (b0+1) 0 25=some (iR k.val):=(aK (HBR.out.block _ (by omega)) _ _).trans hck
   have hcs2:wr.cell? ⟨b0,0,none⟩=some (.slice (some ⟨q,o,none⟩) R.length cap0):=(HBR.out.cell (p:=⟨b0,0,none⟩) (by simp;omega)).trans hcs0
   have hcu2:wr.aW q (o+i * 26) 26=some (lU xk xv):=(aK (HBR.out.block _ hqW) _ _).trans hcuti
   have hcuk2:wr.aW q (o+i * 26) 25=some (iR xk.val):=(aK (HBR.out.block _ hqW) _ _).trans hcutk
   have hq2:q<wr.heap.size:=by omega
   have hb02:b0+1<wr.heap.size:=by omega
   have hb01:b0<wr.heap.size:=by omega
   obtain ⟨cb,hcb⟩:∃ cb,cb=(!pt && !bb):=⟨_,rfl⟩
   rw[<-hcb] at HMD HSR
   have HCB:=Lib.hid hcb
   clear hcut hc hcuti hcutk hmd hcb hbb hpt HBB
   go_upto_region 6 with fail
   go_cut [32] (fun v wx=>v = .bool cb /\ ∃ xs d,wx=wr.grow xs d)
   case first =>
    clear HMD HSR HO HBR HD HLV HY HB
    cases pt with
    | true =>
     have HC:=Lib.hid (show cb=false from HCB.out)
     clear HCB HLS
     go_wp2_with fail
     apply aG (by rfl) [.val _,.val _,.val _,.val _,.val _,.val _,.val _,.val _,.val _,.val _,.val _,.val _,.val _] 13 (by rfl) [20,21,22,23,24,25,26,27,28,29,30,31,32] [] [] (by rfl) (by rfl) (by decide) (by decide +kernel) (fun _ _ _ _ _ h=>h)
     case hF=>exact zh
     case hops =>
      refine ⟨?o0,?o1,?o2,?o3,?o4,?o5,?o6,?o7,?o8,?o9,?o10,?o11,?o12,trivial⟩
      case o0=>exact ow0
      case o1=>exact ow1 0 20
      case o2=>exact ow1 1 21
      case o3=>exact ow1 2 22
      case o4=>exact ow2 2 22 3 23
      case o5=>exact ow1 2 22
      case o6=>refine agD fun x xs d hH K hK => ?_;have e22:=hH.e 2 22;have e24:=hH.e 4 24;have e25:=hH.e 5 25;clear hH;simp only[e22,e24,e25] at hK |-;clear e22 e24 e25;exact zw
      case o7=>exact ow2 2 22 6 26
      case o8=>exact ow2 2 22 7 27
      case o9=>exact ow1 2 22
      case o10=>refine agD fun x xs d hH K hK => ?_;have e22:=hH.e 2 22;have e28:=hH.e 8 28;have e29:=hH.e 9 29;clear hH;simp only[e22,e28,e29] at hK |-;clear e22 e28 e29;exact zw
      case o11=>exact ow2 2 22 10 30
      case o12=>exact ow2 2 22 11 31
     intro x w1 hH
     have e20:=hH.e 0 20;have e21:=hH.e 1 21;have e22:=hH.e 2 22;have e23:=hH.e 3 23;have e24:=hH.e 4 24;have e25:=hH.e 5 25;have e26:=hH.e 6 26;have e27:=hH.e 7 27;have e28:=hH.e 8 28;have e29:=hH.e 9 29;have e30:=hH.e 10 30;have e31:=hH.e 11 31;have e32:=hH.e 12 32
     obtain ⟨xs,d,rfl⟩:=aA hH.below
     simp only[e20,e21,e22,e23,e24,e25,e26,e27,e28,e29,e30,e31,e32];clear hH e20 e21 e22 e23 e24 e25 e26 e27 e28 e29 e30 e31 e32
     simp only[List.drop_succ_cons,List.drop_nil]
     go_wp2_with fail
     go_meet
     exact ⟨congrArg Value.bool HC.out.symm,_,_,rfl⟩
    | false =>
     have HC:=Lib.hid (show cb = !bb from HCB.out)
     clear HCB
     go_wp2_with fail
     apply aG (by rfl) [.val _,.val _,.val _,.val _,.val _,.val _,.val _,.val _,.val _,.val _,.val _,.val _,.val _] 13 (by rfl) [20,21,22,23,24,25,26,27,28,29,30,31,32] [] [] (by rfl) (by rfl) (by decide) (by decide +kernel) (fun _ _ _ _ _ h=>h)
     case hF=>exact zh
     case hops =>
      refine ⟨?o0,?o1,?o2,?o3,?o4,?o5,?o6,?o7,?o8,?o9,?o10,?o11,?o12,trivial⟩
      case o0=>exact ow0
      case o1=>exact ow1 0 20
      case o2=>exact ow1 1 21
      case o3=>exact ow1 2 22
      case o4=>exact ow2 2 22 3 23
      case o5=>exact ow1 2 22
      case o6=>refine agD fun x xs d hH K hK => ?_;have e22:=hH.e 2 22;have e24:=hH.e 4 24;have e25:=hH.e 5 25;clear hH;simp only[e22,e24,e25] at hK |-;clear e22 e24 e25;exact zw
      case o7=>exact ow2 2 22 6 26
      case o8=>exact ow2 2 22 7 27
      case o9=>exact ow1 2 22
      case o10 =>
       intro x w1 hH K hK
       have e22:x 22=_:=hH.g 2 22
       have e28:x 28=_:=hH.g 8 28
       have e29:x 29=_:=hH.g 9 29
       obtain ⟨xs,d,rfl⟩:=aA hH.below
       clear hH
       try simp only[World.aB] at hK |-
       try simp only[World.grow_grow] at hK |-
       simp only[e22,e28,e29] at hK |-
       clear e22 e28 e29
       go_simp
       go_wp2_with (refine Gives.use (HLS.out _) ?_;intro ys e)
       exact zu
      case o11=>exact ow2 2 22 10 30
      case o12=>exact ow2 2 22 11 31
     intro x w1 hH
     have e20:=hH.e 0 20;have e21:=hH.e 1 21;have e22:=hH.e 2 22;have e23:=hH.e 3 23;have e24:=hH.e 4 24;have e25:=hH.e 5 25;have e26:=hH.e 6 26;have e27:=hH.e 7 27;have e28:=hH.e 8 28;have e29:=hH.e 9 29;have e30:=hH.e 10 30;have e31:=hH.e 11 31;have e32:=hH.e 12 32
     obtain ⟨xs,d,rfl⟩:=aA hH.below
     simp only[e20,e21,e22,e23,e24,e25,e26,e27,e28,e29,e30,e31,e32];clear hH e20 e21 e22 e23 e24 e25 e26 e27 e28 e29 e30 e31 e32
     simp only[List.drop_succ_cons,List.drop_nil]
     go_wp2_with fail
     go_meet
     exact ⟨congrArg Value.bool HC.out.symm,_,_,rfl⟩
   obtain ⟨rfl,xs,d,rfl⟩:=hcut
   clear HLS
   go_upto_if 32 with fail
   go_cut [7,8] (fun s7 s8 wx=>s8 = .bool (pt || cb)/\Hid (Below W.heap.size W wx)/\Hid (gU wx W.heap.size 26 307 s7 (md.map xI)))
   case first =>
    have HB1:=Lib.hid (show Below W.heap.size W (wr.grow xs d) from HBR.out.grow hszr _ _)
    cases cb with
    | false =>
     have HF:=Lib.hid (And.intro (show pt=(pt || false) by simp) (show md=rW R k y i by rw[HMD.out];rfl))
     clear HMD HSR HBR HD HLV HY HB HCB
     go_wp2_with fail
     go_meet
     exact ⟨congrArg Value.bool HF.out.1,HB1,by rw[HF.out.2];exact Lib.hid (HO.out.grow _ _)⟩
    | true =>
     have HMD2:=Lib.hid (show md=rW R k y i ++ [(k,y)] from HMD.out)
     have hrow:xI (k,y)=lU k (.slice al l.length cl):=by rw[HY.out];rfl
     have HROW:=Lib.hid hrow
     have HP:=Lib.hid (show (pt || true)=true by simp)
     clear HMD HSR HBR HD HLV HY HB HCB hrow
     go_wp2_with (at_builtin;refine iE (B:=W.heap.size) (xs:=(rW R k y i).map xI) (ys := [lU k (.slice al l.length cl)]) aBz rfl (.tmp 33) (.tmp 37) rfl (v:=u7) rfl ?_ rfl ?_ ?_ ?_ ?_ ?_)
     case refine_1=>exact (HO.out.grow _ _).alloc _
     case refine_2=>exact ⟨_,pW (Nat.le_refl _) (by decide) (aI ((aC _ _ _).trans (if_pos (by simp))) (by simp))⟩
     case refine_3 => intro z hz; obtain rfl : z = lU k (.slice al l.length cl) := by simpa using hz
                      exact zZ _ _ _ _
     case refine_4=>simp;omega
     case refine_5=>simp;omega
     intro v3 w3 ho hg _
     have hb3:Below W.heap.size W w3:=Below.grown (HB1.out.alloc HB1.out.size _) hg (by simp;omega) (fun q hq=>by have:=(HO.out.grow xs d).lt q hq;simp at this |-;omega)
     have HB3:=Lib.hid hb3
     have HO3:=Lib.hid (show gU w3 W.heap.size 26 307 v3 (md.map xI) by rw[HMD2.out,List.map_append,List.map_cons,HROW.out];exact ho)
     clear hb3 ho hg HB1 HO
     go_wp2_with fail
     go_meet
     exact ⟨congrArg Value.bool HP.out.symm,HB3,HO3⟩
   obtain ⟨rfl,HBM,HOM⟩:=hcut
   have hszm:=HBM.out.size
   have hck3:wc.aW (b0+1) 0 25=some (iR k.val):=(aK (HBM.out.block _ (by omega)) _ _).trans hck
   have hcs3:wc.cell? ⟨b0,0,none⟩=some (.slice (some ⟨q,o,none⟩) R.length cap0):=(HBM.out.cell (p:=⟨b0,0,none⟩) (by simp;omega)).trans hcs0
   have hcu3:wc.aW q (o+i * 26) 26=some (lU xk xv):=by
    rw[aK (HBM.out.block _ hqW),<-aK (HBR.out.block _ hqW)];exact hcu2
   have hcuk3:wc.aW q (o+i * 26) 25=some (iR xk.val):=by
    rw[aK (HBM.out.block _ hqW),<-aK (HBR.out.block _ hqW)];exact hcuk2
   have hq3:q<wc.heap.size:=by omega
   have hb03:b0+1<wc.heap.size:=by omega
   have hb0z:b0<wc.heap.size:=by omega
   obtain ⟨ne,hne⟩:∃ ne,ne=(xk.val == k.val):=⟨_,rfl⟩
   have hxe:(if xk=k then ([]:RD) else [(xk,xv,xl)])=if ne=true then [] else [(xk,xv,xl)]:=by
    have h:(xk=k) ↔ (ne=true):=by rw[hne,beq_iff_eq];exact ⟨fun h=>by rw[h],fun h=>Subtype.ext h⟩
    by_cases hx:xk=k
    ·rw[if_pos hx,if_pos (h.1 hx)]
    rw[if_neg hx,if_neg (fun h2=>hx (h.2 h2))]
   have HS2:=Lib.hid (show aBT R k (i+1)=(pt || cb)/\rW R k y (i+1)=md++if ne=true then [] else [(xk,xv,xl)] by
    have:=HSR.out
    rw[hxe] at this
    refine ⟨?_,this.2⟩
    rw[this.1,HCB.out])
   have HNE:=Lib.hid hne
   clear hck2 hcs2 hcu2 hcuk2 hq2 hb02 hb01 hxe hne HSR HCB HMD HO HBR hszr HD HLV HY hsl
   go_upto_region 9 with fail
   go_cut [46] (fun v wx=>v = .bool (!ne) /\ ∃ xs d,wx=wc.grow xs d)
   case first =>
    clear HS2 HOM HBM HB
    have hnx:=HNE.out.symm
    clear HNE
    go_wp2_with fail
    apply aG (by rfl) [.val _,.val _,.val _,.val _,.val _,.val _,.val _,.val _] 8 (by rfl) [39,40,41,42,43,44,45,46] [] [] (by rfl) (by rfl) (by decide) (by decide +kernel) (fun _ _ _ _ _ h=>h)
    case hF=>exact zh
    case hops =>
     refine ⟨?o0,?o1,?o2,?o3,?o4,?o5,?o6,?o7,trivial⟩
     case o0=>exact ow0
     case o1=>exact ow1 0 39
     case o2=>exact ow0
     case o3=>exact ow2 1 40 2 41
     case o4=>exact ow1 3 42
     case o5=>exact ow1 4 43
     case o6=>exact ow0
     case o7=>exact ow2 5 44 6 45
    intro x w1 hH
    have e39:=hH.e 0 39;have e40:=hH.e 1 40;have e41:=hH.e 2 41;have e42:=hH.e 3 42;have e43:=hH.e 4 43;have e44:=hH.e 5 44;have e45:=hH.e 6 45;have e46:=hH.e 7 46
    obtain ⟨xs,d,rfl⟩:=aA hH.below
    simp only[e39,e40,e41,e42,e43,e44,e45,e46];clear hH e39 e40 e41 e42 e43 e44 e45 e46
    simp only[List.drop_succ_cons,List.drop_nil]
    go_wp2_with fail
    go_meet
    exact ⟨rfl,_,_,rfl⟩
   obtain ⟨rfl,xs9,d9,rfl⟩:=hcut
   have HB1:=Lib.hid (show Below W.heap.size W (wc.grow xs9 d9) from HBM.out.grow hszm _ _)
   cases ne with
   | true =>
    have HF:=Lib.hid (show rW R k y (i+1)=md by rw[HS2.out.2];simp)
    go_wp2_with fail
    go_roundw
    case rel=>exact ⟨i+1,by omega,by go_num,congrArg Value.bool HS2.out.1.symm,HB1,by rw[HF.out];exact Lib.hid (HOM.out.grow _ _)⟩
    simp[intOf];omega
   | false =>
    have HF:=Lib.hid (show rW R k y (i+1)=md ++ [(xk,xv,xl)] by rw[HS2.out.2];simp)
    have HPI:=Lib.hid HS2.out.1
    clear HS2 HB
    go_wp2_with (at_builtin;refine iE (B:=W.heap.size) (xs:=md.map xI) (ys := [lU xk xv]) aBz rfl (.tmp 47) (.tmp 53) rfl (v:=u7) rfl ?_ rfl ?_ ?_ ?_ ?_ ?_)
    case refine_1=>exact (HOM.out.grow _ _).alloc _
    case refine_2=>exact ⟨_,pW (Nat.le_refl _) (by decide) (aI ((aC _ _ _).trans (if_pos (by simp))) (by simp))⟩
    case refine_3 => intro z hz; obtain rfl : z = lU xk xv := by simpa using hz
                     exact hone
    case refine_4=>simp;omega
    case refine_5=>simp;omega
    intro v3 w3 ho hg _
    have hb3:Below W.heap.size W w3:=Below.grown (HB1.out.alloc HB1.out.size _) hg (by simp;omega) (fun q hq=>by have:=(HOM.out.grow xs9 d9).lt q hq;simp at this |-;omega)
    have HB3:=Lib.hid hb3
    have HO3:=Lib.hid (show gU w3 W.heap.size 26 307 v3 ((rW R k y (i+1)).map xI) by rw[HF.out,List.map_append];exact ho)
    clear hb3 ho hg HB1 HOM HF
    go_wp2_with fail
    go_roundw
    case rel=>exact ⟨i+1,by omega,by go_num,congrArg Value.bool HPI.out.symm,HB3,HO3⟩
    simp[intOf];omega
  have hie:i=R.length:=by omega
  have hgn:¬ (i:Int)<R.length:=by omega
  have HE:=Lib.hid (show aBT R k i=aBT R k R.length/\rW R k y i=rW R k y R.length by rw[hie];exact ⟨rfl,rfl⟩)
  have hb01:b0<wr.heap.size:=by have:=HBR.out.size;omega
  have hcs2:wr.cell? ⟨b0,0,none⟩=some (.slice a0 R.length cap0):=(HBR.out.cell (p:=⟨b0,0,none⟩) (by simp;omega)).trans hcs0
  clear hie HD HLV HY
  go_wp2_with fail
  go_meet
  exact ⟨congrArg Value.bool HE.out.1,HBR,by rw[<-HE.out.2];exact HO⟩
 obtain ⟨rfl,HBM,HOM⟩:=hcut
 have hszm:=HBM.out.size
 have hck3:wc.aW (b0+1) 0 25=some (iR k.val):=(aK (HBM.out.block _ (by omega)) _ _).trans hck
 have hb03:b0+1<wc.heap.size:=by omega
 have hsl:=aCD (k:=k) (y:=y) R R.length
 obtain ⟨pe,hpe⟩:∃ pe,pe=aBT R k R.length:=⟨_,rfl⟩
 have HEND:=Lib.hid (show oQ R k y=rW R k y R.length++if pe=true then [] else [(k,y)] by rw[hpe];exact aJB R)
 rw[<-hpe]
 clear hpe hck
 go_upto_if 56 with fail
 go_cut [7] (fun s7 wx=>Hid (Below W.heap.size W wx)/\Hid (gU wx W.heap.size 26 307 s7 ((oQ R k y).map xI)))
 case first =>
  cases pe with
  | true =>
   have HF:=Lib.hid (show oQ R k y=rW R k y R.length by rw[HEND.out];simp)
   clear HEND HD HLV HY HB
   go_wp2_with fail
   go_meet
   exact ⟨HBM,by rw[HF.out];exact HOM⟩
  | false =>
   have HF:=Lib.hid (show oQ R k y=rW R k y R.length ++ [(k,y)] by rw[HEND.out];simp)
   have hrow:xI (k,y)=lU k (.slice al l.length cl):=by rw[HY.out];rfl
   have HROW:=Lib.hid hrow
   clear HEND HD HLV HY HB hrow
   go_wp2_with (at_builtin;refine iE (B:=W.heap.size) (xs:=(rW R k y R.length).map xI) (ys := [lU k (.slice al l.length cl)]) aBz rfl (.tmp 57) (.tmp 61) rfl (v:=u7) rfl ?_ rfl ?_ ?_ ?_ ?_ ?_)
   case refine_1=>exact HOM.out.alloc _
   case refine_2=>exact ⟨_,pW (Nat.le_refl _) (by decide) (aI ((aC _ _ _).trans (if_pos (by simp))) (by simp))⟩
   case refine_3 => intro z hz; obtain rfl : z = lU k (.slice al l.length cl) := by simpa using hz
                    exact zZ _ _ _ _
   case refine_4=>simp;omega
   case refine_5=>simp;omega
   intro v3 w3 ho hg _
   have hb3:Below W.heap.size W w3:=Below.grown (HBM.out.alloc HBM.out.size _) hg (by simp;omega) (fun q hq=>by have:=HOM.out.lt q hq;simp at this |-;omega)
   have HB3:=Lib.hid hb3
   have HO3:=Lib.hid (show gU w3 W.heap.size 26 307 v3 ((oQ R k y).map xI) by rw[HF.out,List.map_append,List.map_cons,HROW.out];exact ho)
   clear hb3 ho hg HBM HOM
   go_wp2_with fail
   go_meet
   exact ⟨HB3,HO3⟩
 clear HBM HOM hszm hck3 hb03 HEND hsl
 obtain ⟨HBM,HOM⟩:=hcut
 obtain ⟨a7,c7,rfl,hm7,_⟩:=HOM.out.form
 rw[List.length_map] at HOM |-
 have hszm:=HBM.out.size
 have hb01:b0<wc.heap.size:=by omega
 have hb02:b0+2<wc.heap.size:=by omega
 have hcs0c:wc.cell? ⟨b0,0,none⟩=some (.slice a0 R.length cap0):=(HBM.out.cell (p:=⟨b0,0,none⟩) (by simp;omega)).trans hcs0
 have hcs1c:wc.cell? ⟨b0,1,none⟩=some (.int .u64 lt):=(HBM.out.cell (p:=⟨b0,1,none⟩) (by simp;omega)).trans hcs1
 have h6h:wc.heap[b0+2]? = some (.cells #[.slice none 0 0,.int .u64 0] 39):=(HBM.out.block _ hl6).trans HB.out.2.2.1
 have h60:wc.cell? ⟨b0+2,0,none⟩=some (.slice none 0 0):=by simp[World.cell?,h6h]
 have h61:wc.cell? ⟨b0+2,1,none⟩=some (.int .u64 0):=by simp[World.cell?,h6h]
 have h60f:wc.frozen? ⟨b0+2,0,none⟩=false:=by simp[World.frozen?,h6h]
 have h61f:wc.frozen? ⟨b0+2,1,none⟩=false:=by simp[World.frozen?,h6h]
 have hs0:∃ t,wc.heap[b0]? = some (.cells #[.slice a0 R.length cap0,.int .u64 lt] t):=⟨39,(HBM.out.block _ (by omega)).trans HB.out.2.2.2⟩
 have hsf:wc.frozen? ⟨b0,0,none⟩=false:=by obtain ⟨t,h⟩:=hs0;simp[World.frozen?,h]
 clear hs0 h6h
 have HFIN:=Lib.hid (show ∀ wF:World,(∀ g,W.heap.size<=g->wF.heap[g]? = wc.heap[g]?)->Below w.heap.size w wF->wc.heap.size<=wF.heap.size->eP wF wF.heap.size (.slice a7 (oQ R k y).length c7) (oQ R k y) from fun wF hk hb hs=>by
  have hwW:=HB.out.1.size
  refine ⟨(HOM.out.keep (w':=wF) fun g hg _=>hk g (HOM.out.lt g hg).1).sl,fun p hp => ?_⟩
  rcases (show p=(k,y)\/p∈R by
   have hpm:p∈R.takeWhile (ltA k)++(k,y) :: (R.dropWhile (ltA k)).filter (fun p=>decide (p.1≠k)):=hp
   rcases List.mem_append.1 hpm with h | h
   ·exact .inr ((List.takeWhile_sublist _).subset h)
   rcases List.mem_cons.1 h with h | h
   ·exact .inl h
   exact .inr ((List.dropWhile_sublist _).subset ((List.mem_filter.1 h).1))) with rfl | hp
  ·have:=HLV.out
   rw[HY.out]
   exact (this.below hb).more hb.size
  exact ((HD.out.vs p hp).below hb).more hb.size)
 have HBF:=Lib.hid (And.intro HB.out.1 (And.intro HB.out.2.1 HBM.out))
 have HFN:=Lib.hid (HOM.out.aFR.mono HB.out.1.size)
 clear HD HLV HY HB HBM HOM hm7
 have hset:∀ (X:World) (n o:Nat) (u:Value),n<W.heap.size -> ∀ g,W.heap.size<=g->(X.setCell ⟨n,o,none⟩ u).heap[g]? = X.heap[g]? := fun X n o u hn g hg=>Below.heap_setCell X ⟨n,o,none⟩ u g (by simp;omega)
 have HSET:=Lib.hid hset
 have HN:=Lib.hid (show b0<W.heap.size/\b0+1+1<W.heap.size from ⟨by omega,by omega⟩)
 clear hset
 have hne01:(⟨b0,0,none⟩:Addr)≠⟨b0+1+1,0,none⟩:=by intro e;simp at e
 have hne02:(⟨b0+1+1,1,none⟩:Addr)≠⟨b0+1+1,0,none⟩:=by intro e;simp at e
 have c0:((wc.setCell ⟨b0,0,none⟩ (.slice a7 (oQ R k y).length c7)).setCell ⟨b0+1+1,0,none⟩ (.slice a7 (oQ R k y).length c7)).cell? ⟨b0+1+1,0,none⟩=some (.slice a7 (oQ R k y).length c7) :=
  World.cell?_setCell_same _ _ _ (u := .slice none 0 0) ((World.cell?_setCell_other _ _ _ _ hne01).trans h60)
 have c1:(((wc.setCell ⟨b0,0,none⟩ (.slice a7 (oQ R k y).length c7)).setCell ⟨b0+1+1,0,none⟩ (.slice a7 (oQ R k y).length c7)).setCell ⟨b0+1+1,1,none⟩ (.int .u64 lt)).cell? ⟨b0+1+1,1,none⟩=some (.int .u64 lt) :=
  World.cell?_setCell_same _ _ _ (u := .int .u64 0) ((World.cell?_setCell_other _ _ _ _ (fun e=>hne02 e.symm)).trans ((World.cell?_setCell_other _ _ _ _ (by intro e;simp at e)).trans h61))
 have c0':=(World.cell?_setCell_other _ _ _ (.int .u64 lt) hne02).trans c0
 have HC:=Lib.hid (And.intro c0' c1)
 clear hne01 hne02 c0 c1 c0'
 go_wp2_with fail
 generalize hwF:(((wc.setCell ⟨b0,0,none⟩ (.slice a7 (oQ R k y).length c7)).setCell ⟨b0+1+1,0,none⟩ (.slice a7 (oQ R k y).length c7)).setCell ⟨b0+1+1,1,none⟩ (.int .u64 lt))=wF
 have hc:=HC.out
 rw[hwF] at hc
 have hBF:Below w.heap.size w wF:=by
  have hbb:=HBF.out.2.1
  rw[<-hwF]
  exact ((((HBF.out.1.trans (HBF.out.2.2.mono HBF.out.1.size)).setCell (by simp;omega) _).setCell (by simp;omega) _).setCell (by simp;omega) _)
 have hsF:wc.heap.size<=wF.heap.size:=by rw[<-hwF];simp
 have hDF:=HFIN.out wF (fun g hg=>by
  rw[<-hwF,HSET.out _ _ _ _ HN.out.2 g hg,HSET.out _ _ _ _ HN.out.2 g hg,HSET.out _ _ _ _ HN.out.1 g hg]) hBF hsF
 have HD2:=Lib.hid (And.intro hBF hDF)
 obtain ⟨d0,d1⟩:=hc
 clear hwF hBF hsF hDF HFIN HSET HN HC HBF
 exact bodyPost_ret (v := .agg #[.slice a7 (oQ R k y).length c7,.int .u64 lt]) (by simp[results,Tryz.results123,go_sem,d0,d1]) rfl ⟨_,rfl,HD2.out.1,HD2.out.2,HFN.out⟩
theorem aFF {l:List Ver} {y:Ver} (h:l.getLast? = some y):(l.map nU)[l.length - 1]? = some (nU y):=by rw[List.getElem?_map,<-List.getLast?_eq_getElem?,h];rfl
theorem aBr (R:RD) (v:Value) (lt:Int) (w:World) (h:eP w w.heap.size v R) (f:K25->List Ver) (hf:∀ k,vsR R k=f k) (dv:Value) (l:List Wr) (hl:SlA w w.heap.size 35 dv (l.map kC)) (hn:l.length<=16) :
  Gives Tryz.prog 120 #[.agg #[v,.int .u64 lt],dv] w (.int .i64 (dL f l)):=by
 obtain ⟨a,cap,rfl,hcap,hmx⟩:=hl.form
 obtain ⟨a0,cap0,rfl,hcl,hcm⟩:=h.sl.form
 simp only[List.length_map] at *
 have HL:=Lib.hid hl
 have HD:=Lib.hid h
 have HF:=Lib.hid hf
 unfold maxLen at hcm hmx
 clear hl h hf
 unfold Gives
 go_enter Tryz.func120,Tryz.ntmps120
 go_wp2_with fail
 refine aP ?_
 intro W hW
 obtain ⟨b0,hb0⟩:∃ b0,b0=w.heap.size:=⟨_,rfl⟩
 have hbW:Below w.heap.size w W:=by rw[hW];exact blw
 have hcs0:W.cell? ⟨b0,0,none⟩=some (.slice a0 R.length cap0):=by rw[hW,hb0];simp[go_sem]
 have hcs1:W.cell? ⟨b0,1,none⟩=some (.int .u64 lt):=by rw[hW,hb0];simp[go_sem]
 have hls:b0<W.heap.size:=by rw[hW,hb0];simp
 simp only[<-hb0]
 have HB:=Lib.hid (And.intro hbW hb0)
 clear hW hbW hb0
 go_loopw [5,6] (fun s5 s6 wr => ∃ (i:Nat) (xs:Array Obj) (d:Nat),i<=l.length/\s6 = .int .i64 i/\s5 = .int .i64 (dL f (l.take i))/\wr=W.grow xs d) (fun _ s6 _=>l.length - (intOf s6).toNat)
 case atStart=>exact ⟨0, #[],_,Nat.zero_le _,rfl,rfl,World.jE.symm⟩
 obtain ⟨i,xs,d,hi,rfl,rfl,rfl⟩:=hrel
 by_cases hli:i<l.length
 ·have hliI:(i:Int)<l.length:=by omega
  obtain ⟨_,a3,cap3,he,_,_,hc⟩:=HL.out.below HB.out.1
  simp only[Value.slice.injEq,List.length_map,true_and] at he
  obtain ⟨rfl,rfl⟩:=he
  obtain ⟨q,o,rfl,hlb,hcut⟩:=hc (by simp;omega)
  have hcuti:=hcut i (kC l[i]) (by simp[hli])
  have hcutk:=iC (i:=0) (m:=25) hcuti (by decide)
  rw[Nat.add_zero,yQ] at hcutk
  have hcd:W.cell? ⟨q,o+i * 35+25,none⟩=some (.bool l[i].dead):=by
   have:=(dF hcuti).2 25 (by decide)
   rw[aCJ] at this;exact this
  have hqW:q<W.heap.size:=by have:=HB.out.1.size;omega
  have hsu:=wE f l i hli
  have hbd:=kH f (l.take i) 0
  have hbd1 : -16<=dL f (l.take i)/\dL f (l.take i)<=16:=by
   have:(l.take i).length<=16:=by simp;omega
   unfold dL;omega
  generalize l[i]=x at *
  generalize dL f (l.take i)=n at *
  obtain ⟨hb1,hb2⟩:=hbd1
  have HV:=Lib.hid (fun (V:World) (hb:Below W.heap.size W V)=>pF R (.slice a0 R.length cap0) lt x.k V (HD.out.up (HB.out.1.trans (hb.mono HB.out.1.size))))
  have hvs:=(HD.out.lk x.k).below HB.out.1
  rw[HF.out x.k] at hvs
  obtain ⟨_,a4,cap4,hsv,hcl4,hcm4,hc4⟩:=hvs
  rw[hsv] at HV
  rw[List.length_map] at HV hcl4 hc4
  obtain ⟨lv,hlv⟩:∃ lv,lv=qM (f x.k):=⟨_,rfl⟩
  have hst:stepM f n x=if lv=true then (if x.dead=true then n - 1 else n) else (if x.dead=true then n else n+1):=by rw[hlv];rfl
  rw[hst] at hsu
  generalize f x.k=vs at *
  unfold maxLen at hcm4
  have hdec:(vs = []/\lv=false) \/ ∃ y:Ver,∃ q4 o4,0<vs.length/\lv = !y.dead/\a4=some ⟨q4,o4,none⟩/\q4<W.heap.size/\W.cell? ⟨q4,o4+(vs.length - 1) * 11+1,none⟩=some (.bool y.dead):=by
   rcases vs with _ | ⟨v1,vr⟩
   ·exact .inl ⟨rfl,hlv⟩
   right
   have hp:0<(v1 :: vr).length:=by simp
   obtain ⟨q4,o4,e4,hlb4,hcut4⟩:=hc4 hp
   obtain ⟨y,hy⟩:∃ y,(v1 :: vr).getLast? = some y:=by
    rw[List.getLast?_eq_getElem?,List.getElem?_eq_getElem (by simp)];exact ⟨_,rfl⟩
   have hcy:=(dF (hcut4 _ _ (aFF hy))).2 1 (by decide)
   rw[aFD] at hcy
   refine ⟨y,q4,o4,hp,?_,e4,by have:=HB.out.1.size;omega,hcy⟩
   rw[hlv];unfold qM;rw[hy]
  have HSU:=Lib.hid hsu
  clear hcut hc hcuti hc4 hsv hlv hst hsu hbd
  go_upto_region 5 with fail
  go_cut [7] (fun v wx=>v = .slice a4 vs.length cap4 /\ ∃ ys e,wx=(W.grow xs d).grow ys e)
  case first =>
   clear hdec HSU HD HL HF
   go_wp2_with fail
   apply aG (by rfl) [.val _,.val _,.val _,.val _,.val _,.val _,.val _] 7 (by rfl) [15,16,17,18,19,20,21] [] [] (by rfl) (by rfl) (by decide) (by decide +kernel) (fun _ _ _ _ _ h=>h)
   case hF=>exact zh
   case hops =>
    refine ⟨?o0,?o1,?o2,?o3,?o4,?o5,?o6,trivial⟩
    case o0=>exact ow0
    case o1=>exact ow0
    case o2=>exact ow0
    case o3=>exact ow2 1 16 2 17
    case o4=>exact ow1 3 18
    case o5=>exact ow1 4 19
    case o6 =>
     intro x w1 hH K hK
     have e15:x 15=_:=hH.g 0 15
     have e20:x 20=_:=hH.g 5 20
     obtain ⟨xs,d,rfl⟩:=aA hH.below
     clear hH
     try simp only[World.aB] at hK |-
     try simp only[World.grow_grow] at hK |-
     simp only[e15,e20] at hK |-
     clear e15 e20
     go_simp
     go_wp2_with (refine Gives.use (HV.out _ blw) ?_;intro ys e)
     exact zu
   intro x w1 hH
   have e15:=hH.e 0 15;have e16:=hH.e 1 16;have e17:=hH.e 2 17;have e18:=hH.e 3 18;have e19:=hH.e 4 19;have e20:=hH.e 5 20;have e21:=hH.e 6 21
   obtain ⟨xs,d,rfl⟩:=aA hH.below
   simp only[e15,e16,e17,e18,e19,e20,e21];clear hH e15 e16 e17 e18 e19 e20 e21
   simp only[List.drop_succ_cons,List.drop_zero]
   go_wp2_with fail
   go_meet
   exact ⟨rfl,aA (aS _ _)⟩
  obtain ⟨rfl,ys,e,rfl⟩:=hcut
  clear HV
  go_upto_region 6 with fail
  go_cut [8] (fun v wx=>v = .bool lv/\wx=(W.grow xs d).grow ys e)
  case first =>
   clear HSU HD HL HF
   rcases hdec with ⟨rfl,rfl⟩ | ⟨y,q4,o4,hp,rfl,rfl,hq4,hcy⟩
   ·go_wp2_with fail
    go_meet
    exact ⟨rfl,by rw[World.grow_grow]⟩
   have hpI:(0:Int)<vs.length:=by omega
   obtain ⟨m,hm⟩:∃ m,m=vs.length - 1:=⟨_,rfl⟩
   rw[<-hm] at hcy
   have hm2:((vs.length:Int) - 1)=(m:Int):=by omega
   have hm3:m<vs.length:=by omega
   have hwm:wrap64 (m:Int)=m:=by unfold wrap64;omega
   clear hm
   go_wp2_with fail
   go_meet
   exact ⟨rfl,by rw[World.grow_grow]⟩
  obtain ⟨rfl,rfl⟩:=hcut
  clear hdec
  cases lv with
  | true =>
   cases hd:x.dead with
   | true =>
    rw[hd] at hcd HSU
    clear hd
    have HN:=Lib.hid (show dL f (l.take (i+1))=n - 1 from HSU.out)
    clear HSU
    go_wp2_with fail
    go_roundw
    case rel=>exact ⟨i+1,_,_,by omega,by go_num,by rw[HN.out],rfl⟩
    simp[intOf];omega
   | false =>
    rw[hd] at hcd HSU
    clear hd
    have HN:=Lib.hid (show dL f (l.take (i+1))=n from HSU.out)
    clear HSU
    go_wp2_with fail
    go_roundw
    case rel=>exact ⟨i+1,_,_,by omega,by go_num,by rw[HN.out],rfl⟩
    simp[intOf];omega
  | false =>
   cases hd:x.dead with
   | true =>
    rw[hd] at hcd HSU
    clear hd
    have HN:=Lib.hid (show dL f (l.take (i+1))=n from HSU.out)
    clear HSU
    go_wp2_with fail
    go_roundw
    case rel=>exact ⟨i+1,_,_,by omega,by go_num,by rw[HN.out],rfl⟩
    simp[intOf];omega
   | false =>
    rw[hd] at hcd HSU
    clear hd
    have HN:=Lib.hid (show dL f (l.take (i+1))=n+1 from HSU.out)
    clear HSU
    go_wp2_with fail
    go_roundw
    case rel=>exact ⟨i+1,_,_,by omega,by go_num,by rw[HN.out],rfl⟩
    simp[intOf];omega
 have hgn:¬ (i:Int)<l.length:=by omega
 have HE:=Lib.hid (show dL f (l.take i)=dL f l by rw[show i=l.length by omega,List.take_length])
 go_wp2_with fail
 go_ret
 exact ⟨congrArg (fun n:Int=>Ending.returned (Value.int .i64 n)) HE.out,HB.out.1.trans ((show Below W.heap.size W _ from blw).mono HB.out.1.size)⟩
end Go.Proofs.YtcedmfnlkelhkaaGreatDoor
