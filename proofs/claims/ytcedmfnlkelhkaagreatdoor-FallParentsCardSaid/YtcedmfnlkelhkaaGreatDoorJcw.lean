/- Layers 12 and 14, the document's: what is seen at a time, what is read. -/
import Derived.Deep.CutBlock
import Derived.Deep.Cut
import Derived.Handy
import Derived.Test.YtcedmfnlkelhkaaGreatDoorJcn
import Derived.BigRegion
import Derived.Test.YtcedmfnlkelhkaaGreatDoorJcg
namespace Go.Proofs.YtcedmfnlkelhkaaGreatDoor
set_option maxHeartbeats 40000000
set_option maxRecDepth 100000
open Go.RowKit

theorem aIT {w:World} {n sz:Nat} {c vs:Array Value} {t:TypeId} (h:w.heap[n]? = some (.cells c t)) (hc:c.size=sz) (hv:vs.size=sz):(w.lay n 0 vs).aW n 0 sz=some vs:=by
 have hh:(w.lay n 0 vs).heap[n]? = some (.cells (bT c 0 vs) t):=by
  simp only[World.lay,Array.getElem?_modify,if_true,h,Option.map_some]
 have hs:bT c 0 vs=vs:=dN (by omega)
 rw[hs] at hh
 exact aI hh hv
theorem aFl (vs:List Ver) (v:Ver) (t:UInt64):mY (vs ++ [v]) t=if v.at_<=t then (vs.length:Int) else mY vs t:=by
 unfold mY sD
 rw[aGg]
 by_cases h:v.at_<=t
 ·rw[List.find?_cons_of_pos (by simpa using h),if_pos h];rfl
 rw[List.find?_cons_of_neg (by simpa using h),if_neg h]
theorem aB4 {w:World} {B i:Nat} {a:Option Addr} {c:Nat} {l:List Ver} (h:SlA w B 11 (.slice a l.length c) (l.map nU)) (hi:i<l.length):∃ b o,a=some ⟨b,o,none⟩/\b<B/\w.cell? ⟨b,o+i * 11,none⟩=some (.int .u64 (l[i].at_.toNat:Int))/\w.cell? ⟨b,o+i * 11+1,none⟩=some (.bool l[i].dead)/\w.aW b (o+i * 11+2) 9=some (dS l[i].r):=by
 obtain ⟨_,a',cap',he,_,_,hc⟩:=h
 simp only[Value.slice.injEq,List.length_map,true_and] at he
 obtain ⟨rfl,rfl⟩:=he
 obtain ⟨b,o,rfl,hlb,hcut⟩:=hc (by simp;omega)
 have hk:=hcut i (nU l[i]) (by simp[hi])
 have hs:=(dF hk).2
 refine ⟨b,o,rfl,hlb,?_,?_,?_⟩
 ·have:=hs 0 (by decide);rw[aHo] at this;exact this
 ·have:=hs 1 (by decide);rw[aFD] at this;exact this
 have:=iC (i:=2) (m:=9) hk (by decide);rw[aFE] at this;exact this
theorem aBt (l:List Ver) (lv:Value) (t:UInt64) (w:World) (h:SlA w w.heap.size 11 lv (l.map nU)):Gives Tryz.prog 178 #[lv,.int .u64 (t.toNat:Int)] w (.int .i64 (mY l t)):=by
 obtain ⟨a0,cap0,rfl,hcl,hcm⟩:=h.form
 rw[List.length_map] at *
 have HV:=Lib.hid h
 unfold maxLen at hcm
 clear h
 unfold Gives
 go_enter Tryz.func178,Tryz.ntmps178
 go_wp2_with fail
 go_loopw [5,6] (fun s5 s6 wr => ∃ (i d:Nat),i<=l.length/\s6 = .int .i64 i/\s5 = .int .i64 (mY (l.take i) t)/\wr=w.drewN d) (fun _ s6 _=>l.length - (intOf s6).toNat)
 case atStart=>exact ⟨0,0,Nat.zero_le _,rfl,rfl,rfl⟩
 obtain ⟨i,d,hi,rfl,rfl,rfl⟩:=hrel
 by_cases hli:i<l.length
 ·have hliI:(i:Int)<l.length:=by omega
  obtain ⟨b,o,rfl,hlb,hk, -, -⟩:=aB4 (HV.out.below ((Below.refl _ w).drewN d)) hli
  have hlw:b<(w.drewN d).heap.size:=hlb
  have hsn:mY (l.take (i+1)) t=if l[i].at_<=t then (i:Int) else mY (l.take i) t:=by
   rw[List.take_succ_eq_append_getElem hli,aFl,List.length_take,Nat.min_eq_left (by omega)]
  generalize l[i].at_=an at *
  by_cases hle:an<=t
  ·have hleI:((an.toNat:Int)<=(t.toNat:Int))=True:=eq_true (by rw[UInt64.le_iff_toNat_le] at hle;omega)
   rw[if_pos hle] at hsn
   have HSN:=Lib.hid hsn
   clear hsn hle
   go_wp2_with fail
   go_roundw
   case rel=>exact ⟨i+1,d,by omega,by go_num,by rw[HSN.out],rfl⟩
   simp[intOf];omega
  have hleI:((an.toNat:Int)<=(t.toNat:Int))=False:=eq_false (by rw[UInt64.le_iff_toNat_le] at hle;omega)
  rw[if_neg hle] at hsn
  have HSN:=Lib.hid hsn
  clear hsn hle
  go_wp2_with fail
  go_roundw
  case rel=>exact ⟨i+1,d,by omega,by go_num,by rw[HSN.out],rfl⟩
  simp[intOf];omega
 have hgn:¬ (i:Int)<l.length:=by omega
 have HE:=Lib.hid (show mY (l.take i) t=mY l t by rw[List.take_of_length_le (by omega)])
 go_wp2_with fail
 go_ret
 exact ⟨congrArg (fun n=>Ending.returned (.int .i64 n)) HE.out,blw⟩
theorem aG3 (l:List Ver) (t:UInt64):(mY l t = -1/\atV l t=(Rec.zero,false)) \/ ∃ i,∃ h:i<l.length,mY l t=(i:Int)/\atV l t=if l[i].dead=true then (Rec.zero,false) else (l[i].r,true):=by
 unfold mY atV
 cases h:sD l t with
 | none=>exact .inl ⟨rfl,rfl⟩
 | some i =>
  have hi:=yO h
  refine .inr ⟨i,hi,rfl,?_⟩
  simp only
  rw[List.getD_eq_getElem?_getD,List.getElem?_eq_getElem hi];rfl
theorem aDv (l:List Ver) (lv:Value) (t:UInt64) (w:World) (h:SlA w w.heap.size 11 lv (l.map nU)):Gives Tryz.prog 154 #[lv,.int .u64 (t.toNat:Int)] w (.tuple #[.agg (dS (atV l t).1),.bool (atV l t).2]):=by
 have HS:=Lib.hid (fun (V:World) (hb:Below w.heap.size w V)=>aBt l lv t V ((h.below hb).more hb.size))
 obtain ⟨a0,cap0,rfl,hcl,hcm⟩:=h.form
 rw[List.length_map] at *
 unfold maxLen at hcm
 rcases aG3 l t with ⟨h1,h2⟩ | ⟨i,hi,h1,h2⟩
 ·rw[h2]
  rw[h1] at HS
  clear h h1 h2
  unfold Gives
  go_enter Tryz.func154,Tryz.ntmps154
  go_wp2_with fail
  refine Gives.use (HS.out _ blw) ?_
  intro xs d
  go_wp2_with fail
  exact bodyPost_ret (v := .tuple #[.agg (dS Rec.zero),.bool false]) (aH Tryz.results154 (aO.row rfl jB (by simp[go_sem])) (by simp[aO])) rfl ⟨rfl,blw⟩
 obtain ⟨b,o,rfl,hlb, -,hk1,hk2⟩:=aB4 h hi
 rw[h2]
 rw[h1] at HS
 have hiI:(i:Int)<l.length:=by omega
 have hi0:((i:Int)<0)=False:=eq_false (by omega)
 generalize l[i].dead=dd at *
 generalize l[i].r=r at *
 clear h h1 h2
 unfold Gives
 cases dd
 ·simp only[Bool.false_eq_true,if_false]
  go_enter Tryz.func154,Tryz.ntmps154
  go_wp2_with fail
  refine Gives.use (HS.out _ blw) ?_
  intro xs d
  have hk2':=aJQ hk2 hlb (.cells (dS Rec.zero) 49) xs d
  go_wp2_with fail
  exact bodyPost_ret (v := .tuple #[.agg (dS r),.bool true]) (aH Tryz.results154 (aO.row rfl jB (by simp[go_sem])) (by simp[aO])) rfl ⟨rfl,blw⟩
 simp only[if_true]
 go_enter Tryz.func154,Tryz.ntmps154
 go_wp2_with fail
 refine Gives.use (HS.out _ blw) ?_
 intro xs d
 go_wp2_with fail
 exact bodyPost_ret (v := .tuple #[.agg (dS Rec.zero),.bool false]) (aH Tryz.results154 (aO.row rfl jB (by simp[go_sem])) (by simp[aO])) rfl ⟨rfl,blw⟩
theorem qR (R:RD) (v:Value) (lt:Int) (k:K25) (t:UInt64) (w:World) (h:eP w w.heap.size v R) :
  Gives Tryz.prog 131 #[.agg #[v,.int .u64 lt],.agg (iR k.val),.int .u64 (t.toNat:Int)] w (.tuple #[.agg (dS (atV (vsR R k) t).1),.bool (atV (vsR R k) t).2]):=by
 have HV:=Lib.hid (fun (V:World) (hb:Below w.heap.size w V)=>pF R v lt k V (h.up hb))
 have hsl:=h.lk k
 obtain ⟨vs,hvs⟩:∃ vs,vs=vsR R k:=⟨_,rfl⟩
 obtain ⟨sl,hsl2⟩:∃ sl,sl=slR R k:=⟨_,rfl⟩
 rw[<-hvs,<-hsl2] at hsl
 rw[<-hvs]
 rw[<-hsl2] at HV
 have HA:=Lib.hid (fun (V:World) (hb:Below w.heap.size w V)=>aDv vs sl t V ((hsl.below hb).more hb.size))
 clear hsl hvs hsl2
 obtain ⟨a0,cap0,rfl,hcl,hcm⟩:=h.sl.form
 simp only[List.length_map] at *
 have hkl:=k.len
 generalize (atV vs t).1=r at *
 generalize (atV vs t).2=bb at *
 clear h
 unfold Gives
 go_enter Tryz.func131,Tryz.ntmps131
 go_upto_region 1 with fail
 refine aP ?_
 intro W hW
 obtain ⟨b0,hb0⟩:∃ b0,b0=w.heap.size:=⟨_,rfl⟩
 have hbW:Below w.heap.size w W:=by rw[hW];exact blw
 have h0:W.heap[b0]? = some (.cells #[.slice a0 R.length cap0,.int .u64 lt] 39):=by rw[hW,hb0];exact (aC _ _ _).trans ((if_neg (by simp;omega)).trans ((aC _ _ _).trans ((if_neg (by simp)).trans ((aC _ _ _).trans (if_pos rfl)))))
 have h1:W.heap[b0+1]? = some (.cells (iR k.val) 114):=by rw[hW,hb0];exact (aC _ _ _).trans ((if_neg (by simp)).trans ((aC _ _ _).trans (if_pos (by simp))))
 have h2:W.heap[b0+1+1]? = some (.cells (dS Rec.zero) 49):=by rw[hW,hb0];exact (aC _ _ _).trans (if_pos (by simp))
 simp only[<-hb0]
 have c0:W.cell? ⟨b0,0,none⟩=some (.slice a0 R.length cap0):=(aF h0 0).1.trans rfl
 have c1:W.cell? ⟨b0,1,none⟩=some (.int .u64 lt):=(aF h0 1).1.trans rfl
 have ck:W.aW (b0+1) 0 25=some (iR k.val):=aI h1 (by simp)
 have kt:W.aN (b0+1+1) 0 9=true:=by simp[World.aN,h2]
 have l2:b0+1+1<W.heap.size:=(Array.getElem?_eq_some_iff.1 h2).1
 have l1:b0+1<W.heap.size:=by omega
 have l0:b0<W.heap.size:=by omega
 have HB:=Lib.hid (And.intro hbW (And.intro h2 hb0))
 have HV2:=Lib.hid (fun (V:World) (hb:Below W.heap.size W V)=>HV.out V (hbW.trans (hb.mono hbW.size)))
 have HA2:=Lib.hid (fun (V:World) (hb:Below W.heap.size W V)=>HA.out V (hbW.trans (hb.mono hbW.size)))
 clear hW hbW h0 h1 h2 hb0 HV HA
 go_wp2_with fail
 refine Gives.use (HV2.out _ blw) ?_
 intro xs d
 go_wp2_with fail
 refine Gives.use (HA2.out _ blw) ?_
 intro xs2 d2
 go_wp2_with fail
 have hcl:=aIT (vs:=dS r) HB.out.2.1 (by simp) (by simp:(dS r).size=9)
 have hsz:(W.lay (b0+1+1) 0 (dS r)).heap.size=W.heap.size:=lay_size _ _ _
 have hfin:((W.lay (b0+1+1) 0 (dS r)).grow (xs++xs2) d2).aW (b0+1+1) 0 9=some (dS r):=by
  rw[lI _ _ _ _ _ (by omega)];exact hcl
 have hbl:Below w.heap.size w ((W.lay (b0+1+1) 0 (dS r)).grow (xs++xs2) d2):=(HB.out.1.lay (by have:=HB.out.2.2;omega)).grow (by have:=HB.out.1.size;omega) _ _
 exact bodyPost_ret (v := .tuple #[.agg (dS r),.bool bb]) (aH Tryz.results131 (aO.row rfl jB hfin) (by simp[aO])) rfl ⟨rfl,hbl⟩
def kZZ:K25:=⟨zeros 25,rfl⟩
def wrZ:Wr:=⟨kZZ,false,Rec.zero⟩
def aOf:Array Value := #[.slice none 0 0,.slice none 0 0,.slice none 0 0]
def jO (t:UInt64):Array Value := #[.int .i64 0,.int .i64 0,.int .i64 0,.int .u64 (t.toNat:Int),.int .u64 0,.bool false,.slice none 0 0,.slice none 0 0,.slice none 0 0,.int .i64 0,.int .i64 0]
@[go_sem,simp] theorem aMd (t:UInt64):(jO t).size=11:=rfl
@[go_sem] theorem yB:Tryz.prog.bJ 36=some 11:=by kernel_rfl
@[go_sem ↓ high] theorem aOw (a:Addr):loadVar 36 a=eX 36 a:=rfl
@[go_sem ↓ high] theorem aPd (a:Addr) (v:Value):storeVar 36 a v=bH 36 a v:=rfl
@[go_sem] theorem aNB:Tryz.prog.bJ 34=some 3:=by kernel_rfl
@[go_sem ↓ high] theorem aOr (a:Addr):loadVar 34 a=eX 34 a:=rfl
@[go_sem ↓ high] theorem aP8 (a:Addr) (v:Value):storeVar 34 a v=bH 34 a v:=rfl
@[go_sem] theorem aMv:(#[.int .i64 0,.int .i64 0,.int .i64 0,.int .u8 0,.int .u8 0,.int .u8 0,.int .u8 0,.int .u8 0,.int .u8 0,.int .u8 0,.int .u8 0,.int .u8 0,.int .u8 0,.int .u8 0,.int .u8 0,.int .u8 0,.int .u8 0,.int .u8 0,.int .u8 0,.int .u8 0,.int .u8 0,.int .u8 0,.int .u8 0,.int .u8 0,.int .u8 0,.bool false,.int .i64 0,.int .i64 0,.int .i64 0,.int .i64 0,.int .i64 0,.bool false,.int .u64 0,.int .u64 0,.string { data := #[] }]:Array Value)=kC wrZ:=id rfl
theorem gG {w:World} {n sz:Nat} {c vs:Array Value} {t:TypeId} (h:w.heap[n]? = some (.cells c t)) (hc:c.size=sz) (hv:vs.size=sz):(w.lay n 0 vs).heap[n]? = some (.cells vs t):=by
 have hh:(w.lay n 0 vs).heap[n]? = some (.cells (bT c 0 vs) t):=by
  simp only[World.lay,Array.getElem?_modify,if_true,h,Option.map_some]
 rwa [show bT c 0 vs=vs from dN (by omega)] at hh
theorem aBo (k:K25) (w:World) :
  Gives Tryz.prog 129 #[.agg aOf,.agg (iR k.val)] w (.tuple #[.agg (kC wrZ),.bool false]):=by
 have hkl:=k.len
 unfold Gives aOf
 go_enter Tryz.func129,Tryz.ntmps129
 go_wp2_with fail
 obtain ⟨z,hz⟩:∃ z,z=w.heap.size:=⟨_,rfl⟩
 obtain ⟨W,hW⟩:∃ W,W=((w.alloc (.cells #[.slice none 0 0,.slice none 0 0,.slice none 0 0] 34)).alloc (.cells (iR k.val) 114)).alloc (.cells (kC wrZ) 161):=⟨_,rfl⟩
 have hbW:Below w.heap.size w W:=by rw[hW];exact blw
 have g2:W.heap[z]? = some (.cells #[.slice none 0 0,.slice none 0 0,.slice none 0 0] 34):=by rw[hW,hz,aC,if_neg (by simp;omega),aC,if_neg (by simp),aC,if_pos rfl]
 have g4:W.heap[z+1+1]? = some (.cells (kC wrZ) 161):=by rw[hW,hz];exact (aC _ _ _).trans (if_pos (by simp))
 rw[<-hW]
 simp only[<-hz]
 have e2:W.cell? ⟨z,0,none⟩=some (.slice none 0 0):=(aF g2 0).1.trans rfl
 have l2:z<W.heap.size:=(Array.getElem?_eq_some_iff.1 g2).1
 have l4:z+1+1<W.heap.size:=(Array.getElem?_eq_some_iff.1 g4).1
 have e4:W.aW (z+1+1) 0 35=some (kC wrZ):=aI g4 (by simp)
 have t4:W.aN (z+1+1) 0 35=true:=by unfold World.aN;rw[g4];simp
 have HF:=Lib.hid (show ∀ d,((W.lay (z+1+1) 0 (kC wrZ)).drewN d).aW (z+1+1) 0 35=some (kC wrZ)/\Below w.heap.size w ((W.lay (z+1+1) 0 (kC wrZ)).drewN d) from fun d =>
  ⟨aI (w:=(W.lay (z+1+1) 0 (kC wrZ)).drewN d) (gG (sz:=35) g4 (by simp) (by simp)) (by simp),(hbW.lay (by omega)).drewN d⟩)
 clear hW hbW hz g2 g4
 go_loopw [6] (fun s6 wr => ∃ d:Nat,s6 = .int .i64 0/\wr=W.drewN d) (fun _ _=>0)
 case atStart=>exact ⟨0,rfl,rfl⟩
 obtain ⟨d,rfl,rfl⟩:=hrel
 go_wp2_with fail
 exact bodyPost_ret (v := .tuple #[.agg (kC wrZ),.bool false]) (aH Tryz.results129 (aO.row rfl aB6 (HF.out d).1) rfl) rfl ⟨rfl,(HF.out d).2⟩
@[go_sem] theorem aNi:(#[.int .i64 0,.int .i64 0,.int .i64 0,.int .u64 0,.int .u64 0,.bool false,.slice none 0 0,.slice none 0 0,.slice none 0 0,.int .i64 0,.int .i64 0]:Array Value)=jO 0:=id rfl
theorem aAH (R:RD) (v:Value) (lt:UInt64) (k:K25) (t:UInt64) (w:World) (h:eP w w.heap.size v R) :
  Gives Tryz.prog 101 #[.agg (jO t),.agg (dU v lt),.agg (iR k.val)] w (.tuple #[.agg (jO t),.agg (dS (atV (vsR R k) t).1),.bool (atV (vsR R k) t).2]):=by
 have HG:=Lib.hid (fun (V:World)=>aBo k V)
 have HR:=Lib.hid (fun (V:World) (hb:Below w.heap.size w V)=>qR R v lt.toNat k t V (h.up hb))
 obtain ⟨a0,cap0,rfl,hcl,hcm⟩:=h.sl.form
 simp only[List.length_map] at *
 have hkl:=k.len
 have k1:=mF a0 R.length cap0 lt
 have k2:bZ (jO t)=true:=by kernel_rfl
 generalize (atV (vsR R k) t).1=r at *
 generalize (atV (vsR R k) t).2=bb at *
 clear h
 unfold Gives
 go_enter Tryz.func101,Tryz.ntmps101
 go_upto_region 1 with fail
 refine aP ?_
 intro W hW
 obtain ⟨z,hz⟩:∃ z,z=w.heap.size:=⟨_,rfl⟩
 have hbW:Below w.heap.size w W:=by rw[hW];exact blw
 have g0:W.heap[z]? = some (.cells (jO t) 36):=by rw[hW,hz,aC,if_neg (by simp;omega),aC,if_neg (by simp;omega),aC,if_neg (by simp;omega),aC,if_neg (by simp),aC,if_pos rfl]
 have g1:W.heap[z+1]? = some (.cells (dU (.slice a0 R.length cap0) lt) 46):=by rw[hW,hz,aC,if_neg (by simp),aC,if_neg (by simp),aC,if_neg (by simp),aC,if_pos (by simp)]
 have g2:W.heap[z+1+1]? = some (.cells (iR k.val) 114):=by rw[hW,hz,aC,if_neg (by simp),aC,if_neg (by simp),aC,if_pos (by simp)]
 have g3:W.heap[z+1+1+1]? = some (.cells (jO 0) 36):=by rw[hW,hz,aC,if_neg (by simp),aC,if_pos (by simp)]
 have g4:W.heap[z+1+1+1+1]? = some (.cells (dS Rec.zero) 49):=by rw[hW,hz,aC,if_pos (by simp)]
 simp only[<-hz]
 have e9:W.cell? ⟨z,9,none⟩=some (.int .i64 0):=(aF g0 9).1.trans rfl
 have e5:W.cell? ⟨z,5,none⟩=some (.bool false):=(aF g0 5).1.trans rfl
 have e3:W.cell? ⟨z,3,none⟩=some (.int .u64 (t.toNat:Int)):=(aF g0 3).1.trans rfl
 have eT:W.aW z 0 11=some (jO t):=aI g0 rfl
 have eB:W.aW z 6 3=some aOf:=(iC (i:=6) (m:=3) eT (by decide)).trans (by rfl)
 have f0:W.cell? ⟨z+1,0,none⟩=some (.slice a0 R.length cap0):=(aF g1 0).1.trans rfl
 have f1:W.cell? ⟨z+1,1,none⟩=some (.int .u64 (lt.toNat:Int)):=(aF g1 1).1.trans rfl
 have eK:W.aW (z+1+1) 0 25=some (iR k.val):=aI g2 (by simp)
 have l4:z+1+1+1+1<W.heap.size:=(Array.getElem?_eq_some_iff.1 g4).1
 have l3:z+1+1+1<W.heap.size:=by omega
 have l2:z+1+1<W.heap.size:=by omega
 have l1:z+1<W.heap.size:=by omega
 have l0:z<W.heap.size:=by omega
 have t3:W.aN (z+1+1+1) 0 11=true:=by simp[World.aN,g3]
 have t4:W.aN (z+1+1+1+1) 0 9=true:=by simp[World.aN,g4]
 have HW:=Lib.hid (And.intro hbW (And.intro g3 (And.intro g4 hz)))
 have HR2:=Lib.hid (fun (V:World) (hb:Below W.heap.size W V)=>HR.out V (hbW.trans (hb.mono hbW.size)))
 clear hW hbW g0 g1 g2 g3 g4 hz HR
 go_wp2_with fail
 refine Gives.use (HG.out _) ?_
 intro xs d
 go_upto_region 8 with fail
 refine aP ?_
 intro W2 hW2
 have hb2:Below W.heap.size W W2:=by rw[hW2];exact blw
 have hs2:=hb2.size
 have p3:W2.cell? ⟨z,3,none⟩=some (.int .u64 (t.toNat:Int)):=(hb2.cell (p:=⟨z,3,none⟩) l0).trans e3
 have pT:W2.aW z 0 11=some (jO t):=(aK (hb2.block _ l0) _ _).trans eT
 have q0:W2.cell? ⟨z+1,0,none⟩=some (.slice a0 R.length cap0):=(hb2.cell (p:=⟨z+1,0,none⟩) l1).trans f0
 have q1:W2.cell? ⟨z+1,1,none⟩=some (.int .u64 (lt.toNat:Int)):=(hb2.cell (p:=⟨z+1,1,none⟩) l1).trans f1
 have pK:W2.aW (z+1+1) 0 25=some (iR k.val):=(aK (hb2.block _ l2) _ _).trans eK
 have h3:=(hb2.block _ l3).trans HW.out.2.1
 have h4:=(hb2.block _ l4).trans HW.out.2.2.1
 have r3:W2.aN (z+1+1+1) 0 11=true:=by simp[World.aN,h3]
 have r4:W2.aN (z+1+1+1+1) 0 9=true:=by simp[World.aN,h4]
 have m0:z<W2.heap.size:=by omega
 have m1:z+1<W2.heap.size:=by omega
 have m2:z+1+1<W2.heap.size:=by omega
 have m3:z+1+1+1<W2.heap.size:=by omega
 have m4:z+1+1+1+1<W2.heap.size:=by omega
 have HR3:=Lib.hid (fun (V:World) (hb:Below W2.heap.size W2 V)=>HR2.out V (hb2.trans (hb.mono hs2)))
 have HW2:=Lib.hid (And.intro (HW.out.1.trans (hb2.mono HW.out.1.size)) (And.intro h3 (And.intro h4 HW.out.2.2.2)))
 clear hW2 hb2 hs2 h3 h4 e9 e5 e3 eT eB f0 f1 eK l0 l1 l2 l3 l4 t3 t4 HW HR2 HG
 go_wp2_with fail
 refine Gives.use (HR3.out _ blw) ?_
 intro xs2 d2
 go_upto_region 9 with fail
 refine aP ?_
 intro W3 hW3
 obtain ⟨y,hy⟩:∃ y,y=W2.heap.size+xs2.size:=⟨_,rfl⟩
 have hb3:Below W2.heap.size W2 W3:=by rw[hW3];exact blw
 have hs3:=hb3.size
 have gy:W3.heap[y]? = some (.cells (dS r) 49):=by rw[hW3,hy];exact (aC _ _ _).trans (if_pos (by simp))
 simp only[<-hy]
 have pT3:W3.aW z 0 11=some (jO t):=(aK (hb3.block _ m0) _ _).trans pT
 have pY3:W3.aW y 0 9=some (dS r):=aI gy rfl
 have h3:=(hb3.block _ m3).trans HW2.out.2.1
 have h4:=(hb3.block _ m4).trans HW2.out.2.2.1
 have r3:W3.aN (z+1+1+1) 0 11=true:=by simp[World.aN,h3]
 have r4:W3.aN (z+1+1+1+1) 0 9=true:=by simp[World.aN,h4]
 have hyz:y≠z+1+1+1:=by omega
 have ly:y<W3.heap.size:=(Array.getElem?_eq_some_iff.1 gy).1
 have n0:z<W3.heap.size:=by omega
 have n3:z+1+1+1<W3.heap.size:=by omega
 have n4:z+1+1+1+1<W3.heap.size:=by omega
 have HW3:=Lib.hid (And.intro (HW2.out.1.trans (hb3.mono HW2.out.1.size)) (And.intro h3 (And.intro h4 HW2.out.2.2.2)))
 clear hW3 hy hb3 hs3 gy h3 h4 p3 pT q0 q1 pK m0 m1 m2 m3 m4 HW2 HR3
 have hh:(bH 36 ⟨z+1+1+1,0,none⟩ (.agg (jO t))).run Tryz.prog W3.drew = .ok () (W3.lay (z+1+1+1) 0 (jO t)).drew:=eH (w:=W3.drew) k2 yB r3
 have h4:(W3.lay (z+1+1+1) 0 (jO t)).heap[z+1+1+1+1]? = some (.cells (dS Rec.zero) 49):=(aY (by omega)).trans HW3.out.2.2.1
 have r5:(W3.lay (z+1+1+1) 0 (jO t)).drew.aN (z+1+1+1+1) 0 9=true:=by
  show (W3.lay (z+1+1+1) 0 (jO t)).aN (z+1+1+1+1) 0 9=true
  simp[World.aN,h4]
 have hh2:(bH 49 ⟨z+1+1+1+1,0,none⟩ (.agg (dS r))).run Tryz.prog (W3.lay (z+1+1+1) 0 (jO t)).drew = .ok () ((W3.lay (z+1+1+1) 0 (jO t)).lay (z+1+1+1+1) 0 (dS r)).drew:=eH (w:=(W3.lay (z+1+1+1) 0 (jO t)).drew) (aBj r) jB r5
 have HFN:=Lib.hid (show (((W3.lay (z+1+1+1) 0 (jO t)).lay (z+1+1+1+1) 0 (dS r)).drew.aW (z+1+1+1) 0 11=some (jO t)/\((W3.lay (z+1+1+1) 0 (jO t)).lay (z+1+1+1+1) 0 (dS r)).drew.aW (z+1+1+1+1) 0 9=some (dS r))/\Below w.heap.size w ((W3.lay (z+1+1+1) 0 (jO t)).lay (z+1+1+1+1) 0 (dS r)).drew from by
  have hz:=HW3.out.2.2.2
  have a1:=gG (vs:=jO t) HW3.out.2.1 (by simp) (by simp:(jO t).size=11)
  have a2:=gG (vs:=dS r) h4 (by simp) (by simp:(dS r).size=9)
  have a3:=(aY (w:=W3.lay (z+1+1+1) 0 (jO t)) (o:=0) (vs:=dS r) (show z+1+1+1≠z+1+1+1+1 by omega)).trans a1
  exact ⟨⟨aI (w:=((W3.lay (z+1+1+1) 0 (jO t)).lay (z+1+1+1+1) 0 (dS r)).drew) a3 (by simp),aI (w:=((W3.lay (z+1+1+1) 0 (jO t)).lay (z+1+1+1+1) 0 (dS r)).drew) a2 (by simp)⟩,((HW3.out.1.lay (by omega)).lay (by omega)).drew⟩)
 have pY4:(W3.lay (z+1+1+1) 0 (jO t)).aW y 0 9=some (dS r):=(aK (aY hyz) _ _).trans pY3
 clear h4
 go_region
 all_goals
  go_wp2_with fail
 all_goals
  exact bodyPost_ret (v := .tuple #[.agg (jO t),.agg (dS r),.bool bb]) (bK Tryz.results101 (aO.row rfl yB HFN.out.1.1) (aO.row rfl jB HFN.out.1.2) (by simp[aO])) rfl ⟨rfl,HFN.out.2⟩
theorem aIc (a b:UInt64):((min a b:UInt64).toNat:Int)=min (a.toNat:Int) (b.toNat:Int):=by
 have e:min a b=if a<=b then a else b:=rfl
 rw[e]
 split
 ·rename_i h
  rw[UInt64.le_iff_toNat_le] at h;omega
 rename_i h
 rw[UInt64.le_iff_toNat_le] at h;omega
theorem wK (R:RD) (v:Value) (lt:UInt64) (k:K25) (a t:UInt64) (w:World) (h:eP w w.heap.size v R) :
  Gives Tryz.prog 102 #[.agg (jO t),.agg (dU v lt),.agg (iR k.val),.int .u64 (a.toNat:Int)] w (.tuple #[.agg (dS (atV (vsR R k) (min a t)).1),.bool (atV (vsR R k) (min a t)).2]):=by
 have hn:=fun (V:World) (hb:Below w.heap.size w V)=>qR R v lt.toNat k (min a t) V (h.up hb)
 simp only[aIc] at hn
 have HR:=Lib.hid hn
 obtain ⟨a0,cap0,rfl,hcl,hcm⟩:=h.sl.form
 simp only[List.length_map] at *
 have hkl:=k.len
 generalize (atV (vsR R k) (min a t)).1=r at *
 generalize (atV (vsR R k) (min a t)).2=bb at *
 clear h hn
 unfold Gives
 go_enter Tryz.func102,Tryz.ntmps102
 go_upto_region 1 with fail
 refine aP ?_
 intro W hW
 obtain ⟨z,hz⟩:∃ z,z=w.heap.size:=⟨_,rfl⟩
 have hbW:Below w.heap.size w W:=by rw[hW];exact blw
 have g0:W.heap[z]? = some (.cells (jO t) 36):=by rw[hW,hz,aC,if_neg (by simp;omega),aC,if_neg (by simp;omega),aC,if_neg (by simp),aC,if_pos rfl]
 have g1:W.heap[z+1]? = some (.cells (dU (.slice a0 R.length cap0) lt) 46):=by rw[hW,hz,aC,if_neg (by simp),aC,if_neg (by simp),aC,if_pos (by simp)]
 have g2:W.heap[z+1+1]? = some (.cells (iR k.val) 114):=by rw[hW,hz,aC,if_neg (by simp),aC,if_pos (by simp)]
 have g3:W.heap[z+1+1+1]? = some (.cells (dS Rec.zero) 49):=by rw[hW,hz,aC,if_pos (by simp)]
 simp only[<-hz]
 have e9:W.cell? ⟨z,9,none⟩=some (.int .i64 0):=(aF g0 9).1.trans rfl
 have e3:W.cell? ⟨z,3,none⟩=some (.int .u64 (t.toNat:Int)):=(aF g0 3).1.trans rfl
 have f0:W.cell? ⟨z+1,0,none⟩=some (.slice a0 R.length cap0):=(aF g1 0).1.trans rfl
 have f1:W.cell? ⟨z+1,1,none⟩=some (.int .u64 (lt.toNat:Int)):=(aF g1 1).1.trans rfl
 have eK:W.aW (z+1+1) 0 25=some (iR k.val):=aI g2 (by simp)
 have t3:W.aN (z+1+1+1) 0 9=true:=by simp[World.aN,g3]
 have l3:z+1+1+1<W.heap.size:=(Array.getElem?_eq_some_iff.1 g3).1
 have l2:z+1+1<W.heap.size:=by omega
 have l1:z+1<W.heap.size:=by omega
 have l0:z<W.heap.size:=by omega
 have HR2:=Lib.hid (fun (V:World) (hb:Below W.heap.size W V)=>HR.out V (hbW.trans (hb.mono hbW.size)))
 have HFN:=Lib.hid (show (W.lay (z+1+1+1) 0 (dS r)).heap[z+1+1+1]? = some (.cells (dS r) 49)/\Below w.heap.size w (W.lay (z+1+1+1) 0 (dS r))/\w.heap.size<=W.heap.size from ⟨gG g3 (by simp) (by simp:(dS r).size=9),hbW.lay (by omega),hbW.size⟩)
 clear hW hbW g0 g1 g2 g3 hz HR
 go_wp2_with fail
 refine Gives.use (HR2.out _ blw) ?_
 intro xs d
 go_wp2_with fail
 have hls:(W.lay (z+1+1+1) 0 (dS r)).heap.size=W.heap.size:=lay_size _ _ _
 have hcut:((W.lay (z+1+1+1) 0 (dS r)).grow xs d).aW (z+1+1+1) 0 9=some (dS r):=by
  rw[lI _ _ _ _ _ (by omega)]
  exact aI HFN.out.1 (by simp)
 exact bodyPost_ret (v := .tuple #[.agg (dS r),.bool bb]) (aH Tryz.results102 (aO.row rfl jB hcut) (by simp[aO])) rfl ⟨rfl,HFN.out.2.1.grow (by have:=HFN.out.2.2;omega) _ _⟩
def aRT (t:UInt64):List Value := [.int .i64 0,.int .i64 0,.int .i64 0,.int .u64 (t.toNat:Int),.int .u64 0,.bool false,.slice none 0 0,.slice none 0 0,.slice none 0 0,.int .i64 0,.int .i64 0]
def aMh (t:UInt64) (v:Value) (lt:UInt64) (p:Int) (lv:Value) (r:Rec):List Value:=aRT t++(v :: .int .u64 (lt.toNat:Int) :: (aIt++(.int .i64 p :: lv :: tH r)))
def iM (t:UInt64) (v:Value) (lt:UInt64) (p:Int) (lv:Value) (r:Rec):Array Value:=(aMh t v lt p lv r).toArray
@[go_sem,simp] theorem jU (t:UInt64) (v:Value) (lt:UInt64) (p:Int) (lv:Value) (r:Rec):(iM t v lt p lv r).size=153:=by kernel_rfl
@[go_sem] theorem fZ:Tryz.prog.bJ 51=some 153:=by kernel_rfl
@[go_sem ↓ high] theorem aNg (a:Addr):loadVar 51 a=eX 51 a:=rfl
@[go_sem ↓ high] theorem aNw (a:Addr) (v:Value):storeVar 51 a v=bH 51 a v:=rfl
theorem aKs (t:UInt64) (v:Value) (lt:UInt64) (p:Int) (lv:Value) (r:Rec):(iM t v lt p lv r).extract 0 11=jO t:=by kernel_rfl
theorem aKr (t:UInt64) (v:Value) (lt:UInt64) (p:Int) (lv:Value) (r:Rec):(iM t v lt p lv r).extract 11 142=dU v lt:=by kernel_rfl
theorem wU (t:UInt64) (v:Value) (lt:UInt64) (p:Int) (lv:Value) (r:Rec):(iM t v lt p lv r)[143]? = some lv:=by kernel_rfl
theorem aGG (t:UInt64) (v:Value) (lt:UInt64) (p:Int) (lv:Value) (r:Rec):bT (iM t v lt p lv r) 0 (jO t)=iM t v lt p lv r:=by kernel_rfl
theorem aGE (t:UInt64) (v:Value) (lt:UInt64) (p:Int) (lv lv':Value) (r:Rec):(iM t v lt p lv r).setIfInBounds 143 lv'=iM t v lt p lv' r:=by kernel_rfl
theorem aGF (t:UInt64) (v:Value) (lt:UInt64) (p:Int) (lv:Value) (r r':Rec):bT (iM t v lt p lv r) 144 (dS r')=iM t v lt p lv r':=by kernel_rfl
@[go_sem] theorem aIi (t:UInt64):bZ (jO t)=true:=by kernel_rfl
@[go_sem ↓ high] theorem aIz (w:World) (n o:Nat) (t:UInt64) (h:w.aN n o 11=true):(bH 36 ⟨n,o,none⟩ (.agg (jO t))).run Tryz.prog w = .ok () (w.lay n o (jO t)):=eH (aIi t) yB h
theorem jZ (t:UInt64) (a:Option Addr) (n c:Nat) (lt:UInt64) (p:Int) (b:Option Addr) (m e:Nat) (r:Rec):bZ (iM t (.slice a n c) lt p (.slice b m e) r)=true:=by kernel_rfl
theorem aEz {w W:World} {n sz m:Nat} {c0 c d0 d:Array Value} {T U:TypeId} (g1:W.heap[n]? = some (.cells c0 T)) (g2:W.heap[n+1]? = some (.cells d0 U)) (hc0:c0.size=sz) (hc:c.size=sz) (hd0:d0.size=m) (hd:d.size=m) (k1:bZ c=true) (k2:bZ d=true)
  (a1:Tryz.prog.bJ T=some sz) (a2:Tryz.prog.bJ U=some m) (hb:Below w.heap.size w W) (hn:w.heap.size<=n) :
  (bH T ⟨n,0,none⟩ (.agg c)).run Tryz.prog W.drew = .ok () (W.lay n 0 c).drew/\(bH U ⟨n+1,0,none⟩ (.agg d)).run Tryz.prog (W.lay n 0 c).drew = .ok () ((W.lay n 0 c).lay (n+1) 0 d).drew /\
  (((W.lay n 0 c).lay (n+1) 0 d).drew.aW n 0 sz=some c/\((W.lay n 0 c).lay (n+1) 0 d).drew.aW (n+1) 0 m=some d/\Below w.heap.size w ((W.lay n 0 c).lay (n+1) 0 d).drew) /\ ∀ y,y≠n -> ∀ o s,(W.lay n 0 c).aW y o s=W.aW y o s:=by
 have h4:(W.lay n 0 c).heap[n+1]? = some (.cells d0 U):=(aY (by omega)).trans g2
 have b1:=gG (vs:=c) g1 hc0 hc
 have b2:=gG (vs:=d) h4 hd0 hd
 have b3:=(aY (w:=W.lay n 0 c) (o:=0) (vs:=d) (show n≠n+1 by omega)).trans b1
 have r1:W.drew.aN n 0 c.size=true:=by
  show W.aN n 0 c.size=true
  simp[World.aN,g1,hc,hc0]
 have r2:(W.lay n 0 c).drew.aN (n+1) 0 d.size=true:=by
  show (W.lay n 0 c).aN (n+1) 0 d.size=true
  simp[World.aN,h4,hd,hd0]
 exact ⟨eH (w:=W.drew) k1 (by rw[a1,hc]) r1,eH (w:=(W.lay n 0 c).drew) k2 (by rw[a2,hd]) r2,
  ⟨aI (w:=((W.lay n 0 c).lay (n+1) 0 d).drew) b3 hc,aI (w:=((W.lay n 0 c).lay (n+1) 0 d).drew) b2 hd,((hb.lay hn).lay (by omega)).drew⟩,fun y hy o s=>aK (aY hy) _ _⟩
def fbD (P:List Lnk) (l:Lnk):Bool:=match P with | []=>true | x :: _=>decide (l=x)
theorem aGn:fQ Tryz.prog 197 [.int .i64,.int .u64]:=⟨by kernel_rfl,by kernel_rfl,by kernel_rfl⟩
@[go_sem ↓ high] theorem aOl (a c:UInt8) (b d:UInt64) (w:World):(Op.equalIn 10000 197 (.agg #[.int .i64 (a.toNat:Int),.int .u64 (b.toNat:Int)]) (.agg #[.int .i64 (c.toNat:Int),.int .u64 (d.toNat:Int)])).run Tryz.prog w = .ok (decide (((a,b):Lnk)=(c,d))) w :=
 lZ (f:=fun l:Lnk => [.int .i64 (l.1.toNat:Int),.int .u64 (l.2.toNat:Int)]) (g:=fun l:Lnk => [.int .i64 (l.1.toNat:Int),.int .u64 (l.2.toNat:Int)]) aGn (fun l => .cons (nR _) (.cons (aDh _) .nil)) (fun x y h=>by
  obtain ⟨x1,x2⟩:=x
  obtain ⟨y1,y2⟩:=y
  simp only[List.cons.injEq,Lit.int.injEq,true_and,and_true] at h
  obtain rfl:=mO h.1
  obtain rfl:x2=y2:=UInt64.toNat_inj.1 (by omega)
  rfl) (a,b) (c,d) w
theorem fH:(Tryz.zeroCells51).size=153:=by kernel_rfl
theorem aAI (R:RD) (v:Value) (lt:UInt64) (k:K25) (t:UInt64) (p:Int) (lv:Value) (P:List Lnk) (own:Rec) (l:Lnk) (w:World) (h:eP w w.heap.size v R) (hlv:SlA w w.heap.size 2 lv (P.map lM)) :
  Gives Tryz.prog 65 #[.agg (iM t v lt p lv own),.agg #[.int .i64 (l.1.toNat:Int),.int .u64 (l.2.toNat:Int)],.agg (iR k.val)] w
   (.tuple #[.agg (iM t v lt p lv own),.agg (dS (atV (vsR R k) (if fbD P l=true then t else min l.2 t)).1),.bool (atV (vsR R k) (if fbD P l=true then t else min l.2 t)).2]):=by
 have HR:=Lib.hid (fun (V:World) (hb:Below w.heap.size w V)=>aAH R v lt k t V (h.up hb))
 have HA:=Lib.hid (fun (V:World) (hb:Below w.heap.size w V)=>wK R v lt k l.2 t V (h.up hb))
 obtain ⟨a0,cap0,rfl, -, -⟩:=h.sl.form
 obtain ⟨al,capl,rfl,hcl,hcm⟩:=hlv.form
 have HL:=Lib.hid hlv
 simp only[List.length_map] at *
 obtain ⟨lb,la⟩:=l
 have hkl:=k.len
 have k1:=jZ t a0 R.length cap0 lt p al P.length capl own
 have k3:bZ (jO t)=true:=by kernel_rfl
 unfold maxLen at hcm
 clear h hlv
 obtain ⟨fb,hfb⟩:∃ fb,fb=fbD P (lb,la):=⟨_,rfl⟩
 rw[<-hfb]
 have HFB:=Lib.hid hfb
 clear hfb
 obtain ⟨rr,hrr⟩:∃ rr,rr=atV (vsR R k) (if fb=true then t else min la t):=⟨_,rfl⟩
 rw[<-hrr]
 have HRR:=Lib.hid hrr
 clear hrr
 unfold Gives
 go_enter Tryz.func65,Tryz.ntmps65
 go_upto_region 1 with fail
 refine aP ?_
 intro W hW
 obtain ⟨z,hz⟩:∃ z,z=w.heap.size:=⟨_,rfl⟩
 have hbW:Below w.heap.size w W:=by rw[hW];exact blw
 obtain ⟨va,hva⟩:∃ va,va=iM t (.slice a0 R.length cap0) lt p (.slice al P.length capl) own:=⟨_,rfl⟩
 rw[<-hva] at hW
 have g0:W.heap[z]? = some (.cells va 51):=by rw[hW,hz,aC,if_neg (by simp;omega),aC,if_neg (by simp;omega),aC,if_neg (by simp;omega),aC,if_neg (by simp),aC,if_pos rfl]
 have g1:W.heap[z+1]? = some (.cells #[.int .i64 (lb.toNat:Int),.int .u64 (la.toNat:Int)] 197):=by rw[hW,hz,aC,if_neg (by simp),aC,if_neg (by simp),aC,if_neg (by simp),aC,if_pos (by simp)]
 have g2:W.heap[z+1+1]? = some (.cells (iR k.val) 114):=by rw[hW,hz,aC,if_neg (by simp),aC,if_neg (by simp),aC,if_pos (by simp)]
 have g3:W.heap[z+1+1+1]? = some (.cells Tryz.zeroCells51 51):=by rw[hW,hz,aC,if_neg (by simp),aC,if_pos (by simp)]
 have g4:W.heap[z+1+1+1+1]? = some (.cells (dS Rec.zero) 49):=by rw[hW,hz,aC,if_pos (by simp)]
 simp only[<-hz,<-hva]
 rw[<-hva] at k1
 have hvs:va.size=153:=by rw[hva];exact jU _ _ _ _ _ _
 have eV:W.aW z 0 153=some va:=aI g0 hvs
 have eT:W.aW z 0 11=some (jO t):=(iC (i:=0) (m:=11) eV (by decide)).trans (by rw[hva];exact congrArg some (aKs _ _ _ _ _ _))
 have eR:W.aW z 11 131=some (dU (.slice a0 R.length cap0) lt):=(iC (i:=11) (m:=131) eV (by decide)).trans (by rw[hva];exact congrArg some (aKr _ _ _ _ _ _))
 have eL:W.cell? ⟨z,143,none⟩=some (.slice al P.length capl):=(aF g0 143).1.trans (by rw[hva];exact wU _ _ _ _ _ _)
 have d0:W.cell? ⟨z+1,0,none⟩=some (.int .i64 (lb.toNat:Int)):=(aF g1 0).1.trans rfl
 have d1:W.cell? ⟨z+1,1,none⟩=some (.int .u64 (la.toNat:Int)):=(aF g1 1).1.trans rfl
 have eK:W.aW (z+1+1) 0 25=some (iR k.val):=aI g2 (by simp)
 have l4:z+1+1+1+1<W.heap.size:=(Array.getElem?_eq_some_iff.1 g4).1
 have l3:z+1+1+1<W.heap.size:=by omega
 have l2:z+1+1<W.heap.size:=by omega
 have l1:z+1<W.heap.size:=by omega
 have l0:z<W.heap.size:=by omega
 have hset:bT va 0 (jO t)=va:=by rw[hva];exact aGG _ _ _ _ _ _
 have HV:=Lib.hid (And.intro hva hset)
 have HW:=Lib.hid (And.intro hbW (And.intro g0 (And.intro g3 (And.intro g4 (Nat.le_of_eq hz.symm)))))
 have HLW:=Lib.hid ((HL.out.below hbW).more hbW.size)
 have HR2:=Lib.hid (fun (V:World) (hb:Below W.heap.size W V)=>HR.out V (hbW.trans (hb.mono hbW.size)))
 have HA2:=Lib.hid (fun (V:World) (hb:Below W.heap.size W V)=>HA.out V (hbW.trans (hb.mono hbW.size)))
 clear hW hbW g0 g1 g2 g3 g4 hz HR HA HL hva hset
 go_cut [25] (fun s25 wx=>s25 = .bool fb /\ ∃ xs d,wx=W.drew.grow xs d)
 case first =>
  cases P with
  | nil =>
   obtain rfl:fb=true:=HFB.out
   clear HLW HV HW HR2 HA2 HFB HRR
   simp only[List.length_nil] at eL
   go_wp2_with fail
   apply aG (by rfl) [.val _,.val _,.val _,.val _,.val _,.val _,.val _,.val _,.val _,.val _,.val _,.val _] 12 (by rfl) [14,15,16,17,18,19,20,21,22,23,24,25] [] [] (by rfl) (by rfl) (by decide) (by decide +kernel) (fun _ _ _ _ _ h=>h)
   case hF=>exact zh
   case hops =>
    refine ⟨?o0,?o1,?o2,?o3,?o4,?o5,?o6,?o7,?o8,?o9,?o10,?o11,trivial⟩
    case o0=>exact oz0
    case o1=>exact oz1 0 14
    case o2=>exact oz1 1 15
    case o3=>exact oz1 2 16
    case o4=>exact oz1 3 17
    case o5=>exact oz1 4 18
    case o6=>exact oz1 4 18
    case o7=>exact oz2 4 18 6 20
    case o8=>exact oz2 4 18 7 21
    case o9=>exact oz2 4 18 8 22
    case o10=>refine agD fun x xs d hH K hK => ?_;have e18:=hH.e 4 18;have e19:=hH.e 5 19;have e23:=hH.e 9 23;clear hH;simp only[e18,e19,e23] at hK |-;clear e18 e19 e23;exact zv
    case o11=>exact oz2 4 18 10 24
   intro x w1 hH
   have e14:=hH.e 0 14;have e15:=hH.e 1 15;have e16:=hH.e 2 16;have e17:=hH.e 3 17;have e18:=hH.e 4 18;have e19:=hH.e 5 19;have e20:=hH.e 6 20;have e21:=hH.e 7 21;have e22:=hH.e 8 22;have e23:=hH.e 9 23;have e24:=hH.e 10 24;have e25:=hH.e 11 25
   obtain ⟨xs,d,rfl⟩:=aA hH.below
   simp only[e14,e15,e16,e17,e18,e19,e20,e21,e22,e23,e24,e25];clear hH e14 e15 e16 e17 e18 e19 e20 e21 e22 e23 e24 e25
   simp only[List.drop_succ_cons,List.drop_nil]
   go_wp2_with fail
   go_meet
   exact ⟨rfl,_,_,rfl⟩
  | cons x P =>
   obtain ⟨-,_,_,he, -, -,hcc⟩:=HLW.out
   simp only[Value.slice.injEq,List.length_map,true_and] at he
   obtain ⟨rfl,rfl⟩:=he
   obtain ⟨b,o,rfl,hlb,hcut⟩:=hcc (by simp)
   have hx:=hcut 0 (lM x) (by simp)
   rw[Nat.zero_mul,Nat.add_zero] at hx
   obtain ⟨xb,xa⟩:=x
   have x0:W.cell? ⟨b,o,none⟩=some (.int .i64 (xb.toNat:Int)):=(dF hx).2 0 (by decide)
   have x1:W.cell? ⟨b,o+1,none⟩=some (.int .u64 (xa.toNat:Int)):=(dF hx).2 1 (by decide)
   have HF2:=Lib.hid (show (decide (lb=xb) && decide (la=xa))=fb from by rw[HFB.out];unfold fbD;simp[Prod.mk.injEq])
   have hn0:((((xb,xa) :: P).length:Int) == 0)=false:=by rw[beq_eq_false_iff_ne,List.length_cons];omega
   have hn1:(0:Int)<(((xb,xa) :: P).length:Int):=by rw[List.length_cons];omega
   clear HLW HV HW HR2 HA2 hcc hcut hx HFB HRR
   generalize ((xb,xa) :: P).length=n at *
   go_wp2_with fail
   apply aG (by rfl) [.val _,.val _,.val _,.val _,.val _,.val _,.val _,.val _,.val _,.val _,.val _,.val _] 12 (by rfl) [14,15,16,17,18,19,20,21,22,23,24,25] [] [] (by rfl) (by rfl) (by decide) (by decide +kernel) (fun _ _ _ _ _ h=>h)
   case hF=>exact zh
   case hops =>
    refine ⟨?o0,?o1,?o2,?o3,?o4,?o5,?o6,?o7,?o8,?o9,?o10,?o11,trivial⟩
    case o0=>exact oz0
    case o1=>exact oz1 0 14
    case o2=>exact oz1 1 15
    case o3=>exact oz1 2 16
    case o4=>exact oz1 3 17
    case o5=>exact oz1 4 18
    case o6=>exact oz1 4 18
    case o7=>exact oz2 4 18 6 20
    case o8=>exact oz2 4 18 7 21
    case o9=>exact oz2 4 18 8 22
    case o10=>refine agD fun x xs d hH K hK => ?_;have e18:=hH.e 4 18;have e19:=hH.e 5 19;have e23:=hH.e 9 23;clear hH;simp only[e18,e19,e23] at hK |-;clear e18 e19 e23;exact zv
    case o11=>exact oz2 4 18 10 24
   intro x w1 hH
   have e14:=hH.e 0 14;have e15:=hH.e 1 15;have e16:=hH.e 2 16;have e17:=hH.e 3 17;have e18:=hH.e 4 18;have e19:=hH.e 5 19;have e20:=hH.e 6 20;have e21:=hH.e 7 21;have e22:=hH.e 8 22;have e23:=hH.e 9 23;have e24:=hH.e 10 24;have e25:=hH.e 11 25
   obtain ⟨xs,d,rfl⟩:=aA hH.below
   simp only[e14,e15,e16,e17,e18,e19,e20,e21,e22,e23,e24,e25];clear hH e14 e15 e16 e17 e18 e19 e20 e21 e22 e23 e24 e25
   simp only[List.drop_succ_cons,List.drop_nil]
   go_wp2_with fail
   go_meet
   exact ⟨congrArg Value.bool HF2.out,_,_,rfl⟩
 obtain ⟨rfl,xs,d,hV⟩:=hcut
 generalize wc=V at *
 have hbV:Below W.heap.size W V:=by rw[hV];exact (Below.refl _ W).drew.trans (aS (w:=W.drew) xs d)
 have hVs:=hbV.size
 have fV:V.aW z 0 153=some va:=(aK (hbV.block _ l0) _ _).trans eV
 have fT:V.aW z 0 11=some (jO t):=(aK (hbV.block _ l0) _ _).trans eT
 have fR:V.aW z 11 131=some (dU (.slice a0 R.length cap0) lt):=(aK (hbV.block _ l0) _ _).trans eR
 have fd1:V.cell? ⟨z+1,1,none⟩=some (.int .u64 (la.toNat:Int)):=(hbV.cell (p:=⟨z+1,1,none⟩) l1).trans d1
 have fK:V.aW (z+1+1) 0 25=some (iR k.val):=(aK (hbV.block _ l2) _ _).trans eK
 have h0:=(hbV.block _ l0).trans HW.out.2.1
 have h3:=(hbV.block _ l3).trans HW.out.2.2.1
 have h4:=(hbV.block _ l4).trans HW.out.2.2.2.1
 have m0:z<V.heap.size:=by omega
 have m1:z+1<V.heap.size:=by omega
 have m2:z+1+1<V.heap.size:=by omega
 have m3:z+1+1+1<V.heap.size:=by omega
 have m4:z+1+1+1+1<V.heap.size:=by omega
 have t0:V.aN z 0 11=true:=by simp[World.aN,h0,hvs]
 have HWV:=Lib.hid (And.intro (HW.out.1.trans (hbV.mono HW.out.1.size)) (And.intro h0 (And.intro h3 (And.intro h4 HW.out.2.2.2.2))))
 have HRV:=Lib.hid (fun (U:World) (hb:Below V.heap.size V U)=>HR2.out U (hbV.trans (hb.mono hVs)))
 have HAV:=Lib.hid (fun (U:World) (hb:Below V.heap.size V U)=>HA2.out U (hbV.trans (hb.mono hVs)))
 clear hV hbV hVs eV eT eR eL d0 d1 eK l0 l1 l2 l3 l4 h0 h3 h4 HW HR2 HA2 HLW HFB
 cases fb with
 | true =>
  have hrr:=HRR.out
  rw[if_pos rfl] at hrr
  rw[<-hrr] at HRV
  obtain ⟨r1,rb⟩:=rr
  clear hrr HRR HAV
  simp only at HRV
  go_wp2_with fail
  refine Gives.use (HRV.out _ blw) ?_
  intro xs2 d2
  go_upto_region 3 with fail
  refine aP ?_
  intro X hX
  obtain ⟨y,hy⟩:∃ y,y=V.heap.size+xs2.size:=⟨_,rfl⟩
  have hbX:Below V.heap.size V X:=by rw[hX];exact blw
  have x9:X.heap[y]? = some (.cells (jO t) 36):=by rw[hX,hy,aC,if_neg (by simp),aC,if_pos (by simp),dN (by simp)]
  have x10:X.heap[y+1]? = some (.cells (dS r1) 49):=by rw[hX,hy,aC,if_pos (by simp)]
  simp only[<-hy]
  have xT:X.aW y 0 11=some (jO t):=aI x9 rfl
  have ly:y<X.heap.size:=lt_of_heap x9
  have hz0:=(hbX.block _ m0).trans HWV.out.2.1
  have tz:X.aN z 0 11=true:=by simp[World.aN,hz0,hvs]
  have lz:z<X.heap.size:=lt_of_heap hz0
  have hzy:z<y:=by omega
  have HX:=Lib.hid (And.intro hbX (And.intro x10 hz0))
  have HM:=Lib.hid (And.intro m3 (And.intro m4 (And.intro hzy (show V.heap.size<=y by omega))))
  clear hX hy hbX x9 x10 hz0 hzy fV fT fR fd1 fK t0 HRV m0 m1 m2 m3 m4
  go_upto_region 4 with fail
  refine aP ?_
  intro Y hY
  have hset:=HV.out.2
  obtain ⟨hbX,x10,hz0⟩:=HX.out
  obtain ⟨m3,m4,hzy,hVy⟩:=HM.out
  have hk:∀ b,b≠z->Y.heap[b]? = X.heap[b]? := fun b hb=>by rw[hY];exact aY hb
  have yv:Y.heap[z]? = some (.cells va 51):=by
   have h1:Y.heap[z]? = some (.cells (bT va 0 (jO t)) 51):=by
    rw[hY]
    simp only[World.lay,Array.getElem?_modify,if_true,hz0,Option.map_some]
   rwa [hset] at h1
  have hbY:Below w.heap.size w Y:=by rw[hY];exact (HWV.out.1.trans (hbX.mono HWV.out.1.size)).lay HWV.out.2.2.2.2
  have yV:Y.aW z 0 153=some va:=aI yv hvs
  have yr:=(hk (y+1) (by omega)).trans x10
  have yR:Y.aW (y+1) 0 9=some (dS r1):=aI yr (by simp)
  have y3:=(hk (z+1+1+1) (by omega)).trans ((hbX.block _ m3).trans HWV.out.2.2.1)
  have y4:=(hk (z+1+1+1+1) (by omega)).trans ((hbX.block _ m4).trans HWV.out.2.2.2.1)
  have hbw:=hbY
  have hly:V.heap.size<=y+1:=by omega
  have hzz:=lt_of_heap yv
  clear hY hset hbX x10 hz0 hk yv HX xT ly tz lz
  have hsY:=hbY.size
  obtain ⟨hh,hh2,hfin,hskip⟩:=aEz (c:=va) (d:=dS r1) y3 y4 fH hvs (by simp) (by simp) k1 (aBj r1) fZ jB hbw (by have:=HWV.out.2.2.2.2;omega)
  have s0:=(hskip z (by omega) 0 153).trans yV
  have s1:=(hskip (y+1) (by omega) 0 9).trans yR
  have HFN:=Lib.hid hfin
  have n0:z<Y.heap.size:=by omega
  have n1:y+1<Y.heap.size:=lt_of_heap yr
  clear y3 y4 hskip hfin hbw hsY hbY yr HWV
  go_region
  all_goals
   go_wp2_with fail
  all_goals
   exact bodyPost_ret (v := .tuple #[.agg (iM t (.slice a0 R.length cap0) lt p (.slice al P.length capl) own),.agg (dS r1),.bool rb]) (bK Tryz.results65 (by rw[<-HV.out.1];exact aO.row rfl fZ HFN.out.1) (aO.row rfl jB HFN.out.2.1) (by simp[aO])) rfl ⟨rfl,HFN.out.2.2⟩
 | false =>
  have hrr:=HRR.out
  rw[if_neg (by decide)] at hrr
  rw[<-hrr] at HAV
  obtain ⟨r1,rb⟩:=rr
  clear hrr HRR HRV
  simp only at HAV
  go_wp2_with fail
  refine Gives.use (HAV.out _ blw) ?_
  intro xs2 d2
  go_upto_region 6 with fail
  refine aP ?_
  intro Y hY
  obtain ⟨y,hy⟩:∃ y,y=V.heap.size+xs2.size:=⟨_,rfl⟩
  have hbX:Below V.heap.size V Y:=by rw[hY];exact blw
  have yr:Y.heap[y]? = some (.cells (dS r1) 49):=by rw[hY,hy,aC,if_pos (by simp)]
  simp only[<-hy]
  have yV:Y.aW z 0 153=some va:=(aK (hbX.block _ m0) _ _).trans fV
  have yR:Y.aW y 0 9=some (dS r1):=aI yr (by simp)
  have y3:=(hbX.block _ m3).trans HWV.out.2.2.1
  have y4:=(hbX.block _ m4).trans HWV.out.2.2.2.1
  have hbw:Below w.heap.size w Y:=HWV.out.1.trans (hbX.mono HWV.out.1.size)
  have hbY:=hbX
  have hly:V.heap.size<=y:=by omega
  clear hY hy fV fT fR fd1 fK t0 HAV
  have hsY:=hbY.size
  obtain ⟨hh,hh2,hfin,hskip⟩:=aEz (c:=va) (d:=dS r1) y3 y4 fH hvs (by simp) (by simp) k1 (aBj r1) fZ jB hbw (by have:=HWV.out.2.2.2.2;omega)
  have s0:=(hskip z (by omega) 0 153).trans yV
  have s1:=(hskip y (by omega) 0 9).trans yR
  have HFN:=Lib.hid hfin
  have n0:z<Y.heap.size:=by omega
  have n1:y<Y.heap.size:=lt_of_heap yr
  clear y3 y4 hskip hfin hbw hsY hbY yr HWV
  go_region
  all_goals
   go_wp2_with fail
  all_goals
   exact bodyPost_ret (v := .tuple #[.agg (iM t (.slice a0 R.length cap0) lt p (.slice al P.length capl) own),.agg (dS r1),.bool rb]) (bK Tryz.results65 (by rw[<-HV.out.1];exact aO.row rfl fZ HFN.out.1) (aO.row rfl jB HFN.out.2.1) (by simp[aO])) rfl ⟨rfl,HFN.out.2.2⟩
@[go_sem ↓ high] theorem aO6 (f:Nat×Operand->Nat×Value) (p q r:Nat×Operand):Instr.build 51 (Array.map f #[p,q,r])=aA5 51 (f p) (f q) (f r):=by simp[aA5]
@[go_sem] theorem aNW (t:UInt64) (v:Value) (lt:UInt64) (p:Int) (w:World):(aA5 51 (0,.agg (jO t)) (1,.agg (dU v lt)) (2,.int .i64 p)).run Tryz.prog w = .ok (.agg (iM t v lt p (.slice none 0 0) Rec.zero)) w:=by
 unfold aA5
 refine fJ (zero := .agg (iM 0 (.slice none 0 0) 0 0 (.slice none 0 0) Rec.zero)) (places := #[(0,11),(11,131),(142,1),(143,1),(144,9)]) (by intro w;exact (Tryz.zeroValue51 w).trans rfl) Tryz.underlying51 (by intro w;kernel_rfl) ?_
 kernel_rfl
@[go_sem ↓ high] theorem aOW (f:Nat×Operand->Nat×Value) (p q r:Nat×Operand):Instr.build 114 (Array.map f #[p,q,r])=aA5 114 (f p) (f q) (f r):=by simp[aA5]
@[go_sem] theorem aNN (p b:UInt8) (w:World):(aA5 114 (0,.int .i64 4) (1,.int .i64 (p.toNat:Int)) (2,.int .i64 (b.toNat:Int))).run Tryz.prog w = .ok (.agg (iR (jH 4 p b).val)) w:=by
 unfold aA5
 kernel_rfl
@[go_sem] theorem aM8 (v:Value) (lt:UInt64):(Tryz.zeroCells46.setIfInBounds 0 v).setIfInBounds 1 (.int .u64 (lt.toNat:Int))=dU v lt:=by
 rw[vK]
 unfold dU
 simp
@[go_sem] theorem aNt (t:UInt64):(jO 0).setIfInBounds 3 (.int .u64 (t.toNat:Int))=jO t:=by kernel_rfl
@[go_sem] theorem aOA (t:UInt64):(jO t).extract 0 11=jO t:=by kernel_rfl
@[go_sem] theorem aOB (a t:UInt64):bT (jO a) 0 (jO t)=jO t:=by kernel_rfl
@[go_sem] theorem aLB:(Tryz.zeroCells46).size=131:=by rw[vK];simp
theorem aEG (lt at_:UInt64) (a:Option Addr) (n c:Nat) (w:World):Gives Tryz.prog 34 #[.agg #[.slice a n c,.int .u64 (lt.toNat:Int)],.int .u64 (at_.toNat:Int)] w (.tuple #[.agg (dU (.slice a n c) lt),.agg (jO at_)]):=by
 have k1:=mF a n c lt
 unfold Gives
 go_enter Tryz.func34,Tryz.ntmps34
 go_wp2_with fail
 exact bodyPost_ret (v := .tuple #[.agg (dU (.slice a n c) lt),.agg (jO at_)]) (aH Tryz.results34 (aO.row rfl yX (by simp[go_sem])) (aO.row rfl yB (by simp[go_sem]))) rfl ⟨rfl,blw⟩
structure OfD (w:World) (N:Nat) (f:K25->List Ver) (v:Value) (lt t:UInt64) (p b:UInt8) (P:List Lnk) (l:Lnk) (lv:Value) (own:Rec) (wr:World):Prop where
 low:Below w.heap.size w wr
 cells:wr.heap[N+1+1+1]? = some (.cells (iM t v lt (p.toNat:Int) lv own) 51)
 sl:SlA wr wr.heap.size 2 lv (P.map lM)
 far:nX (N+1+1+1+1+1) lv
 box:wr.heap[N+1+1+1+1]? = some (.cells (lM l) 197)
 res:wr.heap[N+1+1]? = some (.cells Tryz.zeroCells51 51)
 chain:dG f t p b 257 [] (b,qO)=P++dG f t p b (257 - P.length) (P.map (·.1)).reverse l
 nodup:(P.map (·.1)).Nodup
 first:(P = []/\l=(b,qO)) \/ ∃ u r,P=(b,u) :: r
 own1:P ≠ []->own=(atV (f (jH 4 p b)) t).1/\(atV (f (jH 4 p b)) t).2=true
end Go.Proofs.YtcedmfnlkelhkaaGreatDoor
