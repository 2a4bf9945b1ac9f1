/- Layer 14: how many more keys are live behind writes; is there room? What is read of a store. -/
import Derived.Test.YtcedmfnlkelhkaaGreatDoorJal
import Derived.Test.YtcedmfnlkelhkaaGreatDoorJak
import Derived.Handy
namespace Go.Proofs.YtcedmfnlkelhkaaGreatDoor
set_option maxHeartbeats 40000000
set_option maxRecDepth 100000
open Go.RowKit

theorem pR.up {W W':World} {co:Option Nat} {vs:List Ver} (h:pR W W.heap.size co vs) (hb:Below W.heap.size W W'):pR W' W'.heap.size co vs:=by
 have:=h.keep hb
 cases co with
 | none=>exact this
 | some c=>obtain ⟨g1,sv,g2,g3⟩:=this;exact ⟨Nat.lt_of_lt_of_le g1 hb.size,sv,g2,g3.more hb.size⟩
def Short (G:SG) (n:Nat):Prop := ∀ k,(aQ G k).length<=n
section
variable {w:World} {B s:Nat} {G:SG}
theorem aV.qF (h:aV w B s G) (k:K25):Gives Tryz.prog 69 #[.pointer (some ⟨s,0,none⟩),.agg (aJ k.val)] w (.pointer (nJ (mD G.R k))):=by
 have:=aDd k s G.t G.last.toNat G.live G.R G.n w h.store h.tree
 rwa [aKR] at this
end
def stepM (f:K25->List Ver) (n:Int) (x:Wr):Int:=if qM (f x.k)=true then (if x.dead=true then n - 1 else n) else (if x.dead=true then n else n+1)
def dL (f:K25->List Ver) (l:List Wr):Int:=l.foldl (stepM f) 0
theorem kH (f:K25->List Ver) (l:List Wr):∀ n,n - l.length<=l.foldl (stepM f) n/\l.foldl (stepM f) n<=n+l.length:=by
 induction l with
 | nil=>intro n;simp
 | cons x l ih =>
  intro n
  have:=ih (stepM f n x)
  rw[List.foldl_cons,List.length_cons]
  have h1:n - 1<=stepM f n x/\stepM f n x<=n+1:=by
   unfold stepM
   split
   ·split <;> omega
   split <;> omega
  omega
theorem wE (f:K25->List Ver) (l:List Wr) (i:Nat) (h:i<l.length):dL f (l.take (i+1))=stepM f (dL f (l.take i)) l[i]:=by
 unfold dL
 rw[List.take_succ_eq_append_getElem h,List.foldl_append]
 rfl
theorem aBO {w:World} {B s:Nat} {G:SG} (h:aV w B s G) (hs:Short G 100000) (lv:Value) (l:List Wr) (hl:SlA w w.heap.size 35 lv (l.map iJ)) (hn:l.length<=16) :
  Gives Tryz.prog 68 #[.pointer (some ⟨s,0,none⟩),lv] w (.int .i64 (dL (aQ G) l)):=by
 obtain ⟨a,cap,rfl,hcap,hmx⟩:=hl.form
 rw[List.length_map] at *
 have HL:=Lib.hid hl
 have HC:=Lib.hid (fun (k:K25) (W:World) (hb:Below w.heap.size w W)=>(h.keep hb).qF k)
 have HV:=Lib.hid (fun (k:K25) (W:World) (hb:Below w.heap.size w W)=>aF1 (mD G.R k) (aQ G k) (hs k) W ((h.dG k).up hb))
 clear hl h hs
 unfold Gives
 go_enter Tryz.func68,Tryz.ntmps68
 go_wp2_with fail
 go_loopw [5,11] (fun s5 s11 wr => ∃ (i:Nat),i<=l.length/\s5 = .int .i64 (dL (aQ G) (l.take i))/\s11 = .int .i64 i/\Hid (Below w.heap.size w wr)) (fun _ s11 _=>l.length - (intOf s11).toNat)
 case atStart=>exact ⟨0,Nat.zero_le _,rfl,rfl,Lib.hid blw⟩
 obtain ⟨i,hi,rfl,rfl,HB⟩:=hrel
 by_cases hlt:i<l.length
 ·have hltI:(i:Int)<l.length:=by omega
  obtain ⟨_,a',cap',he,_,_,hc⟩:=HL.out.below HB.out
  simp only[Value.slice.injEq,List.length_map,true_and] at he
  obtain ⟨rfl,rfl⟩:=he
  obtain ⟨g,q0,rfl,hlb,hcut⟩:=hc (by simp;omega)
  have hcutk:=hcut i (iJ l[i]) (by simp[hlt])
  have hsz:=HB.out.size
  have hgr:g<wr.heap.size:=by omega
  have hsu:=wE (aQ G) l i hlt
  have hbd:=kH (aQ G) (l.take i) 0
  have hbd1 : -16<=dL (aQ G) (l.take i)/\dL (aQ G) (l.take i)<=16:=by
   have:(l.take i).length<=16:=by simp;omega
   unfold dL;omega
  generalize l[i]=x at *
  generalize dL (aQ G) (l.take i)=n at *
  obtain ⟨hb1,hb2⟩:=hbd1
  have HSU:=Lib.hid hsu
  have HCX:=Lib.hid (fun (W:World) (hb:Below wr.heap.size wr W)=>HC.out x.k W (HB.out.trans (hb.mono hsz)))
  have HVX:=Lib.hid (fun (W:World) (hb:Below wr.heap.size wr W)=>HV.out x.k W (HB.out.trans (hb.mono hsz)))
  generalize nJ (mD G.R x.k)=p at *
  have HSZ:=Lib.hid hsz
  clear hcut hc hsu hbd HC HV hsz
  go_wp2_with fail
  refine Gives.use (HCX.out _ blw) ?_
  intro xs1 d1
  go_wp2_with fail
  refine Gives.use (HVX.out _ blw) ?_
  intro xs2 d2
  unfold stepM at HSU
  generalize qM (aQ G x.k)=q at *
  cases q
  all_goals
   cases hd:x.dead
   all_goals
    rw[hd] at HSU
    simp only[if_true,if_false,Bool.false_eq_true] at HSU
    go_wp2_with fail
    go_roundw
    case rel=>exact ⟨i+1,by omega,by rw[HSU.out],by go_num,Lib.hid (HB.out.trans ((show Below wr.heap.size wr _ from blw).mono HSZ.out))⟩
    simp[intOf];omega
 have hie:i=l.length:=by omega
 subst hie
 have hgn:¬ (l.length:Int)<l.length:=by omega
 rw[List.take_length]
 clear hlt
 go_wp2_with fail
 go_ret
 exact ⟨rfl,HB.out⟩
section
variable {w:World} {B s:Nat} {G:SG}
theorem aV.cells (h:aV w B s G):w.cell? ⟨s,0,none⟩=some (.pointer (some ⟨G.t,0,none⟩))/\w.cell? ⟨s,1,none⟩=some (.int .u64 G.last.toNat)/\w.cell? ⟨s,2,none⟩=some (.int .i64 G.live) /\
  w.frozen? ⟨s,1,none⟩=false/\w.frozen? ⟨s,2,none⟩=false/\s<w.heap.size:=by
 have hs:=h.store
 unfold wW at hs
 refine ⟨?_,?_,?_,?_,?_,lt_of_heap hs⟩
 all_goals simp[World.cell?,World.frozen?,hs,pt]
theorem aBX (h:aV w B s G) (hs:Short G 100000) (hlv : -1000000<=G.live/\G.live<=1000000) (lv:Value) (l:List Wr) (hl:SlA w w.heap.size 35 lv (l.map iJ)) (hn:l.length<=16) :
  Gives Tryz.prog 67 #[.pointer (some ⟨s,0,none⟩),lv] w (.int .i64 (if 200<G.live+dL (aQ G) l then 6 else 0)):=by
 obtain ⟨c0,c1,c2,f1,f2,ls⟩:=h.cells
 have HM:=Lib.hid (fun (W:World) (hb:Below w.heap.size w W)=>aBO (h.keep hb) hs lv l ((hl.below hb).more hb.size) hn)
 have hbd:=kH (aQ G) l 0
 have hbd1 : -16<=dL (aQ G) l/\dL (aQ G) l<=16:=by unfold dL;omega
 clear h hs hl hbd c0 c1 f1 f2
 generalize dL (aQ G) l=n at *
 obtain ⟨q,hq⟩:∃ q:Int,q=if 200<G.live+n then 6 else 0:=⟨_,rfl⟩
 rw[<-hq]
 generalize G.live=lv0 at *
 have hw:IntKind.i64.wrap (lv0+n)=lv0+n:=by rw[IntWalk.i64_in _ (by omega)]
 by_cases hf:200<lv0+n
 ·rw[if_pos hf] at hq
  have HQ:=Lib.hid hq
  clear hq
  unfold Gives
  go_enter Tryz.func67,Tryz.ntmps67
  go_wp2_with fail
  apply aG (by rfl) [.val _,.val _,.val _,.val _,.val _,.val _,.val _,.val _,.val _,.val _] 10 (by rfl) [9,10,11,12,13,14,15,16,17,8] [] [] (by rfl) (by rfl) (by decide) (by decide +kernel) (fun _ _ _ _ _ h=>h)
  case hF=>intro x;simp only[over,List.foldl_cons,List.foldl_nil,List.setIfInBounds_toArray,List.set_cons_succ,List.set_cons_zero];exact rfl
  case hops =>
   refine ⟨?o0,?o1,?o2,?o3,?o4,?o5,?o6,?o7,?o8,?o9,trivial⟩
   case o0 =>
    intro x w1 hH K hK
    obtain ⟨xs,d,rfl⟩:=aA hH.below
    clear hH
    try simp only[World.aB] at hK |-
    try simp only[World.grow_grow] at hK |-
    exact zw
   case o1 =>
    intro x w1 hH K hK
    have e9:x 9=_:=hH.g 0 9
    obtain ⟨xs,d,rfl⟩:=aA hH.below
    clear hH
    try simp only[World.aB] at hK |-
    try simp only[World.grow_grow] at hK |-
    simp only[e9] at hK |-
    clear e9
    exact zw
   case o2 =>
    intro x w1 hH K hK
    have e10:x 10=_:=hH.g 1 10
    obtain ⟨xs,d,rfl⟩:=aA hH.below
    clear hH
    try simp only[World.aB] at hK |-
    try simp only[World.grow_grow] at hK |-
    simp only[e10] at hK |-
    clear e10
    exact zw
   case o3 =>
    intro x w1 hH K hK
    have e11:x 11=_:=hH.g 2 11
    obtain ⟨xs,d,rfl⟩:=aA hH.below
    clear hH
    try simp only[World.aB] at hK |-
    try simp only[World.grow_grow] at hK |-
    simp only[e11] at hK |-
    clear e11
    exact zw
   case o4 =>
    intro x w1 hH K hK
    obtain ⟨xs,d,rfl⟩:=aA hH.below
    clear hH
    try simp only[World.aB] at hK |-
    try simp only[World.grow_grow] at hK |-
    exact zw
   case o5 =>
    intro x w1 hH K hK
    obtain ⟨xs,d,rfl⟩:=aA hH.below
    clear hH
    try simp only[World.aB] at hK |-
    try simp only[World.grow_grow] at hK |-
    exact zw
   case o6 =>
    intro x w1 hH K hK
    have e13:x 13=_:=hH.g 4 13
    have e14:x 14=_:=hH.g 5 14
    obtain ⟨xs,d,rfl⟩:=aA hH.below
    clear hH
    try simp only[World.aB] at hK |-
    try simp only[World.grow_grow] at hK |-
    simp only[e13,e14] at hK |-
    clear e13 e14
    go_simp
    go_wp2_with (refine Gives.use (HM.out _ blw) ?_;intro ys e)
    exact zu
   case o7 =>
    intro x w1 hH K hK
    have e12:x 12=_:=hH.g 3 12
    have e15:x 15=_:=hH.g 6 15
    obtain ⟨xs,d,rfl⟩:=aA hH.below
    clear hH
    try simp only[World.aB] at hK |-
    try simp only[World.grow_grow] at hK |-
    simp only[e12,e15] at hK |-
    clear e12 e15
    exact zw
   case o8 =>
    intro x w1 hH K hK
    have e16:x 16=_:=hH.g 7 16
    obtain ⟨xs,d,rfl⟩:=aA hH.below
    clear hH
    try simp only[World.aB] at hK |-
    try simp only[World.grow_grow] at hK |-
    simp only[e16] at hK |-
    clear e16
    exact zw
   case o9 =>
    intro x w1 hH K hK
    have e17:x 17=_:=hH.g 8 17
    obtain ⟨xs,d,rfl⟩:=aA hH.below
    clear hH
    try simp only[World.aB] at hK |-
    try simp only[World.grow_grow] at hK |-
    simp only[e17] at hK |-
    clear e17
    exact zw
  intro x w1 hH
  have e9:x 9=_:=hH.t 0 9
  have e10:x 10=_:=hH.t 1 10
  have e11:x 11=_:=hH.t 2 11
  have e12:x 12=_:=hH.t 3 12
  have e13:x 13=_:=hH.t 4 13
  have e14:x 14=_:=hH.t 5 14
  have e15:x 15=_:=hH.t 6 15
  have e16:x 16=_:=hH.t 7 16
  have e17:x 17=_:=hH.t 8 17
  have e8:x 8=_:=hH.t 9 8
  obtain ⟨xs,d,rfl⟩:=aA hH.below
  clear hH
  simp only[e9,e10,e11,e12,e13,e14,e15,e16,e17,e8];clear e9 e10 e11 e12 e13 e14 e15 e16 e17 e8
  simp only[List.drop_succ_cons,List.drop_nil]
  go_wp2_with fail
  go_ret
  exact ⟨dQ HQ.out.symm,blw⟩
 rw[if_neg hf] at hq
 have HQ:=Lib.hid hq
 clear hq
 unfold Gives
 go_enter Tryz.func67,Tryz.ntmps67
 go_wp2_with fail
 apply aG (by rfl) [.val _,.val _,.val _,.val _,.val _,.val _,.val _,.val _,.val _,.val _] 10 (by rfl) [9,10,11,12,13,14,15,16,17,8] [] [] (by rfl) (by rfl) (by decide) (by decide +kernel) (fun _ _ _ _ _ h=>h)
 case hF=>intro x;simp only[over,List.foldl_cons,List.foldl_nil,List.setIfInBounds_toArray,List.set_cons_succ,List.set_cons_zero];exact rfl
 case hops =>
  refine ⟨?o0,?o1,?o2,?o3,?o4,?o5,?o6,?o7,?o8,?o9,trivial⟩
  case o0 =>
   intro x w1 hH K hK
   obtain ⟨xs,d,rfl⟩:=aA hH.below
   clear hH
   try simp only[World.aB] at hK |-
   try simp only[World.grow_grow] at hK |-
   exact zw
  case o1 =>
   intro x w1 hH K hK
   have e9:x 9=_:=hH.g 0 9
   obtain ⟨xs,d,rfl⟩:=aA hH.below
   clear hH
   try simp only[World.aB] at hK |-
   try simp only[World.grow_grow] at hK |-
   simp only[e9] at hK |-
   clear e9
   exact zw
  case o2 =>
   intro x w1 hH K hK
   have e10:x 10=_:=hH.g 1 10
   obtain ⟨xs,d,rfl⟩:=aA hH.below
   clear hH
   try simp only[World.aB] at hK |-
   try simp only[World.grow_grow] at hK |-
   simp only[e10] at hK |-
   clear e10
   exact zw
  case o3 =>
   intro x w1 hH K hK
   have e11:x 11=_:=hH.g 2 11
   obtain ⟨xs,d,rfl⟩:=aA hH.below
   clear hH
   try simp only[World.aB] at hK |-
   try simp only[World.grow_grow] at hK |-
   simp only[e11] at hK |-
   clear e11
   exact zw
  case o4 =>
   intro x w1 hH K hK
   obtain ⟨xs,d,rfl⟩:=aA hH.below
   clear hH
   try simp only[World.aB] at hK |-
   try simp only[World.grow_grow] at hK |-
   exact zw
  case o5 =>
   intro x w1 hH K hK
   obtain ⟨xs,d,rfl⟩:=aA hH.below
   clear hH
   try simp only[World.aB] at hK |-
   try simp only[World.grow_grow] at hK |-
   exact zw
  case o6 =>
   intro x w1 hH K hK
   have e13:x 13=_:=hH.g 4 13
   have e14:x 14=_:=hH.g 5 14
   obtain ⟨xs,d,rfl⟩:=aA hH.below
   clear hH
   try simp only[World.aB] at hK |-
   try simp only[World.grow_grow] at hK |-
   simp only[e13,e14] at hK |-
   clear e13 e14
   go_simp
   go_wp2_with (refine Gives.use (HM.out _ blw) ?_;intro ys e)
   exact zu
  case o7 =>
   intro x w1 hH K hK
   have e12:x 12=_:=hH.g 3 12
   have e15:x 15=_:=hH.g 6 15
   obtain ⟨xs,d,rfl⟩:=aA hH.below
   clear hH
   try simp only[World.aB] at hK |-
   try simp only[World.grow_grow] at hK |-
   simp only[e12,e15] at hK |-
   clear e12 e15
   exact zw
  case o8 =>
   intro x w1 hH K hK
   have e16:x 16=_:=hH.g 7 16
   obtain ⟨xs,d,rfl⟩:=aA hH.below
   clear hH
   try simp only[World.aB] at hK |-
   try simp only[World.grow_grow] at hK |-
   simp only[e16] at hK |-
   clear e16
   exact zw
  case o9 =>
   intro x w1 hH K hK
   have e17:x 17=_:=hH.g 8 17
   obtain ⟨xs,d,rfl⟩:=aA hH.below
   clear hH
   try simp only[World.aB] at hK |-
   try simp only[World.grow_grow] at hK |-
   simp only[e17] at hK |-
   clear e17
   exact zw
 intro x w1 hH
 have e9:x 9=_:=hH.t 0 9
 have e10:x 10=_:=hH.t 1 10
 have e11:x 11=_:=hH.t 2 11
 have e12:x 12=_:=hH.t 3 12
 have e13:x 13=_:=hH.t 4 13
 have e14:x 14=_:=hH.t 5 14
 have e15:x 15=_:=hH.t 6 15
 have e16:x 16=_:=hH.t 7 16
 have e17:x 17=_:=hH.t 8 17
 have e8:x 8=_:=hH.t 9 8
 obtain ⟨xs,d,rfl⟩:=aA hH.below
 clear hH
 simp only[e9,e10,e11,e12,e13,e14,e15,e16,e17,e8];clear e9 e10 e11 e12 e13 e14 e15 e16 e17 e8
 simp only[List.drop_succ_cons,List.drop_nil]
 go_wp2_with fail
 go_ret
 exact ⟨dQ HQ.out.symm,blw⟩
theorem aAS (h:aV w B s G) (hs:Short G 100000) (k:K25) (t:UInt64):Gives Tryz.prog 230 #[.pointer (some ⟨s,0,none⟩),.agg (aJ k.val),.int .u64 t.toNat] w (.tuple #[.agg (bI (atV (aQ G k) t).1),.bool (atV (aQ G k) t).2]):=by
 have HC:=Lib.hid (fun (W:World) (hb:Below w.heap.size w W)=>(h.keep hb).qF k)
 have HA:=Lib.hid (fun (W:World) (hb:Below w.heap.size w W)=>aIL (mD G.R k) (aQ G k) (hs k) t W ((h.dG k).up hb))
 clear h hs
 generalize nJ (mD G.R k)=p at *
 generalize (atV (aQ G k) t).1=r at *
 generalize (atV (aQ G k) t).2=b at *
 unfold Gives
 go_enter Tryz.func230,Tryz.ntmps230
 go_wp2_with fail
 refine Gives.use (HC.out _ blw) ?_
 intro xs1 d1
 go_wp2_with fail
 refine Gives.use (HA.out _ blw) ?_
 intro xs2 d2
 go_wp2_with fail
 exact bodyPost_ret (v := .tuple #[.agg (bI r),.bool b]) (aH Tryz.results230 (aO.row rfl gY (by simp[go_sem])) (by simp[aO])) rfl ⟨rfl,blw⟩
theorem aB7 (w:World):Calls Tryz.prog 61 #[] w fun e w'=>e = .returned (.pointer (some ⟨w.heap.size,0,none⟩))/\w'=w.alloc (.cells #[.pointer none,.int .i64 0] 243):=by
 go_enter Tryz.func61,Tryz.ntmps61
 go_wp2_with fail
 go_ret
 exact ⟨rfl,rfl⟩
def uJ (t:Nat):SG:=⟨t,none,0,0,0,fun _=>(.slice none 0 0, [])⟩
theorem sN (w:World):Calls Tryz.prog 25 #[] w fun e w'=>e = .returned (.pointer (some ⟨w.heap.size+1,0,none⟩))/\Below w.heap.size w w'/\aV w' w.heap.size (w.heap.size+1) (uJ w.heap.size):=by
 have HC:=Lib.hid (aB7 w)
 go_enter Tryz.func25,Tryz.ntmps25
 go_wp2_with fail
 refine HC.out.mono ?_
 rintro e w1 ⟨rfl,rfl⟩
 go_wp2_with fail
 go_ret
 refine ⟨rfl,blw,?_,⟨?_,fun T hT=>by cases hT⟩,fun c hc=>by simp[SG.chains,uJ,dW] at hc,?_,?_,by simp;omega⟩
 ·exact (aC _ _ _).trans (if_pos (by simp))
 ·exact (aC _ _ _).trans ((if_neg (by simp[uJ])).trans ((aC _ _ _).trans (if_pos rfl)))
 ·simp[SG.blocks,SG.chains,uJ,dW,jD,kZ]
 intro b hb
 simp[SG.blocks,SG.chains,uJ,dW,jD,kZ] at hb
 omega
end
def aBF (at_:UInt64) (x:Wr):Rec:=if x.r.kind=4/\x.r.at_=0/\byt x.k.val 2≠0 then { x.r with at_:=at_ } else x.r
def nV (at_:UInt64) (x:Wr):Ver:=⟨at_,x.dead,aBF at_ x⟩
def oC (at_:UInt64) (f:K25->List Ver) (x:Wr):K25->List Ver:=fun k=>if k=x.k then f k ++ [nV at_ x] else f k
def dP (at_:UInt64) (f:K25->List Ver) (l:List Wr):K25->List Ver:=l.foldl (oC at_) f
def sZ (f:K25->List Ver) (live:Int) (l:List Wr):Int:=if eY l=0 then (if 200<live+dL f l then 6 else 0) else eY l
theorem aCZ:∀ {l:List Wr} {seen:List K25},aBB seen l=0->(∀ x∈l,bW x=0)/\(l.map (·.k)).Nodup /\ ∀ x∈l,x.k∉seen
 | [],_,_=>by simp
 | x :: l,seen,h=>by
  unfold aBB at h
  split at h
  ·rename_i hr
   split at h
   ·omega
   ·rename_i hn
    obtain ⟨h1,h2,h3⟩:=aCZ h
    refine ⟨fun y hy => ?_,?_,fun y hy => ?_⟩
    ·rcases List.mem_cons.1 hy with rfl | hy
     ·exact hr
     ·exact h1 y hy
    ·rw[List.map_cons,List.nodup_cons]
     refine ⟨fun hm => ?_,h2⟩
     obtain ⟨y,hy,e⟩:=List.mem_map.1 hm
     exact h3 y hy (by rw[e];exact List.mem_cons_self)
    ·rcases List.mem_cons.1 hy with rfl | hy
     ·exact hn
     ·exact fun hm=>h3 y hy (List.mem_cons_of_mem _ hm)
  ·rename_i hr
   exact absurd h hr
theorem kF {l:List Wr} (h:eY l=0):l.length<=16/\(∀ x∈l,bW x=0)/\(l.map (·.k)).Nodup:=by
 unfold eY at h
 split at h
 ·omega
 split at h
 ·omega
 obtain ⟨h1,h2,_⟩:=aCZ h
 exact ⟨by omega,h1,h2⟩
theorem aKV {r:Rec} (hk:r.kind=4) (a:UInt64):mW { r with at_:=a }=mW r:=by
 unfold mW eG dZ
 simp[hk]
theorem aFG {x:Wr} (h:bW x=0) (a:UInt64):pY (nV a x)=0:=by
 unfold bW at h
 split at h
 ·split at h
  ·rename_i hd
   split at h
   ·rename_i hz
    have hf:aBF a x=Rec.zero:=by
     unfold aBF
     rw[hz,if_neg (fun hh=>absurd hh.1 (by decide))]
    unfold pY nV
    simp[hd,hf]
   omega
  rename_i hd
  have hr:mW x.r=0:=by
   split at h
   ·rename_i hr;exact hr
   exact h
  have hf:mW (aBF a x)=0:=by
   unfold aBF
   split
   ·rename_i hk;rw[aKV hk.1,hr]
   exact hr
  unfold pY nV
  simp[hd,hf]
 omega
theorem yY (a:UInt64) (f:K25->List Ver) (l:List Wr) (i:Nat) (h:i<l.length):dP a f (l.take (i+1))=oC a (dP a f (l.take i)) l[i]:=by
 unfold dP
 rw[List.take_succ_eq_append_getElem h,List.foldl_append]
 rfl
theorem iU (a:UInt64):∀ (l:List Wr) (f:K25->List Ver) (k:K25),(∀ x∈l,x.k≠k)->dP a f l k=f k
 | [],_,_,_=>rfl
 | x :: l,f,k,h=>by
  unfold dP
  rw[List.foldl_cons]
  have:=iU a l (oC a f x) k (fun y hy=>h y (List.mem_cons_of_mem _ hy))
  unfold dP at this
  rw[this]
  unfold oC
  rw[if_neg (fun e=>h x List.mem_cons_self e.symm)]
theorem aDM {l:List Wr} (h:(l.map (·.k)).Nodup) {i:Nat} (hi:i<l.length):∀ x∈l.take i,x.k≠l[i].k:=by
 intro x hx e
 have h1:l.map (·.k)=(l.take i).map (·.k)++(l.drop i).map (·.k):=by rw[<-List.map_append,List.take_append_drop]
 rw[h1,List.nodup_append] at h
 exact h.2.2 x.k (List.mem_map.2 ⟨x,hx,rfl⟩) l[i].k (List.mem_map.2 ⟨l[i],by rw[List.drop_eq_getElem_cons hi];exact List.mem_cons_self,rfl⟩) e
structure Inv (f:K25->List Ver) (n:Nat) (last:UInt64):Prop where
 short:∀ k,(f k).length<=n
 old:∀ k,(fC (f k)).toNat<=last.toNat
section
variable {w:World} {B s:Nat} {G:SG}
theorem aF5 (h:aV w B s G) (hs:Short G 100000) (hlv : -1000000<=G.live/\G.live<=1000000) (lv:Value) (l:List Wr) (hl:SlA w w.heap.size 35 lv (l.map iJ)) (he:sZ (aQ G) G.live l≠0) :
  Gives Tryz.prog 36 #[.pointer (some ⟨s,0,none⟩),lv] w (.tuple #[.int .u64 0,.int .i64 (sZ (aQ G) G.live l)]):=by
 have HC:=Lib.hid (fun (W:World) (hb:Below w.heap.size w W)=>wX lv l W ((hl.below hb).more hb.size))
 by_cases hc:eY l=0
 ·have hn:=(kF hc).1
  have HR:=Lib.hid (fun (W:World) (hb:Below w.heap.size w W)=>aBX (h.keep hb) hs hlv lv l ((hl.below hb).more hb.size) hn)
  rw[hc] at HC
  have hp:sZ (aQ G) G.live l=6/\(if 200<G.live+dL (aQ G) l then (6:Int) else 0)=6:=by
   unfold sZ at he |-
   rw[if_pos hc] at he |-
   by_cases hf:200<G.live+dL (aQ G) l
   ·rw[if_pos hf];exact ⟨rfl,rfl⟩
   rw[if_neg hf] at he;exact absurd rfl he
  rw[hp.1]
  rw[hp.2] at HR
  clear h hs hlv hl he hc hn hp
  unfold Gives
  go_enter Tryz.func36,Tryz.ntmps36
  go_wp2_with fail
  refine Gives.use (HC.out _ blw) ?_
  intro xs1 d1
  go_wp2_with fail
  refine Gives.use (HR.out _ blw) ?_
  intro xs2 d2
  go_wp2_with fail
  exact bodyPost_ret (v := .tuple #[.int .u64 0,.int .i64 6]) (by simp[results,Tryz.results36,go_sem]) rfl ⟨rfl,blw⟩
 have hp:sZ (aQ G) G.live l=eY l:=by unfold sZ;rw[if_neg hc]
 rw[hp]
 have hne:(eY l != 0)=true:=by simp[hc]
 clear h hs hlv hl he hc hp
 generalize eY l=e at *
 unfold Gives
 go_enter Tryz.func36,Tryz.ntmps36
 go_wp2_with fail
 refine Gives.use (HC.out _ blw) ?_
 intro xs1 d1
 go_wp2_with fail
 exact bodyPost_ret (v := .tuple #[.int .u64 0,.int .i64 e]) (by simp[results,Tryz.results36,go_sem]) rfl ⟨rfl,blw⟩
end
end Go.Proofs.YtcedmfnlkelhkaaGreatDoor
