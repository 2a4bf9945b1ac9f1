/- The document's store: writes are applied. -/
import Derived.Test.YtcedmfnlkelhkaaGreatDoorJcl
import Derived.BigRegion
import Derived.Handy
namespace Go.Proofs.YtcedmfnlkelhkaaGreatDoor
set_option maxHeartbeats 40000000
set_option maxRecDepth 100000
open Go.RowKit

theorem SlA.aMI {w w':World} {B sz b0:Nat} {v:Value} {xs:List (Array Value)} {c:Array Value} {t:TypeId} (h:SlA w B sz v xs) (hb:w.heap[b0]? = some (.cells c t)) (hc:c.size<sz) (hk:∀ b,b≠b0->w'.heap[b]? = w.heap[b]?):SlA w' B sz v xs:=by
 obtain ⟨h0,a,cap,e,h2,h3,h4⟩:=h
 refine ⟨h0,a,cap,e,h2,h3,fun hn => ?_⟩
 obtain ⟨b,o,e2,hlt,hcut⟩:=h4 hn
 have hne:b≠b0:=by
  rintro rfl
  have hx:=hcut 0 xs[0] (by simp)
  unfold World.aW at hx
  rw[hb] at hx
  simp only at hx
  rw[if_neg (by omega)] at hx
  cases hx
 exact ⟨b,o,e2,hlt,fun i x hx=>(aK (hk b hne) _ _).trans (hcut i x hx)⟩
theorem eP.past {w w':World} {B b0:Nat} {v:Value} {R:RD} {c:Array Value} {t:TypeId} (h:eP w B v R) (hb:w.heap[b0]? = some (.cells c t)) (hc:c.size<11) (hk:∀ b,b≠b0->w'.heap[b]? = w.heap[b]?):eP w' B v R :=
 ⟨h.sl.aMI hb (by omega) hk,fun p hp=>(h.vs p hp).aMI hb hc hk⟩
theorem aHu (x:Wr) (i:Nat) (hi:i<9):(kC x)[26+i]? = (dS x.r)[i]? := by
 have h:=aCK x
 have h2:((kC x).extract 26 35)[i]? = (kC x)[26+i]? := by
  rw[Array.getElem?_extract,if_pos (by simp;omega)]
 rw[<-h2,h]
theorem aHv (x:Wr) (a:UInt64):(kC x).setIfInBounds 33 (.int .u64 a.toNat)=kC ⟨x.k,x.dead, { x.r with at_:=a }⟩:=by
 unfold kC
 rw[List.setIfInBounds_toArray]
 congr 1
 rw[List.set_append_right _ _ (by simp[fB])]
 simp[fB,tH]
theorem aMs (x:Wr):(kC x)[2]? = some (.int .i64 ((byt x.k.val 2).toNat:Int)):=by
 unfold kC
 rw[List.getElem?_toArray,List.getElem?_append_left (by simp[fB])]
 rfl
def aJf (N:Nat) (l:List Ver) (v:Value) (W:World):Prop := ∃ u,v = .tuple #[u,.int .i64 0]/\SlA W W.heap.size 11 u (l.map nU)/\nX N u
def aPo (N:Nat) (l:List Ver) (u:Value) (W:World):Prop:=SlA W W.heap.size 11 u (l.map nU)/\nX N u
theorem aJf.keep {N:Nat} {l:List Ver} {v:Value} {W W':World} (h:aJf N l v W) (hb:Below W.heap.size W W'):aJf N l v W':=by
 obtain ⟨u,h1,h,h2⟩:=h
 exact ⟨u,h1,(h.below hb).more hb.size,h2⟩
structure aMx (w W:World) (b0:Nat) (a:UInt64) (f:K25->List Ver) (live:Int) (l:List Wr) (i n:Nat) (v0:Value) (R0:RD) (v':Value) (R':RD):Prop where
 h0:W.heap[b0]? = some (.cells #[v',.int .u64 a.toNat] 39)
 h1:W.heap[b0+1]? = some (.cells #[.slice none 0 0,.int .u64 0] 39)
 low:Below w.heap.size w W
 doc:eP W W.heap.size v' R'
 ds:DS R' (dP a f (l.take i)) (live+dL f (l.take i))
 len:R'.length<=n+i
 off:aGL w.heap.size v0 R0 v' R'
theorem aAd (R:RD) (hR:R.length<=1000) (v:Value) (lt a:UInt64) (ha:a.toNat=lt.toNat+1) (w:World) (h:eP w w.heap.size v R) (f:K25->List Ver) (live:Int) (hd:DS R f live) (hsh:∀ k,(f k).length<=500) (hold:∀ k,(fC (f k)).toNat<=lt.toNat)
  (dv:Value) (l:List Wr) (hl:SlA w w.heap.size 35 dv (l.map kC)) (hn:l.length<=16) (hr:∀ x∈l,bW x=0) (hnd:(l.map (·.k)).Nodup) :
  Calls Tryz.prog 87 #[.agg #[v,.int .u64 lt.toNat],dv] w fun e w' => ∃ (v':Value) (R':RD),e = .returned (.agg #[v',.int .u64 a.toNat])/\Below w.heap.size w w'/\eP w' w'.heap.size v' R'/\DS R' (dP a f l) (live+dL f l)/\R'.length<=R.length+l.length/\aGL w.heap.size v R v' R':=by
 obtain ⟨a0,cap0,rfl,hcl,hcm⟩:=hl.form
 obtain ⟨a1,cap1,rfl,hcl1,hcm1⟩:=h.sl.form
 simp only[List.length_map] at *
 have HL:=Lib.hid hl
 have HD:=Lib.hid h
 have HDS:=Lib.hid hd
 have HSH:=Lib.hid hsh
 have HOLD:=Lib.hid hold
 have HRT:=Lib.hid hr
 have HND:=Lib.hid hnd
 unfold maxLen at hcm hcm1
 have hca:((lt.toNat:Int)+1)=(a.toNat:Int):=by omega
 have HLT:=Lib.hid ha
 have hwa2:IntKind.u64.wrap (a.toNat:Int)=a.toNat:=by
  have:=a.toNat_lt
  simp[IntKind.wrap,IntKind.bits,IntKind.signed]
  omega
 have hwa:IntKind.u64.wrap ((lt.toNat:Int)+1)=a.toNat:=by rw[hca];exact hwa2
 clear hl h hd hsh hold hr hnd ha
 go_enter Tryz.func87,Tryz.ntmps87
 go_upto_block 0 with fail
 refine aP ?_
 intro W hW
 obtain ⟨b0,hb0⟩:∃ b0,b0=w.heap.size:=⟨_,rfl⟩
 have hbW:Below w.heap.size w W:=by rw[hW];exact blw
 have hh0:W.heap[b0]? = some (.cells #[.slice a1 R.length cap1,.int .u64 a.toNat] 39):=by first | (rw[hW,hb0,aC,if_neg (by simp),aC,if_pos rfl];done) | (rw[<-hca,hW,hb0,aC,if_neg (by simp),aC,if_pos rfl])
 have hh1:W.heap[b0+1]? = some (.cells #[.slice none 0 0,.int .u64 0] 39):=by rw[hW,hb0,aC,if_pos (by simp)]
 simp only[<-hb0]
 have HBOX:=Lib.hid (show aMx w W b0 a f live l 0 R.length (.slice a1 R.length cap1) R (.slice a1 R.length cap1) R from ⟨hh0,hh1,hbW,(HD.out.up hbW),by simpa [dP,dL] using HDS.out,Nat.le_refl _,aGL.refl _ _ _⟩)
 have HB0:=Lib.hid hb0
 clear hW hbW hb0 hh0 hh1
 go_cut [] (fun wx=>Hid (∃ v' R',aMx w wx b0 a f live l l.length R.length (.slice a1 R.length cap1) R v' R'))
 case first =>
  go_wp2_with fail
  go_loopw [5] (fun s5 wr => ∃ i:Nat,i<=l.length/\s5 = .int .i64 i/\Hid (∃ v' R',aMx w wr b0 a f live l i R.length (.slice a1 R.length cap1) R v' R')) (fun s5 _=>l.length - (intOf s5).toNat)
  case atStart=>exact ⟨0,Nat.zero_le _,rfl,Lib.hid ⟨_,_,HBOX.out⟩⟩
  obtain ⟨i,hi,rfl,HI⟩:=hrel
  by_cases hlt:i<l.length
  ·have hltI:(i:Int)<l.length:=by omega
   obtain ⟨v',R',hbox⟩:=HI.out
   have HBX:=Lib.hid hbox
   obtain ⟨_,a3,cap3,he,_,_,hc⟩:=HL.out.below hbox.low
   simp only[Value.slice.injEq,List.length_map,true_and] at he
   obtain ⟨rfl,rfl⟩:=he
   obtain ⟨q,o,rfl,hlb,hcut⟩:=hc (by simp;omega)
   have hcuti:=hcut i (kC l[i]) (by simp[hlt])
   have hwr:=hbox.low.size
   have hqr:q<wr.heap.size:=by omega
   have hb0r:b0<wr.heap.size:=(Array.getElem?_eq_some_iff.1 hbox.h0).1
   have hb1r:b0+1<wr.heap.size:=(Array.getElem?_eq_some_iff.1 hbox.h1).1
   have hfx:=(DS.next HND.out hlt hbox.ds (.slice none 0 0)).1
   have HNX:=Lib.hid (fun u=>(DS.next HND.out hlt hbox.ds u).2)
   have hvs:vsR R' l[i].k=f l[i].k:=(hbox.ds.vs _).trans hfx
   have hrx:=HRT.out l[i] (List.getElem_mem hlt)
   have hlen:=hbox.len
   obtain ⟨x,hx⟩:∃ x,x=l[i]:=⟨_,rfl⟩
   rw[<-hx] at hcuti hvs hrx
   simp only[<-hx] at HNX
   have HF:=Lib.hid (And.intro hvs hrx)
   clear hx hcut hc hfx hvs hrx hbox HI HBOX
   go_upto_region 6 with fail
   refine aP ?_
   intro X hX
   obtain ⟨z,hz⟩:∃ z,z=wr.heap.size:=⟨_,rfl⟩
   have hbX:Below wr.heap.size wr X:=by rw[hX];exact blw
   have hzX:X.heap[z]? = some (.cells (kC x) 161):=by rw[hX,hz,aC,if_pos rfl]
   simp only[<-hz]
   have e0:X.cell? ⟨z,26,none⟩=some (.int .i64 x.r.kind.toNat):=((aF hzX 26).1).trans ((aHu x 0 (by decide)).trans (aHU _))
   have e1:X.cell? ⟨z,33,none⟩=some (.int .u64 x.r.at_.toNat):=((aF hzX 33).1).trans ((aHu x 7 (by decide)).trans (aJ3 _))
   have e2:X.cell? ⟨z,2,none⟩=some (.int .i64 ((byt x.k.val 2).toNat:Int)):=((aF hzX 2).1).trans (aMs x)
   have e3:=(aF hzX 33).2
   have k1:X.cell? ⟨b0,1,none⟩=some (.int .u64 a.toNat):=(hbX.cell (p:=⟨b0,1,none⟩) hb0r).trans ((aF HBX.out.h0 1).1.trans rfl)
   have lz:z<X.heap.size:=(Array.getElem?_eq_some_iff.1 hzX).1
   have lbX:b0<X.heap.size:=Nat.lt_of_lt_of_le hb0r hbX.size
   have hzr:z=wr.heap.size:=hz
   have HXX:=Lib.hid (And.intro hbX (And.intro hzX hz))
   clear hX hbX hzX hz hzr hcuti
   go_cut [38] (fun v wx=>v = .bool (forks x)/\wx=X)
   case first =>
    clear HXX HF HNX HBX HL HD HDS HSH HOLD HRT HND HLT HB0
    go_wp2_with fail
    all_goals
     go_meet
     exact ⟨congrArg Value.bool (by simp[forks, *]),rfl⟩
   obtain ⟨rfl,e9⟩:=hcut
   have e8:=e9.symm
   subst e8
   clear e9
   go_upto_if 38 with fail
   go_cut [] (fun wx=>Hid (wx.heap[z]? = some (.cells (kC ⟨x.k,x.dead,aBF a x⟩) 161)/\Below wr.heap.size wr wx))
   case first =>
    have hfx:=aC8 a x
    cases hfk:forks x with
    | false =>
     rw[hfk,if_neg (by decide)] at hfx
     have HFX:=Lib.hid hfx
     clear hfx hfk
     go_wp2_with fail
     go_meet
     exact Lib.hid ⟨by rw[HFX.out];exact HXX.out.2.1,HXX.out.1⟩
    | true =>
     rw[hfk,if_pos rfl] at hfx
     have HFX:=Lib.hid hfx
     clear hfx hfk
     go_wp2_with fail
     go_meet
     have hzz:=HXX.out.2.2
     exact Lib.hid ⟨by rw[HFX.out,bC HXX.out.2.1 33 _,aHv],HXX.out.1.setCell (by simp;omega) _⟩
   obtain ⟨hzY,hbY⟩:=hcut.out
   clear hcut e0 e1 e2 e3 k1 lz lbX
   obtain ⟨Y,hY⟩:∃ Y,Y=wc:=⟨_,rfl⟩
   rw[<-hY] at hzY hbY |-
   have hzz:=HXX.out.2.2
   have ck:Y.aW z 0 25=some (iR x.k.val):=by
    have:=iC (i:=0) (m:=25) (aI hzY (vJ _)) (by decide)
    rw[Nat.add_zero,yQ] at this;exact this
   have cr:Y.aW z 26 9=some (dS (aBF a x)):=by
    have:=iC (i:=26) (m:=9) (aI hzY (vJ _)) (by decide)
    rw[Nat.zero_add,aCK] at this;exact this
   have cd:Y.cell? ⟨z,25,none⟩=some (.bool x.dead):=((aF hzY 25).1).trans (aCJ _)
   have hbb:Y.heap[b0]? = some (.cells #[v',.int .u64 a.toNat] 39):=(hbY.block b0 hb0r).trans HBX.out.h0
   have hbb1:Y.heap[b0+1]? = some (.cells #[.slice none 0 0,.int .u64 0] 39):=(hbY.block (b0+1) hb1r).trans HBX.out.h1
   have k0:Y.cell? ⟨b0,0,none⟩=some v':=(aF hbb 0).1.trans rfl
   have k1:Y.cell? ⟨b0,1,none⟩=some (.int .u64 a.toNat):=(aF hbb 1).1.trans rfl
   have lz:z<Y.heap.size:=(Array.getElem?_eq_some_iff.1 hzY).1
   have lb:b0<Y.heap.size:=(Array.getElem?_eq_some_iff.1 hbb).1
   have hdY:eP Y Y.heap.size v' R':=HBX.out.doc.up hbY
   have HV:=Lib.hid (fun (V:World) (hb:Below Y.heap.size Y V)=>pF R' v' a.toNat x.k V (hdY.up hb))
   have hsv:=hdY.lk x.k
   rw[HF.out.1] at hsv
   obtain ⟨sv,hsv2⟩:∃ sv,sv=slR R' x.k:=⟨_,rfl⟩
   rw[<-hsv2] at HV hsv
   obtain ⟨nl,hnl⟩:∃ nl,nl=f x.k ++ [nV a x]:=⟨_,rfl⟩
   have hnw:(fC (f x.k)).toNat<(nV a x).at_.toNat:=by
    have h1:=HOLD.out x.k
    have h2:=HLT.out
    show _<a.toNat
    omega
   obtain ⟨NY,hNY⟩:∃ NY,NY=Y.heap.size:=⟨_,rfl⟩
   have HNY:=Lib.hid hNY
   have HP:=Lib.hid (show ∀ V:World,Below Y.heap.size Y V->Calls Tryz.prog 121 #[sv,.agg (nU ⟨a,x.dead,aBF a x⟩)] V fun e w' => ∃ v',e = .returned (.tuple #[v',.int .i64 0])/\Below V.heap.size V w'/\SlA w' w'.heap.size 11 v' (nl.map nU)/\nX NY v' by
    intro V hb
    rw[hnl]
    refine (aAg (f x.k) (by have:=HSH.out x.k;omega) sv (nV a x) V ((hsv.below hb).more hb.size) (aFG HF.out.2 a) hnw).mono ?_
    rintro r w3 ⟨v3,h1,h2,h3,h4⟩
    exact ⟨v3,h1,h2,h3,h4.mono (by have:=hb.size;omega)⟩)
   have HY2:=Lib.hid (And.intro hbY (And.intro hzY (And.intro hbb (And.intro hbb1 (And.intro hdY (And.intro hnl hY))))))
   have hxl:=x.k.len
   clear hzY hbY hbb hbb1 hdY hsv hsv2 hnl hnw hY hzz HXX hNY
   go_upto_region 8 with fail
   go_cut [7,8] (fun s7 s8 wx=>Hid (aPo NY nl s7 wx)/\Hid (Below Y.heap.size Y wx))
   case first =>
    clear HY2 HF HNX HBX HL HD HDS HSH HOLD HRT HND HLT HB0 HNY hlen hwa hwa2 hca
    go_wp2_with fail
    apply aG (by rfl) [.val _,.val _,.val _,.val _,.val _,.val _,.val _,.val _,.val _,.val _,.val _,.rel (aJf NY nl),.rel (aJf NY nl),.rel (aPo NY nl),.pure (.int .i64 0)] 15 (by rfl) [44,45,46,47,48,49,50,51,52,53,54,55,43,56,57] [] [14] (by rfl) (by rfl) (by decide) (by decide +kernel) (fun _ _ _ _ _ h=>h)
    case hF=>intro x;simp only[over,List.foldl_cons,List.foldl_nil,List.setIfInBounds_toArray,List.set_cons_succ,List.set_cons_zero];exact rfl
    case hops =>
     refine ⟨?o0,?o1,?o2,?o3,?o4,?o5,?o6,?o7,?o8,?o9,?o10,?o11,?o12,?o13,?o14,trivial⟩
     case o0 =>
      intro x w1 hH K hK
      obtain ⟨xs,d,rfl⟩:=aA hH.below
      clear hH
      try simp only[World.aB] at hK |-
      try simp only[World.grow_grow] at hK |-
      exact zv
     case o1 =>
      intro x w1 hH K hK
      obtain ⟨xs,d,rfl⟩:=aA hH.below
      clear hH
      try simp only[World.aB] at hK |-
      try simp only[World.grow_grow] at hK |-
      exact zv
     case o2 =>
      intro x w1 hH K hK
      have e45:x 45=_:=hH.g 1 45
      obtain ⟨xs,d,rfl⟩:=aA hH.below
      clear hH
      try simp only[World.aB] at hK |-
      try simp only[World.grow_grow] at hK |-
      simp only[e45] at hK |-
      clear e45
      exact zv
     case o3 =>
      intro x w1 hH K hK
      have e44:x 44=_:=hH.g 0 44
      have e46:x 46=_:=hH.g 2 46
      obtain ⟨xs,d,rfl⟩:=aA hH.below
      clear hH
      try simp only[World.aB] at hK |-
      try simp only[World.grow_grow] at hK |-
      simp only[e44,e46] at hK |-
      clear e44 e46
      go_simp
      go_wp2_with (refine Gives.use (HV.out _ blw) ?_;intro ys e)
      exact zu
     case o4 =>
      intro x w1 hH K hK
      obtain ⟨xs,d,rfl⟩:=aA hH.below
      clear hH
      try simp only[World.aB] at hK |-
      try simp only[World.grow_grow] at hK |-
      exact zv
     case o5 =>
      intro x w1 hH K hK
      have e48:x 48=_:=hH.g 4 48
      obtain ⟨xs,d,rfl⟩:=aA hH.below
      clear hH
      try simp only[World.aB] at hK |-
      try simp only[World.grow_grow] at hK |-
      simp only[e48] at hK |-
      clear e48
      exact zv
     case o6 =>
      intro x w1 hH K hK
      obtain ⟨xs,d,rfl⟩:=aA hH.below
      clear hH
      try simp only[World.aB] at hK |-
      try simp only[World.grow_grow] at hK |-
      exact zv
     case o7 =>
      intro x w1 hH K hK
      have e50:x 50=_:=hH.g 6 50
      obtain ⟨xs,d,rfl⟩:=aA hH.below
      clear hH
      try simp only[World.aB] at hK |-
      try simp only[World.grow_grow] at hK |-
      simp only[e50] at hK |-
      clear e50
      exact zv
     case o8 =>
      intro x w1 hH K hK
      obtain ⟨xs,d,rfl⟩:=aA hH.below
      clear hH
      try simp only[World.aB] at hK |-
      try simp only[World.grow_grow] at hK |-
      exact zv
     case o9 =>
      intro x w1 hH K hK
      have e52:x 52=_:=hH.g 8 52
      obtain ⟨xs,d,rfl⟩:=aA hH.below
      clear hH
      try simp only[World.aB] at hK |-
      try simp only[World.grow_grow] at hK |-
      simp only[e52] at hK |-
      clear e52
      exact zv
     case o10 =>
      intro x w1 hH K hK
      have e49:x 49=_:=hH.g 5 49
      have e51:x 51=_:=hH.g 7 51
      have e53:x 53=_:=hH.g 9 53
      obtain ⟨xs,d,rfl⟩:=aA hH.below
      clear hH
      try simp only[World.aB] at hK |-
      try simp only[World.grow_grow] at hK |-
      simp only[e49,e51,e53] at hK |-
      clear e49 e51 e53
      exact zv
     case o11 =>
      intro x w1 hH K hK
      have e47:x 47=_:=hH.g 3 47
      have e54:x 54=_:=hH.g 10 54
      obtain ⟨xs,d,rfl⟩:=aA hH.below
      clear hH
      try simp only[World.aB] at hK |-
      try simp only[World.grow_grow] at hK |-
      simp only[e47,e54] at hK |-
      clear e47 e54
      go_simp
      go_wp2_with fail
      refine (HP.out _ blw).mono ?_
      rintro r w3 ⟨u,rfl,hb3,hs3,hn3⟩
      go_wp2_with fail
      exact ⟨_,rfl,fun w4 h4=>aJf.keep ⟨u,rfl,hs3,hn3⟩ h4,hb3,fun h=>by cases h⟩
     case o12 =>
      intro x w1 hH K hK
      have r55:=hH.holds 11 (by decide) (by decide +kernel) 55 rfl (_) (Below.refl _ _)
      obtain ⟨xs,d,rfl⟩:=aA hH.below
      clear hH
      try simp only[World.aB] at hK r55 |-
      try simp only[World.grow_grow] at hK r55 |-
      obtain ⟨u,e55,hs3,hn3⟩:=r55
      simp only[e55] at hK |-
      go_simp
      go_wp2_with fail
      exact ⟨_,rfl,fun w4 h4=>aJf.keep ⟨u,rfl,hs3,hn3⟩ h4,Below.refl _ _,fun h=>by cases h⟩
     case o13 =>
      intro x w1 hH K hK
      have r43:=hH.holds 12 (by decide) (by decide +kernel) 43 rfl (_) (Below.refl _ _)
      obtain ⟨xs,d,rfl⟩:=aA hH.below
      clear hH
      try simp only[World.aB] at hK r43 |-
      try simp only[World.grow_grow] at hK r43 |-
      obtain ⟨u,e43,hs3,hn3⟩:=r43
      simp only[e43] at hK |-
      go_simp
      go_wp2_with fail
      exact ⟨_,rfl,fun w4 h4=>⟨(hs3.below h4).more h4.size,hn3⟩,Below.refl _ _,fun h=>by cases h⟩
     case o14 =>
      intro x w1 hH
      have r43:=hH.holds 12 (by decide) (by decide +kernel) 43 rfl (_) (Below.refl _ _)
      clear hH
      refine Or.inl ⟨rfl,fun w' => ?_⟩
      obtain ⟨u,e43, -⟩:=r43
      simp only[e43]
      go_simp
    intro x w1 hH
    have e44:x 44=_:=hH.t 0 44
    have e45:x 45=_:=hH.t 1 45
    have e46:x 46=_:=hH.t 2 46
    have e47:x 47=_:=hH.t 3 47
    have e48:x 48=_:=hH.t 4 48
    have e49:x 49=_:=hH.t 5 49
    have e50:x 50=_:=hH.t 6 50
    have e51:x 51=_:=hH.t 7 51
    have e52:x 52=_:=hH.t 8 52
    have e53:x 53=_:=hH.t 9 53
    have e54:x 54=_:=hH.t 10 54
    have r55:=hH.holds 11 (by decide) trivial 55 rfl (_) (Below.refl _ _)
    have r43:=hH.holds 12 (by decide) trivial 43 rfl (_) (Below.refl _ _)
    have r56:=hH.holds 13 (by decide) trivial 56 rfl (_) (Below.refl _ _)
    have e57:x 57=_:=hH.t 14 57
    obtain ⟨xs,d,rfl⟩:=aA hH.below
    clear hH
    simp only[e44,e45,e46,e47,e48,e49,e50,e51,e52,e53,e54,e57];clear e44 e45 e46 e47 e48 e49 e50 e51 e52 e53 e54 e57
    simp only[List.drop_succ_cons,List.drop_zero]
    go_wp2_with fail
    go_meet
    exact ⟨Lib.hid r56,Lib.hid blw⟩
   obtain ⟨HS7,HB7⟩:=hcut
   clear HV HP k0 k1 cr cd
   have HN7:=Lib.hid HS7.out.2
   have HS8:=Lib.hid HS7.out.1
   clear HS7
   have HS7:=HS8
   clear HS8
   obtain ⟨a7,c7,rfl,_,_⟩:=HS7.out.form
   simp only[List.length_map] at HS7 HN7 |-
   obtain ⟨Z,hZ⟩:∃ Z,Z=wc:=⟨_,rfl⟩
   rw[<-hZ] at HS7 HB7 |-
   have hszz:=HB7.out.size
   have ckz:Z.aW z 0 25=some (iR x.k.val):=(aK (HB7.out.block z lz) _ _).trans ck
   have hbz:Z.heap[b0]? = some (.cells #[v',.int .u64 a.toNat] 39):=(HB7.out.block b0 lb).trans HY2.out.2.2.1
   have lb1:b0+1<Y.heap.size:=(Array.getElem?_eq_some_iff.1 HY2.out.2.2.2.1).1
   have hbz1:Z.heap[b0+1]? = some (.cells #[.slice none 0 0,.int .u64 0] 39):=(HB7.out.block (b0+1) lb1).trans HY2.out.2.2.2.1
   have k0:Z.cell? ⟨b0,0,none⟩=some v':=(aF hbz 0).1.trans rfl
   have k1:Z.cell? ⟨b0,1,none⟩=some (.int .u64 a.toNat):=(aF hbz 1).1.trans rfl
   have lzz:z<Z.heap.size:=by omega
   have lbz:b0<Z.heap.size:=by omega
   have hne:nl ≠ []:=by rw[HY2.out.2.2.2.2.2.1];simp
   have HSET:=Lib.hid (aCv R' (by omega) v' a.toNat x.k a7 c7 nl hne Z (HY2.out.2.2.2.2.1.up HB7.out) HS7.out)
   have HZ:=Lib.hid (And.intro hbz hbz1)
   clear hZ ck hbz hbz1 hne lz lb lb1
   go_wp2_with fail
   refine HSET.out.mono ?_
   rintro r Z2 ⟨v2,rfl,hb2,hd2,hn2⟩
   obtain ⟨a9,c9,hv9,_,_⟩:=hd2.sl.form
   obtain ⟨n9,hn9⟩:∃ n9,n9=((oQ R' x.k ((.slice a7 nl.length c7,nl):VR)).map xI).length:=⟨_,rfl⟩
   rw[<-hn9] at hv9
   clear hn9
   subst hv9
   have hbz2:Z2.heap[b0]? = some (.cells #[v',.int .u64 a.toNat] 39):=(hb2.block b0 lbz).trans HZ.out.1
   have lb1z:b0+1<Z.heap.size:=(Array.getElem?_eq_some_iff.1 HZ.out.2).1
   have hbz3:Z2.heap[b0+1]? = some (.cells #[.slice none 0 0,.int .u64 0] 39):=(hb2.block (b0+1) lb1z).trans HZ.out.2
   have m0:Z2.cell? ⟨b0,0,none⟩=some v':=(aF hbz2 0).1.trans rfl
   have m1:Z2.cell? ⟨b0,1,none⟩=some (.int .u64 a.toNat):=(aF hbz2 1).1.trans rfl
   have m0f:=(aF hbz2 0).2
   have m1f:=(aF hbz2 1).2
   have lb2:b0<Z2.heap.size:=(Array.getElem?_eq_some_iff.1 hbz2).1
   have HFIN:=Lib.hid (show aMx w ((Z2.setCell ⟨b0,0,none⟩ (.slice a9 n9 c9)).setCell ⟨b0,1,none⟩ (.int .u64 a.toNat)) b0 a f live l (i+1) R.length (.slice a1 R.length cap1) R (.slice a9 n9 c9) (oQ R' x.k (.slice a7 nl.length c7,nl)) by
    have hk:∀ b,b≠b0->((Z2.setCell ⟨b0,0,none⟩ (.slice a9 n9 c9)).setCell ⟨b0,1,none⟩ (.int .u64 a.toNat)).heap[b]? = Z2.heap[b]? := fun b hb=>(Below.heap_setCell _ ⟨b0,1,none⟩ _ b hb).trans (Below.heap_setCell _ ⟨b0,0,none⟩ _ b hb)
    have hsz:((Z2.setCell ⟨b0,0,none⟩ (.slice a9 n9 c9)).setCell ⟨b0,1,none⟩ (.int .u64 a.toNat)).heap.size=Z2.heap.size:=by simp
    have hnl:=HY2.out.2.2.2.2.2.1
    have hlow:Below w.heap.size w Z2:=((HBX.out.low.trans (HY2.out.1.mono HBX.out.low.size)).trans (HB7.out.mono (by have:=HBX.out.low.size;have:=HY2.out.1.size;omega))).trans (hb2.mono (by have:=HBX.out.low.size;have:=HY2.out.1.size;omega))
    have hbw:=HB0.out
    refine ⟨?_,(hk (b0+1) (by omega)).trans hbz3,(hlow.setCell (by simp;omega) _).setCell (by simp;omega) _,?_,?_,?_,?_⟩
    ·have:=bC (bC hbz2 0 (.slice a9 n9 c9)) 1 (.int .u64 a.toNat)
     simpa using this
    ·rw[hsz]
     exact hd2.past hbz2 (by simp) hk
    ·have:=HNX.out (.slice a7 nl.length c7)
     rw[hnl] at this |-
     exact this
    ·have h1:=aEc R' x.k ((.slice a7 nl.length c7,nl):VR)
     have h2:=HBX.out.len
     omega
    intro S hS h1 h2
    obtain ⟨o1,o2⟩:=HBX.out.off S hS h1 h2
    have z1:=HBX.out.low.size
    have z2:=HY2.out.1.size
    have z3:=HB7.out.size
    have z4:=HNY.out
    refine ⟨hn2.off (fun b hb=>by have:=hS b hb;omega),fun p hp => ?_⟩
    rcases (yJ p HBX.out.ds.sa).1 hp with rfl | ⟨hp,_⟩
    ·exact HN7.out.off (fun b hb=>by have:=hS b hb;omega)
    exact o2 p hp)
   clear HSET HZ HS7 HB7 HY2 HNX HF HBX hb2 hd2 hn2 HN7 HNY hbz2 hbz3 k0 k1 ckz HL HD HDS HSH HOLD HRT HND HLT HB0
   go_wp2_with fail
   go_roundw
   case rel=>exact ⟨i+1,by omega,by go_num,Lib.hid ⟨_,_,HFIN.out⟩⟩
   simp[intOf];omega
  have hgn:¬ (i:Int)<l.length:=by omega
  have HE:=Lib.hid (show i=l.length by omega)
  clear HBOX
  go_wp2_with fail
  go_meet
  have hie:=HE.out
  subst hie
  exact HI
 obtain ⟨v',R',hbox⟩:=hcut.out
 obtain ⟨a10,c10,rfl,_,_⟩:=hbox.doc.sl.form
 obtain ⟨n10,hn10⟩:∃ n10,n10=(R'.map xI).length:=⟨_,rfl⟩
 rw[<-hn10] at hbox
 clear hn10
 have k0:wc.cell? ⟨b0,0,none⟩=some (.slice a10 n10 c10):=(aF hbox.h0 0).1.trans rfl
 have k1:wc.cell? ⟨b0,1,none⟩=some (.int .u64 a.toNat):=(aF hbox.h0 1).1.trans rfl
 have j0:wc.cell? ⟨b0+1,0,none⟩=some (.slice none 0 0):=(aF hbox.h1 0).1.trans rfl
 have j1:wc.cell? ⟨b0+1,1,none⟩=some (.int .u64 0):=(aF hbox.h1 1).1.trans rfl
 have j0f:=(aF hbox.h1 0).2
 have j1f:=(aF hbox.h1 1).2
 have lb:b0<wc.heap.size:=(Array.getElem?_eq_some_iff.1 hbox.h0).1
 have lb1:b0+1<wc.heap.size:=(Array.getElem?_eq_some_iff.1 hbox.h1).1
 have hfb:=bC (bC hbox.h1 0 (.slice a10 n10 c10)) 1 (.int .u64 a.toNat)
 have HFIN:=Lib.hid (show ((wc.setCell ⟨b0+1,0,none⟩ (.slice a10 n10 c10)).setCell ⟨b0+1,1,none⟩ (.int .u64 a.toNat)).heap[b0+1]? = some (.cells #[.slice a10 n10 c10,.int .u64 a.toNat] 39)/\Below w.heap.size w ((wc.setCell ⟨b0+1,0,none⟩ (.slice a10 n10 c10)).setCell ⟨b0+1,1,none⟩ (.int .u64 a.toNat)) /\
   eP ((wc.setCell ⟨b0+1,0,none⟩ (.slice a10 n10 c10)).setCell ⟨b0+1,1,none⟩ (.int .u64 a.toNat)) ((wc.setCell ⟨b0+1,0,none⟩ (.slice a10 n10 c10)).setCell ⟨b0+1,1,none⟩ (.int .u64 a.toNat)).heap.size (.slice a10 n10 c10) R' by
  have hk:∀ b,b≠b0+1->((wc.setCell ⟨b0+1,0,none⟩ (.slice a10 n10 c10)).setCell ⟨b0+1,1,none⟩ (.int .u64 a.toNat)).heap[b]? = wc.heap[b]? := fun b hb=>(Below.heap_setCell _ ⟨b0+1,1,none⟩ _ b hb).trans (Below.heap_setCell _ ⟨b0+1,0,none⟩ _ b hb)
  have hsz:((wc.setCell ⟨b0+1,0,none⟩ (.slice a10 n10 c10)).setCell ⟨b0+1,1,none⟩ (.int .u64 a.toNat)).heap.size=wc.heap.size:=by simp
  have hbw:=HB0.out
  refine ⟨by simpa using hfb,(hbox.low.setCell (by simp;omega) _).setCell (by simp;omega) _,?_⟩
  rw[hsz]
  exact hbox.doc.past hbox.h1 (by simp) hk)
 have HDSF:=Lib.hid (show DS R' (dP a f l) (live+dL f l)/\R'.length<=R.length+l.length/\aGL w.heap.size (.slice a1 R.length cap1) R (.slice a10 n10 c10) R' by
  have h1:=hbox.ds
  rw[List.take_length] at h1
  exact ⟨h1,hbox.len,hbox.off⟩)
 clear hcut hbox hfb HBOX HL HD HDS HSH HOLD HRT HND HLT HB0
 go_wp2_with fail
 generalize hwF:((wc.setCell ⟨b0+1,0,none⟩ (.slice a10 n10 c10)).setCell ⟨b0+1,1,none⟩ (.int .u64 a.toNat))=wF
 have hF:=HFIN.out
 rw[hwF] at hF
 obtain ⟨f1,f2,f3⟩:=hF
 have d0:wF.cell? ⟨b0+1,0,none⟩=some (.slice a10 n10 c10):=(aF f1 0).1.trans rfl
 have d1:wF.cell? ⟨b0+1,1,none⟩=some (.int .u64 a.toNat):=(aF f1 1).1.trans rfl
 have HF2:=Lib.hid (And.intro f2 f3)
 clear hwF HFIN f1 f2 f3
 exact bodyPost_ret (v := .agg #[.slice a10 n10 c10,.int .u64 a.toNat]) (by simp[results,Tryz.results87,go_sem,d0,d1]) rfl ⟨_,R',rfl,HF2.out.1,HF2.out.2,HDSF.out.1,HDSF.out.2.1,HDSF.out.2.2⟩
theorem aHV (R:RD) (hR:R.length<=1000) (v:Value) (lt:UInt64) (w:World) (h:eP w w.heap.size v R) (f:K25->List Ver) (live:Int) (hd:DS R f live) (dv:Value) (l:List Wr) (hl:SlA w w.heap.size 35 dv (l.map kC)) (he:sZ f live l≠0) :
  Gives Tryz.prog 52 #[.agg #[v,.int .u64 lt.toNat],dv] w (.tuple #[.agg #[v,.int .u64 lt.toNat],.int .u64 0,.int .i64 (sZ f live l)]):=by
 have HC:=Lib.hid (fun (W:World) (hb:Below w.heap.size w W)=>pV dv l W ((hl.below hb).more hb.size))
 obtain ⟨a1,cap1,rfl,hcl1,hcm1⟩:=h.sl.form
 simp only[List.length_map] at *
 by_cases hc:eY l=0
 ·have hn:=(kF hc).1
  have HR:=Lib.hid (fun (W:World) (hb:Below w.heap.size w W)=>uY R (.slice a1 R.length cap1) lt.toNat W (h.up hb) f live hd (by omega) dv l ((hl.below hb).more hb.size) hn)
  rw[hc] at HC
  have hp:sZ f live l=6/\(if 200<live+dL f l then (6:Int) else 0)=6:=by
   unfold sZ at he |-
   rw[if_pos hc] at he |-
   by_cases hf:200<live+dL f l
   ·rw[if_pos hf];exact ⟨rfl,rfl⟩
   rw[if_neg hf] at he;exact absurd rfl he
  rw[hp.1]
  rw[hp.2] at HR
  clear h hl he hc hn hp hd hcl1
  generalize lt.toNat=tn at *
  unfold Gives
  go_enter Tryz.func52,Tryz.ntmps52
  go_wp2_with fail
  refine Gives.use (HC.out _ blw) ?_
  intro xs1 d1
  go_wp2_with fail
  refine Gives.use (HR.out _ blw) ?_
  intro xs2 d2
  go_wp2_with fail
  exact bodyPost_ret (v := .tuple #[.agg #[.slice a1 R.length cap1,.int .u64 tn],.int .u64 0,.int .i64 6]) (by simp[results,Tryz.results52,go_sem]) rfl ⟨rfl,blw⟩
 have hp:sZ f live l=eY l:=by unfold sZ;rw[if_neg hc]
 rw[hp]
 have hne:(eY l != 0)=true:=by simp[hc]
 have hne2:(eY l == 0)=false:=by simp[hc]
 clear h hl he hc hp hd hcl1
 generalize eY l=e at *
 generalize lt.toNat=tn at *
 unfold Gives
 go_enter Tryz.func52,Tryz.ntmps52
 go_wp2_with fail
 refine Gives.use (HC.out _ blw) ?_
 intro xs1 d1
 go_wp2_with fail
 exact bodyPost_ret (v := .tuple #[.agg #[.slice a1 R.length cap1,.int .u64 tn],.int .u64 0,.int .i64 e]) (by simp[results,Tryz.results52,go_sem]) rfl ⟨rfl,blw⟩
theorem aF9 (R:RD) (hR:R.length<=1000) (v:Value) (lt a:UInt64) (ha:a.toNat=lt.toNat+1) (w:World) (h:eP w w.heap.size v R) (f:K25->List Ver) (live:Int) (hd:DS R f live) (hsh:∀ k,(f k).length<=500) (hold:∀ k,(fC (f k)).toNat<=lt.toNat)
  (dv:Value) (l:List Wr) (hl:SlA w w.heap.size 35 dv (l.map kC)) (he:sZ f live l=0) :
  Calls Tryz.prog 52 #[.agg #[v,.int .u64 lt.toNat],dv] w fun e w' => ∃ (v':Value) (R':RD),e = .returned (.tuple #[.agg #[v',.int .u64 a.toNat],.int .u64 a.toNat,.int .i64 0])/\Below w.heap.size w w'/\eP w' w'.heap.size v' R'/\DS R' (dP a f l) (live+dL f l)/\R'.length<=R.length+l.length/\aGL w.heap.size v R v' R':=by
 obtain ⟨a1,cap1,rfl,hcl1,hcm1⟩:=h.sl.form
 simp only[List.length_map] at *
 have hck:eY l=0/\(if 200<live+dL f l then (6:Int) else 0)=0:=by
  unfold sZ at he
  by_cases hc:eY l=0
  ·rw[if_pos hc] at he;exact ⟨hc,he⟩
  rw[if_neg hc] at he;exact absurd he hc
 have hsp:=kF hck.1
 go_enter Tryz.func52,Tryz.ntmps52
 go_upto_region 1 with fail
 refine aP ?_
 intro W hW
 obtain ⟨b0,hb0⟩:∃ b0,b0=w.heap.size:=⟨_,rfl⟩
 have hbW:Below w.heap.size w W:=by rw[hW];exact blw
 have hh0:W.heap[b0]? = some (.cells #[.slice a1 R.length cap1,.int .u64 lt.toNat] 39):=by rw[hW,hb0,aC,if_neg (by simp),aC,if_pos rfl]
 have hh1:W.heap[b0+1]? = some (.cells #[.slice none 0 0,.int .u64 0] 39):=by rw[hW,hb0,aC,if_pos (by simp)]
 simp only[<-hb0]
 have HC:=Lib.hid (fun (V:World) (hb:Below W.heap.size W V)=>pV dv l V ((hl.below (hbW.trans (hb.mono hbW.size))).more (hbW.trans (hb.mono hbW.size)).size))
 have HR:=Lib.hid (fun (V:World) (hb:Below W.heap.size W V)=>uY R (.slice a1 R.length cap1) lt.toNat V (h.up (hbW.trans (hb.mono hbW.size))) f live hd (by omega) dv l ((hl.below (hbW.trans (hb.mono hbW.size))).more (hbW.trans (hb.mono hbW.size)).size) hsp.1)
 have HA:=Lib.hid (fun (V:World) (hb:Below W.heap.size W V)=>aAd R hR (.slice a1 R.length cap1) lt a ha V (h.up (hbW.trans (hb.mono hbW.size))) f live hd hsh hold dv l ((hl.below (hbW.trans (hb.mono hbW.size))).more (hbW.trans (hb.mono hbW.size)).size) hsp.1 hsp.2.1 hsp.2.2)
 rw[hck.1] at HC
 rw[hck.2] at HR
 have k0:W.cell? ⟨b0,0,none⟩=some (.slice a1 R.length cap1):=(aF hh0 0).1.trans rfl
 have k1:W.cell? ⟨b0,1,none⟩=some (.int .u64 lt.toNat):=(aF hh0 1).1.trans rfl
 have lb:b0<W.heap.size:=(Array.getElem?_eq_some_iff.1 hh0).1
 have lb1:b0+1<W.heap.size:=(Array.getElem?_eq_some_iff.1 hh1).1
 have HB:=Lib.hid (And.intro hbW (And.intro hb0 (And.intro hh0 hh1)))
 clear hW hbW hb0 hh0 hh1 h hd hsh hold hl he hck hsp ha hcl1
 go_wp2_with fail
 refine Gives.use (HC.out _ blw) ?_
 intro xs1 d1
 go_wp2_with fail
 refine Gives.use (HR.out _ blw) ?_
 intro xs2 d2
 go_wp2_with fail
 refine (HA.out _ blw).mono ?_
 rintro r Z ⟨v',R',rfl,hb3,hd3,hds,hlen,hoff⟩
 have hbZ:Below W.heap.size W Z:=(show Below W.heap.size W _ from blw).trans (hb3.mono (by simp))
 obtain ⟨a7,cap7,rfl,hcl7,_⟩:=hd3.sl.form
 simp only[List.length_map] at hd3 hds hlen hoff hcl7
 have z0:Z.heap[b0]? = some (.cells #[.slice a1 R.length cap1,.int .u64 lt.toNat] 39):=(hbZ.block _ lb).trans HB.out.2.2.1
 have z1:Z.heap[b0+1]? = some (.cells #[.slice none 0 0,.int .u64 0] 39):=(hbZ.block _ lb1).trans HB.out.2.2.2
 have y0:Z.cell? ⟨b0,0,none⟩=some (.slice a1 R.length cap1):=(aF z0 0).1.trans rfl
 have y1:Z.cell? ⟨b0,1,none⟩=some (.int .u64 lt.toNat):=(aF z0 1).1.trans rfl
 have y0f:=(aF z0 0).2
 have y1f:=(aF z0 1).2
 have lz:b0<Z.heap.size:=(Array.getElem?_eq_some_iff.1 z0).1
 have hwb:=HB.out.2.1
 have HZ:=Lib.hid (And.intro hd3 (And.intro hds (And.intro hlen (And.intro (hoff.mono (show w.heap.size<=_ by have:=HB.out.1.size;simp;omega)) (And.intro (HB.out.1.trans (hbZ.mono HB.out.1.size)) (And.intro z0 (And.intro z1 hwb)))))))
 clear HC HR HA hb3 hbZ hd3 hds hlen hoff hcl7 z0 z1 k0 k1 HB lb lb1 hwb
 go_upto_region 7 with fail
 refine aP ?_
 intro Y hY
 obtain ⟨hd3,hds,hlen,hoff,hbz,z0,z1,hwb⟩:=HZ.out
 have t0:Y.heap[b0]? = some (.cells #[.slice a7 R'.length cap7,.int .u64 a.toNat] 39):=by
  have:=bC (bC z0 0 (.slice a7 R'.length cap7)) 1 (.int .u64 a.toNat)
  rw[hY]
  simpa using this
 have hk:∀ b,b≠b0->Y.heap[b]? = Z.heap[b]? := by
  intro b hb
  rw[hY]
  exact (Below.heap_setCell _ ⟨b0,1,none⟩ _ b hb).trans (Below.heap_setCell _ ⟨b0,0,none⟩ _ b hb)
 have hsz:Y.heap.size=Z.heap.size:=by rw[hY];simp
 have t1:Y.heap[b0+1]? = some (.cells #[.slice none 0 0,.int .u64 0] 39):=(hk _ (by omega)).trans z1
 have dY:eP Y Y.heap.size (.slice a7 R'.length cap7) R':=by rw[hsz];exact hd3.past z0 (by simp) hk
 have bY:Below w.heap.size w Y:=by rw[hY];exact (hbz.setCell (by simp;omega) _).setCell (by simp;omega) _
 have c0:Y.cell? ⟨b0,0,none⟩=some (.slice a7 R'.length cap7):=(aF t0 0).1.trans rfl
 have c1:Y.cell? ⟨b0,1,none⟩=some (.int .u64 a.toNat):=(aF t0 1).1.trans rfl
 have e0:Y.cell? ⟨b0+1,0,none⟩=some (.slice none 0 0):=(aF t1 0).1.trans rfl
 have e1:Y.cell? ⟨b0+1,1,none⟩=some (.int .u64 0):=(aF t1 1).1.trans rfl
 have e0f:=(aF t1 0).2
 have e1f:=(aF t1 1).2
 have lY:b0<Y.heap.size:=(Array.getElem?_eq_some_iff.1 t0).1
 have lY1:b0+1<Y.heap.size:=(Array.getElem?_eq_some_iff.1 t1).1
 have HY:=Lib.hid (And.intro dY (And.intro bY (And.intro hds (And.intro hlen (And.intro hoff (And.intro t1 hwb))))))
 clear hY hd3 hds hlen hoff hbz z0 z1 hwb t0 hk hsz t1 dY bY HZ y0 y1 y0f y1f lz
 go_region
 generalize hwF:((Y.setCell ⟨b0+1,0,none⟩ (.slice a7 R'.length cap7)).setCell ⟨b0+1,1,none⟩ (.int .u64 a.toNat)).drew=wF
 obtain ⟨dY,bY,hds,hlen,hoff,t1,hwb⟩:=HY.out
 have f1:wF.heap[b0+1]? = some (.cells #[.slice a7 R'.length cap7,.int .u64 a.toNat] 39):=by
  rw[<-hwF]
  show ((Y.setCell ⟨b0+1,0,none⟩ (.slice a7 R'.length cap7)).setCell ⟨b0+1,1,none⟩ (.int .u64 a.toNat)).heap[b0+1]? = _
  have:=bC (bC t1 0 (.slice a7 R'.length cap7)) 1 (.int .u64 a.toNat)
  simpa using this
 have fk:∀ b,b≠b0+1->wF.heap[b]? = Y.heap[b]? := by
  intro b hb
  rw[<-hwF]
  exact (Below.heap_setCell _ ⟨b0+1,1,none⟩ _ b hb).trans (Below.heap_setCell _ ⟨b0+1,0,none⟩ _ b hb)
 have fs:wF.heap.size=Y.heap.size:=by rw[<-hwF];simp
 have fb:Below w.heap.size w wF:=by rw[<-hwF];exact ((bY.setCell (by simp;omega) _).setCell (by simp;omega) _).drew
 have fd:eP wF wF.heap.size (.slice a7 R'.length cap7) R':=by rw[fs];exact dY.past t1 (by simp) fk
 have d0:wF.cell? ⟨b0+1,0,none⟩=some (.slice a7 R'.length cap7):=(aF f1 0).1.trans rfl
 have d1:wF.cell? ⟨b0+1,1,none⟩=some (.int .u64 a.toNat):=(aF f1 1).1.trans rfl
 have HF:=Lib.hid (And.intro fb (And.intro fd (And.intro hds (And.intro hlen hoff))))
 clear hwF dY bY hds hlen hoff t1 hwb f1 fk fs fb fd HY c0 c1 e0 e1 e0f e1f lY lY1
 go_wp2_with fail
 exact bodyPost_ret (v := .tuple #[.agg #[.slice a7 R'.length cap7,.int .u64 a.toNat],.int .u64 a.toNat,.int .i64 0]) (by simp[results,Tryz.results52,go_sem,d0,d1]) rfl ⟨_,R',rfl,HF.out.1,HF.out.2.1,HF.out.2.2.1,HF.out.2.2.2.1,HF.out.2.2.2.2⟩
end Go.Proofs.YtcedmfnlkelhkaaGreatDoor
