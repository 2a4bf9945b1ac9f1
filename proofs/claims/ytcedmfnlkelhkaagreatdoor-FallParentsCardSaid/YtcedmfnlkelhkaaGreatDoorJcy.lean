/- Layer 20's laws: the views, the program's and the document's (Views). -/
import Derived.Test.YtcedmfnlkelhkaaGreatDoorJci
import Derived.Test.YtcedmfnlkelhkaaGreatDoorJcx
import Derived.Test.YtcedmfnlkelhkaaGreatDoorJcs
import Derived.BigRegion
import Derived.Deep.CutBlock
import Derived.Deep.Cut
import Derived.Handy
namespace Go.Proofs.YtcedmfnlkelhkaaGreatDoor
set_option maxRecDepth 100000
open Go.RowKit

def aEV (N:Nat) (vp:Value) (W:World):Prop := ∃ (B s:Nat) (G:SG) (t:UInt64) (p8 b8:UInt8) (own:Rec),aV W B s G/\Short G 100000/\rY (aQ G)/\VwP N s t p8 (dG (aQ G) t p8 b8 257 [] (b8,qO)) own vp W
@[go_sem ↓ high] theorem aID (w:World) (n o:Nat) (v:Value) (lt:UInt64) (k:bZ (dU v lt)=true) (h:w.aN n o 131=true):(bH 46 ⟨n,o,none⟩ (.agg (dU v lt))).run Tryz.prog w = .ok () (w.lay n o (dU v lt)):=eH k (by rw[aBW];exact yX) (by rw[aBW];exact h)
theorem aM7 (v:Value) (hv:∃ a n c,v = .slice a n c) (lt at_:UInt64) (w:World):Gives Tryz.prog 34 #[.agg #[v,.int .u64 (lt.toNat:Int)],.int .u64 (at_.toNat:Int)] w (.tuple #[.agg (dU v lt),.agg (jO at_)]):=by
 obtain ⟨a,n,c,rfl⟩:=hv
 exact aEG lt at_ a n c w
set_option maxHeartbeats 40000000 in
theorem aER (x:aCO) (xs:List (Array Value)) (ls:List (List Wr)) (ow:List Wr) (ns:List N12) (ts:List T10) (w:World) (h:aAt w x xs ls ow ns ts) :
  Calls Tryz.prog 8 #[.agg x.arr] w fun e w'=>Below w.heap.size w w' /\ ∃ vp vd ok,e = .returned (.tuple #[vp,.agg vd,.bool ok])/\vd.size=153/\bZ vd=true/\(ok=true->aEV w.heap.size vp w'):=by
 obtain ⟨rv,ov,pj,br,sn,at_,nv,tv,ms⟩:=x
 obtain ⟨a0,c0,e0, -, -⟩:=h.rows.1.form
 obtain ⟨a1,c1,e1, -, -⟩:=h.own.form
 obtain ⟨a6,c6,e6, -, -⟩:=h.names.form
 obtain ⟨a7,c7,e7, -, -⟩:=h.tags.form
 simp only[List.length_map] at e0 e1 e6 e7
 subst e0 e1 e6 e7
 simp only[aCO.arr]
 have HA:=Lib.hid h
 clear h
 go_enter Tryz.func8,Tryz.ntmps8
 go_upto_region 1 with fail
 refine aP ?_
 intro W0 hW0
 obtain ⟨xb,hxb⟩:∃ xb,xb=w.heap.size:=⟨_,rfl⟩
 have hb0:Below w.heap.size w W0:=by rw[hW0];exact blw
 have hx0:W0.heap[xb]? = some (.cells #[.slice a0 xs.length c0,.slice a1 ow.length c1,.int .i64 pj,.int .i64 br,.bool sn,.int .u64 (at_.toNat:Int),.slice a6 ns.length c6,.slice a7 ts.length c7,.int .i64 ms] 28):=by rw[hW0,hxb];exact (aC _ _ _).trans ((if_neg (by simp)).trans ((aC _ _ _).trans (if_pos rfl)))
 have hx1:W0.heap[xb+1]? = some (.cells Tryz.zeroCells51 51):=by rw[hW0,hxb];exact (aC _ _ _).trans (if_pos (by simp))
 simp only[<-hxb]
 have k0:W0.cell? ⟨xb,0,none⟩=some (.slice a0 xs.length c0):=(aF hx0 0).1.trans rfl
 have lx0:xb<W0.heap.size:=(Array.getElem?_eq_some_iff.1 hx0).1
 have lx1:xb+1<W0.heap.size:=(Array.getElem?_eq_some_iff.1 hx1).1
 have HLAY:=Lib.hid (aGy (.slice a0 xs.length c0) xs ls W0 (HA.out.below hb0).rows)
 have H0:=Lib.hid (And.intro hb0 (And.intro hx0 (And.intro hx1 (Nat.le_of_eq hxb.symm))))
 clear hW0 hb0 hx0 hx1 hxb
 go_wp2_with fail
 refine HLAY.out.mono ?_
 rintro e W1 ⟨hb1,B,s,rb,pb,ib,n,G,v,R,rfl,hB,hn,hL⟩
 obtain ⟨av,cv,hv, -, -⟩:=hL.doc.sl.form
 have hv2:∃ a n c,v=Value.slice a n c:=⟨_,_,_,hv⟩
 have k1:bZ (dU v G.last)=true:=by rw[hv];exact mF _ _ _ _
 have hrl1:=hL.room.lt.1
 have HL:=Lib.hid (And.intro hL (And.intro hb1 hn))
 clear hv hL hb1 hn HLAY k0
 go_upto_region 2 with fail
 refine aP ?_
 intro W2 hW2
 obtain ⟨mb,hmb⟩:∃ mb,mb=W1.heap.size:=⟨_,rfl⟩
 have hb2:Below W1.heap.size W1 W2:=by rw[hW2];exact blw
 have hm2:W2.heap[mb]? = some (.cells (dU v G.last) 46):=by rw[hW2,hmb];exact (aC _ _ _).trans (if_pos rfl)
 simp only[<-hmb]
 have hL2:=HL.out.1.up hb2
 have hb02:Below W0.heap.size W0 W2:=HL.out.2.1.trans (hb2.mono HL.out.2.1.size)
 have r0:W2.cell? ⟨rb,0,none⟩=some (.pointer (some ⟨s,0,none⟩)):=(aF hL2.room.room 0).1.trans rfl
 have hx2:=(hb02.block xb lx0).trans H0.out.2.1
 have hx12:=(hb02.block _ lx1).trans H0.out.2.2.1
 have x2:W2.cell? ⟨xb,2,none⟩=some (.int .i64 pj):=(aF hx2 2).1.trans rfl
 have x3:W2.cell? ⟨xb,3,none⟩=some (.int .i64 br):=(aF hx2 3).1.trans rfl
 have x4:W2.cell? ⟨xb,4,none⟩=some (.bool sn):=(aF hx2 4).1.trans rfl
 have x5:W2.cell? ⟨xb,5,none⟩=some (.int .u64 (at_.toNat:Int)):=(aF hx2 5).1.trans rfl
 have lr2:rb<W2.heap.size:=hL2.room.lt.1
 have lx2:xb<W2.heap.size:=by have:=hb02.size;omega
 have hsh:Short G 100000:=fun k=>Nat.le_trans (hL2.fine.inv.short k) (by have:=HL.out.2.2;omega)
 have HLA:=Lib.hid (fun (V:World) (hb:Below W2.heap.size W2 V)=>aEF (hL2.store.keep hb))
 obtain ⟨T,hT⟩:∃ T:UInt64,T=if sn=true then at_ else G.last:=⟨_,rfl⟩
 have HT:=Lib.hid hT
 have HW2:=Lib.hid (And.intro hL2 (And.intro hb02 (And.intro hm2 (And.intro hx12 (And.intro hsh hv2)))))
 have lm2:mb<W2.heap.size:=lt_of_heap hm2
 clear hW2 hmb hb2 hL2 hb02 hx2 hx12 hm2 hsh hT k1 hrl1 lx0 lx1 HL hv2
 go_wp2_with fail
 refine Gives.use (HLA.out _ (Below.refl _ _)) ?_
 intro ys d
 go_upto_if 27 with fail
 go_cut [8] (fun s8 wx=>s8 = .int .u64 (T.toNat:Int)/\Hid (Below W2.heap.size W2 wx))
 case first =>
  have hTT:=HT.out
  clear HA H0 HLA HW2 HT
  cases sn with
  | true =>
   rw[if_pos rfl] at hTT
   subst hTT
   go_wp2_with fail
   go_meet
   exact ⟨rfl,Lib.hid blw⟩
  | false =>
   rw[if_neg (by decide)] at hTT
   rw[<-hTT]
   go_wp2_with fail
   go_meet
   exact ⟨rfl,Lib.hid blw⟩
 obtain ⟨rfl,hbY⟩:=hcut
 generalize wc=Y at *
 obtain ⟨hL2,hb02,hm2,hx12,hsh,hv2⟩:=HW2.out
 have hm:=(hbY.out.block _ lm2).trans hm2
 have m0:Y.cell? ⟨mb,0,none⟩=some v:=(aF hm 0).1.trans (yM _ _).1
 have m1:Y.cell? ⟨mb,1,none⟩=some (.int .u64 (G.last.toNat:Int)):=(aF hm 1).1.trans (yM _ _).2
 have k1:bZ (dU v G.last)=true:=by
  obtain ⟨a,m,c,rfl⟩:=hv2
  exact mF _ _ _ _
 have tm:Y.aN mb 0 131=true:=by simp[World.aN,hm]
 have HSN:=Lib.hid (fun V=>aM7 v hv2 G.last T V)
 have hYs:=hbY.out.size
 have lmY:mb<Y.heap.size:=lt_of_heap hm
 have HMY:=Lib.hid hm
 clear hL2 hb02 hm2 hx12 hsh hv2 hm HT HLA x4 x5
 go_wp2_with fail
 refine Gives.use (HSN.out _) ?_
 intro zs d2
 obtain ⟨V,hV⟩:∃ V,V=(Y.grow zs d2).alloc (.cells (jO 0) 36):=⟨_,rfl⟩
 have hbV:Below Y.heap.size Y V:=by rw[hV];exact blw
 have hmV:=(hbV.block _ lmY).trans HMY.out
 have htV:V.heap[Y.heap.size+zs.size]? = some (.cells (jO 0) 36):=by rw[hV];exact (aC _ _ _).trans (if_pos (by simp))
 have tm2:((Y.grow zs d2).alloc (.cells (jO 0) 36)).aN mb 0 131=true:=by rw[<-hV];simp[World.aN,hmV]
 have hne:mb≠Y.heap.size+zs.size:=by omega
 have htL:(V.lay mb 0 (dU v G.last)).heap[Y.heap.size+zs.size]? = some (.cells (jO 0) 36):=(aY (by omega)).trans htV
 have tm3:(((Y.grow zs d2).alloc (.cells (jO 0) 36)).lay mb 0 (dU v G.last)).aN (Y.heap.size+zs.size) 0 11=true:=by rw[<-hV];simp[World.aN,htL]
 have HVV:=Lib.hid (And.intro hV (And.intro hbV (And.intro hmV (And.intro htL hne))))
 clear hV hbV hmV htV hne htL
 go_upto_region 6 with fail
 refine aP ?_
 intro Z hZ
 obtain ⟨hL2,hb02,hm2,hx12,hsh,hv2⟩:=HW2.out
 obtain ⟨tb,htb⟩:∃ tb,tb=Y.heap.size+zs.size:=⟨_,rfl⟩
 have hmy:=HMY.out
 have hlay:∀ c:Nat,(Y.lay mb 0 (dU v G.last)).heap[c]? = Y.heap[c]? := fun c=>by
  by_cases hc:c=mb
  ·rw[hc]
   exact (gG hmy (by simp) (by simp:(dU v G.last).size=131)).trans hmy.symm
  exact aY hc
 have hls:(Y.lay mb 0 (dU v G.last)).heap.size=Y.heap.size:=lay_size _ _ _
 have hbZ:Below Y.heap.size Y Z:=by
  have h1:Below Y.heap.size (Y.lay mb 0 (dU v G.last)) Z:=by
   rw[hZ]
   exact ((Below.refl _ _).grow (by omega) zs d2).alloc (by simp) _
  exact ⟨h1.os,h1.tape,h1.output,by have:=h1.size;omega,fun c hc=>(h1.block c hc).trans (hlay c)⟩
 have ht:Z.heap[tb]? = some (.cells (jO T) 36):=by rw[hZ,htb];exact (aC _ _ _).trans (if_pos (by simp))
 simp only[<-htb]
 have hb2Z:Below W2.heap.size W2 Z:=hbY.out.trans (hbZ.mono hYs)
 have z0:Z.cell? ⟨rb,0,none⟩=some (.pointer (some ⟨s,0,none⟩)):=(hb2Z.cell (p:=⟨rb,0,none⟩) lr2).trans r0
 have z2:Z.cell? ⟨xb,2,none⟩=some (.int .i64 pj):=(hb2Z.cell (p:=⟨xb,2,none⟩) lx2).trans x2
 have z3:Z.cell? ⟨xb,3,none⟩=some (.int .i64 br):=(hb2Z.cell (p:=⟨xb,3,none⟩) lx2).trans x3
 have hZs:=hb2Z.size
 have lrZ:rb<Z.heap.size:=by omega
 have lxZ:xb<Z.heap.size:=by omega
 have hmZ:=(hb2Z.block _ lm2).trans hm2
 have hstZ:=hL2.store.keep hb2Z
 have hany:=aGH hstZ hsh T pj br Z.heap.size (Nat.le_refl _)
 have HANY:=Lib.hid hany
 have HD:=Lib.hid (fun (V:World) (hb:Below Z.heap.size Z V)=>aDx R v G.last T pj br V (hL2.doc.up (hb2Z.trans (hb.mono hZs))))
 have HZ:=Lib.hid (And.intro hb2Z (And.intro hmZ (And.intro ht (And.intro ((hb2Z.block _ (lt_of_heap hx12)).trans hx12) (And.intro hstZ (And.intro hsh (And.intro hL2.good hv2)))))))
 have HX1:=Lib.hid (Nat.lt_of_lt_of_le (lt_of_heap hx12) hb2Z.size)
 have HBW:=Lib.hid ((H0.out.1.trans (hb02.mono H0.out.1.size)).trans (hb2Z.mono (by have:=H0.out.1.size;have:=hb02.size;omega)))
 clear hZ hL2 hb02 hm2 hx12 hsh hv2 htb hmy hlay hls hbZ ht hb2Z hZs hmZ hstZ hany hYs HVV HMY tm2 tm3 m0 m1 tm lmY HSN hbY r0 x2 x3 lr2 lx2 lm2
 go_cut [10,11] (fun s10 s11 wx=>Hid (Below Z.heap.size Z wx)/\Hid ((∃ er:Int,er≠0/\s11 = .int .i64 er/\s10 = .pointer none)\/(s11 = .int .i64 0 /\ ∃ (p8 b8:UInt8) (own:Rec),VwP Z.heap.size s T p8 (dG (aQ G) T p8 b8 257 [] (b8,qO)) own s10 wx)))
 case first =>
  rcases HANY.out with ⟨er,her,hof⟩ | ⟨p8,b8, -, -, -, -, -,hof⟩
  ·have HOF:=Lib.hid hof
   have HER:=Lib.hid her
   clear hof her HANY HZ HA H0 HD HBW k1
   go_wp2_with fail
   apply aG (by rfl) [.val _,.val _,.val _,.val _,.val _,.val _,.val _,.val _,.val _,.val _,.val _,.val _,.val _,.val _,.pure _] 15 (by rfl) [38,39,40,41,42,43,44,45,46,47,48,49,37,50,51] [] [14] (by rfl) (by rfl) (by decide) (by decide +kernel) (fun _ _ _ _ _ h=>h)
   case hF=>exact zh
   case hops =>
    refine ⟨?o0,?o1,?o2,?o3,?o4,?o5,?o6,?o7,?o8,?o9,?o10,?o11,?o12,?o13,?o14,trivial⟩
    case o0=>exact oz0
    case o1=>exact oz1 0 38
    case o2=>exact oz1 1 39
    case o3=>exact oz1 2 40
    case o4=>exact oz0
    case o5=>exact oz2 3 41 4 42
    case o6=>exact oz1 5 43
    case o7=>exact oz0
    case o8=>exact oz1 7 45
    case o9=>exact oz0
    case o10=>exact oz1 9 47
    case o11 =>
     intro x w1 hH K hK
     have e44:x 44=_:=hH.g 6 44
     have e46:x 46=_:=hH.g 8 46
     have e48:x 48=_:=hH.g 10 48
     obtain ⟨xs,d,rfl⟩:=aA hH.below
     clear hH
     try simp only[World.aB] at hK |-
     try simp only[World.grow_grow] at hK |-
     simp only[e44,e46,e48] at hK |-
     clear e44 e46 e48
     go_simp
     refine Gives.use (HOF.out _ blw) ?_
     intro ys e
     go_wp2_with fail
     exact zu
    case o12=>exact oz1 11 49
    case o13=>exact oz1 12 37
    case o14 =>
     intro x w1 hH
     have e37:x 37=_:=hH.g 12 37
     clear hH
     simp only[e37]
     exact Or.inl ⟨rfl,fun _=>rfl⟩
   intro x w1 hH
   have e38:=hH.e 0 38;have e39:=hH.e 1 39;have e40:=hH.e 2 40;have e41:=hH.e 3 41;have e42:=hH.e 4 42;have e43:=hH.e 5 43;have e44:=hH.e 6 44;have e45:=hH.e 7 45;have e46:=hH.e 8 46;have e47:=hH.e 9 47;have e48:=hH.e 10 48;have e49:=hH.e 11 49;have e37:=hH.e 12 37;have e50:=hH.e 13 50;have e51:=hH.e 14 51
   obtain ⟨xs,d,rfl⟩:=aA hH.below
   simp only[e38,e39,e40,e41,e42,e43,e44,e45,e46,e47,e48,e49,e37,e50,e51];clear hH e38 e39 e40 e41 e42 e43 e44 e45 e46 e47 e48 e49 e37 e50 e51
   simp only[List.drop_succ_cons,List.drop_zero]
   go_wp2_with fail
   go_meet
   exact ⟨Lib.hid blw,Lib.hid (.inl ⟨er,HER.out,rfl,rfl⟩)⟩
  obtain ⟨P,hP⟩:∃ P,P=dG (aQ G) T p8 b8 257 [] (b8,qO):=⟨_,rfl⟩
  obtain ⟨own,hown⟩:∃ own,own=(atV (aQ G (jH 4 p8 b8)) T).1:=⟨_,rfl⟩
  obtain ⟨N2,hN2⟩:∃ N2,N2=Z.heap.size:=⟨_,rfl⟩
  simp only[<-hP,<-hown] at hof
  rw[<-hN2] at hof
  have HOF:=Lib.hid (show ∀ V,Below Z.heap.size Z V->_ from by rw[<-hN2];exact hof)
  have HPP:=Lib.hid (And.intro hP hN2)
  clear hof HANY HZ HA H0 HD HBW k1 hP hown hN2
  go_wp2_with fail
  apply aG (by rfl) [.val _,.val _,.val _,.val _,.val _,.val _,.val _,.val _,.val _,.val _,.val _,.rel (VwT N2 s T p8 P own),.rel (VwT N2 s T p8 P own),.rel (VwP N2 s T p8 P own),.pure (.int .i64 0)] 15 (by rfl) [38,39,40,41,42,43,44,45,46,47,48,49,37,50,51] [] [14] (by rfl) (by rfl) (by decide) (by decide +kernel) (fun _ _ _ _ _ h=>h)
  case hF=>exact zh
  case hops =>
   refine ⟨?o0,?o1,?o2,?o3,?o4,?o5,?o6,?o7,?o8,?o9,?o10,?o11,?o12,?o13,?o14,trivial⟩
   case o0=>exact oz0
   case o1=>exact oz1 0 38
   case o2=>exact oz1 1 39
   case o3=>exact oz1 2 40
   case o4=>exact oz0
   case o5=>exact oz2 3 41 4 42
   case o6=>exact oz1 5 43
   case o7=>exact oz0
   case o8=>exact oz1 7 45
   case o9=>exact oz0
   case o10=>exact oz1 9 47
   case o11 =>
    intro x w1 hH K hK
    have e44:x 44=_:=hH.g 6 44
    have e46:x 46=_:=hH.g 8 46
    have e48:x 48=_:=hH.g 10 48
    obtain ⟨xs,d,rfl⟩:=aA hH.below
    clear hH
    try simp only[World.aB] at hK |-
    try simp only[World.grow_grow] at hK |-
    simp only[e44,e46,e48] at hK |-
    clear e44 e46 e48
    go_simp
    go_wp2_with fail
    refine (HOF.out _ blw).mono ?_
    rintro r w3 ⟨hb3,u,rfl,hs3⟩
    go_wp2_with fail
    exact ⟨_,rfl,fun w4 h4=>VwT.keep hs3 h4,hb3,fun h=>by cases h⟩
   case o12 =>
    intro x w1 hH K hK
    have r49:=hH.holds 11 (by decide) (by decide +kernel) 49 rfl (_) (Below.refl _ _)
    obtain ⟨xs,d,rfl⟩:=aA hH.below
    clear hH
    try simp only[World.aB] at hK r49 |-
    try simp only[World.grow_grow] at hK r49 |-
    obtain ⟨vb,lv,e49,hs3⟩:=r49
    simp only[e49] at hK |-
    go_simp
    go_wp2_with fail
    exact ⟨_,rfl,fun w4 h4=>VwT.keep ⟨vb,lv,rfl,hs3⟩ h4,Below.refl _ _,fun h=>by cases h⟩
   case o13 =>
    intro x w1 hH K hK
    have r37:=hH.holds 12 (by decide) (by decide +kernel) 37 rfl (_) (Below.refl _ _)
    obtain ⟨xs,d,rfl⟩:=aA hH.below
    clear hH
    try simp only[World.aB] at hK r37 |-
    try simp only[World.grow_grow] at hK r37 |-
    obtain ⟨vb,lv,e37,hs3⟩:=r37
    simp only[e37] at hK |-
    go_simp
    go_wp2_with fail
    exact ⟨_,rfl,fun w4 h4=>VwP.keep ⟨vb,lv,rfl,hs3⟩ h4,Below.refl _ _,fun h=>by cases h⟩
   case o14 =>
    intro x w1 hH
    have r37:=hH.holds 12 (by decide) (by decide +kernel) 37 rfl (_) (Below.refl _ _)
    clear hH
    refine Or.inl ⟨rfl,fun w' => ?_⟩
    obtain ⟨vb,lv,e37, -⟩:=r37
    simp only[e37]
    go_simp
  intro x w1 hH
  have r49:=hH.holds 11 (by decide) trivial 49 rfl (_) (Below.refl _ _)
  have r37:=hH.holds 12 (by decide) trivial 37 rfl (_) (Below.refl _ _)
  have r50:=hH.holds 13 (by decide) trivial 50 rfl (_) (Below.refl _ _)
  have e38:=hH.e 0 38;have e39:=hH.e 1 39;have e40:=hH.e 2 40;have e41:=hH.e 3 41;have e42:=hH.e 4 42;have e43:=hH.e 5 43;have e44:=hH.e 6 44;have e45:=hH.e 7 45;have e46:=hH.e 8 46;have e47:=hH.e 9 47;have e48:=hH.e 10 48;have e51:=hH.e 14 51
  obtain ⟨xs,d,rfl⟩:=aA hH.below
  simp only[e38,e39,e40,e41,e42,e43,e44,e45,e46,e47,e48,e51];clear hH e38 e39 e40 e41 e42 e43 e44 e45 e46 e47 e48 e51
  simp only[List.drop_succ_cons,List.drop_zero]
  go_wp2_with fail
  go_meet
  exact ⟨Lib.hid blw,Lib.hid (.inr ⟨rfl,p8,b8,own,by rw[<-HPP.out.1,<-HPP.out.2];exact r50⟩)⟩
 obtain ⟨HB3,HC⟩:=hcut
 generalize wc=X at *
 obtain ⟨hb2Z,hmZ,ht,hx1,hstZ,hsh,hgd,hv2⟩:=HZ.out
 have hXs:=HB3.out.size
 have y2:X.cell? ⟨xb,2,none⟩=some (.int .i64 pj):=(HB3.out.cell (p:=⟨xb,2,none⟩) lxZ).trans z2
 have y3:X.cell? ⟨xb,3,none⟩=some (.int .i64 br):=(HB3.out.cell (p:=⟨xb,3,none⟩) lxZ).trans z3
 have hmX:=(HB3.out.block _ (lt_of_heap hmZ)).trans hmZ
 have htX:=(HB3.out.block _ (lt_of_heap ht)).trans ht
 have hxX:=(HB3.out.block _ (lt_of_heap hx1)).trans hx1
 have cM:X.aW mb 0 131=some (dU v G.last):=aI hmX (by simp)
 have cT:X.aW tb 0 11=some (jO T):=aI htX rfl
 have lm:=lt_of_heap hmX
 have lt':=lt_of_heap htX
 have lx:xb<X.heap.size:=by omega
 have HDX:=Lib.hid (HD.out X HB3.out)
 have HXX:=Lib.hid (And.intro hxX (And.intro (hstZ.keep HB3.out) (And.intro hsh (And.intro hgd (HBW.out.trans (HB3.out.mono HBW.out.size))))))
 have hwZ:=HBW.out.size
 clear hb2Z hmZ ht hx1 hstZ hsh hgd hv2 hXs hmX htX hxX HD HZ HANY z0 z2 z3 lrZ lxZ k1 HB3
 go_wp2_with fail
 refine HDX.out.mono ?_
 rintro e X2 ⟨hb4,vv,er2,rfl,hvs,hvo⟩
 go_upto_region 8 with fail
 refine aP ?_
 intro U hU
 obtain ⟨wb,hwb⟩:∃ wb,wb=X2.heap.size:=⟨_,rfl⟩
 have hbU:Below X2.heap.size X2 U:=by rw[hU];exact blw
 have hwU:U.heap[wb]? = some (.cells vv 51):=by rw[hU,hwb];exact (aC _ _ _).trans (if_pos rfl)
 simp only[<-hwb]
 have hbXU:Below X.heap.size X U:=hb4.trans (hbU.mono hb4.size)
 have cW:U.aW wb 0 153=some vv:=aI hwU hvs
 have lw:=lt_of_heap hwU
 have hxU:=(hbXU.block _ (lt_of_heap HXX.out.1)).trans HXX.out.1
 have tx:U.drew.aN (xb+1) 0 vv.size=true:=by
  show U.aN (xb+1) 0 vv.size=true
  simp[World.aN,hxU,hvs,fH]
 have hh:(bH 51 ⟨xb+1,0,none⟩ (.agg vv)).run Tryz.prog U.drew = .ok () (U.lay (xb+1) 0 vv).drew:=eH (w:=U.drew) hvo (by rw[fZ,hvs]) tx
 have HFN:=Lib.hid (show (U.lay (xb+1) 0 vv).drew.aW (xb+1) 0 153=some vv/\Below w.heap.size w (U.lay (xb+1) 0 vv).drew from
  ⟨aI (w:=(U.lay (xb+1) 0 vv).drew) (gG hxU fH hvs) hvs,((HXX.out.2.2.2.2.trans (hbXU.mono HXX.out.2.2.2.2.size)).lay (by have:=H0.out.2.2.2;omega)).drew⟩)
 have HVW:=Lib.hid (And.intro hbXU hxU)
 clear hU hwb hbU hwU hbXU hxU tx y2 y3 cM cT lm lt' HDX hb4
 rcases HC.out with ⟨er,her,rfl,rfl⟩ | ⟨rfl,p8,b8,own,vb,lv,rfl,hvb,hlv,hva⟩
 ·have hne:(er == 0)=false:=beq_eq_false_iff_ne.2 her
  clear HC her
  go_region
  all_goals
   go_wp2_with fail
  all_goals
   exact bodyPost_ret (v := .tuple #[.pointer none,.agg vv,.bool false]) (bK Tryz.results8 (by simp[aO]) (aO.row rfl fZ HFN.out.1) (by simp[aO])) rfl ⟨HFN.out.2,_,_,_,rfl,hvs,hvo,fun h=>by cases h⟩
 by_cases he2:er2=0
 ·subst he2
  have HOK:=Lib.hid (show aEV w.heap.size (.pointer (some ⟨vb,0,none⟩)) (U.lay (xb+1) 0 vv).drew from by
   have hlx:=lt_of_heap H0.out.2.2.1
   have hw0:=H0.out.1.size
   have hk:∀ c,c≠xb+1->(U.lay (xb+1) 0 vv).drew.heap[c]? = U.heap[c]? := fun c hc=>aY (w:=U) hc
   have hs:(U.lay (xb+1) 0 vv).drew.heap.size=U.heap.size:=lay_size _ _ _
   have hstU:=HXX.out.2.1.keep HVW.out.1
   have hvaU:=hva.up HVW.out.1
   have hzx:xb+1<Z.heap.size:=HX1.out
   refine ⟨B,s,G,T,p8,b8,own,hstU.zM (fun b hb=>hk b (by have:=hstU.low b hb;omega)) (by omega),HXX.out.2.2.1,HXX.out.2.2.2.1,vb,lv,rfl,by omega,hlv.mono (by omega),?_⟩
   exact ⟨(hk vb (by omega)).trans hvaU.cells,hvaU.sl.aD6 hlv (by omega) hk (by omega)⟩)
  clear HC hva hvb hlv
  go_region
  all_goals
   go_wp2_with fail
  all_goals
   exact bodyPost_ret (v := .tuple #[.pointer (some ⟨vb,0,none⟩),.agg vv,.bool true]) (bK Tryz.results8 (by simp[aO]) (aO.row rfl fZ HFN.out.1) (by simp[aO])) rfl ⟨HFN.out.2,_,_,_,rfl,hvs,hvo,fun _=>HOK.out⟩
 have hne:(er2 == 0)=false:=beq_eq_false_iff_ne.2 he2
 clear HC he2 hva hvb hlv
 go_region
 all_goals
  go_wp2_with fail
 all_goals
  exact bodyPost_ret (v := .tuple #[.pointer (some ⟨vb,0,none⟩),.agg vv,.bool false]) (bK Tryz.results8 (by simp[aO]) (aO.row rfl fZ HFN.out.1) (by simp[aO])) rfl ⟨HFN.out.2,_,_,_,rfl,hvs,hvo,fun h=>by cases h⟩
end Go.Proofs.YtcedmfnlkelhkaaGreatDoor
