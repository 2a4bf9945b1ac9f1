/- Layer 14's document: may writes be published? -/
import Derived.Test.YtcedmfnlkelhkaaGreatDoorJbu
import Derived.BigRegion
import Derived.Deep.CutBlock
import Derived.Deep.Cut
import Derived.Handy
namespace Go.Proofs.YtcedmfnlkelhkaaGreatDoor
set_option maxRecDepth 100000
open Go.RowKit

@[go_sem ↓ high] theorem aKw (w:World):(Instr.build 49 #[]).run Tryz.prog w = .ok (.agg (dS Rec.zero)) w:=by kernel_rfl
def aII (l:List Wr) (i:Nat) (seen:List K25):Prop := ∀ k,k∈seen ↔ ∃ j:Nat,∃ h:j<l.length,j<i/\(l[j]).k=k
theorem aII.next {l:List Wr} {i:Nat} {seen:List K25} (h:aII l i seen) (hi:i<l.length):aII l (i+1) ((l[i]).k :: seen):=by
 intro k
 rw[List.mem_cons,h k]
 constructor
 ·rintro (rfl | ⟨j,hj,hji,rfl⟩)
  ·exact ⟨i,hi,by omega,rfl⟩
  exact ⟨j,hj,by omega,rfl⟩
 rintro ⟨j,hj,hji,rfl⟩
 by_cases e:j=i
 ·subst e;exact .inl rfl
 exact .inr ⟨j,hj,by omega,rfl⟩
set_option maxHeartbeats 20000000 in
theorem pV (dv:Value) (l:List Wr) (w:World) (hl:SlA w w.heap.size 35 dv (l.map kC)):Gives Tryz.prog 85 #[dv] w (.int .i64 (eY l)):=by
 obtain ⟨a,cap,rfl,hcap,hmx⟩:=hl.form
 rw[List.length_map] at *
 have HL:=Lib.hid hl
 clear hl
 by_cases h0:l.length=0
 ·have he:eY l=1:=by unfold eY;rw[if_pos h0]
  rw[he,h0]
  clear he h0 HL hcap
  unfold Gives
  go_enter Tryz.func85,Tryz.ntmps85
  go_wp2_with fail
  go_ret
  exact ⟨rfl,blw⟩
 by_cases h16:16<l.length
 ·have he:eY l=2:=by unfold eY;rw[if_neg h0,if_pos h16]
  rw[he]
  have h16':(16:Int)<l.length:=by omega
  have h0':((l.length:Int) == 0)=false:=by rw[beq_eq_false_iff_ne];omega
  clear he HL hcap h0 h16
  generalize l.length=n at *
  unfold Gives
  go_enter Tryz.func85,Tryz.ntmps85
  go_wp2_with fail
  go_ret
  exact ⟨rfl,blw⟩
 have he:eY l=aBB [] l:=by unfold eY;rw[if_neg h0,if_neg h16]
 rw[he]
 clear he
 have h16':¬ (16:Int)<l.length:=by omega
 have h0':((l.length:Int) == 0)=false:=by rw[beq_eq_false_iff_ne];omega
 obtain ⟨q,hq⟩:∃ q,q=aBB [] l:=⟨_,rfl⟩
 rw[<-hq]
 have HQ:=Lib.hid hq
 clear hq
 unfold Gives
 go_enter Tryz.func85,Tryz.ntmps85
 go_wp2_with fail
 go_loopw [3] (fun s3 wr => ∃ (i:Nat) (seen:List K25),i<=l.length/\s3 = .int .i64 i/\Hid (Below w.heap.size w wr)/\Hid (aII l i seen/\aBB [] l=aBB seen (l.drop i))) (fun s3 _=>l.length - (intOf s3).toNat)
 case atStart=>exact ⟨0, [],Nat.zero_le _,rfl,Lib.hid blw,Lib.hid ⟨fun k=>by simp,rfl⟩⟩
 obtain ⟨i,seen,hi,rfl,HB,HST⟩:=hrel
 by_cases hlt:i<l.length
 ·have hltI:(i:Int)<l.length:=by omega
  obtain ⟨_,a',cap',he,_,_,hc⟩:=HL.out.below HB.out
  simp only[Value.slice.injEq,List.length_map,true_and] at he
  obtain ⟨rfl,rfl⟩:=he
  obtain ⟨g,q0,rfl,hlb,hcut⟩:=hc (by simp;omega)
  have hcutk:=hcut i (kC l[i]) (by simp[hlt])
  have HCUT:=Lib.hid hcut
  have hsz:=HB.out.size
  have hgr:g<wr.heap.size:=by omega
  have hdrop:l.drop i=l[i] :: l.drop (i+1):=List.drop_eq_getElem_cons hlt
  have hst:=HST.out
  rw[hdrop] at hst
  have hsn:=hst.1.next hlt
  obtain ⟨x,hx⟩:∃ x,x=l[i]:=⟨_,rfl⟩
  rw[<-hx] at hst hcutk hsn
  have hch:aBB [] l=if bW x=0 then (if x.k∈seen then 8 else aBB (x.k :: seen) (l.drop (i+1))) else bW x:=hst.2
  have HCH:=Lib.hid hch
  have HSD:=Lib.hid hst.1
  have HSN:=Lib.hid hsn
  have HR:=Lib.hid (aAh x.k.val x.k.len)
  have HC:=Lib.hid (pU x.r)
  have HX:=Lib.hid hx
  clear hcut hc hst hch hdrop HST hsn hx
  go_upto_region 9 with fail
  refine aP ?_
  intro W hW
  obtain ⟨p,hp⟩:∃ p,p=wr.heap.size:=⟨_,rfl⟩
  have hbW:Below wr.heap.size wr W:=by rw[hW];exact blw
  have hhp:W.heap[p]? = some (.cells (kC x) 161):=by rw[hW,hp,aC,if_pos rfl]
  have lp:p<W.heap.size:=(Array.getElem?_eq_some_iff.1 hhp).1
  have ck:W.aW p 0 25=some (iR x.k.val):=by
   have:=iC (i:=0) (m:=25) (aI hhp (vJ x)) (by decide)
   rw[Nat.add_zero,yQ] at this;exact this
  have cr:W.aW p 26 9=some (dS x.r):=by
   have:=iC (i:=26) (m:=9) (aI hhp (vJ x)) (by decide)
   rw[Nat.zero_add,aCK] at this;exact this
  have cd:W.cell? ⟨p,25,none⟩=some (.bool x.dead):=(sG hhp 25).1.trans (aCJ x)
  have c0:W.cell? ⟨p,0,none⟩=some (.int .i64 ((byt x.k.val 0).toNat:Int)):=((dF ck).2 0 (by decide)).trans (by rw[kX];rfl)
  have c26:W.cell? ⟨p,26,none⟩=some (.int .i64 (x.r.kind.toNat:Int)):=((dF cr).2 0 (by decide)).trans (aHU x.r)
  simp only[<-hp]
  have HBW:=Lib.hid (And.intro hbW hp)
  clear hW hhp hbW hp
  by_cases hr:bW x=0
  ·have hk:kT x.k.val=true:=by
    unfold bW at hr
    split at hr
    ·assumption
    exact absurd hr (by decide)
   rw[hk] at HR
   have hnx:aBB [] l=if x.k∈seen then 8 else aBB (x.k :: seen) (l.drop (i+1)):=by rw[HCH.out,if_pos hr]
   have HNX:=Lib.hid hnx
   have hdz:(x.dead=true/\decide (x.r=Rec.zero)=true)\/(x.dead=false/\mW x.r=0/\x.r.kind.toNat=(byt x.k.val 0).toNat):=by
    unfold bW at hr
    rw[if_pos hk] at hr
    cases hd:x.dead with
    | true =>
     rw[hd,if_pos rfl] at hr
     refine .inl ⟨rfl,?_⟩
     split at hr
     ·rename_i hz;exact decide_eq_true hz
     exact absurd hr (by decide)
    | false =>
     rw[hd,if_neg (by decide)] at hr
     refine .inr ⟨rfl,?_⟩
     split at hr
     ·rename_i hz
      refine ⟨hz,?_⟩
      split at hr
      ·assumption
      exact absurd hr (by decide)
     rename_i hz;exact absurd hr hz
   have HDZ:=Lib.hid hdz
   clear hr hk hnx hdz HCH
   go_cut [36] (fun v wx=>v = .bool false /\ ∃ xs d,wx=W.grow xs d)
   case first =>
    rcases HDZ.out with ⟨hd,hz⟩ | ⟨hd,_,_⟩
    ·rw[hd] at cd
     have HD:=Lib.hid hd
     clear hd
     go_wp2_with fail
     refine Gives.use (HR.out _) ?_
     intro xs d
     go_wp2_with fail
     go_meet
     exact ⟨rfl,_,_,rfl⟩
    rw[hd] at cd
    have HD:=Lib.hid hd
    clear hd
    go_wp2_with fail
    refine Gives.use (HR.out _) ?_
    intro xs d
    go_wp2_with fail
    go_meet
    exact ⟨rfl,_,_,rfl⟩
   obtain ⟨rfl,xs,d,rfl⟩:=hcut
   clear HR
   go_upto_if 39 with fail
   go_cut [] (fun wx => ∃ xs d,wx=W.grow xs d)
   case first =>
    rcases HDZ.out with ⟨hd,hz⟩ | ⟨hd,hre,hke⟩
    ·rw[hd] at cd |-
     have HD:=Lib.hid (And.intro hd hz)
     clear hd hz
     go_wp2_with fail
     go_meet
     exact ⟨_,_,rfl⟩
    rw[hd] at cd |-
    rw[hre] at HC
    have hkeI:((x.r.kind.toNat:Int) != ((byt x.k.val 0).toNat:Int))=false:=by rw[hke];simp
    have HD:=Lib.hid (And.intro hd (And.intro hre hke))
    clear hd hre hke
    go_wp2_with fail
    refine Gives.use (HC.out _) ?_
    intro ys e
    go_wp2_with fail
    go_meet
    exact ⟨_,_,rfl⟩
   obtain ⟨ys,e,rfl⟩:=hcut
   obtain ⟨W2,hW2⟩:∃ W2,W2=W.grow ys e:=⟨_,rfl⟩
   rw[<-hW2]
   have hb2:Below W.heap.size W W2:=by rw[hW2];exact aS _ _
   have hbw2:Below wr.heap.size wr W2:=HBW.out.1.trans (hb2.mono HBW.out.1.size)
   have ck2:W2.aW p 0 25=some (iR x.k.val):=(aK (hb2.block p lp) _ _).trans ck
   have lp2:p<W2.heap.size:=Nat.lt_of_lt_of_le lp hb2.size
   have hcut2:∀ (j:Nat) (hj:j<l.length),W2.aW g (q0+j * 35) 25=some (iR (l[j]).k.val):=by
    intro j hj
    have h1:=HCUT.out j (kC l[j]) (by simp[hj])
    have h2:=iC (i:=0) (m:=25) h1 (by decide)
    rw[Nat.add_zero,yQ] at h2
    rw[aK (hbw2.block g hgr)];exact h2
   have hg2:g<W2.heap.size:=Nat.lt_of_lt_of_le hgr hbw2.size
   have HC2:=Lib.hid hcut2
   have HB2:=Lib.hid (HB.out.trans (hbw2.mono hsz))
   clear hW2 hb2 hbw2 hcut2 HC HDZ ck cr cd c0 c26 hcutk HBW
   go_wp2_with fail
   go_loopw [6] (fun s6 wy => ∃ (k d:Nat),k<=i/\s6 = .int .i64 k/\Hid (∀ j,∀ h:j<l.length,j<k->(l[j]).k≠x.k)/\wy=W2.drewN d) (fun s6 _=>i - (intOf s6).toNat)
   case atStart=>exact ⟨0,0,Nat.zero_le _,rfl,Lib.hid (fun j _ hj=>absurd hj (Nat.not_lt_zero _)),rfl⟩
   obtain ⟨k,d2,hki,rfl,HNO,rfl⟩:=hrel
   by_cases hk:k<i
   ·have hkI:(k:Int)<i:=by omega
    have hkl:k<l.length:=by omega
    have hklI:(k:Int)<l.length:=by omega
    have hck:=HC2.out k hkl
    obtain ⟨y,hy⟩:∃ y,y=l[k]:=⟨_,rfl⟩
    rw[<-hy] at hck
    have HY:=Lib.hid hy
    clear hy
    have hyl:=y.k.len
    have hxl:=x.k.len
    by_cases he:y.k=x.k
    ·have hde:(y.k.val == x.k.val)=true:=by rw[he];simp
     have hq8:q=8:=by
      rw[HQ.out,HNX.out,if_pos ((HSD.out x.k).2 ⟨k,hkl,hk,by rw[<-HY.out];exact he⟩)]
     have HQ8:=Lib.hid hq8
     clear he hq8
     go_wp2_with fail
     go_quiet (fail)
     go_wp2_with fail
     go_ret
     exact ⟨dQ HQ8.out.symm,(HB2.out.drewN _).drewN _⟩
    have hde:(y.k.val == x.k.val)=false:=by rw[beq_eq_false_iff_ne];exact fun h=>he (Subtype.ext h)
    have HN2:=Lib.hid (show ∀ j,∀ h:j<l.length,j<k+1->(l[j]).k≠x.k from fun j h hj=>by
     by_cases e:j=k
     ·subst e;rw[<-HY.out];exact he
     exact HNO.out j h (by omega))
    clear he
    go_wp2_with fail
    go_quiet (fail)
    go_wp2_with fail
    go_roundw
    case rel=>exact ⟨k+1,_,by omega,by go_num,HN2,rfl⟩
    simp[intOf];omega
   have hke:k=i:=by omega
   subst hke
   have hkI:¬ (k:Int)<k:=by omega
   have hns:x.k∉seen:=fun hm=>by
    obtain ⟨j,hj,hji,e⟩:=(HSD.out x.k).1 hm
    exact HNO.out j hj hji e
   have HF:=Lib.hid (And.intro HSN.out ((HNX.out.trans (if_neg hns))))
   clear hns hk
   go_wp2_with fail
   go_roundw
   case rel=>exact ⟨k+1,x.k :: seen,by omega,by go_num,Lib.hid (HB2.out.drewN _),Lib.hid HF.out⟩
   simp[intOf];omega
  have hqr:q=bW x:=by rw[HQ.out,HCH.out,if_neg hr]
  have HBE:=Lib.hid (HB.out.trans (HBW.out.1.mono hsz))
  have hle:=HB.out.trans (HBW.out.1.mono hsz) |>.size
  have HLE:=Lib.hid hle
  clear HCUT HSD HSN HCH hle
  by_cases hk:kT x.k.val=true
  ·rw[hk] at HR
   cases hd:x.dead with
   | true =>
    have hz:decide (x.r=Rec.zero)=false:=decide_eq_false (fun hz=>hr (by unfold bW;rw[if_pos hk,if_pos hd,if_pos hz]))
    have hv:bW x=3:=by unfold bW;rw[if_pos hk,if_pos hd,if_neg (of_decide_eq_false hz)]
    rw[hv] at hqr
    have HQR:=Lib.hid hqr
    rw[hd] at cd
    clear hv hqr hr hd hk
    go_wp2_with fail
    refine Gives.use (HR.out _) ?_
    intro xs d
    go_wp2_with fail
    go_ret
    exact ⟨dQ HQR.out.symm,HBE.out.trans ((show Below W.heap.size W _ from blw).mono HLE.out)⟩
   | false =>
    rw[hd] at cd
    by_cases hre:mW x.r=0
    ·have hkn:¬ x.r.kind.toNat=(byt x.k.val 0).toNat:=fun hz=>hr (by unfold bW;rw[if_pos hk,if_neg (by rw[hd];decide),if_pos hre,if_pos hz])
     have hv:bW x=16:=by unfold bW;rw[if_pos hk,if_neg (by rw[hd];decide),if_pos hre,if_neg hkn]
     have hkeI:((x.r.kind.toNat:Int) != ((byt x.k.val 0).toNat:Int))=true:=by rw[bne_iff_ne];omega
     rw[hv] at hqr
     rw[hre] at HC
     have HQR:=Lib.hid hqr
     clear hv hqr hr hd hk hkn hre
     go_wp2_with fail
     refine Gives.use (HR.out _) ?_
     intro xs d
     go_wp2_with fail
     refine Gives.use (HC.out _) ?_
     intro ys e
     go_wp2_with fail
     go_ret
     exact ⟨dQ HQR.out.symm,HBE.out.trans ((show Below W.heap.size W _ from blw).mono HLE.out)⟩
    have hv:bW x=mW x.r:=by unfold bW;rw[if_pos hk,if_neg (by rw[hd];decide),if_neg hre]
    have hreI:(mW x.r != 0)=true:=by rw[bne_iff_ne];exact hre
    rw[hv] at hqr
    have HQR:=Lib.hid hqr
    clear hv hqr hr hd hk hre
    go_wp2_with fail
    refine Gives.use (HR.out _) ?_
    intro xs d
    go_wp2_with fail
    refine Gives.use (HC.out _) ?_
    intro ys e
    go_wp2_with fail
    go_ret
    exact ⟨dQ HQR.out.symm,HBE.out.trans ((show Below W.heap.size W _ from blw).mono HLE.out)⟩
  have hv:bW x=3:=by unfold bW;rw[if_neg hk]
  rw[Bool.not_eq_true] at hk
  rw[hk] at HR
  rw[hv] at hqr
  have HQR:=Lib.hid hqr
  clear hv hqr hr hk
  go_wp2_with fail
  refine Gives.use (HR.out _) ?_
  intro xs d
  go_wp2_with fail
  go_ret
  exact ⟨dQ HQR.out.symm,HBE.out.trans ((show Below W.heap.size W _ from blw).mono HLE.out)⟩
 have hie:i=l.length:=by omega
 subst hie
 have hgn:¬ (l.length:Int)<l.length:=by omega
 have hq0:q=0:=by rw[HQ.out,HST.out.2,List.drop_length];rfl
 have HQ0:=Lib.hid hq0
 clear hlt hq0
 go_wp2_with fail
 go_ret
 exact ⟨dQ HQ0.out.symm,HB.out⟩
end Go.Proofs.YtcedmfnlkelhkaaGreatDoor
