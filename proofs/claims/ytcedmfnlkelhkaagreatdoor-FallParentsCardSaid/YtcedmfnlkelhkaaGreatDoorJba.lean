/- The document's tags: the walk of Parse. -/
import Derived.Test.YtcedmfnlkelhkaaGreatDoorJaz
import Derived.BigRegion
import Derived.Handy
namespace Go.Proofs.YtcedmfnlkelhkaaGreatDoor
set_option maxRecDepth 100000
open Go.RowKit

theorem aEE {w:World} {b:Nat} {c:Array Value} {t:TypeId} (h:w.heap[b]? = some (.cells c t)) (o:Nat) (v:Value):(w.setCell ⟨b,o,none⟩ v).heap[b]? = some (.cells (c.setIfInBounds o v) t):=by
 simp[World.setCell,Array.getElem?_modify,h]
theorem lG {w:World} {b:Nat} {c:Array Value} {t:TypeId} (h:w.heap[b]? = some (.cells c t)) (i:Nat):w.cell? ⟨b,i,none⟩=c[i]? /\ w.frozen? ⟨b,i,none⟩=false:=by
 simp[World.cell?,World.frozen?,h]
def parseM:Value->Value->Nat
 | .string b,.bool true=>b.size+1
 | _,_=>0
theorem rF {w:World} {n sz:Nat} {c vs:Array Value} {t:TypeId} (h:w.heap[n]? = some (.cells c t)) (hc:c.size=sz) (hv:vs.size=sz):(w.lay n 0 vs).aW n 0 sz=some vs:=by
 unfold World.aW World.lay
 simp only[Array.getElem?_modify,h,if_true,Option.map_some]
 rw[dN (by omega)]
 simp[hv]
theorem lt_of_some {w:World} {b:Nat} {o:Obj} (h:w.heap[b]? = some o):b<w.heap.size:=(Array.getElem?_eq_some_iff.1 h).1
set_option maxHeartbeats 40000000 in
theorem aAf (s:List UInt8) (hm:s.length<=1000) (w:World):Gives Tryz.prog 81 #[.string (bs s)] w (.tuple #[.agg (bU (nT s).1),.bool (nT s).2]):=by
 have HRT:=Lib.hid (show nT s=match iV s with | some x=>(x,true) | none=>(zT3,false) from rfl)
 have hlr:=bD s
 have hbl:=aG7 s
 by_cases hr:s=qU
 ·have hE:nT s=(zT3,true):=by rw[HRT.out,hr];rfl
  have HE:=Lib.hid hE
  have hq:(s == [114,111,111,116])=true:=by rw[hr];rfl
  clear hE HRT hr
  unfold Gives
  go_enter Tryz.func81,Tryz.ntmps81
  go_wp2_with fail
  exact bodyPost_ret (v := .tuple #[.agg (bU zT3),.bool true]) (aH Tryz.results81 (aO.row rfl jW (by simp[go_sem];rfl)) (by simp[aO])) rfl ⟨congrArg (fun x:mZ×Bool=>Ending.returned (.tuple #[.agg (bU x.1),.bool x.2])) HE.out.symm,blw⟩
 have hq:(s == [114,111,111,116])=false:=beq_eq_false_iff_ne.2 hr
 have hc:=xH s hm
 obtain ⟨⟨p,rest,more⟩,hc3⟩:∃ x,aCL s=x:=⟨_,rfl⟩
 have hl3:=aE0 s
 have hsp:=aCz s
 rw[hc3] at hc hl3 hsp
 simp only at hc hl3 hsp
 have hrt:iV s=if lF p=true then (iF (aAl rest more) [] []).map (fun x=>(p.map dK,x)) else none:=by unfold iV;rw[if_neg hr,hsp];rfl
 obtain ⟨l1,l2,l3⟩:=hl3
 have HC:=Lib.hid hc
 have HK:=Lib.hid (uX p (by omega))
 have hzp:=bD p
 have hpl:p.length<=1000:=by omega
 clear hc hc3 hsp hr hlr
 by_cases hlg:lF p=true
 ·obtain ⟨k1,k2,k3⟩:=(aBJ p).1 hlg
  rw[if_pos hlg] at hrt
  have HT:=Lib.hid (lQ p false (by omega) hpl)
  rw[k1] at HK
  obtain ⟨L,hL⟩:∃ L,L=oO false p:=⟨_,rfl⟩
  have hL2:L=p.map dK:=hL
  rw[<-hL] at HT
  rw[<-hL2] at hrt
  have HRT2:=Lib.hid hrt
  have e2:decide ((p.length:Int)<2)=false:=by rw[decide_eq_false_iff_not];omega
  have e3:decide ((3:Int)<p.length)=false:=by rw[decide_eq_false_iff_not];omega
  clear hlg hrt k1 hL hL2
  unfold Gives
  go_enter Tryz.func81,Tryz.ntmps81
  go_wp2_with fail
  refine Gives.use (HC.out _) ?_
  intro xs1 d1
  go_wp2_with fail
  refine Gives.use (HK.out _) ?_
  intro xs2 d2
  go_upto_region 6 with fail
  refine aP ?_
  intro W0 hW0
  obtain ⟨rb,hrb⟩:∃ rb,rb=w.heap.size:=⟨_,rfl⟩
  have hb0:Below w.heap.size w W0:=by rw[hW0];exact blw
  have hr0:W0.heap[rb]? = some (.cells (bU zT3) 148):=by
   rw[hW0,hrb,World.bQ _ _ _ (by simp),aC,if_pos rfl]
   rfl
  rw[<-hrb]
  have HB0:=Lib.hid (And.intro hb0 (And.intro hr0 (And.intro (lt_of_some hr0) hrb)))
  clear hW0 hb0 hr0 hrb
  go_wp2_with fail
  refine Gives.use (HT.out _) ?_
  intro xs3 d3
  go_upto_block 0 with fail
  refine aP ?_
  intro W1 hW1
  obtain ⟨tb,htb⟩:∃ tb,tb=W0.heap.size+xs3.size:=⟨_,rfl⟩
  have hb1:Below W0.heap.size W0 W1:=by rw[hW1];exact blw
  have ht1:W1.heap[tb]? = some (.cells (bU (L, [], [])) 148):=by rw[hW1,htb,aC,if_pos (by simp)]
  rw[<-htb]
  have H1:=Lib.hid (And.intro (HB0.out.1.trans (hb1.mono HB0.out.1.size)) (And.intro ht1 (And.intro ((hb1.block rb HB0.out.2.2.1).trans HB0.out.2.1) (And.intro (show w.heap.size<=tb by have:=HB0.out.1.size;omega) (And.intro (show tb≠rb by have:=HB0.out.2.2.1;omega) HB0.out.2.2.2)))))
  have htl:tb<W1.heap.size:=lt_of_some ht1
  clear hW1 hb1 ht1 htb HB0
  have hm2:rest.length<=1000:=by omega
  clear HC HK HT l1 l3 hbl hq hm
  go_wp2_with fail
  go_loopw [5,6] (fun s5 s6 wr => ∃ (rs:List UInt8) (mo:Bool) (sc rg:List UInt8),s5 = .string (bs rs)/\s6 = .bool mo/\rs.length<=1000/\sc.length<=1000/\rg.length<=1000/\Hid (Below w.heap.size w wr/\wr.heap[tb]? = some (.cells (bU (L,sc,rg)) 148)/\wr.heap[rb]? = some (.cells (bU zT3) 148))/\Hid (iV s=(iF (aAl rs mo) sc rg).map fun x=>(L,x))) (fun s5 s6 _=>parseM s5 s6)
  case atStart=>exact ⟨rest,more, [], [],rfl,rfl,by omega,Nat.zero_le _,Nat.zero_le _,Lib.hid ⟨H1.out.1,H1.out.2.1,H1.out.2.2.1⟩,HRT2⟩
  obtain ⟨rs,mo,sc,rg,rfl,rfl,hrs,hsc,hrg,HW,HL⟩:=hrel
  cases mo with
  | false =>
   have hx:iV s=some (L,sc,rg):=by rw[HL.out];rfl
   have hv:nT s=((L,sc,rg),true):=by rw[HRT.out,hx]
   have HV:=Lib.hid hv
   have ct:=aI HW.out.2.1 (wQ _)
   have cr:=aI HW.out.2.2 (wQ _)
   have lt2:=lt_of_some HW.out.2.1
   have lr2:=lt_of_some HW.out.2.2
   have tr:wr.aN rb 0 3=true:=by simp[World.aN,HW.out.2.2]
   have HB:=Lib.hid HW.out.1
   have hfin:((wr.lay rb 0 (bU (L,sc,rg))).aW rb 0 3)=some (bU (L,sc,rg)):=rF HW.out.2.2 rfl rfl
   have hrb:w.heap.size<=rb:=by rw[H1.out.2.2.2.2.2];exact Nat.le_refl _
   clear hx hv HL HW
   go_wp2_with fail
   exact bodyPost_ret (v := .tuple #[.agg (bU (L,sc,rg)),.bool true]) (aH Tryz.results81 (aO.row rfl jW (by first | exact hfin | simp[go_sem,hfin] | (show World.aW _ _ _ _=_;simp[go_sem,hfin]))) (by simp[aO])) rfl ⟨congrArg (fun x:mZ×Bool=>Ending.returned (.tuple #[.agg (bU x.1),.bool x.2])) HV.out.symm,Go.RowKit.Below.lay HB.out hrb⟩
  | true =>
   have hcc:=xH rs hrs
   obtain ⟨⟨q,rs2,mo2⟩,hc4⟩:∃ x,aCL rs=x:=⟨_,rfl⟩
   have hl4:=aE0 rs
   have hsp:=aCz rs
   rw[hc4] at hcc hl4 hsp
   simp only at hcc hl4 hsp
   obtain ⟨l4,l5,l6⟩:=hl4
   have HC:=Lib.hid hcc
   have hq2:q.length<=1000:=by omega
   have HK:=Lib.hid (uX q hq2)
   have HL2:Hid (iV s=(iF (q :: aAl rs2 mo2) sc rg).map fun x=>(L,x)):=Lib.hid (by rw[HL.out,<-hsp];rfl)
   have HSR:=Lib.hid (And.intro (aDF q) (aCw q))
   have HMS:Hid (parseM (.string (bs rs2)) (.bool mo2)<parseM (.string (bs rs)) (.bool true)):=Lib.hid (by
    cases mo2 with
    | false=>show 0<(bs rs).size+1;omega
    | true=>show (bs rs2).size+1<(bs rs).size+1;rw[bD,bD];have:=l6 rfl;omega)
   have hcs:((dB q == 1)=false/\bM q=false)\/((dB q == 1)=true/\((q.length:Int) == 4)=false/\bM q=false)\/((dB q == 1)=true/\((q.length:Int) == 4)=true/\bM q=true):=by
    by_cases h1:dB q=1
    ·by_cases h2:q.length=4
     ·exact .inr (.inr ⟨beq_iff_eq.2 h1,by rw[h2];rfl,HSR.out.1.2 ⟨h1,h2⟩⟩)
     exact .inr (.inl ⟨beq_iff_eq.2 h1,by rw[beq_eq_false_iff_ne];omega,by rw[Bool.eq_false_iff];exact fun h=>h2 (HSR.out.1.1 h).2⟩)
    exact .inl ⟨beq_eq_false_iff_ne.2 h1,by rw[Bool.eq_false_iff];exact fun h=>h1 (HSR.out.1.1 h).1⟩
   have hcr:((dB q == 1)=true/\((q.length:Int) == 2)=true/\bF q=true)\/((dB q == 1)=true/\((q.length:Int) == 2)=false/\(dB q == 2)=false/\bF q=false)\/((dB q == 1)=false/\(dB q == 2)=true/\((q.length:Int) == 3)=true/\bF q=true)\/((dB q == 1)=false/\(dB q == 2)=true/\((q.length:Int) == 3)=false/\bF q=false)\/((dB q == 1)=false/\(dB q == 2)=false/\bF q=false):=by
    have hno:∀ {P:Prop},(¬ P)->(bF q=true->P)->bF q=false:=fun h1 h2=>by rw[Bool.eq_false_iff];exact fun h=>h1 (h2 h)
    by_cases h1:dB q=1
    ·by_cases h2:q.length=2
     ·exact .inl ⟨beq_iff_eq.2 h1,by rw[h2];rfl,HSR.out.2.2 (.inl ⟨h1,h2⟩)⟩
     refine .inr (.inl ⟨beq_iff_eq.2 h1,by rw[beq_eq_false_iff_ne];omega,by rw[h1];rfl,hno (P:=q.length=2) h2 fun h => ?_⟩)
     rcases HSR.out.2.1 h with h | h
     ·exact h.2
     omega
    by_cases h2:dB q=2
    ·by_cases h3:q.length=3
     ·exact .inr (.inr (.inl ⟨beq_eq_false_iff_ne.2 h1,beq_iff_eq.2 h2,by rw[h3];rfl,HSR.out.2.2 (.inr ⟨h2,h3⟩)⟩))
     refine .inr (.inr (.inr (.inl ⟨beq_eq_false_iff_ne.2 h1,beq_iff_eq.2 h2,by rw[beq_eq_false_iff_ne];omega,hno (P:=q.length=3) h3 fun h => ?_⟩)))
     rcases HSR.out.2.1 h with h | h
     ·exact absurd h.1 h1
     exact h.2
    refine .inr (.inr (.inr (.inr ⟨beq_eq_false_iff_ne.2 h1,beq_eq_false_iff_ne.2 h2,hno (P:=dB q=2) h2 fun h => ?_⟩)))
    rcases HSR.out.2.1 h with h | h
    ·exact absurd h.1 h1
    exact h.1
   have HLS:=Lib.hid (fun h:bM q=true=>(HSR.out.1.1 h).2)
   have HLR:=Lib.hid (fun h:bF q=true=>show 1<=q.length by rcases HSR.out.2.1 h with h | h <;> omega)
   have HCR:=Lib.hid hcr
   clear hcc hc4 hsp HL l6 HSR hcr
   generalize dB q=kq at *
   have hzq:=bD q
   go_wp2_with fail
   refine Gives.use (HC.out _) ?_
   intro xs4 d4
   go_upto_region 9 with fail
   refine aP ?_
   intro W2 hW2
   have hb2:Below wr.heap.size wr W2:=by rw[hW2];exact aS _ _
   have H2:=Lib.hid (And.intro (HW.out.1.trans (hb2.mono HW.out.1.size)) (And.intro ((hb2.block tb (lt_of_some HW.out.2.1)).trans HW.out.2.1) ((hb2.block rb (lt_of_some HW.out.2.2)).trans HW.out.2.2)))
   clear hW2 hb2 HW HC
   go_cut [8] (fun s8 wx => ∃ xs d,s8 = .bool (bM q)/\wx=W2.grow xs d)
   case first =>
    rcases hcs with ⟨e1,hs⟩ | ⟨e1,e2,hs⟩ | ⟨e1,e2,hs⟩
    all_goals
     have HS:=Lib.hid hs
     clear hs
     go_wp2_with fail
     refine Gives.use (HK.out _) ?_
     intro xs5 d5
     go_wp2_with fail
     go_meet
     exact ⟨_,_,by rw[HS.out],rfl⟩
   obtain ⟨xs5,d5,rfl,rfl⟩:=hcut
   clear hcs
   go_upto_region 10 with fail
   go_cut [9] (fun s9 wx => ∃ xs d,s9 = .bool (bF q)/\wx=W2.grow xs d)
   case first =>
    rcases HCR.out with ⟨e1,e2,hs⟩ | ⟨e1,e2,e3,hs⟩ | ⟨e1,e3,e2,hs⟩ | ⟨e1,e3,e2,hs⟩ | ⟨e1,e3,hs⟩
    all_goals
     have HS:=Lib.hid hs
     clear hs
     go_wp2_with fail
     refine Gives.use (HK.out _) ?_
     intro xs6 d6
     go_wp2_with fail
     all_goals first
      | (go_meet;exact ⟨_,_,by rw[HS.out],rfl⟩)
      | (refine Gives.use (HK.out _) ?_;intro xs7 d7;go_wp2_with fail;go_meet;exact ⟨_,_,by rw[HS.out],rfl⟩)
   obtain ⟨xs6,d6,rfl,rfl⟩:=hcut
   clear HK HCR
   go_upto_region 11 with fail
   refine aP ?_
   intro W3 hW3
   have hb3:Below W2.heap.size W2 W3:=by rw[hW3];exact aS _ _
   have ht3:=(hb3.block tb (lt_of_some H2.out.2.1)).trans H2.out.2.1
   have hr3:=(hb3.block rb (lt_of_some H2.out.2.2)).trans H2.out.2.2
   have H3:=Lib.hid (And.intro (H2.out.1.trans (hb3.mono H2.out.1.size)) (And.intro ht3 hr3))
   have c1:=(lG ht3 1).1
   have c2:=(lG ht3 2).1
   have f1:=(lG ht3 1).2
   have f2:=(lG ht3 2).2
   have lt3:=lt_of_some ht3
   have lr3:=lt_of_some hr3
   rw[aKd] at c1
   rw[aKe] at c2
   simp only at c1 c2
   clear hW3 hb3 ht3 hr3 H2
   obtain ⟨sb,hsb⟩:∃ sb,bM q=sb:=⟨_,rfl⟩
   obtain ⟨qb,hqb⟩:∃ qb,bF q=qb:=⟨_,rfl⟩
   obtain ⟨es,hes⟩:∃ es,(sc == [])=es:=⟨_,rfl⟩
   obtain ⟨er,her⟩:∃ er,(rg == [])=er:=⟨_,rfl⟩
   have hLT:iF (q :: aAl rs2 mo2) sc rg=if (sb && es && er)=true then iF (aAl rs2 mo2) (jT q) rg else if (qb && er)=true then iF (aAl rs2 mo2) sc (q.map eF) else none:=by
    show (if bM q=true/\sc = []/\rg = [] then _ else if bF q=true/\rg = [] then _ else none)=_
    have g1:(bM q=true/\sc = []/\rg = []) ↔ (sb && es && er)=true:=by
     rw[<-hsb,<-hes,<-her,Bool.and_eq_true,Bool.and_eq_true,beq_iff_eq,beq_iff_eq,and_assoc]
    have g2:(bF q=true/\rg = []) ↔ (qb && er)=true:=by rw[<-hqb,<-her,Bool.and_eq_true,beq_iff_eq]
    simp only[g1,g2]
   have HLT:=Lib.hid hLT
   rw[hsb,hqb]
   have hlS:=HLS.out
   have hlR:=HLR.out
   rw[hsb] at hlS
   rw[hqb] at hlR
   clear hsb hqb hLT HLS HLR
   by_cases hA:(sb && es && er)=true
   ·rw[if_pos hA] at HLT
    simp only[Bool.and_eq_true] at hA
    obtain ⟨⟨rfl,rfl⟩,rfl⟩:=hA
    have hq4:=hlS rfl
    obtain ⟨q1,hq1e⟩:∃ q1,q1=q.take 1:=⟨_,rfl⟩
    obtain ⟨q2',hq2e⟩:∃ q2',q2'=q.drop 1:=⟨_,rfl⟩
    have HT1:=Lib.hid (lQ q1 true (by rw[hq1e];simp;omega) (by rw[hq1e];simp;omega))
    have HT2:=Lib.hid (lQ q2' false (by rw[hq2e,List.length_drop];omega) (by rw[hq2e,List.length_drop];omega))
    have hb1:(bs q).extract 0 1=bs q1:=by rw[hq1e];exact aEY q 1
    have hb2:(bs q).extract 1 q.length=bs q2':=by rw[hq2e,aD8,List.take_length]
    obtain ⟨tr,htr⟩:∃ tr,tr=jT q:=⟨_,rfl⟩
    have hadd:bs (oO true q1)++bs (oO false q2')=bs tr:=by rw[hq1e,hq2e,htr];exact qE _ _
    have htl:tr.length<=1000:=by rw[htr];unfold jT;simp;omega
    have hsz:¬ 9223372036854775807<(bs (oO true q1)).size+(bs (oO false q2')).size:=by
     rw[bD,bD,hq1e,hq2e];unfold oO;simp only[List.length_map,List.length_take,List.length_drop];omega
    rw[<-htr] at HLT
    clear hq1e hq2e htr
    have hq1I:(1:Int)<=q.length:=by omega
    have hq1:1<=q.length:=by omega
    clear hlS hlR hq4
    go_upto_region 12 with fail
    apply aG (by rfl) [.val _,.val _,.val _,.val _,.val _,.val _,.val _,.val _] 8 (by rfl) [80,81,82,83,84,85,86,87] [] [] (by rfl) (by rfl) (by decide) (by decide +kernel) (fun _ _ _ _ _ h=>h)
    case hF=>intro x;simp only[over,List.foldl_cons,List.foldl_nil,List.setIfInBounds_toArray,List.set_cons_succ,List.set_cons_zero];exact rfl
    case hops =>
     refine ⟨?o0,?o1,?o2,?o3,?o4,?o5,?o6,?o7,trivial⟩
     case o0 =>
      intro x w1 hH K hK
      obtain ⟨xs,d,rfl⟩:=aA hH.below
      clear hH
      try simp only[World.aB] at hK |-
      try simp only[World.grow_grow] at hK |-
      exact zx
     case o1 =>
      intro x w1 hH K hK
      have e80:x 80=_:=hH.g 0 80
      obtain ⟨xs,d,rfl⟩:=aA hH.below
      clear hH
      try simp only[World.aB] at hK |-
      try simp only[World.grow_grow] at hK |-
      simp only[e80] at hK |-
      clear e80
      exact zx
     case o2 =>
      intro x w1 hH K hK
      have e81:x 81=_:=hH.g 1 81
      obtain ⟨xs,d,rfl⟩:=aA hH.below
      clear hH
      try simp only[World.aB] at hK |-
      try simp only[World.grow_grow] at hK |-
      simp only[e81] at hK |-
      clear e81
      go_simp
      go_wp2_with (refine Gives.use (HT1.out _) ?_;intro ys e)
      exact zu
     case o3 =>
      intro x w1 hH K hK
      obtain ⟨xs,d,rfl⟩:=aA hH.below
      clear hH
      try simp only[World.aB] at hK |-
      try simp only[World.grow_grow] at hK |-
      exact zx
     case o4 =>
      intro x w1 hH K hK
      have e83:x 83=_:=hH.g 3 83
      obtain ⟨xs,d,rfl⟩:=aA hH.below
      clear hH
      try simp only[World.aB] at hK |-
      try simp only[World.grow_grow] at hK |-
      simp only[e83] at hK |-
      clear e83
      exact zx
     case o5 =>
      intro x w1 hH K hK
      have e84:x 84=_:=hH.g 4 84
      obtain ⟨xs,d,rfl⟩:=aA hH.below
      clear hH
      try simp only[World.aB] at hK |-
      try simp only[World.grow_grow] at hK |-
      simp only[e84] at hK |-
      clear e84
      go_simp
      go_wp2_with (refine Gives.use (HT2.out _) ?_;intro ys e)
      exact zu
     case o6 =>
      intro x w1 hH K hK
      have e82:x 82=_:=hH.g 2 82
      have e85:x 85=_:=hH.g 5 85
      obtain ⟨xs,d,rfl⟩:=aA hH.below
      clear hH
      try simp only[World.aB] at hK |-
      try simp only[World.grow_grow] at hK |-
      simp only[e82,e85] at hK |-
      clear e82 e85
      exact zx
     case o7 =>
      intro x w1 hH K hK
      obtain ⟨xs,d,rfl⟩:=aA hH.below
      clear hH
      try simp only[World.aB] at hK |-
      try simp only[World.grow_grow] at hK |-
      exact zx
    intro x w1 hH
    have e80:x 80=_:=hH.t 0 80
    have e81:x 81=_:=hH.t 1 81
    have e82:x 82=_:=hH.t 2 82
    have e83:x 83=_:=hH.t 3 83
    have e84:x 84=_:=hH.t 4 84
    have e85:x 85=_:=hH.t 5 85
    have e86:x 86=_:=hH.t 6 86
    have e87:x 87=_:=hH.t 7 87
    obtain ⟨xs,d,rfl⟩:=aA hH.below
    clear hH
    simp only[e80,e81,e82,e83,e84,e85,e86,e87];clear e80 e81 e82 e83 e84 e85 e86 e87
    simp only[List.drop_succ_cons,List.drop_zero]
    go_wp2_with fail
    go_roundw
    case measure=>exact HMS.out
    refine ⟨rs2,mo2,tr,rg,rfl,rfl,by omega,htl,hrg,Lib.hid ⟨?_,?_,?_⟩,Lib.hid (by rw[HL2.out,HLT.out])⟩
    ·exact (H3.out.1.setCell (p:=⟨tb,1,none⟩) H1.out.2.2.2.1 _).trans ((aS _ _).mono (by have:=H3.out.1.size;simpa using this))
    ·exact (World.bQ _ _ _ (by simpa using lt3)).trans (aEE H3.out.2.1 1 _)
    exact (World.bQ _ _ _ (by simpa using lr3)).trans ((Below.heap_setCell W3 ⟨tb,1,none⟩ _ rb (fun e=>H1.out.2.2.2.2.1 e.symm)).trans H3.out.2.2)
   rw[if_neg hA] at HLT
   have hcase:(sb=false\/sb=true/\es=false\/sb=true/\es=true/\er=false)/\((qb=true/\er=true)\/((qb && er)=false/\(qb=false\/qb=true/\er=false))):=by
    cases sb <;> cases es <;> cases er <;> cases qb <;> simp at hA |-
   obtain ⟨hc1,hc2⟩:=hcase
   clear hA hlS
   rcases hc2 with ⟨rfl,rfl⟩ | ⟨hqe,hc2⟩
   ·have hlq:=hlR rfl
    have HT1:=Lib.hid (lQ q true (by omega) hq2)
    obtain ⟨tq,htq⟩:∃ tq,tq=oO true q:=⟨_,rfl⟩
    have htl:tq.length<=1000:=by rw[htq];unfold oO;rw[List.length_map];exact hq2
    have HLT2:Hid (iF (q :: aAl rs2 mo2) sc rg=iF (aAl rs2 mo2) sc tq):=Lib.hid (by rw[HLT.out,htq];rfl)
    rw[<-htq] at HT1
    clear hlR hlq htq HLT
    rcases hc1 with rfl | ⟨rfl,rfl⟩ | ⟨rfl,rfl,h⟩
    rotate_left 2
    ·cases h
    all_goals
     go_wp2_with fail
     refine Gives.use (HT1.out _) ?_
     intro xs8 d8
     go_wp2_with fail
     go_roundw
     case measure=>exact HMS.out
     refine ⟨rs2,mo2,sc,tq,rfl,rfl,by omega,hsc,htl,Lib.hid ⟨?_,?_,?_⟩,Lib.hid (by rw[HL2.out,HLT2.out])⟩
     ·exact (H3.out.1.setCell (p:=⟨tb,2,none⟩) H1.out.2.2.2.1 _).trans ((aS _ _).mono (by have:=H3.out.1.size;simpa using this))
     ·exact (World.bQ _ _ _ (by simpa using lt3)).trans (aEE H3.out.2.1 2 _)
     exact (World.bQ _ _ _ (by simpa using lr3)).trans ((Below.heap_setCell W3 ⟨tb,2,none⟩ _ rb (fun e=>H1.out.2.2.2.2.1 e.symm)).trans H3.out.2.2)
   have hx:iV s=none:=by rw[HL2.out,HLT.out,hqe];rfl
   have hv:nT s=(zT3,false):=by rw[HRT.out,hx]
   have HV:=Lib.hid hv
   have cr:=aI H3.out.2.2 (wQ _)
   have hfin:((W3.lay rb 0 (bU zT3)).aW rb 0 3)=some (bU zT3):=rF H3.out.2.2 rfl rfl
   have tr:W3.aN rb 0 3=true:=by simp[World.aN,H3.out.2.2]
   have hrb:w.heap.size<=rb:=by rw[H1.out.2.2.2.2.2];exact Nat.le_refl _
   clear hlR hqe hx hv HL2 HLT HMS l4 l5 hq2 hrs hsc hrg hzq
   rcases hc1 with rfl | ⟨rfl,rfl⟩ | ⟨rfl,rfl,rfl⟩
   all_goals
    rcases hc2 with rfl | ⟨rfl,h⟩
    all_goals
     go_wp2_with fail
     exact bodyPost_ret (v := .tuple #[.agg (bU zT3),.bool false]) (aH Tryz.results81 (aO.row rfl jW (by first | exact hfin | simp[go_sem,hfin] | (show World.aW _ _ _ _=_;simp[go_sem,hfin]))) (by simp[aO])) rfl ⟨congrArg (fun x:mZ×Bool=>Ending.returned (.tuple #[.agg (bU x.1),.bool x.2])) HV.out.symm,Go.RowKit.Below.lay H3.out.1 hrb⟩
 have hz0:nT s=(zT3,false):=by rw[HRT.out,hrt,if_neg hlg]
 have HZ:=Lib.hid hz0
 have hcase:(dB p != 1)=true\/((dB p != 1)=false/\decide ((p.length:Int)<2)=true)\/((dB p != 1)=false/\decide ((p.length:Int)<2)=false/\decide ((3:Int)<p.length)=true):=by
  by_cases h1:dB p=1
  ·rw[h1]
   by_cases h2:p.length<2
   ·exact .inr (.inl ⟨rfl,by rw[decide_eq_true_eq];omega⟩)
   refine .inr (.inr ⟨rfl,by rw[decide_eq_false_iff_not];omega,?_⟩)
   rw[decide_eq_true_eq]
   have:¬ p.length<=3:=fun h3=>hlg ((aBJ p).2 ⟨h1,by omega,h3⟩)
   omega
  exact .inl (by rw[bne_iff_ne];exact h1)
 clear hz0 hlg hrt HRT
 generalize dB p=kp at *
 rcases hcase with h1 | ⟨h1,h2⟩ | ⟨h1,h2,h3⟩
 all_goals
  unfold Gives
  go_enter Tryz.func81,Tryz.ntmps81
  go_wp2_with fail
  refine Gives.use (HC.out _) ?_
  intro xs1 d1
  go_wp2_with fail
  refine Gives.use (HK.out _) ?_
  intro xs2 d2
  go_wp2_with fail
  exact bodyPost_ret (v := .tuple #[.agg (bU zT3),.bool false]) (aH Tryz.results81 (aO.row rfl jW (by simp[go_sem];rfl)) (by simp[aO])) rfl ⟨congrArg (fun x:mZ×Bool=>Ending.returned (.tuple #[.agg (bU x.1),.bool x.2])) HZ.out.symm,blw⟩
end Go.Proofs.YtcedmfnlkelhkaaGreatDoor
