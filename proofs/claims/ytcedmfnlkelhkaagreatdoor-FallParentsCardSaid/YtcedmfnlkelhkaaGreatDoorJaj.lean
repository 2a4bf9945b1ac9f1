/- Layer 5: the tag of a text. -/
import Derived.Test.YtcedmfnlkelhkaaGreatDoorJai
namespace Go.Proofs.YtcedmfnlkelhkaaGreatDoor
set_option maxHeartbeats 40000000
set_option maxRecDepth 100000
open Go.RowKit

def aGV (B:Nat) (C:Array Value) (r:List (List UInt8)) (v:Value):Prop :=
 ∃ o cap,v = .slice (some ⟨B,o,none⟩) r.length cap/\r.length<=cap/\cap<=1000001/\aGW r C o
theorem aHg (L q:List UInt8) (hL:L.length=3) (hq:q.length=4):(L++q.map dK++zeros 3).set 3 (eF (byt (L++q.map dK++zeros 3) 3))=L++title q++zeros 3:=by
 match L,q,hL,hq with
 | [x,y,z], [a,b,c,d],_,_=>rfl
def aDA (r:List (List UInt8)):Bool:=match r with | []=>false | q :: _=>bF q
theorem aEv (r:List (List UInt8)):(aBY r).length=4:=by
 cases r with
 | nil=>rfl
 | cons q r =>
  have e:aBY (q :: r)=if bM q=true then title q else zeros 4:=rfl
  rw[e]
  by_cases h:bM q=true
  ·rw[if_pos h]
   unfold bM at h
   rw[Bool.and_eq_true,decide_eq_true_eq] at h
   match q,h.1 with
   | [a,b,c,d],_=>rfl
  rw[if_neg h];rfl
theorem aEq (r:List (List UInt8)):(aAm r).length=3:=by
 cases r with
 | nil=>rfl
 | cons q r =>
  have e:aAm (q :: r)=if bF q=true then bG 3 (q.map eF) else zeros 3:=rfl
  rw[e]
  by_cases h:bF q=true
  ·rw[if_pos h,dM (by rw[List.length_map];simp[bF] at h;omega)]
  rw[if_neg h];rfl
def aFj (r:List (List UInt8)):Bool:=match r with | []=>false | q :: _=>bM q
set_option maxRecDepth 100000 in
theorem aAq (s:List UInt8) (hs:s.length<=1000000) (w:World):Gives Tryz.prog 63 #[.string (bs s)] w (.tuple #[.agg (aJ (fM s)),.int .i64 (iI s)]):=by
 by_cases hroot:s=qU
 ·subst hroot
  have e1:fM qU=zeros 10:=by unfold fM lH;rw[if_pos rfl];rfl
  have e2:iI qU=0:=by unfold iI lH;rw[if_pos rfl];rfl
  have E1:=Lib.hid e1
  have E2:=Lib.hid e2
  clear e1 e2 hs
  have hr:(qU == [114,111,111,116])=true:=by decide
  unfold Gives
  go_enter Tryz.func63,Tryz.ntmps63
  go_wp2_with fail
  exact bodyPost_ret (v := .tuple #[.agg (aJ (zeros 10)),.int .i64 0]) (aH Tryz.results63 (aO.row rfl lC (by simp[go_sem])) (by simp[aO])) rfl ⟨by rw[E1.out,E2.out],blw⟩
 have hr:(s == [114,111,111,116])=false:=beq_eq_false_iff_ne.2 hroot
 have hsp:=aEJ 45 s hs
 have ht:lH s=vC (splitOn 45 s):=if_neg hroot
 have hne:splitOn 45 s ≠ []:=by
  intro h
  have:=aAR 45 s
  rw[h] at this
  simp at this
 generalize splitOn 45 s=ps at *
 have HSP:=Lib.hid hsp
 have HT:=Lib.hid ht
 clear hsp ht
 unfold Gives
 cases ps with
 | nil=>exact absurd rfl hne
 | cons p r =>
 clear hne hroot
 go_enter Tryz.func63,Tryz.ntmps63
 go_wp2_with fail
 refine (HSP.out _).mono ?_
 rintro e w' ⟨cap,C,rfl,hc1,hc2,hC,rfl⟩
 have hC0:C[0]? = some (.string (bs p)):=hC 0 p rfl
 have HCC:=Lib.hid hC
 clear hC
 have hz:=bD p
 simp only[List.length_cons] at hc1 |-
 by_cases hl:lF p=true
 ·have hl':=hl
  simp only[lF,Bool.and_eq_true,decide_eq_true_eq] at hl'
  obtain ⟨⟨h2,h3⟩,ha⟩:=hl'
  have d2:decide ((p.length:Int)<2)=false:=by simp;omega
  have d3:decide ((3:Int)<p.length)=false:=by simp;omega
  have hal:=nC p (by unfold maxLen;omega)
  rw[ha] at hal
  have HA:=Lib.hid hal
  have HL:=Lib.hid hl
  clear hal ha hl
  go_wp2_with (go_at_call 95;refine Gives.use (HA.out _) ?_;intro xs d)
  go_loopw [7,37] (fun _ i wr => ∃ (k:Nat) (xs:Array Obj) (d:Nat),k<=p.length/\i = .int .i64 k/\wr=((((w.alloc (.cells (aJ (zeros 10)) 60)).alloc (.cells (aJ (bG 3 ((p.map dK).take k)++zeros 7)) 60)).alloc (.cells C 9)).grow xs d)) (fun _ i _=>p.length - (intOf i).toNat)
  case atStart=>exact ⟨0,_,_,by omega,rfl,by rw[List.take_zero,oM];rfl⟩
  obtain ⟨k,xs,d,hk,rfl,rfl⟩:=hrel
  by_cases hlt:k<p.length
  ·have hset:=aBa [] (p.map dK) (zeros 7) 3 k (by simp;omega) (by simpa using hlt)
   have hlen:(bG 3 ((p.map dK).take k)++zeros 7).length=10:=by
    rw[List.length_append,dM (by simp;omega)];simp
   rw[aD9 _ _ _ hlt] at hset
   simp only[List.nil_append,List.length_nil,Nat.zero_add] at hset
   have hkl:k<(bG 3 ((p.map dK).take k)++zeros 7).length:=by omega
   generalize bG 3 ((p.map dK).take k)++zeros 7=tk at *
   have HSET:=Lib.hid hset
   clear hset hlen
   have hk3:(k:Int)<3:=by omega
   have hki:(k:Int)<p.length:=by omega
   go_wp2_with (go_at_call 97;refine Gives.use (zW _ _) ?_;intro ys e)
   go_roundw
   case rel=>exact ⟨k+1,_,_,by omega,by go_num,by rw[HSET.out]⟩
   simp[intOf];omega
  have:k=p.length:=by omega
  subst this
  have hml:(p.map dK).length=p.length:=by simp
  rw[List.take_of_length_le (by omega)]
  have hLl:(bG 3 (p.map dK)).length=3:=dM (by omega)
  have HLL:=Lib.hid hLl
  generalize hL:bG 3 (p.map dK)=L at *
  have HLL2:=Lib.hid hL
  clear hml hLl hL
  go_upto_region 13 with fail
  go_cut [5] (fun s5 wx=>aGV (w.heap.size+1+1) C r s5/\((((w.alloc (.cells (aJ (zeros 10)) 60)).alloc (.cells (aJ (L++zeros 7)) 60)).alloc (.cells C 9)).grow xs d)=wx)
  case first =>
   by_cases hcap:cap=1
   ·subst hcap
    have hr0:r = []:=List.eq_nil_of_length_eq_zero (by omega)
    subst hr0
    go_wp2_with fail
    go_meet
    exact ⟨⟨0,0,rfl,Nat.le_refl _,Nat.zero_le _,fun i q hq=>by simp at hq⟩,rfl⟩
   go_wp2_with fail
   go_meet
   exact ⟨⟨1,cap - 1,rfl,by omega,by omega,HCC.out.tail⟩,rfl⟩
  case rest =>
  obtain ⟨⟨o,cap2,rfl,hc3,hc4,hC2⟩,rfl⟩:=hcut
  have HC2:=Lib.hid hC2
  clear hC2 hC0 HCC hc1 hc2 hk hlt hz HA HSP d2 d3
  go_upto_region 14 with fail
  go_cut [67] (fun s67 wx=>s67 = .bool (aFj r) /\ ∃ xs d,wx=((((w.alloc (.cells (aJ (zeros 10)) 60)).alloc (.cells (aJ (L++zeros 7)) 60)).alloc (.cells C 9)).grow xs d))
  case first =>
   cases r with
   | nil =>
    go_wp2_with fail
    go_meet
    exact ⟨rfl,_,_,rfl⟩
   | cons q r1 =>
    have hC0:C[o]? = some (.string (bs q)):=HC2.out 0 q rfl
    have hz:=bD q
    by_cases h4:q.length=4
    ·have e4:((q.length:Int) == 4)=true:=by simp;omega
     have hal:=nC q (by unfold maxLen;omega)
     have hsc:aFj (q :: r1)=q.all lK:=by simp[aFj,bM,h4]
     generalize q.all lK=b at *
     have HA:=Lib.hid hal
     have HS:=Lib.hid hsc
     clear hal hsc h4
     go_wp2_with (go_at_call 95;refine Gives.use (HA.out _) ?_;intro xs d)
     go_meet
     exact ⟨by rw[HS.out],_,_,rfl⟩
    have e4:((q.length:Int) == 4)=false:=by simp;omega
    have hsc:aFj (q :: r1)=false:=by simp[aFj,bM,h4]
    have HS:=Lib.hid hsc
    clear hsc h4
    go_wp2_with fail
    go_meet
    exact ⟨by rw[HS.out],_,_,rfl⟩
  case rest =>
  obtain ⟨rfl,xs1,d1,rfl⟩:=hcut
  go_upto_if 67 with fail
  go_cut [5] (fun s5 wx=>aGV (w.heap.size+1+1) C (iH r) s5 /\ ∃ xs d,wx=((((w.alloc (.cells (aJ (zeros 10)) 60)).alloc (.cells (aJ (L++aBY r++zeros 3)) 60)).alloc (.cells C 9)).grow xs d))
  case first =>
   cases hsc:aFj r with
   | false =>
    have e1:iH r=r:=by
     cases r with
     | nil=>rfl
     | cons q r1=>unfold iH;exact if_neg (by rw[show bM q=false from hsc];decide)
    have e2:aBY r=zeros 4:=by
     cases r with
     | nil=>rfl
     | cons q r1=>unfold aBY;exact if_neg (by rw[show bM q=false from hsc];decide)
    have E1:=Lib.hid e1
    have E2:=Lib.hid e2
    clear e1 e2 hsc
    go_wp2_with fail
    go_meet
    exact ⟨by rw[E1.out];exact ⟨o,cap2,rfl,hc3,hc4,HC2.out⟩,xs1,d1,by rw[E2.out,List.append_assoc];rfl⟩
   | true =>
    cases r with
    | nil=>cases hsc
    | cons q r1 =>
    have hC0:C[o]? = some (.string (bs q)):=HC2.out 0 q rfl
    have hz:=bD q
    have hq:bM q=true:=hsc
    have e1:iH (q :: r1)=r1:=by unfold iH;exact if_pos hq
    have e2:aBY (q :: r1)=title q:=by unfold aBY;exact if_pos hq
    have h4:q.length=4:=by simp[bM] at hq;exact hq.1
    have E1:=Lib.hid e1
    have E2:=Lib.hid e2
    have H4:=Lib.hid h4
    clear e1 e2 hsc hq h4
    simp only[List.length_cons] at hc3 |-
    go_wp2_with fail
    go_loopw [8,68] (fun _ i wr => ∃ (k:Nat) (xs:Array Obj) (d:Nat),k<=4/\i = .int .i64 k/\wr=((((w.alloc (.cells (aJ (zeros 10)) 60)).alloc (.cells (aJ (L++bG 4 ((q.map dK).take k)++zeros 3)) 60)).alloc (.cells C 9)).grow xs d)) (fun _ i _=>4 - (intOf i).toNat)
    case atStart=>exact ⟨0,xs1,d1,by omega,rfl,by rw[List.take_zero,oM,List.append_assoc];rfl⟩
    obtain ⟨k,xs,d,hk,rfl,rfl⟩:=hrel
    by_cases hlt:k<4
    ·have hset:=aBa L (q.map dK) (zeros 3) 4 k (by simp[H4.out]) (by simp[H4.out];omega)
     have hlen:(L++bG 4 ((q.map dK).take k)++zeros 3).length=10:=by
      rw[List.length_append,List.length_append,dM (by simp;omega),HLL.out];simp
     rw[aD9 _ _ _ (by rw[H4.out];omega),HLL.out] at hset
     have hkl:3+k<(L++bG 4 ((q.map dK).take k)++zeros 3).length:=by omega
     generalize L++bG 4 ((q.map dK).take k)++zeros 3=tk at *
     have HSET:=Lib.hid hset
     clear hset hlen
     have hk4:(k:Int)<4:=by omega
     have hki:(k:Int)<q.length:=by rw[H4.out];omega
     have hkn:k<q.length:=by rw[H4.out];omega
     go_wp2_with (go_at_call 97;refine Gives.use (zW _ _) ?_;intro ys e)
     go_roundw
     case rel=>exact ⟨k+1,_,_,by omega,by go_num,by rw[HSET.out]⟩
     simp[intOf];omega
    have:k=4:=by omega
    subst this
    have hml:bG 4 ((q.map dK).take 4)=q.map dK:=by
     rw[List.take_of_length_le (by simp[H4.out])];unfold bG;simp[H4.out,zeros]
    rw[hml]
    have hset:=aHg L q HLL.out H4.out
    have hlen:(L++q.map dK++zeros 3).length=10:=by simp[HLL.out,H4.out]
    generalize L++q.map dK++zeros 3=tk at *
    have HSET:=Lib.hid hset
    clear hset hml
    by_cases hcap:cap2=1
    ·subst hcap
     have hr1:r1 = []:=List.eq_nil_of_length_eq_zero (by omega)
     subst hr1
     go_wp2_with (go_at_call 98;refine Gives.use (tN _ _) ?_;intro ys e)
     go_meet
     exact ⟨by rw[E1.out];exact ⟨o,0,rfl,Nat.le_refl _,Nat.zero_le _,fun i q hq=>by simp at hq⟩,_,_,by rw[E2.out,HSET.out]⟩
    go_wp2_with (go_at_call 98;refine Gives.use (tN _ _) ?_;intro ys e)
    go_meet
    exact ⟨by rw[E1.out];exact ⟨o+1,cap2 - 1,rfl,by omega,by omega,HC2.out.tail⟩,_,_,by rw[E2.out,HSET.out]⟩
  case rest =>
  obtain ⟨⟨o2,cap3,rfl,hc5,hc6,hC3⟩,xs2,d2,rfl⟩:=hcut
  have hpl:(L++aBY r).length=7:=by rw[List.length_append,aEv,HLL.out]
  have hto:lH s=if iW (iH r) = [] then some (L++aBY r++aAm (iH r)) else none:=by
   have e:vC (p :: r)=if lF p=true/\iW (iH r) = [] then some (bG 3 (p.map dK)++aBY r++aAm (iH r)) else none:=rfl
   rw[HT.out,e,HLL2.out]
   by_cases h:iW (iH r) = []
   ·rw[if_pos h,if_pos ⟨HL.out,h⟩]
   rw[if_neg h,if_neg (fun x=>h x.2)]
  clear HC2 hc3 hc4
  generalize iH r=r2 at *
  generalize L++aBY r=T0 at *
  have HC3:=Lib.hid hC3
  have HTO:=Lib.hid hto
  have HPL:=Lib.hid hpl
  clear hC3 hto HT HLL2 HLL HL hpl
  go_upto_region 22 with fail
  go_cut [117] (fun s117 wx=>s117 = .bool (aDA r2) /\ ∃ xs d,wx=((((w.alloc (.cells (aJ (zeros 10)) 60)).alloc (.cells (aJ (T0++zeros 3)) 60)).alloc (.cells C 9)).grow xs d))
  case first =>
   cases r2 with
   | nil =>
    go_wp2_with fail
    go_meet
    exact ⟨rfl,_,_,rfl⟩
   | cons q r3 =>
    have hC0:C[o2]? = some (.string (bs q)):=HC3.out 0 q rfl
    have hz:=bD q
    by_cases h2:q.length=2
    ·have e4:((q.length:Int) == 2)=true:=by simp;omega
     have e5:((q.length:Int) == 3)=false:=by simp;omega
     have hal:=nC q (by unfold maxLen;omega)
     have hsc:aDA (q :: r3)=q.all lK:=by simp[aDA,bF,h2]
     generalize q.all lK=b at *
     have HA:=Lib.hid hal
     have HS:=Lib.hid hsc
     clear hal hsc h2
     cases b
     ·go_wp2_with (go_at_call 95;refine Gives.use (HA.out _) ?_;intro xs d)
      go_meet
      exact ⟨by rw[HS.out],_,_,rfl⟩
     go_wp2_with (go_at_call 95;refine Gives.use (HA.out _) ?_;intro xs d)
     go_meet
     exact ⟨by rw[HS.out],_,_,rfl⟩
    have e4:((q.length:Int) == 2)=false:=by simp;omega
    by_cases h3:q.length=3
    ·have e5:((q.length:Int) == 3)=true:=by simp;omega
     have hal:=aCQ q (by unfold maxLen;omega)
     have hsc:aDA (q :: r3)=q.all rZ:=by simp[aDA,bF,h3]
     generalize q.all rZ=b at *
     have HA:=Lib.hid hal
     have HS:=Lib.hid hsc
     clear hal hsc h2 h3
     go_wp2_with (go_at_call 95;refine Gives.use (HA.out _) ?_;intro xs d)
     go_meet
     exact ⟨by rw[HS.out],_,_,rfl⟩
    have e5:((q.length:Int) == 3)=false:=by simp;omega
    have hsc:aDA (q :: r3)=false:=by simp[aDA,bF,h2,h3]
    have HS:=Lib.hid hsc
    clear hsc h2 h3
    go_wp2_with fail
    go_meet
    exact ⟨by rw[HS.out],_,_,rfl⟩
  case rest =>
  obtain ⟨rfl,xs3,d3,rfl⟩:=hcut
  go_upto_if 117 with fail
  go_cut [5] (fun s5 wx=>aGV (w.heap.size+1+1) C (iW r2) s5 /\ ∃ xs d,wx=((((w.alloc (.cells (aJ (zeros 10)) 60)).alloc (.cells (aJ (T0++aAm r2)) 60)).alloc (.cells C 9)).grow xs d))
  case first =>
   cases hsc:aDA r2 with
   | false =>
    have e1:iW r2=r2:=by
     cases r2 with
     | nil=>rfl
     | cons q r1=>unfold iW;exact if_neg (by rw[show bF q=false from hsc];decide)
    have e2:aAm r2=zeros 3:=by
     cases r2 with
     | nil=>rfl
     | cons q r1=>unfold aAm;exact if_neg (by rw[show bF q=false from hsc];decide)
    have E1:=Lib.hid e1
    have E2:=Lib.hid e2
    clear e1 e2 hsc
    go_wp2_with fail
    go_meet
    exact ⟨by rw[E1.out];exact ⟨o2,cap3,rfl,hc5,hc6,HC3.out⟩,xs3,d3,by rw[E2.out]⟩
   | true =>
    cases r2 with
    | nil=>cases hsc
    | cons q r1 =>
    have hC0:C[o2]? = some (.string (bs q)):=HC3.out 0 q rfl
    have hz:=bD q
    have hq:bF q=true:=hsc
    have e1:iW (q :: r1)=r1:=by unfold iW;exact if_pos hq
    have e2:aAm (q :: r1)=bG 3 (q.map eF):=by unfold aAm;exact if_pos hq
    have h4:q.length<=3:=by simp[bF] at hq;omega
    have E1:=Lib.hid e1
    have E2:=Lib.hid e2
    clear e1 e2 hsc hq
    simp only[List.length_cons] at hc5 |-
    go_wp2_with fail
    go_loopw [9,122] (fun _ i wr => ∃ (k:Nat) (xs:Array Obj) (d:Nat),k<=q.length/\i = .int .i64 k/\wr=((((w.alloc (.cells (aJ (zeros 10)) 60)).alloc (.cells (aJ (T0++bG 3 ((q.map eF).take k))) 60)).alloc (.cells C 9)).grow xs d)) (fun _ i _=>q.length - (intOf i).toNat)
    case atStart=>exact ⟨0,xs3,d3,by omega,rfl,by rw[List.take_zero,oM]⟩
    obtain ⟨k,xs,d,hk,rfl,rfl⟩:=hrel
    by_cases hlt:k<q.length
    ·have hset:=yE T0 (q.map eF) 3 k (by simp;omega) (by simpa using hlt)
     have hlen:(T0++bG 3 ((q.map eF).take k)).length=10:=by
      rw[List.length_append,dM (by simp;omega),HPL.out]
     rw[aD9 _ _ _ hlt,HPL.out] at hset
     have hkl:7+k<(T0++bG 3 ((q.map eF).take k)).length:=by omega
     generalize T0++bG 3 ((q.map eF).take k)=tk at *
     have HSET:=Lib.hid hset
     clear hset hlen
     have hk4:(k:Int)<3:=by omega
     have hki:(k:Int)<q.length:=by omega
     go_wp2_with (go_at_call 98;refine Gives.use (tN _ _) ?_;intro ys e)
     go_roundw
     case rel=>exact ⟨k+1,_,_,by omega,by go_num,by rw[HSET.out]⟩
     simp[intOf];omega
    have:k=q.length:=by omega
    subst this
    rw[List.take_of_length_le (by simp)]
    by_cases hcap:cap3=1
    ·subst hcap
     have hr1:r1 = []:=List.eq_nil_of_length_eq_zero (by omega)
     subst hr1
     go_wp2_with fail
     go_meet
     exact ⟨by rw[E1.out];exact ⟨o2,0,rfl,Nat.le_refl _,Nat.zero_le _,fun i q hq=>by simp at hq⟩,_,_,by rw[E2.out]⟩
    go_wp2_with fail
    go_meet
    refine ⟨?_,xs,d,?_⟩
    ·rw[E1.out]
     refine ⟨o2+1,cap3 - 1,rfl,?_,?_,?_⟩
     ·omega
     ·omega
     exact HC3.out.tail
    rw[E2.out]
  case rest =>
  obtain ⟨⟨o4,cap4,rfl,_,_,_⟩,xs4,d4,rfl⟩:=hcut
  have hTl:(T0++aAm r2).length=10:=by rw[List.length_append,HPL.out,aEq]
  have hto:=HTO.out
  generalize T0++aAm r2=T at *
  generalize iW r2=r4 at *
  cases r4 with
  | nil =>
   have e1:fM s=T:=by unfold fM;rw[hto,if_pos rfl];rfl
   have e2:iI s=0:=by unfold iI;rw[hto,if_pos rfl];rfl
   have E1:=Lib.hid e1
   have E2:=Lib.hid e2
   clear e1 e2 hto HTO
   go_wp2_with fail
   exact bodyPost_ret (v := .tuple #[.agg (aJ T),.int .i64 0]) (aH Tryz.results63 (aO.row rfl lC (by simp[go_sem,hTl])) (by simp[aO])) rfl ⟨by rw[E1.out,E2.out],blw⟩
  | cons a r5 =>
   have e1:fM s=zeros 10:=by unfold fM;rw[hto,if_neg (by simp)];rfl
   have e2:iI s=14:=by unfold iI;rw[hto,if_neg (by simp)]
   have E1:=Lib.hid e1
   have E2:=Lib.hid e2
   clear e1 e2 hto HTO
   have hpos:decide ((0:Int)<(a :: r5).length)=true:=by simp
   go_wp2_with fail
   exact bodyPost_ret (v := .tuple #[.agg (aJ (zeros 10)),.int .i64 14]) (aH Tryz.results63 (aO.row rfl lC (by simp[go_sem])) (by simp[aO])) rfl ⟨by rw[E1.out,E2.out],blw⟩
 have he:lH s=none:=by
  rw[HT.out];unfold vC;exact if_neg (fun h=>hl h.1)
 have e1:fM s=zeros 10:=by unfold fM;rw[he];rfl
 have e2:iI s=14:=by unfold iI;rw[he];rfl
 have E1:=Lib.hid e1
 have E2:=Lib.hid e2
 clear e1 e2 he
 by_cases h2:(p.length:Int)<2
 ·have d2:decide ((p.length:Int)<2)=true:=decide_eq_true h2
  clear hl h2
  go_wp2_with fail
  exact bodyPost_ret (v := .tuple #[.agg (aJ (zeros 10)),.int .i64 14]) (aH Tryz.results63 (aO.row rfl lC (by simp[go_sem])) (by simp[aO])) rfl ⟨by rw[E1.out,E2.out],blw⟩
 have d2:decide ((p.length:Int)<2)=false:=decide_eq_false h2
 by_cases h3:(3:Int)<p.length
 ·have d3:decide ((3:Int)<p.length)=true:=decide_eq_true h3
  clear hl h2 h3
  go_wp2_with fail
  exact bodyPost_ret (v := .tuple #[.agg (aJ (zeros 10)),.int .i64 14]) (aH Tryz.results63 (aO.row rfl lC (by simp[go_sem])) (by simp[aO])) rfl ⟨by rw[E1.out,E2.out],blw⟩
 have d3:decide ((3:Int)<p.length)=false:=decide_eq_false h3
 have ha:p.all lK=false:=by
  rw[Bool.eq_false_iff]
  intro h
  apply hl
  unfold lF
  rw[h];simp;omega
 have hal:=nC p (by unfold maxLen;omega)
 rw[ha] at hal
 have HA:=Lib.hid hal
 clear hl h2 h3 hal ha
 go_wp2_with (go_at_call 95;refine Gives.use (HA.out _) ?_;intro xs d)
 exact bodyPost_ret (v := .tuple #[.agg (aJ (zeros 10)),.int .i64 14]) (aH Tryz.results63 (aO.row rfl lC (by simp[go_sem])) (by simp[aO])) rfl ⟨by rw[E1.out,E2.out],blw⟩
theorem aDL (t:List UInt8) (ht:t.length=10):(fF t).length<=1000000:=by
 unfold fF
 split
 ·decide
 have h1:=iG (vY t)
 have h2:=iG (kL t)
 have h3:=iG (kK t)
 have d2:=oH (partT (kL t))
 have d3:=oH (partT (kK t))
 simp only[vY,kL,kK,List.length_take,List.length_drop] at h1 h2 h3
 simp only[List.length_append]
 simp only[vY,kL,kK] at d2 d3 |-
 omega
theorem aFu (s:List UInt8):∀ x,lH s=some x->x.length=10:=by
 intro x hx
 unfold lH at hx
 split at hx
 ·cases hx;simp
 unfold vC at hx
 split at hx
 ·cases hx
 rename_i p r _
 split at hx
 ·rename_i h
  cases hx
  have hl:=h.1
  simp only[lF,Bool.and_eq_true,decide_eq_true_eq] at hl
  rw[List.length_append,List.length_append,aEv,aEq,dM (by simp;omega)]
 cases hx
theorem aCG (s:List UInt8):(fM s).length=10:=by
 unfold fM
 cases h:lH s with
 | none=>simp
 | some x=>exact aFu s x h
theorem kV (t:List UInt8) (ht:t.length=10) (w:World):Gives Tryz.prog 33 #[.agg (aJ t)] w (.bool (aZ t)):=by
 have hp1:=aCG (fF t)
 have hf:=aDs t ht
 have hp:=aAq (fF t) (aDL t ht)
 have hr:aZ t=(decide (iI (fF t)=0) && (fM (fF t) == t)):=by
  unfold aZ fM iI
  cases lH (fF t) with
  | none=>rfl
  | some x =>
   simp only[Option.isSome_some,if_true,decide_true,Bool.true_and,Option.getD_some]
   rw[Bool.eq_iff_iff];simp
 rw[hr]
 generalize fF t=fr at *
 generalize fM fr=p1 at *
 generalize iI fr=p2 at *
 have HF:=Lib.hid hf
 have HP:=Lib.hid hp
 clear hf hp hr
 unfold Gives
 go_enter Tryz.func33,Tryz.ntmps33
 go_wp2_with (first | (go_at_call 64;refine Gives.use (HF.out _) ?_;intro xs d) | (go_at_call 63;refine Gives.use (HP.out _) ?_;intro xs d))
 all_goals
  go_ret
  exact ⟨congrArg Ending.returned (congrArg Value.bool (by first | (simp[*];done) | (rw[Bool.eq_iff_iff];simp[*];done) | (rw[Bool.eq_iff_iff];simp[*];omega) | (rw[Bool.eq_iff_iff];simp;omega))),blw⟩
theorem aGB (k:Int) (w:World):Gives Tryz.prog 146 #[.int .i64 k] w (.agg #[.int .i64 (jK k),.bool (fU k),.bool (jG k)]):=by
 by_cases h:k=2\/k=3\/k=4\/k=5\/k=6
 ·rcases h with rfl | rfl | rfl | rfl | rfl
  all_goals
   unfold Gives
   go_enter Tryz.func146,Tryz.ntmps146
   go_wp2_with fail
  ·exact bodyPost_ret (v := .agg #[.int .i64 16,.bool false,.bool false]) (by simp[results,Tryz.results146,go_sem]) rfl ⟨rfl,blw⟩
  ·exact bodyPost_ret (v := .agg #[.int .i64 0,.bool false,.bool true]) (by simp[results,Tryz.results146,go_sem]) rfl ⟨rfl,blw⟩
  ·exact bodyPost_ret (v := .agg #[.int .i64 4,.bool false,.bool false]) (by simp[results,Tryz.results146,go_sem]) rfl ⟨rfl,blw⟩
  ·exact bodyPost_ret (v := .agg #[.int .i64 4,.bool true,.bool false]) (by simp[results,Tryz.results146,go_sem]) rfl ⟨rfl,blw⟩
  exact bodyPost_ret (v := .agg #[.int .i64 4,.bool true,.bool true]) (by simp[results,Tryz.results146,go_sem]) rfl ⟨rfl,blw⟩
 have e:jK k=0/\fU k=false/\jG k=false:=by
  unfold jK fU jG
  refine ⟨?_,by simp;omega,by simp;omega⟩
  rw[if_neg (by omega),if_neg (by omega)]
 rw[e.1,e.2.1,e.2.2]
 have h2:(k == 2)=false:=by simp;omega
 have h3:(k == 3)=false:=by simp;omega
 have h4:(k == 4)=false:=by simp;omega
 have h5:(k == 5)=false:=by simp;omega
 have h6:(k == 6)=false:=by simp;omega
 clear e h
 unfold Gives
 go_enter Tryz.func146,Tryz.ntmps146
 go_wp2_with fail
 exact bodyPost_ret (v := .agg #[.int .i64 0,.bool false,.bool false]) (by simp[results,Tryz.results146,go_sem]) rfl ⟨rfl,blw⟩
@[go_sem] theorem aQQ (a b:UInt8):(#[.int .u8 (a.toNat:Int),.int .u8 (b.toNat:Int),.int .u8 0,.int .u8 0,.int .u8 0,.int .u8 0,.int .u8 0,.int .u8 0,.int .u8 0,.int .u8 0,.int .u8 0,.int .u8 0,.int .u8 0,.int .u8 0,.int .u8 0,.int .u8 0,.int .u8 0,.int .u8 0,.int .u8 0,.int .u8 0,.int .u8 0,.int .u8 0,.int .u8 0,.int .u8 0,.int .u8 0]:Array Value)=aJ (((zeros 25).set 0 a).set 1 b):=rfl
@[go_sem] theorem aJ4 (l:List UInt8) (i:Nat) (b:UInt8) (h:i<l.length):bT (aJ l) i #[.int .u8 (b.toNat:Int)]=aJ (l.set i b):=by
 rw[aFt (by simpa using h),aEs]
theorem tY (x:Int):IntKind.u8.wrap x=((byteOf x).toNat:Int):=by
 unfold byteOf
 have h1:0<=x % 256:=by omega
 have h2:x % 256<256:=by omega
 have h3:IntKind.u8.wrap x=x % 256:=by
  unfold IntKind.wrap
  simp[IntKind.signed,IntKind.bits]
 rw[h3,UInt8.toNat_ofNat']
 omega
def rJ (k p a:Int) (n t:List UInt8) (ua:Int) (un ut:Bool):List UInt8 :=
 let b0:=((zeros 25).set 0 (byteOf k)).set 1 (byteOf p)
 let b1:=if 0<ua then b0.set 2 (byteOf a) else b0
 let b2:=if un=true then spl b1 3 n else b1
 if ut=true then spl b2 15 t else b2
theorem aDk (k p a:Int) (n t:List UInt8) (hn:n.length=12) (ht:t.length=10):rJ k p a n t (jK k) (fU k) (jG k)=oZ k p a n t:=by
 unfold rJ oZ
 generalize fU k=un
 generalize jG k=ut
 generalize jK k=ua
 match n,hn with
 | [a0,b,c,d,e,f,g,h,i,j,l,m],_ =>
  match t,ht with
  | [z0,z1,z2,z3,z4,z5,z6,z7,z8,z9],_ =>
   by_cases hu:0<ua
   ·cases un <;> cases ut <;> simp only[hu] <;> rfl
   cases un <;> cases ut <;> simp only[hu] <;> rfl
set_option maxRecDepth 100000 in
theorem zO (k p a:Int) (n t:List UInt8) (hn:n.length=12) (ht:t.length=10) (w:World) :
  Gives Tryz.prog 126 #[.int .i64 k,.int .i64 p,.int .i64 a,.agg (aJ n),.agg (aJ t)] w (.tuple #[.agg (aJ (keyOf k p a n t)),.int .i64 (gV k p a n t)]):=by
 have hu:=aGB k
 have hnr:=qN n hn
 have htr:=kV t ht
 have hst:=aDk k p a n t hn ht
 have hkw:=tY k
 have hpw:=tY p
 have haw:=tY a
 have hko:keyOf k p a n t=if gV k p a n t=0 then rJ k p a n t (jK k) (fU k) (jG k) else zeros 25:=by rw[hst];rfl
 have he:∀ e,gV k p a n t=e ↔ (if k<1\/6<k then 16
 else if p<0\/4<=p\/(0<jK k/\(a<0\/jK k<=a)) then 5
 else if fU k=true/\dJ n=false then 15
 else if jG k=true/\(aZ t=false\/t=zeros 10) then 14
 else 0)=e:=by intro e;unfold gV;exact Iff.rfl
 generalize keyOf k p a n t=ko at *
 generalize gV k p a n t=er at *
 generalize jK k=ua at *
 generalize fU k=un at *
 generalize jG k=ut at *
 generalize dJ n=nr at *
 generalize aZ t=tr at *
 have HU:=Lib.hid hu
 have HNR:=Lib.hid hnr
 have HTR:=Lib.hid htr
 have HE:=Lib.hid he
 have HKO:=Lib.hid hko
 clear hu hnr htr he hst hko
 unfold Gives
 go_enter Tryz.func126,Tryz.ntmps126
 go_wp2_with (first | (go_at_call 146;refine Gives.use (HU.out _) ?_;intro xs0 d0) | (go_at_call 72;refine Gives.use (HNR.out _) ?_;intro xs1 d1) | (go_at_call 33;refine Gives.use (HTR.out _) ?_;intro xs2 d2))
 all_goals clear HU HNR HTR
 all_goals first
  | (refine bodyPost_ret (v := .tuple #[.agg (aJ (zeros 25)),.int .i64 16]) (aH Tryz.results126 (aO.row rfl nO ?_) ?_) rfl ⟨?_,?_⟩
     rotate_left
     ·simp[aO];done
     ·have e1:er=16:=by
       refine (HE.out _).2 ?_
       clear HE HKO hkw hpw haw
       (repeat' split) <;> first | rfl | (exfalso;simp_all;done) | (exfalso;simp_all;omega)
      rw[HKO.out,e1];rfl
     ·exact blw
     simp[go_sem];done)
  | (refine bodyPost_ret (v := .tuple #[.agg (aJ (zeros 25)),.int .i64 5]) (aH Tryz.results126 (aO.row rfl nO ?_) ?_) rfl ⟨?_,?_⟩
     rotate_left
     ·simp[aO];done
     ·have e1:er=5:=by
       refine (HE.out _).2 ?_
       clear HE HKO hkw hpw haw
       (repeat' split) <;> first | rfl | (exfalso;simp_all;done) | (exfalso;simp_all;omega)
      rw[HKO.out,e1];rfl
     ·exact blw
     simp[go_sem];done)
  | (refine bodyPost_ret (v := .tuple #[.agg (aJ (zeros 25)),.int .i64 15]) (aH Tryz.results126 (aO.row rfl nO ?_) ?_) rfl ⟨?_,?_⟩
     rotate_left
     ·simp[aO];done
     ·have e1:er=15:=by
       refine (HE.out _).2 ?_
       clear HE HKO hkw hpw haw
       (repeat' split) <;> first | rfl | (exfalso;simp_all;done) | (exfalso;simp_all;omega)
      rw[HKO.out,e1];rfl
     ·exact blw
     simp[go_sem];done)
  | (refine bodyPost_ret (v := .tuple #[.agg (aJ (zeros 25)),.int .i64 14]) (aH Tryz.results126 (aO.row rfl nO ?_) ?_) rfl ⟨?_,?_⟩
     rotate_left
     ·simp[aO];done
     ·have e1:er=14:=by
       refine (HE.out _).2 ?_
       clear HE HKO hkw hpw haw
       (repeat' split) <;> first | rfl | (exfalso;simp_all;done) | (exfalso;simp_all;omega)
      rw[HKO.out,e1];rfl
     ·exact blw
     simp[go_sem];done)
  | (refine bodyPost_ret (v := .tuple #[.agg (aJ (rJ k p a n t ua un ut)),.int .i64 0]) (aH Tryz.results126 (aO.row rfl nO ?_) ?_) rfl ⟨?_,?_⟩
     rotate_left
     ·simp[aO];done
     ·have e1:er=0:=by
       refine (HE.out _).2 ?_
       clear HE HKO hkw hpw haw
       (repeat' split) <;> first | rfl | (exfalso;simp_all;done) | (exfalso;simp_all;omega)
      rw[HKO.out,e1];rfl
     ·exact blw
     first
      | (simp[go_sem,rJ, *];done)
      | (have hu0:¬ (0<ua):=by omega
         simp[go_sem,rJ, *];done))
theorem aDj (k p a:Int) (n t:List UInt8) (hn:n.length=12) (ht:t.length=10):(oZ k p a n t).length=25:=by
 unfold oZ
 simp only[List.length_append,List.length_cons,List.length_nil]
 split <;> split <;> simp[hn,ht]
theorem zQ (k p a:Int) (n t:List UInt8) (hn:n.length=12) (ht:t.length=10):(keyOf k p a n t).length=25:=by
 unfold keyOf
 split
 ·exact aDj k p a n t hn ht
 simp
end Go.Proofs.YtcedmfnlkelhkaaGreatDoor
namespace Go.Proofs.YtcedmfnlkelhkaaGreatDoor
set_option maxHeartbeats 40000000
set_option maxRecDepth 100000
open Go.RowKit

set_option maxRecDepth 100000 in
theorem aAb (k:List UInt8) (hk:k.length=25) (w:World):Gives Tryz.prog 132 #[.agg (aJ k)] w (.bool (kT k)):=by
 have hn:((k.take 15).drop 3).length=12:=by simp;omega
 have ht:(k.drop 15).length=10:=by simp;omega
 have ho:=zO (byt k 0).toNat (byt k 1).toNat (byt k 2).toNat _ _ hn ht
 have hl:=zQ (byt k 0).toNat (byt k 1).toNat (byt k 2).toNat _ _ hn ht
 have e3:aFU k=(k.take 15).drop 3:=by unfold aFU;rw[List.drop_take]
 unfold kT
 rw[e3]
 unfold aI5 aI6 kAt aNa
 generalize hko:keyOf ((byt k 0).toNat:Int) ((byt k 1).toNat:Int) ((byt k 2).toNat:Int) ((k.take 15).drop 3) (k.drop 15)=ko at ho hl |-
 generalize gV ((byt k 0).toNat:Int) ((byt k 1).toNat:Int) ((byt k 2).toNat:Int) ((k.take 15).drop 3) (k.drop 15)=er at ho |-
 have HO:=Lib.hid ho
 clear ho hko
 have b0:((byt k 0).toNat:Int)<256:=by have:=(byt k 0).toNat_lt;omega
 have b1:((byt k 1).toNat:Int)<256:=by have:=(byt k 1).toNat_lt;omega
 have b2:((byt k 2).toNat:Int)<256:=by have:=(byt k 2).toNat_lt;omega
 unfold Gives
 go_enter Tryz.func132,Tryz.ntmps132
 go_wp2_with (go_at_call 126;refine Gives.use (HO.out _) ?_;intro xs d)
 all_goals
  go_ret
  refine ⟨?_,?_⟩
  rotate_left
  ·exact blw
  exact congrArg Ending.returned (congrArg Value.bool (by first | (simp[*];done) | (rw[Bool.eq_iff_iff];simp[*];done) | (rw[Bool.eq_iff_iff];simp[*];omega) | (rw[Bool.eq_iff_iff];simp;omega)))
end Go.Proofs.YtcedmfnlkelhkaaGreatDoor
