/- The document's tags: a tag's text; the tag of ten bytes. -/
import Derived.Handy
import Derived.Test.YtcedmfnlkelhkaaGreatDoorJba
import Derived.BigRegion
namespace Go.Proofs.YtcedmfnlkelhkaaGreatDoor
set_option maxHeartbeats 40000000
set_option maxRecDepth 100000
open Go.RowKit

@[go_sem,simp] theorem aNx (x:mZ) (h:0<(bU x).size):(bU x)[0]'h = .string (bs x.1):=id rfl
@[go_sem,simp] theorem aNy (x:mZ) (h:1<(bU x).size):(bU x)[1]'h = .string (bs x.2.1):=id rfl
@[go_sem,simp] theorem aNz (x:mZ) (h:2<(bU x).size):(bU x)[2]'h = .string (bs x.2.2):=id rfl
theorem zC (a b:List UInt8) (h:b ≠ []):bs a++(ByteArray.mk #[45])++bs b=bs (a++dashed b):=by
 unfold dashed
 rw[if_neg h,show (ByteArray.mk #[45]:ByteArray)=bs [45] from rfl,qE,qE]
 simp
theorem aAk (x:mZ) (hx:OkT x) (w:World):Gives Tryz.prog 82 #[.agg (bU x)] w (.string (bs (fD x))):=by
 obtain ⟨a,b,c⟩:=x
 obtain ⟨l1,l2,l3⟩:=hx
 simp only at l1 l2 l3
 have hR:=Lib.hid (show fD (a,b,c)=if a = [] then qU else a++dashed b++dashed c from rfl)
 have hz1:=bD a
 have hz2:=bD b
 have hz3:=bD c
 by_cases h1:a = []
 ·have e1:(a == [])=true:=by rw[h1];rfl
  have HF:=Lib.hid (show fD (a,b,c)=qU by rw[hR.out,if_pos h1])
  clear h1
  unfold Gives
  go_enter Tryz.func82,Tryz.ntmps82
  go_wp2_with fail
  go_ret
  exact ⟨congrArg (fun l=>Ending.returned (Value.string (bs l))) HF.out.symm,blw⟩
 have e1:(a == [])=false:=beq_eq_false_iff_ne.2 h1
 have HF:=Lib.hid (show fD (a,b,c)=a++dashed b++dashed c by rw[hR.out,if_neg h1])
 have b1:(bs a).size<=1000:=by rw[hz1];exact l1
 have b2:(bs b).size<=1000:=by rw[hz2];exact l2
 have b3:(bs c).size<=1000:=by rw[hz3];exact l3
 clear h1 hR hz1 hz2 hz3
 by_cases h2:b = []
 ·have e2:(b == [])=true:=by rw[h2];rfl
  have HD2:=Lib.hid (show a++dashed b=a by rw[h2];simp[dashed])
  by_cases h3:c = []
  ·have e3:(c == [])=true:=by rw[h3];rfl
   have HD3:=Lib.hid (show a++dashed c=a by rw[h3];simp[dashed])
   clear h2 h3
   unfold Gives
   go_enter Tryz.func82,Tryz.ntmps82
   go_wp2_with fail
   go_ret
   exact ⟨congrArg (fun l=>Ending.returned (Value.string (bs l))) (by rw[HF.out,HD2.out,HD3.out]),blw⟩
  have e3:(c == [])=false:=beq_eq_false_iff_ne.2 h3
  have HD3:=Lib.hid (zC a c h3)
  clear h2 h3
  unfold Gives
  go_enter Tryz.func82,Tryz.ntmps82
  go_wp2_with fail
  go_ret
  exact ⟨congrArg (fun z=>Ending.returned (Value.string z)) (HD3.out.trans (congrArg bs (by rw[HF.out,HD2.out]))),blw⟩
 have e2:(b == [])=false:=beq_eq_false_iff_ne.2 h2
 have HD2:=Lib.hid (zC a b h2)
 by_cases h3:c = []
 ·have e3:(c == [])=true:=by rw[h3];rfl
  have HD3:=Lib.hid (show (a++dashed b)++dashed c=a++dashed b by rw[h3];simp[dashed])
  clear h2 h3
  unfold Gives
  go_enter Tryz.func82,Tryz.ntmps82
  go_wp2_with fail
  go_ret
  exact ⟨congrArg (fun z=>Ending.returned (Value.string z)) (HD2.out.trans (congrArg bs (by rw[HF.out,HD3.out]))),blw⟩
 have e3:(c == [])=false:=beq_eq_false_iff_ne.2 h3
 have HD3:=Lib.hid (zC (a++dashed b) c h3)
 clear h2 h3
 unfold Gives
 go_enter Tryz.func82,Tryz.ntmps82
 go_wp2_with fail
 go_ret
 exact ⟨congrArg (fun z=>Ending.returned (Value.string z)) (show bs a++(ByteArray.mk #[45])++bs b++(ByteArray.mk #[45])++bs c=bs (fD (a,b,c)) by rw[HD2.out,HD3.out,HF.out]),blw⟩
theorem split_ok {l:List UInt8} (hl:l.length=10):OkT (cZ l):=by
 have h1:=iG (l.take 3)
 have h2:=iG ((l.drop 3).take 4)
 have h3:=iG (l.drop 7)
 simp only[List.length_take,List.length_drop] at h1 h2 h3
 exact ⟨by show (partT _).length<=1000;omega,by show (partT _).length<=1000;omega,by show (partT _).length<=1000;omega⟩
theorem aJx {x:mZ} (h:aJd x):OkT x:=⟨by have:=h.1.1;omega,by have:=h.2.1.1;omega,by have:=h.2.2.1;omega⟩
theorem aEA {l:List UInt8} (hl:l.length=10):(fD (cZ l)).length<=1000:=by
 have h1:=iG (l.take 3)
 have h2:=iG ((l.drop 3).take 4)
 have h3:=iG (l.drop 7)
 simp only[List.length_take,List.length_drop] at h1 h2 h3
 unfold fD
 split
 ·decide
 have d1:=oH (cZ l).2.1
 have d2:=oH (cZ l).2.2
 rw[List.length_append,List.length_append]
 have e1:(cZ l).1.length<=10:=by show (partT _).length<=10;omega
 have e2:(cZ l).2.1.length<=10:=by show (partT _).length<=10;omega
 have e3:(cZ l).2.2.length<=10:=by show (partT _).length<=10;omega
 omega
@[go_sem ↓ high] theorem aN8 (x y:mZ) (hx:OkT x) (hy:OkT y) (w:World):(Op.equalIn 10000 148 (.agg (bU x)) (.agg (bU y))).run Tryz.prog w = .ok (decide (x=y)) w:=aJt x y hx hy w
theorem aAi (l:List UInt8) (hl:l.length=10) (w:World):Gives Tryz.prog 44 #[.agg (aJ l)] w (.tuple #[.agg (bU (jV l).1),.bool (jV l).2]):=by
 have hro:jV l=if (cZ l).1 = [] then (zT3,decide (cZ l=zT3)) else if iV (fD (cZ l))=some (cZ l) then (cZ l,true) else (zT3,false):=rfl
 have hok:=split_ok hl
 have HRO:=Lib.hid hro
 have HTX:=Lib.hid (aAk (cZ l) hok)
 have HPA:=Lib.hid (aAf (fD (cZ l)) (aEA hl))
 have hst:(cZ l)=(partT (l.take 3),partT ((l.drop 3).take 4),partT (l.drop 7)):=rfl
 obtain ⟨ro,hroe⟩:∃ ro,ro=jV l:=⟨_,rfl⟩
 rw[<-hroe] at HRO |-
 clear hro hroe
 unfold Gives
 go_enter Tryz.func44,Tryz.ntmps44
 go_upto_region 1 with fail
 refine aP ?_
 intro W1 hW1
 obtain ⟨lb,hlb⟩:∃ lb,lb=w.heap.size:=⟨_,rfl⟩
 have hb1:Below w.heap.size w W1:=by rw[hW1];exact ((Below.refl _ w).alloc (Nat.le_refl _) _).alloc (by simp) _
 have hl1:W1.heap[lb]? = some (.cells (aJ l) 71):=by rw[hW1,hlb,aC,if_neg (by simp),aC,if_pos rfl]
 have hr1:W1.heap[lb+1]? = some (.cells (bU zT3) 148):=by rw[hW1,hlb,aC,if_pos (by simp)];rfl
 rw[<-hlb]
 have hrow:yT W1 lb 0 l:=fun j hj=>by rw[Nat.zero_add];exact ((lG hl1 j).1).trans (lS l j hj)
 have h1:yT W1 lb 0 (l.take 3):=hrow.take 3
 have h2:yT W1 lb 3 ((l.drop 3).take 4):=by have:=hrow.part 3 4;rwa [Nat.zero_add] at this
 have h3:yT W1 lb 7 (l.drop 7):=by
  have:=hrow.part 7 3
  rw[Nat.zero_add,List.take_of_length_le (by simp;omega)] at this
  exact this
 have hll:=lt_of_some hr1
 have hll0:lb<W1.heap.size:=by omega
 have C1:=Lib.hid (fun xs d=>nS (l.take 3) lb 0 10 3 (by simp;omega) _ (h1.grow hll0 xs d) (by decide) (by decide))
 have C2:=Lib.hid (fun xs d=>nS ((l.drop 3).take 4) lb 3 7 4 (by simp;omega) _ (h2.grow hll0 xs d) (by decide) (by decide))
 have C3:=Lib.hid (fun xs d=>nS (l.drop 7) lb 7 3 3 (by simp;omega) _ (h3.grow hll0 xs d) (by decide) (by decide))
 have H1:=Lib.hid (And.intro hb1 (And.intro hr1 (And.intro hb1.size hlb)))
 have HST:=Lib.hid hst
 obtain ⟨t1,ht1⟩:∃ t1,t1=partT (l.take 3):=⟨_,rfl⟩
 obtain ⟨t2,ht2⟩:∃ t2,t2=partT ((l.drop 3).take 4):=⟨_,rfl⟩
 obtain ⟨t3,ht3⟩:∃ t3,t3=partT (l.drop 7):=⟨_,rfl⟩
 rw[<-ht1,<-ht2,<-ht3] at HST
 rw[<-ht1] at C1
 rw[<-ht2] at C2
 rw[<-ht3] at C3
 rw[HST.out] at HRO HTX HPA hok
 clear ht1 ht2 ht3 hW1 hb1 hl1 hr1 hrow h1 h2 h3 hst HST hlb
 apply aG (by rfl) [.val _,.val _,.val _,.val _,.val _,.val _,.val _,.new _] 8 (by rfl) [7,8,9,10,11,12,13,4] [7] [] (by rfl) (by rfl) (by decide) (by decide +kernel) (fun _ _ _ _ _ h=>h)
 case hF=>intro x;simp only[over,List.foldl_cons,List.foldl_nil,List.setIfInBounds_toArray,List.set_cons_succ,List.set_cons_zero];exact rfl
 case hops =>
  refine ⟨?o0,?o1,?o2,?o3,?o4,?o5,?o6,?o7,trivial⟩
  case o0 =>
   intro x w1 hH K hK
   obtain ⟨xs,d,rfl⟩:=aA hH.below
   clear hH
   try simp only[World.aB] at hK |-
   try simp only[World.grow_grow] at hK |-
   exact zx
  case o1 =>
   intro x w1 hH K hK
   have e7:x 7=_:=hH.g 0 7
   obtain ⟨xs,d,rfl⟩:=aA hH.below
   clear hH
   try simp only[World.aB] at hK |-
   try simp only[World.grow_grow] at hK |-
   simp only[e7] at hK |-
   clear e7
   go_simp
   go_wp2_with (refine Gives.use (C1.out _ _) ?_;intro ys e)
   exact zu
  case o2 =>
   intro x w1 hH K hK
   obtain ⟨xs,d,rfl⟩:=aA hH.below
   clear hH
   try simp only[World.aB] at hK |-
   try simp only[World.grow_grow] at hK |-
   exact zx
  case o3 =>
   intro x w1 hH K hK
   have e9:x 9=_:=hH.g 2 9
   obtain ⟨xs,d,rfl⟩:=aA hH.below
   clear hH
   try simp only[World.aB] at hK |-
   try simp only[World.grow_grow] at hK |-
   simp only[e9] at hK |-
   clear e9
   go_simp
   go_wp2_with (refine Gives.use (C2.out _ _) ?_;intro ys e)
   exact zu
  case o4 =>
   intro x w1 hH K hK
   obtain ⟨xs,d,rfl⟩:=aA hH.below
   clear hH
   try simp only[World.aB] at hK |-
   try simp only[World.grow_grow] at hK |-
   exact zx
  case o5 =>
   intro x w1 hH K hK
   have e11:x 11=_:=hH.g 4 11
   obtain ⟨xs,d,rfl⟩:=aA hH.below
   clear hH
   try simp only[World.aB] at hK |-
   try simp only[World.grow_grow] at hK |-
   simp only[e11] at hK |-
   clear e11
   go_simp
   go_wp2_with (refine Gives.use (C3.out _ _) ?_;intro ys e)
   exact zu
  case o6 =>
   intro x w1 hH K hK
   have e8:x 8=_:=hH.g 1 8
   have e10:x 10=_:=hH.g 3 10
   have e12:x 12=_:=hH.g 5 12
   obtain ⟨xs,d,rfl⟩:=aA hH.below
   clear hH
   try simp only[World.aB] at hK |-
   try simp only[World.grow_grow] at hK |-
   simp only[e8,e10,e12] at hK |-
   clear e8 e10 e12
   exact zx
  case o7 =>
   intro x w1 hH K hK
   obtain ⟨xs,d,rfl⟩:=aA hH.below
   clear hH
   try simp only[World.aB] at hK |-
   try simp only[World.grow_grow] at hK |-
   go_simp
   go_wp2_with fail
   exact lJ rfl (by simp) (by first | (simp;done) | (simp;omega))
 intro x w1 hH
 have e7:x 7=_:=hH.t 0 7
 have e8:x 8=_:=hH.t 1 8
 have e9:x 9=_:=hH.t 2 9
 have e10:x 10=_:=hH.t 3 10
 have e11:x 11=_:=hH.t 4 11
 have e12:x 12=_:=hH.t 5 12
 have e13:x 13=_:=hH.t 6 13
 obtain ⟨b4,e4,l4,u4,o4⟩:=hH.t 7 4
 obtain ⟨xs,d,rfl⟩:=aA hH.below
 clear hH
 simp only[e7,e8,e9,e10,e11,e12,e13,e4];clear e7 e8 e9 e10 e11 e12 e13 e4
 refine rO o4 l4 u4 ?_
 clear o4
 simp[go_sem] at l4 u4
 simp only[List.drop_succ_cons,List.drop_zero]
 go_upto_region 2 with fail
 refine aP ?_
 intro W2 hW2
 have hb2:Below W1.heap.size W1 W2:=by rw[hW2];exact blw
 have cT:W2.aW b4 0 3=some (bU (t1,t2,t3)):=by rw[hW2];simp[go_sem,u4]
 have lT:b4<W2.heap.size:=by rw[hW2];simpa using u4
 have c0:W2.cell? ⟨b4,0,none⟩=some (.string (bs t1)):=by have:=(dF cT).2 0 (by decide);rwa [Nat.zero_add,aKc] at this
 have hr2:=(hb2.block (lb+1) hll).trans H1.out.2.1
 have lr:=lt_of_some hr2
 have H2:=Lib.hid (And.intro (H1.out.1.trans (hb2.mono H1.out.2.2.1)) (And.intro hr2 (show w.heap.size<=lb+1 by have:=H1.out.2.2.2;omega)))
 have tr:W2.aN (lb+1) 0 3=true:=by simp[World.aN,hr2]
 have okz:OkT zT3:=⟨Nat.zero_le _,Nat.zero_le _,Nat.zero_le _⟩
 have hne:b4≠lb+1:=by omega
 have cL:∀ vs,(W2.lay (lb+1) 0 vs).aW b4 0 3=some (bU (t1,t2,t3)):=fun vs=>(aK (aY hne) 0 3).trans cT
 clear hW2 hb2 hr2 l4 u4 C1 C2 C3 H1 hll hll0
 by_cases h0:t1 = []
 ·have e1:(t1 == [])=true:=by rw[h0];rfl
  have hro:ro=(zT3,decide ((t1,t2,t3)=zT3)):=by rw[HRO.out,if_pos h0]
  obtain ⟨T,hT⟩:∃ T:mZ,T=(t1,t2,t3):=⟨_,rfl⟩
  rw[<-hT] at hro hok cT cL
  obtain ⟨q,hq⟩:∃ q,decide (T=zT3)=q:=⟨_,rfl⟩
  rw[hq] at hro
  have hq3:(T.1 = []/\T.2.1 = []/\T.2.2 = []/\q=true)\/(T.1 = [] /\ ¬ T.2.1 = []/\q=false)\/(T.1 = []/\T.2.1 = [] /\ ¬ T.2.2 = []/\q=false):=by
   have hT1:T.1 = []:=by rw[hT];exact h0
   by_cases h2:T.2.1 = []
   ·by_cases h3:T.2.2 = []
    ·exact .inl ⟨hT1,h2,h3,by rw[<-hq];exact decide_eq_true (Prod.ext hT1 (Prod.ext h2 h3))⟩
    exact .inr (.inr ⟨hT1,h2,h3,by rw[<-hq];exact decide_eq_false (fun e=>h3 (by rw[e];rfl))⟩)
   exact .inr (.inl ⟨hT1,h2,by rw[<-hq];exact decide_eq_false (fun e=>h2 (by rw[e];rfl))⟩)
  have HR:=Lib.hid hro
  rw[<-hT]
  clear h0 hro HRO HTX HPA hT hq
  have hfin:((W2.lay (lb+1) 0 (bU zT3)).aW (lb+1) 0 3)=some (bU zT3):=rF H2.out.2.1 rfl rfl
  have hBf:=Go.RowKit.Below.lay (o:=0) (vs:=bU zT3) H2.out.1 H2.out.2.2
  have HBF:=Lib.hid hBf
  clear hBf
  go_upto_region 3 with fail
  rcases hq3 with ⟨q1,q2,q3,rfl⟩ | ⟨q1,q2,rfl⟩ | ⟨q1,q2,q3,rfl⟩
  ·skip
   go_region
   all_goals
    go_wp2_with fail
    exact bodyPost_ret (v := .tuple #[.agg (bU zT3),.bool true]) (aH Tryz.results44 (aO.row rfl jW (by first | exact hfin | simp[go_sem,hfin])) (by simp[aO])) rfl ⟨congrArg (fun x:mZ×Bool=>Ending.returned (.tuple #[.agg (bU x.1),.bool x.2])) HR.out.symm,by first | exact HBF.out.drewN _ | exact HBF.out.drew | exact (HBF.out.drew).drew | exact ((HBF.out.drew).drew).drew⟩
  ·skip
   go_region
   all_goals
    go_wp2_with fail
    exact bodyPost_ret (v := .tuple #[.agg (bU zT3),.bool false]) (aH Tryz.results44 (aO.row rfl jW (by first | exact hfin | simp[go_sem,hfin])) (by simp[aO])) rfl ⟨congrArg (fun x:mZ×Bool=>Ending.returned (.tuple #[.agg (bU x.1),.bool x.2])) HR.out.symm,by first | exact HBF.out.drewN _ | exact HBF.out.drew | exact (HBF.out.drew).drew | exact ((HBF.out.drew).drew).drew⟩
  skip
  go_region
  all_goals
   go_wp2_with fail
   exact bodyPost_ret (v := .tuple #[.agg (bU zT3),.bool false]) (aH Tryz.results44 (aO.row rfl jW (by first | exact hfin | simp[go_sem,hfin])) (by simp[aO])) rfl ⟨congrArg (fun x:mZ×Bool=>Ending.returned (.tuple #[.agg (bU x.1),.bool x.2])) HR.out.symm,by first | exact HBF.out.drewN _ | exact HBF.out.drew | exact (HBF.out.drew).drew | exact ((HBF.out.drew).drew).drew⟩
 have e1:(t1 == [])=false:=beq_eq_false_iff_ne.2 h0
 have hro:=HRO.out
 rw[if_neg h0] at hro
 obtain ⟨T,hT⟩:∃ T:mZ,T=(t1,t2,t3):=⟨_,rfl⟩
 rw[<-hT] at hro hok cT cL HTX HPA
 rw[<-hT]
 have hcase:(∃ y,nT (fD T)=(y,true)/\OkT y/\((y=T/\ro=(T,true))\/(¬ y=T/\ro=(zT3,false))))\/(nT (fD T)=(zT3,false)/\ro=(zT3,false)):=by
  unfold nT
  cases hx:iV (fD T) with
  | none=>exact .inr ⟨rfl,by rw[hro,hx,if_neg (by simp)]⟩
  | some y =>
   refine .inl ⟨y,rfl,aJx (aAJ hx),?_⟩
   by_cases hy:y=T
   ·exact .inl ⟨hy,by rw[hro,hx,if_pos (by rw[hy])]⟩
   exact .inr ⟨hy,by rw[hro,hx,if_neg (fun e=>hy (Option.some.inj e))]⟩
 have hws:=H2.out.1.size
 clear h0 hro HRO hT
 rcases hcase with ⟨y,hv,hoy,⟨rfl,hr⟩ | ⟨hy,hr⟩⟩ | ⟨hv,hr⟩
 all_goals
  have HR:=Lib.hid hr
  rw[hv] at HPA
  simp only at HPA
  clear hv hr
  go_wp2_with fail
  refine Gives.use (HTX.out _) ?_
  intro xs4 d4
  go_wp2_with fail
  refine Gives.use (HPA.out _) ?_
  intro xs5 d5
  go_upto_region 5 with fail
  refine aP ?_
  intro W3 hW3
  obtain ⟨xb,hxb⟩:∃ xb,xb=W2.heap.size+(xs4.size+xs5.size):=⟨_,rfl⟩
  have hb3:Below W2.heap.size W2 W3:=by rw[hW3];exact blw
  have hx3:∃ z,W3.heap[xb]? = some (.cells (bU z) 148):=⟨_,by rw[hW3,hxb];exact (aC _ _ _).trans (if_pos (by simp))⟩
  rw[<-hxb]
  have hr3:=(hb3.block (lb+1) lr).trans H2.out.2.1
  have cT3:W3.aW b4 0 3=_:=(aK (hb3.block b4 lT) 0 3).trans cT
  have lT3:b4<W3.heap.size:=Nat.lt_of_lt_of_le lT hb3.size
  have lr3:=lt_of_some hr3
  have tr3:W3.aN (lb+1) 0 3=true:=by simp[World.aN,hr3]
  have H3:=Lib.hid (And.intro (H2.out.1.trans (hb3.mono hws)) (And.intro hr3 H2.out.2.2))
  have hfz:=rF (vs:=bU zT3) hr3 (sz:=3) rfl rfl
  have HBZ:=Lib.hid (Go.RowKit.Below.lay (o:=0) (vs:=bU zT3) H3.out.1 H3.out.2.2)
 ·have cx:W3.aW xb 0 3=some (bU y):=aI (by rw[hW3,hxb];exact (aC _ _ _).trans (if_pos (by simp))) rfl
  have lx:=lt_of_some hx3.choose_spec
  have hfy:=rF (vs:=bU y) hr3 (sz:=3) rfl rfl
  have HBY:=Lib.hid (Go.RowKit.Below.lay (o:=0) (vs:=bU y) H3.out.1 H3.out.2.2)
  clear hW3 hxb hb3 hx3 hr3
  go_wp2_with fail
  exact bodyPost_ret (v := .tuple #[.agg (bU y),.bool true]) (aH Tryz.results44 (aO.row rfl jW (by first | exact hfy | simp[go_sem,hfy])) (by simp[aO])) rfl ⟨congrArg (fun x:mZ×Bool=>Ending.returned (.tuple #[.agg (bU x.1),.bool x.2])) HR.out.symm,HBY.out⟩
 ·have cx:W3.aW xb 0 3=some (bU y):=aI (by rw[hW3,hxb];exact (aC _ _ _).trans (if_pos (by simp))) rfl
  have lx:=lt_of_some hx3.choose_spec
  clear hW3 hxb hb3 hx3 hr3
  go_wp2_with fail
  exact bodyPost_ret (v := .tuple #[.agg (bU zT3),.bool false]) (aH Tryz.results44 (aO.row rfl jW (by first | exact hfz | simp[go_sem,hfz])) (by simp[aO])) rfl ⟨congrArg (fun x:mZ×Bool=>Ending.returned (.tuple #[.agg (bU x.1),.bool x.2])) HR.out.symm,HBZ.out⟩
 clear hW3 hxb hb3 hx3 hr3
 go_wp2_with fail
 exact bodyPost_ret (v := .tuple #[.agg (bU zT3),.bool false]) (aH Tryz.results44 (aO.row rfl jW (by first | exact hfz | simp[go_sem,hfz])) (by simp[aO])) rfl ⟨congrArg (fun x:mZ×Bool=>Ending.returned (.tuple #[.agg (bU x.1),.bool x.2])) HR.out.symm,HBZ.out⟩
theorem aBu (k:Int) (w:World):Gives Tryz.prog 93 #[.int .i64 k] w (.tuple #[.int .i64 (jK k),.bool (fU k),.bool (jG k)]):=by
 have key:k=2\/k=3\/k=4\/k=5\/k=6\/((k == 2)=false/\(k == 3)=false/\(k == 4)=false/\(k == 5)=false/\(k == 6)=false):=by
  by_cases h2:k=2; · exact .inl h2
  by_cases h3:k=3; · exact .inr (.inl h3)
  by_cases h4:k=4; · exact .inr (.inr (.inl h4))
  by_cases h5:k=5; · exact .inr (.inr (.inr (.inl h5)))
  by_cases h6:k=6; · exact .inr (.inr (.inr (.inr (.inl h6))))
  exact .inr (.inr (.inr (.inr (.inr ⟨beq_eq_false_iff_ne.2 h2,beq_eq_false_iff_ne.2 h3,beq_eq_false_iff_ne.2 h4,beq_eq_false_iff_ne.2 h5,beq_eq_false_iff_ne.2 h6⟩))))
 have K:=Lib.hid (show ∀ k:Int,(k == 2)=false/\(k == 3)=false/\(k == 4)=false/\(k == 5)=false/\(k == 6)=false->jK k=0/\fU k=false/\jG k=false from by
  rintro k ⟨h2,h3,h4,h5,h6⟩
  simp only[beq_eq_false_iff_ne] at h2 h3 h4 h5 h6
  unfold jK fU jG
  simp[h2,h3,h4,h5,h6])
 unfold Gives
 rcases key with rfl | rfl | rfl | rfl | rfl | ⟨h2,h3,h4,h5,h6⟩
 ·go_enter Tryz.func93,Tryz.ntmps93
  go_wp2_with fail
  exact bodyPost_ret (v := .tuple #[.int .i64 16,.bool false,.bool false]) (by simp[results,Tryz.results93,go_sem]) rfl ⟨rfl,blw⟩
 ·go_enter Tryz.func93,Tryz.ntmps93
  go_wp2_with fail
  exact bodyPost_ret (v := .tuple #[.int .i64 0,.bool false,.bool true]) (by simp[results,Tryz.results93,go_sem]) rfl ⟨rfl,blw⟩
 ·go_enter Tryz.func93,Tryz.ntmps93
  go_wp2_with fail
  exact bodyPost_ret (v := .tuple #[.int .i64 4,.bool false,.bool false]) (by simp[results,Tryz.results93,go_sem]) rfl ⟨rfl,blw⟩
 ·go_enter Tryz.func93,Tryz.ntmps93
  go_wp2_with fail
  exact bodyPost_ret (v := .tuple #[.int .i64 4,.bool true,.bool false]) (by simp[results,Tryz.results93,go_sem]) rfl ⟨rfl,blw⟩
 ·go_enter Tryz.func93,Tryz.ntmps93
  go_wp2_with fail
  exact bodyPost_ret (v := .tuple #[.int .i64 4,.bool true,.bool true]) (by simp[results,Tryz.results93,go_sem]) rfl ⟨rfl,blw⟩
 have K2:=Lib.hid (K.out k ⟨h2,h3,h4,h5,h6⟩)
 clear K
 go_enter Tryz.func93,Tryz.ntmps93
 go_wp2_with fail
 exact bodyPost_ret (v := .tuple #[.int .i64 0,.bool false,.bool false]) (by simp[results,Tryz.results93,go_sem]) rfl ⟨by rw[K2.out.1,K2.out.2.1,K2.out.2.2],blw⟩
@[go_sem ↓ high] theorem aNR (w:World):(Instr.build 114 #[]).run Tryz.prog w = .ok (.agg (rk 0 0 0 (zeros 22))) w:=by kernel_rfl
@[go_sem ↓ high] theorem aNH (w:World):(Instr.build 55 #[]).run Tryz.prog w = .ok (.agg (aJ (zeros 12))) w:=by kernel_rfl
@[go_sem ↓ high] theorem aNG (w:World):(Instr.build 71 #[]).run Tryz.prog w = .ok (.agg (aJ (zeros 10))) w:=by kernel_rfl
def aKZ (a b c:Int) (n t:List UInt8):Array Value:=if gV a b c n t=0 then rk a b (if 0<jK a then c else 0) ((if fU a=true then n else zeros 12)++(if jG a=true then t else zeros 10)) else rk 0 0 0 (zeros 22)
theorem aCf (n:List UInt8):(kU n == []) = !dJ n:=by
 unfold kU
 cases h:dJ n with
 | false=>rfl
 | true =>
  rw[if_pos rfl]
  unfold dJ at h
  simp only[Bool.and_eq_true] at h
  have h2:=h.1
  unfold fP at h2
  simp only[Bool.and_eq_true,decide_eq_true_eq] at h2
  cases hf:dV n with
  | nil=>rw[hf] at h2;simp at h2
  | cons c r=>rfl
theorem aGz {w:World} {b:Nat} {c vs:Array Value} {t:TypeId} (h:w.heap[b]? = some (.cells c t)) (o:Nat):(w.lay b o vs).heap[b]? = some (.cells (bT c o vs) t):=by
 simp[World.lay,Array.getElem?_modify,h]
theorem aAL (a b c:Int) {l:List UInt8} (hl:l.length=22):(rk a b c l).size=25:=by rw[iY,hl]
def KF (w:World) (kb:Nat) (K:Array Value) (W:World):Prop :=
 Below w.heap.size w W/\W.heap[kb]? = some (.cells K 114)/\W.heap[kb+1]? = some (.cells (rk 0 0 0 (zeros 22)) 114)/\w.heap.size<=kb
theorem KF.step {w:World} {kb:Nat} {K:Array Value} {W W':World} (h:KF w kb K W) (hb:Below W.heap.size W W'):KF w kb K W' :=
 ⟨h.1.trans (hb.mono h.1.size),(hb.block kb (lt_of_some h.2.1)).trans h.2.1,(hb.block (kb+1) (lt_of_some h.2.2.1)).trans h.2.2.1,h.2.2.2⟩
theorem KF.fin {w:World} {kb:Nat} {K:Array Value} {W:World} (h:KF w kb K W) (a b c:Int) (l:List UInt8) (hl:l.length=22):(W.lay (kb+1) 0 (rk a b c l)).aW (kb+1) 0 25=some (rk a b c l)/\Below w.heap.size w (W.lay (kb+1) 0 (rk a b c l)) :=
 ⟨rF h.2.2.1 (aAL _ _ _ (by simp)) (aAL _ _ _ hl),Go.RowKit.Below.lay h.1 (by have:=h.2.2.2;omega)⟩
theorem KF.there {w:World} {kb:Nat} {K:Array Value} {W:World} (h:KF w kb K W):W.aN (kb+1) 0 25=true:=by simp[World.aN,h.2.2.1,iY]
theorem KF.set2 {w:World} {kb:Nat} {a b c:Int} {l:List UInt8} {W:World} (h:KF w kb (rk a b c l) W):KF w kb (rk a b 0 l) (W.setCell ⟨kb,2,none⟩ (.int .i64 0)) :=
 ⟨h.1.setCell (p:=⟨kb,2,none⟩) h.2.2.2 _,by have:=aEE h.2.1 2 (.int .i64 0);rwa [aK1] at this,(Below.heap_setCell W ⟨kb,2,none⟩ _ (kb+1) (by show kb+1≠kb;omega)).trans h.2.2.1,h.2.2.2⟩
theorem aP6 {n t:List UInt8} (hn:n.length=12):spl (n++t) 0 (zeros 12)=zeros 12++t:=by
 have e:(n++t).drop (0+(zeros 12).length)=t:=List.drop_left' (by rw[hn];rfl)
 unfold spl
 rw[e,List.take_zero,List.nil_append,List.take_of_length_le]
 simp[hn,zeros]
 omega
theorem aP7 {n t:List UInt8} (hn:n.length=12) (ht:t.length=10):spl (n++t) 12 (zeros 10)=n++zeros 10:=by
 have e:(n++t).drop (12+(zeros 10).length) = []:=List.drop_of_length_le (by simp[hn,ht,zeros])
 unfold spl
 rw[e,List.take_left' hn,List.append_nil,List.take_of_length_le]
 simp[hn,ht,zeros]
theorem KF.aGP {w:World} {kb:Nat} {a b c:Int} {n t:List UInt8} {W:World} (hn:n.length=12) (ht:t.length=10) (h:KF w kb (rk a b c (n++t)) W):KF w kb (rk a b c (zeros 12++t)) (W.lay kb 3 (aJ (zeros 12))) :=
 ⟨Go.RowKit.Below.lay h.1 h.2.2.2,by have:=aGz (vs:=aJ (zeros 12)) h.2.1 3;rwa [aDH _ _ _ _ _ _ (by decide) (by simp[hn,ht]),aP6 hn] at this,(aY (by omega)).trans h.2.2.1,h.2.2.2⟩
theorem KF.aNd {w:World} {kb:Nat} {a b c:Int} {n t:List UInt8} {W:World} (hn:n.length=12) (ht:t.length=10) (h:KF w kb (rk a b c (n++t)) W):KF w kb (rk a b c (n++zeros 10)) (W.lay kb 15 (aJ (zeros 10))) :=
 ⟨Go.RowKit.Below.lay h.1 h.2.2.2,by have:=aGz (vs:=aJ (zeros 10)) h.2.1 15;rwa [aDH _ _ _ _ _ _ (by decide) (by simp[hn,ht]),aP7 hn ht] at this,(aY (by omega)).trans h.2.2.1,h.2.2.2⟩
theorem KF.pX {w:World} {kb:Nat} {a b c:Int} {l:List UInt8} {W:World} (h:KF w kb (rk a b c l) W) (hl:l.length=22):W.aN kb 3 12=true/\W.aN kb 15 10=true:=by simp[World.aN,h.2.1,iY,hl]
theorem pG {W:World} {kb:Nat} {a b c:Int} {n t:List UInt8} {ty:TypeId} (hn:n.length=12) (ht:t.length=10) (h:W.heap[kb]? = some (.cells (rk a b c (n++t)) ty)) :
  W.cell? ⟨kb,0,none⟩=some (.int .i64 a)/\W.cell? ⟨kb,1,none⟩=some (.int .i64 b)/\W.cell? ⟨kb,2,none⟩=some (.int .i64 c)/\W.aW kb 3 12=some (aJ n)/\W.aW kb 15 10=some (aJ t):=by
 have hc:=aI h (aAL a b c (show (n++t).length=22 by simp[hn,ht]))
 refine ⟨((lG h 0).1).trans (aQ1 _ _ _ _),((lG h 1).1).trans (aQ2 _ _ _ _),((lG h 2).1).trans (aQ4 _ _ _ _),?_,?_⟩
 ·have:=iC hc (i:=3) (m:=12) (by decide)
  rw[Nat.zero_add] at this
  rw[this,aBV _ _ _ _ _ _ (by decide)]
  congr 2
  rw[show 3+12 - 3=12 from rfl,show 3 - 3=0 from rfl,List.drop_zero,List.take_left' hn]
 have:=iC hc (i:=15) (m:=10) (by decide)
 rw[Nat.zero_add] at this
 rw[this,aBV _ _ _ _ _ _ (by decide)]
 congr 2
 rw[show 15+10 - 3=22 from rfl,show 15 - 3=12 from rfl,List.take_of_length_le (by simp[hn,ht]),List.drop_left' hn]
theorem aDz (a b c ua:Int) (un ut:Bool) (n t:List UInt8) (hn:n.length=12) (ht:t.length=10) (hua:jK a=ua) (hun:fU a=un) (hut:jG a=ut) (hu0:ua=0\/0<ua) (w:World) :
  Gives Tryz.prog 62 #[.agg (rk a b c (n++t))] w (.tuple #[.agg (aKZ a b c n t),.int .i64 (gV a b c n t)]):=by
 have HU:=Lib.hid (fun w=>show Gives Tryz.prog 93 #[.int .i64 a] w (.tuple #[.int .i64 ua,.bool un,.bool ut]) by have:=aBu a w;rwa [hua,hun,hut] at this)
 have hke:gV a b c n t=if a<1\/6<a then 16 else if b<0\/4<=b\/(0<ua/\(c<0\/ua<=c)) then 5 else if un=true/\dJ n=false then 15 else if ut=true/\(aZ t=false\/t=zeros 10) then 14 else 0:=by unfold gV;rw[hua,hun,hut]
 have hrk:aKZ a b c n t=if gV a b c n t=0 then rk a b (if 0<ua then c else 0) ((if un=true then n else zeros 12)++(if ut=true then t else zeros 10)) else rk 0 0 0 (zeros 22):=by unfold aKZ;rw[hua,hun,hut]
 obtain ⟨e,he⟩:∃ e,e=gV a b c n t:=⟨_,rfl⟩
 obtain ⟨r,hr⟩:∃ r,r=aKZ a b c n t:=⟨_,rfl⟩
 rw[<-he,<-hr]
 rw[<-he] at hke hrk
 rw[<-hr] at hrk
 have HKE:=Lib.hid (And.intro hke hrk)
 have HTX:=Lib.hid (aAj n hn)
 have HTG:=Lib.hid (fun w=>aAi t ht w)
 have hnt:=aCf n
 have hrr:=kJ ht
 have hrl:=aF8 ht
 have HRL:=Lib.hid hrl
 rw[hrr] at HTG
 clear hke hrk he hr hua hun hut hrr hrl
 unfold Gives
 go_enter Tryz.func62,Tryz.ntmps62
 go_wp2_with fail
 refine Gives.use (HU.out _) ?_
 intro xs1 d1
 go_upto_region 2 with fail
 refine aP ?_
 intro W1 hW1
 obtain ⟨kb,hkb⟩:∃ kb,kb=w.heap.size:=⟨_,rfl⟩
 have h1:KF w kb (rk a b c (n++t)) W1:=by
  rw[hW1,hkb]
  refine ⟨blw,?_,?_,Nat.le_refl _⟩
  ·rw[World.bQ _ _ _ (by first | (simp;done) | (simp;omega)),aC,if_neg (by simp),aC,if_pos rfl]
  rw[World.bQ _ _ _ (by simp),aC,if_pos (by simp)]
 obtain ⟨c0,c1,c2,cn,ct⟩:=pG hn ht h1.2.1
 have lr:=lt_of_some h1.2.2.1
 have lk:=lt_of_some h1.2.1
 have tr:W1.aN (kb+1) 0 25=true:=h1.there
 rw[<-hkb]
 have H1:=Lib.hid h1
 clear hW1 hkb h1 HU
 by_cases hA:a<1\/6<a
 ·have hres:e=16/\r=rk 0 0 0 (zeros 22):=by
   obtain ⟨x1,x2⟩:=HKE.out
   rw[if_pos hA] at x1
   exact ⟨x1,by rw[x2,x1,if_neg (by decide)]⟩
  obtain ⟨rfl,hr⟩:=hres
  have HR:=Lib.hid hr
  clear HKE hr
  have hfin:=(H1.out.fin 0 0 0 (zeros 22) (by simp)).1
  have hA':a<1\/(¬ a<1/\6<a):=by omega
  clear hA
  rcases hA' with g1 | ⟨g1,g2⟩
  all_goals
   go_wp2_with fail
   exact bodyPost_ret (v := .tuple #[.agg (rk 0 0 0 (zeros 22)),.int .i64 16]) (aH Tryz.results62 (aO.row rfl dR (by first | exact hfin | simp[go_sem,hfin])) (by simp[aO])) rfl ⟨by rw[HR.out],(H1.out.fin 0 0 0 (zeros 22) (by simp)).2⟩
 have hA1:¬ a<1:=fun h=>hA (.inl h)
 have hA2:¬ 6<a:=fun h=>hA (.inr h)
 obtain ⟨x1,x2⟩:=HKE.out
 rw[if_neg hA] at x1
 clear HKE hA
 go_upto_region 4 with fail
 by_cases hB:b<0\/4<=b\/(0<ua/\(c<0\/ua<=c))
 ·have hres:e=5/\r=rk 0 0 0 (zeros 22):=by
   rw[if_pos hB] at x1
   exact ⟨x1,by rw[x2,x1,if_neg (by decide)]⟩
  obtain ⟨rfl,hr⟩:=hres
  have HR:=Lib.hid hr
  clear x1 x2 hr
  have hfin:=(H1.out.fin 0 0 0 (zeros 22) (by simp)).1
  have hB':b<0\/(¬ b<0/\3<b)\/(¬ b<0 /\ ¬ 3<b/\0<ua/\c<0)\/(¬ b<0 /\ ¬ 3<b/\0<ua /\ ¬ c<0/\ua<=c):=by omega
  clear hB hu0
  rcases hB' with g1 | ⟨g1,g2⟩ | ⟨g1,g2,g3,g4⟩ | ⟨g1,g2,g3,g4,g5⟩
  all_goals
   go_wp2_with fail
   exact bodyPost_ret (v := .tuple #[.agg (rk 0 0 0 (zeros 22)),.int .i64 5]) (aH Tryz.results62 (aO.row rfl dR (by first | exact hfin | simp[go_sem,hfin])) (by simp[aO])) rfl ⟨by rw[HR.out],(H1.out.fin 0 0 0 (zeros 22) (by simp)).2⟩
 rw[if_neg hB] at x1
 have g1:¬ b<0:=fun h=>hB (.inl h)
 have g2:¬ 3<b:=fun h=>hB (.inr (.inl (by omega)))
 have hu:(ua=0 /\ ¬ 0<ua/\(ua == 0)=true)\/(0<ua /\ ¬ c<0 /\ ¬ ua<=c/\(ua == 0)=false):=by
  rcases hu0 with h | h
  ·exact .inl ⟨h,by omega,by rw[h];rfl⟩
  exact .inr ⟨h,fun h2=>hB (.inr (.inr ⟨h,.inl h2⟩)),fun h2=>hB (.inr (.inr ⟨h,.inr h2⟩)),by rw[beq_eq_false_iff_ne];omega⟩
 have HX:=Lib.hid (And.intro x1 x2)
 clear x1 x2 hB hu0
 -- the name
 have hname:un=false\/(un=true/\dJ n=false)\/(un=true/\dJ n=true):=by cases un <;> cases dJ n <;> simp
 rcases hname with rfl | ⟨rfl,hnr⟩ | ⟨rfl,hnr⟩
 ·rcases hu with ⟨u1,u2,u3⟩ | ⟨u1,u2,u3,u4⟩
  ·go_upto_region 8 with fail
   refine aP ?_
   intro W2 hW2
   have hb2:Below W1.heap.size W1 W2:=by rw[hW2];first | exact Below.refl _ _ | exact aS _ _
   have h2:=H1.out.step hb2
   have c15:=(pG hn ht h2.2.1).2.2.2.2
   have lk2:=lt_of_some h2.2.1
   have H2:=Lib.hid h2
   clear hW2 hb2 h2 c0 c1 c2 cn ct lr lk tr
   go_wp2_with fail
   refine Gives.use (HTG.out _) ?_
   intro xs3 d3
   go_upto_region 9 with fail
   refine aP ?_
   intro W3 hW3
   obtain ⟨tb,htb⟩:∃ tb,tb=W2.heap.size+xs3.size:=⟨_,rfl⟩
   have hb3:Below W2.heap.size W2 W3:=by rw[hW3];exact blw
   have ht3:W3.heap[tb]? = some (.cells (bU (jV t).1) 148):=by rw[hW3,htb];exact (aC _ _ _).trans (if_pos (by simp))
   rw[<-htb]
   have h3:=H2.out.step hb3
   have ctl:W3.cell? ⟨tb,0,none⟩=some (.string (bs (jV t).1.1)):=(lG ht3 0).1
   have lt3:=lt_of_some ht3
   have lr3:=lt_of_some h3.2.2.1
   have tr3:=h3.there
   have ck3:=(pG hn ht h3.2.1).2.2.1
   have fk3:=(lG h3.2.1 2).2
   have lk3:=lt_of_some h3.2.1
   have tn3:W3.aN kb 3 12=true:=by simp[World.aN,h3.2.1,iY,hn,ht]
   have tt3:W3.aN kb 15 10=true:=by simp[World.aN,h3.2.1,iY,hn,ht]
   obtain ⟨p1,p2⟩:=h3.set2.pX (by simp[hn,ht])
   obtain ⟨p3,p4⟩:=(h3.aGP hn ht).pX (by simp[ht,zeros])
   obtain ⟨p5,p6⟩:=(h3.set2.aGP hn ht).pX (by simp[ht,zeros])
   have H3:=Lib.hid h3
   clear hW3 htb hb3 ht3 h3 c15 lk2
   have htag:ut=false\/(ut=true/\aZ t=false)\/(ut=true/\aZ t=true/\((jV t).1.1 == [])=true/\t=zeros 10)\/(ut=true/\aZ t=true/\((jV t).1.1 == [])=false /\ ¬ t=zeros 10):=by
    cases ut with
    | false=>exact .inl rfl
    | true =>
     cases htr:aZ t with
     | false=>exact .inr (.inl ⟨rfl,rfl⟩)
     | true =>
      have h:=HRL.out (by rw[kJ ht];exact htr)
      by_cases hz:t=zeros 10
      ·exact .inr (.inr (.inl ⟨rfl,rfl,by rw[h.2 hz];rfl,hz⟩))
      exact .inr (.inr (.inr ⟨rfl,rfl,by rw[beq_eq_false_iff_ne];exact fun e=>hz (h.1 e),hz⟩))
   clear HRL
   generalize (jV t).1=tg at *
   have hfz:=(H3.out.fin 0 0 0 (zeros 22) (by simp)).1
   rcases htag with rfl | ⟨rfl,q1⟩ | ⟨rfl,q1,q2,q3⟩ | ⟨rfl,q1,q2,q3⟩
   ·have hres:e=0/\r=rk a b 0 (zeros 12++zeros 10):=by
     obtain ⟨x1,x2⟩:=HX.out
     rw[if_neg (fun h=>by cases h.1),if_neg (fun h=>by cases h.1)] at x1
     refine ⟨x1,?_⟩
     rw[x2,if_pos x1,if_neg (by omega)]
     rfl
    obtain ⟨rfl,hr⟩:=hres
    have HR:=Lib.hid hr
    clear HX hr
    go_upto_region 17 with fail
    refine aP ?_
    intro W4 hW4
    have h4:KF w kb (rk a b 0 (zeros 12++zeros 10)) W4:=by rw[hW4];exact (((H3.out).set2).aGP hn ht).aNd (by simp[zeros]) ht
    have hl22:(zeros 12++zeros 10).length=22:=by simp[zeros]
    have c25:=aI h4.2.1 (aAL a b 0 hl22)
    have lk4:=lt_of_some h4.2.1
    have tr4:=h4.there
    have hfin:=(h4.fin a b 0 _ hl22).1
    have HB4:=Lib.hid (h4.fin a b 0 _ hl22).2
    clear hW4 h4
    go_wp2_with fail
    exact bodyPost_ret (v := .tuple #[.agg (rk a b 0 (zeros 12++zeros 10)),.int .i64 0]) (aH Tryz.results62 (aO.row rfl dR (by first | exact hfin | simp[go_sem,hfin])) (by simp[aO])) rfl ⟨by rw[HR.out],HB4.out⟩
   ·have hres:e=14/\r=rk 0 0 0 (zeros 22):=by
     obtain ⟨x1,x2⟩:=HX.out
     rw[if_neg (fun h=>by cases h.1),if_pos ⟨rfl,.inl q1⟩] at x1
     exact ⟨x1,by rw[x2,x1,if_neg (by decide)]⟩
    obtain ⟨rfl,hr⟩:=hres
    have HR:=Lib.hid hr
    clear HX hr
    go_wp2_with fail
    exact bodyPost_ret (v := .tuple #[.agg (rk 0 0 0 (zeros 22)),.int .i64 14]) (aH Tryz.results62 (aO.row rfl dR (by first | exact hfz | simp[go_sem,hfz])) (by simp[aO])) rfl ⟨by rw[HR.out],(H3.out.fin 0 0 0 (zeros 22) (by simp)).2⟩
   ·have hres:e=14/\r=rk 0 0 0 (zeros 22):=by
     obtain ⟨x1,x2⟩:=HX.out
     rw[if_neg (fun h=>by cases h.1),if_pos ⟨rfl,.inr q3⟩] at x1
     exact ⟨x1,by rw[x2,x1,if_neg (by decide)]⟩
    obtain ⟨rfl,hr⟩:=hres
    have HR:=Lib.hid hr
    clear HX hr
    go_wp2_with fail
    exact bodyPost_ret (v := .tuple #[.agg (rk 0 0 0 (zeros 22)),.int .i64 14]) (aH Tryz.results62 (aO.row rfl dR (by first | exact hfz | simp[go_sem,hfz])) (by simp[aO])) rfl ⟨by rw[HR.out],(H3.out.fin 0 0 0 (zeros 22) (by simp)).2⟩
   have hres:e=0/\r=rk a b 0 (zeros 12++t):=by
    obtain ⟨x1,x2⟩:=HX.out
    rw[if_neg (fun h=>by cases h.1),if_neg (fun h=>h.2.elim (fun h2=>by rw[q1] at h2;cases h2) q3)] at x1
    refine ⟨x1,?_⟩
    rw[x2,if_pos x1,if_neg (by omega)]
    rfl
   obtain ⟨rfl,hr⟩:=hres
   have HR:=Lib.hid hr
   clear HX hr
   go_upto_region 17 with fail
   refine aP ?_
   intro W4 hW4
   have h4:KF w kb (rk a b 0 (zeros 12++t)) W4:=by rw[hW4];exact ((H3.out).set2).aGP hn ht
   have hl22:(zeros 12++t).length=22:=by simp[ht,zeros]
   have c25:=aI h4.2.1 (aAL a b 0 hl22)
   have lk4:=lt_of_some h4.2.1
   have tr4:=h4.there
   have hfin:=(h4.fin a b 0 _ hl22).1
   have HB4:=Lib.hid (h4.fin a b 0 _ hl22).2
   clear hW4 h4
   go_wp2_with fail
   exact bodyPost_ret (v := .tuple #[.agg (rk a b 0 (zeros 12++t)),.int .i64 0]) (aH Tryz.results62 (aO.row rfl dR (by first | exact hfin | simp[go_sem,hfin])) (by simp[aO])) rfl ⟨by rw[HR.out],HB4.out⟩
  go_upto_region 8 with fail
  refine aP ?_
  intro W2 hW2
  have hb2:Below W1.heap.size W1 W2:=by rw[hW2];first | exact Below.refl _ _ | exact aS _ _
  have h2:=H1.out.step hb2
  have c15:=(pG hn ht h2.2.1).2.2.2.2
  have lk2:=lt_of_some h2.2.1
  have H2:=Lib.hid h2
  clear hW2 hb2 h2 c0 c1 c2 cn ct lr lk tr
  go_wp2_with fail
  refine Gives.use (HTG.out _) ?_
  intro xs3 d3
  go_upto_region 9 with fail
  refine aP ?_
  intro W3 hW3
  obtain ⟨tb,htb⟩:∃ tb,tb=W2.heap.size+xs3.size:=⟨_,rfl⟩
  have hb3:Below W2.heap.size W2 W3:=by rw[hW3];exact blw
  have ht3:W3.heap[tb]? = some (.cells (bU (jV t).1) 148):=by rw[hW3,htb];exact (aC _ _ _).trans (if_pos (by simp))
  rw[<-htb]
  have h3:=H2.out.step hb3
  have ctl:W3.cell? ⟨tb,0,none⟩=some (.string (bs (jV t).1.1)):=(lG ht3 0).1
  have lt3:=lt_of_some ht3
  have lr3:=lt_of_some h3.2.2.1
  have tr3:=h3.there
  have ck3:=(pG hn ht h3.2.1).2.2.1
  have fk3:=(lG h3.2.1 2).2
  have lk3:=lt_of_some h3.2.1
  have tn3:W3.aN kb 3 12=true:=by simp[World.aN,h3.2.1,iY,hn,ht]
  have tt3:W3.aN kb 15 10=true:=by simp[World.aN,h3.2.1,iY,hn,ht]
  obtain ⟨p1,p2⟩:=h3.set2.pX (by simp[hn,ht])
  obtain ⟨p3,p4⟩:=(h3.aGP hn ht).pX (by simp[ht,zeros])
  obtain ⟨p5,p6⟩:=(h3.set2.aGP hn ht).pX (by simp[ht,zeros])
  have H3:=Lib.hid h3
  clear hW3 htb hb3 ht3 h3 c15 lk2
  have htag:ut=false\/(ut=true/\aZ t=false)\/(ut=true/\aZ t=true/\((jV t).1.1 == [])=true/\t=zeros 10)\/(ut=true/\aZ t=true/\((jV t).1.1 == [])=false /\ ¬ t=zeros 10):=by
   cases ut with
   | false=>exact .inl rfl
   | true =>
    cases htr:aZ t with
    | false=>exact .inr (.inl ⟨rfl,rfl⟩)
    | true =>
     have h:=HRL.out (by rw[kJ ht];exact htr)
     by_cases hz:t=zeros 10
     ·exact .inr (.inr (.inl ⟨rfl,rfl,by rw[h.2 hz];rfl,hz⟩))
     exact .inr (.inr (.inr ⟨rfl,rfl,by rw[beq_eq_false_iff_ne];exact fun e=>hz (h.1 e),hz⟩))
  clear HRL
  generalize (jV t).1=tg at *
  have hfz:=(H3.out.fin 0 0 0 (zeros 22) (by simp)).1
  rcases htag with rfl | ⟨rfl,q1⟩ | ⟨rfl,q1,q2,q3⟩ | ⟨rfl,q1,q2,q3⟩
  ·have hres:e=0/\r=rk a b c (zeros 12++zeros 10):=by
    obtain ⟨x1,x2⟩:=HX.out
    rw[if_neg (fun h=>by cases h.1),if_neg (fun h=>by cases h.1)] at x1
    refine ⟨x1,?_⟩
    rw[x2,if_pos x1,if_pos (by omega)]
    rfl
   obtain ⟨rfl,hr⟩:=hres
   have HR:=Lib.hid hr
   clear HX hr
   go_upto_region 17 with fail
   refine aP ?_
   intro W4 hW4
   have h4:KF w kb (rk a b c (zeros 12++zeros 10)) W4:=by rw[hW4];exact ((H3.out).aGP hn ht).aNd (by simp[zeros]) ht
   have hl22:(zeros 12++zeros 10).length=22:=by simp[zeros]
   have c25:=aI h4.2.1 (aAL a b c hl22)
   have lk4:=lt_of_some h4.2.1
   have tr4:=h4.there
   have hfin:=(h4.fin a b c _ hl22).1
   have HB4:=Lib.hid (h4.fin a b c _ hl22).2
   clear hW4 h4
   go_wp2_with fail
   exact bodyPost_ret (v := .tuple #[.agg (rk a b c (zeros 12++zeros 10)),.int .i64 0]) (aH Tryz.results62 (aO.row rfl dR (by first | exact hfin | simp[go_sem,hfin])) (by simp[aO])) rfl ⟨by rw[HR.out],HB4.out⟩
  ·have hres:e=14/\r=rk 0 0 0 (zeros 22):=by
    obtain ⟨x1,x2⟩:=HX.out
    rw[if_neg (fun h=>by cases h.1),if_pos ⟨rfl,.inl q1⟩] at x1
    exact ⟨x1,by rw[x2,x1,if_neg (by decide)]⟩
   obtain ⟨rfl,hr⟩:=hres
   have HR:=Lib.hid hr
   clear HX hr
   go_wp2_with fail
   exact bodyPost_ret (v := .tuple #[.agg (rk 0 0 0 (zeros 22)),.int .i64 14]) (aH Tryz.results62 (aO.row rfl dR (by first | exact hfz | simp[go_sem,hfz])) (by simp[aO])) rfl ⟨by rw[HR.out],(H3.out.fin 0 0 0 (zeros 22) (by simp)).2⟩
  ·have hres:e=14/\r=rk 0 0 0 (zeros 22):=by
    obtain ⟨x1,x2⟩:=HX.out
    rw[if_neg (fun h=>by cases h.1),if_pos ⟨rfl,.inr q3⟩] at x1
    exact ⟨x1,by rw[x2,x1,if_neg (by decide)]⟩
   obtain ⟨rfl,hr⟩:=hres
   have HR:=Lib.hid hr
   clear HX hr
   go_wp2_with fail
   exact bodyPost_ret (v := .tuple #[.agg (rk 0 0 0 (zeros 22)),.int .i64 14]) (aH Tryz.results62 (aO.row rfl dR (by first | exact hfz | simp[go_sem,hfz])) (by simp[aO])) rfl ⟨by rw[HR.out],(H3.out.fin 0 0 0 (zeros 22) (by simp)).2⟩
  have hres:e=0/\r=rk a b c (zeros 12++t):=by
   obtain ⟨x1,x2⟩:=HX.out
   rw[if_neg (fun h=>by cases h.1),if_neg (fun h=>h.2.elim (fun h2=>by rw[q1] at h2;cases h2) q3)] at x1
   refine ⟨x1,?_⟩
   rw[x2,if_pos x1,if_pos (by omega)]
   rfl
  obtain ⟨rfl,hr⟩:=hres
  have HR:=Lib.hid hr
  clear HX hr
  go_upto_region 17 with fail
  refine aP ?_
  intro W4 hW4
  have h4:KF w kb (rk a b c (zeros 12++t)) W4:=by rw[hW4];exact (H3.out).aGP hn ht
  have hl22:(zeros 12++t).length=22:=by simp[ht,zeros]
  have c25:=aI h4.2.1 (aAL a b c hl22)
  have lk4:=lt_of_some h4.2.1
  have tr4:=h4.there
  have hfin:=(h4.fin a b c _ hl22).1
  have HB4:=Lib.hid (h4.fin a b c _ hl22).2
  clear hW4 h4
  go_wp2_with fail
  exact bodyPost_ret (v := .tuple #[.agg (rk a b c (zeros 12++t)),.int .i64 0]) (aH Tryz.results62 (aO.row rfl dR (by first | exact hfin | simp[go_sem,hfin])) (by simp[aO])) rfl ⟨by rw[HR.out],HB4.out⟩
 ·have hres:e=15/\r=rk 0 0 0 (zeros 22):=by
   obtain ⟨x1,x2⟩:=HX.out
   rw[if_pos ⟨rfl,hnr⟩] at x1
   exact ⟨x1,by rw[x2,x1,if_neg (by decide)]⟩
  obtain ⟨rfl,hr⟩:=hres
  have HR:=Lib.hid hr
  have hn2:(kU n == [])=true:=by rw[hnt,hnr];rfl
  have hfin:=(H1.out.fin 0 0 0 (zeros 22) (by simp)).1
  clear HX hr hnt hnr
  rcases hu with ⟨u1,u2,u3⟩ | ⟨u1,u2,u3,u4⟩
  all_goals
   go_wp2_with fail
   refine Gives.use (HTX.out _) ?_
   intro xs2 d2
   go_wp2_with fail
   exact bodyPost_ret (v := .tuple #[.agg (rk 0 0 0 (zeros 22)),.int .i64 15]) (aH Tryz.results62 (aO.row rfl dR (by first | exact hfin | exact (aK (World.bQ _ _ _ (by simpa using lr)) _ _).trans hfin | simp[go_sem,hfin])) (by simp[aO])) rfl ⟨by rw[HR.out],((H1.out.fin 0 0 0 (zeros 22) (by simp)).2).grow (by have:=H1.out.1.size;simp;omega) _ _⟩
 have hn2:(kU n == [])=false:=by rw[hnt,hnr];rfl
 rcases hu with ⟨u1,u2,u3⟩ | ⟨u1,u2,u3,u4⟩
 ·go_wp2_with fail
  refine Gives.use (HTX.out _) ?_
  intro xs2 d2
  go_upto_region 8 with fail
  refine aP ?_
  intro W2 hW2
  have hb2:Below W1.heap.size W1 W2:=by rw[hW2];first | exact Below.refl _ _ | exact aS _ _
  have h2:=H1.out.step hb2
  have c15:=(pG hn ht h2.2.1).2.2.2.2
  have lk2:=lt_of_some h2.2.1
  have H2:=Lib.hid h2
  clear hW2 hb2 h2 c0 c1 c2 cn ct lr lk tr
  go_wp2_with fail
  refine Gives.use (HTG.out _) ?_
  intro xs3 d3
  go_upto_region 9 with fail
  refine aP ?_
  intro W3 hW3
  obtain ⟨tb,htb⟩:∃ tb,tb=W2.heap.size+xs3.size:=⟨_,rfl⟩
  have hb3:Below W2.heap.size W2 W3:=by rw[hW3];exact blw
  have ht3:W3.heap[tb]? = some (.cells (bU (jV t).1) 148):=by rw[hW3,htb];exact (aC _ _ _).trans (if_pos (by simp))
  rw[<-htb]
  have h3:=H2.out.step hb3
  have ctl:W3.cell? ⟨tb,0,none⟩=some (.string (bs (jV t).1.1)):=(lG ht3 0).1
  have lt3:=lt_of_some ht3
  have lr3:=lt_of_some h3.2.2.1
  have tr3:=h3.there
  have ck3:=(pG hn ht h3.2.1).2.2.1
  have fk3:=(lG h3.2.1 2).2
  have lk3:=lt_of_some h3.2.1
  have tn3:W3.aN kb 3 12=true:=by simp[World.aN,h3.2.1,iY,hn,ht]
  have tt3:W3.aN kb 15 10=true:=by simp[World.aN,h3.2.1,iY,hn,ht]
  obtain ⟨p1,p2⟩:=h3.set2.pX (by simp[hn,ht])
  obtain ⟨p3,p4⟩:=(h3.aGP hn ht).pX (by simp[ht,zeros])
  obtain ⟨p5,p6⟩:=(h3.set2.aGP hn ht).pX (by simp[ht,zeros])
  have H3:=Lib.hid h3
  clear hW3 htb hb3 ht3 h3 c15 lk2
  have htag:ut=false\/(ut=true/\aZ t=false)\/(ut=true/\aZ t=true/\((jV t).1.1 == [])=true/\t=zeros 10)\/(ut=true/\aZ t=true/\((jV t).1.1 == [])=false /\ ¬ t=zeros 10):=by
   cases ut with
   | false=>exact .inl rfl
   | true =>
    cases htr:aZ t with
    | false=>exact .inr (.inl ⟨rfl,rfl⟩)
    | true =>
     have h:=HRL.out (by rw[kJ ht];exact htr)
     by_cases hz:t=zeros 10
     ·exact .inr (.inr (.inl ⟨rfl,rfl,by rw[h.2 hz];rfl,hz⟩))
     exact .inr (.inr (.inr ⟨rfl,rfl,by rw[beq_eq_false_iff_ne];exact fun e=>hz (h.1 e),hz⟩))
  clear HRL
  generalize (jV t).1=tg at *
  have hfz:=(H3.out.fin 0 0 0 (zeros 22) (by simp)).1
  rcases htag with rfl | ⟨rfl,q1⟩ | ⟨rfl,q1,q2,q3⟩ | ⟨rfl,q1,q2,q3⟩
  ·have hres:e=0/\r=rk a b 0 (n++zeros 10):=by
    obtain ⟨x1,x2⟩:=HX.out
    rw[if_neg (fun h=>by rw[hnr] at h;cases h.2),if_neg (fun h=>by cases h.1)] at x1
    refine ⟨x1,?_⟩
    rw[x2,if_pos x1,if_neg (by omega)]
    rfl
   obtain ⟨rfl,hr⟩:=hres
   have HR:=Lib.hid hr
   clear HX hr
   go_upto_region 17 with fail
   refine aP ?_
   intro W4 hW4
   have h4:KF w kb (rk a b 0 (n++zeros 10)) W4:=by rw[hW4];exact ((H3.out).set2).aNd hn ht
   have hl22:(n++zeros 10).length=22:=by simp[hn,zeros]
   have c25:=aI h4.2.1 (aAL a b 0 hl22)
   have lk4:=lt_of_some h4.2.1
   have tr4:=h4.there
   have hfin:=(h4.fin a b 0 _ hl22).1
   have HB4:=Lib.hid (h4.fin a b 0 _ hl22).2
   clear hW4 h4
   go_wp2_with fail
   exact bodyPost_ret (v := .tuple #[.agg (rk a b 0 (n++zeros 10)),.int .i64 0]) (aH Tryz.results62 (aO.row rfl dR (by first | exact hfin | simp[go_sem,hfin])) (by simp[aO])) rfl ⟨by rw[HR.out],HB4.out⟩
  ·have hres:e=14/\r=rk 0 0 0 (zeros 22):=by
    obtain ⟨x1,x2⟩:=HX.out
    rw[if_neg (fun h=>by rw[hnr] at h;cases h.2),if_pos ⟨rfl,.inl q1⟩] at x1
    exact ⟨x1,by rw[x2,x1,if_neg (by decide)]⟩
   obtain ⟨rfl,hr⟩:=hres
   have HR:=Lib.hid hr
   clear HX hr
   go_wp2_with fail
   exact bodyPost_ret (v := .tuple #[.agg (rk 0 0 0 (zeros 22)),.int .i64 14]) (aH Tryz.results62 (aO.row rfl dR (by first | exact hfz | simp[go_sem,hfz])) (by simp[aO])) rfl ⟨by rw[HR.out],(H3.out.fin 0 0 0 (zeros 22) (by simp)).2⟩
  ·have hres:e=14/\r=rk 0 0 0 (zeros 22):=by
    obtain ⟨x1,x2⟩:=HX.out
    rw[if_neg (fun h=>by rw[hnr] at h;cases h.2),if_pos ⟨rfl,.inr q3⟩] at x1
    exact ⟨x1,by rw[x2,x1,if_neg (by decide)]⟩
   obtain ⟨rfl,hr⟩:=hres
   have HR:=Lib.hid hr
   clear HX hr
   go_wp2_with fail
   exact bodyPost_ret (v := .tuple #[.agg (rk 0 0 0 (zeros 22)),.int .i64 14]) (aH Tryz.results62 (aO.row rfl dR (by first | exact hfz | simp[go_sem,hfz])) (by simp[aO])) rfl ⟨by rw[HR.out],(H3.out.fin 0 0 0 (zeros 22) (by simp)).2⟩
  have hres:e=0/\r=rk a b 0 (n++t):=by
   obtain ⟨x1,x2⟩:=HX.out
   rw[if_neg (fun h=>by rw[hnr] at h;cases h.2),if_neg (fun h=>h.2.elim (fun h2=>by rw[q1] at h2;cases h2) q3)] at x1
   refine ⟨x1,?_⟩
   rw[x2,if_pos x1,if_neg (by omega)]
   rfl
  obtain ⟨rfl,hr⟩:=hres
  have HR:=Lib.hid hr
  clear HX hr
  go_upto_region 17 with fail
  refine aP ?_
  intro W4 hW4
  have h4:KF w kb (rk a b 0 (n++t)) W4:=by rw[hW4];exact (H3.out).set2
  have hl22:(n++t).length=22:=by simp[hn,ht]
  have c25:=aI h4.2.1 (aAL a b 0 hl22)
  have lk4:=lt_of_some h4.2.1
  have tr4:=h4.there
  have hfin:=(h4.fin a b 0 _ hl22).1
  have HB4:=Lib.hid (h4.fin a b 0 _ hl22).2
  clear hW4 h4
  go_wp2_with fail
  exact bodyPost_ret (v := .tuple #[.agg (rk a b 0 (n++t)),.int .i64 0]) (aH Tryz.results62 (aO.row rfl dR (by first | exact hfin | simp[go_sem,hfin])) (by simp[aO])) rfl ⟨by rw[HR.out],HB4.out⟩
 go_wp2_with fail
 refine Gives.use (HTX.out _) ?_
 intro xs2 d2
 go_upto_region 8 with fail
 refine aP ?_
 intro W2 hW2
 have hb2:Below W1.heap.size W1 W2:=by rw[hW2];first | exact Below.refl _ _ | exact aS _ _
 have h2:=H1.out.step hb2
 have c15:=(pG hn ht h2.2.1).2.2.2.2
 have lk2:=lt_of_some h2.2.1
 have H2:=Lib.hid h2
 clear hW2 hb2 h2 c0 c1 c2 cn ct lr lk tr
 go_wp2_with fail
 refine Gives.use (HTG.out _) ?_
 intro xs3 d3
 go_upto_region 9 with fail
 refine aP ?_
 intro W3 hW3
 obtain ⟨tb,htb⟩:∃ tb,tb=W2.heap.size+xs3.size:=⟨_,rfl⟩
 have hb3:Below W2.heap.size W2 W3:=by rw[hW3];exact blw
 have ht3:W3.heap[tb]? = some (.cells (bU (jV t).1) 148):=by rw[hW3,htb];exact (aC _ _ _).trans (if_pos (by simp))
 rw[<-htb]
 have h3:=H2.out.step hb3
 have ctl:W3.cell? ⟨tb,0,none⟩=some (.string (bs (jV t).1.1)):=(lG ht3 0).1
 have lt3:=lt_of_some ht3
 have lr3:=lt_of_some h3.2.2.1
 have tr3:=h3.there
 have ck3:=(pG hn ht h3.2.1).2.2.1
 have fk3:=(lG h3.2.1 2).2
 have lk3:=lt_of_some h3.2.1
 have tn3:W3.aN kb 3 12=true:=by simp[World.aN,h3.2.1,iY,hn,ht]
 have tt3:W3.aN kb 15 10=true:=by simp[World.aN,h3.2.1,iY,hn,ht]
 obtain ⟨p1,p2⟩:=h3.set2.pX (by simp[hn,ht])
 obtain ⟨p3,p4⟩:=(h3.aGP hn ht).pX (by simp[ht,zeros])
 obtain ⟨p5,p6⟩:=(h3.set2.aGP hn ht).pX (by simp[ht,zeros])
 have H3:=Lib.hid h3
 clear hW3 htb hb3 ht3 h3 c15 lk2
 have htag:ut=false\/(ut=true/\aZ t=false)\/(ut=true/\aZ t=true/\((jV t).1.1 == [])=true/\t=zeros 10)\/(ut=true/\aZ t=true/\((jV t).1.1 == [])=false /\ ¬ t=zeros 10):=by
  cases ut with
  | false=>exact .inl rfl
  | true =>
   cases htr:aZ t with
   | false=>exact .inr (.inl ⟨rfl,rfl⟩)
   | true =>
    have h:=HRL.out (by rw[kJ ht];exact htr)
    by_cases hz:t=zeros 10
    ·exact .inr (.inr (.inl ⟨rfl,rfl,by rw[h.2 hz];rfl,hz⟩))
    exact .inr (.inr (.inr ⟨rfl,rfl,by rw[beq_eq_false_iff_ne];exact fun e=>hz (h.1 e),hz⟩))
 clear HRL
 generalize (jV t).1=tg at *
 have hfz:=(H3.out.fin 0 0 0 (zeros 22) (by simp)).1
 rcases htag with rfl | ⟨rfl,q1⟩ | ⟨rfl,q1,q2,q3⟩ | ⟨rfl,q1,q2,q3⟩
 ·have hres:e=0/\r=rk a b c (n++zeros 10):=by
   obtain ⟨x1,x2⟩:=HX.out
   rw[if_neg (fun h=>by rw[hnr] at h;cases h.2),if_neg (fun h=>by cases h.1)] at x1
   refine ⟨x1,?_⟩
   rw[x2,if_pos x1,if_pos (by omega)]
   rfl
  obtain ⟨rfl,hr⟩:=hres
  have HR:=Lib.hid hr
  clear HX hr
  go_upto_region 17 with fail
  refine aP ?_
  intro W4 hW4
  have h4:KF w kb (rk a b c (n++zeros 10)) W4:=by rw[hW4];exact (H3.out).aNd hn ht
  have hl22:(n++zeros 10).length=22:=by simp[hn,zeros]
  have c25:=aI h4.2.1 (aAL a b c hl22)
  have lk4:=lt_of_some h4.2.1
  have tr4:=h4.there
  have hfin:=(h4.fin a b c _ hl22).1
  have HB4:=Lib.hid (h4.fin a b c _ hl22).2
  clear hW4 h4
  go_wp2_with fail
  exact bodyPost_ret (v := .tuple #[.agg (rk a b c (n++zeros 10)),.int .i64 0]) (aH Tryz.results62 (aO.row rfl dR (by first | exact hfin | simp[go_sem,hfin])) (by simp[aO])) rfl ⟨by rw[HR.out],HB4.out⟩
 ·have hres:e=14/\r=rk 0 0 0 (zeros 22):=by
   obtain ⟨x1,x2⟩:=HX.out
   rw[if_neg (fun h=>by rw[hnr] at h;cases h.2),if_pos ⟨rfl,.inl q1⟩] at x1
   exact ⟨x1,by rw[x2,x1,if_neg (by decide)]⟩
  obtain ⟨rfl,hr⟩:=hres
  have HR:=Lib.hid hr
  clear HX hr
  go_wp2_with fail
  exact bodyPost_ret (v := .tuple #[.agg (rk 0 0 0 (zeros 22)),.int .i64 14]) (aH Tryz.results62 (aO.row rfl dR (by first | exact hfz | simp[go_sem,hfz])) (by simp[aO])) rfl ⟨by rw[HR.out],(H3.out.fin 0 0 0 (zeros 22) (by simp)).2⟩
 ·have hres:e=14/\r=rk 0 0 0 (zeros 22):=by
   obtain ⟨x1,x2⟩:=HX.out
   rw[if_neg (fun h=>by rw[hnr] at h;cases h.2),if_pos ⟨rfl,.inr q3⟩] at x1
   exact ⟨x1,by rw[x2,x1,if_neg (by decide)]⟩
  obtain ⟨rfl,hr⟩:=hres
  have HR:=Lib.hid hr
  clear HX hr
  go_wp2_with fail
  exact bodyPost_ret (v := .tuple #[.agg (rk 0 0 0 (zeros 22)),.int .i64 14]) (aH Tryz.results62 (aO.row rfl dR (by first | exact hfz | simp[go_sem,hfz])) (by simp[aO])) rfl ⟨by rw[HR.out],(H3.out.fin 0 0 0 (zeros 22) (by simp)).2⟩
 have hres:e=0/\r=rk a b c (n++t):=by
  obtain ⟨x1,x2⟩:=HX.out
  rw[if_neg (fun h=>by rw[hnr] at h;cases h.2),if_neg (fun h=>h.2.elim (fun h2=>by rw[q1] at h2;cases h2) q3)] at x1
  refine ⟨x1,?_⟩
  rw[x2,if_pos x1,if_pos (by omega)]
  rfl
 obtain ⟨rfl,hr⟩:=hres
 have HR:=Lib.hid hr
 clear HX hr
 go_upto_region 17 with fail
 refine aP ?_
 intro W4 hW4
 have h4:KF w kb (rk a b c (n++t)) W4:=by rw[hW4];exact H3.out
 have hl22:(n++t).length=22:=by simp[hn,ht]
 have c25:=aI h4.2.1 (aAL a b c hl22)
 have lk4:=lt_of_some h4.2.1
 have tr4:=h4.there
 have hfin:=(h4.fin a b c _ hl22).1
 have HB4:=Lib.hid (h4.fin a b c _ hl22).2
 clear hW4 h4
 go_wp2_with fail
 exact bodyPost_ret (v := .tuple #[.agg (rk a b c (n++t)),.int .i64 0]) (aH Tryz.results62 (aO.row rfl dR (by first | exact hfin | simp[go_sem,hfin])) (by simp[aO])) rfl ⟨by rw[HR.out],HB4.out⟩
theorem aGA (a:Int):jK a=0\/0<jK a:=by
 unfold jK
 split
 ·right;decide
 split
 ·right;decide
 left;rfl
theorem aCt (a b c:Int) (n t:List UInt8) (hn:n.length=12) (ht:t.length=10) (w:World) :
  Gives Tryz.prog 62 #[.agg (rk a b c (n++t))] w (.tuple #[.agg (aKZ a b c n t),.int .i64 (gV a b c n t)]) :=
 aDz a b c (jK a) (fU a) (jG a) n t hn ht rfl rfl rfl (aGA a) w
theorem vT (x:UInt8):byteOf (x.toNat:Int)=x:=by
 unfold byteOf
 have:=x.toNat_lt
 apply UInt8.toNat_inj.1
 rw[UInt8.toNat_ofNat']
 omega
theorem aL6 (x:UInt8) (l:List UInt8):byt (x :: l) 0=x:=rfl
theorem aL7 (x y:UInt8) (l:List UInt8):byt (x :: y :: l) 1=y:=rfl
theorem aL8 (x y z:UInt8) (l:List UInt8):byt (x :: y :: z :: l) 2=z:=rfl
theorem aFc (x y z:UInt8) (n t:List UInt8):aKZ (x.toNat:Int) (y.toNat:Int) (z.toNat:Int) n t=iR (keyOf (x.toNat:Int) (y.toNat:Int) (z.toNat:Int) n t):=by
 unfold aKZ keyOf
 split
 ·unfold oZ iR
  rw[vT,vT]
  simp only[List.cons_append,List.nil_append,aL6,aL7,aL8]
  split
  ·rw[vT];rfl
  rfl
 rfl
theorem aGm:fQ Tryz.prog 114 aGx:=⟨by kernel_rfl,by kernel_rfl,dR⟩
theorem aIX (a b:K25) (w:World):(Op.equalIn 10000 114 (.agg (iR a.val)) (.agg (iR b.val))).run Tryz.prog w = .ok (decide (a=b)) w :=
 lZ (f:=xQ) (g:=xC) aGm yG (fun _ _ h=>aEa h) a b w
@[go_sem ↓ high] theorem aQm {a b:List UInt8} (ha:a.length=25) (hb:b.length=25) (w:World):(Op.equalIn 10000 114 (.agg (iR a)) (.agg (iR b))).run Tryz.prog w = .ok (a == b) w:=by
 have h:=aIX (⟨a,ha⟩:K25) (⟨b,hb⟩:K25) w
 rw[show (Op.equalIn 10000 114 (.agg (iR a)) (.agg (iR b))).run Tryz.prog w = .ok (decide ((⟨a,ha⟩:K25)=⟨b,hb⟩)) w from h]
 congr 1
 rw[Bool.eq_iff_iff,decide_eq_true_eq,beq_iff_eq]
 exact ⟨fun h=>congrArg Subtype.val h,fun h=>Subtype.ext h⟩
theorem aED {k:List UInt8} (hk:k.length=25):(iR k).size=25:=by unfold iR;rw[iY];simp[hk]
@[go_sem] theorem aP3 (k:List UInt8) (hk:k.length=25):(iR k).extract 0 25=iR k:=by
 apply Array.extract_eq_self_of_le;rw[aED hk];exact Nat.le_refl _
@[go_sem] theorem aFh {w:World} {n o:Nat} {k:List UInt8} (hk:k.length=25) (hc:w.aN n o 25=true) :
  (bH 114 ⟨n,o,none⟩ (.agg (iR k))).run Tryz.prog w = .ok () (w.lay n o (iR k)) :=
 nM (by rw[dR,aED hk]) (by rw[aED hk];exact hc) (aEr _ _ _ _)
theorem aFW (k p a:Int) (n t:List UInt8) (hn:n.length=12) (ht:t.length=10):(keyOf k p a n t).length=25:=by
 unfold keyOf oZ
 split
 ·split <;> split <;> split <;> simp[hn,ht,zeros]
 simp
theorem aAh (k:List UInt8) (hk:k.length=25) (w:World):Gives Tryz.prog 30 #[.agg (iR k)] w (.bool (kT k)):=by
 have hn:((k.take 15).drop 3).length=12:=by simp;omega
 have ht:(k.drop 15).length=10:=by simp;omega
 have ho:=aCt (byt k 0).toNat (byt k 1).toNat (byt k 2).toNat _ _ hn ht
 have hl:=aFW (byt k 0).toNat (byt k 1).toNat (byt k 2).toNat _ _ hn ht
 have e3:aFU k=(k.take 15).drop 3:=by unfold aFU;rw[List.drop_take]
 have esp:(k.take 15).drop 3++k.drop 15=k.drop 3:=by
  have:=List.take_append_drop 12 (k.drop 3)
  rw[List.drop_drop] at this
  rw[List.drop_take]
  exact this
 rw[aFc,esp] at ho
 unfold kT
 rw[e3]
 unfold aI5 aI6 kAt aNa
 generalize keyOf ((byt k 0).toNat:Int) ((byt k 1).toNat:Int) ((byt k 2).toNat:Int) ((k.take 15).drop 3) (k.drop 15)=ko at ho hl |-
 generalize gV ((byt k 0).toNat:Int) ((byt k 1).toNat:Int) ((byt k 2).toNat:Int) ((k.take 15).drop 3) (k.drop 15)=er at ho |-
 have HO:=Lib.hid (show ∀ w,Gives Tryz.prog 62 #[.agg (iR k)] w (.tuple #[.agg (iR ko),.int .i64 er]) from ho)
 have hs1:(iR k).size=25:=by unfold iR;rw[iY];simp[hk]
 have hs2:(iR ko).size=25:=by unfold iR;rw[iY];simp[hl]
 have ho1:(iR k).all (·.oneCell')=true:=aEr _ _ _ _
 have ho2:(iR ko).all (·.oneCell')=true:=aEr _ _ _ _
 clear ho esp e3 hn ht
 unfold Gives
 go_enter Tryz.func30,Tryz.ntmps30
 go_wp2_with (go_at_call 62;refine Gives.use (HO.out _) ?_;intro xs d)
 all_goals
  go_ret
  refine ⟨?_,?_⟩
  rotate_left
  ·exact blw
  exact congrArg Ending.returned (congrArg Value.bool (by first | (simp[*];done) | (rw[Bool.eq_iff_iff];simp[*];done) | (rw[Bool.eq_iff_iff];simp[*];omega) | (rw[Bool.eq_iff_iff];simp;omega)))
end Go.Proofs.YtcedmfnlkelhkaaGreatDoor
