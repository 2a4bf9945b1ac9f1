/- The document's names: is a text a name's, its bytes, a name's text. -/
import Derived.Test.YtcedmfnlkelhkaaGreatDoorJai
import Derived.Test.YtcedmfnlkelhkaaGreatDoorJay
import Derived.Handy
import Derived.Deep.CutBlock
import Derived.Test.YtcedmfnlkelhkaaGreatDoorJad
namespace Go.Proofs.YtcedmfnlkelhkaaGreatDoor
set_option maxHeartbeats 40000000
set_option maxRecDepth 100000
open Go.RowKit

@[go_sem] theorem aGX:Tryz.prog.bJ 55=some 12:=by kernel_rfl
@[go_sem ↓ high] theorem aQI (a:Addr):loadVar 55 a=eX 55 a:=rfl
@[go_sem ↓ high] theorem aQ9 (a:Addr) (v:Value):storeVar 55 a v=bH 55 a v:=rfl
theorem aI0:fQ Tryz.prog 55 (fA 12):=⟨by kernel_rfl,by kernel_rfl,aGX⟩
@[go_sem ↓ high] theorem aQB (a b:List UInt8) (ha:a.length=12) (hb:b.length=12) (w:World) :
  (Op.equalIn 10000 55 (.agg (aJ a)) (.agg (aJ b))).run Tryz.prog w = .ok (a == b) w :=
 wM (by rw[ha];exact aI0) (by rw[ha,hb]) w
def aQ6 (c:UInt8):List Bool := [decide ((96:Int)<c.toNat),decide ((c.toNat:Int)<123),decide ((47:Int)<c.toNat),decide ((c.toNat:Int)<58),((c.toNat:Int) == 45),((c.toNat:Int) == 95),((c.toNat:Int) == 46)]
def aJ7:List (List Bool×Bool×Bool) := [([false,true,false,true,false,false,false],false,false),([false,true,false,true,true,false,false],false,true),([false,true,false,true,false,false,true],false,true),
 ([false,true,true,true,false,false,false],false,true),([false,true,true,false,false,false,false],false,false),([false,true,true,false,false,true,false],false,true),([true,true,true,false,false,false,false],true,true),([true,false,true,false,false,false,false],false,false)]
theorem aK9:∀ c:UInt8,(aQ6 c,yI c,xU c)∈aJ7:=jQ (by decide +kernel)
def aNj (s:List UInt8) (k:Nat):Prop:=(s.take k).all xU=true/\(0<k->yI (byt s 0)=true)
theorem aCm {s:List UInt8} {k:Nat} (h:aNj s k) (hk:k<s.length) {a b z:Bool} (ha:yI (byt s k)=a) (hb:xU (byt s k)=b) (hz:((k:Int) == 0)=z) (hab:a=true\/b=true/\z=false) (himp:a=true->b=true):aNj s (k+1):=by
 refine ⟨?_,fun _ => ?_⟩
 ·rw[List.take_succ_eq_append_getElem hk,List.all_append,h.1,bP hk]
  simp only[List.all_cons,List.all_nil,Bool.and_true,Bool.true_and]
  rcases hab with h1 | h1
  ·rw[hb];exact himp h1
  rw[hb];exact h1.1
 rcases Nat.eq_zero_or_pos k with h0 | h0
 ·subst h0
  rcases hab with h1 | h1
  ·rw[ha];exact h1
  rw[h1.2] at hz;cases hz
 exact h.2 h0
theorem aCl {s:List UInt8} {k:Nat} (hk:k<s.length) {a b z:Bool} (ha:yI (byt s k)=a) (hb:xU (byt s k)=b) (hz:((k:Int) == 0)=z) (h0:a=false) (h1:b=false\/z=true):fP s=false:=by
 rw[Bool.eq_false_iff]
 intro h
 unfold fP at h
 simp only[Bool.and_eq_true,decide_eq_true_eq,List.all_eq_true] at h
 rcases h1 with h1 | h1
 ·have:=h.2 (s[k]) (List.getElem_mem hk)
  rw[bP hk,hb,h1] at this
  cases this
 have hk0:k=0:=by rw[h1] at hz;have:=beq_iff_eq.1 hz;omega
 subst hk0
 rw[ha,h0] at h
 cases h.1.2
theorem aDw (s:List UInt8) (hm:s.length<=maxLen) (w:World):Gives Tryz.prog 78 #[.string (bs s)] w (.bool (fP s)):=by
 unfold maxLen at hm
 have hz:=bD s
 unfold Gives
 by_cases h1:s.length<1
 ·have e:fP s=false:=by
   rw[Bool.eq_false_iff];intro h;unfold fP at h;simp at h;omega
  have E:=Lib.hid e
  have hz1:decide ((s.length:Int)<1)=true:=by simp;omega
  clear e
  go_enter Tryz.func78,Tryz.ntmps78
  go_wp2_with fail
  go_ret
  exact ⟨congrArg Ending.returned (congrArg Value.bool E.out.symm),blw⟩
 have hz1:decide ((s.length:Int)<1)=false:=by simp;omega
 by_cases h2:12<s.length
 ·have e:fP s=false:=by
   rw[Bool.eq_false_iff];intro h;unfold fP at h;simp at h;omega
  have E:=Lib.hid e
  have hz2:decide (12<(s.length:Int))=true:=by simp;omega
  clear e
  go_enter Tryz.func78,Tryz.ntmps78
  go_wp2_with fail
  go_ret
  exact ⟨congrArg Ending.returned (congrArg Value.bool E.out.symm),blw⟩
 have hz2:decide (12<(s.length:Int))=false:=by simp;omega
 go_enter Tryz.func78,Tryz.ntmps78
 go_wp2_with fail
 clear hz1 hz2
 go_loopw [3] (fun s3 wr => ∃ k:Nat,k<=s.length/\s3 = .int .i64 k/\Hid (aNj s k)/\wr=w) (fun s3 _=>s.length - (intOf s3).toNat)
 case atStart=>exact ⟨0,Nat.zero_le _,rfl,Lib.hid ⟨rfl,fun h=>absurd h (by decide)⟩,rfl⟩
 obtain ⟨k,hk,rfl,hok,rfl⟩:=hrel
 by_cases hlt:k<s.length
 ·have hcl:=aK9 (byt s k)
  obtain ⟨a,ha⟩:∃ a,yI (byt s k)=a:=⟨_,rfl⟩
  obtain ⟨b,hb⟩:∃ b,xU (byt s k)=b:=⟨_,rfl⟩
  rw[ha,hb] at hcl
  simp only[aJ7,List.mem_cons,Prod.mk.injEq,List.mem_nil_iff,or_false,aQ6,List.cons.injEq,and_true] at hcl
  rcases Nat.eq_zero_or_pos k with rfl | hk0
  ·have HS:=Lib.hid (fun h1 h2=>aCm hok.out hlt ha hb (z:=true) rfl h1 h2)
   have HF:=Lib.hid (fun h1 h2=>aCl hlt ha hb (z:=true) rfl h1 h2)
   clear ha hb hok
   rcases hcl with ⟨⟨t1,t2,t3,t4,t5,t6,t7⟩,rfl,rfl⟩ | ⟨⟨t1,t2,t3,t4,t5,t6,t7⟩,rfl,rfl⟩ | ⟨⟨t1,t2,t3,t4,t5,t6,t7⟩,rfl,rfl⟩ | ⟨⟨t1,t2,t3,t4,t5,t6,t7⟩,rfl,rfl⟩ | ⟨⟨t1,t2,t3,t4,t5,t6,t7⟩,rfl,rfl⟩ | ⟨⟨t1,t2,t3,t4,t5,t6,t7⟩,rfl,rfl⟩ | ⟨⟨t1,t2,t3,t4,t5,t6,t7⟩,rfl,rfl⟩ | ⟨⟨t1,t2,t3,t4,t5,t6,t7⟩,rfl,rfl⟩
   all_goals
    go_wp2_with fail
    first
     | (go_roundw
        case rel=>exact ⟨1,by omega,by go_num,Lib.hid (HS.out (by first | trivial | decide | simp) (by first | trivial | decide | simp)),by first | rfl | trivial⟩
        simp[intOf];omega)
     | (go_ret;exact ⟨congrArg Ending.returned (congrArg Value.bool (HF.out (by first | rfl | trivial | decide) (by first | trivial | decide | simp)).symm),blw⟩)
  have hkz:((k:Int) == 0)=false:=by rw[beq_eq_false_iff_ne];omega
  have HS:=Lib.hid (fun h1 h2=>aCm hok.out hlt ha hb hkz h1 h2)
  have HF:=Lib.hid (fun h1 h2=>aCl hlt ha hb hkz h1 h2)
  clear ha hb hok
  rcases hcl with ⟨⟨t1,t2,t3,t4,t5,t6,t7⟩,rfl,rfl⟩ | ⟨⟨t1,t2,t3,t4,t5,t6,t7⟩,rfl,rfl⟩ | ⟨⟨t1,t2,t3,t4,t5,t6,t7⟩,rfl,rfl⟩ | ⟨⟨t1,t2,t3,t4,t5,t6,t7⟩,rfl,rfl⟩ | ⟨⟨t1,t2,t3,t4,t5,t6,t7⟩,rfl,rfl⟩ | ⟨⟨t1,t2,t3,t4,t5,t6,t7⟩,rfl,rfl⟩ | ⟨⟨t1,t2,t3,t4,t5,t6,t7⟩,rfl,rfl⟩ | ⟨⟨t1,t2,t3,t4,t5,t6,t7⟩,rfl,rfl⟩
  all_goals
   go_wp2_with fail
   first
    | (go_ret;exact ⟨congrArg Ending.returned (congrArg Value.bool (HF.out (by first | rfl | trivial | decide) (by first | trivial | decide | simp)).symm),blw⟩)
    | (go_roundw
       case rel=>exact ⟨k+1,by omega,by go_num,Lib.hid (HS.out (by first | trivial | decide | simp) (by first | trivial | decide | simp)),by first | rfl | trivial⟩
       simp[intOf];omega)
 have hke:k=s.length:=by omega
 subst hke
 have e:fP s=true:=by
  have h:=hok.out
  unfold aNj at h
  rw[List.take_length] at h
  unfold fP
  rw[h.1,h.2 (by omega)]
  simp;omega
 have E:=Lib.hid e
 clear e hok
 go_wp2_with fail
 go_ret
 exact ⟨congrArg Ending.returned (congrArg Value.bool E.out.symm),blw⟩
theorem aCu (s:List UInt8) (hm:s.length<=12) (w:World):Gives Tryz.prog 79 #[.string (bs s)] w (.agg (aJ (bG 12 s))):=by
 have hz:=bD s
 unfold Gives
 go_enter Tryz.func79,Tryz.ntmps79
 go_wp2_with fail
 go_loopw [4] (fun s4 wr => ∃ k:Nat,k<=s.length/\s4 = .int .i64 k/\wr=(w.alloc (.cells (aJ (zeros 12)) 55)).alloc (.cells (aJ (bG 12 (s.take k))) 55)) (fun s4 _=>s.length - (intOf s4).toNat)
 case atStart=>exact ⟨0,Nat.zero_le _,rfl,by rw[List.take_zero,oM]⟩
 obtain ⟨k,hk,rfl,rfl⟩:=hrel
 by_cases hlt:k<s.length
 ·have hps:=aAC (n:=12) hm hlt
  have hpl:(bG 12 (s.take k)).length=12:=dM (by simp;omega)
  have hk12:(k:Int)<12:=by omega
  have hk12':k<12:=by omega
  have hkp:k<(bG 12 (s.take k)).length:=by omega
  generalize bG 12 (s.take k)=p at *
  have HPL:=Lib.hid hpl
  have HP:=Lib.hid hps
  clear hps hpl
  go_wp2_with fail
  go_roundw
  case rel=>exact ⟨k+1,by omega,by go_num,by rw[HP.out]⟩
  simp[intOf];omega
 have hke:k=s.length:=by omega
 subst hke
 have hpl:(bG 12 s).length=12:=dM (by omega)
 rw[List.take_length]
 go_wp2_with fail
 exact bodyPost_ret (v := .agg (aJ (bG 12 s))) (fE Tryz.results79 (aO.row rfl aGX (by simp[go_sem,hpl]))) rfl ⟨rfl,blw⟩
theorem aBH {n:List UInt8} {k:Nat} (hk:k<n.length) (h:∀ j,j<k->byt n j≠0):(byt n k≠0 -> ∀ j,j<k+1->byt n j≠0)/\(byt n k=0->dV n=n.take k):=by
 refine ⟨fun hn j hj => ?_,fun h0 => ?_⟩
 ·by_cases he:j=k
  ·rw[he];exact hn
  exact h j (by omega)
 unfold dV
 have h1:(n.take k).all (· != 0)=true:=by
  rw[List.all_eq_true]
  intro x hx
  obtain ⟨j,hj,rfl⟩:=List.getElem_of_mem hx
  simp only[List.length_take] at hj
  rw[List.getElem_take,bP]
  simpa using h j (by omega)
 conv=>lhs;rw[<-List.take_append_drop k n]
 rw[List.takeWhile_append_of_pos (by rwa [List.all_eq_true] at h1),List.drop_eq_getElem_cons hk,bP hk,h0]
 simp
theorem aGs {n:List UInt8} (h:∀ j,j<n.length->byt n j≠0):dV n=n:=by
 unfold dV
 have hh:∀ l:List UInt8,(∀ x∈l,(x != 0)=true)->l.takeWhile (fun x=>x != 0)=l:=by
  intro l
  induction l with
  | nil=>intro _;rfl
  | cons c l ih=>intro h2;rw[List.takeWhile_cons,if_pos (h2 c List.mem_cons_self),ih (fun x hx=>h2 x (List.mem_cons_of_mem _ hx))]
 refine hh n ?_
 intro x hx
 obtain ⟨j,hj,rfl⟩:=List.getElem_of_mem hx
 rw[bP hj]
 simpa using h j hj
theorem aAj (n:List UInt8) (hn:n.length=12) (w:World):Gives Tryz.prog 43 #[.agg (aJ n)] w (.string (bs (kU n))):=by
 have hr:=aBx (w:=w) n 55
 obtain ⟨W,hW⟩:∃ W,W=w.alloc (.cells (aJ n) 55):=⟨_,rfl⟩
 obtain ⟨nb,hnb⟩:∃ nb,nb=w.heap.size:=⟨_,rfl⟩
 have hb:Below w.heap.size w W:=by rw[hW];exact (Below.refl _ w).alloc (Nat.le_refl _) _
 have hcW:W.aW nb 0 12=some (aJ n):=by rw[hW,hnb];simp[go_sem,hn]
 have hlb:nb<W.heap.size:=by rw[hW,hnb];simp
 have hcell:∀ j,j<12->W.cell? ⟨nb,j,none⟩=some (.int .u8 ((byt n j).toNat:Int)):=fun j hj=>by rw[hW,hnb];have:=hr j (by omega);rwa [Nat.zero_add] at this
 have HC:=Lib.hid hcell
 have HB:=Lib.hid hb
 have HIS:=Lib.hid (aDw (dV n) (by have:=rG n;unfold maxLen;omega))
 have HPD:=Lib.hid (aCu (dV n) (by have:=rG n;omega))
 have htx:kU n=if dJ n=true then dV n else []:=rfl
 have hrt:dJ n=(fP (dV n) && bG 12 (dV n) == n):=rfl
 have HX:=Lib.hid (And.intro htx hrt)
 clear hcell hr hb htx hrt
 unfold Gives
 go_enter Tryz.func43,Tryz.ntmps43
 go_upto_block 0 with fail
 rw[<-hW,<-hnb]
 clear hW hnb
 go_cut [3] (fun s3 wx => ∃ k d:Nat,k<=12/\s3 = .int .i64 k/\Hid (n.take k=dV n)/\wx=W.drewN d)
 case first =>
  go_wp2_with fail
  go_loopw [3] (fun s3 wr => ∃ k d:Nat,k<=12/\s3 = .int .i64 k/\Hid (∀ j,j<k->byt n j≠0)/\wr=W.drewN d) (fun s3 _=>12 - (intOf s3).toNat)
  case atStart=>exact ⟨0,0,Nat.zero_le _,rfl,Lib.hid (fun j hj=>absurd hj (Nat.not_lt_zero _)),rfl⟩
  obtain ⟨k,d,hk,rfl,hz,rfl⟩:=hrel
  by_cases hlt:k<12
  ·have hltI:(k:Int)<12:=by omega
   have c:=HC.out k hlt
   by_cases h0:byt n k=0
   ·have hne:(((byt n k).toNat:Int) != 0)=false:=by rw[h0];rfl
    have HZ:=Lib.hid ((aBH (by omega) hz.out).2 h0).symm
    clear h0 hz
    go_wp2_with fail
    go_meet
    exact ⟨k,d,by omega,rfl,HZ,rfl⟩
   have hne:(((byt n k).toNat:Int) != 0)=true:=by
    rw[bne_iff_ne];intro e;exact h0 (UInt8.toNat_inj.1 (by have:(0:UInt8).toNat=0:=rfl;omega))
   have HZ:=Lib.hid ((aBH (by omega) hz.out).1 h0)
   clear h0 hz
   go_wp2_with fail
   go_roundw
   case rel=>exact ⟨k+1,d,by omega,by go_num,HZ,rfl⟩
   simp[intOf];omega
  have hke:k=12:=by omega
  subst hke
  have HZ:Hid (n.take 12=dV n):=Lib.hid (by rw[aGs (fun j hj=>hz.out j (by omega)),List.take_of_length_le (by omega)])
  clear hz
  go_wp2_with fail
  go_meet
  exact ⟨12,d,by omega,rfl,HZ,rfl⟩
 obtain ⟨k,d,hk,rfl,hfr,rfl⟩:=hcut
 have hkI:(k:Int)<=12:=by omega
 have hk0I:(0:Int)<=k:=by omega
 have hcv:=run_convert_bytes_back (P:=Tryz.prog) (W.drewN d) 189 9 5 ⟨nb,0,none⟩ 12 (n.take k) Tryz.underlying189 Tryz.underlying5 Tryz.underlying9 (fun j hj=>by
  rw[List.length_take] at hj
  rw[addr_add,Nat.zero_add,List.getElem_take,bP]
  exact HC.out j (by omega))
 rw[show (n.take k).length=k by rw[List.length_take];omega,hfr.out] at hcv
 have hpl:(bG 12 (dV n)).length=12:=dM (by have:=rG n;omega)
 have hfin:(fP (dV n)=false/\kU n = [])\/(fP (dV n)=true/\(bG 12 (dV n) == n)=false/\kU n = [])\/(fP (dV n)=true/\(bG 12 (dV n) == n)=true/\kU n=dV n):=by
  obtain ⟨x1,x2⟩:=HX.out
  cases h1:fP (dV n) with
  | false=>exact .inl ⟨rfl,by rw[x1,x2,h1];rfl⟩
  | true =>
   cases h2:(bG 12 (dV n) == n) with
   | false=>exact .inr (.inl ⟨rfl,rfl,by rw[x1,x2,h1,h2];rfl⟩)
   | true=>exact .inr (.inr ⟨rfl,rfl,by rw[x1,x2,h1,h2];rfl⟩)
 clear HX HC hfr
 obtain ⟨tx,htx⟩:∃ tx,tx=kU n:=⟨_,rfl⟩
 rw[<-htx] at hfin
 have HTX:=Lib.hid htx
 clear htx
 generalize dV n=fr at *
 generalize bG 12 fr=pf at *
 generalize fP fr=ok at *
 go_upto_region 5 with fail
 refine aP ?_
 intro W5 hW5
 have hb5:Below w.heap.size w W5:=by rw[hW5];exact HB.out.drewN _
 have hcut5:W5.aW nb 0 12=some (aJ n):=by rw[hW5];exact hcW
 have hl5:nb<W5.heap.size:=by rw[hW5];exact hlb
 have HB5:=Lib.hid hb5
 clear hW5 hb5 hcW hlb hcv HB
 rcases hfin with ⟨rfl,rfl⟩ | ⟨rfl,hpe,rfl⟩ | ⟨rfl,hpe,rfl⟩
 ·skip
  apply aG (by rfl) [.val _,.val _,.val _,.val _,.val _,.val _,.val _,.val _,.val _] 9 (by rfl) [18,19,20,21,22,23,24,25,26] [] [] (by rfl) (by rfl) (by decide) (by decide +kernel) (fun _ _ _ _ _ h=>h)
  case hF=>intro x;simp only[over,List.foldl_cons,List.foldl_nil,List.setIfInBounds_toArray,List.set_cons_succ,List.set_cons_zero];exact rfl
  case hops =>
   refine ⟨?o0,?o1,?o2,?o3,?o4,?o5,?o6,?o7,?o8,trivial⟩
   case o0 =>
    intro x w1 hH K hK
    obtain ⟨xs,d,rfl⟩:=aA hH.below
    clear hH
    try simp only[World.aB] at hK |-
    try simp only[World.grow_grow] at hK |-
    exact zw
   case o1 =>
    intro x w1 hH K hK
    have e18:x 18=_:=hH.g 0 18
    obtain ⟨xs,d,rfl⟩:=aA hH.below
    clear hH
    try simp only[World.aB] at hK |-
    try simp only[World.grow_grow] at hK |-
    simp only[e18] at hK |-
    clear e18
    go_simp
    go_wp2_with (refine Gives.use (HIS.out _) ?_;intro ys e)
    exact zu
   case o2 =>
    intro x w1 hH K hK
    have e19:x 19=_:=hH.g 1 19
    obtain ⟨xs,d,rfl⟩:=aA hH.below
    clear hH
    try simp only[World.aB] at hK |-
    try simp only[World.grow_grow] at hK |-
    simp only[e19] at hK |-
    clear e19
    exact zw
   case o3 =>
    intro x w1 hH K hK
    have e20:x 20=_:=hH.g 2 20
    obtain ⟨xs,d,rfl⟩:=aA hH.below
    clear hH
    try simp only[World.aB] at hK |-
    try simp only[World.grow_grow] at hK |-
    simp only[e20] at hK |-
    clear e20
    exact zw
   case o4 =>
    intro x w1 hH K hK
    have e21:x 21=_:=hH.g 3 21
    obtain ⟨xs,d,rfl⟩:=aA hH.below
    clear hH
    try simp only[World.aB] at hK |-
    try simp only[World.grow_grow] at hK |-
    simp only[e21] at hK |-
    clear e21
    exact zw
   case o5 =>
    intro x w1 hH K hK
    have e21:x 21=_:=hH.g 3 21
    have e22:x 22=_:=hH.g 4 22
    obtain ⟨xs,d,rfl⟩:=aA hH.below
    clear hH
    try simp only[World.aB] at hK |-
    try simp only[World.grow_grow] at hK |-
    simp only[e21,e22] at hK |-
    clear e21 e22
    exact zw
   case o6 =>
    intro x w1 hH K hK
    have e21:x 21=_:=hH.g 3 21
    obtain ⟨xs,d,rfl⟩:=aA hH.below
    clear hH
    try simp only[World.aB] at hK |-
    try simp only[World.grow_grow] at hK |-
    simp only[e21] at hK |-
    clear e21
    exact zw
   case o7 =>
    intro x w1 hH K hK
    have e21:x 21=_:=hH.g 3 21
    have e23:x 23=_:=hH.g 5 23
    have e24:x 24=_:=hH.g 6 24
    obtain ⟨xs,d,rfl⟩:=aA hH.below
    clear hH
    try simp only[World.aB] at hK |-
    try simp only[World.grow_grow] at hK |-
    simp only[e21,e23,e24] at hK |-
    clear e21 e23 e24
    exact zw
   case o8 =>
    intro x w1 hH K hK
    have e21:x 21=_:=hH.g 3 21
    have e25:x 25=_:=hH.g 7 25
    obtain ⟨xs,d,rfl⟩:=aA hH.below
    clear hH
    try simp only[World.aB] at hK |-
    try simp only[World.grow_grow] at hK |-
    simp only[e21,e25] at hK |-
    clear e21 e25
    exact zw
  intro x w1 hH
  have e18:x 18=_:=hH.t 0 18
  have e19:x 19=_:=hH.t 1 19
  have e20:x 20=_:=hH.t 2 20
  have e21:x 21=_:=hH.t 3 21
  have e22:x 22=_:=hH.t 4 22
  have e23:x 23=_:=hH.t 5 23
  have e24:x 24=_:=hH.t 6 24
  have e25:x 25=_:=hH.t 7 25
  have e26:x 26=_:=hH.t 8 26
  obtain ⟨xs,d,rfl⟩:=aA hH.below
  clear hH
  simp only[e18,e19,e20,e21,e22,e23,e24,e25,e26];clear e18 e19 e20 e21 e22 e23 e24 e25 e26
  simp only[List.drop_succ_cons,List.drop_nil]
  go_wp2_with fail
  go_ret
  exact ⟨congrArg Ending.returned (congrArg (fun l=>Value.string (bs l)) HTX.out),HB5.out.trans ((aS _ _).mono HB5.out.size)⟩
 ·skip
  apply aG (by rfl) [.val _,.val _,.val _,.val _,.val _,.val _,.val _,.val _,.val _] 9 (by rfl) [18,19,20,21,22,23,24,25,26] [] [] (by rfl) (by rfl) (by decide) (by decide +kernel) (fun _ _ _ _ _ h=>h)
  case hF=>intro x;simp only[over,List.foldl_cons,List.foldl_nil,List.setIfInBounds_toArray,List.set_cons_succ,List.set_cons_zero];exact rfl
  case hops =>
   refine ⟨?o0,?o1,?o2,?o3,?o4,?o5,?o6,?o7,?o8,trivial⟩
   case o0 =>
    intro x w1 hH K hK
    obtain ⟨xs,d,rfl⟩:=aA hH.below
    clear hH
    try simp only[World.aB] at hK |-
    try simp only[World.grow_grow] at hK |-
    exact zw
   case o1 =>
    intro x w1 hH K hK
    have e18:x 18=_:=hH.g 0 18
    obtain ⟨xs,d,rfl⟩:=aA hH.below
    clear hH
    try simp only[World.aB] at hK |-
    try simp only[World.grow_grow] at hK |-
    simp only[e18] at hK |-
    clear e18
    go_simp
    go_wp2_with (refine Gives.use (HIS.out _) ?_;intro ys e)
    exact zu
   case o2 =>
    intro x w1 hH K hK
    have e19:x 19=_:=hH.g 1 19
    obtain ⟨xs,d,rfl⟩:=aA hH.below
    clear hH
    try simp only[World.aB] at hK |-
    try simp only[World.grow_grow] at hK |-
    simp only[e19] at hK |-
    clear e19
    exact zw
   case o3 =>
    intro x w1 hH K hK
    have e20:x 20=_:=hH.g 2 20
    obtain ⟨xs,d,rfl⟩:=aA hH.below
    clear hH
    try simp only[World.aB] at hK |-
    try simp only[World.grow_grow] at hK |-
    simp only[e20] at hK |-
    clear e20
    exact zw
   case o4 =>
    intro x w1 hH K hK
    have e21:x 21=_:=hH.g 3 21
    obtain ⟨xs,d,rfl⟩:=aA hH.below
    clear hH
    try simp only[World.aB] at hK |-
    try simp only[World.grow_grow] at hK |-
    simp only[e21] at hK |-
    clear e21
    exact zw
   case o5 =>
    intro x w1 hH K hK
    have e21:x 21=_:=hH.g 3 21
    have e22:x 22=_:=hH.g 4 22
    obtain ⟨xs,d,rfl⟩:=aA hH.below
    clear hH
    try simp only[World.aB] at hK |-
    try simp only[World.grow_grow] at hK |-
    simp only[e21,e22] at hK |-
    clear e21 e22
    go_simp
    go_wp2_with (refine Gives.use (HPD.out _) ?_;intro ys e)
    exact zu
   case o6 =>
    intro x w1 hH K hK
    have e21:x 21=_:=hH.g 3 21
    obtain ⟨xs,d,rfl⟩:=aA hH.below
    clear hH
    try simp only[World.aB] at hK |-
    try simp only[World.grow_grow] at hK |-
    simp only[e21] at hK |-
    clear e21
    exact zw
   case o7 =>
    intro x w1 hH K hK
    have e21:x 21=_:=hH.g 3 21
    have e23:x 23=_:=hH.g 5 23
    have e24:x 24=_:=hH.g 6 24
    obtain ⟨xs,d,rfl⟩:=aA hH.below
    clear hH
    try simp only[World.aB] at hK |-
    try simp only[World.grow_grow] at hK |-
    simp only[e21,e23,e24] at hK |-
    clear e21 e23 e24
    exact zw
   case o8 =>
    intro x w1 hH K hK
    have e21:x 21=_:=hH.g 3 21
    have e25:x 25=_:=hH.g 7 25
    obtain ⟨xs,d,rfl⟩:=aA hH.below
    clear hH
    try simp only[World.aB] at hK |-
    try simp only[World.grow_grow] at hK |-
    simp only[e21,e25] at hK |-
    clear e21 e25
    exact zw
  intro x w1 hH
  have e18:x 18=_:=hH.t 0 18
  have e19:x 19=_:=hH.t 1 19
  have e20:x 20=_:=hH.t 2 20
  have e21:x 21=_:=hH.t 3 21
  have e22:x 22=_:=hH.t 4 22
  have e23:x 23=_:=hH.t 5 23
  have e24:x 24=_:=hH.t 6 24
  have e25:x 25=_:=hH.t 7 25
  have e26:x 26=_:=hH.t 8 26
  obtain ⟨xs,d,rfl⟩:=aA hH.below
  clear hH
  simp only[e18,e19,e20,e21,e22,e23,e24,e25,e26];clear e18 e19 e20 e21 e22 e23 e24 e25 e26
  simp only[List.drop_succ_cons,List.drop_nil]
  go_wp2_with fail
  go_ret
  exact ⟨congrArg Ending.returned (congrArg (fun l=>Value.string (bs l)) HTX.out),HB5.out.trans ((aS _ _).mono HB5.out.size)⟩
 skip
 apply aG (by rfl) [.val _,.val _,.val _,.val _,.val _,.val _,.val _,.val _,.val _] 9 (by rfl) [18,19,20,21,22,23,24,25,26] [] [] (by rfl) (by rfl) (by decide) (by decide +kernel) (fun _ _ _ _ _ h=>h)
 case hF=>intro x;simp only[over,List.foldl_cons,List.foldl_nil,List.setIfInBounds_toArray,List.set_cons_succ,List.set_cons_zero];exact rfl
 case hops =>
  refine ⟨?o0,?o1,?o2,?o3,?o4,?o5,?o6,?o7,?o8,trivial⟩
  case o0 =>
   intro x w1 hH K hK
   obtain ⟨xs,d,rfl⟩:=aA hH.below
   clear hH
   try simp only[World.aB] at hK |-
   try simp only[World.grow_grow] at hK |-
   exact zw
  case o1 =>
   intro x w1 hH K hK
   have e18:x 18=_:=hH.g 0 18
   obtain ⟨xs,d,rfl⟩:=aA hH.below
   clear hH
   try simp only[World.aB] at hK |-
   try simp only[World.grow_grow] at hK |-
   simp only[e18] at hK |-
   clear e18
   go_simp
   go_wp2_with (refine Gives.use (HIS.out _) ?_;intro ys e)
   exact zu
  case o2 =>
   intro x w1 hH K hK
   have e19:x 19=_:=hH.g 1 19
   obtain ⟨xs,d,rfl⟩:=aA hH.below
   clear hH
   try simp only[World.aB] at hK |-
   try simp only[World.grow_grow] at hK |-
   simp only[e19] at hK |-
   clear e19
   exact zw
  case o3 =>
   intro x w1 hH K hK
   have e20:x 20=_:=hH.g 2 20
   obtain ⟨xs,d,rfl⟩:=aA hH.below
   clear hH
   try simp only[World.aB] at hK |-
   try simp only[World.grow_grow] at hK |-
   simp only[e20] at hK |-
   clear e20
   exact zw
  case o4 =>
   intro x w1 hH K hK
   have e21:x 21=_:=hH.g 3 21
   obtain ⟨xs,d,rfl⟩:=aA hH.below
   clear hH
   try simp only[World.aB] at hK |-
   try simp only[World.grow_grow] at hK |-
   simp only[e21] at hK |-
   clear e21
   exact zw
  case o5 =>
   intro x w1 hH K hK
   have e21:x 21=_:=hH.g 3 21
   have e22:x 22=_:=hH.g 4 22
   obtain ⟨xs,d,rfl⟩:=aA hH.below
   clear hH
   try simp only[World.aB] at hK |-
   try simp only[World.grow_grow] at hK |-
   simp only[e21,e22] at hK |-
   clear e21 e22
   go_simp
   go_wp2_with (refine Gives.use (HPD.out _) ?_;intro ys e)
   exact zu
  case o6 =>
   intro x w1 hH K hK
   have e21:x 21=_:=hH.g 3 21
   obtain ⟨xs,d,rfl⟩:=aA hH.below
   clear hH
   try simp only[World.aB] at hK |-
   try simp only[World.grow_grow] at hK |-
   simp only[e21] at hK |-
   clear e21
   exact zw
  case o7 =>
   intro x w1 hH K hK
   have e21:x 21=_:=hH.g 3 21
   have e23:x 23=_:=hH.g 5 23
   have e24:x 24=_:=hH.g 6 24
   obtain ⟨xs,d,rfl⟩:=aA hH.below
   clear hH
   try simp only[World.aB] at hK |-
   try simp only[World.grow_grow] at hK |-
   simp only[e21,e23,e24] at hK |-
   clear e21 e23 e24
   exact zw
  case o8 =>
   intro x w1 hH K hK
   have e21:x 21=_:=hH.g 3 21
   have e25:x 25=_:=hH.g 7 25
   obtain ⟨xs,d,rfl⟩:=aA hH.below
   clear hH
   try simp only[World.aB] at hK |-
   try simp only[World.grow_grow] at hK |-
   simp only[e21,e25] at hK |-
   clear e21 e25
   exact zw
 intro x w1 hH
 have e18:x 18=_:=hH.t 0 18
 have e19:x 19=_:=hH.t 1 19
 have e20:x 20=_:=hH.t 2 20
 have e21:x 21=_:=hH.t 3 21
 have e22:x 22=_:=hH.t 4 22
 have e23:x 23=_:=hH.t 5 23
 have e24:x 24=_:=hH.t 6 24
 have e25:x 25=_:=hH.t 7 25
 have e26:x 26=_:=hH.t 8 26
 obtain ⟨xs,d,rfl⟩:=aA hH.below
 clear hH
 simp only[e18,e19,e20,e21,e22,e23,e24,e25,e26];clear e18 e19 e20 e21 e22 e23 e24 e25 e26
 simp only[List.drop_succ_cons,List.drop_nil]
 go_wp2_with fail
 go_ret
 exact ⟨congrArg Ending.returned (congrArg (fun l=>Value.string (bs l)) HTX.out),HB5.out.trans ((aS _ _).mono HB5.out.size)⟩
def o8 (b:UInt8):Array Value := #[.int .u8 (b.toNat:Int)]
theorem aP4:kE Tryz.prog 189 5 1 1:=⟨Tryz.underlying189,by kernel_rfl,by decide,by decide⟩
def aQP (c:UInt8):List Bool := [decide ((64:Int)<c.toNat),decide ((c.toNat:Int)<91),decide ((96:Int)<c.toNat),decide ((c.toNat:Int)<123),decide ((47:Int)<c.toNat),decide ((c.toNat:Int)<58)]
def aJX:List (List Bool×Bool×Bool) := [([false,true,false,true,false,true],false,false),([false,true,false,true,true,true],false,true),([false,true,false,true,true,false],false,false),([true,true,false,true,true,false],true,false),
 ([true,false,false,true,true,false],false,false),([true,false,true,true,true,false],true,false),([true,false,true,false,true,false],false,false)]
theorem aKI:∀ c:UInt8,(aQP c,lK c,rZ c)∈aJX:=jQ (by decide +kernel)
def dB (s:List UInt8):Int:=if s.all lK=true then 1 else if s.all rZ=true then 2 else 0
theorem zB (p:UInt8->Bool) {s:List UInt8} {k:Nat} (hk:k<s.length) {b:Bool} (hb:p (byt s k)=b):(s.take (k+1)).countP p=(s.take k).countP p+if b=true then 1 else 0:=by
 rw[List.take_succ_eq_append_getElem hk,List.countP_append,bP hk]
 simp[hb]
theorem qC (p:UInt8->Bool) (s:List UInt8):s.countP p=s.length ↔ s.all p=true:=by rw[List.countP_eq_length,List.all_eq_true]
theorem uX (s:List UInt8) (hm:s.length<=1000) (w:World):Gives Tryz.prog 116 #[.string (bs s)] w (.int .i64 (dB s)):=by
 have hz:=bD s
 have HK:=Lib.hid (show dB s=if s.all lK=true then 1 else if s.all rZ=true then 2 else 0 from rfl)
 obtain ⟨rk,hrk⟩:∃ rk,rk=dB s:=⟨_,rfl⟩
 rw[<-hrk] at HK |-
 clear hrk
 unfold Gives
 go_enter Tryz.func116,Tryz.ntmps116
 go_upto_block 0 with fail
 go_cut [3,4] (fun s3 s4 wx => ∃ a b:Nat,s3 = .int .i64 a/\s4 = .int .i64 b/\Hid (a=s.countP lK/\b=s.countP rZ)/\wx=w)
 case first =>
  go_wp2_with fail
  go_loopw [3,4,5] (fun s3 s4 s5 wr => ∃ k a b:Nat,k<=s.length/\a<=k/\b<=k/\s3 = .int .i64 a/\s4 = .int .i64 b/\s5 = .int .i64 k/\Hid (a=(s.take k).countP lK/\b=(s.take k).countP rZ)/\wr=w) (fun _ _ s5 _=>s.length - (intOf s5).toNat)
  case atStart=>exact ⟨0,0,0,Nat.zero_le _,Nat.le_refl _,Nat.le_refl _,rfl,rfl,rfl,Lib.hid ⟨rfl,rfl⟩,rfl⟩
  obtain ⟨k,a,b,hk,ha,hb,rfl,rfl,rfl,hab,rfl⟩:=hrel
  by_cases hlt:k<s.length
  ·have hcl:=aKI (byt s k)
   obtain ⟨p,hp⟩:∃ p,lK (byt s k)=p:=⟨_,rfl⟩
   obtain ⟨q,hq⟩:∃ q,rZ (byt s k)=q:=⟨_,rfl⟩
   rw[hp,hq] at hcl
   have HA:=Lib.hid (zB lK hlt hp)
   have HB:=Lib.hid (zB rZ hlt hq)
   clear hp hq
   simp only[aJX,List.mem_cons,Prod.mk.injEq,List.mem_nil_iff,or_false,aQP,List.cons.injEq,and_true] at hcl
   rcases hcl with ⟨⟨t1,t2,t3,t4,t5,t6⟩,rfl,rfl⟩ | ⟨⟨t1,t2,t3,t4,t5,t6⟩,rfl,rfl⟩ | ⟨⟨t1,t2,t3,t4,t5,t6⟩,rfl,rfl⟩ | ⟨⟨t1,t2,t3,t4,t5,t6⟩,rfl,rfl⟩ | ⟨⟨t1,t2,t3,t4,t5,t6⟩,rfl,rfl⟩ | ⟨⟨t1,t2,t3,t4,t5,t6⟩,rfl,rfl⟩ | ⟨⟨t1,t2,t3,t4,t5,t6⟩,rfl,rfl⟩
   all_goals
    go_wp2_with fail
    go_roundw
    case measure=>simp[intOf];omega
    first
     | exact ⟨k+1,a,b,by omega,by omega,by omega,rfl,rfl,by go_num,Lib.hid ⟨by rw[HA.out,hab.out.1];simp,by rw[HB.out,hab.out.2];simp⟩,by first | rfl | trivial⟩
     | exact ⟨k+1,a+1,b,by omega,by omega,by omega,by go_num,rfl,by go_num,Lib.hid ⟨by rw[HA.out,hab.out.1];simp,by rw[HB.out,hab.out.2];simp⟩,by first | rfl | trivial⟩
     | exact ⟨k+1,a,b+1,by omega,by omega,by omega,rfl,by go_num,by go_num,Lib.hid ⟨by rw[HA.out,hab.out.1];simp,by rw[HB.out,hab.out.2];simp⟩,by first | rfl | trivial⟩
  have hke:k=s.length:=by omega
  subst hke
  rw[List.take_length] at hab
  go_wp2_with fail
  go_meet
  exact ⟨a,b,rfl,rfl,hab,by first | rfl | trivial⟩
 obtain ⟨a,b,rfl,rfl,hab,rfl⟩:=hcut
 have hfin:(a=s.length/\rk=1)\/(¬ a=s.length/\b=s.length/\rk=2)\/(¬ a=s.length /\ ¬ b=s.length/\rk=0):=by
  have h:=HK.out
  rw[hab.out.1,hab.out.2]
  by_cases h1:s.all lK=true
  ·rw[if_pos h1] at h
   exact .inl ⟨(qC _ _).2 h1,h⟩
  rw[if_neg h1] at h
  by_cases h2:s.all rZ=true
  ·rw[if_pos h2] at h
   exact .inr (.inl ⟨fun e=>h1 ((qC _ _).1 e),(qC _ _).2 h2,h⟩)
  rw[if_neg h2] at h
  exact .inr (.inr ⟨fun e=>h1 ((qC _ _).1 e),fun e=>h2 ((qC _ _).1 e),h⟩)
 clear HK hab
 rcases hfin with ⟨h1,rfl⟩ | ⟨h1,h2,rfl⟩ | ⟨h1,h2,rfl⟩
 ·have e1:((a:Int) == s.length)=true:=by rw[beq_iff_eq];omega
  clear h1
  go_wp2_with fail
  go_ret
  exact ⟨rfl,blw⟩
 ·have e1:((a:Int) == s.length)=false:=by rw[beq_eq_false_iff_ne];omega
  have e2:((b:Int) == s.length)=true:=by rw[beq_iff_eq];omega
  clear h1 h2
  go_wp2_with fail
  go_ret
  exact ⟨rfl,blw⟩
 have e1:((a:Int) == s.length)=false:=by rw[beq_eq_false_iff_ne];omega
 have e2:((b:Int) == s.length)=false:=by rw[beq_eq_false_iff_ne];omega
 clear h1 h2
 go_wp2_with fail
 go_ret
 exact ⟨rfl,blw⟩
def oO (g:Bool) (s:List UInt8):List UInt8:=s.map fun c=>if g=true then eF c else dK c
def aMc (c:UInt8):List Bool := [decide ((64:Int)<c.toNat),decide ((c.toNat:Int)<91),decide ((96:Int)<c.toNat),decide ((c.toNat:Int)<123)]
def aHi:List (List Bool×Bool×Bool) := [([false,true,false,true],false,false),([true,true,false,true],true,false),([true,false,false,true],false,false),([true,false,true,true],false,true),([true,false,true,false],false,false)]
theorem aJI:∀ c:UInt8,(aMc c,aGU c,yI c)∈aHi:=jQ (by decide +kernel)
theorem aJL {c:UInt8} (h:aGU c=true):IntKind.u8.wrap ((c.toNat:Int)+32)=(dK c).toNat/\decide ((96:Int)<(dK c).toNat)=true/\decide (((dK c).toNat:Int)<123)=true:=by
 have e:=aDP h
 unfold aGU at h
 simp only[Bool.and_eq_true,decide_eq_true_eq] at h
 refine ⟨?_,by rw[e];simp;omega,by rw[e];simp;omega⟩
 rw[e];simp[IntKind.wrap,IntKind.bits,IntKind.signed];omega
theorem aJM {c:UInt8} (h:yI c=true):IntKind.u8.wrap ((c.toNat:Int) - 32)=(eF c).toNat:=by
 have e:=aDQ h
 unfold yI at h
 simp only[Bool.and_eq_true,decide_eq_true_eq] at h
 rw[e];simp[IntKind.wrap,IntKind.bits,IntKind.signed];omega
theorem aHj (g:Bool) {s:List UInt8} {k:Nat} (hk:k<s.length) {e:UInt8} (he:(if g=true then eF (byt s k) else dK (byt s k))=e):oO g (s.take (k+1))=oO g (s.take k) ++ [e]:=by
 unfold oO
 rw[List.take_succ_eq_append_getElem hk,List.map_append,bP hk]
 simp[he]
theorem lQ (s:List UInt8) (g:Bool) (h1:1<=s.length) (hm:s.length<=1000) (w:World):Gives Tryz.prog 117 #[.string (bs s),.bool g] w (.string (bs (oO g s))):=by
 have hz:=bD s
 unfold Gives
 go_enter Tryz.func117,Tryz.ntmps117
 go_upto_block 0 with fail
 go_cut [5] (fun s5 wx=>Hid (Below w.heap.size w wx/\gU wx w.heap.size 1 5 s5 ((oO g s).map o8)))
 case first =>
  go_wp2_with fail
  go_loopw [5,6] (fun s5 s6 wr => ∃ k:Nat,k<=s.length/\s6 = .int .i64 k/\Hid (Below w.heap.size w wr)/\Hid (gU wr w.heap.size 1 5 s5 ((oO g (s.take k)).map o8))) (fun _ s6 _=>s.length - (intOf s6).toNat)
  case atStart=>exact ⟨0,Nat.zero_le _,rfl,Lib.hid (Below.refl _ _),Lib.hid (gU.nil _ _ _ _)⟩
  obtain ⟨k,hk,rfl,HB,HO⟩:=hrel
  by_cases hlt:k<s.length
  ·have hcl:=aJI (byt s k)
   obtain ⟨p,hp⟩:∃ p,aGU (byt s k)=p:=⟨_,rfl⟩
   obtain ⟨q,hq⟩:∃ q,yI (byt s k)=q:=⟨_,rfl⟩
   rw[hp,hq] at hcl
   simp only[aHi,List.mem_cons,Prod.mk.injEq,List.mem_nil_iff,or_false,aMc,List.cons.injEq,and_true] at hcl
   have hsz:=HB.out.size
   have hcase:∃ e:UInt8,(if g=true then eF (byt s k) else dK (byt s k))=e/\((byt s k=e/\(((64:Int)<e.toNat/\(e.toNat:Int)<91 /\ ¬ (96:Int)<e.toNat/\g=true)\/((96:Int)<e.toNat/\(e.toNat:Int)<123/\(64:Int)<e.toNat /\ ¬ (e.toNat:Int)<91/\g=false)\/(¬ (64:Int)<e.toNat /\ ¬ (96:Int)<e.toNat)\/((64:Int)<e.toNat /\ ¬ (e.toNat:Int)<91 /\ ¬ (96:Int)<e.toNat)\/((64:Int)<e.toNat /\ ¬ (e.toNat:Int)<91/\(96:Int)<e.toNat /\ ¬ (e.toNat:Int)<123))) \/
     ((64:Int)<(byt s k).toNat/\((byt s k).toNat:Int)<91/\g=false/\IntKind.u8.wrap (((byt s k).toNat:Int)+32)=e.toNat/\(96:Int)<e.toNat/\(e.toNat:Int)<123) \/
     ((64:Int)<(byt s k).toNat /\ ¬ ((byt s k).toNat:Int)<91/\(96:Int)<(byt s k).toNat/\((byt s k).toNat:Int)<123/\g=true/\IntKind.u8.wrap (((byt s k).toNat:Int) - 32)=e.toNat)):=by
    rcases hcl with ⟨⟨t1,t2,t3,t4⟩,rfl,rfl⟩ | ⟨⟨t1,t2,t3,t4⟩,rfl,rfl⟩ | ⟨⟨t1,t2,t3,t4⟩,rfl,rfl⟩ | ⟨⟨t1,t2,t3,t4⟩,rfl,rfl⟩ | ⟨⟨t1,t2,t3,t4⟩,rfl,rfl⟩
    all_goals simp only[decide_eq_true_eq,decide_eq_false_iff_not] at t1 t2 t3 t4
    ·exact ⟨byt s k,by cases g <;> simp[vG hq,vF hp],.inl ⟨rfl,.inr (.inr (.inl ⟨t1,t3⟩))⟩⟩
    ·cases g with
     | true=>exact ⟨byt s k,by simp[vG hq],.inl ⟨rfl,.inl ⟨t1,t2,t3,rfl⟩⟩⟩
     | false =>
      obtain ⟨w1,w2,w3⟩:=aJL hp
      exact ⟨_,rfl,.inr (.inl ⟨t1,t2,rfl,w1,of_decide_eq_true w2,of_decide_eq_true w3⟩)⟩
    ·exact ⟨byt s k,by cases g <;> simp[vG hq,vF hp],.inl ⟨rfl,.inr (.inr (.inr (.inl ⟨t1,t2,t3⟩)))⟩⟩
    ·cases g with
     | false=>exact ⟨byt s k,by simp[vF hp],.inl ⟨rfl,.inr (.inl ⟨t3,t4,t1,t2,rfl⟩)⟩⟩
     | true=>exact ⟨_,rfl,.inr (.inr ⟨t1,t2,t3,t4,rfl,aJM hq⟩)⟩
    ·exact ⟨byt s k,by cases g <;> simp[vG hq,vF hp],.inl ⟨rfl,.inr (.inr (.inr (.inr ⟨t1,t2,t3,t4⟩)))⟩⟩
   obtain ⟨e,he,hcase⟩:=hcase
   have HST:=Lib.hid (aHj g hlt he)
   have hlen:(oO g (s.take k)).length<=1000:=by unfold oO;rw[List.length_map,List.length_take];omega
   clear hcl hp hq he
   generalize oO g (s.take k)=R at *
   rcases hcase with ⟨hbe,⟨t1,t2,t3,rfl⟩ | ⟨t1,t2,t3,t4,rfl⟩ | ⟨t1,t2⟩ | ⟨t1,t2,t3⟩ | ⟨t1,t2,t3,t4⟩⟩ | ⟨t1,t2,rfl,t3,t4,t5⟩ | ⟨t1,t2,t3,t4,rfl,t5⟩
   all_goals
    go_wp2_with (at_builtin;refine iE (B:=w.heap.size) (xs:=R.map o8) (ys := [o8 e]) aP4 rfl (.tmp 40) (.tmp 42) rfl rfl ?_ rfl ?_ ?_ ?_ ?_ ?_)
    case refine_1=>exact HO.out.alloc _
    case refine_2=>exact ⟨_,pW (Nat.le_refl _) (by decide) (aI ((aC _ _ _).trans (if_pos (by simp))) rfl)⟩
    case refine_3=>simp[bZ,o8,Value.oneCell']
    case refine_4=>first | omega | (simp;omega)
    case refine_5=>first | omega | (simp;omega)
    intro v3 w3 ho hg _
    have hb3:Below w.heap.size w w3:=Below.grown (HB.out.alloc hsz _) hg (by simp;omega) (fun q hq=>by have:=HO.out.lt q hq;simp;omega)
    have HB3:=Lib.hid hb3
    have HO3:=Lib.hid (show gU w3 w.heap.size 1 5 v3 ((R ++ [e]).map o8) by simpa using ho)
    clear hb3 ho hg HB HO
    go_wp2_with fail
    go_roundw
    case rel=>exact ⟨k+1,by omega,by go_num,HB3,Lib.hid (by rw[HST.out];exact HO3.out)⟩
    simp[intOf];omega
  have hke:k=s.length:=by omega
  subst hke
  rw[List.take_length] at HO
  go_wp2_with fail
  go_meet
  exact Lib.hid ⟨HB.out,HO.out⟩
 obtain ⟨hb,ho⟩:=hcut.out
 have hsl:=ho.sl
 obtain ⟨_,a,cap,rfl,_,_,hc⟩:=hsl
 have hl:(oO g s).length=s.length:=List.length_map _
 rw[List.length_map] at hc
 obtain ⟨b,o,rfl,hlb,hcut2⟩:=hc (by omega)
 have hcv:=run_convert_bytes_back (P:=Tryz.prog) wc 189 9 5 ⟨b,o,none⟩ cap (oO g s) Tryz.underlying189 Tryz.underlying5 Tryz.underlying9 (fun j hj=>by
  have:=hcut2 j (o8 (oO g s)[j]) (by rw[List.getElem?_map,List.getElem?_eq_getElem hj];rfl)
  have h2:=(dF this).2 0 (by decide)
  rw[addr_add,Nat.mul_one] at *
  exact h2)
 have HB:=Lib.hid hb
 rw[List.length_map]
 clear hb ho hc hcut2 hcut hl
 go_wp2_with fail

 go_ret
 exact ⟨rfl,HB.out⟩
def aIQ (s:List UInt8):List UInt8:=s.takeWhile (· != 45)
def aIA (s:List UInt8):List UInt8:=(s.dropWhile (· != 45)).drop 1
def nG (s:List UInt8):Bool:=s.any (· == 45)
theorem aDJ:∀ s:List UInt8,splitOn 45 s=if nG s=true then aIQ s :: splitOn 45 (aIA s) else [s]
 | []=>rfl
 | c :: s=>by
  by_cases hc:c=45
  ·subst hc
   rw[xM]
   simp[nG,aIQ,aIA]
  ·have ih:=aDJ s
   have h1:nG (c :: s)=nG s:=by simp[nG,hc]
   have h2:aIQ (c :: s)=c :: aIQ s:=by simp[aIQ,hc]
   have h3:aIA (c :: s)=aIA s:=by simp[aIA,hc]
   show (if c=45 then [] :: splitOn 45 s else match splitOn 45 s with | p :: r=>(c :: p) :: r | [] => [[c]])=_
   rw[if_neg hc,h1,h2,h3,ih]
   by_cases hh:nG s=true
   ·rw[if_pos hh,if_pos hh]
   ·rw[if_neg hh,if_neg hh]
theorem aLc {s:List UInt8} {k:Nat} (hk:k<s.length) (h:∀ j,j<k->byt s j≠45) (hc:byt s k=45):aIQ s=s.take k/\aIA s=s.drop (k+1)/\nG s=true:=by
 have h1:∀ x∈s.take k,(x != 45)=true:=by
  intro x hx
  obtain ⟨j,hj,rfl⟩:=List.getElem_of_mem hx
  simp only[List.length_take] at hj
  rw[List.getElem_take,bP]
  simpa using h j (by omega)
 have e:s=s.take k++45 :: s.drop (k+1):=by
  conv=>lhs;rw[<-List.take_append_drop k s]
  rw[List.drop_eq_getElem_cons hk,bP hk,hc]
 refine ⟨?_,?_,?_⟩
 ·unfold aIQ
  conv=>lhs;rw[e]
  rw[List.takeWhile_append_of_pos h1]
  simp
 ·unfold aIA
  conv=>lhs;rw[e]
  rw[List.dropWhile_append_of_pos h1]
  simp
 unfold nG
 rw[List.any_eq_true]
 exact ⟨45,by rw[e];simp,rfl⟩
theorem aIU {s:List UInt8} (h:∀ j,j<s.length->byt s j≠45):nG s=false:=by
 unfold nG
 rw[Bool.eq_false_iff]
 intro ht
 obtain ⟨x,hx,he⟩:=List.any_eq_true.1 ht
 obtain ⟨j,hj,rfl⟩:=List.getElem_of_mem hx
 rw[bP hj] at he
 exact h j hj (by simpa using he)
def aCL (s:List UInt8):List UInt8×List UInt8×Bool:=if nG s=true then (aIQ s,aIA s,true) else (s, [],false)
theorem xH (s:List UInt8) (hm:s.length<=1000) (w:World):Gives Tryz.prog 115 #[.string (bs s)] w (.tuple #[.string (bs (aCL s).1),.string (bs (aCL s).2.1),.bool (aCL s).2.2]):=by
 have hz:=bD s
 unfold Gives
 go_enter Tryz.func115,Tryz.ntmps115
 go_wp2_with fail
 go_loopw [5] (fun s5 wr => ∃ k:Nat,k<=s.length/\s5 = .int .i64 k/\Hid (∀ j,j<k->byt s j≠45)/\wr=w) (fun s5 _=>s.length - (intOf s5).toNat)
 case atStart=>exact ⟨0,Nat.zero_le _,rfl,Lib.hid (fun j hj=>absurd hj (Nat.not_lt_zero _)),rfl⟩
 obtain ⟨k,hk,rfl,hn,rfl⟩:=hrel
 by_cases hlt:k<s.length
 ·by_cases hc:byt s k=45
  ·obtain ⟨h1,h2,h3⟩:=aLc hlt hn.out hc
   have hne:(((byt s k).toNat:Int) == 45)=true:=by rw[hc];rfl
   have h4:aCL s=(s.take k,s.drop (k+1),true):=by unfold aCL;rw[if_pos h3,h1,h2]
   have H4:=Lib.hid h4
   have hk1:(k:Int)+1<=s.length:=by omega
   have hk2:(k:Int)<=s.length:=by omega
   have hkn:k+1<=s.length:=by omega
   have hw1:IntKind.i64.wrap ((k:Int)+1)=((k+1:Nat):Int):=by rw[IntWalk.i64_in _ (by omega)];omega
   have hb1:=aD8 s 0 k
   have hb2:=aD8 s (k+1) s.length
   rw[List.drop_zero] at hb1
   rw[List.take_length] at hb2
   clear hc h1 h2 h3 h4 hn
   go_upto_region 5 with fail
   apply aG (by rfl) [.val _,.val _,.val _,.val _,.val _,.val _,.val _,.val _] 8 (by rfl) [16,17,18,19,20,21,22,2] [] [] (by rfl) (by rfl) (by decide) (by decide +kernel) (fun _ _ _ _ _ h=>h)
   case hF=>intro x;simp only[over,List.foldl_cons,List.foldl_nil,List.setIfInBounds_toArray,List.set_cons_succ,List.set_cons_zero];exact rfl
   case hops =>
    refine ⟨?o0,?o1,?o2,?o3,?o4,?o5,?o6,?o7,trivial⟩
    case o0 =>
     intro x w1 hH K hK
     obtain ⟨xs,d,rfl⟩:=aA hH.below
     clear hH
     try simp only[World.aB] at hK |-
     try simp only[World.grow_grow] at hK |-
     exact zx
    case o1 =>
     intro x w1 hH K hK
     obtain ⟨xs,d,rfl⟩:=aA hH.below
     clear hH
     try simp only[World.aB] at hK |-
     try simp only[World.grow_grow] at hK |-
     exact zx
    case o2 =>
     intro x w1 hH K hK
     have e16:x 16=_:=hH.g 0 16
     have e17:x 17=_:=hH.g 1 17
     obtain ⟨xs,d,rfl⟩:=aA hH.below
     clear hH
     try simp only[World.aB] at hK |-
     try simp only[World.grow_grow] at hK |-
     simp only[e16,e17] at hK |-
     clear e16 e17
     exact zx
    case o3 =>
     intro x w1 hH K hK
     obtain ⟨xs,d,rfl⟩:=aA hH.below
     clear hH
     try simp only[World.aB] at hK |-
     try simp only[World.grow_grow] at hK |-
     exact zx
    case o4 =>
     intro x w1 hH K hK
     obtain ⟨xs,d,rfl⟩:=aA hH.below
     clear hH
     try simp only[World.aB] at hK |-
     try simp only[World.grow_grow] at hK |-
     exact zx
    case o5 =>
     intro x w1 hH K hK
     have e20:x 20=_:=hH.g 4 20
     obtain ⟨xs,d,rfl⟩:=aA hH.below
     clear hH
     try simp only[World.aB] at hK |-
     try simp only[World.grow_grow] at hK |-
     simp only[e20] at hK |-
     clear e20
     exact zx
    case o6 =>
     intro x w1 hH K hK
     have e19:x 19=_:=hH.g 3 19
     have e21:x 21=_:=hH.g 5 21
     obtain ⟨xs,d,rfl⟩:=aA hH.below
     clear hH
     try simp only[World.aB] at hK |-
     try simp only[World.grow_grow] at hK |-
     simp only[e19,e21] at hK |-
     clear e19 e21
     exact zx
    case o7 =>
     intro x w1 hH K hK
     have e18:x 18=_:=hH.g 2 18
     obtain ⟨xs,d,rfl⟩:=aA hH.below
     clear hH
     try simp only[World.aB] at hK |-
     try simp only[World.grow_grow] at hK |-
     simp only[e18] at hK |-
     clear e18
     exact zx
   intro x w1 hH
   have e16:x 16=_:=hH.t 0 16
   have e17:x 17=_:=hH.t 1 17
   have e18:x 18=_:=hH.t 2 18
   have e19:x 19=_:=hH.t 3 19
   have e20:x 20=_:=hH.t 4 20
   have e21:x 21=_:=hH.t 5 21
   have e22:x 22=_:=hH.t 6 22
   have e2:x 2=_:=hH.t 7 2
   obtain ⟨xs,d,rfl⟩:=aA hH.below
   clear hH
   simp only[e16,e17,e18,e19,e20,e21,e22,e2];clear e16 e17 e18 e19 e20 e21 e22 e2
   simp only[List.drop_succ_cons,List.drop_zero]
   go_wp2_with fail
   refine bodyPost_ret (v := .tuple #[.string (bs (s.take k)),.string (bs (s.drop (k+1))),.bool true]) (by simp[results,Tryz.results115,go_sem]) rfl ⟨by rw[H4.out],blw⟩
  have hne:(((byt s k).toNat:Int) == 45)=false:=by
   rw[beq_eq_false_iff_ne];intro e;exact hc (UInt8.toNat_inj.1 (by have:(45:UInt8).toNat=45:=rfl;omega))
  have HN:Hid (∀ j,j<k+1->byt s j≠45):=Lib.hid (fun j hj=>by
   by_cases he:j=k
   ·rw[he];exact hc
   exact hn.out j (by omega))
  clear hc hn
  go_wp2_with fail
  go_roundw
  case rel=>exact ⟨k+1,by omega,by go_num,HN,by first | rfl | trivial⟩
  simp[intOf];omega
 have hke:k=s.length:=by omega
 subst hke
 have h4:aCL s=(s, [],false):=by unfold aCL;rw[aIU hn.out];rfl
 have H4:=Lib.hid h4
 clear h4 hn
 go_wp2_with fail
 refine bodyPost_ret (v := .tuple #[.string (bs s),.string (bs []),.bool false]) (by simp[results,Tryz.results115,go_sem];rfl) rfl ⟨by rw[H4.out],blw⟩
theorem nS (l:List UInt8) (b o cap n:Nat) (hn:l.length=n) (w:World) (h:yT w b o l) (hm:n<=100) (hcap:n<=cap):Gives Tryz.prog 80 #[.slice (some ⟨b,o,none⟩) n cap] w (.string (bs (partT l))):=by
 have HR:=Lib.hid h
 clear h
 unfold Gives
 go_enter Tryz.func80,Tryz.ntmps80
 go_upto_block 0 with fail
 go_cut [3] (fun s3 wx => ∃ k:Nat,k<=n/\s3 = .int .i64 k/\Hid (partT l=l.take k)/\wx=w)
 case first =>
  go_wp2_with fail
  go_loopw [3] (fun s3 wr => ∃ k:Nat,k<=n/\s3 = .int .i64 k/\Hid (∀ j,k<=j->j<n->byt l j=0)/\wr=w) (fun s3 _=>(intOf s3).toNat)
  case atStart=>exact ⟨n,Nat.le_refl _,rfl,Lib.hid (fun j h1 h2=>by omega),rfl⟩
  obtain ⟨k,hk,rfl,hz,rfl⟩:=hrel
  by_cases h0:k=0
  ·subst h0
   have HF:Hid (partT l=l.take 0):=Lib.hid (by
    unfold partT
    refine Lib.trimRightB_take l 0 0 (Nat.zero_le _) (fun j b _ hj => ?_) (fun b h=>absurd h (by decide))
    have hjl:=(List.getElem?_eq_some_iff.1 hj).1
    have:=hz.out j (Nat.zero_le _) (by omega)
    rw[List.getElem?_eq_getElem hjl,bP hjl] at hj
    rw[<-Option.some.inj hj];exact this)
   clear hz
   go_wp2_with fail
   go_meet
   exact ⟨0,Nat.zero_le _,rfl,HF,by first | rfl | trivial⟩
  obtain ⟨m,rfl⟩:∃ m,k=m+1:=⟨k - 1,by omega⟩
  have c:=HR.out m (by omega)
  have hpos:(0:Int)<((m+1:Nat):Int):=by omega
  have hsub:(((m+1:Nat):Int) - 1)=(m:Int):=by omega
  have hml:(m:Int)<n:=by omega
  have hmn:m<n:=by omega
  by_cases hc:byt l m=0
  ·have hne:(((byt l m).toNat:Int) == 0)=true:=by rw[hc];rfl
   have HZ:Hid (∀ j,m<=j->j<n->byt l j=0):=Lib.hid (fun j h1 h2=>by
    by_cases he:j=m
    ·rw[he];exact hc
    exact hz.out j (by omega) h2)
   clear hc hz h0
   go_wp2_with fail
   go_roundw
   case rel=>exact ⟨m,by omega,by first | rfl | go_num,HZ,by first | rfl | trivial⟩
   simp[intOf]
  have hne:(((byt l m).toNat:Int) == 0)=false:=by
   rw[beq_eq_false_iff_ne];intro e;exact hc (UInt8.toNat_inj.1 (by have:(0:UInt8).toNat=0:=rfl;omega))
  have HF:Hid (partT l=l.take (m+1)):=Lib.hid (by
   unfold partT
   refine Lib.trimRightB_take l 0 (m+1) (by omega) (fun j b h1 hj => ?_) (fun b _ hj => ?_)
   ·have hjl:=(List.getElem?_eq_some_iff.1 hj).1
    have:=hz.out j h1 (by omega)
    rw[List.getElem?_eq_getElem hjl,bP hjl] at hj
    rw[<-Option.some.inj hj];exact this
   rw[Nat.add_sub_cancel,List.getElem?_eq_getElem (by omega),bP] at hj
   rw[<-Option.some.inj hj];exact hc)
  clear hc hz h0
  go_wp2_with fail
  go_meet
  exact ⟨m+1,by omega,by first | rfl | go_num,HF,by first | rfl | trivial⟩
 obtain ⟨k,hk,rfl,hf,rfl⟩:=hcut
 have hcv:=run_convert_bytes_back (P:=Tryz.prog) wc 189 9 5 ⟨b,o,none⟩ cap (l.take k) Tryz.underlying189 Tryz.underlying5 Tryz.underlying9 (fun j hj=>by
  rw[List.length_take] at hj
  rw[addr_add,List.getElem_take,bP]
  exact HR.out j (by omega))
 rw[show (l.take k).length=k by rw[List.length_take];omega,<-hf.out] at hcv
 have hk1:(k:Int)<=n:=by omega
 have hk0:(0:Int)<=k:=by omega
 have hkc:(k:Int)<=cap:=by omega
 clear hf
 go_wp2_with fail
 go_ret
 exact ⟨rfl,blw⟩
def bU (x:mZ):Array Value := #[.string (bs x.1),.string (bs x.2.1),.string (bs x.2.2)]
@[go_sem] theorem jW:Tryz.prog.bJ 148=some 3:=by kernel_rfl
@[go_sem ↓ high] theorem aOv (a:Addr):loadVar 148 a=eX 148 a:=rfl
@[go_sem ↓ high] theorem aPc (a:Addr) (v:Value):storeVar 148 a v=bH 148 a v:=rfl
@[go_sem,simp] theorem wQ (x:mZ):(bU x).size=3:=id rfl
@[go_sem] theorem aKc (x:mZ):(bU x)[0]? = some (.string (bs x.1)):=id rfl
@[go_sem] theorem aKd (x:mZ):(bU x)[1]? = some (.string (bs x.2.1)):=id rfl
@[go_sem] theorem aKe (x:mZ):(bU x)[2]? = some (.string (bs x.2.2)):=id rfl
@[go_sem] theorem aMa (x:mZ):(bU x).extract 0 3=bU x:=by apply Array.extract_eq_self_of_le;simp
@[go_sem] theorem aNo (x:mZ):bZ (bU x)=true:=by simp[bZ,bU,Value.oneCell']
@[go_sem] theorem aNE (x:mZ):(bU x).all (·.oneCell')=true:=by simp[bU,Value.oneCell']
def zT3:mZ:=([], [], [])
theorem aGq:fQ Tryz.prog 148 [.string,.string,.string]:=⟨by kernel_rfl,by kernel_rfl,jW⟩
def OkT (x:mZ):Prop:=x.1.length<=1000/\x.2.1.length<=1000/\x.2.2.length<=1000
theorem aEM {l:List UInt8} (h:l.length<=1000):fits .string (.string (bs l)) (.string l):=⟨by simp[bs],by rw[bD];unfold maxLen;omega⟩
theorem aEy {x:mZ} (h:OkT x):iT [.string,.string,.string] (bU x).toList [.string x.1,.string x.2.1,.string x.2.2] :=
 .cons (aEM h.1) (.cons (aEM h.2.1) (.cons (aEM h.2.2) .nil))
theorem aJt (x y:mZ) (hx:OkT x) (hy:OkT y) (w:World):(Op.equalIn 10000 148 (.agg (bU x)) (.agg (bU y))).run Tryz.prog w = .ok (decide (x=y)) w:=by
 obtain ⟨r,h1,h2⟩:=aBb aGq w (aEy hx) (aEy hy)
 rw[h1]
 congr 1
 rw[Bool.eq_iff_iff,h2,decide_eq_true_eq]
 obtain ⟨a,b,c⟩:=x
 obtain ⟨a',b',c'⟩:=y
 simp
def aJO (p:Array (Nat×Value)):Sem Value:=Instr.build 148 p
@[go_sem ↓ high] theorem aO1 (w:World):(Instr.build 148 #[]).run Tryz.prog w = .ok (.agg (bU zT3)) w:=by kernel_rfl
@[go_sem ↓ high] theorem aPw (f:Nat×Operand->Nat×Value) (p:Nat×Operand):Instr.build 148 (Array.map f #[p])=aJO #[f p]:=by simp[aJO]
@[go_sem ↓ high] theorem aPx (f:Nat×Operand->Nat×Value) (p q r:Nat×Operand):Instr.build 148 (Array.map f #[p,q,r])=aJO #[f p,f q,f r]:=by simp[aJO]
@[go_sem] theorem aO2 (a:List UInt8) (w:World):(aJO #[(0,.string (bs a))]).run Tryz.prog w = .ok (.agg (bU (a, [], []))) w:=by
 unfold aJO
 refine fJ (zero := .agg (bU zT3)) (places := #[(0,1),(1,1),(2,1)]) (by intro w;exact (Tryz.zeroValue148 w).trans rfl) Tryz.underlying148 (by intro w;kernel_rfl) ?_
 rfl
@[go_sem] theorem aO3 (a b c:List UInt8) (w:World):(aJO #[(0,.string (bs a)),(1,.string (bs b)),(2,.string (bs c))]).run Tryz.prog w = .ok (.agg (bU (a,b,c))) w:=by
 unfold aJO
 refine fJ (zero := .agg (bU zT3)) (places := #[(0,1),(1,1),(2,1)]) (by intro w;exact (Tryz.zeroValue148 w).trans rfl) Tryz.underlying148 (by intro w;kernel_rfl) ?_
 rfl
def nT (s:List UInt8):mZ×Bool:=match iV s with | some x=>(x,true) | none=>(zT3,false)
def aAl (rest:List UInt8) (more:Bool):List (List UInt8):=if more=true then splitOn 45 rest else []
theorem aCz (s:List UInt8):splitOn 45 s=(aCL s).1 :: aAl (aCL s).2.1 (aCL s).2.2:=by
 rw[aDJ]
 unfold aCL aAl
 by_cases h:nG s=true
 ·rw[if_pos h,if_pos h];rfl
 rw[if_neg h,if_neg h];rfl
theorem aE1 (s:List UInt8):nG s=true->(aIA s).length<s.length:=by
 intro h
 obtain ⟨x,hx,he⟩:=List.any_eq_true.1 h
 have h1:(s.dropWhile (· != 45)) ≠ []:=by
  have he:x=45:=by simpa using he
  have key:∀ l:List UInt8,x∈l->l.dropWhile (· != 45) ≠ []:=by
   intro l
   induction l with
   | nil=>intro h;simp at h
   | cons c l ih =>
    intro hm
    by_cases hc:c=45
    ·rw[List.dropWhile_cons_of_neg (by simp[hc])];simp
    rw[List.dropWhile_cons_of_pos (by simp[hc])]
    rcases List.mem_cons.1 hm with h | h
    ·exact absurd (h.symm.trans he) hc
    exact ih h
  exact key s hx
 have h2:(s.dropWhile (· != 45)).length<=s.length:=(List.dropWhile_sublist _).length_le
 unfold aIA
 rw[List.length_drop]
 have:=List.length_pos_iff.2 h1
 omega
theorem aIR (s:List UInt8):(aIQ s).length<=s.length:=pJ _ s
theorem aE0 (s:List UInt8):(aCL s).1.length<=s.length/\(aCL s).2.1.length<=s.length/\((aCL s).2.2=true->(aCL s).2.1.length<s.length):=by
 unfold aCL
 by_cases h:nG s=true
 ·rw[if_pos h];exact ⟨aIR s,Nat.le_of_lt (aE1 s h),fun _=>aE1 s h⟩
 rw[if_neg h];exact ⟨Nat.le_refl _,Nat.zero_le _,fun e=>by cases e⟩
theorem yH (p:List UInt8):dB p=1 ↔ p.all lK=true:=by
 unfold dB
 by_cases h:p.all lK=true
 ·simp[h]
 rw[if_neg h];by_cases h2:p.all rZ=true <;> simp[h,h2]
theorem aDm:∀ c:UInt8,lK c=true->rZ c=false:=jQ (by decide +kernel)
theorem aEb {p:List UInt8} (hp:p ≠ []):dB p=2 ↔ p.all rZ=true:=by
 unfold dB
 by_cases h:p.all lK=true
 ·rw[if_pos h]
  cases p with
  | nil=>exact absurd rfl hp
  | cons c r =>
   simp only[List.all_cons,Bool.and_eq_true] at h
   simp[aDm c h.1]
 rw[if_neg h];by_cases h2:p.all rZ=true <;> simp[h2]
theorem aBJ (p:List UInt8):lF p=true ↔ dB p=1/\2<=p.length/\p.length<=3:=by
 rw[yH];unfold lF;simp only[Bool.and_eq_true,decide_eq_true_eq]
 exact ⟨fun h=>⟨h.2,h.1.1,h.1.2⟩,fun h=>⟨⟨h.2.1,h.2.2⟩,h.1⟩⟩
theorem aDF (p:List UInt8):bM p=true ↔ dB p=1/\p.length=4:=by
 rw[yH];unfold bM;simp only[Bool.and_eq_true,decide_eq_true_eq];exact And.comm
theorem aCw (p:List UInt8):bF p=true ↔ (dB p=1/\p.length=2)\/(dB p=2/\p.length=3):=by
 unfold bF;simp only[Bool.or_eq_true,Bool.and_eq_true,decide_eq_true_eq]
 constructor
 ·rintro (h | h)
  ·exact .inl ⟨(yH p).2 h.2,h.1⟩
  exact .inr ⟨(aEb (by intro e;rw[e] at h;simp at h)).2 h.2,h.1⟩
 rintro (h | h)
 ·exact .inl ⟨h.2,(yH p).1 h.1⟩
 exact .inr ⟨h.2,(aEb (by intro e;rw[e] at h;simp at h)).1 h.1⟩
end Go.Proofs.YtcedmfnlkelhkaaGreatDoor
