/- Layer 20's law FallParents, for every input: where no translation of the tag itself serves, the answer is its parent's; an answer's tag stands in the chain, and serves; the Go function returns true, and each argument reads behind the call as it read before. Condition: the tables that the row lists (tied to the program's text by the card); the proof does not use what they hold. -/
import Derived.Test.YtcedmfnlkelhkaaGreatDoorJcy
import Derived.Test.YtcedmfnlkelhkaaGreatDoorJcv
import Derived.Handy
import Derived.Test.YtcedmfnlkelhkaaGreatDoorJcz
import Derived.BigRegion
import Derived.Deep.CutBlock
import Derived.Deep.Cut
import Derived.Test.YtcedmfnlkelhkaaGreatDoorCards
import Derived.Test.YtcedmfnlkelhkaaGreatDoorTie
import Derived.ProofKit
import Derived.LaidMore
import Derived.Lay
import Derived.OpenShut
import Derived.ShutString
namespace Go.Proofs.YtcedmfnlkelhkaaGreatDoor
set_option maxRecDepth 100000
open Go.RowKit

@[go_sem] theorem aLM:Tryz.prog.bJ 28=some 9:=by kernel_rfl
@[go_sem ↓ high] theorem aNf (a:Addr):loadVar 28 a=eX 28 a:=rfl
theorem view_gets {N:Nat} {vp:Value} {W:World} (h:aEV N vp W):∃ vb,vp = .pointer (some ⟨vb,0,none⟩) /\ ∀ nm:List UInt8,nm.length=12 -> ∃ (o:Option (UInt8×Rec)) (f:StF),GoodS f /\ ∀ (mode:Int) (tg:List UInt8),tg.length=10 -> ∀ V,Below W.heap.size W V ->
  Gives Tryz.prog 10 #[.pointer (some ⟨vb,0,none⟩),.agg (aJ nm),.agg (aJ tg),.int .i64 mode] V (.tuple #[.agg (gZ (Rd.zK f o nm tg mode)),.int .i64 (Rd.xB nm tg o mode)]):=by
 obtain ⟨B,s,G,T,p8,b8,own,hS,hsh,hgd,vb,lv,rfl, -, -,hva⟩:=h
 refine ⟨vb,rfl,fun nm hn => ?_⟩
 obtain ⟨P,hP⟩:∃ P,P=dG (aQ G) T p8 b8 257 [] (b8,qO):=⟨_,rfl⟩
 rw[<-hP] at hva
 have hP1:P.length<=1000:=by rw[hP];exact Nat.le_trans (aBA _ _ _ _ _ _ _) (by decide)
 have hPf:P = [] \/ ∃ u q,P=(b8,u) :: q:=by rw[hP];exact aDc _ _ _ _ _ _ _
 refine ⟨mJ (aQ G) T p8 b8 5 nm (zeros 10) ⟨hn,rfl⟩ P,stF (aQ G) T p8 b8 P nm hn,?_,?_⟩
 ·intro u hu
  unfold stF at hu |-
  split at hu
  ·rename_i hl
   rw[dif_pos hl]
   exact aEK hgd hu
  cases hu
 intro mode tg ht V hb
 refine Rd.aBC vb nm tg hn ht _ _ mode V (fun V2 hb2 => ?_) (fun V2 hb2 u hu => ?_)
 ·exact qZ ((hS.keep hb).keep hb2) hsh ((hva.up hb).up hb2) hP1 hPf nm hn
 have hv:=aAT ((hS.keep hb).keep hb2) hsh ((hva.up hb).up hb2) hP1 hPf nm u hn hu
 unfold stF
 rw[dif_pos hu]
 exact hv
theorem getE_up {nm tg:List UInt8} (ht:tg.length=10) {o:Option (UInt8×Rec)} {mode:Int} (h:Rd.xB nm tg o mode=0):Rd.xB nm (yK tg) o mode=0:=by
 have hc:aD4 nm tg=0:=by
  unfold Rd.xB at h
  by_cases hc:aD4 nm tg=0
  ·exact hc
  rw[if_pos hc] at h
  exact absurd h hc
 obtain ⟨h1,h2⟩:=Rd.aDe hc
 have hc2:aD4 nm (yK tg)=0:=by
  unfold aD4
  rw[h1,aBS ht h2,if_neg (by decide),if_neg (by decide)]
 unfold Rd.xB at h |-
 rw[if_neg (fun h=>h hc)] at h
 rw[if_neg (fun h=>h hc2)]
 exact h
theorem getW_ok {nm tg:List UInt8} {o:Option (UInt8×Rec)} {f:StF} {mode:Int} (h:Rd.xB nm tg o mode=0):aZ tg=true /\ ∃ s,Rd.zK f o nm tg mode=aA6 f s mode tg /\ ∀ u,Rd.xB nm u o mode=0->Rd.zK f o nm u mode=aA6 f s mode u:=by
 have hc:aD4 nm tg=0:=by
  unfold Rd.xB at h
  by_cases hc:aD4 nm tg=0
  ·exact hc
  rw[if_pos hc] at h
  exact absurd h hc
 have hs:aGS o=0:=by
  unfold Rd.xB at h
  rw[if_neg (fun h=>h hc)] at h
  split at h
  ·cases h
  exact h
 obtain ⟨b,s,rfl, -, -⟩:=Rd.aH8 hs
 refine ⟨(Rd.aDe hc).2,s,?_,fun u hu => ?_⟩
 ·unfold Rd.zK
  rw[h,if_pos rfl]
 unfold Rd.zK
 rw[hu,if_pos rfl]

theorem getW_len {nm tg:List UInt8} (ht:tg.length=10) (o:Option (UInt8×Rec)) (f:StF) (mode:Int):(Rd.zK f o nm tg mode).tag.length=10:=by
 unfold Rd.zK
 split
 ·split
  ·exact aAz tg ht _ (aE8 ht)
  rfl
 rfl
theorem getW_law {nm tg:List UInt8} (ht:tg.length=10) {o:Option (UInt8×Rec)} {f:StF} (hf:GoodS f) {mode:Int} (h:Rd.xB nm tg o mode=0) {aw:Ans} (ha:aw=Rd.zK f o nm tg mode) :
  aw.tag∈Rd.upL tg/\(aw.tag=zeros 10 ↔ aw.state=0)/\(mode≠0->aw.state≠0->aw.state=3)/\aw.state≠4/\(aw.tag≠tg->oW tg=true->Rd.xB nm (aA8 tg) o mode=0/\Rd.zK f o nm (aA8 tg) mode=aw):=by
 subst ha
 obtain ⟨hr,s,h1,h2⟩:=getW_ok (f:=f) h
 rw[h1]
 have hm:=aGt (f:=f) (s:=s) (t:=tg) mode
 refine ⟨?_,aGu hf,hm.1,hm.2,fun hn hu => ?_⟩
 ·have e:Rd.upL tg=oG tg:=by unfold Rd.upL Rd.chT;rw[hr,if_pos rfl]
  rw[e]
  exact aE8 ht
 have e:aA8 tg=yK tg:=by unfold aA8;rw[hu,if_pos rfl]
 have h3:=getE_up ht h
 rw[e,h2 _ h3]
 refine ⟨h3,aJw ht (fun e2 => ?_) hn⟩
 unfold oW at hu
 rw[e2] at hu
 simp at hu
theorem ansA_tag {a:Ans} (h:a.tag.length=10) {W:World} {b:Nat} (hc:W.aW b 0 13=some (gZ a)):W.aW b 1 10=some (aJ a.tag):=by
 refine (iC (i:=1) (m:=10) hc (by decide)).trans (congrArg some ?_)
 apply Array.toList_inj.1
 simp[gZ,aGZ,aJ,h]
set_option maxHeartbeats 40000000 in
theorem fallPa_walk (x:aCO) (xs:List (Array Value)) (ls:List (List Wr)) (ow:List Wr) (ns:List N12) (ts:List T10) (mode:Int) (w:World) (h:aAt w x xs ls ow ns ts) :
  Gives Tryz.prog 3 #[.agg x.arr,.int .i64 mode] w (.bool true):=by
 have HV:=Lib.hid (fun V (hb:Below w.heap.size w V)=>aER x xs ls ow ns ts V (h.below hb))
 obtain ⟨rv,ov,pj,br,sn,at_,nv,tv,ms⟩:=x
 obtain ⟨a0,c0,e0, -, -⟩:=h.rows.1.form
 obtain ⟨a1,c1,e1, -, -⟩:=h.own.form
 obtain ⟨a6,c6,e6, -, -⟩:=h.names.form
 obtain ⟨a7,c7,e7, -, -⟩:=h.tags.form
 simp only[List.length_map] at e0 e1 e6 e7
 subst e0 e1 e6 e7
 simp only[aCO.arr] at HV |-
 have HA:=Lib.hid h
 have HKN:=Lib.hid aBf
 clear h
 unfold Gives
 go_enter Tryz.func3,Tryz.ntmps3
 go_upto_region 1 with fail
 refine aP ?_
 intro W0 hW0
 obtain ⟨xb,hxb⟩:∃ xb,xb=w.heap.size:=⟨_,rfl⟩
 have hb0:Below w.heap.size w W0:=by rw[hW0];exact blw
 have hx0:W0.heap[xb]? = some (.cells #[.slice a0 xs.length c0,.slice a1 ow.length c1,.int .i64 pj,.int .i64 br,.bool sn,.int .u64 (at_.toNat:Int),.slice a6 ns.length c6,.slice a7 ts.length c7,.int .i64 ms] 28):=by rw[hW0,hxb];exact (aC _ _ _).trans (if_pos rfl)
 simp only[<-hxb]
 have lx0:=lt_of_heap hx0
 have k0:W0.aW xb 0 9=some #[.slice a0 xs.length c0,.slice a1 ow.length c1,.int .i64 pj,.int .i64 br,.bool sn,.int .u64 (at_.toNat:Int),.slice a6 ns.length c6,.slice a7 ts.length c7,.int .i64 ms]:=aI hx0 rfl
 have HV0:=Lib.hid (HV.out W0 hb0)
 have H0:=Lib.hid (And.intro hb0 hx0)
 clear hW0 hb0 hx0 hxb HV
 go_wp2_with fail
 refine HV0.out.mono ?_
 rintro e W1 ⟨hb1,vp,vd,ok,rfl,hvs,hvo,hok⟩
 have HOK:=Lib.hid (And.intro hb1 hok)
 clear hb1 hok
 go_upto_region 3 with fail
 refine aP ?_
 intro X hX
 have hbX1:Below W1.heap.size W1 X:=by rw[hX];exact blw
 have hbX:Below w.heap.size w X:=(H0.out.1.trans (HOK.out.1.mono H0.out.1.size)).trans (hbX1.mono (Nat.le_trans H0.out.1.size HOK.out.1.size))
 have hxX:=((HOK.out.1.trans (hbX1.mono HOK.out.1.size)).block xb lx0).trans H0.out.2
 have HVW:=Lib.hid (show ok=true->aEV W0.heap.size vp X from fun h=>by
  obtain ⟨B,s,G,t,p8,b8,own,hS,hsh,hgd,vb,lv,e,h1,h2,h3⟩:=HOK.out.2 h
  exact ⟨B,s,G,t,p8,b8,own,hS.keep hbX1,hsh,hgd,vb,lv,e,h1,h2,h3.up hbX1⟩)
 have HBX:=Lib.hid hbX
 have HX:=Lib.hid hxX
 generalize wrap64 ((IntKind.u64.wrap mode).tmod 2)=md at *
 clear hX hbX1 hbX hxX HV0 H0 HOK k0 lx0 hvs hvo
 cases ok with
 | false =>
  clear HVW
  go_wp2_with fail
  refine Gives.use (HKN.out _) ?_
  intro ys d
  go_wp2_with fail
  go_ret
  exact ⟨rfl,HBX.out.trans ((aS ys d).mono HBX.out.size)⟩
 | true =>
  obtain ⟨vb,rfl,hget⟩:=view_gets (HVW.out rfl)
  have HGET:=Lib.hid hget
  have hnA:=(HA.out.names.below HBX.out).more HBX.out.size
  have htA:=(HA.out.tags.below HBX.out).more HBX.out.size
  have HN:=Lib.hid (And.intro hnA htA)
  clear hget hnA htA HA HVW
  go_wp2_with fail
  go_loopw [8] (fun s8 wr => ∃ i:Nat,i<=ns.length/\i<=6/\s8 = .int .i64 i/\Hid (Below X.heap.size X wr)) (fun s8 _=>6 - (intOf s8).toNat)
  case atStart=>exact ⟨0,Nat.zero_le _,Nat.zero_le _,rfl,Lib.hid blw⟩
  obtain ⟨i,hi,hi6,rfl,HR⟩:=hrel
  have x6:wr.cell? ⟨xb,6,none⟩=some (.slice a6 ns.length c6):=(aF ((HR.out.block xb (lt_of_heap HX.out)).trans HX.out) 6).1.trans rfl
  by_cases hli:i<ns.length
  ·have hliI:(i:Int)<ns.length:=by omega
   by_cases h6:i<6
   ·have h6I:(i:Int)<6:=by omega
    go_wp2_with fail
    go_loopw [9] (fun s9 wq => ∃ j:Nat,j<=ts.length/\j<=4/\s9 = .int .i64 j/\Hid (Below X.heap.size X wq)) (fun s9 _=>4 - (intOf s9).toNat)
    case atStart=>exact ⟨0,Nat.zero_le _,Nat.zero_le _,rfl,HR⟩
    obtain ⟨j,hj,hj4,rfl,HQ⟩:=hrel
    clear x6
    have x6:wr.cell? ⟨xb,6,none⟩=some (.slice a6 ns.length c6):=(aF ((HQ.out.block xb (lt_of_heap HX.out)).trans HX.out) 6).1.trans rfl
    have x7:wr.cell? ⟨xb,7,none⟩=some (.slice a7 ts.length c7):=(aF ((HQ.out.block xb (lt_of_heap HX.out)).trans HX.out) 7).1.trans rfl
    have lxq:xb<wr.heap.size:=by have:=lt_of_heap HX.out;have:=HQ.out.size;omega
    by_cases hlj:j<ts.length
    ·have hljI:(j:Int)<ts.length:=by omega
     by_cases h4:j<4
     ·have h4I:(j:Int)<4:=by omega
      obtain ⟨-,_,_,he, -, -,hcA⟩:=(HN.out.1.below HQ.out)
      simp only[Value.slice.injEq,List.length_map,true_and] at he
      obtain ⟨rfl,rfl⟩:=he
      obtain ⟨g6,q6,rfl,hlb6,hcut6⟩:=hcA (by simp;omega)
      have hc6:=hcut6 i (aK2 ns[i]) (by simp[hli])
      clear hcut6
      obtain ⟨-,_,_,he, -, -,hcB⟩:=(HN.out.2.below HQ.out)
      simp only[Value.slice.injEq,List.length_map,true_and] at he
      obtain ⟨rfl,rfl⟩:=he
      obtain ⟨g7,q7,rfl,hlb7,hcut7⟩:=hcB (by simp;omega)
      have hc7:=hcut7 j (rowT ts[j]) (by simp[hlj])
      clear hcut7
      obtain ⟨nm,hnm⟩:∃ nm,nm=ns[i].1:=⟨_,rfl⟩
      obtain ⟨tg,htg⟩:∃ tg,tg=ts[j].1:=⟨_,rfl⟩
      have hn12:nm.length=12:=by rw[hnm];exact ns[i].2
      have ht10:tg.length=10:=by rw[htg];exact ts[j].2
      unfold aK2 at hc6
      unfold rowT at hc7
      rw[<-hnm] at hc6
      rw[<-htg] at hc7
      have hsz:=HQ.out.size
      have lg6:g6<wr.heap.size:=by omega
      have lg7:g7<wr.heap.size:=by omega
      obtain ⟨o,f,hgs,hg⟩:=HGET.out nm hn12
      have HG:=Lib.hid (fun (mode:Int) (u:List UInt8) (hu:u.length=10) V (hb:Below wr.heap.size wr V)=>hg mode u hu V (HQ.out.trans (hb.mono hsz)))
      have HGS:=Lib.hid hgs
      clear hg hgs hcA hcB hlb6 hlb7 HGET HN hnm htg
      have hnl:(aJ nm).size=12:=by simp[hn12]
      have htl:(aJ tg).size=10:=by simp[ht10]
      go_wp2_with fail
      go_upto_region 11 with fail
      go_cut [10,11] (fun s10 s11 wx => ∃ b10 b11:Nat,s10 = .pointer (some ⟨b10,0,none⟩)/\s11 = .pointer (some ⟨b11,0,none⟩)/\Hid (Below wr.heap.size wr wx)/\Hid (wx.heap[b10]? = some (.cells (aJ nm) 56)/\wx.heap[b11]? = some (.cells (aJ tg) 60)))
      case first =>
       clear HX HGS HG HQ HR HBX HKN hli h6 h6I hlj h4 h4I hi hi6 hj hj4 hn12 ht10 hsz
       go_wp2_with fail
       apply xZ (by rfl) [.val _,.val _,.val _,.val _,.val _,.val _,.val _,.val _,.val _,.val _,.soft 12 56,.new _ _,.sto 10 56 (aJ nm)] 13 (by rfl) [53,54,55,56,57,58,59,60,61,62,10,11] [10,11] [(12,10,56)] [none,none,none,none,none,none,none,none,none,none,none,some (60),none] (by rfl) (by rfl) (by rfl) (by decide +kernel) (by decide +kernel)
       case hF=>exact zh
       case hops =>
        refine ⟨?o0,?o1,?o2,?o3,?o4,?o5,?o6,?o7,?o8,?o9,?o10,?o11,?o12,trivial⟩
        case o0=>exact oz0
        case o1 =>
         intro x w1 hH K hK
         have e53:x 53=_:=(hH.holds 0 (by decide) (by decide +kernel) _ rfl).1 53 rfl
         obtain ⟨xs,d,rfl⟩:=aA hH.below
         clear hH
         try simp only[World.aB] at hK |-
         try simp only[World.grow_grow] at hK |-
         simp only[e53] at hK |-
         clear e53
         exact zv
        case o2=>exact oz0
        case o3 =>
         intro x w1 hH K hK
         have e54:x 54=_:=(hH.holds 1 (by decide) (by decide +kernel) _ rfl).1 54 rfl
         have e55:x 55=_:=(hH.holds 2 (by decide) (by decide +kernel) _ rfl).1 55 rfl
         obtain ⟨xs,d,rfl⟩:=aA hH.below
         clear hH
         try simp only[World.aB] at hK |-
         try simp only[World.grow_grow] at hK |-
         simp only[e54,e55] at hK |-
         clear e54 e55
         exact zv
        case o4 =>
         intro x w1 hH K hK
         have e56:x 56=_:=(hH.holds 3 (by decide) (by decide +kernel) _ rfl).1 56 rfl
         obtain ⟨xs,d,rfl⟩:=aA hH.below
         clear hH
         try simp only[World.aB] at hK |-
         try simp only[World.grow_grow] at hK |-
         simp only[e56] at hK |-
         clear e56
         exact zv
        case o5=>exact oz0
        case o6 =>
         intro x w1 hH K hK
         have e58:x 58=_:=(hH.holds 5 (by decide) (by decide +kernel) _ rfl).1 58 rfl
         obtain ⟨xs,d,rfl⟩:=aA hH.below
         clear hH
         try simp only[World.aB] at hK |-
         try simp only[World.grow_grow] at hK |-
         simp only[e58] at hK |-
         clear e58
         exact zv
        case o7=>exact oz0
        case o8 =>
         intro x w1 hH K hK
         have e59:x 59=_:=(hH.holds 6 (by decide) (by decide +kernel) _ rfl).1 59 rfl
         have e60:x 60=_:=(hH.holds 7 (by decide) (by decide +kernel) _ rfl).1 60 rfl
         obtain ⟨xs,d,rfl⟩:=aA hH.below
         clear hH
         try simp only[World.aB] at hK |-
         try simp only[World.grow_grow] at hK |-
         simp only[e59,e60] at hK |-
         clear e59 e60
         exact zv
        case o9 =>
         intro x w1 hH K hK
         have e61:x 61=_:=(hH.holds 8 (by decide) (by decide +kernel) _ rfl).1 61 rfl
         obtain ⟨xs,d,rfl⟩:=aA hH.below
         clear hH
         try simp only[World.aB] at hK |-
         try simp only[World.grow_grow] at hK |-
         simp only[e61] at hK |-
         clear e61
         exact zv
        case o10 =>
         intro x w1 hH K hK
         obtain ⟨xs,d,rfl⟩:=aA hH.below
         clear hH
         try simp only[World.aB] at hK |-
         try simp only[World.grow_grow] at hK |-
         go_simp
         go_wp2_with fail
         exact aFZ rfl (by simp) (by first | (simp;done) | (simp;omega)) (by kernel_rfl)
        case o11 =>
         intro x w1 hH K hK
         obtain ⟨xs,d,rfl⟩:=aA hH.below
         clear hH
         try simp only[World.aB] at hK |-
         try simp only[World.grow_grow] at hK |-
         go_simp
         go_wp2_with fail
         exact aHA rfl (by simp) (by first | (simp;done) | (simp;omega))
        case o12 =>
         intro x w1 hH K hK
         have e57:x 57=_:=(hH.holds 4 (by decide) (by decide +kernel) _ rfl).1 57 rfl
         obtain ⟨b10,c10,e10,l10,o10,z10⟩:=(hH.holds 10 (by decide) (by decide +kernel) _ rfl).1 10 rfl
         obtain ⟨xs,d,rfl⟩:=aA hH.below
         clear hH
         have ne:=hK _ _ (aHB e10 l10 o10 (by rw[z10];first | assumption | (simp;done) | (simp[go_sem];done)))
         clear hK
         have th:=aFw (b:=b10) o10
         rw[z10] at th
         try simp only[World.aB] at ne th
         try simp only[World.grow_grow] at ne th
         simp only[e57,e10] at ne |-
         go_simp
         first | with_reducible exact ne | (go_wp2_with fail;exact ne)
       intro x w1 hH
       have e53:x 53=_:=(hH.holds 0 (by decide) trivial _ rfl).1 53 rfl
       have e54:x 54=_:=(hH.holds 1 (by decide) trivial _ rfl).1 54 rfl
       have e55:x 55=_:=(hH.holds 2 (by decide) trivial _ rfl).1 55 rfl
       have e56:x 56=_:=(hH.holds 3 (by decide) trivial _ rfl).1 56 rfl
       have e57:x 57=_:=(hH.holds 4 (by decide) trivial _ rfl).1 57 rfl
       have e58:x 58=_:=(hH.holds 5 (by decide) trivial _ rfl).1 58 rfl
       have e59:x 59=_:=(hH.holds 6 (by decide) trivial _ rfl).1 59 rfl
       have e60:x 60=_:=(hH.holds 7 (by decide) trivial _ rfl).1 60 rfl
       have e61:x 61=_:=(hH.holds 8 (by decide) trivial _ rfl).1 61 rfl
       have e62:x 62=_:=(hH.holds 9 (by decide) trivial _ rfl).1 62 rfl
       obtain ⟨b10,c10,e10,l10,o10,z10⟩:=(hH.holds 10 (by decide) trivial _ rfl).1 10 rfl
       obtain ⟨b11,e11,l11,u11,o11⟩:=(hH.holds 11 (by decide) trivial _ rfl).1 11 rfl
       have s12:=(hH.holds 12 (by decide) trivial _ rfl).2
       have n10_11:b10≠b11:=fun h=>hH.apart 10 (by decide) 11 (by decide) (by decide) (by decide) trivial trivial (by decide) 10 11 rfl rfl (by rw[e10,e11,h])
       have n11_10:=n10_11.symm
       obtain ⟨f10,g10,k10⟩:=s12
       rw[e10] at g10
       simp only[Value.pointer.injEq,Option.some.injEq,Addr.mk.injEq,and_true] at g10
       subst g10
       clear o10 z10 c10
       have u10:b10<w1.heap.size:=(Array.getElem?_eq_some_iff.1 k10).1
       have o10:=k10
       clear k10
       obtain ⟨xs,d,rfl⟩:=aA hH.below
       clear hH
       simp only[e53,e54,e55,e56,e57,e58,e59,e60,e61,e62,e10,e11];clear e53 e54 e55 e56 e57 e58 e59 e60 e61 e62 e10 e11
       refine aBQ o10 l10 u10 o11 l11 u11 ?_
       clear o10 o11
       simp[go_sem] at l10 u10 l11 u11
       simp only[List.drop_succ_cons,List.drop_zero]
       go_wp2_with fail
       go_meet
       exact ⟨_,_,rfl,rfl,Lib.hid blw,Lib.hid ⟨(World.bV _ n10_11).trans (World.dX _ (by simp;omega)),World.dX _ (by simp;omega)⟩⟩
      obtain ⟨b10,b11,rfl,rfl,hb1,hr⟩:=hcut
      generalize wc=Y at *
      have hYs:=hb1.out.size
      have hc10:Y.aW b10 0 12=some (aJ nm):=aI hr.out.1 hnl
      have hc11:Y.aW b11 0 10=some (aJ tg):=aI hr.out.2 htl
      have l10:=lt_of_heap hr.out.1
      have l11:=lt_of_heap hr.out.2
      have HY:=Lib.hid (HQ.out.trans (hb1.out.mono hsz))
      have HGY:=Lib.hid (fun (mode:Int) (u:List UInt8) (hu:u.length=10) V (hb:Below Y.heap.size Y V)=>HG.out mode u hu V (hb1.out.trans (hb.mono hYs)))
      have HG1:=Lib.hid (HGY.out md tg ht10 Y (Below.refl _ _))
      obtain ⟨er,her⟩:∃ er,er=Rd.xB nm tg o md:=⟨_,rfl⟩
      obtain ⟨aw,haw⟩:∃ aw,aw=Rd.zK f o nm tg md:=⟨_,rfl⟩
      rw[<-her,<-haw] at HG1
      have hawl:aw.tag.length=10:=by rw[haw];exact getW_len ht10 o f md
      have HE:=Lib.hid (And.intro her haw)
      clear her haw x6 x7 hc6 hc7 lg6 lg7 lxq HG hsz hb1 hr hYs HX
      have has:=uF hawl
      have hz:(gZ Ans.zero).size=13:=rfl
      go_wp2_with fail
      refine Gives.use HG1.out ?_
      intro zs d2
      go_upto_region 13 with fail
      refine aP ?_
      intro Z hZ
      obtain ⟨ab,hab⟩:∃ ab,ab=Y.heap.size+zs.size:=⟨_,rfl⟩
      have hbZ:Below Y.heap.size Y Z:=by rw[hZ];exact blw
      have haZ:Z.heap[ab]? = some (.cells (gZ aw) 63):=by rw[hZ,hab];exact (aC _ _ _).trans (if_pos (by simp))
      simp only[<-hab]
      have hZs:=hbZ.size
      have HBZ:=Lib.hid (HY.out.trans (hbZ.mono HY.out.size))
      by_cases he:er=0
      ·have hlaw:=getW_law ht10 HGS.out (HE.out.1.symm.trans he) HE.out.2
       subst he
       obtain ⟨hb1,hb2,hb3,hb4,hb5⟩:=hlaw
       have HBL:=Lib.hid (fun V=>Rd.aDN tg aw.tag ht10 hawl V)
       rw[decide_eq_true hb1] at HBL
       have ca0:Z.aW ab 0 13=some (gZ aw):=aI haZ has
       have ca1:Z.aW ab 1 10=some (aJ aw.tag):=ansA_tag hawl ca0
       obtain ⟨sI,hsI⟩:∃ sI:Int,sI=(aw.state.toNat:Int):=⟨_,rfl⟩
       have ca2:Z.cell? ⟨ab,11,none⟩=some (.int .i64 sI):=by rw[hsI];exact (aF haZ 11).1.trans (aAu hawl)
       have lab:=lt_of_heap haZ
       have z10:Z.aW b10 0 12=some (aJ nm):=(aK (hbZ.block b10 l10) _ _).trans hc10
       have z11:Z.aW b11 0 10=some (aJ tg):=(aK (hbZ.block b11 l11) _ _).trans hc11
       have m10:b10<Z.heap.size:=by omega
       have m11:b11<Z.heap.size:=by omega
       have q2:(sI == 0)=(aw.tag == zeros 10):=by
        rw[Bool.eq_iff_iff,beq_iff_eq,beq_iff_eq,hb2,hsI]
        exact ⟨fun h=>UInt8.toNat_inj.1 (by show aw.state.toNat=0;omega),fun h=>by rw[h];rfl⟩
       have q4:(sI == 4)=false:=beq_eq_false_iff_ne.2 (by rw[hsI];exact fun h=>hb4 (UInt8.toNat_inj.1 (by show aw.state.toNat=4;omega)))
       have q3:md=1->(sI == 0)=false->(sI != 3)=false:=fun hm h0=>by
        have h3:=hb3 (by omega) (fun e=>by rw[hsI,e] at h0;cases h0)
        rw[hsI,h3];rfl
       have hwl:(aJ aw.tag).size=10:=by simp[hawl]
       have HB5:=Lib.hid hb5
       have HGZ:=Lib.hid (fun (mode:Int) (u:List UInt8) (hu:u.length=10) V (hb:Below Z.heap.size Z V)=>HGY.out mode u hu V (hbZ.trans (hb.mono hZs)))
       clear hb1 hb2 hb3 hb4 hb5 hsI hZ hab hbZ haZ hZs HGY HG1 hc10 hc11 l10 l11 HGS
       go_upto_region 14 with fail
       go_cut [106] (fun s106 wx=>s106 = .bool false/\Hid (Below Z.heap.size Z wx))
       case first =>
        clear HKN HB5 HGZ HBZ HE HR HQ HY HBX hli h6 h6I hlj h4 h4I hi hi6 hj hj4
        generalize hzz:(aw.tag == zeros 10)=z at *
        by_cases hm:md=1
        ·have q5:(md == 1)=true:=by rw[hm];rfl
         cases z with
         | true =>
          have q6:(sI != 0)=false:=by simp[bne,q2]
          clear q3 hm
          go_wp2_with fail
          apply aG (by rfl) (.val _ :: .val _ :: .val _ :: .val _ :: .val _ :: .val _ :: .val _ :: .val _ :: .val _ :: .val _ :: .val _ :: .val _ :: .val _ :: .val _ :: .val _ :: .val _ :: .val _ :: .val _ :: .val _ :: .val _ :: .val _ :: .val _ :: .val _ :: .val _ :: .val _ :: .val _ :: .val _ :: .val _ :: .val _ :: .val _ :: .val _ :: .val _ :: .val _ :: .val _ :: []) 34 (by rfl) (73 :: 74 :: 75 :: 76 :: 77 :: 78 :: 79 :: 80 :: 81 :: 82 :: 83 :: 84 :: 85 :: 86 :: 87 :: 88 :: 89 :: 90 :: 91 :: 92 :: 93 :: 94 :: 95 :: 96 :: 97 :: 98 :: 99 :: 100 :: 101 :: 102 :: 103 :: 104 :: 105 :: 106 :: []) [] [] (by rfl) (by rfl) (by decide) (by decide +kernel) (fun _ _ _ _ _ h=>h)
          case hF=>exact zh
          case hops =>
           refine ⟨?o0,?o1,?o2,?o3,?o4,?o5,?o6,?o7,?o8,?o9,?o10,?o11,?o12,?o13,?o14,?o15,?o16,?o17,?o18,?o19,?o20,?o21,?o22,?o23,?o24,?o25,?o26,?o27,?o28,?o29,?o30,?o31,?o32,?o33,trivial⟩
           case o0=>exact oz0
           case o1=>exact oz0
           case o2=>exact oz1 1 74
           case o3 =>
            intro x w1 hH K hK
            have e73:x 73=_:=hH.g 0 73
            have e75:x 75=_:=hH.g 2 75
            obtain ⟨xs,d,rfl⟩:=aA hH.below
            clear hH
            try simp only[World.aB] at hK |-
            try simp only[World.grow_grow] at hK |-
            simp only[e73,e75] at hK |-
            clear e73 e75
            go_simp
            refine Gives.use (HBL.out _) ?_
            intro ys e
            go_wp2_with fail
            exact zu
           case o4=>exact oz1 3 76
           case o5=>exact oz1 4 77
           case o6=>exact oz1 5 78
           case o7=>exact oz2 5 78 6 79
           case o8=>exact oz1 5 78
           case o9=>refine agD fun x xs d hH K hK => ?_;have e78:=hH.e 5 78;have e80:=hH.e 7 80;have e81:=hH.e 8 81;clear hH;simp only[e78,e80,e81] at hK |-;clear e78 e80 e81;exact zv
           case o10=>exact oz1 5 78
           case o11=>exact oz2 5 78 10 83
           case o12=>exact oz2 5 78 11 84
           case o13=>refine agD fun x xs d hH K hK => ?_;have e78:=hH.e 5 78;have e82:=hH.e 9 82;have e85:=hH.e 12 85;clear hH;simp only[e78,e82,e85] at hK |-;clear e78 e82 e85;exact zv
           case o14=>exact oz2 5 78 13 86
           case o15=>exact oz1 14 87
           case o16=>exact oz1 15 88
           case o17=>exact oz2 15 88 16 89
           case o18=>exact oz2 15 88 17 90
           case o19=>exact oz1 18 91
           case o20=>exact oz2 18 91 19 92
           case o21=>exact oz2 18 91 20 93
           case o22=>refine agD fun x xs d hH K hK => ?_;have e88:=hH.e 15 88;have e91:=hH.e 18 91;have e94:=hH.e 21 94;clear hH;simp only[e88,e91,e94] at hK |-;clear e88 e91 e94;exact zv
           case o23=>exact oz2 15 88 22 95
           case o24=>exact oz1 23 96
           case o25=>exact oz2 23 96 24 97
           case o26=>exact oz2 23 96 25 98
           case o27=>refine agD fun x xs d hH K hK => ?_;have e88:=hH.e 15 88;have e96:=hH.e 23 96;have e99:=hH.e 26 99;clear hH;simp only[e88,e96,e99] at hK |-;clear e88 e96 e99;exact zv
           case o28=>exact oz2 15 88 27 100
           case o29=>exact oz1 28 101
           case o30=>exact oz1 29 102
           case o31=>exact oz2 29 102 30 103
           case o32=>exact oz2 29 102 31 104
           case o33=>exact oz2 29 102 32 105
          intro x w1 hH
          have e73:=hH.e 0 73;have e74:=hH.e 1 74;have e75:=hH.e 2 75;have e76:=hH.e 3 76;have e77:=hH.e 4 77;have e78:=hH.e 5 78;have e79:=hH.e 6 79;have e80:=hH.e 7 80;have e81:=hH.e 8 81;have e82:=hH.e 9 82;have e83:=hH.e 10 83;have e84:=hH.e 11 84;have e85:=hH.e 12 85;have e86:=hH.e 13 86;have e87:=hH.e 14 87;have e88:=hH.e 15 88;have e89:=hH.e 16 89;have e90:=hH.e 17 90;have e91:=hH.e 18 91;have e92:=hH.e 19 92;have e93:=hH.e 20 93;have e94:=hH.e 21 94;have e95:=hH.e 22 95;have e96:=hH.e 23 96;have e97:=hH.e 24 97;have e98:=hH.e 25 98;have e99:=hH.e 26 99;have e100:=hH.e 27 100;have e101:=hH.e 28 101;have e102:=hH.e 29 102;have e103:=hH.e 30 103;have e104:=hH.e 31 104;have e105:=hH.e 32 105;have e106:=hH.e 33 106
          obtain ⟨xs,d,rfl⟩:=aA hH.below
          simp only[e73,e74,e75,e76,e77,e78,e79,e80,e81,e82,e83,e84,e85,e86,e87,e88,e89,e90,e91,e92,e93,e94,e95,e96,e97,e98,e99,e100,e101,e102,e103,e104,e105,e106];clear hH e73 e74 e75 e76 e77 e78 e79 e80 e81 e82 e83 e84 e85 e86 e87 e88 e89 e90 e91 e92 e93 e94 e95 e96 e97 e98 e99 e100 e101 e102 e103 e104 e105 e106
          simp only[List.drop_succ_cons,List.drop_nil]
          go_wp2_with fail
          go_meet
          exact ⟨rfl,Lib.hid blw⟩
         | false =>
          have q6:(sI != 0)=true:=by simp[bne,q2]
          have q7:=q3 hm q2
          clear q3 hm
          go_wp2_with fail
          apply aG (by rfl) (.val _ :: .val _ :: .val _ :: .val _ :: .val _ :: .val _ :: .val _ :: .val _ :: .val _ :: .val _ :: .val _ :: .val _ :: .val _ :: .val _ :: .val _ :: .val _ :: .val _ :: .val _ :: .val _ :: .val _ :: .val _ :: .val _ :: .val _ :: .val _ :: .val _ :: .val _ :: .val _ :: .val _ :: .val _ :: .val _ :: .val _ :: .val _ :: .val _ :: .val _ :: []) 34 (by rfl) (73 :: 74 :: 75 :: 76 :: 77 :: 78 :: 79 :: 80 :: 81 :: 82 :: 83 :: 84 :: 85 :: 86 :: 87 :: 88 :: 89 :: 90 :: 91 :: 92 :: 93 :: 94 :: 95 :: 96 :: 97 :: 98 :: 99 :: 100 :: 101 :: 102 :: 103 :: 104 :: 105 :: 106 :: []) [] [] (by rfl) (by rfl) (by decide) (by decide +kernel) (fun _ _ _ _ _ h=>h)
          case hF=>exact zh
          case hops =>
           refine ⟨?o0,?o1,?o2,?o3,?o4,?o5,?o6,?o7,?o8,?o9,?o10,?o11,?o12,?o13,?o14,?o15,?o16,?o17,?o18,?o19,?o20,?o21,?o22,?o23,?o24,?o25,?o26,?o27,?o28,?o29,?o30,?o31,?o32,?o33,trivial⟩
           case o0=>exact oz0
           case o1=>exact oz0
           case o2=>exact oz1 1 74
           case o3 =>
            intro x w1 hH K hK
            have e73:x 73=_:=hH.g 0 73
            have e75:x 75=_:=hH.g 2 75
            obtain ⟨xs,d,rfl⟩:=aA hH.below
            clear hH
            try simp only[World.aB] at hK |-
            try simp only[World.grow_grow] at hK |-
            simp only[e73,e75] at hK |-
            clear e73 e75
            go_simp
            refine Gives.use (HBL.out _) ?_
            intro ys e
            go_wp2_with fail
            exact zu
           case o4=>exact oz1 3 76
           case o5=>exact oz1 4 77
           case o6=>exact oz1 5 78
           case o7=>exact oz2 5 78 6 79
           case o8=>exact oz1 5 78
           case o9=>refine agD fun x xs d hH K hK => ?_;have e78:=hH.e 5 78;have e80:=hH.e 7 80;have e81:=hH.e 8 81;clear hH;simp only[e78,e80,e81] at hK |-;clear e78 e80 e81;exact zv
           case o10=>exact oz1 5 78
           case o11=>exact oz2 5 78 10 83
           case o12=>exact oz2 5 78 11 84
           case o13=>refine agD fun x xs d hH K hK => ?_;have e78:=hH.e 5 78;have e82:=hH.e 9 82;have e85:=hH.e 12 85;clear hH;simp only[e78,e82,e85] at hK |-;clear e78 e82 e85;exact zv
           case o14=>exact oz2 5 78 13 86
           case o15=>exact oz1 14 87
           case o16=>exact oz1 15 88
           case o17=>exact oz2 15 88 16 89
           case o18=>exact oz2 15 88 17 90
           case o19=>exact oz1 18 91
           case o20=>exact oz2 18 91 19 92
           case o21=>exact oz2 18 91 20 93
           case o22=>refine agD fun x xs d hH K hK => ?_;have e88:=hH.e 15 88;have e91:=hH.e 18 91;have e94:=hH.e 21 94;clear hH;simp only[e88,e91,e94] at hK |-;clear e88 e91 e94;exact zv
           case o23=>exact oz2 15 88 22 95
           case o24=>exact oz1 23 96
           case o25=>exact oz2 23 96 24 97
           case o26=>exact oz2 23 96 25 98
           case o27=>refine agD fun x xs d hH K hK => ?_;have e88:=hH.e 15 88;have e96:=hH.e 23 96;have e99:=hH.e 26 99;clear hH;simp only[e88,e96,e99] at hK |-;clear e88 e96 e99;exact zv
           case o28=>exact oz2 15 88 27 100
           case o29=>exact oz1 28 101
           case o30=>exact oz1 29 102
           case o31=>exact oz2 29 102 30 103
           case o32=>exact oz2 29 102 31 104
           case o33=>exact oz2 29 102 32 105
          intro x w1 hH
          have e73:=hH.e 0 73;have e74:=hH.e 1 74;have e75:=hH.e 2 75;have e76:=hH.e 3 76;have e77:=hH.e 4 77;have e78:=hH.e 5 78;have e79:=hH.e 6 79;have e80:=hH.e 7 80;have e81:=hH.e 8 81;have e82:=hH.e 9 82;have e83:=hH.e 10 83;have e84:=hH.e 11 84;have e85:=hH.e 12 85;have e86:=hH.e 13 86;have e87:=hH.e 14 87;have e88:=hH.e 15 88;have e89:=hH.e 16 89;have e90:=hH.e 17 90;have e91:=hH.e 18 91;have e92:=hH.e 19 92;have e93:=hH.e 20 93;have e94:=hH.e 21 94;have e95:=hH.e 22 95;have e96:=hH.e 23 96;have e97:=hH.e 24 97;have e98:=hH.e 25 98;have e99:=hH.e 26 99;have e100:=hH.e 27 100;have e101:=hH.e 28 101;have e102:=hH.e 29 102;have e103:=hH.e 30 103;have e104:=hH.e 31 104;have e105:=hH.e 32 105;have e106:=hH.e 33 106
          obtain ⟨xs,d,rfl⟩:=aA hH.below
          simp only[e73,e74,e75,e76,e77,e78,e79,e80,e81,e82,e83,e84,e85,e86,e87,e88,e89,e90,e91,e92,e93,e94,e95,e96,e97,e98,e99,e100,e101,e102,e103,e104,e105,e106];clear hH e73 e74 e75 e76 e77 e78 e79 e80 e81 e82 e83 e84 e85 e86 e87 e88 e89 e90 e91 e92 e93 e94 e95 e96 e97 e98 e99 e100 e101 e102 e103 e104 e105 e106
          simp only[List.drop_succ_cons,List.drop_nil]
          go_wp2_with fail
          go_meet
          exact ⟨rfl,Lib.hid blw⟩
        have q5:(md == 1)=false:=beq_eq_false_iff_ne.2 hm
        have q6:(z != z)=false:=by simp
        clear q3 hm
        go_wp2_with fail
        apply aG (by rfl) (.val _ :: .val _ :: .val _ :: .val _ :: .val _ :: .val _ :: .val _ :: .val _ :: .val _ :: .val _ :: .val _ :: .val _ :: .val _ :: .val _ :: .val _ :: .val _ :: .val _ :: .val _ :: .val _ :: .val _ :: .val _ :: .val _ :: .val _ :: .val _ :: .val _ :: .val _ :: .val _ :: .val _ :: .val _ :: .val _ :: .val _ :: .val _ :: .val _ :: .val _ :: []) 34 (by rfl) (73 :: 74 :: 75 :: 76 :: 77 :: 78 :: 79 :: 80 :: 81 :: 82 :: 83 :: 84 :: 85 :: 86 :: 87 :: 88 :: 89 :: 90 :: 91 :: 92 :: 93 :: 94 :: 95 :: 96 :: 97 :: 98 :: 99 :: 100 :: 101 :: 102 :: 103 :: 104 :: 105 :: 106 :: []) [] [] (by rfl) (by rfl) (by decide) (by decide +kernel) (fun _ _ _ _ _ h=>h)
        case hF=>exact zh
        case hops =>
         refine ⟨?o0,?o1,?o2,?o3,?o4,?o5,?o6,?o7,?o8,?o9,?o10,?o11,?o12,?o13,?o14,?o15,?o16,?o17,?o18,?o19,?o20,?o21,?o22,?o23,?o24,?o25,?o26,?o27,?o28,?o29,?o30,?o31,?o32,?o33,trivial⟩
         case o0=>exact oz0
         case o1=>exact oz0
         case o2=>exact oz1 1 74
         case o3 =>
          intro x w1 hH K hK
          have e73:x 73=_:=hH.g 0 73
          have e75:x 75=_:=hH.g 2 75
          obtain ⟨xs,d,rfl⟩:=aA hH.below
          clear hH
          try simp only[World.aB] at hK |-
          try simp only[World.grow_grow] at hK |-
          simp only[e73,e75] at hK |-
          clear e73 e75
          go_simp
          refine Gives.use (HBL.out _) ?_
          intro ys e
          go_wp2_with fail
          exact zu
         case o4=>exact oz1 3 76
         case o5=>exact oz1 4 77
         case o6=>exact oz1 5 78
         case o7=>exact oz2 5 78 6 79
         case o8=>exact oz1 5 78
         case o9=>refine agD fun x xs d hH K hK => ?_;have e78:=hH.e 5 78;have e80:=hH.e 7 80;have e81:=hH.e 8 81;clear hH;simp only[e78,e80,e81] at hK |-;clear e78 e80 e81;exact zv
         case o10=>exact oz1 5 78
         case o11=>exact oz2 5 78 10 83
         case o12=>exact oz2 5 78 11 84
         case o13=>refine agD fun x xs d hH K hK => ?_;have e78:=hH.e 5 78;have e82:=hH.e 9 82;have e85:=hH.e 12 85;clear hH;simp only[e78,e82,e85] at hK |-;clear e78 e82 e85;exact zv
         case o14=>exact oz2 5 78 13 86
         case o15=>exact oz1 14 87
         case o16=>exact oz1 15 88
         case o17=>exact oz2 15 88 16 89
         case o18=>exact oz2 15 88 17 90
         case o19=>exact oz1 18 91
         case o20=>exact oz2 18 91 19 92
         case o21=>exact oz2 18 91 20 93
         case o22=>refine agD fun x xs d hH K hK => ?_;have e88:=hH.e 15 88;have e91:=hH.e 18 91;have e94:=hH.e 21 94;clear hH;simp only[e88,e91,e94] at hK |-;clear e88 e91 e94;exact zv
         case o23=>exact oz2 15 88 22 95
         case o24=>exact oz1 23 96
         case o25=>exact oz2 23 96 24 97
         case o26=>exact oz2 23 96 25 98
         case o27=>refine agD fun x xs d hH K hK => ?_;have e88:=hH.e 15 88;have e96:=hH.e 23 96;have e99:=hH.e 26 99;clear hH;simp only[e88,e96,e99] at hK |-;clear e88 e96 e99;exact zv
         case o28=>exact oz2 15 88 27 100
         case o29=>exact oz1 28 101
         case o30=>exact oz1 29 102
         case o31=>exact oz2 29 102 30 103
         case o32=>exact oz2 29 102 31 104
         case o33=>exact oz2 29 102 32 105
        intro x w1 hH
        have e73:=hH.e 0 73;have e74:=hH.e 1 74;have e75:=hH.e 2 75;have e76:=hH.e 3 76;have e77:=hH.e 4 77;have e78:=hH.e 5 78;have e79:=hH.e 6 79;have e80:=hH.e 7 80;have e81:=hH.e 8 81;have e82:=hH.e 9 82;have e83:=hH.e 10 83;have e84:=hH.e 11 84;have e85:=hH.e 12 85;have e86:=hH.e 13 86;have e87:=hH.e 14 87;have e88:=hH.e 15 88;have e89:=hH.e 16 89;have e90:=hH.e 17 90;have e91:=hH.e 18 91;have e92:=hH.e 19 92;have e93:=hH.e 20 93;have e94:=hH.e 21 94;have e95:=hH.e 22 95;have e96:=hH.e 23 96;have e97:=hH.e 24 97;have e98:=hH.e 25 98;have e99:=hH.e 26 99;have e100:=hH.e 27 100;have e101:=hH.e 28 101;have e102:=hH.e 29 102;have e103:=hH.e 30 103;have e104:=hH.e 31 104;have e105:=hH.e 32 105;have e106:=hH.e 33 106
        obtain ⟨xs,d,rfl⟩:=aA hH.below
        simp only[e73,e74,e75,e76,e77,e78,e79,e80,e81,e82,e83,e84,e85,e86,e87,e88,e89,e90,e91,e92,e93,e94,e95,e96,e97,e98,e99,e100,e101,e102,e103,e104,e105,e106];clear hH e73 e74 e75 e76 e77 e78 e79 e80 e81 e82 e83 e84 e85 e86 e87 e88 e89 e90 e91 e92 e93 e94 e95 e96 e97 e98 e99 e100 e101 e102 e103 e104 e105 e106
        simp only[List.drop_succ_cons,List.drop_nil]
        go_wp2_with fail
        go_meet
        exact ⟨rfl,Lib.hid blw⟩
       obtain ⟨rfl,hb6⟩:=hcut
       generalize wc=V at *
       have hVs:=hb6.out.size
       have va0:=(aK (hb6.out.block ab lab) _ _).trans ca0
       have va1:=(aK (hb6.out.block ab lab) _ _).trans ca1
       have v10:=(aK (hb6.out.block b10 m10) _ _).trans z10
       have v11:=(aK (hb6.out.block b11 m11) _ _).trans z11
       have n10:b10<V.heap.size:=by omega
       have n11:b11<V.heap.size:=by omega
       have nab:ab<V.heap.size:=by omega
       have HBV:=Lib.hid (HBZ.out.trans (hb6.out.mono HBZ.out.size))
       have HGV:=Lib.hid (fun (mode:Int) (u:List UInt8) (hu:u.length=10) U (hb:Below V.heap.size V U)=>HGZ.out mode u hu U (hb6.out.trans (hb.mono hVs)))
       have HPA:=Lib.hid (fun U=>vH tg ht10 U)
       have hul:=aFA ht10
       obtain ⟨ug,hug⟩:∃ ug,ug=aA8 tg:=⟨_,rfl⟩
       obtain ⟨ub,hub⟩:∃ ub,ub=oW tg:=⟨_,rfl⟩
       rw[<-hug,<-hub] at HPA
       rw[<-hug] at hul
       have hus:(aJ ug).size=10:=by simp[hul]
       have HB6:=Lib.hid (show aw.tag≠tg->ub=true->Rd.xB nm ug o md=0/\Rd.zK f o nm ug md=aw from by rw[hug,hub];exact HB5.out)
       clear hug hub hb6 hVs HB5 HGZ HBZ HE HQ HY HBL q2 q3 q4 ca0 ca1 ca2 z10 z11 m10 m11 lab
       go_wp2_with fail
       refine Gives.use (HPA.out _) ?_
       intro ys2 d3
       go_upto_region 17 with fail
       refine aP ?_
       intro U hU
       obtain ⟨b14,hb14⟩:∃ b14,b14=V.heap.size+ys2.size:=⟨_,rfl⟩
       have hbU:Below V.heap.size V U:=by rw[hU];exact blw
       have haU:U.heap[b14]? = some (.cells (aJ ug) 60):=by rw[hU,hb14];exact (aC _ _ _).trans (if_pos (by simp))
       simp only[<-hb14]
       have hUs:=hbU.size
       have HBU:=Lib.hid (HBV.out.trans (hbU.mono HBV.out.size))
       have ua0:=(aK (hbU.block ab nab) _ _).trans va0
       have ua1:=(aK (hbU.block ab nab) _ _).trans va1
       have u10':=(aK (hbU.block b10 n10) _ _).trans v10
       have u11':=(aK (hbU.block b11 n11) _ _).trans v11
       have u14':U.aW b14 0 10=some (aJ ug):=aI haU hus
       have p10:b10<U.heap.size:=by omega
       have p11:b11<U.heap.size:=by omega
       have pab:ab<U.heap.size:=by omega
       have p14:=lt_of_heap haU
       have HGU:=Lib.hid (HGV.out md ug hul U hbU)
       clear hU hb14 hbU haU hUs HGV HBV va0 va1 v10 v11 n10 n11 nab HPA
       by_cases hq:aw.tag=tg
       ·have hqb:(aw.tag == tg)=true:=beq_iff_eq.2 hq
        clear HB6 HGU hq
        go_wp2_with fail
        go_roundw
        case rel=>exact ⟨j+1,by omega,by omega,by go_num,HBU⟩
        simp[intOf];omega
       have hqb:(aw.tag == tg)=false:=beq_eq_false_iff_ne.2 hq
       cases ub with
       | false =>
        clear HB6 HGU hq
        go_wp2_with fail
        go_roundw
        case rel=>exact ⟨j+1,by omega,by omega,by go_num,HBU⟩
        simp[intOf];omega
       | true =>
        obtain ⟨hu1,hu2⟩:=HB6.out hq rfl
        rw[hu1,hu2] at HGU
        clear hu1 hu2 HB6 hq
        go_wp2_with fail
        refine Gives.use HGU.out ?_
        intro ys4 d4
        go_upto_region 19 with fail
        refine aP ?_
        intro T hT
        obtain ⟨b16,hb16⟩:∃ b16,b16=U.heap.size+ys4.size:=⟨_,rfl⟩
        have hbT:Below U.heap.size U T:=by rw[hT];exact blw
        have haT:T.heap[b16]? = some (.cells (gZ aw) 63):=by rw[hT,hb16];exact (aC _ _ _).trans (if_pos (by simp))
        simp only[<-hb16]
        have ta0:=(aK (hbT.block ab pab) _ _).trans ua0
        have tb0:T.aW b16 0 13=some (gZ aw):=aI haT has
        have pab2:ab<T.heap.size:=by have:=hbT.size;omega
        have pb16:=lt_of_heap haT
        have HBT:=Lib.hid (HBU.out.trans (hbT.mono HBU.out.size))
        clear hT hb16 hbT haT ua0 ua1 u10' u11' u14' p10 p11 pab p14 HGU HBU
        go_wp2_with fail
        go_roundw
        case rel=>exact ⟨j+1,by omega,by omega,by go_num,HBT⟩
        simp[intOf];omega
      have hne:(er != 0)=true:=bne_iff_ne.2 he
      clear he hZ hab hbZ haZ hZs HGY HGS HE HG1 hc10 hc11 l10 l11
      go_wp2_with fail
      go_roundw
      case rel=>exact ⟨j+1,by omega,by omega,by go_num,HBZ⟩
      simp[intOf];omega
     have h4I:¬ (j:Int)<4:=by omega
     go_wp2_with fail
     go_roundw
     case rel=>exact ⟨i+1,by omega,by omega,by go_num,Lib.hid (HQ.out.trans (Below.mono blw HQ.out.size))⟩
     simp[intOf];omega
    have hljI:¬ (j:Int)<ts.length:=by omega
    go_wp2_with fail
    go_roundw
    case rel=>exact ⟨i+1,by omega,by omega,by go_num,Lib.hid (HQ.out.trans (Below.mono blw HQ.out.size))⟩
    simp[intOf];omega
   have h6I:¬ (i:Int)<6:=by omega
   go_wp2_with fail
   refine Gives.use (HKN.out _) ?_
   intro ys d
   go_wp2_with fail
   go_ret
   exact ⟨rfl,(HBX.out.trans (HR.out.mono HBX.out.size)).trans ((aS ys d).mono (Nat.le_trans HBX.out.size HR.out.size))⟩
  have hliI:¬ (i:Int)<ns.length:=by omega
  go_wp2_with fail
  refine Gives.use (HKN.out _) ?_
  intro ys d
  go_wp2_with fail
  go_ret
  exact ⟨rfl,(HBX.out.trans (HR.out.mono HBX.out.size)).trans ((aS ys d).mono (Nat.le_trans HBX.out.size HR.out.size))⟩
end Go.Proofs.YtcedmfnlkelhkaaGreatDoor
namespace Go.Proofs.YtcedmfnlkelhkaaGreatDoor
set_option maxRecDepth 100000
open Go.RowKit Go.ChangeShapes Go.WideShapes

theorem fallParents_law (w:World) (v0 v1:Value) (h0:Reads Tryz.prog w 28 v0) (h1:Reads Tryz.prog w 3 v1):Gives Tryz.prog 3 #[v0,v1] w (.bool true):=by
 obtain ⟨x,xs,ls,ow,ns,ts,rfl,h⟩:=aH6 h0
 obtain ⟨n,rfl,_⟩:=h1.int Tryz.underlying3
 exact fallPa_walk x xs ls ow ns ts n w h

namespace fallParents
open Go.ChangeShapes Go.WideShapes Go.ChangeAt Go.RowKit
open Go.ChangeMaps (open_string shut_string)
theorem own : ownKnob Tryz.prog.godebug = none := by kernel_rfl
theorem laidOut : laidOutB Tryz.prog = true := by kernel_rfl
noncomputable def aLt (os : Os) : World := World.laidAll Tryz.prog os Rows.fallParentsRow.laid
set_option maxRecDepth 100000 in
theorem door_met (os : Os) (args : Array Value) : laidMetH Tryz.prog Rows.fallParentsRow.laid ((aLt os).forCall (fun _ _ => 0) ⟨#[], args, []⟩).memory := by
 rw [MakeChecks.laidMetH_plain _ _ _ (by kernel_rfl)]
 exact laidMet_laidAll args (by kernel_rfl) (by kernel_rfl)
set_option maxRecDepth 100000 in
theorem lifted (os : Os) (started : os.Started) (H : Type) (enc : TypeId × Value -> H) :
  ReturnsInHanded {} Tryz.checked os 3 .any (fun w args => (Rows.fallParentsSpec.pre enc Tryz.prog Tryz.f3 Rows.fallParentsRow.domain false w args /\ laidMetH Tryz.prog Rows.fallParentsRow.laid w) /\ sizedMet enc Tryz.prog Tryz.f3 (OpenSpec.ofChange Rows.fallParentsSpec) false w args) (Rows.fallParentsSpec.post enc Tryz.prog Tryz.f3 false true false false) := by
 refine returnsInHanded_of_change_and (C := Tryz.checked) (X := fun w _ => laidMetH Tryz.prog Rows.fallParentsRow.laid w) (fun _ _ _ hh h => h.of_heap hh) own started (by kernel_rfl) Tryz.func3
  (ChangeSpec.witness_shaped (enc := enc) (C := Tryz.checked) (os := os) (X := fun w _ => laidMetH Tryz.prog Rows.fallParentsRow.laid w) false (aLt os) #[.agg #[.slice none 0 0, .slice none 0 0, .int .i64 0, .int .i64 0, .bool false, .int .u64 0, .slice none 0 0, .slice none 0 0, .int .i64 0], .int .i64 0] 8 (World.laidAll_os _ _ _) (World.shaped_of_ZipB (by kernel_rfl) (by kernel_rfl)) (by kernel_rfl) (by kernel_rfl) (by kernel_rfl) (door_met os _)) ?_
 intro W base args ds gs before hval0 hW _ _ _ _
 have hval : ∀ (j : Nat) t v, Tryz.f3.params[j]? = some t -> args[j]? = some v -> Value.okWide Tryz.prog W .any base t v := hval0
 have hW' := hW
 obtain ⟨p, q, hA0, hV, rfl, hfz, hnd⟩ := hW
 have hA : DataW.TrodAll enc Tryz.prog W 0 (fun _ => true) true Tryz.f3.params.toList args.toList ds p := hA0
 rw [Tryz.params3] at hA hval
 obtain ⟨v0, vs0, d0, ds0, p0, q0, hargs, rfl, rfl, h0, r0⟩ := trodAll_cons hA
 obtain ⟨v1, vs1, d1, ds1, p1, q1, rfl, rfl, rfl, h1, r1⟩ := trodAll_cons r0
 obtain ⟨rfl, rfl, rfl⟩ := trodAll_nil r1
 obtain rfl : args = #[v0, v1] := by cases args; simp_all
 obtain ⟨rfl, rfl⟩ := trodVars_none hV
 have lt0 : ∀ x ∈ p0, x.block < W.heap.size := by obtain ⟨m, hm⟩ := h0; exact DataW.trod_lt m _ _ _ hm
 have lt1 : ∀ x ∈ p1, x.block < W.heap.size := by obtain ⟨m, hm⟩ := h1; exact DataW.trod_lt m _ _ _ hm
 clear hA0 hval0
 refine Calls.mono (fallParents_law W v0 v1 ⟨⟨_, hval 0 28 v0 rfl rfl⟩, H, enc, _, _, h0⟩ ⟨⟨_, hval 1 3 v1 rfl rfl⟩, H, enc, _, _, h1⟩) fun e W' ⟨he, bel⟩ => ?_
 subst he
 exact ⟨_, rfl, _, _, _, [], _, [], hW', trodAll_mk1 (shut_bool Tryz.underlying4 _), (trodAll_cons_mk (Below.trod laidOut (by kernel_rfl) (of_decide_eq_true (by kernel_rfl)) h0 bel lt0) (trodAll_cons_mk (Below.trod laidOut (by kernel_rfl) (of_decide_eq_true (by kernel_rfl)) h1 bel lt1) trodAll_mk0)), rfl, bel.frame _, fun h => by cases h⟩
theorem fact0 : (Rows.fallParentsRow.inPlace == Program.inPlace Tryz.pinned.checked.prog 3) = true := by kernel_rfl
theorem fact1 : (Rows.fallParentsRow.unfollowed == Program.unfollowed Tryz.pinned.checked.prog 3) = true := by kernel_rfl
theorem fact2 : (Rows.fallParentsRow.recurses == Program.recurses Tryz.pinned.checked.prog 3) = true := by kernel_rfl
theorem fact3 : (Rows.fallParentsRow.named == Program.varsNamed Tryz.pinned.checked.prog 3) = true := by kernel_rfl
theorem closed : joinedFacts Tryz.pinned.checked.prog 3 Tryz.f3 Rows.fallParentsSpec Rows.fallParentsRow = true := by
 unfold joinedFacts
 rw [fact0, fact1, fact2, fact3]
 refine Eq.trans (b := true) ?_ rfl
 kernel_rfl
theorem said : Rows.FallParentsSaid :=
 OpenClaim.holds_of_wide 3 Tryz.f3 rfl rfl rfl rfl rfl rfl rfl ⟨rfl, rfl, rfl, rfl, rfl⟩ rfl rfl rfl rfl rfl (by kernel_rfl) Tryz.func3 closed
  (of_decide_eq_true (by kernel_rfl)) (by unfold Func.isWrapper; first | (rw [if_pos (by decide +kernel)]; kernel_rfl) | (rw [if_neg (by decide +kernel)]; exact ⟨rfl, rfl⟩))
  (fun os started H enc _ => lifted os started H enc)
theorem plain (f : FuncId) (fn : Func) (hf : Tryz.pinned.checked.prog.funcNamed "vulgate/vulgatelaw20.FallParents" = some f) (hfn : Tryz.pinned.checked.prog.funcs[f]? = some fn) :
  false = Tryz.pinned.checked.prog.looks [] /\ ∀ (j : Nat) t, fn.params[j]? = some t -> Tryz.pinned.checked.prog.wantsStandIn t = false := by
 obtain rfl : f = 3 := Option.some.inj ((show Tryz.prog.funcNamed "vulgate/vulgatelaw20.FallParents" = some 3 by kernel_rfl).symm.trans hf) |>.symm
 obtain rfl : fn = Tryz.f3 := (Option.some.inj (Tryz.func3.symm.trans hfn)).symm
 refine ⟨by kernel_rfl, fun j t ht => ?_⟩
 rw [Tryz.params3] at ht
 have hm : t ∈ [28, 3] := by simpa using Array.mem_of_getElem? ht
 have hall : ([28, 3].all fun u => !Tryz.prog.wantsStandIn u) = true := by kernel_rfl
 exact (show Tryz.prog.wantsStandIn t = false by simpa using List.all_eq_true.1 hall t hm)
theorem proved : Rows.FallParentsCardSaid :=
 Claim7.holds_tied_plain_at .later [] _ _ _ _ said (fun _ h => by cases h) (by kernel_rfl) (fun _ h => by cases h) fallParents_row_tie rfl ⟨rfl, rfl⟩ (by kernel_rfl) rfl plain (by kernel_rfl)
#print axioms proved
end fallParents
end Go.Proofs.YtcedmfnlkelhkaaGreatDoor
