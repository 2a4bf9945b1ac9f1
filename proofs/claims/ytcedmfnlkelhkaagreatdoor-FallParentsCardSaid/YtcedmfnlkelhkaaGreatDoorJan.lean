/- Layer 14: writes are published. -/
import Derived.Test.YtcedmfnlkelhkaaGreatDoorJam
import Derived.BigRegion
import Derived.Deep.CutBlock
import Derived.Handy
namespace Go.Proofs.YtcedmfnlkelhkaaGreatDoor
set_option maxRecDepth 100000
open Go.RowKit

theorem aGC (v:Ver) : #[.int .u64 v.at_.toNat] ++ #[.bool v.dead]++bI v.r=mV v:=by apply Array.ext';simp[bI,mV,aMg]
def aA5 (t:TypeId) (p q r:Nat×Value):Sem Value:=Instr.build t #[p,q,r]
@[go_sem ↓ high] theorem aO5 (f:Nat×Operand->Nat×Value) (p q r':Nat×Operand):Instr.build 210 (Array.map f #[p,q,r'])=aA5 210 (f p) (f q) (f r'):=by simp[aA5]
@[go_sem] theorem aNU (a:UInt64) (b:Bool) (r:Rec) (w:World):(aA5 210 (0,.int .u64 a.toNat) (1,.bool b) (2,.agg (bI r))).run Tryz.prog w = .ok (.agg (mV ⟨a,b,r⟩)) w:=by
 unfold aA5
 have:=sS (P:=Tryz.prog) (w:=w) (n:=1) (m:=1) (k:=9) (a := .int .u64 a.toNat) (b := .bool b) (c := .agg (bI r)) Tryz.zeroValue210 Tryz.underlying210 (by intro w;kernel_rfl) (by simp[Value.cells]) (by simp[Value.cells]) (by simp[Value.cells]) (by rfl)
 rw[this]
 exact congrArg (fun c=>Result.ok (Value.agg c) w) (aGC ⟨a,b,r⟩)
def aNA (s:Nat) (G:SG) (lv:Value):Prop := ∀ b o n c,lv = .slice (some ⟨b,o,none⟩) n c->0<n->b∉G.blocks s
theorem SlA.evo {s:Nat} {w w':World} {G G':SG} {lv:Value} {sz:Nat} {xs:List (Array Value)} (h:SlA w w.heap.size sz lv xs) (ho:aNA s G lv) (he:Evo s w G w' G'):SlA w' w'.heap.size sz lv xs/\aNA s G' lv:=by
 obtain ⟨h0,a,cap,rfl,h2,h3,h4⟩:=h
 refine ⟨⟨h0,a,cap,rfl,h2,h3,fun hn => ?_⟩,?_⟩
 ·obtain ⟨b,o,rfl,hb,hc⟩:=h4 hn
  refine ⟨b,o,rfl,Nat.lt_of_lt_of_le hb he.1.size,fun i x hx => ?_⟩
  rw[aK (he.1.same b hb (ho b o _ _ rfl hn))]
  exact hc i x hx
 intro b o n c e hn hm
 simp only[Value.slice.injEq] at e
 obtain ⟨rfl,rfl,rfl⟩:=e
 obtain ⟨b',o',e,hb,_⟩:=h4 hn
 simp only[Option.some.injEq,Addr.mk.injEq] at e
 rcases he.2 b hm with h1 | h1
 ·exact ho b o _ _ rfl hn h1
 omega
def forks (x:Wr):Bool:=((x.r.kind.toNat:Int) == 4) && (((x.r.at_.toNat:Int) == 0) && ((byt x.k.val 2).toNat:Int) != 0)
theorem aC8 (a:UInt64) (x:Wr):aBF a x=if forks x=true then { x.r with at_:=a } else x.r:=by
 have e1:((x.r.kind.toNat:Int) == 4)=decide (x.r.kind=4):=by
  rw[Bool.eq_iff_iff];simp only[beq_iff_eq,decide_eq_true_eq]
  exact ⟨fun h=>UInt8.toNat_inj.1 (by have:(4:UInt8).toNat=4:=rfl;omega),fun h=>by rw[h];rfl⟩
 have e2:((x.r.at_.toNat:Int) == 0)=decide (x.r.at_=0):=by
  rw[Bool.eq_iff_iff];simp only[beq_iff_eq,decide_eq_true_eq]
  exact ⟨fun h=>UInt64.toNat_inj.1 (by have:(0:UInt64).toNat=0:=rfl;omega),fun h=>by rw[h];rfl⟩
 have e3:(((byt x.k.val 2).toNat:Int) != 0)=decide (byt x.k.val 2≠0):=by
  rw[Bool.eq_iff_iff];simp only[bne_iff_ne,decide_eq_true_eq]
  exact ⟨fun h e=>h (by rw[e];rfl),fun h e=>h (UInt8.toNat_inj.1 (by have:(0:UInt8).toNat=0:=rfl;omega))⟩
 unfold forks aBF
 rw[e1,e2,e3]
 by_cases h:x.r.kind=4/\x.r.at_=0/\byt x.k.val 2≠0
 ·rw[if_pos h,if_pos (by simp[h.1,h.2.1,h.2.2])]
 rw[if_neg h,if_neg (by simp only[Bool.and_eq_true,decide_eq_true_eq];exact h)]
theorem aHt (x:Wr) (a:UInt64):(iJ x).setIfInBounds 33 (.int .u64 a.toNat)=iJ ⟨x.k,x.dead, { x.r with at_:=a }⟩:=by
 unfold iJ
 rw[List.setIfInBounds_toArray]
 congr 1
 rw[List.set_append_right _ _ (by simp[eU])]
 simp[eU,xG]
section
variable {w:World} {B s:Nat} {G:SG}
set_option maxHeartbeats 20000000 in
theorem aCr (at1:UInt64) (hl1:at1.toNat=G.last.toNat+1) (h:aV w B s G) (hinv:Inv (aQ G) 1000 G.last) (hlast:G.last.toNat<=1000000) (hlv : -1000000<=G.live/\G.live<=1000000) (lv:Value) (l:List Wr) (hl:SlA w w.heap.size 35 lv (l.map iJ)) (ho:aNA s G lv) (he:sZ (aQ G) G.live l=0) :
  Calls Tryz.prog 36 #[.pointer (some ⟨s,0,none⟩),lv] w fun e w'=>e = .returned (.tuple #[.int .u64 at1.toNat,.int .i64 0]) /\
   ∃ G',aV w' B s G'/\Evo s w G w' G'/\(G'.last=at1/\(dW G'.R).length<=(dW G.R).length+l.length)/\G'.live=G.live+dL (aQ G) l /\ ∀ k,aQ G' k=dP at1 (aQ G) l k:=by
 have hs:Short G 100000:=fun k=>Nat.le_trans (hinv.short k) (by decide)
 have hc:eY l=0:=by
  unfold sZ at he
  split at he
  ·rename_i hc;exact hc
  exact he
 have hf:¬ 200<G.live+dL (aQ G) l:=by
  unfold sZ at he
  rw[if_pos hc] at he
  split at he
  ·omega
  rename_i hf;exact hf
 have hspec:=kF hc
 have hn:=hspec.1
 have HC:=Lib.hid (fun (W:World) (hb:Below w.heap.size w W)=>wX lv l W ((hl.below hb).more hb.size))
 have HR:=Lib.hid (fun (W:World) (hb:Below w.heap.size w W)=>aBX (h.keep hb) hs hlv lv l ((hl.below hb).more hb.size) hn)
 have HM:=Lib.hid (fun (W:World) (hb:Below w.heap.size w W)=>aBO (h.keep hb) hs lv l ((hl.below hb).more hb.size) hn)
 rw[hc] at HC
 rw[if_neg hf] at HR
 have hbd:=kH (aQ G) l 0
 have hbd1 : -16<=dL (aQ G) l/\dL (aQ G) l<=16:=by unfold dL;omega
 obtain ⟨a,cap,rfl,hcap,hmx⟩:=hl.form
 rw[List.length_map] at *
 have HSP:=Lib.hid hspec
 have H0:=Lib.hid (And.intro h (And.intro hinv (And.intro hl (And.intro ho hs))))
 have HL1:=Lib.hid hl1
 have hls:=(h.cells).2.2.2.2.2
 clear h hinv hl ho hs he hc hf hspec hbd hl1
 obtain ⟨mr,hmr⟩:∃ mr,mr=dL (aQ G) l:=⟨_,rfl⟩
 rw[<-hmr] at HM hbd1 |-
 have HMR:=Lib.hid hmr
 clear hmr
 obtain ⟨b1,b2⟩:=hbd1
 obtain ⟨b3,b4⟩:=hlv
 go_enter Tryz.func36,Tryz.ntmps36
 go_wp2_with fail
 refine Gives.use (HC.out _ blw) ?_
 intro xs1 d1
 go_wp2_with fail
 refine Gives.use (HR.out _ blw) ?_
 intro xs2 d2
 go_upto_region 9 with fail
 refine aP ?_
 intro W hW
 have hbW:Below w.heap.size w W:=by rw[hW];exact blw
 clear hW HC HR
 go_cut [] (fun wx=>Hid (aV wx B s { G with live:=G.live+mr }/\Evo s w G wx { G with live:=G.live+mr }))
 case first =>
  have HMW:=Lib.hid (HM.out W.drew hbW.drew)
  have hSW:=H0.out.1.keep hbW
  obtain ⟨c0,c1,c2,f1,f2,lsW⟩:=hSW.cells
  have HW:=Lib.hid (And.intro hbW hSW)
  have hw:IntKind.i64.wrap (G.live+mr)=G.live+mr:=by rw[IntWalk.i64_in _ (by omega)]
  clear hbW hSW HM c0 c1 f1
  go_region_with (go_at_call 68;refine Gives.use HMW.out ?_;intro xs3 d3)
  all_goals
   go_wp2_with fail
   go_meet
   have h1:=HW.out.2.aK7 (G.live+mr)
   have h2:Below (W.setCell ⟨s,2,none⟩ (.int .i64 (G.live+mr))).heap.size (W.setCell ⟨s,2,none⟩ (.int .i64 (G.live+mr))) ((W.setCell ⟨s,2,none⟩ (.int .i64 (G.live+mr))).grow xs3 d3):=aS _ _
   exact Lib.hid ⟨h1.1.keep h2,((Evo.grow G HW.out.1).trans h1.2).trans (Evo.grow _ h2)⟩
 clear HM hbW
 obtain ⟨hS1,hE1⟩:=hcut.out
 clear hcut
 obtain ⟨c0,c1,c2,f1,f2,ls1⟩:=hS1.cells
 simp only at c1
 obtain ⟨N,hN⟩:∃ N:Nat,N=G.last.toNat:=⟨_,rfl⟩
 rw[<-hN] at c1
 have hN2:N<=1000000:=by omega
 have HX:=Lib.hid (And.intro hS1 (And.intro hE1 hN))
 clear hS1 hE1 hN c0 c2 f2 hlast
 go_upto_region 11 with fail
 refine aP ?_
 intro W2 hW2
 have hnum:((N:Int)+1)=(at1.toNat:Int):=by rw[HL1.out,<-HX.out.2.2];omega
 rw[hnum] at hW2
 have hset:=HX.out.1.setLast at1
 rw[<-hW2] at hset
 have hS2:aV W2 B s { G with live:=G.live+mr,last:=at1 }:=hset.1
 have hE2:Evo s w G W2 { G with live:=G.live+mr,last:=at1 }:=HX.out.2.1.trans hset.2
 have hsl2:=SlA.evo H0.out.2.2.1 H0.out.2.2.2.1 hE2
 have hv2:∀ k,aQ { G with live:=G.live+mr,last:=at1 } k=aQ G k:=fun k=>rfl
 have hR2:dW ({ G with live:=G.live+mr,last:=at1 }:SG).R=dW G.R:=rfl
 generalize hG2:({ G with live:=G.live+mr,last:=at1 }:SG)=G2 at *
 have hG2l:G2.last=at1/\G2.live=G.live+mr:=by rw[<-hG2];exact ⟨rfl,rfl⟩
 have HR2:=Lib.hid hR2
 clear hR2
 have H2:=Lib.hid (And.intro hS2 (And.intro hE2 (And.intro hsl2 (And.intro hv2 hG2l))))
 clear hW2 hset hS2 hE2 hsl2 hv2 hG2l hG2 hnum HX c1 f1 ls1 hls
 go_wp2_with fail
 go_loopw [43] (fun s43 wr => ∃ (i:Nat),i<=l.length/\s43 = .int .i64 i/\Hid (∃ Gi,aV wr B s Gi/\Evo s W2 G2 wr Gi/\(Gi.last=at1/\(dW Gi.R).length<=(dW G.R).length+i)/\Gi.live=G.live+mr /\ ∀ k,aQ Gi k=dP at1 (aQ G) (l.take i) k)) (fun s43 _=>l.length - (intOf s43).toNat)
 case atStart=>exact ⟨0,Nat.zero_le _,rfl,Lib.hid ⟨G2,H2.out.1,Evo.refl _ _ _,⟨H2.out.2.2.2.2.1,by rw[HR2.out];exact Nat.le_refl _⟩,H2.out.2.2.2.2.2,fun k=>H2.out.2.2.2.1 k⟩⟩
 obtain ⟨i,hi,rfl,HR⟩:=hrel
 obtain ⟨Gi,hSi,hEi,hli,hvi,hfi⟩:=HR.out
 clear HR
 by_cases hlt:i<l.length
 ·have hltI:(i:Int)<l.length:=by omega
  obtain ⟨hsl,hout⟩:=SlA.evo H2.out.2.2.1.1 H2.out.2.2.1.2 hEi
  obtain ⟨_,a',cap',he,_,_,hc⟩:=hsl
  simp only[Value.slice.injEq,List.length_map,true_and] at he
  obtain ⟨rfl,rfl⟩:=he
  obtain ⟨g,q0,rfl,hlb,hcut⟩:=hc (by simp;omega)
  have hcutk:=hcut i (iJ l[i]) (by simp[hlt])
  have hsu:=yY at1 (aQ G) l i hlt
  have hri:=HSP.out.2.1 l[i] (List.getElem_mem hlt)
  have hoth:=iU at1 (l.take i) (aQ G) l[i].k (aDM HSP.out.2.2 hlt)
  have hch:∀ W,Below wr.heap.size wr W->Gives Tryz.prog 69 #[.pointer (some ⟨s,0,none⟩),.agg (aJ l[i].k.val)] W (.pointer (nJ (mD Gi.R l[i].k))):=fun W hb=>(hSi.keep hb).qF _
  have HCH:=Lib.hid hch
  generalize l[i]=x at *
  have HI:=Lib.hid (And.intro hSi (And.intro hEi (And.intro hli (And.intro hvi (And.intro hfi (And.intro hsu (And.intro hri hoth)))))))
  clear hcut hc hSi hEi hli hvi hfi hsu hri hoth hch hout
  go_wp2_with fail
  refine Gives.use (HCH.out _ blw) ?_
  intro xs3 d3
  go_upto_if 52 with fail
  refine aP ?_
  intro W3 hW3
  obtain ⟨vb,hvb⟩:∃ vb,vb=wr.heap.size:=⟨_,rfl⟩
  have hb3:Below wr.heap.size wr W3:=by rw[hW3];exact blw
  have hv3:W3.heap[vb]? = some (.cells (iJ x) 134):=by
   rw[hW3,hvb,World.bQ _ _ _ (by simp)]
   exact (aC _ _ _).trans (if_pos rfl)
  have hvbs:vb∉Gi.blocks s:=fun hm=>by have:=HI.out.1.lt vb hm;omega
  rw[<-hvb]
  have H3:=Lib.hid (And.intro hb3 (And.intro hv3 (And.intro hvb hvbs)))
  have hlb3:g<W3.heap.size:=Nat.lt_of_lt_of_le hlb hb3.size
  clear hW3 hb3 hv3 hvb hvbs HCH hcutk
  go_cut [10] (fun s10 wx => ∃ c,s10 = .pointer (some ⟨c,0,none⟩)/\Hid (∃ G',aV wx B s G'/\Evo s wr Gi wx G'/\(G'.last=Gi.last/\(dW G'.R).length<=(dW Gi.R).length+1)/\G'.live=Gi.live/\(∀ j,aQ G' j=aQ Gi j)/\mD G'.R x.k=some c/\wx.heap[vb]? = some (.cells (iJ x) 134)/\vb∉G'.blocks s))
  case first =>
   cases hp:mD Gi.R x.k with
   | some c =>
    simp only[nJ]
    have HP:=Lib.hid hp
    clear hp
    go_wp2_with fail
    go_meet
    exact ⟨c,rfl,Lib.hid ⟨Gi,HI.out.1.keep H3.out.1,Evo.grow _ H3.out.1,⟨rfl,Nat.le_succ _⟩,rfl,fun _=>rfl,HP.out,H3.out.2.1,H3.out.2.2.2⟩⟩
   | none =>
    simp only[nJ]
    have HP:=Lib.hid hp
    clear hp
    go_upto_region 17 with fail
    refine aP ?_
    intro W4 hW4
    have hS3:=HI.out.1.keep H3.out.1
    have hlv3:=lt_of_heap H3.out.2.1
    have hb4:Below W3.heap.size W3 W4:=by rw[hW4];exact (Below.refl _ _).alloc (Nat.le_refl _) _
    obtain ⟨cb,hcb⟩:∃ cb,cb=W3.heap.size:=⟨_,rfl⟩
    have hc4:W4.heap[cb]? = some (.cells #[.slice none 0 0] 205):=by rw[hW4,hcb];exact (aC _ _ _).trans (if_pos rfl)
    rw[<-hcb]
    have hS4:=hS3.keep hb4
    have hv4:W4.heap[vb]? = some (.cells (iJ x) 134):=(hb4.block _ hlv3).trans H3.out.2.1
    obtain ⟨k0,_,_,_,_,lsx⟩:=hS4.cells
    have kcut:W4.aW vb 0 25=some (aJ x.k.val):=by
     unfold World.aW
     rw[hv4]
     simp[go_sem]
    have lv4:=lt_of_heap hv4
    have hnd4:(Gi.t :: jD Gi.R).Nodup:=by
     have:=hS4.nodup
     unfold SG.blocks at this
     rw[List.nodup_cons] at this
     exact this.2.sublist ((List.sublist_append_left _ _).cons_cons _)
    have hfn:vU Gi.R x.k=none:=(aGj _ _).2 HP.out
    have HPUT:=Lib.hid (aHR x.k cb Gi.t Gi.R Gi.n W4.drew (hS4.keep ((Below.refl _ _).drew)).tree hnd4 hfn)
    have HN:=Lib.hid (fun (W5:World) (hp:aD5 W4.drew Gi.t Gi.R x.k cb W5)=>hS3.aMD HP.out (show Below W3.heap.size W3 W4.drew from hb4.drew) (by omega) hc4 hp)
    have HV:=Lib.hid (And.intro hv4 (And.intro hlv3 hS3))
    clear hW4 hcb hc4 hS4 hv4 hnd4 hfn hS3 hlv3 hb4
    go_region_with (go_at_call 70;refine HPUT.out.mono ?_;rintro e W5 ⟨rfl,hpost⟩;have HPP:=Lib.hid hpost;clear hpost)
    all_goals
     go_wp2_with fail
     go_meet
     obtain ⟨G',q1,q2,q3,q4,q5,q6,q7⟩:=HN.out _ HPP.out
     refine ⟨cb,rfl,Lib.hid ⟨G',q1,(Evo.grow Gi H3.out.1).trans q7,q2,q3,q4,q5,(q7.1.same vb HV.out.2.1 H3.out.2.2.2).trans H3.out.2.1,fun hm => ?_⟩⟩
     rcases q7.2 vb hm with h1 | h1
     ·exact H3.out.2.2.2 h1
     have:=HV.out.2.1;omega
  obtain ⟨c,rfl,HG⟩:=hcut
  obtain ⟨G',g1,g2,g3,g4,g5,g6,g7,g8⟩:=HG.out
  clear HG
  have e0:wc.cell? ⟨vb,26,none⟩=some (.int .u8 x.r.kind.toNat):=((aF g7 26).1).trans (aHq x)
  have e1:wc.cell? ⟨vb,33,none⟩=some (.int .u64 x.r.at_.toNat):=((aF g7 33).1).trans (aHr x)
  have e2:wc.cell? ⟨vb,2,none⟩=some (.int .u8 (byt x.k.val 2).toNat):=((aF g7 2).1).trans (aJa x)
  have e3:=(aF g7 33).2
  obtain ⟨_,k1,_,_,_,lsc⟩:=g1.cells
  have hl':G'.last=at1:=g3.1.trans HI.out.2.2.1.1
  rw[hl'] at k1
  have HG:=Lib.hid (And.intro g1 (And.intro g2 (And.intro g3 (And.intro g4 (And.intro g5 (And.intro g6 (And.intro g7 g8)))))))
  clear g1 g2 g3 g4 g5 g6 g7 g8 hl'
  go_upto_region 18 with fail
  go_cut [78] (fun s78 wx=>s78 = .bool (forks x)/\wx=wc)
  case first =>
   go_wp2_with fail
   all_goals
    go_meet
    exact ⟨congrArg Value.bool (by simp[forks, *]),rfl⟩
  case rest =>
  obtain ⟨rfl,rfl⟩:=hcut
  go_upto_if 78 with fail
  go_cut [] (fun wx=>Hid (∃ G',aV wx B s G'/\Evo s wr Gi wx G'/\(G'.last=Gi.last/\(dW G'.R).length<=(dW Gi.R).length+1)/\G'.live=Gi.live/\(∀ j,aQ G' j=aQ Gi j)/\mD G'.R x.k=some c/\wx.heap[vb]? = some (.cells (iJ ⟨x.k,x.dead,aBF at1 x⟩) 134)))
  case first =>
   have hfx:=aC8 at1 x
   cases hfk:forks x with
   | false =>
    rw[hfk,if_neg (by decide)] at hfx
    have HFX:=Lib.hid hfx
    clear hfx hfk
    go_wp2_with fail
    go_meet
    obtain ⟨g1,g2,g3,g4,g5,g6,g7,g8⟩:=HG.out
    exact Lib.hid ⟨G',g1,g2,g3,g4,g5,g6,by rw[HFX.out];exact g7⟩
   | true =>
    rw[hfk,if_pos rfl] at hfx
    have HFX:=Lib.hid hfx
    clear hfx hfk
    go_wp2_with fail
    go_meet
    obtain ⟨g1,g2,g3,g4,g5,g6,g7,g8⟩:=HG.out
    have hbut:=But.setCell wc vb 33 (.int .u64 at1.toNat)
    have hvb:=H3.out.2.2.1
    refine Lib.hid ⟨G',g1.zM (fun b hb=>hbut.same b (g1.lt b hb) (fun hm=>g8 (by rw[List.mem_singleton] at hm;rw[<-hm];exact hb))) hbut.size,⟨?_,g2.2⟩,g3,g4,g5,g6,?_⟩
    ·have h1:But (vb :: Gi.blocks s) wr (wc.setCell ⟨vb,33,none⟩ (.int .u64 at1.toNat)):=(g2.1.more fun b hb _=>List.mem_cons_of_mem _ hb).trans (hbut.more fun b hb _=>by rw[List.mem_singleton] at hb;rw[hb];exact List.mem_cons_self)
     exact h1.more fun b hb hlt=>by
      rcases List.mem_cons.1 hb with e | hb
      ·omega
      exact hb
    rw[HFX.out,bC g7 33 _,aHt]
  case rest =>
  obtain ⟨G3,g1,g2,g3,g4,g5,g6,g7⟩:=hcut.out
  clear hcut e0 e1 e2 e3 k1 HG
  have hcm:c∈G3.chains:=get_mem g6
  have hch:=g1.chain c hcm
  have hve:aQ G3 x.k=(G3.g c).2:=by unfold aQ;rw[g6]
  have hvs:(G3.g c).2=aQ G x.k:=by rw[<-hve,g5,HI.out.2.2.2.2.1,HI.out.2.2.2.2.2.2.2]
  have hinv:=H0.out.2.1
  have hv:=aFG HI.out.2.2.2.2.2.2.1 at1
  have hnw:(fC (G3.g c).2).toNat<(nV at1 x).at_.toNat:=by
   rw[hvs]
   have:=hinv.old x.k
   show _<at1.toNat
   have:=HL1.out
   omega
  have hln:(G3.g c).2.length+1<=100000:=by
   rw[hvs]
   have:=hinv.short x.k
   omega
  have HPV:=Lib.hid (fun (W:World) (lb:Nat) (hb:Below wc.heap.size wc W) (h1:W.aW lb 0 11=some (mV (nV at1 x))) (h2:lb<W.heap.size) =>
   aF6 B c lb (G3.g c).1 (G3.g c).2 (nV at1 x) W ((g1.keep hb).chain c hcm) hln ((g1.keep hb).size) hv hnw h1 h2)
  have hl3:G3.last=at1:=g3.1.trans HI.out.2.2.1.1
  have HLV:=Lib.hid g3.2
  obtain ⟨_,k1,_,_,_,lsc⟩:=g1.cells
  rw[hl3] at k1
  have e25:wc.cell? ⟨vb,25,none⟩=some (.bool x.dead):=((aF g7 25).1).trans (aHp _)
  have ecut:wc.aW vb 26 9=some (bI (aBF at1 x)):=by
   unfold World.aW
   rw[g7]
   simp only[aD2]
   rw[if_pos (by decide)]
   exact congrArg some (aJN _)
  have lvb:=lt_of_heap g7
  have HG:=Lib.hid (And.intro g1 (And.intro g2 (And.intro hl3 (And.intro (g4.trans HI.out.2.2.2.1) (And.intro g5 g6)))))
  have hvo:nV at1 x=⟨at1,x.dead,aBF at1 x⟩:=rfl
  rw[hvo] at HPV
  clear g1 g2 g3 g4 g5 g6 g7 hch hve hvs hinv hv hnw hln hl3 hcm hvo
  have HPX:=Lib.hid (HPV.out (wc.alloc (.cells (mV ⟨at1,x.dead,aBF at1 x⟩) 210)).drew wc.heap.size (((Below.refl _ _).alloc (Nat.le_refl _) _).drew)
   (aI ((aC _ _ _).trans (if_pos rfl)) (aDW _)) (by simp))
  have HSD:=Lib.hid (HG.out.1.keep (((Below.refl wc.heap.size wc).alloc (Nat.le_refl _) (.cells (mV ⟨at1,x.dead,aBF at1 x⟩) 210)).drew))
  have fin:∀ W5,uD (wc.alloc (.cells (mV ⟨at1,x.dead,aBF at1 x⟩) 210)).drew B c (G3.g c).1 (G3.g c).2 ⟨at1,x.dead,aBF at1 x⟩ W5 ->
    ∃ Gj,aV W5 B s Gj/\Evo s W2 G2 W5 Gj/\(Gj.last=at1/\(dW Gj.R).length<=(dW G.R).length+(i+1))/\Gj.live=G.live+mr /\ ∀ k,aQ Gj k=dP at1 (aQ G) (l.take (i+1)) k:=by
   intro W5 hp
   obtain ⟨G4,r1,r2,r3,r4,r5⟩:=HSD.out.app HG.out.2.2.2.2.2 hp
   have hgrow:Evo s wc G3 (wc.alloc (.cells (mV ⟨at1,x.dead,aBF at1 x⟩) 210)).drew G3:=Evo.grow G3 (((Below.refl _ _).alloc (Nat.le_refl _) _).drew)
   refine ⟨G4,r1,(HI.out.2.1.trans HG.out.2.1).trans (hgrow.trans r5),⟨r2.1.trans HG.out.2.2.1,by rw[r2.2];have:=HLV.out;have:=HI.out.2.2.1.2;omega⟩,r3.trans HG.out.2.2.2.1,fun k => ?_⟩
   rw[r4 k,HI.out.2.2.2.2.2.1]
   unfold oC
   rw[HG.out.2.2.2.2.1 k,HI.out.2.2.2.2.1 k]
   rfl
  have FIN:=Lib.hid fin
  clear fin
  clear HPV
  go_upto_region 20 with fail
  go_region_with (go_at_call 71;refine HPX.out.mono ?_;rintro e W5 ⟨rfl,hpost⟩;have HPP:=Lib.hid hpost;clear hpost)
  all_goals
   go_wp2_with fail
   go_roundw
   case rel=>exact ⟨i+1,by omega,by go_num,Lib.hid (FIN.out _ HPP.out)⟩
   simp[intOf];omega
 have hie:i=l.length:=by omega
 subst hie
 have hgn:¬ (l.length:Int)<l.length:=by omega
 obtain ⟨_,k1,_,_,_,lsc⟩:=hSi.cells
 rw[hli.1] at k1
 have HI:=Lib.hid (And.intro hSi (And.intro hEi (And.intro hli (And.intro hvi hfi))))
 clear hSi hEi hli hvi hfi hlt
 go_wp2_with fail
 refine bodyPost_ret (v := .tuple #[.int .u64 at1.toNat,.int .i64 0]) (by simp[results,Tryz.results36,go_sem]) rfl ⟨rfl,Gi,HI.out.1,H2.out.2.1.trans HI.out.2.1,HI.out.2.2.1,?_,fun k => ?_⟩
 ·rw[HI.out.2.2.2.1,HMR.out]
 rw[HI.out.2.2.2.2 k,List.take_length]
end
end Go.Proofs.YtcedmfnlkelhkaaGreatDoor
