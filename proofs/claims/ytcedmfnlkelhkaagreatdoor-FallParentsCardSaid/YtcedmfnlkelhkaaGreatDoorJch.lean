/- Layer 19: where there is no view. -/
import Derived.Test.YtcedmfnlkelhkaaGreatDoorJcg
import Derived.BigRegion
import Derived.Deep.CutBlock
import Derived.Deep.Cut
import Derived.Handy
import Derived.Shelf.RegionOpen
import Derived.OwnWalkIn
import Derived.TacticsInMore
import Derived.LoopNIn
import Derived.LoopIn
namespace Go.Proofs.YtcedmfnlkelhkaaGreatDoor.Dn
set_option maxHeartbeats 40000000
set_option maxRecDepth 100000
open Go.RowKit

theorem aDY (s:Nat) (t:UInt64) (p b:Int) (hr:p<0\/4<=p\/b<0\/4<=b) (w:World):Gives Tryz.prog 19 #[aCE s t,.int .i64 p,.int .i64 b] w (.tuple #[.pointer none,.int .i64 5]):=by
 unfold aCE Gives
 generalize t.toNat=tn at *
 by_cases h1:p<0
 ·have e1:(p<0)=True:=eq_true h1
  clear hr h1
  go_enter Tryz.func19,Tryz.ntmps19
  go_wp2_with fail
  exact bodyPost_ret (v := .tuple #[.pointer none,.int .i64 5]) (by simp[results,Tryz.results19,go_sem]) rfl ⟨rfl,blw⟩
 have e1:(p<0)=False:=eq_false h1
 by_cases h2:4<=p
 ·have e2:(4<=p)=True:=eq_true h2
  clear hr h1 h2
  go_enter Tryz.func19,Tryz.ntmps19
  go_wp2_with fail
  exact bodyPost_ret (v := .tuple #[.pointer none,.int .i64 5]) (by simp[results,Tryz.results19,go_sem]) rfl ⟨rfl,blw⟩
 have e2:(4<=p)=False:=eq_false h2
 by_cases h3:b<0
 ·have e3:(b<0)=True:=eq_true h3
  clear hr h1 h2 h3
  go_enter Tryz.func19,Tryz.ntmps19
  go_wp2_with fail
  exact bodyPost_ret (v := .tuple #[.pointer none,.int .i64 5]) (by simp[results,Tryz.results19,go_sem]) rfl ⟨rfl,blw⟩
 have e3:(b<0)=False:=eq_false h3
 have h4:4<=b:=by omega
 have e4:(4<=b)=True:=eq_true h4
 clear hr h1 h2 h3 h4
 go_enter Tryz.func19,Tryz.ntmps19
 go_wp2_with fail
 exact bodyPost_ret (v := .tuple #[.pointer none,.int .i64 5]) (by simp[results,Tryz.results19,go_sem]) rfl ⟨rfl,blw⟩
section
variable {w:World} {B s:Nat} {G:SG}
theorem aEQ (hS:aV w B s G) (hs:Short G 100000) (t:UInt64) (p b:UInt8) (hp:p.toNat<4) (hb4:b.toNat<4) (hthere:(atV (aQ G (jH 4 p b)) t).2=false) :
  Calls Tryz.prog 19 #[aCE s t,.int .i64 (p.toNat:Int),.int .i64 (b.toNat:Int)] w fun e w'=>e = .returned (.tuple #[.pointer none,.int .i64 7])/\Below w.heap.size w w':=by
 have p0:((p.toNat:Int)<0)=False:=eq_false (by omega)
 have p4:¬ (4<=(p.toNat:Int)):=by omega
 have b0:((b.toNat:Int)<0)=False:=eq_false (by omega)
 have b4:¬ (4<=(b.toNat:Int)):=by omega
 have HS:=Lib.hid (And.intro hS hs)
 have HTH:=Lib.hid hthere
 have HZ:=Lib.hid pO
 clear hS hs hthere hp hb4
 unfold aCE
 go_enter Tryz.func19,Tryz.ntmps19
 go_upto_block 1 with fail
 refine aP ?_
 intro W hW
 obtain ⟨vb,hvb⟩:∃ vb,vb=w.heap.size:=⟨_,rfl⟩
 have hbW:Below w.heap.size w W:=by rw[hW];exact blw
 have h0:W.heap[vb]? = some (.cells (wS s t p (.slice none 0 0) Rec.zero) 168):=by rw[hW,hvb,aC,if_neg (by simp;omega),aC,if_neg (by simp),aC,if_pos rfl]
 have h1:W.heap[vb+1]? = some (.map #[] 0):=by rw[hW,hvb,aC,if_neg (by simp),aC,if_pos (by simp)]
 have h2:W.heap[vb+2]? = some (.cells (lM (b,qO)) 171):=by rw[hW,hvb,aC,if_pos (by simp)];rfl
 simp only[<-hvb]
 have hm1:gQ ekL evB (fun n=>(Lit.int .i64 n).wf=true) W (vb+1) []:=⟨#[],0,h1,MapKept.stamped_empty 0,rfl,fun p hp=>by simp at hp⟩
 have hva:VAt W vb s t p (.slice none 0 0) [] Rec.zero:=⟨h0,SlA.nil _ _ _⟩
 have hSr:=HS.out.1.keep hbW
 have HBR:=Lib.hid (fun (V:World) (hb:Below W.heap.size W V)=>vI (hva.up hb) b)
 have hrdg:=fun (V:World) (hb:Below W.heap.size W V)=>tV (hSr.keep hb) HS.out.2 (hva.up hb) (b,qO) (jH 4 p b)
 have hrd:rdV G t (oJ [] (b,qO)) (b,qO) (jH 4 p b)=((atV (aQ G (jH 4 p b)) t).1,false):=by
  unfold rdV oJ
  rw[if_pos rfl,<-HTH.out]
 rw[hrd] at hrdg
 obtain ⟨rr,hrr⟩:∃ rr,rr=(atV (aQ G (jH 4 p b)) t).1:=⟨_,rfl⟩
 simp only[<-hrr] at hrdg
 have HRD:=Lib.hid hrdg
 have cb0:W.cell? ⟨vb+2,0,none⟩=some (.int .i64 (b.toNat:Int)):=(aF h2 0).1.trans rfl
 have cb1:W.cell? ⟨vb+2,1,none⟩=some (.int .u64 (qO.toNat:Int)):=(aF h2 1).1.trans rfl
 have cv2:W.cell? ⟨vb,2,none⟩=some (.slice none 0 0):=(aF h0 2).1.trans rfl
 have hlk:=wB (P:=Tryz.prog) aOq Tryz.underlying169 hm1 (k:=(b.toNat:Int)) (wf_u8 b) (HZ.out W) false
 simp only[lk,List.find?_nil,Option.map_none,Option.getD_none,ekL] at hlk
 have lv0:vb<W.heap.size:=(Array.getElem?_eq_some_iff.1 h0).1
 have lv2:vb+2<W.heap.size:=(Array.getElem?_eq_some_iff.1 h2).1
 have hkl:=(jH 4 p b).len
 have HBW:=Lib.hid hbW
 clear hW hbW h0 h1 h2 hm1 hvb p0 p4 b0 b4 hva hSr hrdg hrd hrr HS HTH
 go_wp2_with fail
 go_loopw [10] (fun s10 wr=>s10 = .pointer (some ⟨vb+2,0,none⟩)/\wr=W) (fun _ _=>0)
 case atStart=>exact ⟨rfl,rfl⟩
 obtain ⟨rfl,rfl⟩:=hrel
 generalize qO.toNat=nt at *
 go_upto_region 9 with fail
 go_cut [11,12] (fun v11 v12 wx=>v12 = .bool false/\Hid (Below wr.heap.size wr wx))
 case first =>
  clear hlk HBW HZ
  go_wp2_with fail
  apply aG (by rfl) [.val _,.val _,.val _,.val _,.val _,.val _,.val _,.val _,.val _,.pure _,.new _] 11 (by rfl) [44,45,46,47,48,49,50,43,51,52,11] [10] [9] (by rfl) (by rfl) (by decide) (by decide +kernel) (fun _ _ _ _ _ h=>h)
  case hF=>intro x;simp only[over,List.foldl_cons,List.foldl_nil,List.setIfInBounds_toArray,List.set_cons_succ,List.set_cons_zero];exact rfl
  case hops =>
   refine ⟨?o0,?o1,?o2,?o3,?o4,?o5,?o6,?o7,?o8,?o9,?o10,trivial⟩
   case o0 =>
    intro x w1 hH K hK
    obtain ⟨xs,d,rfl⟩:=aA hH.below
    clear hH
    try simp only[World.aB] at hK |-
    try simp only[World.grow_grow] at hK |-
    exact zv
   case o1 =>
    intro x w1 hH K hK
    obtain ⟨xs,d,rfl⟩:=aA hH.below
    clear hH
    try simp only[World.aB] at hK |-
    try simp only[World.grow_grow] at hK |-
    exact zv
   case o2 =>
    intro x w1 hH K hK
    obtain ⟨xs,d,rfl⟩:=aA hH.below
    clear hH
    try simp only[World.aB] at hK |-
    try simp only[World.grow_grow] at hK |-
    exact zv
   case o3 =>
    intro x w1 hH K hK
    obtain ⟨xs,d,rfl⟩:=aA hH.below
    clear hH
    try simp only[World.aB] at hK |-
    try simp only[World.grow_grow] at hK |-
    exact zv
   case o4 =>
    intro x w1 hH K hK
    have e47:x 47=_:=hH.g 3 47
    obtain ⟨xs,d,rfl⟩:=aA hH.below
    clear hH
    try simp only[World.aB] at hK |-
    try simp only[World.grow_grow] at hK |-
    simp only[e47] at hK |-
    clear e47
    exact zv
   case o5 =>
    intro x w1 hH K hK
    have e46:x 46=_:=hH.g 2 46
    have e48:x 48=_:=hH.g 4 48
    obtain ⟨xs,d,rfl⟩:=aA hH.below
    clear hH
    try simp only[World.aB] at hK |-
    try simp only[World.grow_grow] at hK |-
    simp only[e46,e48] at hK |-
    clear e46 e48
    go_simp
    go_wp2_with (refine Gives.use (HBR.out _ blw) ?_;intro ys e)
    exact zu
   case o6 =>
    intro x w1 hH K hK
    have e44:x 44=_:=hH.g 0 44
    have e45:x 45=_:=hH.g 1 45
    have e49:x 49=_:=hH.g 5 49
    obtain ⟨xs,d,rfl⟩:=aA hH.below
    clear hH
    try simp only[World.aB] at hK |-
    try simp only[World.grow_grow] at hK |-
    simp only[e44,e45,e49] at hK |-
    clear e44 e45 e49
    go_simp
    go_wp2_with (refine Gives.use (HRD.out _ blw) ?_;intro ys e)
    exact zu
   case o7 =>
    intro x w1 hH K hK
    have e50:x 50=_:=hH.g 6 50
    obtain ⟨xs,d,rfl⟩:=aA hH.below
    clear hH
    try simp only[World.aB] at hK |-
    try simp only[World.grow_grow] at hK |-
    simp only[e50] at hK |-
    clear e50
    exact zv
   case o8 =>
    intro x w1 hH K hK
    have e43:x 43=_:=hH.g 7 43
    obtain ⟨xs,d,rfl⟩:=aA hH.below
    clear hH
    try simp only[World.aB] at hK |-
    try simp only[World.grow_grow] at hK |-
    simp only[e43] at hK |-
    clear e43
    exact zv
   case o9 =>
    intro x w1 hH
    have e43:x 43=_:=hH.g 7 43
    clear hH
    simp only[e43]
    exact Or.inl ⟨rfl,fun _=>rfl⟩
   case o10 =>
    intro x w1 hH K hK
    obtain ⟨xs,d,rfl⟩:=aA hH.below
    clear hH
    try simp only[World.aB] at hK |-
    try simp only[World.grow_grow] at hK |-
    go_simp
    go_wp2_with fail
    exact lJ rfl (by simp) (by first | (simp;done) | (simp;omega))
  intro x w1 hH
  have e44:x 44=_:=hH.t 0 44
  have e45:x 45=_:=hH.t 1 45
  have e46:x 46=_:=hH.t 2 46
  have e47:x 47=_:=hH.t 3 47
  have e48:x 48=_:=hH.t 4 48
  have e49:x 49=_:=hH.t 5 49
  have e50:x 50=_:=hH.t 6 50
  have e43:x 43=_:=hH.t 7 43
  have e51:x 51=_:=hH.t 8 51
  have e52:x 52=_:=hH.t 9 52
  obtain ⟨b11,e11,l11,u11,o11⟩:=hH.t 10 11
  obtain ⟨xs,d,rfl⟩:=aA hH.below
  clear hH
  simp only[e44,e45,e46,e47,e48,e49,e50,e43,e51,e52,e11];clear e44 e45 e46 e47 e48 e49 e50 e43 e51 e52 e11
  refine rO o11 l11 u11 ?_
  clear o11
  simp[go_sem] at l11 u11
  simp only[List.drop_succ_cons,List.drop_zero]
  go_wp2_with fail
  go_meet
  exact ⟨rfl,Lib.hid blw⟩
 obtain ⟨rfl,HB⟩:=hcut
 generalize wc=X at *
 have cvx:X.cell? ⟨vb,2,none⟩=some (.slice none 0 0):=(HB.out.cell (p:=⟨vb,2,none⟩) lv0).trans cv2
 have lvx:vb<X.heap.size:=by have:=HB.out.size;omega
 clear HBR HRD cb0 cb1 cv2 hlk HZ
 go_wp2_with fail
 exact bodyPost_ret (v := .tuple #[.pointer none,.int .i64 7]) (by simp[results,Tryz.results19,go_sem]) rfl ⟨rfl,HBW.out.trans (HB.out.mono HBW.out.size)⟩
end
end Go.Proofs.YtcedmfnlkelhkaaGreatDoor.Dn
namespace Go.Proofs.YtcedmfnlkelhkaaGreatDoor
set_option maxHeartbeats 40000000
set_option maxRecDepth 100000
open Go.RowKit Go.Shelf
attribute [local go_sem] Oper.semAt_some

theorem nH {w w':World} (h:Below w.heap.size w w'):w.grownBy w' none:=⟨h.os,h.tape,h.output,h.size,fun k hk _=>h.block k hk⟩
theorem Gives.aKq {P:Program} {f n:Nat} {args:Array Value} {w:World} {v:Value} (h:Gives P f args w v) {Q:Ending->World->Prop} (hq:∀ xs d,Q (.returned v) (w.grow xs d)):CallsIn Fence.wide n P f args w Q:=callsIn_wide.2 (h.use hq)
def encS (x:UInt8×Rec):Array Value := #[.int .i64 (x.1.toNat:Int),.agg (bI x.2)]
def nY (n₀ bx:Nat) (W W':World):Prop:=Below n₀ W W' /\ ∀ j,j<4->W'.heap[bx+j]? = W.heap[bx+j]?
theorem nY.trans {n₀ bx:Nat} {A B C:World} (h:nY n₀ bx A B) (k:nY n₀ bx B C):nY n₀ bx A C:=⟨h.1.trans k.1,fun j hj=>(k.2 j hj).trans (h.2 j hj)⟩
theorem nY.refl (n₀ bx:Nat) (W:World):nY n₀ bx W W:=⟨Below.refl _ _,fun _ _=>rfl⟩
theorem nY.of_below {n₀ bx:Nat} {W W':World} (h:Below W.heap.size W W') (hn:n₀<=W.heap.size) (hb:bx+3<W.heap.size):nY n₀ bx W W':=⟨h.mono hn,fun j hj=>h.block _ (by omega)⟩
theorem aGw {n₀ bx:Nat} {w:World} (hn:n₀<=w.heap.size) (hB:bx+3<w.heap.size) (W:World) (l:Nat) (o o':Obj) (hl:w.heap.size<=l) (h:W.heap[l]? = some o) (hc:o.isCells=false) (hw:o.isWalk=false):nY n₀ bx W (W.putObj l o') :=
 ⟨belowK_b hn W l o o' hl h hc hw,fun j hj=>World.putObj_heap_other (by omega)⟩
theorem aCR {f:K25->List Ver} {T:UInt64} {p b0:UInt8} {kd:Int} {n t:List UInt8} {h:n.length=12/\t.length=10} {L:List Lnk} {i:Nat} (hi:i<L.length) :
  gB f T p b0 kd n t h (L.drop i)=if gV kd p.toNat L[i].1.toNat n t=0 then
   (if (iD f T b0 L[i] (aI4 kd p L[i] n t h)).2=true then (L[i].1,(iD f T b0 L[i] (aI4 kd p L[i] n t h)).1) :: gB f T p b0 kd n t h (L.drop (i+1)) else gB f T p b0 kd n t h (L.drop (i+1))) else []:=by
 rw[List.drop_eq_getElem_cons hi]
 rfl
theorem aAM (n:Nat) (hn:4<=n) (B s:Nat) (G:SG) (hs:Short G 100000) (t:UInt64) (p b0:UInt8) (vb:Nat) (lv:Value) (P:List Lnk) (hP:P.length<=1000) (r:Rec) (kd:Int) (nm tg:List UInt8) (hnt:nm.length=12/\tg.length=10) (bx n₀:Nat) (w:World) (hbx:bx+3<w.heap.size) (hn₀:n₀<=w.heap.size)
  (hfst:P = [] \/ ∃ u q,P=(b0,u) :: q)
  (hctx:∀ V,Below n₀ w V->VAt V vb s t p lv P r/\aV V B s G)
  (c0:w.cell? ⟨bx,0,none⟩=some (.pointer (some ⟨vb,0,none⟩))) (c1:w.cell? ⟨bx+1,0,none⟩=some (.int .i64 kd)) (c2:w.aW (bx+2) 0 12=some (aJ nm)) (c3:w.aW (bx+3) 0 10=some (aJ tg)) :
  nZ Fence.wide n Tryz.prog 90 #[.pointer (some ⟨bx,0,none⟩),.pointer (some ⟨bx+1,0,none⟩),.pointer (some ⟨bx+2,0,none⟩),.pointer (some ⟨bx+3,0,none⟩)] encS (nY n₀ bx)
   (fun ys=>ys=gB (aQ G) t p b0 kd nm tg hnt P) (fun pre=>pre <+: gB (aQ G) t p b0 kd nm tg hnt P) P.length w:=by
 intro l J Jx W hW hJ hJx hY h0
 have hWn:Below n₀ w W:=hW.mono hn₀
 have hbW:bx+3<W.heap.size:=by have:=hW.size;omega
 have hnW:n₀<=W.heap.size:=by have:=hW.size;omega
 have k0:W.cell? ⟨bx,0,none⟩=some (.pointer (some ⟨vb,0,none⟩)):=(hW.cell (p:=⟨bx,0,none⟩) (by simp;omega)).trans c0
 have HCX:=Lib.hid (fun (V:World) (hb:Below n₀ W V)=>hctx V (hWn.trans hb))
 have HC:=Lib.hid (show W.heap[bx]? = w.heap[bx]? /\ W.heap[bx+1]? = w.heap[bx+1]? /\ W.heap[bx+2]? = w.heap[bx+2]? /\ W.heap[bx+3]? = w.heap[bx+3]? from ⟨hW.block _ (by omega),hW.block _ (by omega),hW.block _ (by omega),hW.block _ (by omega)⟩)
 have HCC:=Lib.hid (And.intro c0 (And.intro c1 (And.intro c2 c3)))
 have HY:=Lib.hid hY
 have HJ:=Lib.hid (And.intro hJ hJx)
 have HLK:=Lib.hid (aDZ (HCX.out W (Below.refl _ _)).1 hP)
 have HF:=Lib.hid hfst
 obtain ⟨hn1,hq1⟩:=hnt
 clear hWn hctx c0 c1 c2 c3 hY hW hfst
 refine callsIn_of_wp Tryz.func90 rfl trivial ?_ rfl
 simp only[Tryz.ntmps90,List.size_toArray,List.length_cons,List.length_nil,Nat.reduceAdd,Nat.reduceSub,Array.replicate_succ,Array.replicate_zero,List.push_toArray,List.append_toArray,List.nil_append,List.cons_append]
 gi_wp2_with fail
 refine ⟨trivial,fun _=>by omega,?_⟩
 refine (callsIn_wide.2 HLK.out).mono ?_
 rintro e W1 ⟨v',rfl,hb1,ho1⟩
 obtain ⟨a1,cap1,rfl,hc1,hm1⟩:=ho1.form
 simp only[List.length_map] at ho1 hm1 |-
 have hJ1:J [] W1:=HJ.out.1 [] W W1 none h0 (nH hb1) (fun r e=>by cases e)
 have HO1:=Lib.hid (And.intro hb1 ho1)
 have HJ1:=Lib.hid hJ1
 have hPm:P.length<=1000:=hP
 clear hJ1 hb1 ho1 HLK h0
 gi_wp2
 gi_loopw [15] (fun s15 wr => ∃ (i:Nat) (pre:List (UInt8×Rec)),i<=P.length/\s15 = .int .i64 i/\Hid (J pre wr)/\Hid (pre.length<=i/\gB (aQ G) t p b0 kd nm tg ⟨hn1,hq1⟩ P=pre++gB (aQ G) t p b0 kd nm tg ⟨hn1,hq1⟩ (P.drop i))/\Hid (aX W.heap.size W1 wr/\nY n₀ bx W wr)) (fun s15 _=>P.length - (intOf s15).toNat)
 case atStart=>exact ⟨0, [],Nat.zero_le _,rfl,HJ1,Lib.hid ⟨Nat.le_refl _,rfl⟩,Lib.hid ⟨aX.refl _ _,nY.of_below HO1.out.1 hnW hbW⟩⟩
 obtain ⟨i,pre,hi,rfl,HJr,HPr,HK⟩:=hrel
 by_cases hli:i<P.length
 ·have hliI:(i:Int)<P.length:=by omega
  obtain ⟨_,a3,cap3,he,_,_,hc⟩:=HO1.out.2.sl
  simp only[Value.slice.injEq,List.length_map,true_and] at he
  obtain ⟨rfl,rfl⟩:=he
  obtain ⟨g,o,rfl,hlb,hcut⟩:=hc (by simp;omega)
  have hx:=hcut i (lM P[i]) (by simp[hli])
  have hgW:W.heap.size<=g:=(HO1.out.2.lt g rfl).1
  have hgr:wr.heap[g]? = W1.heap[g]? := HK.out.1.same g hgW hlb
  have hx2:=(aK hgr (o+i * 2) 2).trans hx
  have g0:wr.cell? ⟨g,o+i * 2,none⟩=some (.int .i64 (P[i].1.toNat:Int)):=(dF hx2).2 0 (by decide)
  have g1:wr.cell? ⟨g,o+i * 2+1,none⟩=some (.int .u64 (P[i].2.toNat:Int)):=(dF hx2).2 1 (by decide)
  have hds:=aCR (f:=aQ G) (T:=t) (p:=p) (b0:=b0) (kd:=kd) (n:=nm) (t:=tg) (h:=⟨hn1,hq1⟩) hli
  have hff:∃ u q,P=(b0,u) :: q:=by
   rcases HF.out with h | h
   ·rw[h] at hli;exact absurd hli (by simp)
   exact h
  have hbr:=HK.out.2
  have hvr:=HCX.out wr hbr.1
  have hgl:g<wr.heap.size:=by have:=HK.out.1.size;omega
  have hx0:wr.heap[bx]? = w.heap[bx]? := (hbr.2 0 (by decide)).trans HC.out.1
  have hx1:wr.heap[bx+1]? = w.heap[bx+1]? := (hbr.2 1 (by decide)).trans HC.out.2.1
  have hx2':wr.heap[bx+2]? = w.heap[bx+2]? := (hbr.2 2 (by decide)).trans HC.out.2.2.1
  have hx3:wr.heap[bx+3]? = w.heap[bx+3]? := (hbr.2 3 (by decide)).trans HC.out.2.2.2
  have k0:wr.cell? ⟨bx,0,none⟩=some (.pointer (some ⟨vb,0,none⟩)):=by unfold World.cell? at *;rw[hx0];exact HCC.out.1
  have k1:wr.cell? ⟨bx+1,0,none⟩=some (.int .i64 kd):=by unfold World.cell? at *;rw[hx1];exact HCC.out.2.1
  have k2:wr.aW (bx+2) 0 12=some (aJ nm):=(aK hx2' _ _).trans HCC.out.2.2.1
  have k3:wr.aW (bx+3) 0 10=some (aJ tg):=(aK hx3 _ _).trans HCC.out.2.2.2
  have hbl:bx+3<wr.heap.size:=by have:=HK.out.1.size;have:=HO1.out.1.size;omega
  have hb0':bx<wr.heap.size:=by omega
  have hb1':bx+1<wr.heap.size:=by omega
  have hb2':bx+2<wr.heap.size:=by omega
  have hll:P.length<=1000:=hP
  generalize P[i]=lk at *
  obtain ⟨kb,kt⟩:=lk
  have HAT:=Lib.hid (fun (V:World) (hb:Below wr.heap.size wr V)=>aHn (hvr.1.up hb) (kb,kt) kd nm tg hn1 hq1)
  have HCXr:=Lib.hid hvr
  have HBR:=Lib.hid hbr
  simp only at g0 g1 hds HAT
  obtain ⟨ke,hke⟩:∃ ke,ke=gV kd p.toNat kb.toNat nm tg:=⟨_,rfl⟩
  rw[<-hke] at HAT hds
  obtain ⟨kk,hkk⟩:∃ kk:K25,kk=aI4 kd p (kb,kt) nm tg ⟨hn1,hq1⟩:=⟨_,rfl⟩
  have hkv:keyOf kd p.toNat kb.toNat nm tg=kk.val:=by rw[hkk];rfl
  rw[hkv] at HAT
  rw[<-hkk] at hds
  have hkl:=kk.len
  have HDS:=Lib.hid hds
  clear hcut hc hx hgr hx2 hds hvr hbr hx0 hx1 hx2' hx3 hke hkk hkv
  by_cases he:ke=0
  ·subst he
   have hds2:=HDS.out
   rw[if_pos rfl] at hds2
   have HRD:=Lib.hid (fun (V:World) (hb:Below wr.heap.size wr V)=>tV (HCXr.out.2.keep hb) hs (HCXr.out.1.up hb) (kb,kt) kk)
   have hrd:rdV G t (oJ P (kb,kt)) (kb,kt) kk=iD (aQ G) t b0 (kb,kt) kk:=by
    obtain ⟨u,q,rfl⟩:=hff
    unfold rdV iD
    rw[zG]
    simp only[decide_eq_true_eq]
   rw[hrd] at HRD
   obtain ⟨rd,hrdd⟩:∃ rd,rd=iD (aQ G) t b0 (kb,kt) kk:=⟨_,rfl⟩
   rw[<-hrdd] at HRD hds2
   obtain ⟨rr,is_⟩:=rd
   simp only at HRD hds2
   have HD2:=Lib.hid hds2
   clear hds2 HDS hrd hrdd hff
   gi_wp2_with fail
   refine ⟨trivial,fun _=>by omega,?_⟩
   refine Gives.aKq (HAT.out _ blw) ?_
   intro xs1 d1
   gi_wp2_with fail
   refine ⟨trivial,fun _=>by omega,?_⟩
   refine Gives.aKq (HRD.out _ blw) ?_
   intro xs2 d2
   cases is_ with
   | false =>
    have HD3:=Lib.hid (show gB (aQ G) t p b0 kd nm tg ⟨hn1,hq1⟩ (P.drop i)=gB (aQ G) t p b0 kd nm tg ⟨hn1,hq1⟩ (P.drop (i+1)) from HD2.out.trans (if_neg (by decide)))
    clear HD2 HAT HRD
    gi_wp2_with fail
    refine ⟨fun _ _=>trivial,?_⟩
    obtain ⟨V,hV⟩:∃ V,V=((((wr.alloc (.cells #[.int .i64 (kb.toNat:Int),.int .u64 (kt.toNat:Int)] 171)).grow xs1 d1).alloc (.cells (aJ kk.val) 132)).grow xs2 d2).alloc (.cells (bI rr) 101):=⟨_,rfl⟩
    have hbV:Below wr.heap.size wr V:=by rw[hV];exact blw
    rw[<-hV]
    have HV:=Lib.hid (show J pre V/\aX W.heap.size W1 V/\nY n₀ bx W V from ⟨HJ.out.1 pre wr V none HJr.out (nH hbV) (fun r e=>by cases e),HK.out.1.trans (aX.of_below hbV),HK.out.2.trans (nY.of_below hbV (by omega) (by omega))⟩)
    clear hV hbV HBR HCXr HK HJr
    gi_wp2
    go_roundw
    case rel=>exact ⟨i+1,pre,by omega,by go_num,Lib.hid HV.out.1,Lib.hid ⟨by have:=HPr.out.1;omega,HPr.out.2.trans (by rw[HD3.out])⟩,Lib.hid HV.out.2⟩
    simp[intOf];omega
   | true =>
    have HD3:=Lib.hid (show gB (aQ G) t p b0 kd nm tg ⟨hn1,hq1⟩ (P.drop i)=(kb,rr) :: gB (aQ G) t p b0 kd nm tg ⟨hn1,hq1⟩ (P.drop (i+1)) from HD2.out.trans (if_pos rfl))
    clear HD2 HAT HRD
    gi_wp2_with fail
    obtain ⟨V,hV⟩:∃ V,V=((((wr.alloc (.cells #[.int .i64 (kb.toNat:Int),.int .u64 (kt.toNat:Int)] 171)).grow xs1 d1).alloc (.cells (aJ kk.val) 132)).grow xs2 d2).alloc (.cells (bI rr) 101):=⟨_,rfl⟩
    have hbV:Below wr.heap.size wr V:=by rw[hV];exact blw
    rw[<-hV]
    have hJV:J pre V:=HJ.out.1 pre wr V none HJr.out (nH hbV) (fun r e=>by cases e)
    have hpl:pre.length<P.length:=by have:=HPr.out.1;omega
    have HV:=Lib.hid (show aX W.heap.size W1 V/\nY n₀ bx W V from ⟨HK.out.1.trans (aX.of_below hbV),HK.out.2.trans (nY.of_below hbV (by omega) (by omega))⟩)
    obtain ⟨fn,tmps,assign,body,hy,hR⟩:=HY.out pre (kb,rr) V hJV hpl
    simp only[encS] at hy
    have HPX:=Lib.hid (show gB (aQ G) t p b0 kd nm tg ⟨hn1,hq1⟩ P=(pre ++ [(kb,rr)])++gB (aQ G) t p b0 kd nm tg ⟨hn1,hq1⟩ (P.drop (i+1)) by
     rw[HPr.out.2,HD3.out,List.append_assoc]
     rfl)
    have HPL:=Lib.hid HPr.out.1
    clear hV hbV hJV HBR HCXr HK HJr HPr HD3 HY
    rw[hy,Oper.uponIn_round]
    refine ⟨fun _=>by omega,?_⟩
    refine hR.mono ?_
    rintro e W3 ⟨⟨rfl,hJ3,hk3⟩ | ⟨rfl,hJx3⟩,hu3⟩
    ·have HW3:=Lib.hid (And.intro hJ3 (And.intro (HV.out.1.trans (hu3.more (Nat.le_refl _))) (HV.out.2.trans hk3)))
     clear hJ3 hk3 hu3 HV hy hR
     gi_wp2
     go_roundw
     case rel=>exact ⟨i+1,pre ++ [(kb,rr)],by omega,by go_num,Lib.hid HW3.out.1,Lib.hid ⟨by have:=HPL.out;simp;omega,HPX.out⟩,Lib.hid HW3.out.2⟩
     simp[intOf];omega
    have HW3:=Lib.hid hJx3
    clear hJx3 hu3 HV hy hR
    gi_wp2
    refine bodyPost_ret (results_none rfl _ _ _) rfl ?_
    exact ⟨⟨_,rfl⟩,.inr ⟨pre ++ [(kb,rr)],by rw[HPX.out];exact List.prefix_append _ _,HW3.out⟩⟩
  have hne:(ke != 0)=true:=by simp[he]
  have HD3:=Lib.hid (show gB (aQ G) t p b0 kd nm tg ⟨hn1,hq1⟩ (P.drop i) = [] from HDS.out.trans (if_neg he))
  clear HDS he hff
  gi_wp2_with fail
  refine ⟨trivial,fun _=>by omega,?_⟩
  refine Gives.aKq (HAT.out _ blw) ?_
  intro xs1 d1
  gi_wp2_with fail
  refine bodyPost_ret (results_none rfl _ _ _) rfl ?_
  refine ⟨⟨_,rfl⟩,.inl ⟨pre,by rw[HPr.out.2,HD3.out,List.append_nil],HJ.out.1 pre wr _ none HJr.out (nH blw) (fun r e=>by cases e)⟩⟩
 have hie:i=P.length:=by omega
 have hgn:¬ (i:Int)<P.length:=by omega
 have HE:=Lib.hid (show pre=gB (aQ G) t p b0 kd nm tg ⟨hn1,hq1⟩ P by
  have:=HPr.out.2
  rw[hie,List.drop_length] at this
  rw[this]
  simp[gB])
 clear hie HPr HK HCX HC HCC HY HO1 HJ1 HF
 gi_wp2
 go_end0
 first
  | exact ⟨⟨_,rfl⟩,.inl ⟨_,rfl,by rw[<-HE.out];exact HJr.out⟩⟩
  | exact ⟨⟨_,rfl⟩,.inl (by rw[<-HE.out];exact HJr.out)⟩
end Go.Proofs.YtcedmfnlkelhkaaGreatDoor
