/- Layer 12: one more version is put onto a chain. -/
import Derived.Test.YtcedmfnlkelhkaaGreatDoorJaf
import Derived.Test.YtcedmfnlkelhkaaGreatDoorJag
import Derived.BigRegion
import Derived.Handy
namespace Go.Proofs.YtcedmfnlkelhkaaGreatDoor
set_option maxHeartbeats 40000000
set_option maxRecDepth 100000
open Go.RowKit

theorem aK3:kE Tryz.prog 203 210 11 56:=⟨Tryz.underlying203,by kernel_rfl,by decide,by decide⟩
def pY (v:Ver):Int:=if v.dead=false then mW v.r else if v.r=Rec.zero then 0 else 3
theorem aET (v:Ver) (w:World):Gives Tryz.prog 111 #[.agg (mV v)] w (.int .i64 (pY v)):=by
 obtain ⟨at_,dead,r⟩:=v
 have HC:=Lib.hid (zA r)
 cases dead with
 | false =>
  have he:pY ⟨at_,false,r⟩=mW r:=rfl
  rw[he]
  clear he
  generalize mW r=q at *
  unfold Gives
  go_enter Tryz.func111,Tryz.ntmps111
  go_wp2_with fail
  refine Gives.use (HC.out _) ?_
  intro xs d
  go_wp2_with fail
  go_ret
  exact ⟨rfl,blw⟩
 | true =>
  by_cases hr:r=Rec.zero
  ·have he:pY ⟨at_,true,r⟩=0:=by unfold pY;simp[hr]
   rw[he]
   have hd:decide (r=Rec.zero)=true:=decide_eq_true hr
   clear he hr HC
   unfold Gives
   go_enter Tryz.func111,Tryz.ntmps111
   go_wp2_with fail
   go_ret
   exact ⟨rfl,blw⟩
  have he:pY ⟨at_,true,r⟩=3:=by unfold pY;simp[hr]
  rw[he]
  have hd:decide (r=Rec.zero)=false:=decide_eq_false hr
  clear he hr HC
  unfold Gives
  go_enter Tryz.func111,Tryz.ntmps111
  go_wp2_with fail
  go_ret
  exact ⟨rfl,blw⟩
theorem But.aIh {w w1 w2:World} {row:Option Nat} (hg:w1.grownBy w2 row) (hb:Below w.heap.size w w1):But row.toList w w2 :=
 (But.of_below hb _).trans ⟨hg.os,hg.tape,hg.output,hg.size,fun b hb hn=>hg.block b hb (fun e=>hn (by rw[<-e];simp))⟩
def uD (w:World) (B c:Nat) (sv:Value) (vs:List Ver) (v:Ver) (w':World):Prop :=
 ∃ sv',vM w' B c sv' (vs ++ [v])/\But (c :: sv.ownBlock.toList) w w'/\(sv'.ownBlock=sv.ownBlock \/ ∃ g,sv'.ownBlock=some g/\w.heap.size<=g)
theorem aF6 (B c lb:Nat) (sv:Value) (vs:List Ver) (v:Ver) (w:World) (h:vM w B c sv vs) (hlen:vs.length+1<=100000) (hB:B<=w.heap.size) (hwr:pY v=0) (hnew:(fC vs).toNat<v.at_.toNat)
  (hl:w.aW lb 0 11=some (mV v)) (hlb:lb<w.heap.size) :
  Calls Tryz.prog 71 #[.pointer (some ⟨c,0,none⟩),.slice (some ⟨lb,0,none⟩) 1 1] w fun e w'=>e = .returned (.tuple #[.int .i64 1,.int .i64 0])/\uD w B c sv vs v w':=by
 have hlt:=(Array.getElem?_eq_some_iff.1 h.1).1
 have hwg:=aET v
 rw[hwr] at hwg
 have HW:=Lib.hid hwg
 have hne:∀ W,Below w.heap.size w W->Gives Tryz.prog 112 #[.pointer (some ⟨c,0,none⟩)] W (.int .u64 (fC vs).toNat):=fun W hb=>by
  refine aCh (some c) vs (by omega) W ⟨Nat.lt_of_lt_of_le hlt hb.size,sv,(hb.block _ hlt).trans h.1,?_⟩
  exact (h.2.below hb).sl
 have HN:=Lib.hid hne
 have HCH:=Lib.hid h
 clear hwg hwr hne h
 have hnd:¬ v.at_.toNat<=(fC vs).toNat:=by omega
 generalize (fC vs).toNat=nn at *
 clear hnew
 go_enter Tryz.func71,Tryz.ntmps71
 go_wp2_with fail
 go_loopw [13] (fun s13 wr=>(s13 = .int .i64 0/\wr=w)\/(s13 = .int .i64 1/\uD w B c sv vs v wr)) (fun s13 _=>1 - (intOf s13).toNat)
 case atStart=>exact .inl ⟨rfl,rfl⟩
 rcases hrel with ⟨rfl,rfl⟩ | ⟨rfl,hpost⟩
 ·go_wp2_with fail
  refine Gives.use (HW.out _) ?_
  intro xs0 d0
  go_wp2_with fail
  apply aG (by rfl) [.val _,.val _,.val _,.val _,.val _] 5 (by rfl) [24,25,26,27,28] [] [] (by rfl) (by rfl) (by decide) (by decide +kernel) (fun _ _ _ _ _ h=>h)
  case hF=>intro x;simp only[over,List.foldl_cons,List.foldl_nil,List.setIfInBounds_toArray,List.set_cons_succ,List.set_cons_zero];exact rfl
  case hops =>
   refine ⟨?o0,?o1,?o2,?o3,?o4,trivial⟩
   case o0 =>
    intro x w1 hH K hK
    obtain ⟨xs,d,rfl⟩:=aA hH.below
    clear hH
    try simp only[World.aB] at hK |-
    try simp only[World.grow_grow] at hK |-
    exact zw
   case o1 =>
    intro x w1 hH K hK
    have e24:x 24=_:=hH.g 0 24
    obtain ⟨xs,d,rfl⟩:=aA hH.below
    clear hH
    try simp only[World.aB] at hK |-
    try simp only[World.grow_grow] at hK |-
    simp only[e24] at hK |-
    clear e24
    exact zw
   case o2 =>
    intro x w1 hH K hK
    obtain ⟨xs,d,rfl⟩:=aA hH.below
    clear hH
    try simp only[World.aB] at hK |-
    try simp only[World.grow_grow] at hK |-
    exact zw
   case o3 =>
    intro x w1 hH K hK
    have e26:x 26=_:=hH.g 2 26
    obtain ⟨xs,d,rfl⟩:=aA hH.below
    clear hH
    try simp only[World.aB] at hK |-
    try simp only[World.grow_grow] at hK |-
    simp only[e26] at hK |-
    clear e26
    go_simp
    go_wp2_with (refine Gives.use (HN.out _ blw) ?_;intro ys e)
    exact zu
   case o4 =>
    intro x w1 hH K hK
    have e25:x 25=_:=hH.g 1 25
    have e27:x 27=_:=hH.g 3 27
    obtain ⟨xs,d,rfl⟩:=aA hH.below
    clear hH
    try simp only[World.aB] at hK |-
    try simp only[World.grow_grow] at hK |-
    simp only[e25,e27] at hK |-
    clear e25 e27
    exact zw
  intro x w1 hH
  have e24:x 24=_:=hH.t 0 24
  have e25:x 25=_:=hH.t 1 25
  have e26:x 26=_:=hH.t 2 26
  have e27:x 27=_:=hH.t 3 27
  have e28:x 28=_:=hH.t 4 28
  obtain ⟨xs,d,rfl⟩:=aA hH.below
  clear hH
  simp only[e24,e25,e26,e27,e28];clear e24 e25 e26 e27 e28
  simp only[List.drop_succ_cons,List.drop_nil]
  go_upto_region 11 with fail
  refine aP ?_
  intro W hW
  have hbW:Below wr.heap.size wr W:=by rw[hW];exact blw
  have hcv:W.aW wr.heap.size 0 11=some (mV v):=by
   rw[hW,World.aB,World.grow_grow,lI _ _ _ _ _ (by simp),qG _ _ _ _ _ rfl]
   simp[go_sem]
  have lvb:wr.heap.size<W.heap.size:=by rw[hW];simp;omega
  have hcW:W.heap[c]? = some (.cells #[sv] 205):=(hbW.block _ hlt).trans HCH.out.1
  have hoW:=HCH.out.2.below hbW
  have cc:W.cell? ⟨c,0,none⟩=some sv:=by simp[World.cell?,hcW]
  have fc:W.frozen? ⟨c,0,none⟩=false:=by simp[World.frozen?,hcW]
  have lc:c<W.heap.size:=(Array.getElem?_eq_some_iff.1 hcW).1
  obtain ⟨a,cap,rfl,hcap,_⟩:=hoW.form
  rw[List.length_map] at *
  have hoc:∀ g,(Value.slice a vs.length cap).ownBlock=some g->g≠c/\B<=g/\g<W.heap.size:=by
   intro g hg
   refine ⟨?_,hoW.lt g hg⟩
   rintro rfl
   exact (show Boxed W g 205 _ from hcW).not_row (by decide) hoW.2 hg.symm
  have HOW:=Lib.hid (And.intro hoW (And.intro hcW (And.intro hbW hoc)))
  clear hW hcW hoW hbW hoc
  clear hl HW HN
  have HWs:W.heap.size=W.heap.size:=rfl
  go_region_law (first
   | (refine step_append (o:=⟨some 37,_,_,_,_,_⟩) (B:=B) (xs:=vs.map mV) (ys := [mV v]) aK3 rfl (.tmp 34) (.tmp 36) rfl (v := .slice a vs.length cap) rfl ?_ (y:=_) rfl ?_ ?_ ?_ ?_ ?_
      ·repeat (first | exact HOW.out.1 | refine gU.alloc ?_ _ | refine gU.drew ?_)
      ·refine ⟨_,pW (Nat.le_refl _) (by decide) ?_⟩
       exact aI ((aC _ _ _).trans (if_pos (by simp;done))) (aDW _)
      ·intro x hx;simp at hx;subst hx;exact aIj v
      ·first | omega | (simp;omega)
      ·first | omega | (simp;omega)
      intro v2 w2 ho2 hg2 hl2
      obtain ⟨a2,cap2,rfl,hcap2,_⟩:=ho2.form
      have h0:w2.heap[c]? = W.heap[c]? := (hg2.block c (by first | (simp;done) | (simp;omega)) (fun e=>(HOW.out.2.2.2 c e.symm).1 rfl)).trans (by first | exact Below.heap_alloc W _ _ lc | exact Below.heap_alloc W.drew _ _ lc)
      have c2:w2.cell? ⟨c,0,none⟩=some (.slice a vs.length cap):=(cell_of_heap h0 _).trans cc
      have f2:w2.frozen? ⟨c,0,none⟩=false:=(frozen_of_heap h0 _).trans fc
      have hb2:But (Value.slice a vs.length cap).ownBlock.toList W w2:=But.aIh hg2 (by first | exact (Below.refl _ _).alloc (Nat.le_refl _) _ | exact ((Below.refl _ _).drew).alloc (Nat.le_refl _) _ | exact ((Below.refl _ _).alloc (Nat.le_refl _) _).drew)
      have HF:=Lib.hid (And.intro ho2 (And.intro (h0.trans HOW.out.2.1) (And.intro hb2 hl2)))
      clear ho2 hg2 hl2 h0 hb2))
  all_goals
   go_wp2_with fail
   go_roundw
   case rel =>
    refine .inr ⟨rfl,?_⟩
    obtain ⟨ho2,h0,hb2,hl2⟩:=HF.out
    have hlen2:(List.map mV vs ++ [mV v]).length=vs.length+1:=by simp
    rw[hlen2] at ho2 hl2
    have hnr:=(show Boxed w2 c 205 _ from h0).not_row (by decide) ho2.2
    have hset:But (c :: (Value.slice a vs.length cap).ownBlock.toList) w2 (w2.setCell ⟨c,0,none⟩ (.slice a2 (vs.length+1) cap2)):=But.setCell' _ List.mem_cons_self _ _
    have hown:gU (w2.setCell ⟨c,0,none⟩ (.slice a2 (vs.length+1) cap2)) B 11 210 (.slice a2 (vs.length+1) cap2) ((vs ++ [v]).map mV):=by
     rw[List.map_append,List.map_cons,List.map_nil]
     exact ho2.keep fun g hg _=>Below.heap_setCell _ ⟨c,0,none⟩ _ _ (fun e=>hnr (by rw[hg];exact congrArg some (show c=g from e.symm)))
    have hfin:But (c :: (Value.slice a vs.length cap).ownBlock.toList) wr (w2.setCell ⟨c,0,none⟩ (.slice a2 (vs.length+1) cap2)):=((But.of_below HOW.out.2.2.1 _).trans (hb2.more fun b hb _=>List.mem_cons_of_mem _ hb)).trans hset
    have hlast:(Value.slice a2 (vs.length+1) cap2).ownBlock=(Value.slice a vs.length cap).ownBlock \/ ∃ g,(Value.slice a2 (vs.length+1) cap2).ownBlock=some g/\wr.heap.size<=g:=by
     rcases hl2 with h | h
     ·exact .inl h
     exact .inr ⟨_,h,by simp;omega⟩
    unfold uD
    rw[List.length_map]
    exact ⟨_,⟨bC h0 0 _,hown⟩,hfin,hlast⟩
   simp[intOf]
 have HP:=Lib.hid hpost
 clear hpost
 go_wp2_with fail
 exact bodyPost_ret (v := .tuple #[.int .i64 1,.int .i64 0]) (by simp[results,Tryz.results71,go_sem]) rfl ⟨rfl,HP.out⟩
structure SG where
 t:Nat
 R:Option (CT K25)
 n:Int
 last:UInt64
 live:Int
 g:Nat->Value×List Ver
def dW:Option (CT K25)->List (Nat×K25×Nat)
 | none => []
 | some T=>T.list
def SG.chains (G:SG):List Nat:=(dW G.R).map (·.2.2)
def kZ (g:Nat->Value×List Ver) (cs:List Nat):List Nat:=(cs.map fun c=>(g c).1.ownBlock.toList).flatten
def SG.blocks (s:Nat) (G:SG):List Nat:=s :: G.t :: (jD G.R++(G.chains++kZ G.g G.chains))
structure aV (w:World) (B s:Nat) (G:SG):Prop where
 store:wW w s G.t G.last.toNat G.live
 tree:jI w G.t G.R G.n
 chain:∀ c∈G.chains,vM w B c (G.g c).1 (G.g c).2
 nodup:(G.blocks s).Nodup
 low:∀ b∈G.blocks s,B<=b
 size:B<=w.heap.size
def aQ (G:SG) (k:K25):List Ver:=match mD G.R k with | none => [] | some c=>(G.g c).2

theorem OkR.get {T:CT K25} (h:T.Ok keyBytes 200) (k:K25) (c:Nat):mD (some T) k=some c ↔ ∃ a,(a,k,c)∈T.list:=by
 constructor
 ·intro e
  unfold mD at e
  simp only[Option.bind_some] at e
  have hm:=jM k.val T
  generalize T.near k.val=x at e hm
  obtain ⟨a,k',c'⟩:=x
  simp only at e
  split at e
  ·rename_i he
   obtain rfl:=Option.some.inj e
   subst he
   exact ⟨a,hm⟩
  cases e
 rintro ⟨a,ha⟩
 have hn:T.near k.val=(a,k,c):=aIf h ha
 unfold mD
 simp only[Option.bind_some,hn,if_true]
theorem aGj (R:Option (CT K25)) (k:K25):vU R k=none ↔ mD R k=none:=by
 cases R with
 | none=>exact ⟨fun _=>rfl,fun _=>rfl⟩
 | some T =>
  unfold vU mD
  simp only[Option.bind_some]
  split <;> simp
theorem get_mem {R:Option (CT K25)} {k:K25} {c:Nat} (h:mD R k=some c):c∈(dW R).map (·.2.2):=by
 cases R with
 | none=>cases h
 | some T =>
  unfold mD at h
  simp only[Option.bind_some] at h
  split at h
  ·obtain rfl:=Option.some.inj h
   exact List.mem_map.2 ⟨_,jM k.val T,rfl⟩
  cases h
theorem aEk (R:Option (CT K25)) (k:K25) (c a fa:Nat):(aA7 R k c a fa).list.Perm ((a,k,c) :: dW R):=by
 cases R with
 | none=>exact List.Perm.refl _
 | some T=>exact uO T
theorem aIr (R:Option (CT K25)) (k:K25) (c a fa:Nat):∃ l,(l = [a]\/l = [a,fa])/\(aA7 R k c a fa).foot.Perm (l++jD R):=by
 cases R with
 | none=>exact ⟨[a],.inl rfl,List.Perm.refl _⟩
 | some T=>exact ⟨[a,fa],.inr rfl,aBe T⟩
theorem aKT {R:Option (CT K25)} {k:K25} {c a fa:Nat} (h:(aA7 R k c a fa).Ok keyBytes 200) (hR:∀ T,R=some T->T.Ok keyBytes 200) (hn:mD R k=none) (j:K25) :
  mD (some (aA7 R k c a fa)) j=if j=k then some c else mD R j:=by
 have hp:=aEk R k c a fa
 by_cases hj:j=k
 ·rw[if_pos hj,OkR.get h]
  exact ⟨a,hp.mem_iff.2 (by rw[hj];exact List.mem_cons_self)⟩
 rw[if_neg hj]
 have key:∀ d,mD (some (aA7 R k c a fa)) j=some d ↔ mD R j=some d:=by
  intro d
  rw[OkR.get h]
  constructor
  ·rintro ⟨b,hb⟩
   rcases List.mem_cons.1 (hp.mem_iff.1 hb) with e | hb
   ·exact absurd (congrArg (fun x:Nat×K25×Nat=>x.2.1) e) hj
   cases R with
   | none=>simp[dW] at hb
   | some T=>exact (OkR.get (hR T rfl) j d).2 ⟨b,hb⟩
  intro e
  cases R with
  | none=>cases e
  | some T =>
   obtain ⟨b,hb⟩:=(OkR.get (hR T rfl) j d).1 e
   exact ⟨b,hp.mem_iff.2 (List.mem_cons_of_mem _ hb)⟩
 cases h1:mD R j with
 | none =>
  cases h2:mD (some (aA7 R k c a fa)) j with
  | none=>rfl
  | some d=>rw[(key d).1 h2] at h1;cases h1
 | some d=>exact (key d).2 h1
theorem wH {g g':Nat->Value×List Ver} {cs:List Nat} (h:∀ c∈cs,g c=g' c):kZ g cs=kZ g' cs:=by
 unfold kZ
 congr 1
 exact List.map_congr_left fun c hc=>by rw[h c hc]
def aAV (g:Nat->Value×List Ver) (c:Nat) (x:Value×List Ver):Nat->Value×List Ver:=fun d=>if d=c then x else g d
theorem mP (g:Nat->Value×List Ver) (c:Nat) (x:Value×List Ver):aAV g c x c=x:=if_pos rfl
theorem kN (g:Nat->Value×List Ver) {c d:Nat} (x:Value×List Ver) (h:d≠c):aAV g c x d=g d:=if_neg h
section
variable {w w':World} {B s:Nat} {G:SG}
theorem aV.zM (h:aV w B s G) (hk:∀ b∈G.blocks s,w'.heap[b]? = w.heap[b]?) (hs:w.heap.size<=w'.heap.size):aV w' B s G:=by
 have inn:∀ {b},b∈jD G.R++(G.chains++kZ G.g G.chains)->b∈G.blocks s:=fun hb=>List.mem_cons_of_mem _ (List.mem_cons_of_mem _ hb)
 refine ⟨(hk s List.mem_cons_self).trans h.store,⟨(hk G.t (List.mem_cons_of_mem _ List.mem_cons_self)).trans h.tree.1,fun T hT=>⟨(h.tree.2 T hT).1.keep fun b hb=>hk b (inn (List.mem_append_left _ (by rw[hT];exact hb))),(h.tree.2 T hT).2⟩⟩,fun c hc => ?_,h.nodup,h.low,Nat.le_trans h.size hs⟩
 refine ⟨(hk c (inn (List.mem_append_right _ (List.mem_append_left _ hc)))).trans (h.chain c hc).1,(h.chain c hc).2.keep fun b hb _=>hk b (inn (List.mem_append_right _ (List.mem_append_right _ ?_)))⟩
 exact List.mem_flatten.2 ⟨_,List.mem_map.2 ⟨c,hc,rfl⟩,by rw[hb];simp⟩
theorem aV.lt (h:aV w B s G):∀ b∈G.blocks s,b<w.heap.size:=by
 intro b hb
 unfold SG.blocks at hb
 rcases List.mem_cons.1 hb with rfl | hb
 ·exact lt_of_heap h.store
 rcases List.mem_cons.1 hb with rfl | hb
 ·exact lt_of_heap h.tree.1
 rcases List.mem_append.1 hb with hb | hb
 ·cases hR:G.R with
  | none=>rw[hR] at hb;simp[jD] at hb
  | some T=>rw[hR] at hb;exact (h.tree.2 T hR).1.lt b hb
 rcases List.mem_append.1 hb with hb | hb
 ·exact lt_of_heap (h.chain b hb).1
 obtain ⟨l,hl,hbl⟩:=List.mem_flatten.1 hb
 obtain ⟨c,hc,rfl⟩:=List.mem_map.1 hl
 exact ((h.chain c hc).2.lt b (by simpa using hbl)).2
theorem aV.keep (h:aV w B s G) (hb:Below w.heap.size w w'):aV w' B s G:=h.zM (fun b hbm=>hb.block b (h.lt b hbm)) hb.size
theorem aKR (o:Option Nat):aBk o = .pointer (nJ o):=by cases o <;> rfl
theorem aV.dG (h:aV w B s G) (k:K25):pR w w.heap.size (mD G.R k) (aQ G k):=by
 unfold aQ
 cases hg:mD G.R k with
 | none=>rfl
 | some c =>
  have hc:=h.chain c (get_mem hg)
  exact ⟨lt_of_heap hc.1,_,hc.1,hc.2.sl⟩
end
end Go.Proofs.YtcedmfnlkelhkaaGreatDoor
