/- Layer 10: a record without what its kind uses. -/
import Derived.Test.YtcedmfnlkelhkaaGreatDoorJad
import Derived.BigRegion
import Derived.Deep.CutBlock
import Derived.Handy
namespace Go.Proofs.YtcedmfnlkelhkaaGreatDoor
set_option maxHeartbeats 40000000
set_option maxRecDepth 100000
open Go.RowKit

theorem bC {w:World} {b:Nat} {c:Array Value} {t:TypeId} (h:w.heap[b]? = some (.cells c t)) (o:Nat) (v:Value):(w.setCell ⟨b,o,none⟩ v).heap[b]? = some (.cells (c.setIfInBounds o v) t):=by
 simp only[World.setCell,Array.getElem?_modify,h,if_true,Option.map_some]
 simp
theorem aF {w:World} {b:Nat} {c:Array Value} {t:TypeId} (h:w.heap[b]? = some (.cells c t)) (i:Nat):w.cell? ⟨b,i,none⟩=c[i]? /\ w.frozen? ⟨b,i,none⟩=false:=by
 simp[World.cell?,World.frozen?,h]
def Sets (f:Nat) (z:Value):Prop := ∀ (b o:Nat) (v:Value) (w:World),w.cell? ⟨b,o,none⟩=some v->w.frozen? ⟨b,o,none⟩=false->v.oneCell'=true ->
 Calls Tryz.prog f #[.pointer (some ⟨b,o,none⟩)] w fun e w'=>e = .returned (.tuple #[])/\w'=w.setCell ⟨b,o,none⟩ z
theorem lV:Sets 180 (.int .u8 0):=by
 intro b o v w h hf h1
 go_enter Tryz.func180,Tryz.ntmps180
 go_wp2_with fail
 go_end0
 exact ⟨rfl,rfl⟩
theorem aFK:Sets 181 (.bool false):=by
 intro b o v w h hf h1
 go_enter Tryz.func181,Tryz.ntmps181
 go_wp2_with fail
 go_end0
 exact ⟨rfl,rfl⟩
theorem aAv:Sets 182 (.int .u32 0):=by
 intro b o v w h hf h1
 go_enter Tryz.func182,Tryz.ntmps182
 go_wp2_with fail
 go_end0
 exact ⟨rfl,rfl⟩
theorem aFL:Sets 183 (.int .u64 0):=by
 intro b o v w h hf h1
 go_enter Tryz.func183,Tryz.ntmps183
 go_wp2_with fail
 go_end0
 exact ⟨rfl,rfl⟩
theorem aAw:Sets 184 (.string { data := #[] }):=by
 intro b o v w h hf h1
 go_enter Tryz.func184,Tryz.ntmps184
 go_wp2_with fail
 go_end0
 exact ⟨rfl,rfl⟩
def fv (f:Nat):Value := .func (.func f) #[] #[]
def xY:Array Value := #[fv 180,fv 181,fv 182,fv 183,fv 184]
def eG (r:Rec):Rec :=
 if r.kind=1 then { r with user:=0 }
 else if r.kind=2 then { r with mask:=0 }
 else if r.kind=4 then { r with parent:=0,state:=0,at_:=0 }
 else if r.kind=5 then { r with gone:=false,rev:=0,text:=Txt.nil }
 else if r.kind=6 then { r with state:=0,user:=0,rev:=0,text:=Txt.nil }
 else r
theorem aMj (r:Rec) (b:Nat) (w:World) (hk:r.kind=1) (hb:w.heap[b]? = some (.cells (bI r) 101)) :
  Calls Tryz.prog 179 #[.pointer (some ⟨b,0,none⟩),.agg xY] w fun e w'=>e = .returned (.tuple #[])/\w'.heap[b]? = some (.cells (bI (eG r)) 101)/\But [b] w w':=by
 have hbl:=(Array.getElem?_eq_some_iff.1 hb).1
 have k0:w.cell? ⟨b,0,none⟩=some (.int .u8 1):=by rw[(aF hb 0).1];simp[bI,xG,hk]
 have HB:=Lib.hid hb
 have HK:=Lib.hid hk
 clear hb hk
 unfold xY fv
 go_enter Tryz.func179,Tryz.ntmps179
 go_upto_region 3 with fail
 refine aP ?_
 intro W0 hW0
 have hb0:W0.heap[b]? = some (.cells (bI r) 101):=by rw[hW0];exact (Below.heap_alloc _ _ _ hbl).trans HB.out
 obtain ⟨vb,hvb⟩:∃ vb,vb=w.heap.size:=⟨_,rfl⟩
 have hv0:W0.heap[vb]? = some (.cells xY 357):=by rw[hW0,hvb];exact (aC _ _ _).trans (if_pos rfl)
 rw[<-hvb]
 have hne:vb≠b:=by omega
 have hbut0:But [b] w W0:=by rw[hW0];exact But.of_below ((Below.refl _ w).alloc (Nat.le_refl _) _) _
 clear hW0 hvb k0
 have v0:W0.cell? ⟨vb,0,none⟩=some (.func (.func 180) #[] #[]):=(aF hv0 0).1
 have o0:W0.cell? ⟨b,2,none⟩=some (.int .u8 r.user.toNat):=(aF hb0 2).1
 have f0:W0.frozen? ⟨b,2,none⟩=false:=(aF hb0 2).2
 have H0:=Lib.hid (And.intro hb0 (And.intro hv0 hbut0))
 clear hb0 hv0 hbut0
 go_region_with (go_at_call 180;refine (lV b 2 _ W0.drew o0 f0 rfl).mono ?_;rintro e w' ⟨rfl,rfl⟩)
 go_wp2_with fail
 go_end0
 have hbare:eG r = { r with user:=0 }:=by unfold eG;simp[HK.out]
 refine ⟨rfl,?_,H0.out.2.2.trans ((But.setCell W0 b _ _).trans (But.of_below ((Below.refl _ _).drew) _))⟩
 rw[hbare]
 exact bC H0.out.1 _ _
theorem aMk (r:Rec) (b:Nat) (w:World) (hk:r.kind=2) (hb:w.heap[b]? = some (.cells (bI r) 101)) :
  Calls Tryz.prog 179 #[.pointer (some ⟨b,0,none⟩),.agg xY] w fun e w'=>e = .returned (.tuple #[])/\w'.heap[b]? = some (.cells (bI (eG r)) 101)/\But [b] w w':=by
 have hbl:=(Array.getElem?_eq_some_iff.1 hb).1
 have k0:w.cell? ⟨b,0,none⟩=some (.int .u8 2):=by rw[(aF hb 0).1];simp[bI,xG,hk]
 have HB:=Lib.hid hb
 have HK:=Lib.hid hk
 clear hb hk
 unfold xY fv
 go_enter Tryz.func179,Tryz.ntmps179
 go_upto_region 5 with fail
 refine aP ?_
 intro W0 hW0
 have hb0:W0.heap[b]? = some (.cells (bI r) 101):=by rw[hW0];exact (Below.heap_alloc _ _ _ hbl).trans HB.out
 obtain ⟨vb,hvb⟩:∃ vb,vb=w.heap.size:=⟨_,rfl⟩
 have hv0:W0.heap[vb]? = some (.cells xY 357):=by rw[hW0,hvb];exact (aC _ _ _).trans (if_pos rfl)
 rw[<-hvb]
 have hne:vb≠b:=by omega
 have hbut0:But [b] w W0:=by rw[hW0];exact But.of_below ((Below.refl _ w).alloc (Nat.le_refl _) _) _
 clear hW0 hvb k0
 have v0:W0.cell? ⟨vb,0,none⟩=some (.func (.func 180) #[] #[]):=(aF hv0 0).1
 have o0:W0.cell? ⟨b,4,none⟩=some (.int .u8 r.mask.toNat):=(aF hb0 4).1
 have f0:W0.frozen? ⟨b,4,none⟩=false:=(aF hb0 4).2
 have H0:=Lib.hid (And.intro hb0 (And.intro hv0 hbut0))
 clear hb0 hv0 hbut0
 go_region_with (go_at_call 180;refine (lV b 4 _ W0.drew o0 f0 rfl).mono ?_;rintro e w' ⟨rfl,rfl⟩)
 go_wp2_with fail
 go_end0
 have hbare:eG r = { r with mask:=0 }:=by unfold eG;simp[HK.out]
 refine ⟨rfl,?_,H0.out.2.2.trans ((But.setCell W0 b _ _).trans (But.of_below ((Below.refl _ _).drew) _))⟩
 rw[hbare]
 exact bC H0.out.1 _ _
theorem aMm (r:Rec) (b:Nat) (w:World) (hk:r.kind=4) (hb:w.heap[b]? = some (.cells (bI r) 101)) :
  Calls Tryz.prog 179 #[.pointer (some ⟨b,0,none⟩),.agg xY] w fun e w'=>e = .returned (.tuple #[])/\w'.heap[b]? = some (.cells (bI (eG r)) 101)/\But [b] w w':=by
 have hbl:=(Array.getElem?_eq_some_iff.1 hb).1
 have k0:w.cell? ⟨b,0,none⟩=some (.int .u8 4):=by rw[(aF hb 0).1];simp[bI,xG,hk]
 have HB:=Lib.hid hb
 have HK:=Lib.hid hk
 clear hb hk
 unfold xY fv
 go_enter Tryz.func179,Tryz.ntmps179
 go_upto_region 7 with fail
 refine aP ?_
 intro W0 hW0
 have hb0:W0.heap[b]? = some (.cells (bI r) 101):=by rw[hW0];exact (Below.heap_alloc _ _ _ hbl).trans HB.out
 obtain ⟨vb,hvb⟩:∃ vb,vb=w.heap.size:=⟨_,rfl⟩
 have hv0:W0.heap[vb]? = some (.cells xY 357):=by rw[hW0,hvb];exact (aC _ _ _).trans (if_pos rfl)
 rw[<-hvb]
 have hne:vb≠b:=by omega
 have hbut0:But [b] w W0:=by rw[hW0];exact But.of_below ((Below.refl _ w).alloc (Nat.le_refl _) _) _
 clear hW0 hvb k0
 have v0:W0.cell? ⟨vb,0,none⟩=some (.func (.func 180) #[] #[]):=(aF hv0 0).1
 have o0:W0.cell? ⟨b,3,none⟩=some (.int .u8 r.parent.toNat):=(aF hb0 3).1
 have f0:W0.frozen? ⟨b,3,none⟩=false:=(aF hb0 3).2
 have H0:=Lib.hid (And.intro hb0 (And.intro hv0 hbut0))
 clear hb0 hv0 hbut0
 go_region_with (go_at_call 180;refine (lV b 3 _ W0.drew o0 f0 rfl).mono ?_;rintro e w' ⟨rfl,rfl⟩)
 go_upto_region 8 with fail
 refine aP ?_
 intro W1 hW1
 have hb1:W1.heap[b]? = some (.cells (bI { r with parent:=0 }) 101):=by rw[hW1];exact bC H0.out.1 _ _
 have hv1:W1.heap[vb]? = some (.cells xY 357):=by rw[hW1];exact (Below.heap_setCell _ ⟨b,_,none⟩ _ _ hne).trans H0.out.2.1
 have hbut1:But [b] w W1:=by rw[hW1];exact H0.out.2.2.trans ((But.setCell W0 b _ _).trans (But.of_below ((Below.refl _ _).drew) _))
 clear hW1 v0 o0 f0
 have v1:W1.cell? ⟨vb,0,none⟩=some (.func (.func 180) #[] #[]):=(aF hv1 0).1
 have o1:W1.cell? ⟨b,1,none⟩=some (.int .u8 r.state.toNat):=(aF hb1 1).1
 have f1:W1.frozen? ⟨b,1,none⟩=false:=(aF hb1 1).2
 have H1:=Lib.hid (And.intro hb1 (And.intro hv1 hbut1))
 clear hb1 hv1 hbut1
 go_region_with (go_at_call 180;refine (lV b 1 _ W1.drew o1 f1 rfl).mono ?_;rintro e w' ⟨rfl,rfl⟩)
 go_upto_region 9 with fail
 refine aP ?_
 intro W2 hW2
 have hb2:W2.heap[b]? = some (.cells (bI { { r with parent:=0 } with state:=0 }) 101):=by rw[hW2];exact bC H1.out.1 _ _
 have hv2:W2.heap[vb]? = some (.cells xY 357):=by rw[hW2];exact (Below.heap_setCell _ ⟨b,_,none⟩ _ _ hne).trans H1.out.2.1
 have hbut2:But [b] w W2:=by rw[hW2];exact H1.out.2.2.trans ((But.setCell W1 b _ _).trans (But.of_below ((Below.refl _ _).drew) _))
 clear hW2 v1 o1 f1
 have v2:W2.cell? ⟨vb,3,none⟩=some (.func (.func 183) #[] #[]):=(aF hv2 3).1
 have o2:W2.cell? ⟨b,7,none⟩=some (.int .u64 r.at_.toNat):=(aF hb2 7).1
 have f2:W2.frozen? ⟨b,7,none⟩=false:=(aF hb2 7).2
 have H2:=Lib.hid (And.intro hb2 (And.intro hv2 hbut2))
 clear hb2 hv2 hbut2
 go_region_with (go_at_call 183;refine (aFL b 7 _ W2.drew o2 f2 rfl).mono ?_;rintro e w' ⟨rfl,rfl⟩)
 go_wp2_with fail
 go_end0
 have hbare:eG r = { { { r with parent:=0 } with state:=0 } with at_:=0 }:=by unfold eG;simp[HK.out]
 refine ⟨rfl,?_,H2.out.2.2.trans ((But.setCell W2 b _ _).trans (But.of_below ((Below.refl _ _).drew) _))⟩
 rw[hbare]
 exact bC H2.out.1 _ _
theorem aMn (r:Rec) (b:Nat) (w:World) (hk:r.kind=5) (hb:w.heap[b]? = some (.cells (bI r) 101)) :
  Calls Tryz.prog 179 #[.pointer (some ⟨b,0,none⟩),.agg xY] w fun e w'=>e = .returned (.tuple #[])/\w'.heap[b]? = some (.cells (bI (eG r)) 101)/\But [b] w w':=by
 have hbl:=(Array.getElem?_eq_some_iff.1 hb).1
 have k0:w.cell? ⟨b,0,none⟩=some (.int .u8 5):=by rw[(aF hb 0).1];simp[bI,xG,hk]
 have HB:=Lib.hid hb
 have HK:=Lib.hid hk
 clear hb hk
 unfold xY fv
 go_enter Tryz.func179,Tryz.ntmps179
 go_upto_region 11 with fail
 refine aP ?_
 intro W0 hW0
 have hb0:W0.heap[b]? = some (.cells (bI r) 101):=by rw[hW0];exact (Below.heap_alloc _ _ _ hbl).trans HB.out
 obtain ⟨vb,hvb⟩:∃ vb,vb=w.heap.size:=⟨_,rfl⟩
 have hv0:W0.heap[vb]? = some (.cells xY 357):=by rw[hW0,hvb];exact (aC _ _ _).trans (if_pos rfl)
 rw[<-hvb]
 have hne:vb≠b:=by omega
 have hbut0:But [b] w W0:=by rw[hW0];exact But.of_below ((Below.refl _ w).alloc (Nat.le_refl _) _) _
 clear hW0 hvb k0
 have v0:W0.cell? ⟨vb,1,none⟩=some (.func (.func 181) #[] #[]):=(aF hv0 1).1
 have o0:W0.cell? ⟨b,5,none⟩=some (.bool r.gone):=(aF hb0 5).1
 have f0:W0.frozen? ⟨b,5,none⟩=false:=(aF hb0 5).2
 have H0:=Lib.hid (And.intro hb0 (And.intro hv0 hbut0))
 clear hb0 hv0 hbut0
 go_region_with (go_at_call 181;refine (aFK b 5 _ W0.drew o0 f0 rfl).mono ?_;rintro e w' ⟨rfl,rfl⟩)
 go_upto_region 12 with fail
 refine aP ?_
 intro W1 hW1
 have hb1:W1.heap[b]? = some (.cells (bI { r with gone:=false }) 101):=by rw[hW1];exact bC H0.out.1 _ _
 have hv1:W1.heap[vb]? = some (.cells xY 357):=by rw[hW1];exact (Below.heap_setCell _ ⟨b,_,none⟩ _ _ hne).trans H0.out.2.1
 have hbut1:But [b] w W1:=by rw[hW1];exact H0.out.2.2.trans ((But.setCell W0 b _ _).trans (But.of_below ((Below.refl _ _).drew) _))
 clear hW1 v0 o0 f0
 have v1:W1.cell? ⟨vb,2,none⟩=some (.func (.func 182) #[] #[]):=(aF hv1 2).1
 have o1:W1.cell? ⟨b,6,none⟩=some (.int .u32 r.rev.toNat):=(aF hb1 6).1
 have f1:W1.frozen? ⟨b,6,none⟩=false:=(aF hb1 6).2
 have H1:=Lib.hid (And.intro hb1 (And.intro hv1 hbut1))
 clear hb1 hv1 hbut1
 go_region_with (go_at_call 182;refine (aAv b 6 _ W1.drew o1 f1 rfl).mono ?_;rintro e w' ⟨rfl,rfl⟩)
 go_upto_region 13 with fail
 refine aP ?_
 intro W2 hW2
 have hb2:W2.heap[b]? = some (.cells (bI { { r with gone:=false } with rev:=0 }) 101):=by rw[hW2];exact bC H1.out.1 _ _
 have hv2:W2.heap[vb]? = some (.cells xY 357):=by rw[hW2];exact (Below.heap_setCell _ ⟨b,_,none⟩ _ _ hne).trans H1.out.2.1
 have hbut2:But [b] w W2:=by rw[hW2];exact H1.out.2.2.trans ((But.setCell W1 b _ _).trans (But.of_below ((Below.refl _ _).drew) _))
 clear hW2 v1 o1 f1
 have v2:W2.cell? ⟨vb,4,none⟩=some (.func (.func 184) #[] #[]):=(aF hv2 4).1
 have o2:W2.cell? ⟨b,8,none⟩=some (.string (bs r.text.val)):=(aF hb2 8).1
 have f2:W2.frozen? ⟨b,8,none⟩=false:=(aF hb2 8).2
 have H2:=Lib.hid (And.intro hb2 (And.intro hv2 hbut2))
 clear hb2 hv2 hbut2
 go_region_with (go_at_call 184;refine (aAw b 8 _ W2.drew o2 f2 rfl).mono ?_;rintro e w' ⟨rfl,rfl⟩)
 go_wp2_with fail
 go_end0
 have hbare:eG r = { { { r with gone:=false } with rev:=0 } with text:=Txt.nil }:=by unfold eG;simp[HK.out]
 refine ⟨rfl,?_,H2.out.2.2.trans ((But.setCell W2 b _ _).trans (But.of_below ((Below.refl _ _).drew) _))⟩
 rw[hbare]
 exact bC H2.out.1 _ _
theorem aMo (r:Rec) (b:Nat) (w:World) (hk:r.kind=6) (hb:w.heap[b]? = some (.cells (bI r) 101)) :
  Calls Tryz.prog 179 #[.pointer (some ⟨b,0,none⟩),.agg xY] w fun e w'=>e = .returned (.tuple #[])/\w'.heap[b]? = some (.cells (bI (eG r)) 101)/\But [b] w w':=by
 have hbl:=(Array.getElem?_eq_some_iff.1 hb).1
 have k0:w.cell? ⟨b,0,none⟩=some (.int .u8 6):=by rw[(aF hb 0).1];simp[bI,xG,hk]
 have HB:=Lib.hid hb
 have HK:=Lib.hid hk
 clear hb hk
 unfold xY fv
 go_enter Tryz.func179,Tryz.ntmps179
 go_upto_region 15 with fail
 refine aP ?_
 intro W0 hW0
 have hb0:W0.heap[b]? = some (.cells (bI r) 101):=by rw[hW0];exact (Below.heap_alloc _ _ _ hbl).trans HB.out
 obtain ⟨vb,hvb⟩:∃ vb,vb=w.heap.size:=⟨_,rfl⟩
 have hv0:W0.heap[vb]? = some (.cells xY 357):=by rw[hW0,hvb];exact (aC _ _ _).trans (if_pos rfl)
 rw[<-hvb]
 have hne:vb≠b:=by omega
 have hbut0:But [b] w W0:=by rw[hW0];exact But.of_below ((Below.refl _ w).alloc (Nat.le_refl _) _) _
 clear hW0 hvb k0
 have v0:W0.cell? ⟨vb,0,none⟩=some (.func (.func 180) #[] #[]):=(aF hv0 0).1
 have o0:W0.cell? ⟨b,1,none⟩=some (.int .u8 r.state.toNat):=(aF hb0 1).1
 have f0:W0.frozen? ⟨b,1,none⟩=false:=(aF hb0 1).2
 have H0:=Lib.hid (And.intro hb0 (And.intro hv0 hbut0))
 clear hb0 hv0 hbut0
 go_region_with (go_at_call 180;refine (lV b 1 _ W0.drew o0 f0 rfl).mono ?_;rintro e w' ⟨rfl,rfl⟩)
 go_upto_region 16 with fail
 refine aP ?_
 intro W1 hW1
 have hb1:W1.heap[b]? = some (.cells (bI { r with state:=0 }) 101):=by rw[hW1];exact bC H0.out.1 _ _
 have hv1:W1.heap[vb]? = some (.cells xY 357):=by rw[hW1];exact (Below.heap_setCell _ ⟨b,_,none⟩ _ _ hne).trans H0.out.2.1
 have hbut1:But [b] w W1:=by rw[hW1];exact H0.out.2.2.trans ((But.setCell W0 b _ _).trans (But.of_below ((Below.refl _ _).drew) _))
 clear hW1 v0 o0 f0
 have v1:W1.cell? ⟨vb,0,none⟩=some (.func (.func 180) #[] #[]):=(aF hv1 0).1
 have o1:W1.cell? ⟨b,2,none⟩=some (.int .u8 r.user.toNat):=(aF hb1 2).1
 have f1:W1.frozen? ⟨b,2,none⟩=false:=(aF hb1 2).2
 have H1:=Lib.hid (And.intro hb1 (And.intro hv1 hbut1))
 clear hb1 hv1 hbut1
 go_region_with (go_at_call 180;refine (lV b 2 _ W1.drew o1 f1 rfl).mono ?_;rintro e w' ⟨rfl,rfl⟩)
 go_upto_region 17 with fail
 refine aP ?_
 intro W2 hW2
 have hb2:W2.heap[b]? = some (.cells (bI { { r with state:=0 } with user:=0 }) 101):=by rw[hW2];exact bC H1.out.1 _ _
 have hv2:W2.heap[vb]? = some (.cells xY 357):=by rw[hW2];exact (Below.heap_setCell _ ⟨b,_,none⟩ _ _ hne).trans H1.out.2.1
 have hbut2:But [b] w W2:=by rw[hW2];exact H1.out.2.2.trans ((But.setCell W1 b _ _).trans (But.of_below ((Below.refl _ _).drew) _))
 clear hW2 v1 o1 f1
 have v2:W2.cell? ⟨vb,2,none⟩=some (.func (.func 182) #[] #[]):=(aF hv2 2).1
 have o2:W2.cell? ⟨b,6,none⟩=some (.int .u32 r.rev.toNat):=(aF hb2 6).1
 have f2:W2.frozen? ⟨b,6,none⟩=false:=(aF hb2 6).2
 have H2:=Lib.hid (And.intro hb2 (And.intro hv2 hbut2))
 clear hb2 hv2 hbut2
 go_region_with (go_at_call 182;refine (aAv b 6 _ W2.drew o2 f2 rfl).mono ?_;rintro e w' ⟨rfl,rfl⟩)
 go_upto_region 18 with fail
 refine aP ?_
 intro W3 hW3
 have hb3:W3.heap[b]? = some (.cells (bI { { { r with state:=0 } with user:=0 } with rev:=0 }) 101):=by rw[hW3];exact bC H2.out.1 _ _
 have hv3:W3.heap[vb]? = some (.cells xY 357):=by rw[hW3];exact (Below.heap_setCell _ ⟨b,_,none⟩ _ _ hne).trans H2.out.2.1
 have hbut3:But [b] w W3:=by rw[hW3];exact H2.out.2.2.trans ((But.setCell W2 b _ _).trans (But.of_below ((Below.refl _ _).drew) _))
 clear hW3 v2 o2 f2
 have v3:W3.cell? ⟨vb,4,none⟩=some (.func (.func 184) #[] #[]):=(aF hv3 4).1
 have o3:W3.cell? ⟨b,8,none⟩=some (.string (bs r.text.val)):=(aF hb3 8).1
 have f3:W3.frozen? ⟨b,8,none⟩=false:=(aF hb3 8).2
 have H3:=Lib.hid (And.intro hb3 (And.intro hv3 hbut3))
 clear hb3 hv3 hbut3
 go_region_with (go_at_call 184;refine (aAw b 8 _ W3.drew o3 f3 rfl).mono ?_;rintro e w' ⟨rfl,rfl⟩)
 go_wp2_with fail
 go_end0
 have hbare:eG r = { { { { r with state:=0 } with user:=0 } with rev:=0 } with text:=Txt.nil }:=by unfold eG;simp[HK.out]
 refine ⟨rfl,?_,H3.out.2.2.trans ((But.setCell W3 b _ _).trans (But.of_below ((Below.refl _ _).drew) _))⟩
 rw[hbare]
 exact bC H3.out.1 _ _
theorem aMl (r:Rec) (b:Nat) (w:World) (hk:r.kind=3) (hb:w.heap[b]? = some (.cells (bI r) 101)) :
  Calls Tryz.prog 179 #[.pointer (some ⟨b,0,none⟩),.agg xY] w fun e w'=>e = .returned (.tuple #[])/\w'.heap[b]? = some (.cells (bI (eG r)) 101)/\But [b] w w':=by
 have hbl:=(Array.getElem?_eq_some_iff.1 hb).1
 have k0:w.cell? ⟨b,0,none⟩=some (.int .u8 3):=by rw[(aF hb 0).1];simp[bI,xG,hk]
 have HB:=Lib.hid hb
 have HK:=Lib.hid hk
 clear hb hk
 unfold xY fv
 go_enter Tryz.func179,Tryz.ntmps179
 go_wp2_with fail
 go_end0
 have hbare:eG r=r:=by unfold eG;simp[HK.out]
 rw[hbare]
 exact ⟨rfl,(Below.heap_alloc _ _ _ hbl).trans HB.out,But.of_below ((Below.refl _ w).alloc (Nat.le_refl _) _) _⟩
theorem vW {k:UInt8} (h:1<=k.toNat/\k.toNat<=6):k=1\/k=2\/k=3\/k=4\/k=5\/k=6:=by
 have e:∀ n:Nat,k.toNat=n->n<256->k=UInt8.ofNat n:=fun n hn hl=>UInt8.toNat_inj.1 (by rw[hn,UInt8.toNat_ofNat',Nat.mod_eq_of_lt hl])
 obtain ⟨h1,h2⟩:=h
 rcases (by omega:k.toNat=1\/k.toNat=2\/k.toNat=3\/k.toNat=4\/k.toNat=5\/k.toNat=6) with h | h | h | h | h | h
 ·exact .inl (e 1 h (by omega))
 ·exact .inr (.inl (e 2 h (by omega)))
 ·exact .inr (.inr (.inl (e 3 h (by omega))))
 ·exact .inr (.inr (.inr (.inl (e 4 h (by omega)))))
 ·exact .inr (.inr (.inr (.inr (.inl (e 5 h (by omega))))))
 exact .inr (.inr (.inr (.inr (.inr (e 6 h (by omega))))))
theorem aES (r:Rec) (b:Nat) (w:World) (hk:1<=r.kind.toNat/\r.kind.toNat<=6) (hb:w.heap[b]? = some (.cells (bI r) 101)) :
  Calls Tryz.prog 179 #[.pointer (some ⟨b,0,none⟩),.agg xY] w fun e w'=>e = .returned (.tuple #[])/\w'.heap[b]? = some (.cells (bI (eG r)) 101)/\But [b] w w':=by
 rcases vW hk with h | h | h | h | h | h
 ·exact aMj r b w h hb
 ·exact aMk r b w h hb
 ·exact aMl r b w h hb
 ·exact aMm r b w h hb
 ·exact aMn r b w h hb
 exact aMo r b w h hb
theorem aIS {w:World} {n sz:Nat} {c vs:Array Value} {t:TypeId} (h:w.heap[n]? = some (.cells c t)) (hc:c.size=sz) (hv:vs.size=sz):(w.lay n 0 vs).aW n 0 sz=some vs:=by
 unfold World.aW World.lay
 simp only[Array.getElem?_modify,h,if_true,Option.map_some]
 rw[dN (by omega)]
 simp[hv]
theorem aFM (r:Rec) (hk:1<=r.kind.toNat/\r.kind.toNat<=6) (w:World):Gives Tryz.prog 155 #[.agg (bI r)] w (.agg (bI (eG r))):=by
 have HV:=Lib.hid (fun b w=>aES r b w hk)
 unfold Gives
 go_enter Tryz.func155,Tryz.ntmps155
 go_wp2_with fail
 refine (HV.out w.heap.size _ ?_).mono ?_
 ·exact (aC _ _ _).trans ((if_neg (by simp)).trans ((aC _ _ _).trans (if_pos rfl)))
 rintro e W ⟨rfl,hW,hbut⟩
 have c1:W.aW w.heap.size 0 9=some (bI (eG r)):=by simp[World.aW,hW]
 have h2:W.heap[w.heap.size+1]? = some (.cells (bI Rec.zero) 101):=(hbut.same _ (by simp) (by simp)).trans ((aC _ _ _).trans (if_pos (by simp)))
 have t2:W.aN (w.heap.size+1) 0 9=true:=by simp[World.aN,h2]
 have hbw:Below w.heap.size w W:=(((Below.refl _ w).alloc (Nat.le_refl _) _).alloc (by simp) _).trans (hbut.below (by intro b hb;simp at hb;omega) (by simp;omega))
 have l2:=(Array.getElem?_eq_some_iff.1 h2).1
 have HBW:=Lib.hid (And.intro hbw h2)
 clear HV hW hbut h2 hbw
 go_wp2_with fail
 exact bodyPost_ret (v := .agg (bI (eG r))) (fE Tryz.results155 (aO.row rfl gY (aIS HBW.out.2 (by simp) (by simp)))) rfl ⟨rfl,HBW.out.1.lay (by simp)⟩
def dZ (r:Rec):Bool :=
 if r.kind=1 then decide (r.user.toNat<16)
 else if r.kind=2 then decide (1<=r.mask.toNat) && decide (r.mask.toNat<=63)
 else if r.kind=4 then decide (r.parent.toNat<4) && decide (r.state.toNat<=1)
 else if r.kind=5 then decide (0<r.rev.toNat)
 else if r.kind=6 then decide (1<=r.state.toNat) && decide (r.state.toNat<=5) && decide (r.user.toNat<16) && decide (0<r.rev.toNat)
 else true
@[go_sem,simp] theorem aPG (r:Rec) (h:0<(bI r).size):(bI r)[0]'h = .int .u8 r.kind.toNat:=id rfl
@[go_sem] theorem aQS (r:Rec):(bI r)[0]? = some (.int .u8 r.kind.toNat):=id rfl
@[go_sem,simp] theorem aPH (r:Rec) (h:1<(bI r).size):(bI r)[1]'h = .int .u8 r.state.toNat:=id rfl
@[go_sem] theorem aQT (r:Rec):(bI r)[1]? = some (.int .u8 r.state.toNat):=id rfl
@[go_sem,simp] theorem aPI (r:Rec) (h:2<(bI r).size):(bI r)[2]'h = .int .u8 r.user.toNat:=id rfl
@[go_sem] theorem aQU (r:Rec):(bI r)[2]? = some (.int .u8 r.user.toNat):=id rfl
@[go_sem,simp] theorem aPJ (r:Rec) (h:3<(bI r).size):(bI r)[3]'h = .int .u8 r.parent.toNat:=id rfl
@[go_sem] theorem aQV (r:Rec):(bI r)[3]? = some (.int .u8 r.parent.toNat):=id rfl
@[go_sem,simp] theorem aPK (r:Rec) (h:4<(bI r).size):(bI r)[4]'h = .int .u8 r.mask.toNat:=id rfl
@[go_sem] theorem aQW (r:Rec):(bI r)[4]? = some (.int .u8 r.mask.toNat):=id rfl
@[go_sem,simp] theorem aPL (r:Rec) (h:5<(bI r).size):(bI r)[5]'h = .bool r.gone:=id rfl
@[go_sem] theorem aQX (r:Rec):(bI r)[5]? = some (.bool r.gone):=id rfl
@[go_sem,simp] theorem aPM (r:Rec) (h:6<(bI r).size):(bI r)[6]'h = .int .u32 r.rev.toNat:=id rfl
@[go_sem] theorem aQY (r:Rec):(bI r)[6]? = some (.int .u32 r.rev.toNat):=id rfl
@[go_sem,simp] theorem aPN (r:Rec) (h:7<(bI r).size):(bI r)[7]'h = .int .u64 r.at_.toNat:=id rfl
@[go_sem] theorem aQZ (r:Rec):(bI r)[7]? = some (.int .u64 r.at_.toNat):=id rfl
@[go_sem,simp] theorem aPO (r:Rec) (h:8<(bI r).size):(bI r)[8]'h = .string (bs r.text.val):=id rfl
@[go_sem] theorem aQ0 (r:Rec):(bI r)[8]? = some (.string (bs r.text.val)):=id rfl
theorem aD0 (r:Rec) (hk:1<=r.kind.toNat/\r.kind.toNat<=6) (w:World):Gives Tryz.prog 156 #[.agg (bI r)] w (.bool (dZ r)):=by
 have HK:=vW hk
 clear hk
 obtain ⟨kind,state,user,parent,mask,gone,rev,at_,text⟩:=r
 simp only at HK
 rcases HK with rfl | rfl | rfl | rfl | rfl | rfl
 all_goals
  unfold Gives
  go_enter Tryz.func156,Tryz.ntmps156
  go_wp2_with fail
  all_goals go_ret
  all_goals refine ⟨aIu ?_,blw⟩
  all_goals first | (simp[dZ];done) | (simp[dZ];omega) | (rw[Bool.eq_iff_iff];simp[dZ];omega)
def jY (k:UInt8):Rec := { Rec.zero with kind:=k }
def mW (r:Rec):Int :=
 if 1<=r.kind.toNat/\r.kind.toNat<=6 then
  (if eG r=jY r.kind then
   (if dZ r=true then
    (if 60<r.text.val.length then 2
    else if r.gone=true/\r.text.val ≠ [] then 3 else 0)
   else 5)
  else 3)
 else 16
@[go_sem ↓ high] theorem aNP (f:Nat×Operand->Nat×Value) (p:Nat×Operand):Instr.build 101 (Array.map f #[p])=yD 101 (f p):=by simp[yD]
@[go_sem] theorem aLV (k:UInt8) (w:World):(yD 101 (0,.int .u8 k.toNat)).run Tryz.prog w = .ok (.agg (bI (jY k))) w:=by
 unfold yD
 refine fJ (zero := .agg (bI Rec.zero)) (places := #[(0,1),(1,1),(2,1),(3,1),(4,1),(5,1),(6,1),(7,1),(8,1)]) (by intro w;exact (Tryz.zeroValue101 w).trans rfl) Tryz.underlying101 (by intro w;kernel_rfl) ?_
 rfl
theorem zA (r:Rec) (w:World):Gives Tryz.prog 133 #[.agg (bI r)] w (.int .i64 (mW r)):=by
 by_cases hk:1<=r.kind.toNat/\r.kind.toNat<=6
 ·have HB:=Lib.hid (aFM r hk)
  have HW:=Lib.hid (aD0 r hk)
  have k1:¬ ((r.kind.toNat:Int)<1):=by omega
  have k6:¬ (6<(r.kind.toNat:Int)):=by omega
  by_cases hb:eG r=jY r.kind
  ·have hd:decide (eG r=jY r.kind)=true:=decide_eq_true hb
   by_cases hw:dZ r=true
   ·rw[hw] at HW
    have he:mW r=if 60<r.text.val.length then 2 else if r.gone=true/\r.text.val ≠ [] then 3 else 0:=by unfold mW;rw[if_pos hk,if_pos hb,if_pos hw]
    rw[he]
    clear hk hb hw he
    obtain ⟨q,hq⟩:∃ q:Int,q=if 60<r.text.val.length then 2 else if r.gone=true/\r.text.val ≠ [] then 3 else 0:=⟨_,rfl⟩
    rw[<-hq]
    have HQ:=Lib.hid hq
    clear hq
    unfold Gives
    go_enter Tryz.func133,Tryz.ntmps133
    go_wp2_with fail
    apply aG (by rfl) [.val _,.val _,.val _,.val _,.val _,.val _] 6 (by rfl) [13,14,15,16,17,18] [] [] (by rfl) (by rfl) (by decide) (by decide +kernel) (fun _ _ _ _ _ h=>h)
    case hF=>intro x;simp only[over,List.foldl_cons,List.foldl_nil,List.setIfInBounds_toArray,List.set_cons_succ,List.set_cons_zero];exact rfl
    case hops =>
     refine ⟨?o0,?o1,?o2,?o3,?o4,?o5,trivial⟩
     case o0 =>
      intro x w1 hH K hK
      obtain ⟨xs,d,rfl⟩:=aA hH.below
      clear hH
      try simp only[World.aB] at hK |-
      try simp only[World.grow_grow] at hK |-
      exact zw
     case o1 =>
      intro x w1 hH K hK
      have e13:x 13=_:=hH.g 0 13
      obtain ⟨xs,d,rfl⟩:=aA hH.below
      clear hH
      try simp only[World.aB] at hK |-
      try simp only[World.grow_grow] at hK |-
      simp only[e13] at hK |-
      clear e13
      go_simp
      go_wp2_with (refine Gives.use (HB.out _) ?_;intro ys e)
      exact zu
     case o2 =>
      intro x w1 hH K hK
      obtain ⟨xs,d,rfl⟩:=aA hH.below
      clear hH
      try simp only[World.aB] at hK |-
      try simp only[World.grow_grow] at hK |-
      exact zw
     case o3 =>
      intro x w1 hH K hK
      have e15:x 15=_:=hH.g 2 15
      obtain ⟨xs,d,rfl⟩:=aA hH.below
      clear hH
      try simp only[World.aB] at hK |-
      try simp only[World.grow_grow] at hK |-
      simp only[e15] at hK |-
      clear e15
      exact zw
     case o4 =>
      intro x w1 hH K hK
      have e16:x 16=_:=hH.g 3 16
      obtain ⟨xs,d,rfl⟩:=aA hH.below
      clear hH
      try simp only[World.aB] at hK |-
      try simp only[World.grow_grow] at hK |-
      simp only[e16] at hK |-
      clear e16
      exact zw
     case o5 =>
      intro x w1 hH K hK
      have e14:x 14=_:=hH.g 1 14
      have e17:x 17=_:=hH.g 4 17
      obtain ⟨xs,d,rfl⟩:=aA hH.below
      clear hH
      try simp only[World.aB] at hK |-
      try simp only[World.grow_grow] at hK |-
      simp only[e14,e17] at hK |-
      clear e14 e17
      exact zw
    intro x w1 hH
    have e13:x 13=_:=hH.t 0 13
    have e14:x 14=_:=hH.t 1 14
    have e15:x 15=_:=hH.t 2 15
    have e16:x 16=_:=hH.t 3 16
    have e17:x 17=_:=hH.t 4 17
    have e18:x 18=_:=hH.t 5 18
    obtain ⟨xs,d,rfl⟩:=aA hH.below
    clear hH
    simp only[e13,e14,e15,e16,e17,e18];clear e13 e14 e15 e16 e17 e18
    simp only[List.drop_succ_cons,List.drop_zero]
    go_wp2_with fail
    refine Gives.use (HW.out _) ?_
    intro xs1 d1
    go_wp2_with fail
    all_goals go_ret
    all_goals refine ⟨dQ ?_,blw⟩
    all_goals rw[HQ.out]
    all_goals clear HB HW HQ hd k1 k6
    all_goals simp only[bD] at *
    all_goals first
     | (rw[if_pos (by omega)];done)
     | (rw[if_neg (by omega)];simp_all;done)
   have he:mW r=5:=by unfold mW;rw[if_pos hk,if_pos hb,if_neg hw]
   rw[he]
   rw[Bool.not_eq_true] at hw
   rw[hw] at HW
   clear hk hb hw he
   unfold Gives
   go_enter Tryz.func133,Tryz.ntmps133
   go_wp2_with fail
   apply aG (by rfl) [.val _,.val _,.val _,.val _,.val _,.val _] 6 (by rfl) [13,14,15,16,17,18] [] [] (by rfl) (by rfl) (by decide) (by decide +kernel) (fun _ _ _ _ _ h=>h)
   case hF=>intro x;simp only[over,List.foldl_cons,List.foldl_nil,List.setIfInBounds_toArray,List.set_cons_succ,List.set_cons_zero];exact rfl
   case hops =>
    refine ⟨?o0,?o1,?o2,?o3,?o4,?o5,trivial⟩
    case o0 =>
     intro x w1 hH K hK
     obtain ⟨xs,d,rfl⟩:=aA hH.below
     clear hH
     try simp only[World.aB] at hK |-
     try simp only[World.grow_grow] at hK |-
     exact zw
    case o1 =>
     intro x w1 hH K hK
     have e13:x 13=_:=hH.g 0 13
     obtain ⟨xs,d,rfl⟩:=aA hH.below
     clear hH
     try simp only[World.aB] at hK |-
     try simp only[World.grow_grow] at hK |-
     simp only[e13] at hK |-
     clear e13
     go_simp
     go_wp2_with (refine Gives.use (HB.out _) ?_;intro ys e)
     exact zu
    case o2 =>
     intro x w1 hH K hK
     obtain ⟨xs,d,rfl⟩:=aA hH.below
     clear hH
     try simp only[World.aB] at hK |-
     try simp only[World.grow_grow] at hK |-
     exact zw
    case o3 =>
     intro x w1 hH K hK
     have e15:x 15=_:=hH.g 2 15
     obtain ⟨xs,d,rfl⟩:=aA hH.below
     clear hH
     try simp only[World.aB] at hK |-
     try simp only[World.grow_grow] at hK |-
     simp only[e15] at hK |-
     clear e15
     exact zw
    case o4 =>
     intro x w1 hH K hK
     have e16:x 16=_:=hH.g 3 16
     obtain ⟨xs,d,rfl⟩:=aA hH.below
     clear hH
     try simp only[World.aB] at hK |-
     try simp only[World.grow_grow] at hK |-
     simp only[e16] at hK |-
     clear e16
     exact zw
    case o5 =>
     intro x w1 hH K hK
     have e14:x 14=_:=hH.g 1 14
     have e17:x 17=_:=hH.g 4 17
     obtain ⟨xs,d,rfl⟩:=aA hH.below
     clear hH
     try simp only[World.aB] at hK |-
     try simp only[World.grow_grow] at hK |-
     simp only[e14,e17] at hK |-
     clear e14 e17
     exact zw
   intro x w1 hH
   have e13:x 13=_:=hH.t 0 13
   have e14:x 14=_:=hH.t 1 14
   have e15:x 15=_:=hH.t 2 15
   have e16:x 16=_:=hH.t 3 16
   have e17:x 17=_:=hH.t 4 17
   have e18:x 18=_:=hH.t 5 18
   obtain ⟨xs,d,rfl⟩:=aA hH.below
   clear hH
   simp only[e13,e14,e15,e16,e17,e18];clear e13 e14 e15 e16 e17 e18
   simp only[List.drop_succ_cons,List.drop_zero]
   go_wp2_with fail
   refine Gives.use (HW.out _) ?_
   intro xs1 d1
   go_wp2_with fail
   go_ret
   exact ⟨rfl,blw⟩
  have hd:decide (eG r=jY r.kind)=false:=decide_eq_false hb
  have he:mW r=3:=by unfold mW;rw[if_pos hk,if_neg hb]
  rw[he]
  clear hk hb he HW
  unfold Gives
  go_enter Tryz.func133,Tryz.ntmps133
  go_wp2_with fail
  apply aG (by rfl) [.val _,.val _,.val _,.val _,.val _,.val _] 6 (by rfl) [13,14,15,16,17,18] [] [] (by rfl) (by rfl) (by decide) (by decide +kernel) (fun _ _ _ _ _ h=>h)
  case hF=>intro x;simp only[over,List.foldl_cons,List.foldl_nil,List.setIfInBounds_toArray,List.set_cons_succ,List.set_cons_zero];exact rfl
  case hops =>
   refine ⟨?o0,?o1,?o2,?o3,?o4,?o5,trivial⟩
   case o0 =>
    intro x w1 hH K hK
    obtain ⟨xs,d,rfl⟩:=aA hH.below
    clear hH
    try simp only[World.aB] at hK |-
    try simp only[World.grow_grow] at hK |-
    exact zw
   case o1 =>
    intro x w1 hH K hK
    have e13:x 13=_:=hH.g 0 13
    obtain ⟨xs,d,rfl⟩:=aA hH.below
    clear hH
    try simp only[World.aB] at hK |-
    try simp only[World.grow_grow] at hK |-
    simp only[e13] at hK |-
    clear e13
    go_simp
    go_wp2_with (refine Gives.use (HB.out _) ?_;intro ys e)
    exact zu
   case o2 =>
    intro x w1 hH K hK
    obtain ⟨xs,d,rfl⟩:=aA hH.below
    clear hH
    try simp only[World.aB] at hK |-
    try simp only[World.grow_grow] at hK |-
    exact zw
   case o3 =>
    intro x w1 hH K hK
    have e15:x 15=_:=hH.g 2 15
    obtain ⟨xs,d,rfl⟩:=aA hH.below
    clear hH
    try simp only[World.aB] at hK |-
    try simp only[World.grow_grow] at hK |-
    simp only[e15] at hK |-
    clear e15
    exact zw
   case o4 =>
    intro x w1 hH K hK
    have e16:x 16=_:=hH.g 3 16
    obtain ⟨xs,d,rfl⟩:=aA hH.below
    clear hH
    try simp only[World.aB] at hK |-
    try simp only[World.grow_grow] at hK |-
    simp only[e16] at hK |-
    clear e16
    exact zw
   case o5 =>
    intro x w1 hH K hK
    have e14:x 14=_:=hH.g 1 14
    have e17:x 17=_:=hH.g 4 17
    obtain ⟨xs,d,rfl⟩:=aA hH.below
    clear hH
    try simp only[World.aB] at hK |-
    try simp only[World.grow_grow] at hK |-
    simp only[e14,e17] at hK |-
    clear e14 e17
    exact zw
  intro x w1 hH
  have e13:x 13=_:=hH.t 0 13
  have e14:x 14=_:=hH.t 1 14
  have e15:x 15=_:=hH.t 2 15
  have e16:x 16=_:=hH.t 3 16
  have e17:x 17=_:=hH.t 4 17
  have e18:x 18=_:=hH.t 5 18
  obtain ⟨xs,d,rfl⟩:=aA hH.below
  clear hH
  simp only[e13,e14,e15,e16,e17,e18];clear e13 e14 e15 e16 e17 e18
  simp only[List.drop_succ_cons,List.drop_zero]
  go_wp2_with fail
  go_ret
  exact ⟨rfl,blw⟩
 have he:mW r=16:=by unfold mW;rw[if_neg hk]
 have hg:(decide ((r.kind.toNat:Int)<1) || decide (6<(r.kind.toNat:Int)))=true:=by simp;omega
 rw[he]
 clear hk he
 unfold Gives
 go_enter Tryz.func133,Tryz.ntmps133
 go_wp2_with fail
 all_goals go_ret
 all_goals exact ⟨rfl,blw⟩
end Go.Proofs.YtcedmfnlkelhkaaGreatDoor
