/- Layer 19's laws: what a view is asked of, as an argument: rows of writes, names, tags. -/
import Derived.Test.YtcedmfnlkelhkaaGreatDoorJcm
import Derived.Test.YtcedmfnlkelhkaaGreatDoorJcj
import Derived.Test.YtcedmfnlkelhkaaGreatDoorJcr
import Derived.BigRegion
import Derived.Deep.CutBlock
import Derived.Deep.Cut
import Derived.Handy
namespace Go.Proofs.YtcedmfnlkelhkaaGreatDoor
set_option maxRecDepth 100000
open Go.RowKit Go.ChangeShapes Go.WideShapes

abbrev N12 := { l:List UInt8 // l.length=12 }
abbrev T10 := { l:List UInt8 // l.length=10 }
def aK2 (x:N12):Array Value:=aJ x.val
def rowT (x:T10):Array Value:=aJ x.val
@[simp] theorem aM1 (x:N12):(aK2 x).size=12:=by simp[aK2,x.2]
@[simp] theorem aM5 (x:T10):(rowT x).size=10:=by simp[rowT,x.2]
def aAs (w:World) (v:Value) (xs:List (Array Value)) (ls:List (List Wr)):Prop :=
 SlA w w.heap.size 1 v xs/\xs.length=ls.length /\ ∀ i,∀ (h:i<xs.length) (h2:i<ls.length),∃ lv,xs[i] = #[lv]/\SlA w w.heap.size 35 lv (ls[i].map iJ)
theorem aAs.below {w w':World} {v:Value} {xs:List (Array Value)} {ls:List (List Wr)} (h:aAs w v xs ls) (hb:Below w.heap.size w w'):aAs w' v xs ls :=
 ⟨(h.1.below hb).more hb.size,h.2.1,fun i h1 h2=>by
  obtain ⟨lv,e,hs⟩:=h.2.2 i h1 h2
  exact ⟨lv,e,(hs.below hb).more hb.size⟩⟩
theorem aK4 {w:World} {cs:List Value} (h:Tr Tryz.prog w 22 cs):∃ (v:Value) (xs:List (Array Value)) (ls:List (List Wr)),cs = [v]/\aAs w v xs ls:=by
 obtain ⟨v,xs,rfl,h1,h2⟩:=h.rows Tryz.underlying22 (sz:=1) (by kernel_rfl) (by decide)
 have key:∀ ys:List (Array Value),(∀ x∈ys,Tr Tryz.prog w 23 x.toList) -> ∃ ls:List (List Wr),ys.length=ls.length /\ ∀ i,∀ (h:i<ys.length) (h2:i<ls.length),∃ lv,ys[i] = #[lv]/\SlA w w.heap.size 35 lv (ls[i].map iJ):=by
  intro ys
  induction ys with
  | nil=>intro _;exact ⟨[],rfl,fun i h=>by simp at h⟩
  | cons y ys ih =>
   intro hy
   obtain ⟨ls,hl,hls⟩:=ih (fun x hx=>hy x (List.mem_cons_of_mem _ hx))
   obtain ⟨lv,l,e,hs⟩:=aD1 (hy y List.mem_cons_self)
   refine ⟨l :: ls,by simp[hl],fun i h h2 => ?_⟩
   cases i with
   | zero=>exact ⟨lv,Array.ext' e,hs⟩
   | succ i=>exact hls i (by simpa using h) (by simpa using h2)
 obtain ⟨ls,hl,hls⟩:=key xs h2
 exact ⟨v,xs,ls,rfl,h1,hl,hls⟩
theorem aIe {w:World} {cs:List Value} (h:Tr Tryz.prog w 25 cs):∃ (v:Value) (l:List N12),cs = [v]/\SlA w w.heap.size 12 v (l.map aK2):=by
 obtain ⟨v,xs,rfl,h1,h2⟩:=h.rows Tryz.underlying25 (sz:=12) (by kernel_rfl) (by decide)
 obtain ⟨l,rfl⟩:=models (f:=aK2) (p:=fun x=>Tr Tryz.prog w 56 x.toList) (fun x hx=>by
  obtain ⟨l,hl,hk⟩:=aU.bytes (hx.flat 5 (ks:=List.replicate 12 (CK.i .u8)) (by kernel_rfl))
  exact ⟨⟨l,hl⟩,Array.ext' hk⟩) xs h2
 exact ⟨v,l,rfl,h1⟩
theorem aKg {w:World} {cs:List Value} (h:Tr Tryz.prog w 26 cs):∃ (v:Value) (l:List T10),cs = [v]/\SlA w w.heap.size 10 v (l.map rowT):=by
 obtain ⟨v,xs,rfl,h1,h2⟩:=h.rows Tryz.underlying26 (sz:=10) (by kernel_rfl) (by decide)
 obtain ⟨l,rfl⟩:=models (f:=rowT) (p:=fun x=>Tr Tryz.prog w 60 x.toList) (fun x hx=>by
  obtain ⟨l,hl,hk⟩:=aU.bytes (hx.flat 6 (ks:=List.replicate 10 (CK.i .u8)) (by kernel_rfl))
  exact ⟨⟨l,hl⟩,Array.ext' hk⟩) xs h2
 exact ⟨v,l,rfl,h1⟩
structure aCO where
 rows:Value
 own:Value
 project:Int
 branch:Int
 snaps:Bool
 at_:UInt64
 names:Value
 tags:Value
 most:Int
def aCO.arr (x:aCO):Array Value := #[x.rows,x.own,.int .i64 x.project,.int .i64 x.branch,.bool x.snaps,.int .u64 x.at_.toNat,x.names,x.tags,.int .i64 x.most]
structure aAt (w:World) (x:aCO) (xs:List (Array Value)) (ls:List (List Wr)) (ow:List Wr) (ns:List N12) (ts:List T10):Prop where
 rows:aAs w x.rows xs ls
 own:SlA w w.heap.size 35 x.own (ow.map iJ)
 names:SlA w w.heap.size 12 x.names (ns.map aK2)
 tags:SlA w w.heap.size 10 x.tags (ts.map rowT)
 proj:(Lit.int .i64 x.project).wf=true
 bra:(Lit.int .i64 x.branch).wf=true
 most:(Lit.int .i64 x.most).wf=true
theorem aAt.below {w w':World} {x:aCO} {xs:List (Array Value)} {ls:List (List Wr)} {ow:List Wr} {ns:List N12} {ts:List T10} (h:aAt w x xs ls ow ns ts) (hb:Below w.heap.size w w'):aAt w' x xs ls ow ns ts :=
 ⟨h.rows.below hb,(h.own.below hb).more hb.size,(h.names.below hb).more hb.size,(h.tags.below hb).more hb.size,h.proj,h.bra,h.most⟩
theorem aH6 {w:World} {v:Value} (h:Reads Tryz.prog w 28 v):∃ x xs ls ow ns ts,v = .agg x.arr/\aAt w x xs ls ow ns ts:=by
 have ht:=h.tr
 obtain ⟨cs,rfl⟩:=h.agg Tryz.underlying28
 have hsz:cs.size=9:=by
  obtain ⟨H,enc,fuel,y,hd⟩:=ht
  obtain ⟨xs,n,_,_,hl,_,_⟩:=DataW.trod_struct Tryz.underlying28 hd
  have e:Tryz.prog.cellsOf 28=9:=by kernel_rfl
  rw[e] at hl
  simpa [Value.cells] using hl
 have hc:(Value.agg cs).cells.toList=cs.toList:=by simp[Value.cells]
 rw[hc] at ht
 obtain ⟨v0,xs,ls,e0,h0⟩:=aK4 (ht.field Tryz.underlying28 (i:=0) rfl)
 obtain ⟨v1,ow,e1,h1⟩:=aD1 (ht.field Tryz.underlying28 (i:=1) rfl)
 obtain ⟨p,e2,hp⟩:=aU.int ((ht.field Tryz.underlying28 (i:=2) rfl).flat 3 (ks := [CK.i .i64]) (by kernel_rfl))
 obtain ⟨b,e3,hb⟩:=aU.int ((ht.field Tryz.underlying28 (i:=3) rfl).flat 3 (ks := [CK.i .i64]) (by kernel_rfl))
 obtain ⟨sn,e4⟩:=aU.bool ((ht.field Tryz.underlying28 (i:=4) rfl).flat 3 (ks := [CK.b]) (by kernel_rfl))
 obtain ⟨at_,e5⟩:=aU.u64 ((ht.field Tryz.underlying28 (i:=5) rfl).flat 3 (ks := [CK.i .u64]) (by kernel_rfl))
 obtain ⟨v6,ns,e6,h6⟩:=aIe (ht.field Tryz.underlying28 (i:=6) rfl)
 obtain ⟨v7,ts,e7,h7⟩:=aKg (ht.field Tryz.underlying28 (i:=7) rfl)
 obtain ⟨m,e8,hm⟩:=aU.int ((ht.field Tryz.underlying28 (i:=8) rfl).flat 3 (ks := [CK.i .i64]) (by kernel_rfl))
 refine ⟨⟨v0,v1,p,b,sn,at_,v6,v7,m⟩,xs,ls,ow,ns,ts,?_,⟨h0,h1,h6,h7,hp,hb,hm⟩⟩
 congr 1
 apply Array.ext'
 obtain ⟨l⟩:=cs
 simp only[List.size_toArray] at hsz
 match l,hsz with
 | [a0,a1,a2,a3,a4,a5,a6,a7,a8],_ =>
  have q0 : [a0] = [v0]:=e0
  have q1 : [a1] = [v1]:=e1
  have q2 : [a2] = [_]:=e2
  have q3 : [a3] = [_]:=e3
  have q4 : [a4] = [_]:=e4
  have q5 : [a5] = [_]:=e5
  have q6 : [a6] = [v6]:=e6
  have q7 : [a7] = [v7]:=e7
  have q8 : [a8] = [_]:=e8
  simp only[List.cons.injEq,and_true] at q0 q1 q2 q3 q4 q5 q6 q7 q8
  subst q0 q1 q2 q3 q4 q5 q6 q7 q8
  rfl
end Go.Proofs.YtcedmfnlkelhkaaGreatDoor
namespace Go.Proofs.YtcedmfnlkelhkaaGreatDoor
set_option maxRecDepth 100000
open Go.RowKit

def aIp:Array Value:=(Value.int .u64 0 :: (List.replicate 64 (Value.int .u64 0) ++ [.map none])).toArray
@[simp] theorem aLA:aIp.size=66:=by simp[aIp]
theorem aHw:Tryz.zeroCells222=aIp:=by kernel_rfl
def aIt:List Value:=List.replicate 64 (.bool false)++(List.replicate 64 (.int .u64 0) ++ [.slice none 0 0])
def dU (v:Value) (lt:UInt64):Array Value:=(v :: .int .u64 (lt.toNat:Int) :: aIt).toArray
@[go_sem,simp] theorem aBW (v:Value) (lt:UInt64):(dU v lt).size=131:=by simp[dU,aIt]
@[go_sem] theorem aMY (v:Value) (lt:UInt64):(dU v lt).extract 0 131=dU v lt:=by apply Array.extract_eq_self_of_le;simp
@[go_sem] theorem yX:Tryz.prog.bJ 46=some 131:=by kernel_rfl
@[go_sem ↓ high] theorem aNe (a:Addr):loadVar 46 a=eX 46 a:=rfl
@[go_sem ↓ high] theorem aNv (a:Addr) (v:Value):storeVar 46 a v=bH 46 a v:=rfl
theorem mF (a:Option Addr) (n c:Nat) (lt:UInt64):bZ (dU (.slice a n c) lt)=true:=by
 unfold dU
 exact dH (by
  intro x hx
  rcases List.mem_cons.1 hx with rfl | hx
  ·rfl
  rcases List.mem_cons.1 hx with rfl | hx
  ·rfl
  unfold aIt at hx
  rcases List.mem_append.1 hx with hx | hx
  ·rw[List.eq_of_mem_replicate hx];rfl
  rcases List.mem_append.1 hx with hx | hx
  ·rw[List.eq_of_mem_replicate hx];rfl
  simp at hx;subst hx;rfl)
theorem vK:Tryz.zeroCells46=dU (.slice none 0 0) 0:=by kernel_rfl
structure sF (w:World) (rb s pb ib:Nat):Prop where
 room:w.heap[rb]? = some (.cells #[.pointer (some ⟨s,0,none⟩),.pointer (some ⟨pb,0,none⟩),.pointer (some ⟨ib,0,none⟩)] 93)
 pins:w.heap[pb]? = some (.cells aIp 222)
 tab:w.heap[ib]? = some (.cells #[.map none] 225)
theorem sF.keep {w w':World} {rb s pb ib:Nat} (h:sF w rb s pb ib) (h1:w'.heap[rb]? = w.heap[rb]?) (h2:w'.heap[pb]? = w.heap[pb]?) (h3:w'.heap[ib]? = w.heap[ib]?):sF w' rb s pb ib :=
 ⟨h1.trans h.room,h2.trans h.pins,h3.trans h.tab⟩
theorem sF.lt {w:World} {rb s pb ib:Nat} (h:sF w rb s pb ib):rb<w.heap.size/\pb<w.heap.size/\ib<w.heap.size :=
 ⟨(Array.getElem?_eq_some_iff.1 h.room).1,(Array.getElem?_eq_some_iff.1 h.pins).1,(Array.getElem?_eq_some_iff.1 h.tab).1⟩
theorem aBh (w:World):Calls Tryz.prog 49 #[] w fun e w' => ∃ s rb pb ib G,e = .returned (.pointer (some ⟨rb,0,none⟩))/\Below w.heap.size w w'/\aV w' w.heap.size s G/\aQ G=f0/\G.live=0/\G.last=0/\sF w' rb s pb ib/\rb∉G.blocks s/\pb∉G.blocks s/\ib∉G.blocks s/\dW G.R = []:=by
 have HN:=Lib.hid (sN w)
 go_enter Tryz.func49,Tryz.ntmps49
 go_wp2_with fail
 refine HN.out.mono ?_
 rintro e w1 ⟨rfl,hb1,hS1⟩
 have H1:=Lib.hid (And.intro hb1 hS1)
 clear hb1 hS1 HN
 go_wp2_with fail
 go_ret
 rw[aHw]
 have hS:=H1.out.2
 have hz:w.heap.size<=w1.heap.size:=H1.out.1.size
 have nb:∀ b,w1.heap.size<=b->b∉(uJ w.heap.size).blocks (w.heap.size+1):=fun b hb hm=>by have:=hS.lt b hm;omega
 refine ⟨_,_,w1.heap.size,w1.heap.size+1,uJ w.heap.size,rfl,?_,hS.keep blw,rfl,rfl,rfl,⟨?_,?_,?_⟩,nb _ (by first | omega | (simp;omega) | simp),nb _ (by first | omega | simp),nb _ (by first | omega | simp),rfl⟩
 ·exact ((H1.out.1.alloc hz _).alloc (by simp;omega) _).alloc (by simp;omega) _
 ·exact (aC _ _ _).trans (if_pos (by simp))
 ·exact (aC _ _ _).trans ((if_neg (by simp;omega)).trans ((aC _ _ _).trans ((if_neg (by simp)).trans ((aC _ _ _).trans (if_pos rfl)))))
 exact (aC _ _ _).trans ((if_neg (by simp)).trans ((aC _ _ _).trans (if_pos (by simp))))
structure aFI (B s rb pb ib n:Nat) (G:SG) (v:Value) (R:RD) (w:World):Prop where
 store:aV w B s G
 fine:Fine n G
 room:sF w rb s pb ib
 outs:rb∉G.blocks s/\pb∉G.blocks s/\ib∉G.blocks s
 doc:eP w w.heap.size v R
 ds:DS R (aQ G) G.live
 len:R.length<=20 * n
 off:Off (G.blocks s) v /\ ∀ p∈R,Off (G.blocks s) p.2.1
 good:rY (aQ G)
 lvs:(dW G.R).length<=16 * n
section
variable {w w':World} {B s rb pb ib n:Nat} {G G':SG} {v:Value} {R:RD}
theorem eP.evo (h:eP w w.heap.size v R) (ho:Off (G.blocks s) v /\ ∀ p∈R,Off (G.blocks s) p.2.1) (he:Evo s w G w' G'):eP w' w'.heap.size v R/\Off (G'.blocks s) v /\ ∀ p∈R,Off (G'.blocks s) p.2.1:=by
 have h1:=h.sl.evo (s:=s) ho.1 he
 have h2:=fun p hp=>(h.vs p hp).evo (s:=s) (ho.2 p hp) he
 exact ⟨⟨h1.1,fun p hp=>(h2 p hp).1⟩,h1.2,fun p hp=>(h2 p hp).2⟩
theorem sF.evo (h:sF w rb s pb ib) (ho:rb∉G.blocks s/\pb∉G.blocks s/\ib∉G.blocks s) (he:Evo s w G w' G'):sF w' rb s pb ib/\rb∉G'.blocks s/\pb∉G'.blocks s/\ib∉G'.blocks s:=by
 have hl:=h.lt
 have key:∀ b,b<w.heap.size->b∉G.blocks s->w'.heap[b]? = w.heap[b]? /\ b∉G'.blocks s:=fun b hb hn=>⟨he.1.same b hb hn,fun hm=>by
  rcases he.2 b hm with h | h
  ·exact hn h
  omega⟩
 exact ⟨h.keep (key _ hl.1 ho.1).1 (key _ hl.2.1 ho.2.1).1 (key _ hl.2.2 ho.2.2).1,(key _ hl.1 ho.1).2,(key _ hl.2.1 ho.2.1).2,(key _ hl.2.2 ho.2.2).2⟩
theorem aFI.up (h:aFI B s rb pb ib n G v R w) (hb:Below w.heap.size w w'):aFI B s rb pb ib n G v R w':=by
 have hl:=h.room.lt
 exact ⟨h.store.keep hb,h.fine,h.room.keep (hb.block _ hl.1) (hb.block _ hl.2.1) (hb.block _ hl.2.2),h.outs,h.doc.up hb,h.ds,h.len,h.off,h.good,h.lvs⟩
end
structure aMz (W0:World) (B s rb pb ib zb mb n:Nat) (G:SG) (v:Value) (R:RD) (w:World):Prop where
 low:Below W0.heap.size W0 w
 lay:aFI B s rb pb ib n G v R w
 box:w.heap[mb]? = some (.cells (dU v G.last) 46)
 out:mb∉G.blocks s
 offm:Off [zb,mb] v /\ ∀ p∈R,Off [zb,mb] p.2.1
theorem SlA.aMF {w w':World} {sz:Nat} {v:Value} {xs:List (Array Value)} {S:List Nat} (h:SlA w w.heap.size sz v xs) (ho:Off S v) (hk:∀ b,b∉S->b<w.heap.size->w'.heap[b]? = w.heap[b]?) (hs:w.heap.size<=w'.heap.size):SlA w' w'.heap.size sz v xs:=by
 obtain ⟨h0,a,cap,e,h2,h3,h4⟩:=h
 refine ⟨h0,a,cap,e,h2,h3,fun hn => ?_⟩
 obtain ⟨b,o,e2,hlt,hcut⟩:=h4 hn
 subst e2
 exact ⟨b,o,rfl,by omega,fun i x hx=>(aK (hk b (ho b o _ _ e hn) hlt) _ _).trans (hcut i x hx)⟩
theorem eP.aMF {w w':World} {v:Value} {R:RD} {S:List Nat} (h:eP w w.heap.size v R) (ho:Off S v /\ ∀ p∈R,Off S p.2.1) (hk:∀ b,b∉S->b<w.heap.size->w'.heap[b]? = w.heap[b]?) (hs:w.heap.size<=w'.heap.size):eP w' w'.heap.size v R :=
 ⟨h.sl.aMF ho.1 hk hs,fun p hp=>(h.vs p hp).aMF (ho.2 p hp) hk hs⟩
theorem wG {w:World} {b c:Nat} {x y:Array Value} {t u:TypeId} (h1:w.heap[b]? = some (.cells x t)) (h2:w.heap[c]? = some (.cells y u)) (hne:x.size≠y.size):b≠c:=by
 rintro rfl
 rw[h1] at h2
 simp only[Option.some.injEq,Obj.cells.injEq] at h2
 exact hne (by rw[h2.1])
theorem yM (v:Value) (lt:UInt64):(dU v lt)[0]? = some v/\(dU v lt)[1]? = some (.int .u64 (lt.toNat:Int)):=⟨rfl,rfl⟩
theorem aDC (v v':Value) (lt lt':UInt64):((dU v lt).setIfInBounds 0 v').setIfInBounds 1 (.int .u64 (lt'.toNat:Int))=dU v' lt':=by
 unfold dU
 simp
set_option maxHeartbeats 40000000 in
theorem aGy (v0:Value) (xs:List (Array Value)) (ls:List (List Wr)) (w:World) (h:aAs w v0 xs ls) :
  Calls Tryz.prog 18 #[v0] w fun e w'=>Below w.heap.size w w' /\ ∃ B s rb pb ib n G v R,e = .returned (.tuple #[.pointer (some ⟨rb,0,none⟩),.agg (dU v G.last),.bool true])/\w.heap.size<=B/\n<=20/\aFI B s rb pb ib n G v R w':=by
 obtain ⟨a0,cap0,rfl,hcl0,hcm0⟩:=h.1.form
 have HXS:=Lib.hid h
 clear h
 go_enter Tryz.func18,Tryz.ntmps18
 go_upto_region 1 with fail
 refine aP ?_
 intro W0 hW0
 have hb0:Below w.heap.size w W0:=by rw[hW0];exact (Below.refl _ w).alloc (Nat.le_refl _) _
 have hz0:W0.heap.size=w.heap.size+1:=by rw[hW0];simp
 have hc0:W0.heap[w.heap.size]? = some (.cells (dU (.slice none 0 0) 0) 46):=by rw[hW0,<-vK];exact (aC _ _ _).trans (if_pos rfl)
 obtain ⟨zb,hzb⟩:∃ zb,zb=w.heap.size:=⟨_,rfl⟩
 simp only[<-hzb]
 have H0:=Lib.hid (And.intro hb0 (And.intro hz0 (And.intro hc0 hzb)))
 clear hW0 hb0 hz0 hc0 hzb
 go_wp2_with fail
 refine (aBh W0).mono ?_
 rintro e w1 ⟨s,rb,pb,ib,G0,rfl,hb1,hS1,hf0,hl0,ht0,hR1,ho1⟩
 have hrb1:rb<w1.heap.size:=hR1.lt.1
 have H1:=Lib.hid (And.intro hb1 (And.intro hS1 (And.intro hf0 (And.intro hl0 (And.intro ht0 (And.intro hR1 ho1))))))
 clear hb1 hS1 hf0 hl0 ht0 hR1 ho1
 go_upto_block 0 with fail
 refine aP ?_
 intro W1 hW1
 obtain ⟨mb,hmb⟩:∃ mb,mb=w1.heap.size:=⟨_,rfl⟩
 have hb2:Below w1.heap.size w1 W1:=by rw[hW1];exact (Below.refl _ w1).alloc (Nat.le_refl _) _
 have hm1:W1.heap[mb]? = some (.cells (dU (.slice none 0 0) 0) 46):=by rw[hW1,hmb,<-vK];exact (aC _ _ _).trans (if_pos rfl)
 simp only[<-hmb]
 have HI:=Lib.hid (show aMz W0 W0.heap.size s rb pb ib zb mb 0 G0 (.slice none 0 0) [] W1 by
  obtain ⟨hb1,hS1,hf0,hl0,ht0,hR1,ho1⟩:=H1.out
  have hz:=hb1.size
  refine ⟨hb1.trans (hb2.mono hz),⟨hS1.keep hb2,⟨⟨fun k => ?_,fun k => ?_⟩,?_,?_,?_⟩,hR1.keep (hb2.block _ hR1.lt.1) (hb2.block _ hR1.lt.2.1) (hb2.block _ hR1.lt.2.2),⟨ho1.1,ho1.2.1,ho1.2.2.1⟩,eP.nil _ _,?_,Nat.le_refl _,⟨?_,fun p hp=>by simp at hp⟩,by rw[hf0];exact rY.nil,by rw[ho1.2.2.2];exact Nat.zero_le _⟩,?_,fun hm => ?_,?_⟩
  ·rw[hf0];exact Nat.le_refl _
  ·rw[hf0];exact Nat.zero_le _
  ·rw[ht0];exact Nat.le_refl _
  ·rw[hl0];exact Int.le_refl _
  ·rw[hl0];exact Int.le_refl _
  ·rw[hf0,hl0];exact DS.nil
  ·intro b o n c e;cases e
  ·rw[ht0];exact hm1
  ·have:=hS1.lt mb hm;omega
  exact ⟨fun b o n c e=>(by cases e),fun p hp=>by simp at hp⟩)
 have HMB:=Lib.hid (show W0.heap.size<=mb by rw[hmb];exact H1.out.1.size)
 have HNE:=Lib.hid (show rb≠mb/\pb≠mb/\ib≠mb by
  have h:=H1.out.2.2.2.2.2.1.lt
  omega)
 clear hW1 hb2 hm1 hmb H1 hrb1
 go_cut [7] (fun _ wx=>Hid (∃ n G v R,n<=20/\aMz W0 W0.heap.size s rb pb ib zb mb n G v R wx))
 case first =>
  go_wp2_with fail
  go_loopw [7] (fun s7 wr => ∃ i:Nat,i<=xs.length/\i<=20/\s7 = .int .i64 i/\Hid (∃ G v R,aMz W0 W0.heap.size s rb pb ib zb mb i G v R wr)) (fun s7 _=>20 - (intOf s7).toNat)
  case atStart=>exact ⟨0,Nat.zero_le _,Nat.zero_le _,rfl,Lib.hid ⟨_,_,_,HI.out⟩⟩
  clear HI
  obtain ⟨i,hi,hi20,rfl,HR⟩:=hrel
  by_cases hli:i<xs.length
  ·have hliI:(i:Int)<xs.length:=by omega
   by_cases h20:i<20
   ·have h20I:(i:Int)<20:=by omega
    obtain ⟨G,v,R,hLB⟩:=HR.out
    have HL:=Lib.hid hLB
    have hbw:Below w.heap.size w wr:=H0.out.1.trans (hLB.low.mono (by have:=H0.out.2.1;omega))
    have hxr:=HXS.out.below hbw
    obtain ⟨_,a3,cap3,he,_,_,hc⟩:=hxr.1
    simp only[Value.slice.injEq,true_and] at he
    obtain ⟨rfl,rfl⟩:=he
    obtain ⟨g,q,rfl,hlb,hcut⟩:=hc (by omega)
    have hcutk:=hcut i xs[i] (by simp[hli])
    obtain ⟨lv,hlv,hsl⟩:=hxr.2.2 i hli (by have:=hxr.2.1;omega)
    have hgr:g<wr.heap.size:=hlb
    have hcell:wr.cell? ⟨g,q+i,none⟩=some lv:=by
     have:=(dF hcutk).2 0 (by decide)
     rw[hlv] at this
     simpa using this
    generalize ls[i]'(by have:=hxr.2.1;omega)=l at *
    have HCUT:=Lib.hid (aGf l lv wr hsl)
    clear hcut hc hcutk hlv hsl hbw hxr hLB HR
    go_wp2_with fail
    refine HCUT.out.mono ?_
    rintro e W2 ⟨lv2,rfl,hb2,ho2⟩
    obtain ⟨a9,c9,rfl,hm9,hc9⟩:=ho2.form
    obtain ⟨L,hL⟩:∃ L,L=aFQ l:=⟨_,rfl⟩
    have hL20:L.length<=20:=by rw[hL];unfold aFQ;simp;omega
    rw[<-hL] at ho2 hc9 |-
    simp only[List.length_map] at ho2 hc9 |-
    have HO2:=Lib.hid ho2
    have HB2:=Lib.hid hb2
    clear hb2 ho2 HCUT hcell hL
    go_upto_block 2 with fail
    go_cut [9] (fun s9 wx=>Hid (Below W2.heap.size W2 wx/\gU wx W2.heap.size 35 161 s9 (L.map kC)))
    case first =>
     unfold maxLen at hm9
     have HV:=Lib.hid HO2.out.sl
     clear HL HB2 HO2 H0 HXS
     go_wp2_with fail
     go_loopw [9,10] (fun s9 s10 wr => ∃ j:Nat,j<=L.length/\s10 = .int .i64 j/\Hid (Below W2.heap.size W2 wr)/\Hid (gU wr W2.heap.size 35 161 s9 ((L.take j).map kC))) (fun _ s10 _=>L.length - (intOf s10).toNat)
     case atStart=>exact ⟨0,Nat.zero_le _,rfl,Lib.hid (Below.refl _ _),Lib.hid (gU.nil _ _ _ _)⟩
     obtain ⟨j,hj,rfl,HB,HO⟩:=hrel
     by_cases hlj:j<L.length
     ·have hljI:(j:Int)<L.length:=by omega
      obtain ⟨_,a3,cap3,he,_,_,hc⟩:=HV.out.below HB.out
      simp only[Value.slice.injEq,List.length_map,true_and] at he
      obtain ⟨rfl,rfl⟩:=he
      obtain ⟨g2,q2,rfl,hlb2,hcut⟩:=hc (by simp;omega)
      have hcutk:=hcut j (iJ L[j]) (by simp[hlj])
      have hsz:=HB.out.size
      have hgr2:g2<wr.heap.size:=by omega
      have hsu:(L.take (j+1)).map kC=(L.take j).map kC ++ [kC L[j]]:=by rw[List.take_succ_eq_append_getElem hlj,List.map_append];rfl
      have hof:=aGI L[j]
      generalize L[j]=x at *
      have HSU:=Lib.hid hsu
      have HOF:=Lib.hid hof
      clear hcut hc hsu hof
      go_wp2_with fail
      refine Gives.use (HOF.out _) ?_
      intro xs d
      go_wp2_with (at_builtin;refine iE (B:=W2.heap.size) (xs:=(L.take j).map kC) (ys := [kC x]) aIy rfl (.tmp 43) (.tmp 49) rfl (v:=u9) rfl ?_ rfl ?_ ?_ ?_ ?_ ?_)
      case refine_1=>exact (HO.out.grow _ _).alloc _
      case refine_2=>exact ⟨_,pW (Nat.le_refl _) (by decide) (aI ((aC _ _ _).trans (if_pos (by simp))) (by simp))⟩
      case refine_3 => intro z hz; obtain rfl : z = kC x := by simpa using hz
                       exact aIl x
      case refine_4=>simp;omega
      case refine_5=>simp;omega
      intro v3 w3 ho hg _
      have hb3:Below W2.heap.size W2 w3:=Below.grown ((HB.out.grow hsz _ _).alloc (by simp;omega) _) hg (by simp;omega) (fun q hq=>by have:=HO.out.lt q hq;simp;omega)
      have HB3:=Lib.hid hb3
      have HO3:=Lib.hid (show gU w3 W2.heap.size 35 161 v3 ((L.take (j+1)).map kC) by rw[HSU.out];simpa [List.map_take] using ho)
      clear hb3 ho hg HB HO
      go_wp2_with fail
      go_roundw
      case rel=>exact ⟨j+1,by omega,by go_num,HB3,HO3⟩
      simp[intOf];omega
     have hje:j=L.length:=by omega
     subst hje
     have hgn:¬ (L.length:Int)<L.length:=by omega
     have ho:=HO.out
     rw[List.take_length] at ho
     have HO2:=Lib.hid (And.intro HB.out ho)
     clear ho HO HB
     go_wp2_with fail
     go_meet
     exact HO2
    generalize wc=X at *
    obtain ⟨hbX,hoX⟩:=hcut.out
    obtain ⟨a5,c5,rfl,hm5,hc5⟩:=hoX.form
    simp only[List.length_map] at hoX hc5 |-
    have hbr:Below wr.heap.size wr X:=HB2.out.trans (hbX.mono HB2.out.size)
    have hLA:=HL.out.lay.up hbr
    have hrX:=hLA.room.lt
    have r0:X.cell? ⟨rb,0,none⟩=some (.pointer (some ⟨s,0,none⟩)):=(aF hLA.room.room 0).1.trans rfl
    have lrb:rb<X.heap.size:=hrX.1
    have hsr:wr.heap.size<=W2.heap.size:=HB2.out.size
    have HPUB:=Lib.hid (aHQ (n:=i) (by omega) hLA.store hLA.fine (.slice a9 L.length c9) L ((HO2.out.sl.below hbX).more hbX.size) (fun b o n c e hn hm=>by
     have h1:=HL.out.lay.store.lt b hm
     have h2:=(HO2.out.lt b (by rw[e];rfl)).1
     omega))
    have HX:=Lib.hid (And.intro hbr (And.intro hLA (And.intro hoX ((hbr.block mb (Array.getElem?_eq_some_iff.1 HL.out.box).1).trans HL.out.box))))
    have hmX:mb<X.heap.size:=by have:=(Array.getElem?_eq_some_iff.1 HL.out.box).1;have:=hbr.size;omega
    obtain ⟨pe,hpe⟩:∃ pe,pe=sZ (aQ G) G.live L:=⟨_,rfl⟩
    rw[<-hpe] at HPUB
    have HPE:=Lib.hid hpe
    clear hcut hbX hoX hbr hLA hrX hpe HO2 HB2
    go_wp2_with fail
    refine HPUB.out.mono ?_
    rintro e Y ⟨rfl,G',hS',hE,hF',hN⟩
    -- the document's store behind it
    obtain ⟨hbr,hLA,hoX,hbx⟩:=HX.out
    have hdY:=hLA.doc.evo hLA.off hE
    have hrY:=hLA.room.evo hLA.outs hE
    have hmY:Y.heap[mb]? = some (.cells (dU v G.last) 46)/\mb∉G'.blocks s:=⟨(hE.1.same mb hmX HL.out.out).trans hbx,fun hm=>by
     rcases hE.2 mb hm with h | h
     ·exact HL.out.out h
     omega⟩
    have hoff5:Off (G.blocks s) (.slice a5 L.length c5):=fun b o n c e hn hm=>by
     have h1:=HL.out.lay.store.lt b hm
     have h2:=(hoX.lt b (by rw[e];rfl)).1
     omega
    have hlY:=(hoX.sl.evo (s:=s) hoff5 hE).1
    have hzY:=hE.1.size
    obtain ⟨a7,c7,hv7,_,_⟩:=hLA.doc.sl.form
    rw[List.length_map] at hv7
    have m0:Y.cell? ⟨mb,0,none⟩=some v:=(aF hmY.1 0).1.trans rfl
    have m1:Y.cell? ⟨mb,1,none⟩=some (.int .u64 (G.last.toNat:Int)):=(aF hmY.1 1).1.trans rfl
    have m0f:=(aF hmY.1 0).2
    have m1f:=(aF hmY.1 1).2
    have lmY:mb<Y.heap.size:=by omega
    have hRl:R.length<=1000:=by have:=hLA.len;omega
    have hlowY:Below W0.heap.size W0 Y:=(HL.out.low.trans (hbr.mono HL.out.low.size)).trans (hE.below hLA.store)
    -- what the document's Publish gives
    have hdoc:Calls Tryz.prog 52 #[.agg #[v,.int .u64 (G.last.toNat:Int)],.slice a5 L.length c5] Y fun e w' => ∃ (v':Value) (R':RD) (t:Nat),e = .returned (.tuple #[.agg #[v',.int .u64 (G'.last.toNat:Int)],.int .u64 t,.int .i64 pe])/\Below Y.heap.size Y w'/\eP w' w'.heap.size v' R'/\DS R' (aQ G') G'.live/\R'.length<=20 * (i+1)/\aGL Y.heap.size v R v' R':=by
     by_cases h0:sZ (aQ G) G.live L=0
     ·obtain ⟨q1,q2,q3,q4,q5⟩:=hN.yes h0
      refine (aF9 R hRl v G.last (G.last+1) q2 Y hdY.1 (aQ G) G.live hLA.ds (fun k=>Nat.le_trans (hLA.fine.inv.short k) (by omega)) (fun k=>hLA.fine.inv.old k) _ L hlY h0).mono ?_
      rintro e w' ⟨v',R',rfl,g1,g2,g3,g4,g5⟩
      refine ⟨v',R',(G.last+1).toNat,by rw[q3,HPE.out,h0],g1,g2,by rw[q5,q4];exact g3,?_,g5⟩
      have:=hLA.len
      omega
     have q:=hN.no h0
     refine (aHV R hRl v G.last Y hdY.1 (aQ G) G.live hLA.ds _ L hlY h0).mono ?_
     rintro e w' ⟨rfl,g1⟩
     refine ⟨v,R,0,by rw[q,HPE.out];rfl,g1,hdY.1.up g1,by rw[q];exact hLA.ds,?_,aGL.refl _ _ _⟩
     have:=hLA.len
     omega
    have HDOC:=Lib.hid hdoc
    have HGD:=Lib.hid (show rY (aQ G') from by
     by_cases h0:sZ (aQ G) G.live L=0
     ·obtain ⟨q1, -, -, -,q5⟩:=hN.yes h0
      rw[q5]
      exact rY.apply _ L hLA.good (kF q1).2.1
     rw[hN.no h0];exact hLA.good)
    have HLV:=Lib.hid (show (dW G'.R).length<=16 * (i+1) from by have:=hN.lvs;have:=hLA.lvs;omega)
    have HY:=Lib.hid (And.intro hS' (And.intro hF' (And.intro hdY (And.intro hrY (And.intro hmY hlowY)))))
    clear hbr hLA hoX hbx hdY hrY hmY hoff5 hlY hzY hRl hlowY hdoc hS' hE hF' hN HX HPUB r0 lrb HPE
    subst hv7
    go_wp2_with fail
    refine HDOC.out.mono ?_
    rintro e Z ⟨v',R',t,rfl,hbZ,hdZ,hds,hlen,hoff⟩
    obtain ⟨a8,c8,hv8,_,_⟩:=hdZ.sl.form
    rw[List.length_map] at hv8
    have hmZ:Z.heap[mb]? = some (.cells (dU _ G.last) 46):=(hbZ.block mb lmY).trans HY.out.2.2.2.2.1.1
    have z0f:=(aF hmZ 0).2
    have z1f:=(aF hmZ 1).2
    have y0:=(aF hmZ 0).1.trans (yM _ _).1
    have y1:=(aF hmZ 1).1.trans (yM _ _).2
    have lmZ:mb<Z.heap.size:=by have:=hbZ.size;omega
    have HZ:=Lib.hid (And.intro hbZ (And.intro hdZ (And.intro hds (And.intro hlen (And.intro hoff hmZ)))))
    clear hbZ hdZ hds hlen hoff hmZ HDOC m0 m1 m0f m1f
    subst hv8
    go_upto_region 17 with fail
    refine aP ?_
    intro V hV
    have hVm:V.heap[mb]? = some (.cells (dU (.slice a8 R'.length c8) G'.last) 46):=by
     have h1:=bC (bC HZ.out.2.2.2.2.2 0 (.slice a8 R'.length c8)) 1 (.int .u64 (G'.last.toNat:Int))
     rw[aDC] at h1
     have h2:=bC (bC ((heap_alloc_old (w:=Z) (.cells #[.slice a8 R'.length c8,.int .u64 (G'.last.toNat:Int)] 39) lmZ).trans HZ.out.2.2.2.2.2) 0 (.slice a8 R'.length c8)) 1 (.int .u64 (G'.last.toNat:Int))
     rw[aDC] at h2
     rw[hV]
     first
      | exact h2
      | exact (aC _ _ _).trans ((if_neg (by simp;omega)).trans h1)
    have hVk:∀ c,c≠mb->c<Z.heap.size->V.heap[c]? = Z.heap[c]? := by
     intro c hc hl
     rw[hV]
     first
      | exact ((Below.heap_setCell _ ⟨mb,1,none⟩ _ c hc).trans (Below.heap_setCell _ ⟨mb,0,none⟩ _ c hc)).trans (heap_alloc_old (w:=Z) _ hl)
      | exact (aC _ _ _).trans ((if_neg (by simp;omega)).trans ((Below.heap_setCell _ ⟨mb,1,none⟩ _ c hc).trans (Below.heap_setCell _ ⟨mb,0,none⟩ _ c hc)))
    have hVs:Z.heap.size<=V.heap.size:=by rw[hV];simp
    have hVo:V.os=Z.os/\V.tape=Z.tape/\V.output=Z.output:=by rw[hV];exact ⟨rfl,rfl,rfl⟩
    have HNEW:=Lib.hid (show aMz W0 W0.heap.size s rb pb ib zb mb (i+1) G' (.slice a8 R'.length c8) R' V by
     obtain ⟨hS',hF',hdY,hrY,hmY,hlowY⟩:=HY.out
     obtain ⟨hbZ,hdZ,hds,hlen,hoff,hmZ⟩:=HZ.out
     have hmS:=hmY.2
     have hzz:=hbZ.size
     have hwm:W0.heap.size<=mb:=HMB.out
     have same:∀ b,b≠mb->b<Y.heap.size->V.heap[b]? = Y.heap[b]? := fun b hb hl=>(hVk b hb (by omega)).trans (hbZ.block b hl)
     have hrl:=hrY.1.lt
     have ho1:=hoff (G'.blocks s) (fun b hb=>hS'.lt b hb) hdY.2.1 hdY.2.2
     have ho2:=hoff [zb,mb] (fun b hb=>by
      simp at hb
      have:=H0.out.2.1
      have:=H0.out.2.2.2
      have:=hlowY.size
      rcases hb with rfl | rfl <;> omega) HL.out.offm.1 HL.out.offm.2
     refine ⟨?_,⟨hS'.zM (fun b hb=>same b (fun e=>hmS (e ▸ hb)) (hS'.lt b hb)) (by omega),hF',hrY.1.keep (same rb HNE.out.1 hrl.1) (same pb HNE.out.2.1 hrl.2.1) (same ib HNE.out.2.2 hrl.2.2),hrY.2,hdZ.aMF (S := [zb,mb]) ho2 (fun b hb hl=>hVk b (fun e=>hb (by simp[e])) hl) hVs,hds,hlen,ho1,HGD.out,HLV.out⟩,hVm,hmS,ho2⟩
     have hlZ:=hlowY.trans (hbZ.mono hlowY.size)
     exact hlZ.trans ⟨hVo.1,hVo.2.1,hVo.2.2,hVs,fun c hc=>hVk c (by omega) (by have:=hlZ.size;omega)⟩)
    clear hVm hVk hVs hVo hV HZ HY z0f z1f y0 y1 lmZ lmY HL
    go_wp2_with fail
    go_roundw
    case rel=>exact ⟨i+1,by omega,by omega,by go_num,Lib.hid ⟨_,_,_,HNEW.out⟩⟩
    simp[intOf];omega
   have h20e:i=20:=by omega
   have h20I:¬ (i:Int)<20:=by omega
   subst h20e
   go_wp2_with fail
   go_meet
   obtain ⟨G,v,R,hLB⟩:=HR.out
   exact Lib.hid ⟨20,G,v,R,Nat.le_refl _,hLB⟩
  have hgn:¬ (i:Int)<xs.length:=by omega
  go_wp2_with fail
  go_meet
  obtain ⟨G,v,R,hLB⟩:=HR.out
  exact Lib.hid ⟨i,G,v,R,hi20,hLB⟩
 generalize wc=X at *
 obtain ⟨n,G,v,R,hn,hLB⟩:=hcut.out
 obtain ⟨a8,c8,hv8,_,_⟩:=hLB.lay.doc.sl.form
 rw[List.length_map] at hv8
 have hwz:=H0.out.2.1
 have hzw:=H0.out.2.2.2
 have hzX:X.heap[zb]? = some (.cells (dU (.slice none 0 0) 0) 46):=(hLB.low.block zb (by omega)).trans (by rw[hzw];exact H0.out.2.2.1)
 have km:X.aW mb 0 131=some (dU v G.last):=aI hLB.box (by simp)
 have kt:X.aN zb 0 131=true:=by simp[World.aN,hzX]
 have k1:bZ (dU v G.last)=true:=by rw[hv8];exact mF _ _ _ _
 have lm:mb<X.heap.size:=(Array.getElem?_eq_some_iff.1 hLB.box).1
 have lz:zb<X.heap.size:=(Array.getElem?_eq_some_iff.1 hzX).1
 have HF:=Lib.hid (And.intro hn (And.intro hLB (And.intro hzX (And.intro hwz hzw))))
 clear hcut hn hLB hv8 hwz hzw hzX
 go_wp2_with fail
 go_region
 generalize hwF:(X.lay zb 0 (dU v G.last)).drew=wF
 obtain ⟨hn,hLB,hzX,hwz,hzw⟩:=HF.out
 have f1:wF.heap[zb]? = some (.cells (dU v G.last) 46):=by
  rw[<-hwF]
  show (X.lay zb 0 (dU v G.last)).heap[zb]? = _
  simp only[World.lay,Array.getElem?_modify,hzX,if_true,Option.map_some]
  rw[dN (by simp)]
 have fk:∀ c,c≠zb->wF.heap[c]? = X.heap[c]? := by
  intro c hc
  rw[<-hwF]
  exact aY hc
 have fs:wF.heap.size=X.heap.size:=by rw[<-hwF];exact lay_size _ _ _
 have fb:Below w.heap.size w wF:=by rw[<-hwF];exact ((H0.out.1.trans (hLB.low.mono (by omega))).lay (by omega)).drew
 have hr:=hLB.lay.room
 have hfin:aFI W0.heap.size s rb pb ib n G v R wF:=by
  refine ⟨hLB.lay.store.zM (fun b hb=>fk b (by have:=hLB.lay.store.low b hb;omega)) (by omega),hLB.lay.fine,hr.keep (fk _ (wG hr.room hzX (by simp))) (fk _ (wG hr.pins hzX (by simp))) (fk _ (wG hr.tab hzX (by simp))),hLB.lay.outs,hLB.lay.doc.aMF (S := [zb,mb]) hLB.offm (fun b hb _=>fk b (fun e=>hb (by simp[e]))) (by omega),hLB.lay.ds,hLB.lay.len,hLB.lay.off,hLB.lay.good,hLB.lay.lvs⟩
 have d0:wF.aW zb 0 131=some (dU v G.last):=aI f1 (by simp)
 have HG:=Lib.hid (And.intro fb (And.intro hfin (And.intro (show w.heap.size<=W0.heap.size by omega) hn)))
 clear hwF hn hLB hzX hwz hzw f1 fk fs fb hr hfin HF km kt k1 lm lz
 go_wp2_with fail
 exact bodyPost_ret (v := .tuple #[.pointer (some ⟨rb,0,none⟩),.agg (dU v G.last),.bool true]) (bK Tryz.results18 (by simp[aO]) (aO.row rfl yX d0) (by simp[aO])) rfl ⟨HG.out.1,_,s,rb,pb,ib,n,G,v,R,rfl,HG.out.2.2.1,HG.out.2.2.2,HG.out.2.1⟩
end Go.Proofs.YtcedmfnlkelhkaaGreatDoor
