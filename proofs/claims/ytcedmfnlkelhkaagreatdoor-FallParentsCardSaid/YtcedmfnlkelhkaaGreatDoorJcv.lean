/- Layer 20's law: the chapter's example, in plain Lean. -/
import Derived.Test.YtcedmfnlkelhkaaGreatDoorJcq
import Derived.Test.YtcedmfnlkelhkaaGreatDoorJcu
import Derived.Test.YtcedmfnlkelhkaaGreatDoorJcn
import Derived.BigRegion
import Derived.Handy
namespace Go.Proofs.YtcedmfnlkelhkaaGreatDoor
open Go.RowKit

def deT:List UInt8 := [100,101,0,0,0,0,0,0,0,0]
def atT:List UInt8 := [100,101,0,0,0,0,0,65,84,0]
def txE:Txt:=⟨[101,105,110,115],by simp[maxLen]⟩
def trR:Rec := { Rec.zero with kind:=6,state:=1,rev:=1,text:=txE }
def aQF:K25:=⟨6 :: 0 :: 0 :: (n19++deT),rfl⟩
def y6:Wr:=⟨aQF,false,trR⟩
def g6:K25->List Ver:=dP 3 g2 [y6]
theorem aPF:sZ g2 2 [y6]=0:=by decide +kernel
theorem aMC:dL g2 [y6]=1:=by decide +kernel
def vZ:List Lnk := [(0,qO)]
theorem aJp:dG g6 3 0 0 257 [] (0,qO)=vZ:=by decide +kernel
theorem aKh:(atV (g6 (jH 4 0 0)) 3).2=true:=by decide +kernel
def o20:Option (UInt8×Rec):=some (0,aM9 1 tx1)
theorem aM6:mJ g6 3 0 0 5 n19 (zeros 10) aKN vZ=o20:=by decide +kernel
def stF (f:K25->List Ver) (T:UInt64) (p b0:UInt8) (P:List Lnk) (nm:List UInt8) (hn:nm.length=12):StF:=fun u=>if h:u.length=10 then mM (mJ f T p b0 5 nm (zeros 10) ⟨hn,rfl⟩ P) (mJ f T p b0 6 nm u ⟨hn,h⟩ P) else (0,Rec.zero,false)
theorem aLk:Rd.xB n19 atT o20 0=0/\Rd.xB n19 atT o20 1=0:=by decide +kernel
def aJi:Ans:=⟨txE,deT,1,1⟩
def aKv:Ans:=⟨tx1,zeros 10,0,1⟩
theorem aLn:Rd.zK (stF g6 3 0 0 vZ n19 rfl) o20 n19 atT 0=aJi/\Rd.zK (stF g6 3 0 0 vZ n19 rfl) o20 n19 atT 1=aKv:=by decide +kernel
end Go.Proofs.YtcedmfnlkelhkaaGreatDoor
namespace Go.Proofs.YtcedmfnlkelhkaaGreatDoor
set_option maxRecDepth 100000
open Go.RowKit Go.Proofs.YtcedmfnlkelhkaaGreatDoor.Rd

@[go_sem ↓ high] theorem aPt (f:Nat×Operand->Nat×Value) (p:Nat×Operand):Instr.build 56 (Array.map f #[p])=yD 56 (f p):=by simp[yD]
@[go_sem] theorem aOX (w:World):(yD 56 (0,.int .u8 97)).run Tryz.prog w = .ok (.agg (aJ n19)) w:=by
 unfold yD
 kernel_rfl
@[go_sem ↓ high] theorem aPy (f:Nat×Operand->Nat×Value) (p:Nat×Operand):Instr.build 60 (Array.map f #[p])=yD 60 (f p):=by simp[yD]
@[go_sem] theorem aO4 (w:World):(yD 60 (0,.agg (aJ [100,101,0]))).run Tryz.prog w = .ok (.agg (aJ deT)) w:=by
 unfold yD
 kernel_rfl
@[go_sem ↓ high] theorem aPr (f:Nat×Operand->Nat×Value) (p q:Nat×Operand):Instr.build 57 (Array.map f #[p,q])=aA4 57 (f p) (f q):=by simp[aA4]
@[go_sem] theorem aPq (w:World):(aA4 57 (0,.int .u8 100) (1,.int .u8 101)).run Tryz.prog w = .ok (.agg (aJ [100,101,0])) w:=by
 unfold aA4
 kernel_rfl
@[go_sem] theorem aPp (w:World):(aA4 57 (0,.int .u8 65) (1,.int .u8 84)).run Tryz.prog w = .ok (.agg (aJ [65,84,0])) w:=by
 unfold aA4
 kernel_rfl
@[go_sem] theorem aOT (w:World):(yD 132 (0,.int .u8 4)).run Tryz.prog w = .ok (.agg (aJ (jH 4 0 0).val)) w:=by
 unfold yD
 kernel_rfl
@[go_sem ↓ high] theorem aPs (f:Nat×Operand->Nat×Value) (p q:Nat×Operand):Instr.build 132 (Array.map f #[p,q])=aA4 132 (f p) (f q):=by simp[aA4]
@[go_sem] theorem aOU (w:World):(aA4 132 (0,.int .u8 5) (3,.agg (aJ n19))).run Tryz.prog w = .ok (.agg (aJ (kS 0).val)) w:=by
 unfold aA4
 kernel_rfl
@[go_sem] theorem aOV (w:World):(aA5 132 (0,.int .u8 6) (3,.agg (aJ n19)) (4,.agg (aJ deT))).run Tryz.prog w = .ok (.agg (aJ aQF.val)) w:=by
 unfold aA5
 kernel_rfl
@[go_sem] theorem aOY (w:World):(yD 101 (0,.int .u8 4)).run Tryz.prog w = .ok (.agg (bI (aNq 0))) w:=by
 unfold yD
 kernel_rfl
@[go_sem ↓ high] theorem aPu (f:Nat×Operand->Nat×Value) (p q r:Nat×Operand):Instr.build 101 (Array.map f #[p,q,r])=aA5 101 (f p) (f q) (f r):=by simp[aA5]
@[go_sem] theorem aOZ (w:World):(aA5 101 (0,.int .u8 5) (6,.int .u32 1) (8,.string { data := #[111,110,101] })).run Tryz.prog w = .ok (.agg (bI (aM9 1 tx1))) w:=by
 unfold aA5
 kernel_rfl
@[go_sem ↓ high] theorem aPv (f:Nat×Operand->Nat×Value) (p q r u:Nat×Operand):Instr.build 101 (Array.map f #[p,q,r,u])=aA9 101 (f p) (f q) (f r) (f u):=by simp[aA9]
@[go_sem] theorem aO0 (w:World):(aA9 101 (0,.int .u8 6) (1,.int .u8 1) (6,.int .u32 1) (8,.string { data := #[101,105,110,115] })).run Tryz.prog w = .ok (.agg (bI trR)) w:=by
 unfold aA9
 kernel_rfl
@[go_sem] theorem aOR (w:World):(aA9 63 (0,.string { data := #[101,105,110,115] }) (1,.agg (aJ deT)) (2,.int .i64 1) (3,.int .u32 1)).run Tryz.prog w = .ok (.agg (gZ aJi)) w:=by
 unfold aA9
 kernel_rfl
@[go_sem] theorem aOS (w:World):(aFN 63 (0,.string { data := #[111,110,101] }) (3,.int .u32 1)).run Tryz.prog w = .ok (.agg (gZ aKv)) w:=by
 unfold aFN
 kernel_rfl
structure xP (w:World) (B s n:Nat) (G:SG) (f:K25->List Ver) (live:Int) (last:UInt64):Prop where
 store:aV w B s G
 fine:Fine n G
 vs:aQ G=f
 live:G.live=live
 last:G.last=last
section
variable {w w':World} {B s n:Nat} {G:SG} {f:K25->List Ver} {live:Int} {last:UInt64}
theorem xP.up (h:xP w B s n G f live last) (hb:Below w.heap.size w w'):xP w' B s n G f live last:=⟨h.store.keep hb,h.fine,h.vs,h.live,h.last⟩
theorem xP.as {f':K25->List Ver} {live':Int} {last':UInt64} (h:xP w B s n G f live last) (e1:f=f') (e2:live=live') (e3:last=last'):xP w B s n G f' live' last':=by
 subst e1 e2 e3
 exact h
theorem Evo.outT {G':SG} (he:Evo s w G w' G') {b:Nat} (hb:b<w.heap.size) (hn:b∉G.blocks s):w'.heap[b]? = w.heap[b]? /\ b∉G'.blocks s :=
 ⟨he.1.same b hb hn,fun hm=>by
  rcases he.2 b hm with h | h
  ·exact hn h
  ·omega⟩
theorem sW (h:xP w B s n G f live last) (hn:n<=800) (x:Wr) (he:sZ f live [x]=0) :
  Calls Tryz.prog 36 #[.pointer (some ⟨s,0,none⟩),.slice (some ⟨w.heap.size,0,none⟩) 1 1] (w.alloc (.cells (iJ x) 134)) fun e w'=>(∃ v,e = .returned v) /\ ∃ G',xP w' B s (n+1) G' (dP (last+1) f [x]) (live+dL f [x]) (last+1)/\Evo s w G w' G':=by
 have hb:Below w.heap.size w (w.alloc (.cells (iJ x) 134)):=blw
 refine (aHQ (n:=n) (by omega) (h.store.keep hb) h.fine _ [x] ((pW (Nat.le_refl _) (by decide) (aI ((aC _ _ _).trans (if_pos rfl)) (aD2 _))).more (by simp)) (fun b o n c e hn hm=>by
  have:=h.store.lt b hm
  simp only[Value.slice.injEq,Option.some.injEq,Addr.mk.injEq] at e
  have e1:=e.1.1
  omega)).mono ?_
 rintro e w2 ⟨rfl,G',g1,g2,g3,g4⟩
 have hev:Evo s w G w2 G':=(Evo.grow G hb).trans g2
 have h0:sZ (aQ G) G.live [x]=0:=by rw[h.vs,h.live];exact he
 obtain ⟨-, -,q3,q4,q5⟩:=g4.yes h0
 exact ⟨⟨_,rfl⟩,G',⟨g1,g3,by rw[q5,h.last,h.vs],by rw[q4,h.live,h.vs],by rw[q3,h.last]⟩,hev⟩
end
structure aJc (w:World) (s N:Nat) (G:SG):Prop where
 x0:w.heap[N]? = some (.cells (aJ n19) 56)
 x1:w.heap[N+1]? = some (.cells (aJ deT) 60)
 x2:w.heap[N+1+1]? = some (.cells (aJ atT) 60)
 n0:N∉G.blocks s
 n1:N+1∉G.blocks s
 n2:N+1+1∉G.blocks s
theorem aJc.evo {w w':World} {s N:Nat} {G G':SG} (h:aJc w s N G) (he:Evo s w G w' G'):aJc w' s N G':=by
 have a:=he.outT (lt_of_heap h.x0) h.n0
 have b:=he.outT (lt_of_heap h.x1) h.n1
 have c:=he.outT (lt_of_heap h.x2) h.n2
 exact ⟨a.1.trans h.x0,b.1.trans h.x1,c.1.trans h.x2,a.2,b.2,c.2⟩
theorem aJc.up {w w':World} {s N:Nat} {G:SG} (h:aJc w s N G) (hb:Below w.heap.size w w'):aJc w' s N G :=
 ⟨(hb.block _ (lt_of_heap h.x0)).trans h.x0,(hb.block _ (lt_of_heap h.x1)).trans h.x1,(hb.block _ (lt_of_heap h.x2)).trans h.x2,h.n0,h.n1,h.n2⟩
set_option maxHeartbeats 20000000 in
theorem aBf (w:World):Gives Tryz.prog 9 #[] w (.bool true):=by
 have hnl:n19.length=12:=rfl
 have hdl:deT.length=10:=rfl
 have hal:atT.length=10:=rfl
 unfold Gives
 go_enter Tryz.func9,Tryz.ntmps9
 go_wp2_with fail
 refine (sN w).mono ?_
 rintro e w1 ⟨rfl,hb1,hS1⟩
 obtain ⟨s,hs⟩:∃ s,s=w.heap.size+1:=⟨_,rfl⟩
 rw[<-hs] at hS1
 go_upto_region 6 with fail
 refine aP ?_
 intro W hW
 obtain ⟨N,hN⟩:∃ N,N=w1.heap.size:=⟨_,rfl⟩
 have hbW:Below w1.heap.size w1 W:=by rw[hW];exact blw
 have hx0:W.heap[N]? = some (.cells (aJ n19) 56):=by rw[hW,hN];exact (aC _ _ _).trans ((if_neg (by simp;omega)).trans ((aC _ _ _).trans ((if_neg (by simp)).trans ((aC _ _ _).trans (if_pos rfl)))))
 have hx1:W.heap[N+1]? = some (.cells (aJ deT) 60):=by rw[hW,hN];exact (aC _ _ _).trans ((if_neg (by simp)).trans ((aC _ _ _).trans (if_pos (by simp))))
 have hx2:W.heap[N+1+1]? = some (.cells (aJ atT) 60):=by rw[hW,hN];exact (aC _ _ _).trans (if_pos (by simp))
 simp only[<-hN,<-hs]
 have hK0:xP W w.heap.size s 0 (uJ w.heap.size) f0 0 0:=⟨hS1.keep hbW,⟨⟨fun _=>Nat.le_refl _,fun _=>Nat.le_refl _⟩,Nat.le_refl _,Int.le_refl _,Int.le_refl _⟩,rfl,rfl,rfl⟩
 have hX0:aJc W s N (uJ w.heap.size):=⟨hx0,hx1,hx2,fun hm=>by have:=hS1.lt _ hm;omega,fun hm=>by have:=hS1.lt _ hm;omega,fun hm=>by have:=hS1.lt _ hm;omega⟩
 have hbw:Below w.heap.size w W:=hb1.trans (hbW.mono hb1.size)
 have HP1:=Lib.hid (sW hK0 (by omega) y1 aPD)
 have H0:=Lib.hid (And.intro hbw (And.intro hX0 hK0.store))
 clear hW hN hs hbW hx0 hx1 hx2 hK0 hbw hX0 hb1 hS1
 go_wp2_with fail
 refine HP1.out.mono ?_
 rintro e W1 ⟨⟨v1,rfl⟩,G1,hK1,hE1⟩
 have hK1:xP W1 w.heap.size s 1 G1 g1 1 1:=hK1.as rfl (by show (0:Int)+dL f0 [y1]=1;rw[aMA];rfl) rfl
 have hX1:=H0.out.2.1.evo hE1
 have c0:W1.aW N 0 12=some (aJ n19):=aI hX1.x0 rfl
 have l0:=lt_of_heap hX1.x0
 have HP2:=Lib.hid (sW hK1 (by omega) y2 aPE)
 have H1:=Lib.hid (And.intro (H0.out.1.trans (hE1.below H0.out.2.2)) (And.intro hX1 hK1.store))
 clear hK1 hE1 hX1 HP1 H0
 go_wp2_with fail
 refine HP2.out.mono ?_
 rintro e W2 ⟨⟨v2,rfl⟩,G2,hK2,hE2⟩
 have hK2:xP W2 w.heap.size s 2 G2 g2 2 2:=hK2.as rfl (by show (1:Int)+dL g1 [y2]=2;rw[aMB];rfl) rfl
 have hX2:=H1.out.2.1.evo hE2
 clear c0 l0
 have c0:W2.aW N 0 12=some (aJ n19):=aI hX2.x0 rfl
 have l0:=lt_of_heap hX2.x0
 have c1:W2.aW (N+1) 0 10=some (aJ deT):=aI hX2.x1 rfl
 have l1:=lt_of_heap hX2.x1
 have HP3:=Lib.hid (sW hK2 (by omega) y6 aPF)
 have H2:=Lib.hid (And.intro (H1.out.1.trans (hE2.below H1.out.2.2)) (And.intro hX2 hK2.store))
 clear hK2 hE2 hX2 HP2 H1
 go_wp2_with fail
 refine HP3.out.mono ?_
 rintro e W3 ⟨⟨v3,rfl⟩,G3,hK3,hE3⟩
 have hK3:xP W3 w.heap.size s 3 G3 g6 3 3:=hK3.as rfl (by show (2:Int)+dL g2 [y6]=3;rw[aMC];rfl) rfl
 have hX3:=H2.out.2.1.evo hE3
 have hsh:Short G3 100000:=fun k=>Nat.le_trans (hK3.fine.inv.short k) (by decide)
 have hv:∀ V,Below W3.heap.size W3 V->Calls Tryz.prog 19 #[.iface 96 (.agg #[.pointer (some ⟨s,0,none⟩),.int .u64 3]),.int .i64 0,.int .i64 0] V fun e w'=>Below V.heap.size V w' /\ ∃ vb lv,e = .returned (.tuple #[.pointer (some ⟨vb,0,none⟩),.int .i64 0])/\V.heap.size<=vb/\nX V.heap.size lv /\
   VAt w' vb s 3 0 lv vZ (atV (g6 (jH 4 0 0)) 3).1:=by
  intro V hb
  have hv:=Dn.aAY (hK3.up hb).store hsh 3 0 0 (by decide) (by decide) (by rw[hK3.vs];exact aKh)
  rw[hK3.vs,aJp] at hv
  exact hv
 have HV:=Lib.hid (hv W3 (Below.refl _ _))
 have H3:=Lib.hid (And.intro (H2.out.1.trans (hE3.below H2.out.2.2)) (And.intro hX3 (And.intro hK3 hsh)))
 clear hK3 hE3 hX3 HP3 H2 hv hsh c0 l0 c1 l1
 go_wp2_with fail
 refine HV.out.mono ?_
 rintro e W4 ⟨hb4,vb,lv,rfl, -, -,hva⟩
 have hK4:=H3.out.2.2.1.up hb4
 have hget:∀ (mode:Int) V,Below W4.heap.size W4 V->Gives Tryz.prog 10 #[.pointer (some ⟨vb,0,none⟩),.agg (aJ n19),.agg (aJ atT),.int .i64 mode] V (.tuple #[.agg (gZ (zK (stF g6 3 0 0 vZ n19 rfl) o20 n19 atT mode)),.int .i64 (xB n19 atT o20 mode)]):=fun mode V hb=>by
  refine aBC vb n19 atT rfl rfl o20 _ mode V (fun V2 hb2 => ?_) (fun V2 hb2 u hu => ?_)
  ·have hv:=qZ ((hK4.up hb).up hb2).store H3.out.2.2.2 ((hva.up hb).up hb2) (by decide) (.inr ⟨qO, [],rfl⟩) n19 rfl
   rw[hK4.vs,aM6] at hv
   exact hv
  have hv:=aAT ((hK4.up hb).up hb2).store H3.out.2.2.2 ((hva.up hb).up hb2) (by decide) (.inr ⟨qO, [],rfl⟩) n19 u rfl hu
  rw[hK4.vs] at hv
  unfold stF
  rw[dif_pos hu]
  exact hv
 have HG0:=Lib.hid (fun V hb=>hget 0 V hb)
 have HG1:=Lib.hid (fun V hb=>hget 1 V hb)
 rw[aLk.1,aLn.1] at HG0
 rw[aLk.2,aLn.2] at HG1
 have hX4:=H3.out.2.1.up hb4
 have c0:W4.aW N 0 12=some (aJ n19):=aI hX4.x0 rfl
 have l0:=lt_of_heap hX4.x0
 have c1:W4.aW (N+1) 0 10=some (aJ deT):=aI hX4.x1 rfl
 have l1:=lt_of_heap hX4.x1
 have c2:W4.aW (N+1+1) 0 10=some (aJ atT):=aI hX4.x2 rfl
 have l2:=lt_of_heap hX4.x2
 have HB:=Lib.hid (H3.out.1.trans (hb4.mono H3.out.1.size))
 have hz:(gZ Ans.zero).size=13:=rfl
 have hze:(gZ aJi).size=13:=rfl
 have hzo:(gZ aKv).size=13:=rfl
 have hte:aJi.tag.length=10:=rfl
 have hto:aKv.tag.length=10:=rfl
 clear hK4 hX4 hget hva hb4 H3 HV
 go_wp2_with fail
 refine Gives.use (HG0.out _ blw) ?_
 intro xs1 d1
 go_upto_region 13 with fail
 refine aP ?_
 intro W5 hW5
 obtain ⟨ab,hab⟩:∃ ab,ab=W4.heap.size+xs1.size:=⟨_,rfl⟩
 have hb5:Below W4.heap.size W4 W5:=by rw[hW5];exact blw
 have ha5:W5.heap[ab]? = some (.cells (gZ aJi) 63):=by rw[hW5,hab];exact (aC _ _ _).trans (if_pos (by simp))
 simp only[<-hab]
 have d0:W5.aW N 0 12=some (aJ n19):=(aK (hb5.block N l0) _ _).trans c0
 have d1:W5.aW (N+1) 0 10=some (aJ deT):=(aK (hb5.block _ l1) _ _).trans c1
 have d2:W5.aW (N+1+1) 0 10=some (aJ atT):=(aK (hb5.block _ l2) _ _).trans c2
 have e5:W5.aW ab 0 13=some (gZ aJi):=aI ha5 hze
 have hs5:=hb5.size
 have m0:N<W5.heap.size:=by omega
 have m1:N+1<W5.heap.size:=by omega
 have m2:N+1+1<W5.heap.size:=by omega
 have m3:ab<W5.heap.size:=lt_of_heap ha5
 have HG2:=Lib.hid (HG1.out W5 hb5)
 have HB5:=Lib.hid (HB.out.trans (hb5.mono HB.out.size))
 clear hW5 hab hb5 ha5 c0 c1 c2 l0 l1 l2 hs5 HG0 HG1 HB
 go_wp2_with fail
 refine Gives.use HG2.out ?_
 intro xs2 d3
 go_upto_region 14 with fail
 refine aP ?_
 intro W6 hW6
 obtain ⟨ab2,hab2⟩:∃ ab2,ab2=W5.heap.size+xs2.size:=⟨_,rfl⟩
 have hb6:Below W5.heap.size W5 W6:=by rw[hW6];exact blw
 have ha6:W6.heap[ab2]? = some (.cells (gZ aKv) 63):=by rw[hW6,hab2];exact (aC _ _ _).trans (if_pos (by simp))
 simp only[<-hab2]
 have e6:W6.aW ab 0 13=some (gZ aJi):=(aK (hb6.block ab m3) _ _).trans e5
 have f6:W6.aW (N+1) 0 10=some (aJ deT):=(aK (hb6.block _ m1) _ _).trans d1
 have g6':W6.aW ab2 0 13=some (gZ aKv):=aI ha6 hzo
 have hs6:=hb6.size
 have n1:N+1<W6.heap.size:=by omega
 have n3:ab<W6.heap.size:=by omega
 have n4:ab2<W6.heap.size:=lt_of_heap ha6
 have HB6:=Lib.hid (HB5.out.trans (hb6.mono HB5.out.size))
 clear hW6 hab2 hb6 ha6 d0 d1 d2 e5 m0 m1 m2 m3 hs6 HG2 HB5
 go_wp2_with fail
 go_ret
 exact ⟨rfl,HB6.out⟩
end Go.Proofs.YtcedmfnlkelhkaaGreatDoor
