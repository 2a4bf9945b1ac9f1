/- Layer 19: the source that a view sees. -/
import Derived.Test.YtcedmfnlkelhkaaGreatDoorJch
import Derived.BigRegion
import Derived.Handy
namespace Go.Proofs.YtcedmfnlkelhkaaGreatDoor
set_option maxHeartbeats 40000000
set_option maxRecDepth 100000
open Go.RowKit Go.Shelf
attribute [local go_sem] Oper.semAt_some

theorem aAZ (vp:Option Addr) (kd:Int) (nm tg:List UInt8) (w:World) :
  Calls Tryz.prog 59 #[.pointer vp,.int .i64 kd,.agg (aJ nm),.agg (aJ tg)] w fun e w'=>e = .returned (.func (.func 90) #[] #[.pointer (some ⟨w.heap.size,0,none⟩),.pointer (some ⟨w.heap.size+1,0,none⟩),.pointer (some ⟨w.heap.size+2,0,none⟩),.pointer (some ⟨w.heap.size+3,0,none⟩)]) /\
   w'=(((w.alloc (.cells #[.pointer vp] 29)).alloc (.cells #[.int .i64 kd] 3)).alloc (.cells (aJ nm) 56)).alloc (.cells (aJ tg) 60):=by
 have hmf:∀ (fn:Fn) (first cap:Array Value) (w:World),(Instr.makeFunc fn first cap).run Tryz.prog w = .ok (.func fn first cap) w:=fun _ _ _ _=>rfl
 go_enter Tryz.func59,Tryz.ntmps59
 go_wp2_with fail
 go_ret
 exact ⟨rfl,rfl⟩
theorem yF (w:World) (o0 o1 o2 o3:Obj):((((w.alloc o0).alloc o1).alloc o2).alloc o3).heap[w.heap.size]? = some o0/\((((w.alloc o0).alloc o1).alloc o2).alloc o3).heap[w.heap.size+1]? = some o1/\((((w.alloc o0).alloc o1).alloc o2).alloc o3).heap[w.heap.size+2]? = some o2 /\
  ((((w.alloc o0).alloc o1).alloc o2).alloc o3).heap[w.heap.size+3]? = some o3/\((((w.alloc o0).alloc o1).alloc o2).alloc o3).heap.size=w.heap.size+4:=by
 refine ⟨?_,?_,?_,?_,by simp only[World.size_alloc]⟩
 ·rw[aC,if_neg (by simp only[World.size_alloc];omega),aC,if_neg (by simp only[World.size_alloc];omega),aC,if_neg (by simp only[World.size_alloc];omega),aC,if_pos rfl]
 ·rw[aC,if_neg (by simp only[World.size_alloc];omega),aC,if_neg (by simp only[World.size_alloc];omega),aC,if_pos (by simp only[World.size_alloc])]
 ·rw[aC,if_neg (by simp only[World.size_alloc];omega),aC,if_pos (by simp only[World.size_alloc])]
 rw[aC,if_pos (by simp only[World.size_alloc])]
theorem jR {w w':World} {b o:Nat} (h:w'.heap[b]? = w.heap[b]?):w'.cell? ⟨b,o,none⟩=w.cell? ⟨b,o,none⟩/\w'.frozen? ⟨b,o,none⟩=w.frozen? ⟨b,o,none⟩:=by
 unfold World.cell? World.frozen?
 rw[h]
 exact ⟨rfl,rfl⟩
theorem aEx {w:World} {n:Nat} {c0 c:Array Value} {t0 t1 t2:TypeId} {u v u' v':Value} (h1:w.heap[n+1]? = some (.cells c0 t0)) (h2:Boxed w (n+1+1) t1 u) (h3:Boxed w (n+1+1+1) t2 v) (hc:c0.size=c.size) :
  ((w.lay (n+1) 0 c).cell? ⟨n+1+1,0,none⟩=some u/\(w.lay (n+1) 0 c).frozen? ⟨n+1+1,0,none⟩=false) /\
  (((w.lay (n+1) 0 c).setCell ⟨n+1+1,0,none⟩ u').cell? ⟨n+1+1+1,0,none⟩=some v/\((w.lay (n+1) 0 c).setCell ⟨n+1+1,0,none⟩ u').frozen? ⟨n+1+1+1,0,none⟩=false) /\
  ∀ W,W=((w.lay (n+1) 0 c).setCell ⟨n+1+1,0,none⟩ u').setCell ⟨n+1+1+1,0,none⟩ v'->W.heap[n+1]? = some (.cells c t0)/\Boxed W (n+1+1) t1 u'/\Boxed W (n+1+1+1) t2 v'/\W.heap.size=w.heap.size /\
   (∀ b,b≠n+1->b≠n+1+1->b≠n+1+1+1->W.heap[b]? = w.heap[b]?)/\W.os=w.os/\W.tape=w.tape/\W.output=w.output:=by
 have e1:∀ b,b≠n+1->(w.lay (n+1) 0 c).heap[b]? = w.heap[b]? := fun b hb=>aY hb
 have e2:∀ b,b≠n+1+1->((w.lay (n+1) 0 c).setCell ⟨n+1+1,0,none⟩ u').heap[b]? = (w.lay (n+1) 0 c).heap[b]? := fun b hb=>Below.heap_setCell _ ⟨n+1+1,0,none⟩ _ b hb
 have e3:∀ b,b≠n+1+1+1->(((w.lay (n+1) 0 c).setCell ⟨n+1+1,0,none⟩ u').setCell ⟨n+1+1+1,0,none⟩ v').heap[b]? = ((w.lay (n+1) 0 c).setCell ⟨n+1+1,0,none⟩ u').heap[b]? := fun b hb=>Below.heap_setCell _ ⟨n+1+1+1,0,none⟩ _ b hb
 have hl:(w.lay (n+1) 0 c).heap[n+1]? = some (.cells c t0):=by
  simp only[World.lay,Array.getElem?_modify,h1,if_true,Option.map_some]
  rw[dN hc.symm]
 have b2:Boxed (w.lay (n+1) 0 c) (n+1+1) t1 u:=(e1 _ (by omega)).trans h2
 have b3:Boxed ((w.lay (n+1) 0 c).setCell ⟨n+1+1,0,none⟩ u') (n+1+1+1) t2 v:=((e2 _ (by omega)).trans (e1 _ (by omega))).trans h3
 refine ⟨⟨b2.cell,b2.frozen⟩,⟨b3.cell,b3.frozen⟩,?_⟩
 rintro W rfl
 refine ⟨((e3 _ (by omega)).trans (e2 _ (by omega))).trans hl,(e3 _ (by omega)).trans (b2.set u'),b3.set v',by simp,fun b h1 h2 h3=>((e3 b h3).trans (e2 b h2)).trans (e1 b h1),rfl,rfl,rfl⟩
def xX (o:Option (UInt8×Rec)):Value := .tuple #[.agg (bI (aCH o).1),.int .i64 ((aCH o).2.1.toNat:Int),.bool (aCH o).2.2]
theorem aEH (vp:Option Addr) (A:List (UInt8×Rec)) (K:Nat) (nm:List UInt8) (hn:nm.length=12) (w:World)
  (hst:∀ (N:Nat) (W1:World),N=w.heap.size->Below w.heap.size w W1->N+4+3<W1.heap.size->W1.cell? ⟨N+4,0,none⟩=some (.pointer vp)->W1.cell? ⟨N+4+1,0,none⟩=some (.int .i64 5)->W1.aW (N+4+2) 0 12=some (aJ nm)->W1.aW (N+4+3) 0 10=some (aJ (zeros 10)) ->
   nZ Fence.wide 8 Tryz.prog 90 #[.pointer (some ⟨N+4,0,none⟩),.pointer (some ⟨N+4+1,0,none⟩),.pointer (some ⟨N+4+2,0,none⟩),.pointer (some ⟨N+4+3,0,none⟩)] encS (nY N (N+4)) (fun ys=>ys=A) (fun pre=>pre <+: A) K W1) :
  Gives Tryz.prog 23 #[.pointer vp,.agg (aJ nm)] w (xX A.head?):=by
 refine (callsIn_wide (n:=9)).1 ?_
 refine callsIn_of_wp_marks Tryz.func23 rfl trivial ?_ rfl
 simp only[Tryz.ntmps23,List.size_toArray,List.length_cons,List.length_nil,Nat.reduceAdd,Nat.reduceSub,Array.replicate_succ,Array.replicate_zero,List.push_toArray,List.append_toArray,List.nil_append,List.cons_append]
 gi_wp2_with fail
 refine ⟨trivial,?_⟩
 obtain ⟨N,hN⟩:∃ N,N=w.heap.size:=⟨_,rfl⟩
 obtain ⟨W0,hW0⟩:∃ W0,W0=(((w.alloc (.cells (aJ nm) 56)).alloc (.cells (bI Rec.zero) 101)).alloc (.cells #[.int .i64 0] 3)).alloc (.cells #[.bool false] 4):=⟨_,rfl⟩
 rw[<-hW0]
 obtain ⟨-,f1,f2,f3,hz0⟩:=yF w (.cells (aJ nm) 56) (.cells (bI Rec.zero) 101) (.cells #[.int .i64 0] 3) (.cells #[.bool false] 4)
 rw[<-hW0,<-hN] at f1 f2 f3 hz0
 have hb0:Below w.heap.size w W0:=by rw[hW0];exact blw
 refine (callsIn_wide.2 (aAZ vp 5 nm (zeros 10) W0)).mono ?_
 rintro e w' ⟨rfl,rfl⟩
 obtain ⟨W1,hW1⟩:∃ W1,W1=(((W0.alloc (.cells #[.pointer vp] 29)).alloc (.cells #[.int .i64 5] 3)).alloc (.cells (aJ nm) 56)).alloc (.cells (aJ (zeros 10)) 60):=⟨_,rfl⟩
 rw[<-hW1]
 obtain ⟨q0,q1,q2,q3,hz1⟩:=yF W0 (.cells #[.pointer vp] 29) (.cells #[.int .i64 5] 3) (.cells (aJ nm) 56) (.cells (aJ (zeros 10)) 60)
 rw[<-hW1,hz0] at q0 q1 q2 q3 hz1
 have hb1:Below W0.heap.size W0 W1:=by rw[hW1];exact blw
 have c0:W1.cell? ⟨N+4,0,none⟩=some (.pointer vp):=(aF q0 0).1.trans rfl
 have c1:W1.cell? ⟨N+4+1,0,none⟩=some (.int .i64 5):=(aF q1 0).1.trans rfl
 have c2:W1.aW (N+4+2) 0 12=some (aJ nm):=aI q2 (by simp[hn])
 have c3:W1.aW (N+4+3) 0 10=some (aJ (zeros 10)):=aI q3 (by simp[zeros])
 have g1:=(hb1.block (N+1) (by omega)).trans f1
 have g2:Boxed W1 (N+2) 3 (.int .i64 0):=(hb1.block (N+2) (by omega)).trans f2
 have g3:Boxed W1 (N+3) 4 (.bool false):=(hb1.block (N+3) (by omega)).trans f3
 have hbw:Below w.heap.size w W1:=hb0.trans (hb1.mono hb0.size)
 simp only[hz0,<-hN]
 gi_wp2_with fail
 have HB0:=Lib.hid hbw
 have HST:=hst N W1 hN hbw (by omega) c0 c1 c2 c3
 have HNW:=Lib.hid hN
 have hNl:w.heap.size<=N:=Nat.le_of_eq hN.symm
 have hkx:=aGw (n₀:=N) (bx:=N+4) (w:=W1) (by omega) (by omega)
 have hz1':N+8<=W1.heap.size:=by omega
 clear hN hz1 hz0
 clear hW1 hW0 q0 q1 q2 q3 f1 f2 f3 hb0 hb1 c0 c1 c2 c3 hst
 refine kQ (n:=9) (gf:=90) (lb := #[.pointer (some ⟨N+4,0,none⟩),.pointer (some ⟨N+4+1,0,none⟩),.pointer (some ⟨N+4+2,0,none⟩),.pointer (some ⟨N+4+3,0,none⟩)]) rfl (by decide) rfl trivial (enters_of Tryz.func90 (by kernel_rfl) rfl)
  HST (fun h k=>h.trans k) hkx (Below.refl _ _) (fun _=>rfl)
  (fun pre W'=>(W'.heap[N+1]? = some (.cells (bI Rec.zero) 101)/\Boxed W' (N+2) 3 (.int .i64 0)/\Boxed W' (N+3) 4 (.bool false))/\(Below w.heap.size w W'/\N+8<=W'.heap.size)/\pre = [])
  (fun c pre W'=>(∃ x,pre = [x]/\W'.heap[N+1]? = some (.cells (bI x.2) 101)/\Boxed W' (N+2) 3 (.int .i64 (x.1.toNat:Int))/\Boxed W' (N+3) 4 (.bool true))/\Below w.heap.size w W'/\c = .ret)
  ?hI ?hIx ⟨⟨g1,g2,g3⟩,⟨hbw,hz1'⟩,rfl⟩
  (fun x a' W' => ∃ Bv,N+8<=Bv/\W'.heap[Bv]? = some (.cells (bI x.2) 101)/\a' = { tmps := #[.pointer vp,.agg (aJ nm),undef,.pointer (some ⟨N,0,none⟩),.pointer (some ⟨N+1,0,none⟩),.pointer (some ⟨N+1+1,0,none⟩),.pointer (some ⟨N+1+1+1,0,none⟩),.int .i64 (x.1.toNat:Int),.pointer (some ⟨Bv,0,none⟩),.pointer vp,.agg (aJ nm),.agg (aJ (zeros 10)),
   .func (.func 90) #[] #[.pointer (some ⟨N+4,0,none⟩),.pointer (some ⟨N+4+1,0,none⟩),.pointer (some ⟨N+4+2,0,none⟩),.pointer (some ⟨N+4+3,0,none⟩)],.int .i64 (x.1.toNat:Int),.agg (bI x.2),undef,undef,undef],defers := [] })
  ?hAx ?assign ?body ?done ?stop
 case hI =>
  rintro pre A B row ⟨⟨h1,h2,h3⟩,⟨h4,h5⟩,h6⟩ hg hr
  exact ⟨⟨(grownBy_keeps_cells hg (fun r e=>(hr r e).2) h1 rfl).trans h1,(grownBy_keeps_cells hg (fun r e=>(hr r e).2) h2 rfl).trans h2,(grownBy_keeps_cells hg (fun r e=>(hr r e).2) h3 rfl).trans h3⟩,⟨ownFrom_below (β:=Unit) (Nat.le_refl _) (by omega) () A B row h4 hg hr,Nat.le_trans h5 hg.size⟩,h6⟩
 case hIx =>
  rintro c pre A B row ⟨⟨x,h0,h1,h2,h3⟩,h4,h6⟩ hg hr
  exact ⟨⟨x,h0,(grownBy_keeps_cells hg (fun r e=>(hr r e).2) h1 rfl).trans h1,(grownBy_keeps_cells hg (fun r e=>(hr r e).2) h2 rfl).trans h2,(grownBy_keeps_cells hg (fun r e=>(hr r e).2) h3 rfl).trans h3⟩,ownFrom_below (β:=Unit) (Nat.le_refl _) (by omega) () A B row h4 hg hr,h6⟩
 case hAx =>
  rintro x a' u A B row ⟨Bv,e1,e2,e3⟩ hg hr
  exact ⟨Bv,e1,(grownBy_keeps_cells hg (fun r e=>(hr r e).2) e2 rfl).trans e2,e3⟩
 case assign =>
  intro l2 pre x W2 K ⟨⟨h1,h2,h3⟩,⟨h4,h5⟩,h6⟩ hK
  simp only[encS]
  gi_wp2
  have hb:Below W2.heap.size W2 (W2.alloc (.cells (bI x.2) 101)):=(Below.refl _ _).alloc (Nat.le_refl _) _
  exact hK _ _ (aX.alloc _ _ _) (nY.of_below hb (by omega) (by omega)) ⟨⟨(hb.block _ (by omega)).trans h1,(hb.block _ (by omega)).trans h2,(hb.block _ (by omega)).trans h3⟩,⟨h4.trans (hb.mono h4.size),by simp;omega⟩,h6⟩ ⟨W2.heap.size,by omega,World.alloc_heap_new _ _,rfl⟩
 case body =>
  rintro l2 pre x a' W2 ⟨⟨h1,h2,h3⟩,⟨h4,h5⟩,h6⟩ ⟨Bv,e1,e2,rfl⟩ hlen
  have k1:W2.aW Bv 0 9=some (bI x.2):=aI e2 (by simp)
  have kt:W2.aN (N+1) 0 9=true:=by simp[World.aN,h1]
  obtain ⟨⟨k2,k2f⟩,⟨k3,k3f⟩,hfin⟩:=aEx (c:=bI x.2) (u' := .int .i64 (x.1.toNat:Int)) (v' := .bool true) h1 h2 h3 (by simp)
  have HFN:=Lib.hid (hfin _ rfl)
  clear hfin
  have lB:Bv<W2.heap.size:=(Array.getElem?_eq_some_iff.1 e2).1
  have l1:N+1<W2.heap.size:=by omega
  have l2':N+1+1<W2.heap.size:=by omega
  have l3':N+1+1+1<W2.heap.size:=by omega
  have HH:=Lib.hid (And.intro h1 (And.intro h2 (And.intro h3 (And.intro h4 h6))))
  clear h1 h2 h3 h4 h5 h6
  gi_wp2
  have hn:=HNW.out
  refine ⟨?_,⟨x,by rw[HH.out.2.2.2.2];rfl,?_,?_,?_⟩,?_,rfl⟩
  ·exact ⟨Nat.le_of_eq HFN.out.2.2.2.1.symm,fun k hk _=>HFN.out.2.2.2.2.1 k (by omega) (by omega) (by omega)⟩
  ·exact HFN.out.1
  ·exact HFN.out.2.1
  ·exact HFN.out.2.2.1
  exact HH.out.2.2.2.1.trans ⟨HFN.out.2.2.2.2.2.1,HFN.out.2.2.2.2.2.2.1,HFN.out.2.2.2.2.2.2.2,Nat.le_of_eq HFN.out.2.2.2.1.symm,fun c hc=>HFN.out.2.2.2.2.1 c (by omega) (by omega) (by omega)⟩
 case done =>
  rintro D ys W2 hD rfl ⟨⟨h1,h2,h3⟩,⟨h4,h5⟩,h6⟩ hK
  have kt:W2.aN (N+1) 0 9=true:=by simp[World.aN,h1]
  obtain ⟨⟨k2,k2f⟩,⟨k3,k3f⟩,hfin⟩:=aEx (c:=bI Rec.zero) (u' := .int .i64 0) (v' := .bool false) h1 h2 h3 (by simp)
  have HFN:=Lib.hid (hfin _ rfl)
  clear hfin
  have l1:N+1<W2.heap.size:=by omega
  have l2':N+1+1<W2.heap.size:=by omega
  have l3':N+1+1+1<W2.heap.size:=by omega
  have HH:=Lib.hid (And.intro h1 (And.intro h2 (And.intro h3 (And.intro h4 h6))))
  clear h1 h2 h3 h4 h5 h6
  gi_wp2
  obtain ⟨V,hV⟩:∃ V,V=((W2.lay (N+1) 0 (bI Rec.zero)).setCell ⟨N+1+1,0,none⟩ (.int .i64 0)).setCell ⟨N+1+1+1,0,none⟩ (.bool false):=⟨_,rfl⟩
  rw[<-hV]
  have hf:=HFN.out
  rw[<-hV] at hf
  have hn:=HNW.out
  have hK2:V.heap[D]? = some (.deferred (some [])):=(hf.2.2.2.2.1 D (by omega) (by omega) (by omega)).trans hK
  have hA0:ys.head? = none:=by
   have:=HH.out.2.2.2.2
   rw[this];rfl
  have hbV:Below w.heap.size w V:=HH.out.2.2.2.1.trans ⟨hf.2.2.2.2.2.1,hf.2.2.2.2.2.2.1,hf.2.2.2.2.2.2.2,Nat.le_of_eq hf.2.2.2.1.symm,fun c hc=>hf.2.2.2.2.1 c (by omega) (by omega) (by omega)⟩
  refine ⟨by simp,.inl ⟨_,_,rfl,run_takeDeferred hK2,?_⟩⟩
  have hp:∀ b,b≠D->(V.putObj D (.deferred none)).heap[b]? = V.heap[b]? := fun b hb=>World.putObj_heap_other hb
  have r1:(V.putObj D (.deferred none)).aW (N+1) 0 9=some (bI Rec.zero):=aI ((hp _ (by omega)).trans hf.1) (by simp)
  have r2:(V.putObj D (.deferred none)).cell? ⟨N+1+1,0,none⟩=some (.int .i64 0):=(jR (hp _ (by omega))).1.trans hf.2.1.cell
  have r3:(V.putObj D (.deferred none)).cell? ⟨N+1+1+1,0,none⟩=some (.bool false):=(jR (hp _ (by omega))).1.trans hf.2.2.1.cell
  have hbD:Below w.heap.size w (V.putObj D (.deferred none)):=hbV.trans (belowK_b (w:=w) (Nat.le_refl _) _ D _ _ (by omega) hK2 rfl rfl)
  clear HH HFN hf hV hK hK2 hbV hp k2 k2f k3 k3f kt
  refine ⟨_,bK (u := .int .i64 0) (x := .bool false) Tryz.results23 (aO.row rfl gY r1) ⟨_,_,rfl,by simp[go_sem,r2]⟩ ⟨_,_,rfl,by simp[go_sem,r3]⟩,?_,hbD⟩
  rw[hA0]
  rfl
 rintro D c pre W2 hD hpre ⟨⟨x,h0,h1,h2,h3⟩,h4,rfl⟩ hK
 have HH:=Lib.hid (And.intro h1 (And.intro h2 (And.intro h3 (And.intro h4 (And.intro h0 hpre)))))
 clear h0 h1 h2 h3 h4 hpre
 gi_wp2
 have hn:=HNW.out
 obtain ⟨h1,h2,h3,h4,h0,hpre⟩:=HH.out
 have hA0:A.head? = some x:=by
  rw[h0] at hpre
  obtain ⟨q,hq⟩:=hpre
  rw[<-hq];rfl
 refine ⟨by simp,.inl ⟨_,_,rfl,run_takeDeferred hK,?_⟩⟩
 have hp:∀ b,b≠D->(W2.putObj D (.deferred none)).heap[b]? = W2.heap[b]? := fun b hb=>World.putObj_heap_other hb
 have r1:(W2.putObj D (.deferred none)).aW (N+1) 0 9=some (bI x.2):=aI ((hp _ (by omega)).trans h1) (by simp)
 have r2:(W2.putObj D (.deferred none)).cell? ⟨N+1+1,0,none⟩=some (.int .i64 (x.1.toNat:Int)):=(jR (hp _ (by omega))).1.trans h2.cell
 have r3:(W2.putObj D (.deferred none)).cell? ⟨N+1+1+1,0,none⟩=some (.bool true):=(jR (hp _ (by omega))).1.trans h3.cell
 have hbD:Below w.heap.size w (W2.putObj D (.deferred none)):=h4.trans (belowK_b (w:=w) (Nat.le_refl _) _ D _ _ (by omega) hK rfl rfl)
 clear HH hK h1 h2 h3 h4 h0 hpre hp
 refine ⟨_,bK (u := .int .i64 (x.1.toNat:Int)) (x := .bool true) Tryz.results23 (aO.row rfl gY r1) ⟨_,_,rfl,by simp[go_sem,r2]⟩ ⟨_,_,rfl,by simp[go_sem,r3]⟩,?_,hbD⟩
 rw[hA0]
 rfl
section
variable {w:World} {B vb s:Nat} {G:SG} {t:UInt64} {p b0:UInt8} {lv:Value} {P:List Lnk} {r:Rec}
theorem qZ (hS:aV w B s G) (hs:Short G 100000) (h:VAt w vb s t p lv P r) (hP:P.length<=1000) (hfst:P = [] \/ ∃ u q,P=(b0,u) :: q) (nm:List UInt8) (hn:nm.length=12) :
  Gives Tryz.prog 23 #[.pointer (some ⟨vb,0,none⟩),.agg (aJ nm)] w (xX (mJ (aQ G) t p b0 5 nm (zeros 10) ⟨hn,rfl⟩ P)):=by
 rw[wP]
 refine aEH _ _ P.length nm hn w ?_
 intro N W1 hN hbw hz c0 c1 c2 c3
 refine aAM 8 (by decide) B s G hs t p b0 vb lv P hP r 5 nm (zeros 10) ⟨hn,rfl⟩ (N+4) N W1 (by omega) (by omega) hfst (fun V hb => ?_) c0 c1 c2 c3
 have hwV:Below w.heap.size w V:=hbw.trans (by rw[<-hN];exact hb)
 exact ⟨h.up hwV,hS.keep hwV⟩
end
theorem aFx (vp:Option Addr) (A:List (UInt8×Rec)) (K:Nat) (nm tg:List UInt8) (hn:nm.length=12) (ht:tg.length=10) (w:World)
  (hst:∀ (N:Nat) (W1:World),N=w.heap.size->Below w.heap.size w W1->N+1+4+3<W1.heap.size->W1.cell? ⟨N+1+4,0,none⟩=some (.pointer vp)->W1.cell? ⟨N+1+4+1,0,none⟩=some (.int .i64 6)->W1.aW (N+1+4+2) 0 12=some (aJ nm)->W1.aW (N+1+4+3) 0 10=some (aJ tg) ->
   nZ Fence.wide 8 Tryz.prog 90 #[.pointer (some ⟨N+1+4,0,none⟩),.pointer (some ⟨N+1+4+1,0,none⟩),.pointer (some ⟨N+1+4+2,0,none⟩),.pointer (some ⟨N+1+4+3,0,none⟩)] encS (nY N (N+1+4)) (fun ys=>ys=A) (fun pre=>pre <+: A) K W1) :
  Gives Tryz.prog 26 #[.pointer vp,.agg (aJ nm),.agg (aJ tg)] w (xX A.head?):=by
 refine (callsIn_wide (n:=9)).1 ?_
 refine callsIn_of_wp_marks Tryz.func26 rfl trivial ?_ rfl
 simp only[Tryz.ntmps26,List.size_toArray,List.length_cons,List.length_nil,Nat.reduceAdd,Nat.reduceSub,Array.replicate_succ,Array.replicate_zero,List.push_toArray,List.append_toArray,List.nil_append,List.cons_append]
 gi_wp2_with fail
 refine ⟨trivial,?_⟩
 obtain ⟨N,hN⟩:∃ N,N=w.heap.size:=⟨_,rfl⟩
 obtain ⟨w0,hw0⟩:∃ w0,w0=w.alloc (.cells (aJ nm) 56):=⟨_,rfl⟩
 rw[<-hw0]
 have hz00:w0.heap.size=N+1:=by rw[hw0,hN];simp
 have hb00:Below w.heap.size w w0:=by rw[hw0];exact blw
 obtain ⟨W0,hW0⟩:∃ W0,W0=(((w0.alloc (.cells (aJ tg) 60)).alloc (.cells (bI Rec.zero) 101)).alloc (.cells #[.int .i64 0] 3)).alloc (.cells #[.bool false] 4):=⟨_,rfl⟩
 rw[<-hW0]
 obtain ⟨-,f1,f2,f3,hz0⟩:=yF w0 (.cells (aJ tg) 60) (.cells (bI Rec.zero) 101) (.cells #[.int .i64 0] 3) (.cells #[.bool false] 4)
 rw[<-hW0,hz00] at f1 f2 f3 hz0
 have hb0:Below w.heap.size w W0:=hb00.trans ((show Below w0.heap.size w0 W0 by rw[hW0];exact blw).mono hb00.size)
 refine (callsIn_wide.2 (aAZ vp 6 nm tg W0)).mono ?_
 rintro e w' ⟨rfl,rfl⟩
 obtain ⟨W1,hW1⟩:∃ W1,W1=(((W0.alloc (.cells #[.pointer vp] 29)).alloc (.cells #[.int .i64 6] 3)).alloc (.cells (aJ nm) 56)).alloc (.cells (aJ tg) 60):=⟨_,rfl⟩
 rw[<-hW1]
 obtain ⟨q0,q1,q2,q3,hz1⟩:=yF W0 (.cells #[.pointer vp] 29) (.cells #[.int .i64 6] 3) (.cells (aJ nm) 56) (.cells (aJ tg) 60)
 rw[<-hW1,hz0] at q0 q1 q2 q3 hz1
 have hb1:Below W0.heap.size W0 W1:=by rw[hW1];exact blw
 have c0:W1.cell? ⟨N+1+4,0,none⟩=some (.pointer vp):=(aF q0 0).1.trans rfl
 have c1:W1.cell? ⟨N+1+4+1,0,none⟩=some (.int .i64 6):=(aF q1 0).1.trans rfl
 have c2:W1.aW (N+1+4+2) 0 12=some (aJ nm):=aI q2 (by simp[hn])
 have c3:W1.aW (N+1+4+3) 0 10=some (aJ tg):=aI q3 (by simp[ht])
 have g1:=(hb1.block (N+1+1) (by omega)).trans f1
 have g2:Boxed W1 (N+1+2) 3 (.int .i64 0):=(hb1.block (N+1+2) (by omega)).trans f2
 have g3:Boxed W1 (N+1+3) 4 (.bool false):=(hb1.block (N+1+3) (by omega)).trans f3
 have hbw:Below w.heap.size w W1:=hb0.trans (hb1.mono hb0.size)
 simp only[hz0,<-hN]
 gi_wp2_with fail
 have HB0:=Lib.hid hbw
 have HST:=hst N W1 hN hbw (by omega) c0 c1 c2 c3
 have HNW:=Lib.hid hN
 have hNl:w.heap.size<=N:=Nat.le_of_eq hN.symm
 have hkx:=aGw (n₀:=N) (bx:=N+1+4) (w:=W1) (by omega) (by omega)
 have hz1':N+1+8<=W1.heap.size:=by omega
 clear hN hz1 hz0 hz00 hb00 hw0
 clear hW1 hW0 q0 q1 q2 q3 f1 f2 f3 hb0 hb1 c0 c1 c2 c3 hst
 refine kQ (n:=9) (gf:=90) (lb := #[.pointer (some ⟨N+1+4,0,none⟩),.pointer (some ⟨N+1+4+1,0,none⟩),.pointer (some ⟨N+1+4+2,0,none⟩),.pointer (some ⟨N+1+4+3,0,none⟩)]) rfl (by decide) rfl trivial (enters_of Tryz.func90 (by kernel_rfl) rfl)
  HST (fun h k=>h.trans k) hkx (Below.refl _ _) (fun _=>rfl)
  (fun pre W'=>(W'.heap[N+1+1]? = some (.cells (bI Rec.zero) 101)/\Boxed W' (N+1+2) 3 (.int .i64 0)/\Boxed W' (N+1+3) 4 (.bool false))/\(Below w.heap.size w W'/\N+1+8<=W'.heap.size)/\pre = [])
  (fun c pre W'=>(∃ x,pre = [x]/\W'.heap[N+1+1]? = some (.cells (bI x.2) 101)/\Boxed W' (N+1+2) 3 (.int .i64 (x.1.toNat:Int))/\Boxed W' (N+1+3) 4 (.bool true))/\Below w.heap.size w W'/\c = .ret)
  ?hI ?hIx ⟨⟨g1,g2,g3⟩,⟨hbw,hz1'⟩,rfl⟩
  (fun x a' W' => ∃ Bv,N+1+8<=Bv/\W'.heap[Bv]? = some (.cells (bI x.2) 101)/\a' = { tmps := #[.pointer vp,.agg (aJ nm),.agg (aJ tg),undef,.pointer (some ⟨N,0,none⟩),.pointer (some ⟨N+1,0,none⟩),.pointer (some ⟨N+1+1,0,none⟩),.pointer (some ⟨N+1+1+1,0,none⟩),.pointer (some ⟨N+1+1+1+1,0,none⟩),.int .i64 (x.1.toNat:Int),.pointer (some ⟨Bv,0,none⟩),.pointer vp,.agg (aJ nm),.agg (aJ tg),
   .func (.func 90) #[] #[.pointer (some ⟨N+1+4,0,none⟩),.pointer (some ⟨N+1+4+1,0,none⟩),.pointer (some ⟨N+1+4+2,0,none⟩),.pointer (some ⟨N+1+4+3,0,none⟩)],.int .i64 (x.1.toNat:Int),.agg (bI x.2),undef,undef,undef],defers := [] })
  ?hAx ?assign ?body ?done ?stop
 case hI =>
  rintro pre A B row ⟨⟨h1,h2,h3⟩,⟨h4,h5⟩,h6⟩ hg hr
  exact ⟨⟨(grownBy_keeps_cells hg (fun r e=>(hr r e).2) h1 rfl).trans h1,(grownBy_keeps_cells hg (fun r e=>(hr r e).2) h2 rfl).trans h2,(grownBy_keeps_cells hg (fun r e=>(hr r e).2) h3 rfl).trans h3⟩,⟨ownFrom_below (β:=Unit) (Nat.le_refl _) (by omega) () A B row h4 hg hr,Nat.le_trans h5 hg.size⟩,h6⟩
 case hIx =>
  rintro c pre A B row ⟨⟨x,h0,h1,h2,h3⟩,h4,h6⟩ hg hr
  exact ⟨⟨x,h0,(grownBy_keeps_cells hg (fun r e=>(hr r e).2) h1 rfl).trans h1,(grownBy_keeps_cells hg (fun r e=>(hr r e).2) h2 rfl).trans h2,(grownBy_keeps_cells hg (fun r e=>(hr r e).2) h3 rfl).trans h3⟩,ownFrom_below (β:=Unit) (Nat.le_refl _) (by omega) () A B row h4 hg hr,h6⟩
 case hAx =>
  rintro x a' u A B row ⟨Bv,e1,e2,e3⟩ hg hr
  exact ⟨Bv,e1,(grownBy_keeps_cells hg (fun r e=>(hr r e).2) e2 rfl).trans e2,e3⟩
 case assign =>
  intro l2 pre x W2 K ⟨⟨h1,h2,h3⟩,⟨h4,h5⟩,h6⟩ hK
  simp only[encS]
  gi_wp2
  have hb:Below W2.heap.size W2 (W2.alloc (.cells (bI x.2) 101)):=(Below.refl _ _).alloc (Nat.le_refl _) _
  exact hK _ _ (aX.alloc _ _ _) (nY.of_below hb (by omega) (by omega)) ⟨⟨(hb.block _ (by omega)).trans h1,(hb.block _ (by omega)).trans h2,(hb.block _ (by omega)).trans h3⟩,⟨h4.trans (hb.mono h4.size),by simp;omega⟩,h6⟩ ⟨W2.heap.size,by omega,World.alloc_heap_new _ _,rfl⟩
 case body =>
  rintro l2 pre x a' W2 ⟨⟨h1,h2,h3⟩,⟨h4,h5⟩,h6⟩ ⟨Bv,e1,e2,rfl⟩ hlen
  have k1:W2.aW Bv 0 9=some (bI x.2):=aI e2 (by simp)
  have kt:W2.aN (N+1+1) 0 9=true:=by simp[World.aN,h1]
  obtain ⟨⟨k2,k2f⟩,⟨k3,k3f⟩,hfin⟩:=aEx (c:=bI x.2) (u' := .int .i64 (x.1.toNat:Int)) (v' := .bool true) h1 h2 h3 (by simp)
  have HFN:=Lib.hid (hfin _ rfl)
  clear hfin
  have lB:Bv<W2.heap.size:=(Array.getElem?_eq_some_iff.1 e2).1
  have l1:N+1+1<W2.heap.size:=by omega
  have l2':N+1+1+1<W2.heap.size:=by omega
  have l3':N+1+1+1+1<W2.heap.size:=by omega
  have HH:=Lib.hid (And.intro h1 (And.intro h2 (And.intro h3 (And.intro h4 h6))))
  clear h1 h2 h3 h4 h5 h6
  gi_wp2
  have hnw:=HNW.out
  refine ⟨?_,⟨x,by rw[HH.out.2.2.2.2];rfl,?_,?_,?_⟩,?_,rfl⟩
  ·exact ⟨Nat.le_of_eq HFN.out.2.2.2.1.symm,fun k hk _=>HFN.out.2.2.2.2.1 k (by omega) (by omega) (by omega)⟩
  ·exact HFN.out.1
  ·exact HFN.out.2.1
  ·exact HFN.out.2.2.1
  exact HH.out.2.2.2.1.trans ⟨HFN.out.2.2.2.2.2.1,HFN.out.2.2.2.2.2.2.1,HFN.out.2.2.2.2.2.2.2,Nat.le_of_eq HFN.out.2.2.2.1.symm,fun c hc=>HFN.out.2.2.2.2.1 c (by omega) (by omega) (by omega)⟩
 case done =>
  rintro D ys W2 hD rfl ⟨⟨h1,h2,h3⟩,⟨h4,h5⟩,h6⟩ hK
  have kt:W2.aN (N+1+1) 0 9=true:=by simp[World.aN,h1]
  obtain ⟨⟨k2,k2f⟩,⟨k3,k3f⟩,hfin⟩:=aEx (c:=bI Rec.zero) (u' := .int .i64 0) (v' := .bool false) h1 h2 h3 (by simp)
  have HFN:=Lib.hid (hfin _ rfl)
  clear hfin
  have l1:N+1+1<W2.heap.size:=by omega
  have l2':N+1+1+1<W2.heap.size:=by omega
  have l3':N+1+1+1+1<W2.heap.size:=by omega
  have HH:=Lib.hid (And.intro h1 (And.intro h2 (And.intro h3 (And.intro h4 h6))))
  clear h1 h2 h3 h4 h5 h6
  gi_wp2
  obtain ⟨V,hV⟩:∃ V,V=((W2.lay (N+1+1) 0 (bI Rec.zero)).setCell ⟨N+1+1+1,0,none⟩ (.int .i64 0)).setCell ⟨N+1+1+1+1,0,none⟩ (.bool false):=⟨_,rfl⟩
  rw[<-hV]
  have hf:=HFN.out
  rw[<-hV] at hf
  have hnw:=HNW.out
  have hK2:V.heap[D]? = some (.deferred (some [])):=(hf.2.2.2.2.1 D (by omega) (by omega) (by omega)).trans hK
  have hA0:ys.head? = none:=by
   have:=HH.out.2.2.2.2
   rw[this];rfl
  have hbV:Below w.heap.size w V:=HH.out.2.2.2.1.trans ⟨hf.2.2.2.2.2.1,hf.2.2.2.2.2.2.1,hf.2.2.2.2.2.2.2,Nat.le_of_eq hf.2.2.2.1.symm,fun c hc=>hf.2.2.2.2.1 c (by omega) (by omega) (by omega)⟩
  refine ⟨by simp,.inl ⟨_,_,rfl,run_takeDeferred hK2,?_⟩⟩
  have hp:∀ b,b≠D->(V.putObj D (.deferred none)).heap[b]? = V.heap[b]? := fun b hb=>World.putObj_heap_other hb
  have r1:(V.putObj D (.deferred none)).aW (N+1+1) 0 9=some (bI Rec.zero):=aI ((hp _ (by omega)).trans hf.1) (by simp)
  have r2:(V.putObj D (.deferred none)).cell? ⟨N+1+1+1,0,none⟩=some (.int .i64 0):=(jR (hp _ (by omega))).1.trans hf.2.1.cell
  have r3:(V.putObj D (.deferred none)).cell? ⟨N+1+1+1+1,0,none⟩=some (.bool false):=(jR (hp _ (by omega))).1.trans hf.2.2.1.cell
  have hbD:Below w.heap.size w (V.putObj D (.deferred none)):=hbV.trans (belowK_b (w:=w) (Nat.le_refl _) _ D _ _ (by omega) hK2 rfl rfl)
  clear HH HFN hf hV hK hK2 hbV hp k2 k2f k3 k3f kt
  refine ⟨_,bK (u := .int .i64 0) (x := .bool false) Tryz.results26 (aO.row rfl gY r1) ⟨_,_,rfl,by simp[go_sem,r2]⟩ ⟨_,_,rfl,by simp[go_sem,r3]⟩,?_,hbD⟩
  rw[hA0]
  rfl
 rintro D c pre W2 hD hpre ⟨⟨x,h0,h1,h2,h3⟩,h4,rfl⟩ hK
 have HH:=Lib.hid (And.intro h1 (And.intro h2 (And.intro h3 (And.intro h4 (And.intro h0 hpre)))))
 clear h0 h1 h2 h3 h4 hpre
 gi_wp2
 have hnw:=HNW.out
 obtain ⟨h1,h2,h3,h4,h0,hpre⟩:=HH.out
 have hA0:A.head? = some x:=by
  rw[h0] at hpre
  obtain ⟨q,hq⟩:=hpre
  rw[<-hq];rfl
 refine ⟨by simp,.inl ⟨_,_,rfl,run_takeDeferred hK,?_⟩⟩
 have hp:∀ b,b≠D->(W2.putObj D (.deferred none)).heap[b]? = W2.heap[b]? := fun b hb=>World.putObj_heap_other hb
 have r1:(W2.putObj D (.deferred none)).aW (N+1+1) 0 9=some (bI x.2):=aI ((hp _ (by omega)).trans h1) (by simp)
 have r2:(W2.putObj D (.deferred none)).cell? ⟨N+1+1+1,0,none⟩=some (.int .i64 (x.1.toNat:Int)):=(jR (hp _ (by omega))).1.trans h2.cell
 have r3:(W2.putObj D (.deferred none)).cell? ⟨N+1+1+1+1,0,none⟩=some (.bool true):=(jR (hp _ (by omega))).1.trans h3.cell
 have hbD:Below w.heap.size w (W2.putObj D (.deferred none)):=h4.trans (belowK_b (w:=w) (Nat.le_refl _) _ D _ _ (by omega) hK rfl rfl)
 clear HH hK h1 h2 h3 h4 h0 hpre hp
 refine ⟨_,bK (u := .int .i64 (x.1.toNat:Int)) (x := .bool true) Tryz.results26 (aO.row rfl gY r1) ⟨_,_,rfl,by simp[go_sem,r2]⟩ ⟨_,_,rfl,by simp[go_sem,r3]⟩,?_,hbD⟩
 rw[hA0]
 rfl
section
variable {w:World} {B vb s:Nat} {G:SG} {t:UInt64} {p b0:UInt8} {lv:Value} {P:List Lnk} {r:Rec}
theorem aEO (hS:aV w B s G) (hs:Short G 100000) (h:VAt w vb s t p lv P r) (hP:P.length<=1000) (hfst:P = [] \/ ∃ u q,P=(b0,u) :: q) (nm tg:List UInt8) (hn:nm.length=12) (ht:tg.length=10) :
  Gives Tryz.prog 26 #[.pointer (some ⟨vb,0,none⟩),.agg (aJ nm),.agg (aJ tg)] w (xX (mJ (aQ G) t p b0 6 nm tg ⟨hn,ht⟩ P)):=by
 rw[wP]
 refine aFx _ _ P.length nm tg hn ht w ?_
 intro N W1 hN hbw hz c0 c1 c2 c3
 refine aAM 8 (by decide) B s G hs t p b0 vb lv P hP r 6 nm tg ⟨hn,ht⟩ (N+1+4) N W1 (by omega) (by omega) hfst (fun V hb => ?_) c0 c1 c2 c3
 have hwV:Below w.heap.size w V:=hbw.trans (by rw[<-hN];exact hb)
 exact ⟨h.up hwV,hS.keep hwV⟩
end
end Go.Proofs.YtcedmfnlkelhkaaGreatDoor
namespace Go.Proofs.YtcedmfnlkelhkaaGreatDoor
set_option maxHeartbeats 40000000
set_option maxRecDepth 100000
open Go.RowKit Go.Shelf

def stateT (o q:Option (UInt8×Rec)):Value := .tuple #[.int .i64 ((mM o q).1.toNat:Int),.agg (bI (mM o q).2.1),.bool (mM o q).2.2]
section
variable {w:World} {B vb s:Nat} {G:SG} {t:UInt64} {p b0:UInt8} {lv:Value} {P:List Lnk} {r:Rec}
theorem aAT (hS:aV w B s G) (hs:Short G 100000) (h:VAt w vb s t p lv P r) (hP:P.length<=1000) (hfst:P = [] \/ ∃ u q,P=(b0,u) :: q) (nm tg:List UInt8) (hn:nm.length=12) (ht:tg.length=10) :
  Gives Tryz.prog 27 #[.pointer (some ⟨vb,0,none⟩),.agg (aJ nm),.agg (aJ tg)] w (stateT (mJ (aQ G) t p b0 5 nm (zeros 10) ⟨hn,rfl⟩ P) (mJ (aQ G) t p b0 6 nm tg ⟨hn,ht⟩ P)):=by
 have hso:=fun (V:World) (hb:Below w.heap.size w V)=>qZ (hS.keep hb) hs (h.up hb) hP hfst nm hn
 have htr:=fun (V:World) (hb:Below w.heap.size w V)=>aEO (hS.keep hb) hs (h.up hb) hP hfst nm tg hn ht
 generalize mJ (aQ G) t p b0 5 nm (zeros 10) ⟨hn,rfl⟩ P=o at *
 generalize mJ (aQ G) t p b0 6 nm tg ⟨hn,ht⟩ P=q at *
 have hnl:(aJ nm).size=12:=by simp[hn]
 have htl:(aJ tg).size=10:=by simp[ht]
 clear hS hs h hP hfst
 cases o with
 | none =>
  simp only[xX,aCH] at hso
  have HSO:=Lib.hid hso
  simp only[stateT,mM]
  clear hso htr
  unfold Gives
  go_enter Tryz.func27,Tryz.ntmps27
  go_wp2_with fail
  refine Gives.use (HSO.out _ blw) ?_
  intro xs d
  go_wp2_with fail
  exact bodyPost_ret (v := .tuple #[.int .i64 0,.agg (bI Rec.zero),.bool false]) (bK Tryz.results27 (by simp[aO]) (aO.row rfl gY (by simp[go_sem])) (by simp[aO])) rfl ⟨rfl,blw⟩
 | some x =>
  obtain ⟨xb,xr⟩:=x
  simp only[xX,aCH] at hso
  have HSO:=Lib.hid hso
  clear hso
  have hx5:(bI xr)[5]? = some (.bool xr.gone):=rfl
  have hx6:(bI xr)[6]? = some (.int .u32 (xr.rev.toNat:Int)):=rfl
  by_cases hg:xr.gone=true
  ·have hst:mM (some (xb,xr)) q=(0,Rec.zero,false):=by
    unfold mM
    cases q with
    | none=>rfl
    | some y=>simp only[hg,if_true]
   simp only[stateT,hst]
   clear htr hst
   obtain ⟨x0,x1,x2,x3,x4,x5,x6,x7,x8⟩:=xr
   simp only at hg
   subst hg
   unfold Gives
   go_enter Tryz.func27,Tryz.ntmps27
   go_wp2_with fail
   refine Gives.use (HSO.out _ blw) ?_
   intro xs d
   go_wp2_with fail
   exact bodyPost_ret (v := .tuple #[.int .i64 0,.agg (bI Rec.zero),.bool false]) (bK Tryz.results27 (by simp[aO]) (aO.row rfl gY (by simp[go_sem])) (by simp[aO])) rfl ⟨rfl,blw⟩
  have hg0:xr.gone=false:=by simpa using hg
  cases q with
  | none =>
   simp only[xX,aCH] at htr
   have HTR:=Lib.hid htr
   simp only[stateT,mM]
   clear htr hg
   obtain ⟨x0,x1,x2,x3,x4,x5,x6,x7,x8⟩:=xr
   simp only at hg0
   subst hg0
   unfold Gives
   go_enter Tryz.func27,Tryz.ntmps27
   go_wp2_with fail
   refine Gives.use (HSO.out _ blw) ?_
   intro xs d
   go_wp2_with fail
   refine Gives.use (HTR.out _ blw) ?_
   intro ys e
   go_wp2_with fail
   exact bodyPost_ret (v := .tuple #[.int .i64 0,.agg (bI Rec.zero),.bool false]) (bK Tryz.results27 (by simp[aO]) (aO.row rfl gY (by simp[go_sem])) (by simp[aO])) rfl ⟨rfl,blw⟩
  | some y =>
   obtain ⟨yb,yr⟩:=y
   simp only[xX,aCH] at htr
   have HTR:=Lib.hid htr
   clear htr hg
   have hwp:IntKind.i64.wrap (yr.state.toNat:Int)=yr.state.toNat:=IntWalk.i64_in _ (by have:=yr.state.toNat_lt;omega)
   by_cases he:yr.rev=xr.rev
   ·have hst:mM (some (xb,xr)) (some (yb,yr))=(yr.state,yr,true):=by
     simp only[mM,hg0,he,if_true,Bool.false_eq_true,if_false]
    simp only[stateT,hst]
    have hq:((yr.rev.toNat:Int) == (xr.rev.toNat:Int))=true:=by rw[he];simp
    clear hst he
    have hy6:(bI yr)[6]? = some (.int .u32 (yr.rev.toNat:Int)):=rfl
    unfold Gives
    go_enter Tryz.func27,Tryz.ntmps27
    go_wp2_with fail
    refine Gives.use (HSO.out _ blw) ?_
    intro xs d
    go_wp2_with fail
    refine Gives.use (HTR.out _ blw) ?_
    intro ys e
    go_wp2_with fail
    go_region
    all_goals (go_wp2_with fail;exact bodyPost_ret (v := .tuple #[.int .i64 (yr.state.toNat:Int),.agg (bI yr),.bool true]) (bK Tryz.results27 (by simp[aO]) (aO.row rfl gY (by simp[go_sem])) (by simp[aO])) rfl ⟨rfl,blw⟩)
   have hst:mM (some (xb,xr)) (some (yb,yr))=(5,yr,true):=by
    simp only[mM,hg0,if_neg he,Bool.false_eq_true,if_false]
   simp only[stateT,hst]
   have hq:((yr.rev.toNat:Int) == (xr.rev.toNat:Int))=false:=by
    rw[beq_eq_false_iff_ne]
    intro e
    exact he (UInt32.toNat_inj.1 (by omega))
   clear hst he
   unfold Gives
   go_enter Tryz.func27,Tryz.ntmps27
   go_wp2_with fail
   refine Gives.use (HSO.out _ blw) ?_
   intro xs d
   go_wp2_with fail
   refine Gives.use (HTR.out _ blw) ?_
   intro ys e
   go_wp2_with fail
   go_region
   all_goals (go_wp2_with fail;exact bodyPost_ret (v := .tuple #[.int .i64 5,.agg (bI yr),.bool true]) (bK Tryz.results27 (by simp[aO]) (aO.row rfl gY (by simp[go_sem])) (by simp[aO])) rfl ⟨rfl,blw⟩)
end
end Go.Proofs.YtcedmfnlkelhkaaGreatDoor
namespace Go.Proofs.YtcedmfnlkelhkaaGreatDoor
set_option maxHeartbeats 40000000
set_option maxRecDepth 100000
open Go.RowKit

def VwT (N s:Nat) (t:UInt64) (p:UInt8) (P:List Lnk) (own:Rec) (v:Value) (W:World):Prop := ∃ vb lv,v = .tuple #[.pointer (some ⟨vb,0,none⟩),.int .i64 0]/\N<=vb/\nX N lv/\VAt W vb s t p lv P own
def VwP (N s:Nat) (t:UInt64) (p:UInt8) (P:List Lnk) (own:Rec) (v:Value) (W:World):Prop := ∃ vb lv,v = .pointer (some ⟨vb,0,none⟩)/\N<=vb/\nX N lv/\VAt W vb s t p lv P own
theorem VwT.keep {N s:Nat} {t:UInt64} {p:UInt8} {P:List Lnk} {own:Rec} {v:Value} {W W':World} (h:VwT N s t p P own v W) (hb:Below W.heap.size W W'):VwT N s t p P own v W':=by
 obtain ⟨vb,lv,e,h1,h2,h3⟩:=h
 exact ⟨vb,lv,e,h1,h2,h3.up hb⟩
theorem VwP.keep {N s:Nat} {t:UInt64} {p:UInt8} {P:List Lnk} {own:Rec} {v:Value} {W W':World} (h:VwP N s t p P own v W) (hb:Below W.heap.size W W'):VwP N s t p P own v W':=by
 obtain ⟨vb,lv,e,h1,h2,h3⟩:=h
 exact ⟨vb,lv,e,h1,h2,h3.up hb⟩
section
variable {w:World} {B s:Nat} {G:SG}
theorem aGH (hS:aV w B s G) (hs:Short G 100000) (t:UInt64) (p b:Int) (N:Nat) (hN:N<=w.heap.size) :
  (∃ er:Int,er≠0 /\ ∀ V,Below w.heap.size w V->Gives Tryz.prog 19 #[.iface 96 (.agg #[.pointer (some ⟨s,0,none⟩),.int .u64 (t.toNat:Int)]),.int .i64 p,.int .i64 b] V (.tuple #[.pointer none,.int .i64 er])) \/
  (∃ p8 b8:UInt8,p=p8.toNat/\b=b8.toNat/\p8.toNat<4/\b8.toNat<4/\(atV (aQ G (jH 4 p8 b8)) t).2=true /\ ∀ V,Below w.heap.size w V->Calls Tryz.prog 19 #[.iface 96 (.agg #[.pointer (some ⟨s,0,none⟩),.int .u64 (t.toNat:Int)]),.int .i64 p,.int .i64 b] V fun e w'=>Below V.heap.size V w' /\
   ∃ u,e = .returned u/\VwT N s t p8 (dG (aQ G) t p8 b8 257 [] (b8,qO)) (atV (aQ G (jH 4 p8 b8)) t).1 u w'):=by
 by_cases hr:p<0\/4<=p\/b<0\/4<=b
 ·exact .inl ⟨5,by decide,fun V _=>Dn.aDY s t p b hr V⟩
 have hp:p.toNat<4/\(p.toNat:Int)=p:=by omega
 have hb:b.toNat<4/\(b.toNat:Int)=b:=by omega
 have ep:(UInt8.ofNat p.toNat).toNat=p.toNat:=by rw[UInt8.toNat_ofNat'];omega
 have eb:(UInt8.ofNat b.toNat).toNat=b.toNat:=by rw[UInt8.toNat_ofNat'];omega
 by_cases ht:(atV (aQ G (jH 4 (UInt8.ofNat p.toNat) (UInt8.ofNat b.toNat))) t).2=true
 ·refine .inr ⟨UInt8.ofNat p.toNat,UInt8.ofNat b.toNat,by omega,by omega,by omega,by omega,ht,fun V hV => ?_⟩
  have:=Dn.aAY (hS.keep hV) hs t (UInt8.ofNat p.toNat) (UInt8.ofNat b.toNat) (by omega) (by omega) ht
  rw[ep,eb,hp.2,hb.2] at this
  refine Calls.mono this ?_
  rintro e w' ⟨h1,vb,lv,rfl,h2,h3,h4⟩
  have:=hV.size
  exact ⟨h1,_,rfl,vb,lv,rfl,by omega,h3.mono (by omega),h4⟩
 refine .inl ⟨7,by decide,fun V hV => ?_⟩
 have:=Dn.aEQ (hS.keep hV) hs t (UInt8.ofNat p.toNat) (UInt8.ofNat b.toNat) (by omega) (by omega) (by simpa using ht)
 rw[ep,eb,hp.2,hb.2] at this
 exact this
end
end Go.Proofs.YtcedmfnlkelhkaaGreatDoor
