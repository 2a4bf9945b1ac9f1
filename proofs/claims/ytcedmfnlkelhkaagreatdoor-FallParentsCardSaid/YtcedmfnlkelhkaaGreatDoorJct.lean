/- Layer 5: a tag's chain as a list; does a tag stand in it? -/
import Derived.Test.YtcedmfnlkelhkaaGreatDoorJcs
namespace Go.Proofs.YtcedmfnlkelhkaaGreatDoor.Rd
set_option maxHeartbeats 40000000
set_option maxRecDepth 100000
open Go.RowKit Go.Shelf
attribute [local go_sem] Oper.semAt_some

theorem aKn {t:List UInt8} (ht:t.length=10):∀ u∈upL t,u.length=10:=by
 unfold upL chT
 split
 ·exact aAz t ht
 intro u hu;cases hu
theorem wI {w:World} {B sz n:Nat} {e:TypeId} {v:Value} {xs:List Value} (h:w.ownsRow B e sz v n xs):∀ g,v.ownBlock=some g->B<=g /\ ∃ c,w.heap[g]? = some (.cells c e (0,0)):=by
 intro g hg
 rcases h.2 with ⟨rfl,_⟩ | ⟨g',cap,cur,rfl,hb,hh,_⟩
 ·cases hg
 obtain rfl:g'=g:=by simpa [Value.ownBlock] using hg
 exact ⟨hb,_,hh⟩
theorem aHN {w:World} {B B' sz n:Nat} {e:TypeId} {v:Value} {xs:List Value} (h:w.ownsRow B e sz v n xs) (hB:B'<=B):w.ownsRow B' e sz v n xs:=by
 refine ⟨h.1,?_⟩
 rcases h.2 with h0 | ⟨g,cap,cur,rfl,hb,hh⟩
 ·exact .inl h0
 exact .inr ⟨g,cap,cur,rfl,Nat.le_trans hB hb,hh⟩
theorem aIw:kE Tryz.prog 26 60 10 10:=⟨Tryz.underlying26,by kernel_rfl,by decide,by decide⟩
theorem aFJ {P:Program} {w:World} {B sz bytes:Nat} {t e ty:TypeId} {v:Value} {xs:List (Array Value)} (R:kE P t e sz bytes) (h:gU w B sz e v xs) (hv:xs = []->v = .slice none 0 0) {b:Nat} {y:Array Value} (hb:w.heap[b]? = some (.cells y e)) (hy:y.size=sz) (h1:bZ y=true) (hn:xs.length+1<=100000) (hB:B<=w.heap.size) :
  ∃ v' w',(Builtin.append_ #[t,t] ty #[v,.slice (some ⟨b,0,none⟩) 1 1]).run P w = .ok v' w'/\gU w' B sz e v' (xs ++ [y])/\w.grownBy w' v.ownBlock /\ ∀ (k:Nat) (c:Array Value),w.heap[k]? = some (.cells c e)->c.size=sz->w'.heap[k]? = w.heap[k]? := by
 have hsl:SlA w w.heap.size sz (.slice (some ⟨b,0,none⟩) 1 1) [y]:=(pW (Nat.le_refl _) (by decide) (aI hb hy)).more (dI hb)
 obtain ⟨v',w',hr,h2,h3,h4⟩:=vN (ty:=ty) R h hsl (fun x hx=>by rw[List.mem_singleton.1 hx];exact h1) hn hB
 refine ⟨v',w',hr,h2,h3,fun k c hk hc => ?_⟩
 by_cases hkb:some k=v.ownBlock
 ·rcases h.2.2 with ⟨rfl,_⟩ | ⟨g,cap,cur,rfl,hbg,hg,hnc,hcm,hcs,htake⟩
  ·cases hkb
  have hgk:k=g:=by simpa [Value.ownBlock] using hkb
  subst hgk
  rw[hg] at hk
  have hcc:cur=c:=by
   have:=Option.some.inj hk
   simp only[Obj.cells.injEq] at this
   exact this.1
  subst hcc
  obtain ⟨ht,hi,hsz,hby⟩:=R
  have hcap:cap=1:=by
   rw[hcs] at hc
   exact Nat.eq_of_mul_eq_mul_right hsz (by rw[hc,Nat.one_mul])
  have hx1:xs ≠ []:=fun e=>by have:=hv e;cases this
  have hxl:1<=xs.length:=List.length_pos_iff.2 hx1
  cases hq:P.info? e with
  | none=>simp[hq] at hi
  | some i =>
   simp only[hq,Option.map_some,Option.some.injEq,Prod.mk.injEq,Option.map_eq_some_iff] at hi
   obtain ⟨hi1,hi2,z,hz,hz2⟩:=hi
   have hrg:=run_append_grow (P:=P) w t ty e i z ht hq hz ⟨k,0,none⟩ xs.length cap (lD xs) (by rw[hi1];exact h.2.1) (fun j u hu=>h.2.cells (g:=k) rfl j u hu) ⟨b,0,none⟩ 1 1 (lD [y]) (by simp[lD,hi1,hy]) (fun j u hu=>by
    rw[addr_add]
    have hj:j<y.size:=by
     have:=(List.getElem?_eq_some_iff.1 hu).1
     simpa [lD] using this
    have hc:w.cell? ⟨b,j,none⟩=y[j]? := by simp[World.cell?,hb]
    rw[Nat.zero_add,hc]
    simpa [lD] using hu) (by omega) (by omega) (growslice_fits (by omega) (by rw[hi2];exact Nat.le_trans (Nat.mul_le_mul hn hby) (by decide)))
   rw[hr] at hrg
   injection hrg with _ hw
   rw[hw]
   first | exact heap_alloc_old w.drew _ (dI hg) | exact heap_alloc_old w.drew _ _ (dI hg)
 exact h3.block k (dI hk) hkb
theorem aCI {F:Fence} {n:Nat} {P:Program} {w w':World} {t:TypeId} {v v' y:Value} {ops:Array Oper} {rest:List Oper} {o:Oper} {a:Act} {Q:Exit->Act->World->Prop} (s x:Operand) (hgd:o.guard=none)
  (ho:o.op = .call { callee := .builtin .append,args := #[s,x],argTypes := #[t,t] }) (hs:a.eval s=v) (hx:a.eval x=y) (hr:(Builtin.append_ #[t,t] o.type #[v,y]).run P w = .ok v' w')
  (hK:wpListIn F n P ops Q rest (a.put o.dst v') w'):wpListIn F n P ops Q (o :: rest) a w:=by
 refine wpListIn_plain hgd fun K' hK' => ?_
 unfold Oper.wpIn
 refine ⟨by simp[Oper.about,ho,resolve,Target.leads,Sem.run_pure],?_⟩
 rw[Oper.semAt_plain F _ _ (by rw[ho];intro c hc';cases hc')]
 simp[execOp,ho,resolve,invoke,builtin,hs,hx,hr,Result.andThen]
 exact hK' _ _ hK
def kpT:Obj->Bool:=fun o=>match o with | .cells c t _=>t != 60 || c.size == 10 | _=>true
theorem aLs (o:Obj) (h:o.isCells=false):kpT o=true:=by cases o <;> first | rfl | cases h
theorem aKG (l:List UInt8) (h:l.length=10):kpT (.cells (aJ l) 60)=true:=by
 unfold kpT
 simp[h]
structure oU (ob:Nat) (W W':World):Prop where
 os:W'.os=W.os
 tape:W'.tape=W.tape
 output:W'.output=W.output
 size:W.heap.size<=W'.heap.size
 same:∀ b,b<W.heap.size->b≠ob->W'.heap[b]? = W.heap[b]?
theorem oU.refl (ob:Nat) (W:World):oU ob W W:=⟨rfl,rfl,rfl,Nat.le_refl _,fun _ _ _=>rfl⟩
def aIH (M ob:Nat) (xs:List (Array Value)) (W:World):Prop := ∃ v,Boxed W ob 26 v/\gU W M 10 60 v xs/\(xs = []->v = .slice none 0 0)
theorem aC9 {M ob:Nat} {xs:List (Array Value)} {A B W:World} {row:Option Nat} (h:aIH M ob xs A/\oU ob W A) (hg:A.grownBy B row) (hr:∀ r,row=some r->W.heap.size<=r /\ ∃ o:Obj,A.heap[r]? = some o/\o.isCells=false):aIH M ob xs B/\oU ob W B:=by
 obtain ⟨⟨v,h1,h2,h3⟩,h4⟩:=h
 refine ⟨⟨v,(grownBy_keeps_cells hg (fun r e=>(hr r e).2) h1 rfl).trans h1,h2.keep fun g hgo hgl => ?_,h3⟩,⟨hg.os.trans h4.os,hg.tape.trans h4.tape,hg.output.trans h4.output,Nat.le_trans h4.size hg.size,fun b hb hne=>(hg.block b (Nat.lt_of_lt_of_le hb h4.size) (fun e=>by have:=(hr b e.symm).1;omega)).trans (h4.same b hb hne)⟩⟩
 obtain ⟨c,hc⟩:=(wI h2.2 g hgo).2
 exact (grownBy_keeps_cells hg (fun r e=>(hr r e).2) hc rfl)
theorem aDO (t:List UInt8) (ht:t.length=10) (w:World):Calls Tryz.prog 76 #[.agg (aJ t)] w fun e w' => ∃ v',e = .returned v'/\Below w.heap.size w w'/\gU w' w.heap.size 10 60 v' ((upL t).map aJ):=by
 refine (callsIn_wide (n:=9)).1 ?_
 refine callsIn_of_wp_marks Tryz.func76 rfl trivial ?_ rfl
 simp only[Tryz.ntmps76,List.size_toArray,List.length_cons,List.length_nil,Nat.reduceAdd,Nat.reduceSub,Array.replicate_succ,Array.replicate_zero,List.push_toArray,List.append_toArray,List.nil_append,List.cons_append]
 gi_wp2_with fail
 refine ⟨trivial,?_⟩
 refine (callsIn_wide.2 (aDT t _)).mono ?_
 rintro e w2 ⟨rfl,rfl⟩
 gi_wp2_with fail
 obtain ⟨N,hN⟩:∃ N,N=w.heap.size:=⟨_,rfl⟩
 obtain ⟨W2,hW2⟩:∃ W2,W2=((w.alloc (.cells (aJ t) 60)).alloc (.cells #[.slice none 0 0] 26)).alloc (.cells (aJ t) 60):=⟨_,rfl⟩
 have hz2:W2.heap.size=N+3:=by rw[hW2,hN];simp
 have c1:Boxed W2 (N+1) 26 (.slice none 0 0):=by rw[hW2,hN];exact (aC _ _ _).trans ((if_neg (by simp)).trans ((aC _ _ _).trans (if_pos (by simp))))
 have c2:W2.heap[N+1+1]? = some (.cells (aJ t) 60):=by rw[hW2,hN];exact (aC _ _ _).trans (if_pos (by simp))
 have hb2:Below w.heap.size w W2:=by rw[hW2];exact blw
 rw[<-hW2]
 simp only[<-hN]
 have HNW:=Lib.hid hN
 have HB2:=Lib.hid hb2
 clear hW2 hN hb2
 refine tX aLs (n:=9) (gf:=77) (lb := #[.pointer (some ⟨N+1+1,0,none⟩)]) rfl (by decide) rfl trivial (enters_of Tryz.func77 (by kernel_rfl) rfl)
  (aDU (kp:=kpT) aKG 8 (by decide) t ht (N+1+1) (fun _ _=>True) W2 c2)
  (fun _ _=>trivial) (fun _ _ _ _ _ _ _ _=>trivial) (Below.refl _ _) (fun _=>rfl)
  (fun pre W'=>aIH W2.heap.size (N+1) (pre.map fun x=>aJ x.1) W'/\oU (N+1) W2 W') (fun _ _ _=>False)
  ?hI ?hIx ⟨⟨_,c1,gU.nil _ _ _ _,fun _=>rfl⟩,oU.refl _ _⟩
  (fun x a' W' => ∃ Bv,W'.heap[Bv]? = some (.cells (aJ x.1) 60)/\W2.heap.size<=Bv/\a' = { tmps := #[.agg (aJ t),.pointer (some ⟨N,0,none⟩),.slice none 0 0,.pointer (some ⟨N+1,0,none⟩),.pointer (some ⟨Bv,0,none⟩),.agg (aJ t),.func (.func 77) #[] #[.pointer (some ⟨N+1+1,0,none⟩)],.agg (aJ x.1),undef,undef,undef,undef,undef],defers := [] })
  ?hAx ?assign ?body ?done ?stop
 case hI=>exact fun pre A B row h hg hr=>aC9 h hg hr
 case hIx=>exact fun c s A B row h=>h.elim
 case hAx =>
  rintro x a' u A B row ⟨Bv,e1,e2,e3⟩ hg hr
  exact ⟨Bv,(grownBy_keeps_cells hg (fun r e=>(hr r e).2) e1 rfl).trans e1,e2,e3⟩
 case assign =>
  intro l2 pre x W3 K hI hK
  have hx:=x.2
  have hxl:(aJ x.1).size=10:=by simp[hx]
  simp only[aN3]
  gi_wp2
  have hb:Below W3.heap.size W3 (W3.alloc (.cells (aJ x.1) 60)):=(Below.refl _ _).alloc (Nat.le_refl _) _
  have hz3:=hI.2.size
  exact hK _ _ (dA.of_below hb) trivial (aC9 hI (jS hb) (fun r e=>by cases e)) ⟨W3.heap.size,(aC _ _ _).trans (if_pos rfl),hz3,rfl⟩
 case body =>
  rintro l2 pre x a' W3 ⟨⟨ov,hov,how,hnil⟩,hk3⟩ ⟨Bv,e1,e2,rfl⟩ hlen
  have hx:=x.2
  have cO:=hov.cell
  have fO:=hov.frozen
  have lO:=hov.lt
  have cB:W3.aW Bv 0 10=some (aJ x.1):=aI e1 (by simp[hx])
  have lB:=dI e1
  have hxl:(aJ x.1).size=10:=by simp[hx]
  obtain ⟨W4,hW4⟩:∃ W4,W4=W3.alloc (.cells (aJ x.1) 60):=⟨_,rfl⟩
  have hb4:Below W3.heap.size W3 W4:=by rw[hW4];exact (Below.refl _ _).alloc (Nat.le_refl _) _
  have hy4:W4.heap[W3.heap.size]? = some (.cells (aJ x.1) 60):=by rw[hW4];exact (aC _ _ _).trans (if_pos rfl)
  have how4:gU W4 W2.heap.size 10 60 ov (pre.map fun x=>aJ x.1):=by rw[hW4];exact how.alloc _
  have hz3:=hk3.size
  obtain ⟨v5,w5,hr,ho5,hg5,hk5⟩:=aFJ (ty:=26) aIw how4 hnil hy4 hxl (yN _) (by simp;omega) (by have:=hb4.size;omega)
  have cO4:W4.cell? ⟨N+1,0,none⟩=some ov:=(hb4.cell (p:=⟨N+1,0,none⟩) lO).trans cO
  have hov5:Boxed w5 (N+1) 26 ov:=(hg5.block _ (by have:=hb4.size;omega) (fun e=>by have:=(how4.lt _ e.symm).1;omega)).trans ((hb4.block _ lO).trans hov)
  have cO5:=hov5.cell
  have fO5:=hov5.frozen
  have lO5:=hov5.lt
  have hbk:∀ q:Nat,q≠N+1->(w5.setCell ⟨N+1,0,none⟩ v5).heap[q]? = w5.heap[q]? := fun q hq=>Below.heap_setCell w5 ⟨N+1,0,none⟩ v5 q hq
  have HFIN:=Lib.hid (show dA kpT W2.heap.size W3 (w5.setCell ⟨N+1,0,none⟩ v5)/\aIH W2.heap.size (N+1) ((pre ++ [x]).map fun x=>aJ x.1) (w5.setCell ⟨N+1,0,none⟩ v5)/\oU (N+1) W2 (w5.setCell ⟨N+1,0,none⟩ v5) by
   have hs4:=hb4.size
   have hs5:=hg5.size
   refine ⟨⟨by simp;omega,fun k o hk ho hkp => ?_⟩,⟨v5,hov5.set v5,?_,fun e=>by simp at e⟩,⟨?_,?_,?_,by simp;omega,fun b hb hne => ?_⟩⟩
   ·have h4:W4.heap[k]? = some o:=(hb4.block k (dI ho)).trans ho
    rw[hbk k (by omega)]
    by_cases hkb:some k=ov.ownBlock
    ·obtain ⟨c,hc⟩:=(wI how4.2 k hkb.symm).2
     rw[h4] at hc
     obtain rfl:=Option.some.inj hc
     rw[hk5 k c h4 (by simpa [kpT] using hkp),h4]
    rw[hg5.block k (dI h4) hkb,h4]
   ·rw[List.map_append]
    exact ho5.keep fun g hgo hgl=>hbk g (fun e=>by have:=(ho5.lt g hgo).1;omega)
   ·exact hg5.os.trans (hb4.os.trans hk3.os)
   ·exact hg5.tape.trans (hb4.tape.trans hk3.tape)
   ·exact hg5.output.trans (hb4.output.trans hk3.output)
   rw[hbk b hne,hg5.block b (by omega) (fun e=>by have:=(how4.lt _ e.symm).1;omega),hb4.block b (by omega)]
   exact hk3.same b hb hne)
  obtain ⟨a5,c5,rfl, -, -⟩:=ho5.form
  have HR5:=Lib.hid hr
  clear hr ho5 hg5 hk5 hov hov5 how how4 hnil hk3 hbk hy4 hb4
  gi_wp2_with (gi_at_builtin;rw[<-hW4];refine aCI (.tmp 8) (.tmp 10) rfl rfl rfl rfl HR5.out ?_)
  have hF:=HFIN.out
  rw[show ((pre.map fun x=>aJ x.1) ++ [aJ x.1]).length=pre.length+1 by simp] at hF
  exact ⟨hF.1,trivial,hF.2⟩
 case done =>
  rintro D ys W3 hD hys ⟨⟨ov,hov,how, -⟩,hk3⟩ hK
  have cO:=hov.cell
  have hml:(ys.map fun x=>aJ x.1)=(upL t).map aJ:=by rw[<-hys,List.map_map];rfl
  rw[hml] at how
  obtain ⟨va,vc,rfl, -, -⟩:=how.form
  have HO:=Lib.hid (And.intro how hk3)
  clear hov how hk3 hml hys
  gi_wp2
  refine ⟨by simp,.inl ⟨_,_,rfl,run_takeDeferred hK,?_⟩⟩
  have hn:=HNW.out
  obtain ⟨how,hk3⟩:=HO.out
  refine ⟨.slice va ((upL t).map aJ).length vc,by simp[results,Tryz.results76,go_sem],_,rfl,?_,?_⟩
  ·exact (HB2.out.trans ⟨hk3.os,hk3.tape,hk3.output,hk3.size,fun b hb=>hk3.same b (by omega) (by omega)⟩).trans (belowK_b (w:=W2) (by omega) _ D _ _ (by omega) hK rfl rfl)
  exact ⟨how.1,aHN (ownsRow_putObj how.2 _ hK rfl) (by omega)⟩
 exact fun D c pre W3 hD hSp h=>h.elim
theorem aAx {w w':World} {b o:Nat} (h:w'.heap[b]? = w.heap[b]?):w'.cell? ⟨b,o,none⟩=w.cell? ⟨b,o,none⟩:=by
 unfold World.cell?
 rw[h]
theorem aDN (t o:List UInt8) (ht:t.length=10) (ho:o.length=10) (w:World):Gives Tryz.prog 11 #[.agg (aJ t),.agg (aJ o)] w (.bool (decide (o∈upL t))):=by
 have htl:(aJ t).size=10:=by simp[ht]
 have hol:(aJ o).size=10:=by simp[ho]
 refine (callsIn_wide (n:=9)).1 ?_
 refine callsIn_of_wp_marks Tryz.func11 rfl trivial ?_ rfl
 simp only[Tryz.ntmps11,List.size_toArray,List.length_cons,List.length_nil,Nat.reduceAdd,Nat.reduceSub,Array.replicate_succ,Array.replicate_zero,List.push_toArray,List.append_toArray,List.nil_append,List.cons_append]
 gi_wp2_with fail
 refine ⟨trivial,?_⟩
 refine (callsIn_wide.2 (aDT t _)).mono ?_
 rintro e w2 ⟨rfl,rfl⟩
 gi_wp2_with fail
 obtain ⟨N,hN⟩:∃ N,N=w.heap.size:=⟨_,rfl⟩
 obtain ⟨W2,hW2⟩:∃ W2,W2=(((w.alloc (.cells (aJ t) 60)).alloc (.cells (aJ o) 60)).alloc (.cells #[.bool false] 4)).alloc (.cells (aJ t) 60):=⟨_,rfl⟩
 have hz2:W2.heap.size=N+4:=by rw[hW2,hN];simp
 have g1:W2.heap[N+1]? = some (.cells (aJ o) 60):=by rw[hW2,hN,aC,if_neg (by simp),aC,if_neg (by simp),aC,if_pos (by simp)]
 have g2:Boxed W2 (N+1+1) 4 (.bool false):=by rw[hW2,hN];exact (aC _ _ _).trans ((if_neg (by simp)).trans ((aC _ _ _).trans (if_pos (by simp))))
 have g3:W2.heap[N+1+1+1]? = some (.cells (aJ t) 60):=by rw[hW2,hN,aC,if_pos (by simp)]
 have hb2:Below w.heap.size w W2:=by rw[hW2];exact blw
 rw[<-hW2]
 simp only[<-hN]
 have HNW:=Lib.hid hN
 have HB2:=Lib.hid hb2
 clear hW2 hN hb2
 refine tX (kp:=fun _=>true) (fun _ _=>rfl) (n:=9) (gf:=77) (lb := #[.pointer (some ⟨N+1+1+1,0,none⟩)]) rfl (by decide) rfl trivial (enters_of Tryz.func77 (by kernel_rfl) rfl)
  (aDU (kp:=fun _=>true) (fun _ _=>rfl) 8 (by decide) t ht (N+1+1+1) (fun _ _=>True) W2 g3)
  (fun _ _=>trivial) (fun _ _ _ _ _ _ _ _=>trivial) (Below.refl _ _) (fun _=>rfl)
  (fun pre W'=>(W'.heap[N+1]? = some (.cells (aJ o) 60)/\Boxed W' (N+1+1) 4 (.bool false))/\(Below N w W'/\W2.heap.size<=W'.heap.size) /\ ∀ y∈pre,y.1≠o)
  (fun c pre W'=>(∃ q x,pre=q ++ [x]/\x.1=o/\Boxed W' (N+1+1) 4 (.bool true))/\Below N w W'/\c = .ret)
  ?hI ?hIx ⟨⟨g1,g2⟩,⟨by rw[HNW.out];exact HB2.out,Nat.le_refl _⟩,fun y hy=>by cases hy⟩
  (fun x a' W' => ∃ Bv,W2.heap.size<=Bv/\W'.heap[Bv]? = some (.cells (aJ x.1) 60)/\a' = { tmps := #[.agg (aJ t),.agg (aJ o),.pointer (some ⟨N,0,none⟩),.pointer (some ⟨N+1,0,none⟩),.pointer (some ⟨N+1+1,0,none⟩),.pointer (some ⟨Bv,0,none⟩),.agg (aJ t),.func (.func 77) #[] #[.pointer (some ⟨N+1+1+1,0,none⟩)],.agg (aJ x.1),undef,undef,undef],defers := [] })
  ?hAx ?assign ?body ?done ?stop
 case hI =>
  rintro pre A B row ⟨⟨h1,h2⟩,⟨h5,h6⟩,h7⟩ hg hr
  exact ⟨⟨(grownBy_keeps_cells hg (fun r e=>(hr r e).2) h1 rfl).trans h1,(grownBy_keeps_cells hg (fun r e=>(hr r e).2) h2 rfl).trans h2⟩,⟨ownFrom_below (β:=Unit) (by have:=HNW.out;omega) (by omega) () A B row h5 hg hr,Nat.le_trans h6 hg.size⟩,h7⟩
 case hIx =>
  rintro c pre A B row ⟨⟨q,x,h0,hx,h2⟩,h5,h6⟩ hg hr
  exact ⟨⟨q,x,h0,hx,(grownBy_keeps_cells hg (fun r e=>(hr r e).2) h2 rfl).trans h2⟩,ownFrom_below (β:=Unit) (by have:=HNW.out;omega) (by omega) () A B row h5 hg hr,h6⟩
 case hAx =>
  rintro x a' u A B row ⟨Bv,e1,e2,e3⟩ hg hr
  exact ⟨Bv,e1,(grownBy_keeps_cells hg (fun r e=>(hr r e).2) e2 rfl).trans e2,e3⟩
 case assign =>
  intro l2 pre x W3 K ⟨⟨h1,h2⟩,⟨h5,h6⟩,h7⟩ hK
  have hx:=x.2
  have hxl:(aJ x.1).size=10:=by simp[hx]
  simp only[aN3]
  gi_wp2
  have hb:Below W3.heap.size W3 (W3.alloc (.cells (aJ x.1) 60)):=(Below.refl _ _).alloc (Nat.le_refl _) _
  exact hK _ _ (dA.of_below hb) trivial ⟨⟨(hb.block _ (by omega)).trans h1,(hb.block _ (by omega)).trans h2⟩,⟨h5.trans (hb.mono (by omega)),by simp;omega⟩,h7⟩ ⟨W3.heap.size,by omega,World.alloc_heap_new _ _,rfl⟩
 case body =>
  rintro l2 pre x a' W3 ⟨⟨h1,h2⟩,⟨h5,h6⟩,h7⟩ ⟨Bv,e1,e2,rfl⟩ hlen
  have hx:=x.2
  have cx:W3.aW Bv 0 10=some (aJ x.1):=aI e2 (by simp[hx])
  have co:W3.aW (N+1) 0 10=some (aJ o):=aI h1 hol
  have lB:=dI e2
  have lo:=dI h1
  have k2:=h2.cell
  have k2f:=h2.frozen
  have l2':=h2.lt
  have hxl:(aJ x.1).size=10:=by simp[hx]
  have HH:=Lib.hid (And.intro h1 (And.intro h2 (And.intro h5 h7)))
  clear h1 h2 h5 h7
  by_cases he:x.1=o
  ·have hee:(x.1 == o)=true:=beq_iff_eq.2 he
   have HE:=Lib.hid he
   clear he
   gi_wp2
   obtain ⟨h1,h2,h5,h7⟩:=HH.out
   have hn:=HNW.out
   exact ⟨dA.setCell _ (by omega),⟨pre,x,rfl,HE.out,h2.set _⟩,h5.setCell (by show N<=N+1+1;omega) _,rfl⟩
  have hee:(x.1 == o)=false:=beq_eq_false_iff_ne.2 he
  have HE:=Lib.hid he
  clear he
  gi_wp2
  obtain ⟨h1,h2,h5,h7⟩:=HH.out
  refine ⟨dA.refl _ _,trivial,⟨h1,h2⟩,⟨h5,h6⟩,fun y hy => ?_⟩
  rcases List.mem_append.1 hy with hy | hy
  ·exact h7 y hy
  rw[List.mem_singleton.1 hy];exact HE.out
 case done =>
  rintro D ys W3 hD hys ⟨⟨h1,h2⟩,⟨h5,h6⟩,h7⟩ hK
  have hfo:decide (o∈upL t)=false:=decide_eq_false (fun hm=>by
   rw[<-hys] at hm
   obtain ⟨y,hy,e⟩:=List.mem_map.1 hm
   exact h7 y hy e)
  have k2:=h2.cell
  have k2f:=h2.frozen
  have l2':=h2.lt
  have HH:=Lib.hid (And.intro h2 (And.intro h5 hfo))
  clear h1 h2 h5 h7 hfo hys
  gi_wp2
  obtain ⟨h2,h5,hfo⟩:=HH.out
  have hn:=HNW.out
  obtain ⟨V,hV⟩:∃ V,V=W3.setCell ⟨N+1+1,0,none⟩ (.bool false):=⟨_,rfl⟩
  rw[<-hV]
  have hbk:∀ b,b≠N+1+1->V.heap[b]? = W3.heap[b]? := fun b hb=>by rw[hV];exact Below.heap_setCell _ ⟨N+1+1,0,none⟩ _ b hb
  have hbx:Boxed V (N+1+1) 4 (.bool false):=by rw[hV];exact h2.set _
  have hK2:V.heap[D]? = some (.deferred (some [])):=(hbk D (by omega)).trans hK
  have hbV:Below N w V:=by rw[hV];exact h5.setCell (by show N<=N+1+1;omega) _
  refine ⟨by simp,.inl ⟨_,_,rfl,run_takeDeferred hK2,?_⟩⟩
  have r2:(V.putObj D (.deferred none)).cell? ⟨N+1+1,0,none⟩=some (.bool false):=by
   exact (aAx (World.putObj_heap_other (by omega))).trans hbx.cell
  have hbD:Below w.heap.size w (V.putObj D (.deferred none)):=by rw[<-hn];exact hbV.trans (belowK_b (w:=W2) (n₀:=N) (by omega) _ D _ _ (by omega) hK2 rfl rfl)
  refine ⟨_,fE (v := .bool false) Tryz.results11 ⟨_,_,rfl,by simp[go_sem,r2]⟩,?_,hbD⟩
  rw[hfo]
 rintro D c pre W3 hD hpre ⟨⟨q,x,h0,hx,h2⟩,h4,rfl⟩ hK
 have hfo:decide (o∈upL t)=true:=decide_eq_true (by
  obtain ⟨tl,htl2⟩:=hpre
  rw[<-htl2,h0,List.map_append]
  exact List.mem_append_left _ (List.mem_append_right _ (by rw[<-hx];exact List.mem_cons_self)))
 have HH:=Lib.hid (And.intro h2 (And.intro h4 hfo))
 clear h0 h2 h4 hpre hfo hx
 gi_wp2
 obtain ⟨h2,h4,hfo⟩:=HH.out
 have hn:=HNW.out
 refine ⟨by simp,.inl ⟨_,_,rfl,run_takeDeferred hK,?_⟩⟩
 have r2:(W3.putObj D (.deferred none)).cell? ⟨N+1+1,0,none⟩=some (.bool true):=by
  exact (aAx (World.putObj_heap_other (by omega))).trans h2.cell
 have hbD:Below w.heap.size w (W3.putObj D (.deferred none)):=by rw[<-hn];exact h4.trans (belowK_b (w:=W2) (n₀:=N) (by omega) _ D _ _ (by omega) hK rfl rfl)
 refine ⟨_,fE (v := .bool true) Tryz.results11 ⟨_,_,rfl,by simp[go_sem,r2]⟩,?_,hbD⟩
 rw[hfo]
end Go.Proofs.YtcedmfnlkelhkaaGreatDoor.Rd
