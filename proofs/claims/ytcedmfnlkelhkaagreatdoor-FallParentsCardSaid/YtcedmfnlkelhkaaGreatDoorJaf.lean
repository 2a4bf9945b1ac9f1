/- Layer 12: a chain's versions, the newest first: the library's iterator over a slice, backwards. -/
import Derived.Test.YtcedmfnlkelhkaaGreatDoorJae
import Derived.Shelf.RegionOpen
import Derived.WalkKit
import Derived.OwnWalkIn
import Derived.TacticsInMore
import Derived.LoopNIn
import Derived.LoopIn
import Derived.Handy
namespace Go.Proofs.YtcedmfnlkelhkaaGreatDoor
set_option maxHeartbeats 40000000
set_option maxRecDepth 100000
open Go.RowKit Go.Shelf
attribute [local go_sem] Oper.semAt_some

def dn (vs:List Ver) (j:Nat):List (Nat×Ver):=(List.range j).map fun t=>(vs.length - 1 - t,vs.getD (vs.length - 1 - t) Ver.zero)
theorem aJr (vs:List Ver) (j:Nat):dn vs (j+1)=dn vs j ++ [(vs.length - 1 - j,vs.getD (vs.length - 1 - j) Ver.zero)]:=by simp[dn,List.range_succ]
theorem uH (vs:List Ver) (j:Nat):(dn vs j).length=j:=by simp[dn]
def aIB (x:Nat×Ver):Array Value := #[.int .i64 (x.1:Int),.agg (mV x.2)]
def oU (n₀ Bs:Nat) (W W':World):Prop:=Below n₀ W W'/\W'.heap[Bs]? = W.heap[Bs]?
theorem oU.trans {n₀ Bs:Nat} {A B C:World} (h:oU n₀ Bs A B) (k:oU n₀ Bs B C):oU n₀ Bs A C:=⟨h.1.trans k.1,k.2.trans h.2⟩
theorem oU.refl (n₀ Bs:Nat) (W:World):oU n₀ Bs W W:=⟨Below.refl _ _,rfl⟩
theorem aKB {n₀ Bs:Nat} {w:World} (hn:n₀<=w.heap.size) (hB:Bs<w.heap.size) (W:World) (l:Nat) (o o':Obj) (hl:w.heap.size<=l) (h:W.heap[l]? = some o) (hc:o.isCells=false) (hw:o.isWalk=false):oU n₀ Bs W (W.putObj l o') :=
 ⟨belowK_b hn W l o o' hl h hc hw,World.putObj_heap_other (by omega)⟩
theorem aL5 (F:Fence) (n:Nat) (h1:F.fn 185) (hro:F.round=none) (hn:1<=n) (l Bs n₀ b off cap:Nat) (vs:List Ver) (hlen:vs.length<=100000) (hb:b<n₀) (B0:Nat) (J Jx:List (Nat×Ver)->World->Prop)
  (hY:∀ pre x W1,J pre W1->pre.length<vs.length->YieldAt F (n - 1) Tryz.prog l (aIB x) W1 fun e W' =>
   ((e = .returned (.bool true)/\J (pre ++ [x]) W'/\oU n₀ Bs W1 W')\/(e = .returned (.bool false)/\Jx (pre ++ [x]) W'))/\aX B0 W1 W')
  (W:World) (hBs:W.cell? ⟨Bs,0,none⟩=some (.slice (some ⟨b,off,none⟩) vs.length cap)) (hc:∀ j x,vs[j]? = some x->W.aW b (off+j * 11) 11=some (mV x)) (_hcap:vs.length<=cap) (_hcap2:cap<=maxLen) (h0:J [] W) :
  CallsIn F n Tryz.prog 185 #[.func (.yield l) #[] #[],.pointer (some ⟨Bs,0,none⟩)] W fun e W'=>(∃ v,e = .returned v) /\
   ((∃ ys,ys=dn vs vs.length/\J ys W')\/(∃ pre,(∃ j,j<=vs.length/\pre=dn vs j)/\Jx pre W')):=by
 refine callsIn_of_wp Tryz.func185 rfl h1 ?_ hro
 simp only[Tryz.ntmps185,List.size_toArray,List.length_cons,List.length_nil,Nat.reduceAdd,Nat.reduceSub,Array.replicate_succ,Array.replicate_zero,List.push_toArray,List.append_toArray,List.nil_append,List.cons_append]
 gi_wp2
 gi_loopw [3] (fun i wr => ∃ k:Nat,k<=vs.length/\i = .int .i64 ((vs.length:Int) - 1 - k)/\J (dn vs k) wr/\oU n₀ Bs W wr)
  (fun i _=>(intOf i+1).toNat)
 case atStart=>exact ⟨0,Nat.zero_le _,by simp,h0,oU.refl _ _ _⟩
 obtain ⟨k,hk,rfl,hJs,hnx⟩:=hrel
 by_cases hlt:k<vs.length
 ·obtain ⟨i,hi⟩:∃ i,i=vs.length - 1 - k:=⟨_,rfl⟩
  have hii:((vs.length:Int) - 1 - k)=(i:Int):=by omega
  have hvi:vs[i]? = some (vs.getD i Ver.zero):=by rw[List.getD_eq_getElem?_getD,List.getElem?_eq_getElem (by omega)];rfl
  have hcx:wr.aW b (off+i * 11) 11=some (mV (vs.getD i Ver.zero)):=by rw[aK (hnx.1.block _ hb)];exact hc i _ hvi
  have hbx:wr.cell? ⟨Bs,0,none⟩=some (.slice (some ⟨b,off,none⟩) vs.length cap):=by
   have:=hnx.2
   unfold World.cell? at hBs |-
   rw[this];exact hBs
  obtain ⟨fn,tmps,assign,body,hy,hR⟩:=hY _ (i,vs.getD i Ver.zero) wr hJs (by rw[uH];exact hlt)
  simp only[aIB] at hy
  rw[hii]
  have hil:i<vs.length:=by omega
  have hdn:dn vs (k+1)=dn vs k ++ [(i,vs.getD i Ver.zero)]:=by rw[aJr,hi]
  have HDN:=Lib.hid hdn
  have HI:=Lib.hid (And.intro hi hii)
  clear hdn
  generalize vs.getD i Ver.zero=vi at *
  clear hi hii hY hvi
  gi_wp2
  refine hR.mono ?_
  rintro e W3 ⟨⟨rfl,hJ3,hk3⟩ | ⟨rfl,hJx3⟩,hu3⟩
  ·gi_wp2
   go_roundw
   case rel=>exact ⟨k+1,by omega,by rw[Value.int.injEq];exact ⟨rfl,by have:=HI.out.2;omega⟩,by rw[HDN.out];exact hJ3,hnx.trans hk3⟩
   simp[intOf]
  gi_wp2
  refine bodyPost_ret (results_none rfl _ _ _) rfl ?_
  exact ⟨⟨_,rfl⟩,.inr ⟨_,⟨k+1,by omega,HDN.out.symm⟩,hJx3⟩⟩
 obtain rfl:k=vs.length:=by omega
 gi_wp2
 go_end0
 exact ⟨⟨_,rfl⟩,.inl ⟨_,rfl,hJs⟩⟩
theorem aJn (F:Fence) (n:Nat) (h1:F.fn 185) (hro:F.round=none) (l Bs:Nat) (J:List (Nat×Ver)->World->Prop) (W:World) (a:Option Addr) (cap:Nat)
  (hBs:W.cell? ⟨Bs,0,none⟩=some (.slice a 0 cap)) (h0:J [] W) :
  CallsIn F n Tryz.prog 185 #[.func (.yield l) #[] #[],.pointer (some ⟨Bs,0,none⟩)] W fun e W'=>(∃ v,e = .returned v)/\J [] W':=by
 refine callsIn_of_wp Tryz.func185 rfl h1 ?_ hro
 simp only[Tryz.ntmps185,List.size_toArray,List.length_cons,List.length_nil,Nat.reduceAdd,Nat.reduceSub,Array.replicate_succ,Array.replicate_zero,List.push_toArray,List.append_toArray,List.nil_append,List.cons_append]
 gi_wp2
 gi_loopw [3] (fun i wr=>i = .int .i64 (-1)/\J [] wr) (fun _ _=>0)
 case atStart=>exact ⟨by simp,h0⟩
 obtain ⟨rfl,hJs⟩:=hrel
 gi_wp2
 go_end0
 exact ⟨⟨_,rfl⟩,hJs⟩
theorem aOg (F:Fence) (n:Nat) (h1:F.fn 158) (hro:F.round=none) (a:Option Addr) (len cap:Nat) (w:World) :
  CallsIn F n Tryz.prog 158 #[.slice a len cap] w fun e w'=>e = .returned (.func (.func 185) #[] #[.pointer (some ⟨w.heap.size,0,none⟩)])/\w'=w.alloc (.cells #[.slice a len cap] 203):=by
 have hmf:∀ (fn:Fn) (first cap:Array Value) (w:World),(Instr.makeFunc fn first cap).run Tryz.prog w = .ok (.func fn first cap) w:=fun _ _ _ _=>rfl
 refine callsIn_of_wp Tryz.func158 rfl h1 ?_ hro
 simp only[Tryz.ntmps158,List.size_toArray,List.length_cons,List.length_nil,Nat.reduceAdd,Nat.reduceSub,Array.replicate_succ,Array.replicate_zero,List.push_toArray,List.append_toArray,List.nil_append,List.cons_append]
 gi_wp2
 go_ret
 exact ⟨rfl,rfl⟩
theorem aIN (F:Fence) (n:Nat) (h1:F.fn 185) (hro:F.round=none) (hn:1<=n) (Bs n₀:Nat) (sv:Value) (vs:List Ver) (hlen:vs.length<=100000) (w:World) (hBs:Bs<w.heap.size) (hn₀:n₀<=w.heap.size)
  (hc:w.cell? ⟨Bs,0,none⟩=some sv) (hS:SlA w n₀ 11 sv (vs.map mV)) :
  nZ F n Tryz.prog 185 #[.pointer (some ⟨Bs,0,none⟩)] aIB (oU n₀ Bs) (fun ys=>ys=dn vs vs.length) (fun pre => ∃ j,j<=vs.length/\pre=dn vs j) vs.length w:=fun l J Jx W hW _ _ hY h0=>by
 have hc':=(hW.cell (p:=⟨Bs,0,none⟩) hBs).trans hc
 obtain ⟨_,a,cap,rfl,h3,h4,h5⟩:=hS.below (hW.mono hn₀)
 rw[List.length_map] at hc' h3 h5
 by_cases h0n:vs.length=0
 ·rw[h0n] at hc'
  refine (aJn F n h1 hro l Bs J W a cap hc' h0).mono fun e W' ⟨he,hj⟩=>⟨he,.inl ⟨_,rfl,?_⟩⟩
  rw[h0n];exact hj
 ·obtain ⟨b,o,rfl,hb,hcut⟩:=h5 (by omega)
  exact aL5 F n h1 hro hn l Bs n₀ b o cap vs hlen hb _ J Jx hY W hc' (fun j x hx=>hcut j _ (by rw[List.getElem?_map,hx];rfl)) h3 h4 h0
theorem aEU {F:Fence} (hd:F.depth=none) {m:Nat} (m':Nat) {P:Program} {l:Nat} {args:Array Value} {W:World} {R:Ending->World->Prop} (h:YieldAt F m P l args W R):YieldAt F m' P l args W R:=by
 obtain ⟨fn,tmps,assign,body,hy,hf,hr⟩:=h
 exact ⟨fn,tmps,assign,body,hy,hf,fun c cs _=>hr c cs (fun d he=>by rw[hd] at he;cases he)⟩
theorem aIM (F:Fence) (n:Nat) (hfd:F.depth=none) (h1:F.fn 157) (h2:F.fn 158) (h3:F.fn 185) (hro:F.round=none) (hn:4<=n)
  (l Bc n₀ cb:Nat) (sv:Value) (vs:List Ver) (hlen:vs.length<=100000) (hcb:cb<n₀) (J Jx:List (Nat×Ver)->World->Prop)
  (W:World) (hJ:OwnFrom W.heap.size J) (hJx:OwnFrom W.heap.size Jx) (hnW:n₀<=W.heap.size)
  (hY:∀ pre x W1,J pre W1->pre.length<vs.length->YieldAt F (n - 1) Tryz.prog l (aIB x) W1 fun e W' =>
   ((e = .returned (.bool true)/\J (pre ++ [x]) W'/\Below n₀ W1 W')\/(e = .returned (.bool false)/\Jx (pre ++ [x]) W'))/\aX W.heap.size W1 W')
  (hBc:W.cell? ⟨Bc,0,none⟩=some (.pointer (some ⟨cb,0,none⟩))) (hcc:W.heap[cb]? = some (.cells #[sv] 205)) (hS:SlA W n₀ 11 sv (vs.map mV)) (h0:J [] W) :
  CallsIn F n Tryz.prog 157 #[.func (.yield l) #[] #[],.pointer (some ⟨Bc,0,none⟩)] W fun e W'=>(∃ v,e = .returned v) /\
   ((∃ ys,ys=dn vs vs.length/\J ys W')\/(∃ pre,(∃ j,j<=vs.length/\pre=dn vs j)/\Jx pre W')):=by
 have hBcl:Bc<W.heap.size:=by
  rcases Nat.lt_or_ge Bc W.heap.size with h | h
  ·exact h
  unfold World.cell? at hBc;rw[Array.getElem?_eq_none h] at hBc;simp at hBc
 have hcbl:cb<W.heap.size:=by omega
 have hcs:W.cell? ⟨cb,0,none⟩=some sv:=by simp[World.cell?,hcc]
 obtain ⟨_,sa,scap,rfl,_⟩:=id hS
 rw[List.length_map] at *
 have HS:=Lib.hid hS
 have HY:=Lib.hid hY
 clear hS hY hcc
 refine callsIn_of_wp_marks Tryz.func157 rfl h1 ?_ hro
 simp only[Tryz.ntmps157,List.size_toArray,List.length_cons,List.length_nil,Nat.reduceAdd,Nat.reduceSub,Array.replicate_succ,Array.replicate_zero,List.push_toArray,List.append_toArray,List.nil_append,List.cons_append]
 gi_wp2_with (gi_at_call 158;refine (aOg F (n - 1) h2 hro _ _ _ _).mono ?_;rintro e w' ⟨rfl,rfl⟩)
 have hsz:((W.alloc (.cells #[.func (.yield l) #[] #[]] 327)).alloc (.cells #[.slice sa vs.length scap] 203)).heap.size=W.heap.size+2:=by simp
 have hb1:Below W.heap.size W ((W.alloc (.cells #[.func (.yield l) #[] #[]] 327)).alloc (.cells #[.slice sa vs.length scap] 203)):=((Below.refl _ W).alloc (Nat.le_refl _) _).alloc (by simp) _
 have hbY:Boxed ((W.alloc (.cells #[.func (.yield l) #[] #[]] 327)).alloc (.cells #[.slice sa vs.length scap] 203)) W.heap.size 327 (.func (.yield l) #[] #[]):=(Boxed.new W _ _).alloc _
 have hbS:((W.alloc (.cells #[.func (.yield l) #[] #[]] 327)).alloc (.cells #[.slice sa vs.length scap] 203)).cell? ⟨W.heap.size+1,0,none⟩=some (.slice sa vs.length scap):=by
  have:=(Boxed.new (W.alloc (.cells #[.func (.yield l) #[] #[]] 327)) 203 (.slice sa vs.length scap)).cell
  rwa [World.size_alloc] at this
 have h01:J [] ((W.alloc (.cells #[.func (.yield l) #[] #[]] 327)).alloc (.cells #[.slice sa vs.length scap] 203)):=hJ.alloc _ (hJ.alloc _ h0)
 obtain ⟨W1,hW1⟩:∃ W1,((W.alloc (.cells #[.func (.yield l) #[] #[]] 327)).alloc (.cells #[.slice sa vs.length scap] 203))=W1:=⟨_,rfl⟩
 rw[hW1] at hsz hb1 hbY hbS h01 |-
 clear hW1
 refine kQ (n:=n) (gf:=185) (lb := #[.pointer (some ⟨W.heap.size+1,0,none⟩)]) hro (by omega) rfl h3 (enters_of Tryz.func185 (by kernel_rfl) rfl)
  (aIN F (n - 1) h3 hro (by omega) (W.heap.size+1) n₀ _ vs hlen W1 (by omega) (by omega) hbS (HS.out.below (hb1.mono hnW)))
  (fun h k=>h.trans k) (aKB (by omega) (by omega)) (Below.refl _ _) (fun _=>rfl)
  (fun pre W'=>J pre W'/\(Boxed W' W.heap.size 327 (.func (.yield l) #[] #[])/\W.heap.size+2<=W'.heap.size)) (fun c pre W'=>c = .ret/\Jx pre W')
  ?hI ?hIx ⟨h01,hbY,by omega⟩
  (fun x a' W' => ∃ Bv,W.heap.size+1<Bv/\W'.heap[Bv]? = some (.cells (mV x.2) 210)/\a' = { tmps := #[.func (.yield l) #[] #[],.pointer (some ⟨Bc,0,none⟩),.pointer (some ⟨W.heap.size,0,none⟩),.int .i64 (x.1:Int),.pointer (some ⟨Bv,0,none⟩),.pointer (some ⟨cb,0,none⟩),.bool false,.pointer (some ⟨cb,0,none⟩),.pointer (some ⟨cb,0,none⟩),.pointer (some ⟨cb,0,none⟩),.slice sa vs.length scap,.func (.func 185) #[] #[.pointer (some ⟨W.heap.size+1,0,none⟩)],.int .i64 (x.1:Int),.agg (mV x.2),undef,undef,undef,undef,undef],defers := [] })
  ?hAx ?assign ?body ?done ?stop
 case hI =>
  exact OwnFrom.and (fun s A B row hs hg hr=>hJ s A B row hs hg (fun r e=>⟨by have:=(hr r e).1;omega,(hr r e).2⟩))
   (OwnFrom.and ((boxed_own W.heap.size 327 (fun _ => .func (.yield l) #[] #[])).from _) (fun s A B row hs hg _=>Nat.le_trans hs hg.size))
 case hIx=>exact fun c s A B row hs hg hr=>⟨hs.1,hJx s A B row hs.2 hg (fun r e=>⟨by have:=(hr r e).1;omega,(hr r e).2⟩)⟩
 case hAx =>
  rintro x a' s A B row ⟨Bv,g1,g2,g3⟩ hg hr
  exact ⟨Bv,g1,(grownBy_keeps_cells hg (fun r e=>(hr r e).2) g2 rfl).trans g2,g3⟩
 case assign =>
  intro l2 pre x W2 K ⟨hj,hbx,hs2⟩ hK
  simp only[aIB]
  gi_wp2
  exact hK _ _ (aX.alloc _ _ _) ⟨(Below.refl _ _).alloc (by omega) _,Below.heap_alloc _ _ _ (by omega)⟩ ⟨hJ.alloc _ hj,hbx.alloc _,by simp;omega⟩ ⟨W2.heap.size,by omega,World.alloc_heap_new _ _,rfl⟩
 case body =>
  rintro l2 pre x a' W2 ⟨hj,hbx,hs2⟩ ⟨Bv,hBv,hv,rfl⟩ hlen
  obtain ⟨fn,tmps,assign,body,hy,hR⟩:=aEU hfd (n - 1 - 1 - 1) (HY.out pre x W2 hj hlen)
  simp only[aIB] at hy
  have cy:=hbx.cell
  have cv:W2.aW Bv 0 11=some (mV x.2):=by simp[World.aW,hv]
  have lv:=(Array.getElem?_eq_some_iff.1 hv).1
  have ly:=hbx.lt
  gi_wp2
  refine hR.mono ?_
  rintro e W3 ⟨⟨rfl,hJ3,hk3⟩ | ⟨rfl,hJx3⟩,hu3⟩
  ·gi_wp2
   exact ⟨hu3.more (by omega),⟨hk3,hu3.same _ (by omega) (by omega)⟩,hJ3,hu3.some (Nat.le_refl _) hbx,Nat.le_trans hs2 hu3.size⟩
  gi_wp2
  exact ⟨hu3.more (by omega),rfl,hJx3⟩
 case done =>
  rintro D ys W2 hD rfl ⟨hj,_⟩ hK
  gi_wp2
  refine ⟨by simp,.inl ⟨_,_,rfl,run_takeDeferred hK,?_⟩⟩
  exact ⟨_,results_none rfl _ _ _,⟨_,rfl⟩,.inl ⟨_,rfl,hJ.putObj _ hj (by omega) hK rfl⟩⟩
 rintro D c pre W2 hD ⟨j,hj,rfl⟩ ⟨rfl,hx⟩ hK
 gi_wp2
 refine ⟨by simp,.inl ⟨_,_,rfl,run_takeDeferred hK,?_⟩⟩
 exact ⟨_,results_none rfl _ _ _,⟨_,rfl⟩,.inr ⟨_,⟨j,hj,rfl⟩,hJx.putObj _ hx (by omega) hK rfl⟩⟩
def pR (W:World) (n₀:Nat) (co:Option Nat) (vs:List Ver):Prop :=
 match co with
 | none=>vs = []
 | some cb=>cb<n₀ /\ ∃ sv,W.heap[cb]? = some (.cells #[sv] 205)/\SlA W n₀ 11 sv (vs.map mV)
def nJ:Option Nat->Option Addr
 | none=>none
 | some c=>some ⟨c,0,none⟩
theorem pR.keep {W W':World} {n₀:Nat} {co:Option Nat} {vs:List Ver} (h:pR W n₀ co vs) (hb:Below n₀ W W'):pR W' n₀ co vs:=by
 cases co with
 | none=>exact h
 | some c=>obtain ⟨h1,sv,h2,h3⟩:=h;exact ⟨h1,sv,(hb.block _ h1).trans h2,h3.below hb⟩
theorem aG6 (F:Fence) (n:Nat) (h1:F.fn 157) (hro:F.round=none) (l Bc:Nat) (J:List (Nat×Ver)->World->Prop)
  (W:World) (hJ:OwnFrom W.heap.size J) (hBc:W.cell? ⟨Bc,0,none⟩=some (.pointer none)) (h0:J [] W) :
  CallsIn F n Tryz.prog 157 #[.func (.yield l) #[] #[],.pointer (some ⟨Bc,0,none⟩)] W fun e W'=>(∃ v,e = .returned v)/\J [] W':=by
 have hBcl:Bc<W.heap.size:=by
  rcases Nat.lt_or_ge Bc W.heap.size with h | h
  ·exact h
  unfold World.cell? at hBc;rw[Array.getElem?_eq_none h] at hBc;simp at hBc
 refine callsIn_of_wp Tryz.func157 rfl h1 ?_ hro
 simp only[Tryz.ntmps157,List.size_toArray,List.length_cons,List.length_nil,Nat.reduceAdd,Nat.reduceSub,Array.replicate_succ,Array.replicate_zero,List.push_toArray,List.append_toArray,List.nil_append,List.cons_append]
 gi_wp2
 refine bodyPost_ret (results_none rfl _ _ _) rfl ?_
 exact ⟨⟨_,rfl⟩,hJ.alloc _ h0⟩
theorem vP (F:Fence) (n:Nat) (hfd:F.depth=none) (h1:F.fn 157) (h2:F.fn 158) (h3:F.fn 185) (hro:F.round=none) (hn:4<=n)
  (Bc n₀:Nat) (co:Option Nat) (vs:List Ver) (hlen:vs.length<=100000) (w:World) (hBc:Bc<w.heap.size) (hn₀:n₀<=w.heap.size) (hc:w.cell? ⟨Bc,0,none⟩=some (.pointer (nJ co))) (hV:pR w n₀ co vs) :
  nZ F n Tryz.prog 157 #[.pointer (some ⟨Bc,0,none⟩)] aIB (Below n₀) (fun ys=>ys=dn vs vs.length) (fun pre => ∃ j,j<=vs.length/\pre=dn vs j) vs.length w:=fun l J Jx W hW hJ hJx hY h0=>by
 have hc':=(hW.cell (p:=⟨Bc,0,none⟩) hBc).trans hc
 have hV':=hV.keep (hW.mono hn₀)
 cases co with
 | none =>
  obtain rfl:vs = []:=hV
  exact (aG6 F n h1 hro l Bc J W hJ hc' h0).mono fun e W' ⟨he,hj⟩=>⟨he,.inl ⟨[],rfl,hj⟩⟩
 | some cb =>
  obtain ⟨g1,sv,g2,g3⟩:=hV'
  exact aIM F n hfd h1 h2 h3 hro hn l Bc n₀ cb sv vs hlen g1 J Jx W hJ hJx (Nat.le_trans hn₀ hW.size) hY hc' g2 g3 h0
theorem aD7 (F:Fence) (n:Nat) (h1:F.fn 134) (hro:F.round=none) (c:Option Addr) (w:World) :
  CallsIn F n Tryz.prog 134 #[.pointer c] w fun e w'=>e = .returned (.func (.func 157) #[] #[.pointer (some ⟨w.heap.size,0,none⟩)])/\w'=w.alloc (.cells #[.pointer c] 191):=by
 have hmf:∀ (fn:Fn) (first cap:Array Value) (w:World),(Instr.makeFunc fn first cap).run Tryz.prog w = .ok (.func fn first cap) w:=fun _ _ _ _=>rfl
 refine callsIn_of_wp Tryz.func134 rfl h1 ?_ hro
 simp only[Tryz.ntmps134,List.size_toArray,List.length_cons,List.length_nil,Nat.reduceAdd,Nat.reduceSub,Array.replicate_succ,Array.replicate_zero,List.push_toArray,List.append_toArray,List.nil_append,List.cons_append]
 gi_wp2
 go_ret
 exact ⟨rfl,rfl⟩
def sD (vs:List Ver) (t:UInt64):Option Nat:=((dn vs vs.length).find? fun x=>decide (x.2.at_<=t)).map (·.1)
def mY (vs:List Ver) (t:UInt64):Int:=match sD vs t with | some i=>i | none => -1
theorem aE5 {α:Type} {p:α->Bool} {l pre:List α} {x:α} (h:pre ++ [x] <+: l) (hn:∀ y∈pre,p y=false) (hx:p x=true):l.find? p=some x:=by
 obtain ⟨r,rfl⟩:=h
 rw[List.append_assoc,List.find?_append,List.find?_eq_none.2 (by intro y hy;rw[hn y hy];simp)]
 simp[hx]
theorem aC2 (vs:List Ver) {j k:Nat} (h:j<=k):dn vs j <+: dn vs k:=by
 unfold dn
 obtain ⟨d,rfl⟩:=Nat.exists_eq_add_of_le h
 rw[List.range_add,List.map_append]
 exact List.prefix_append _ _
def NoneTo (t:UInt64) (pre:List (Nat×Ver)):Prop := ∀ y∈pre,decide (y.2.at_<=t)=false
theorem NoneTo.nil (t:UInt64):NoneTo t []:=fun y hy=>by simp at hy
theorem NoneTo.snoc {t:UInt64} {pre:List (Nat×Ver)} (h:NoneTo t pre) {x:Nat×Ver} (hx:¬ x.2.at_<=t):NoneTo t (pre ++ [x]):=by
 intro y hy
 rcases List.mem_append.1 hy with hy | hy
 ·exact h y hy
 rw[List.mem_singleton.1 hy];exact decide_eq_false hx
def Hit (t:UInt64) (b:Nat) (pre:List (Nat×Ver)) (W:World):Prop := ∃ pre' x,pre=pre' ++ [x]/\NoneTo t pre'/\x.2.at_<=t/\Boxed W b 3 (.int .i64 (x.1:Int))
theorem aFk {vs:List Ver} {t:UInt64} (h:NoneTo t (dn vs vs.length)):mY vs t = -1:=by
 unfold mY sD
 rw[List.find?_eq_none.2 (by intro y hy;rw[h y hy];simp)]
 rfl
theorem aFm {vs:List Ver} {t:UInt64} {pre:List (Nat×Ver)} {x:Nat×Ver} {j:Nat} (hj:j<=vs.length) (he:dn vs j=pre ++ [x]) (h:NoneTo t pre) (hx:x.2.at_<=t):mY vs t=x.1:=by
 unfold mY sD
 rw[aE5 (he ▸ aC2 vs hj) h (decide_eq_true hx)]
 rfl
theorem aFo (co:Option Nat) (vs:List Ver) (hlen:vs.length<=100000) (t:UInt64) (w:World) (hV:pR w w.heap.size co vs) :
  Gives Tryz.prog 235 #[.pointer (nJ co),.int .u64 t.toNat] w (.int .i64 (mY vs t)):=by
 refine (callsIn_wide (n:=9)).1 ?_
 refine callsIn_of_wp_marks Tryz.func235 rfl trivial ?_ rfl
 simp only[Tryz.ntmps235,List.size_toArray,List.length_cons,List.length_nil,Nat.reduceAdd,Nat.reduceSub,Array.replicate_succ,Array.replicate_zero,List.push_toArray,List.append_toArray,List.nil_append,List.cons_append]
 gi_wp2_with (refine ⟨trivial,?_⟩;gi_at_call 134;refine (aD7 _ _ trivial rfl _ _).mono ?_;rintro e w' ⟨rfl,rfl⟩)
 have hsz:(((w.alloc (.cells #[.int .u64 t.toNat] 24)).alloc (.cells #[.int .i64 0] 3)).alloc (.cells #[.pointer (nJ co)] 191)).heap.size=w.heap.size+3:=by simp
 have hb1:Below w.heap.size w (((w.alloc (.cells #[.int .u64 t.toNat] 24)).alloc (.cells #[.int .i64 0] 3)).alloc (.cells #[.pointer (nJ co)] 191)):=(((Below.refl _ w).alloc (Nat.le_refl _) _).alloc (by simp) _).alloc (by simp;omega) _
 have hT:Boxed (((w.alloc (.cells #[.int .u64 t.toNat] 24)).alloc (.cells #[.int .i64 0] 3)).alloc (.cells #[.pointer (nJ co)] 191)) w.heap.size 24 (.int .u64 t.toNat):=((Boxed.new w _ _).alloc _).alloc _
 have hR:Boxed (((w.alloc (.cells #[.int .u64 t.toNat] 24)).alloc (.cells #[.int .i64 0] 3)).alloc (.cells #[.pointer (nJ co)] 191)) (w.heap.size+1) 3 (.int .i64 0):=by
  have:=(Boxed.new (w.alloc (.cells #[.int .u64 t.toNat] 24)) 3 (.int .i64 0)).alloc (.cells #[.pointer (nJ co)] 191)
  rwa [World.size_alloc] at this
 have hC:(((w.alloc (.cells #[.int .u64 t.toNat] 24)).alloc (.cells #[.int .i64 0] 3)).alloc (.cells #[.pointer (nJ co)] 191)).cell? ⟨w.heap.size+2,0,none⟩=some (.pointer (nJ co)):=by
  have:=(Boxed.new ((w.alloc (.cells #[.int .u64 t.toNat] 24)).alloc (.cells #[.int .i64 0] 3)) 191 (.pointer (nJ co))).cell
  rwa [World.size_alloc,World.size_alloc] at this
 obtain ⟨W1,hW1⟩:∃ W1,(((w.alloc (.cells #[.int .u64 t.toNat] 24)).alloc (.cells #[.int .i64 0] 3)).alloc (.cells #[.pointer (nJ co)] 191))=W1:=⟨_,rfl⟩
 rw[hW1] at hsz hb1 hT hR hC
 have e2:w.heap.size+1+1=w.heap.size+2:=rfl
 rw[hW1]
 clear hW1
 refine kQ (n:=9) (gf:=157) (lb := #[.pointer (some ⟨w.heap.size+1+1,0,none⟩)]) rfl (by decide) rfl trivial (enters_of Tryz.func157 (by kernel_rfl) rfl)
  (vP Fence.wide 8 rfl trivial trivial trivial rfl (by decide) (w.heap.size+2) w.heap.size co vs hlen W1 (by omega) (by omega) hC (hV.keep hb1))
  (fun h k=>h.trans k) (belowK_b (by omega)) (Below.refl _ _) (fun _=>rfl)
  (fun pre W'=>(Boxed W' w.heap.size 24 (.int .u64 t.toNat)/\Boxed W' (w.heap.size+1) 3 (.int .i64 0))/\(Below w.heap.size w W'/\w.heap.size+3<=W'.heap.size)/\NoneTo t pre)
  (fun c pre W'=>Hit t (w.heap.size+1) pre W'/\Below w.heap.size w W'/\c = .ret)
  ?hI ?hIx ⟨⟨hT,hR⟩,⟨hb1,by omega⟩,NoneTo.nil t⟩
  (fun x a' W' => ∃ Bv,w.heap.size+2<Bv/\W'.heap[Bv]? = some (.cells (mV x.2) 210)/\a' = { tmps := #[.pointer (nJ co),.int .u64 t.toNat,undef,.pointer (some ⟨w.heap.size,0,none⟩),.pointer (some ⟨w.heap.size+1,0,none⟩),.int .i64 (x.1:Int),.pointer (some ⟨Bv,0,none⟩),.pointer (nJ co),.func (.func 157) #[] #[.pointer (some ⟨w.heap.size+2,0,none⟩)],.int .i64 (x.1:Int),.agg (mV x.2),undef,undef,undef,undef,undef],defers := [] })
  ?hAx ?assign ?body ?done ?stop
 case hI =>
  exact OwnFrom.and (OwnFrom.and ((boxed_own w.heap.size 24 (fun _ => .int .u64 t.toNat)).from _) ((boxed_own (w.heap.size+1) 3 (fun _ => .int .i64 0)).from _))
   (OwnFrom.and (OwnFrom.and (ownFrom_below (Nat.le_refl _) (by omega)) (fun s A B row hs hg _=>Nat.le_trans hs hg.size)) (ownFrom_pure _ _))
 case hIx =>
  rintro c s A B row ⟨⟨pre',x,h1,h2,h3,h4⟩,h5,h6⟩ hg hr
  exact ⟨⟨pre',x,h1,h2,h3,boxed_own (w.heap.size+1) 3 (fun _:Unit => .int .i64 (x.1:Int)) () A B row h4 hg (fun r e=>(hr r e).2)⟩,ownFrom_below (β:=Unit) (Nat.le_refl _) (by omega) () A B row h5 hg hr,h6⟩
 case hAx =>
  rintro x a' s A B row ⟨Bv,g1,g2,g3⟩ hg hr
  exact ⟨Bv,g1,(grownBy_keeps_cells hg (fun r e=>(hr r e).2) g2 rfl).trans g2,g3⟩
 case assign =>
  intro l2 pre x W2 K ⟨⟨h1,h2⟩,⟨h3,h4⟩,h5⟩ hK
  simp only[aIB]
  gi_wp2
  exact hK _ _ (aX.alloc _ _ _) ((Below.refl _ _).alloc (by omega) _) ⟨⟨h1.alloc _,h2.alloc _⟩,⟨h3.alloc (by omega) _,by simp;omega⟩,h5⟩ ⟨W2.heap.size,by omega,World.alloc_heap_new _ _,rfl⟩
 case body =>
  rintro l2 pre x a' W2 ⟨⟨h1,h2⟩,⟨h3,h4⟩,h5⟩ ⟨Bv,hBv,hv,rfl⟩ hlen
  have c1:=h1.cell
  have c2:=h2.cell
  have f2:=h2.frozen
  have cv:W2.cell? ⟨Bv,0,none⟩=some (.int .u64 x.2.at_.toNat):=by simp[World.cell?,hv,mV,aMg]
  have HH:=Lib.hid (And.intro h1 (And.intro h2 h3))
  clear h1 h2 h3
  have hle:((x.2.at_.toNat:Int)<=t.toNat) ↔ x.2.at_<=t:=by rw[UInt64.le_iff_toNat_le];omega
  by_cases hx:x.2.at_<=t
  ·have hx':(x.2.at_.toNat:Int)<=t.toNat:=hle.2 hx
   have HX:=Lib.hid hx
   clear hle hx
   gi_wp2
   exact ⟨aX.setCell _ (by omega),⟨pre,x,rfl,h5,HX.out,HH.out.2.1.set _⟩,HH.out.2.2.setCell (by simp) _,rfl⟩
  have hx':¬ (x.2.at_.toNat:Int)<=t.toNat:=fun h=>hx (hle.1 h)
  have HX:=Lib.hid hx
  clear hle hx
  gi_wp2
  exact ⟨aX.refl _ _,Below.refl _ _,⟨HH.out.1,HH.out.2.1⟩,⟨HH.out.2.2,h4⟩,h5.snoc HX.out⟩
 case done =>
  rintro D ys W2 hD rfl ⟨⟨h1,h2⟩,⟨h3,h4⟩,h5⟩ hK
  have c2:=h2.cell
  have f2:=h2.frozen
  have HH:=Lib.hid (And.intro h2 (And.intro h3 h5))
  clear h1 h2 h3 h5
  gi_wp2
  have hK2:(W2.setCell ⟨w.heap.size+1,0,none⟩ (.int .i64 (-1))).heap[D]? = some (.deferred (some [])):=(KeepsOthers.setCell W2 ⟨w.heap.size+1,0,none⟩ (.int .i64 (-1))).same D _ hK rfl
  refine ⟨by simp,.inl ⟨_,_,rfl,run_takeDeferred hK2,?_⟩⟩
  have hc3:((W2.setCell ⟨w.heap.size+1,0,none⟩ (.int .i64 (-1))).putObj D (.deferred none)).cell? ⟨w.heap.size+1,0,none⟩=some (.int .i64 (-1)):=cell_kept (HH.out.1.set _).cell (grownBy_putObj' _ D (.deferred none)) (fun r e=>by cases e;exact ⟨_,hK2,rfl⟩)
  refine ⟨.int .i64 (-1),?_,?_,?_⟩
  ·simp[results,Tryz.results235,go_sem,hc3]
  ·rw[aFk HH.out.2.2]
  exact (HH.out.2.1.setCell (p:=⟨w.heap.size+1,0,none⟩) (by simp) _).trans (belowK_b (w:=w) (Nat.le_refl _) _ D _ _ (by omega) hK2 rfl rfl)
 rintro D c pre W2 hD ⟨j,hj,he⟩ ⟨⟨pre',x,h1,h2,h3,h4⟩,h5,rfl⟩ hK
 subst h1
 have HH:=Lib.hid (And.intro h4 (And.intro h5 (And.intro h2 (And.intro h3 he))))
 clear h2 h3 h4 h5 he
 gi_wp2
 refine ⟨by simp,.inl ⟨_,_,rfl,run_takeDeferred hK,?_⟩⟩
 have hc3:(W2.putObj D (.deferred none)).cell? ⟨w.heap.size+1,0,none⟩=some (.int .i64 (x.1:Int)):=cell_kept HH.out.1.cell (grownBy_putObj' _ D (.deferred none)) (fun r e=>by cases e;exact ⟨_,hK,rfl⟩)
 refine ⟨.int .i64 (x.1:Int),?_,?_,?_⟩
 ·simp[results,Tryz.results235,go_sem,hc3]
 ·rw[aFm hj HH.out.2.2.2.2.symm HH.out.2.2.1 HH.out.2.2.2.1]
 exact HH.out.2.1.trans (belowK_b (w:=w) (Nat.le_refl _) _ D _ _ (by omega) hK rfl rfl)
theorem aBE {vs:List Ver} {j:Nat} {x:Nat×Ver} (hj:j<=vs.length) (h:dn vs j = [x]):vs.getLast? = some x.2:=by
 have hl:=congrArg List.length h
 rw[uH] at hl
 simp only[List.length_singleton] at hl
 subst hl
 simp only[dn,List.range_one,List.map_cons,List.map_nil,List.cons.injEq,and_true,Nat.sub_zero] at h
 rw[<-h,List.getLast?_eq_getElem?,List.getD_eq_getElem?_getD,List.getElem?_eq_getElem (by omega)]
 rfl
def fC (vs:List Ver):UInt64:=match vs.getLast? with | some v=>v.at_ | none=>0
def aQj (b:Nat) (pre:List (Nat×Ver)) (W:World):Prop := ∃ x,pre = [x]/\Boxed W b 24 (.int .u64 x.2.at_.toNat)
theorem aCh (co:Option Nat) (vs:List Ver) (hlen:vs.length<=100000) (w:World) (hV:pR w w.heap.size co vs) :
  Gives Tryz.prog 112 #[.pointer (nJ co)] w (.int .u64 (fC vs).toNat):=by
 refine (callsIn_wide (n:=9)).1 ?_
 refine callsIn_of_wp_marks Tryz.func112 rfl trivial ?_ rfl
 simp only[Tryz.ntmps112,List.size_toArray,List.length_cons,List.length_nil,Nat.reduceAdd,Nat.reduceSub,Array.replicate_succ,Array.replicate_zero,List.push_toArray,List.append_toArray,List.nil_append,List.cons_append]
 gi_wp2_with (refine ⟨trivial,?_⟩;gi_at_call 134;refine (aD7 _ _ trivial rfl _ _).mono ?_;rintro e w' ⟨rfl,rfl⟩)
 have hsz:((w.alloc (.cells #[.int .u64 0] 24)).alloc (.cells #[.pointer (nJ co)] 191)).heap.size=w.heap.size+2:=by simp
 have hb1:Below w.heap.size w ((w.alloc (.cells #[.int .u64 0] 24)).alloc (.cells #[.pointer (nJ co)] 191)):=((Below.refl _ w).alloc (Nat.le_refl _) _).alloc (by simp) _
 have hR:Boxed ((w.alloc (.cells #[.int .u64 0] 24)).alloc (.cells #[.pointer (nJ co)] 191)) w.heap.size 24 (.int .u64 0):=(Boxed.new w _ _).alloc _
 have hC:((w.alloc (.cells #[.int .u64 0] 24)).alloc (.cells #[.pointer (nJ co)] 191)).cell? ⟨w.heap.size+1,0,none⟩=some (.pointer (nJ co)):=by
  have:=(Boxed.new (w.alloc (.cells #[.int .u64 0] 24)) 191 (.pointer (nJ co))).cell
  rwa [World.size_alloc] at this
 obtain ⟨W1,hW1⟩:∃ W1,((w.alloc (.cells #[.int .u64 0] 24)).alloc (.cells #[.pointer (nJ co)] 191))=W1:=⟨_,rfl⟩
 rw[hW1] at hsz hb1 hR hC
 rw[hW1]
 clear hW1
 refine kQ (n:=9) (gf:=157) (lb := #[.pointer (some ⟨w.heap.size+1,0,none⟩)]) rfl (by decide) rfl trivial (enters_of Tryz.func157 (by kernel_rfl) rfl)
  (vP Fence.wide 8 rfl trivial trivial trivial rfl (by decide) (w.heap.size+1) w.heap.size co vs hlen W1 (by omega) (by omega) hC (hV.keep hb1))
  (fun h k=>h.trans k) (belowK_b (by omega)) (Below.refl _ _) (fun _=>rfl)
  (fun pre W'=>pre = []/\Boxed W' w.heap.size 24 (.int .u64 0)/\(Below w.heap.size w W'/\w.heap.size+2<=W'.heap.size))
  (fun c pre W'=>aQj w.heap.size pre W'/\Below w.heap.size w W'/\c = .ret)
  ?hI ?hIx ⟨rfl,hR,hb1,by omega⟩
  (fun x a' W' => ∃ Bv,w.heap.size+1<Bv/\W'.heap[Bv]? = some (.cells (mV x.2) 210)/\a' = { tmps := #[.pointer (nJ co),undef,.pointer (some ⟨w.heap.size,0,none⟩),undef,.pointer (some ⟨Bv,0,none⟩),.pointer (nJ co),.func (.func 157) #[] #[.pointer (some ⟨w.heap.size+1,0,none⟩)],.int .i64 (x.1:Int),.agg (mV x.2),undef,undef],defers := [] })
  ?hAx ?assign ?body ?done ?stop
 case hI =>
  exact OwnFrom.and (ownFrom_pure _ _) (OwnFrom.and ((boxed_own w.heap.size 24 (fun _ => .int .u64 0)).from _) (OwnFrom.and (ownFrom_below (Nat.le_refl _) (by omega)) (fun s A B row hs hg _=>Nat.le_trans hs hg.size)))
 case hIx =>
  rintro c s A B row ⟨⟨x,h1,h4⟩,h5,h6⟩ hg hr
  exact ⟨⟨x,h1,boxed_own w.heap.size 24 (fun _:Unit=>(.int .u64 x.2.at_.toNat)) () A B row h4 hg (fun r e=>(hr r e).2)⟩,ownFrom_below (β:=Unit) (Nat.le_refl _) (by omega) () A B row h5 hg hr,h6⟩
 case hAx =>
  rintro x a' s A B row ⟨Bv,g1,g2,g3⟩ hg hr
  exact ⟨Bv,g1,(grownBy_keeps_cells hg (fun r e=>(hr r e).2) g2 rfl).trans g2,g3⟩
 case assign =>
  intro l2 pre x W2 K ⟨h1,h2,h3,h4⟩ hK
  simp only[aIB]
  gi_wp2
  exact hK _ _ (aX.alloc _ _ _) ((Below.refl _ _).alloc (by omega) _) ⟨h1,h2.alloc _,h3.alloc (by omega) _,by simp;omega⟩ ⟨W2.heap.size,by omega,World.alloc_heap_new _ _,rfl⟩
 case body =>
  rintro l2 pre x a' W2 ⟨rfl,h2,h3,h4⟩ ⟨Bv,hBv,hv,rfl⟩ hlen
  have c2:=h2.cell
  have f2:=h2.frozen
  have cv:W2.cell? ⟨Bv,0,none⟩=some (.int .u64 x.2.at_.toNat):=by simp[World.cell?,hv,mV,aMg]
  have HH:=Lib.hid (And.intro h2 h3)
  clear h2 h3
  gi_wp2
  exact ⟨aX.setCell _ (by omega),⟨x,rfl,HH.out.1.set _⟩,HH.out.2.setCell (by simp) _,rfl⟩
 case done =>
  rintro D ys W2 hD rfl ⟨h1,h2,h3,h4⟩ hK
  have hn:vs = []:=by
   have:=congrArg List.length h1
   rw[uH] at this
   exact List.length_eq_zero_iff.1 this
  have c2:=h2.cell
  have f2:=h2.frozen
  have HH:=Lib.hid (And.intro h2 h3)
  clear h1 h2 h3
  gi_wp2
  have hK2:(W2.setCell ⟨w.heap.size,0,none⟩ (.int .u64 0)).heap[D]? = some (.deferred (some [])):=(KeepsOthers.setCell W2 ⟨w.heap.size,0,none⟩ (.int .u64 0)).same D _ hK rfl
  refine ⟨by simp,.inl ⟨_,_,rfl,run_takeDeferred hK2,?_⟩⟩
  have hc3:((W2.setCell ⟨w.heap.size,0,none⟩ (.int .u64 0)).putObj D (.deferred none)).cell? ⟨w.heap.size,0,none⟩=some (.int .u64 0):=cell_kept (HH.out.1.set _).cell (grownBy_putObj' _ D (.deferred none)) (fun r e=>by cases e;exact ⟨_,hK2,rfl⟩)
  refine ⟨.int .u64 0,?_,?_,?_⟩
  ·simp[results,Tryz.results112,go_sem,hc3]
  ·rw[hn];rfl
  exact (HH.out.2.setCell (p:=⟨w.heap.size,0,none⟩) (by simp) _).trans (belowK_b (w:=w) (Nat.le_refl _) _ D _ _ (by omega) hK2 rfl rfl)
 rintro D c pre W2 hD ⟨j,hj,he⟩ ⟨⟨x,h1,h4⟩,h5,rfl⟩ hK
 have hlast:=aBE hj (he.symm.trans h1)
 have HH:=Lib.hid (And.intro h4 (And.intro h5 hlast))
 clear h1 h4 h5 he hlast
 gi_wp2
 refine ⟨by simp,.inl ⟨_,_,rfl,run_takeDeferred hK,?_⟩⟩
 have hc3:(W2.putObj D (.deferred none)).cell? ⟨w.heap.size,0,none⟩=some (.int .u64 x.2.at_.toNat):=cell_kept HH.out.1.cell (grownBy_putObj' _ D (.deferred none)) (fun r e=>by cases e;exact ⟨_,hK,rfl⟩)
 refine ⟨(.int .u64 x.2.at_.toNat),?_,?_,?_⟩
 ·simp[results,Tryz.results112,go_sem,hc3]
 ·unfold fC;rw[HH.out.2.2]
 exact HH.out.2.1.trans (belowK_b (w:=w) (Nat.le_refl _) _ D _ _ (by omega) hK rfl rfl)
def qM (vs:List Ver):Bool:=match vs.getLast? with | some v => !v.dead | none=>false
def aQi (b:Nat) (pre:List (Nat×Ver)) (W:World):Prop := ∃ x,pre = [x]/\Boxed W b 4 (.bool (!x.2.dead))
theorem aF1 (co:Option Nat) (vs:List Ver) (hlen:vs.length<=100000) (w:World) (hV:pR w w.heap.size co vs) :
  Gives Tryz.prog 104 #[.pointer (nJ co)] w (.bool (qM vs)):=by
 refine (callsIn_wide (n:=9)).1 ?_
 refine callsIn_of_wp_marks Tryz.func104 rfl trivial ?_ rfl
 simp only[Tryz.ntmps104,List.size_toArray,List.length_cons,List.length_nil,Nat.reduceAdd,Nat.reduceSub,Array.replicate_succ,Array.replicate_zero,List.push_toArray,List.append_toArray,List.nil_append,List.cons_append]
 gi_wp2_with (refine ⟨trivial,?_⟩;gi_at_call 134;refine (aD7 _ _ trivial rfl _ _).mono ?_;rintro e w' ⟨rfl,rfl⟩)
 have hsz:((w.alloc (.cells #[.bool false] 4)).alloc (.cells #[.pointer (nJ co)] 191)).heap.size=w.heap.size+2:=by simp
 have hb1:Below w.heap.size w ((w.alloc (.cells #[.bool false] 4)).alloc (.cells #[.pointer (nJ co)] 191)):=((Below.refl _ w).alloc (Nat.le_refl _) _).alloc (by simp) _
 have hR:Boxed ((w.alloc (.cells #[.bool false] 4)).alloc (.cells #[.pointer (nJ co)] 191)) w.heap.size 4 (.bool false):=(Boxed.new w _ _).alloc _
 have hC:((w.alloc (.cells #[.bool false] 4)).alloc (.cells #[.pointer (nJ co)] 191)).cell? ⟨w.heap.size+1,0,none⟩=some (.pointer (nJ co)):=by
  have:=(Boxed.new (w.alloc (.cells #[.bool false] 4)) 191 (.pointer (nJ co))).cell
  rwa [World.size_alloc] at this
 obtain ⟨W1,hW1⟩:∃ W1,((w.alloc (.cells #[.bool false] 4)).alloc (.cells #[.pointer (nJ co)] 191))=W1:=⟨_,rfl⟩
 rw[hW1] at hsz hb1 hR hC
 rw[hW1]
 clear hW1
 refine kQ (n:=9) (gf:=157) (lb := #[.pointer (some ⟨w.heap.size+1,0,none⟩)]) rfl (by decide) rfl trivial (enters_of Tryz.func157 (by kernel_rfl) rfl)
  (vP Fence.wide 8 rfl trivial trivial trivial rfl (by decide) (w.heap.size+1) w.heap.size co vs hlen W1 (by omega) (by omega) hC (hV.keep hb1))
  (fun h k=>h.trans k) (belowK_b (by omega)) (Below.refl _ _) (fun _=>rfl)
  (fun pre W'=>pre = []/\Boxed W' w.heap.size 4 (.bool false)/\(Below w.heap.size w W'/\w.heap.size+2<=W'.heap.size))
  (fun c pre W'=>aQi w.heap.size pre W'/\Below w.heap.size w W'/\c = .ret)
  ?hI ?hIx ⟨rfl,hR,hb1,by omega⟩
  (fun x a' W' => ∃ Bv,w.heap.size+1<Bv/\W'.heap[Bv]? = some (.cells (mV x.2) 210)/\a' = { tmps := #[.pointer (nJ co),undef,.pointer (some ⟨w.heap.size,0,none⟩),undef,.pointer (some ⟨Bv,0,none⟩),.pointer (nJ co),.func (.func 157) #[] #[.pointer (some ⟨w.heap.size+1,0,none⟩)],.int .i64 (x.1:Int),.agg (mV x.2),undef,undef,undef],defers := [] })
  ?hAx ?assign ?body ?done ?stop
 case hI =>
  exact OwnFrom.and (ownFrom_pure _ _) (OwnFrom.and ((boxed_own w.heap.size 4 (fun _ => .bool false)).from _) (OwnFrom.and (ownFrom_below (Nat.le_refl _) (by omega)) (fun s A B row hs hg _=>Nat.le_trans hs hg.size)))
 case hIx =>
  rintro c s A B row ⟨⟨x,h1,h4⟩,h5,h6⟩ hg hr
  exact ⟨⟨x,h1,boxed_own w.heap.size 4 (fun _:Unit=>(.bool (!x.2.dead))) () A B row h4 hg (fun r e=>(hr r e).2)⟩,ownFrom_below (β:=Unit) (Nat.le_refl _) (by omega) () A B row h5 hg hr,h6⟩
 case hAx =>
  rintro x a' s A B row ⟨Bv,g1,g2,g3⟩ hg hr
  exact ⟨Bv,g1,(grownBy_keeps_cells hg (fun r e=>(hr r e).2) g2 rfl).trans g2,g3⟩
 case assign =>
  intro l2 pre x W2 K ⟨h1,h2,h3,h4⟩ hK
  simp only[aIB]
  gi_wp2
  exact hK _ _ (aX.alloc _ _ _) ((Below.refl _ _).alloc (by omega) _) ⟨h1,h2.alloc _,h3.alloc (by omega) _,by simp;omega⟩ ⟨W2.heap.size,by omega,World.alloc_heap_new _ _,rfl⟩
 case body =>
  rintro l2 pre x a' W2 ⟨rfl,h2,h3,h4⟩ ⟨Bv,hBv,hv,rfl⟩ hlen
  have c2:=h2.cell
  have f2:=h2.frozen
  have cv:W2.cell? ⟨Bv,1,none⟩=some (.bool x.2.dead):=by simp[World.cell?,hv,mV,aMg]
  have HH:=Lib.hid (And.intro h2 h3)
  clear h2 h3
  gi_wp2
  exact ⟨aX.setCell _ (by omega),⟨x,rfl,HH.out.1.set _⟩,HH.out.2.setCell (by simp) _,rfl⟩
 case done =>
  rintro D ys W2 hD rfl ⟨h1,h2,h3,h4⟩ hK
  have hn:vs = []:=by
   have:=congrArg List.length h1
   rw[uH] at this
   exact List.length_eq_zero_iff.1 this
  have c2:=h2.cell
  have f2:=h2.frozen
  have HH:=Lib.hid (And.intro h2 h3)
  clear h1 h2 h3
  gi_wp2
  have hK2:(W2.setCell ⟨w.heap.size,0,none⟩ (.bool false)).heap[D]? = some (.deferred (some [])):=(KeepsOthers.setCell W2 ⟨w.heap.size,0,none⟩ (.bool false)).same D _ hK rfl
  refine ⟨by simp,.inl ⟨_,_,rfl,run_takeDeferred hK2,?_⟩⟩
  have hc3:((W2.setCell ⟨w.heap.size,0,none⟩ (.bool false)).putObj D (.deferred none)).cell? ⟨w.heap.size,0,none⟩=some (.bool false):=cell_kept (HH.out.1.set _).cell (grownBy_putObj' _ D (.deferred none)) (fun r e=>by cases e;exact ⟨_,hK2,rfl⟩)
  refine ⟨.bool false,?_,?_,?_⟩
  ·simp[results,Tryz.results104,go_sem,hc3]
  ·rw[hn];rfl
  exact (HH.out.2.setCell (p:=⟨w.heap.size,0,none⟩) (by simp) _).trans (belowK_b (w:=w) (Nat.le_refl _) _ D _ _ (by omega) hK2 rfl rfl)
 rintro D c pre W2 hD ⟨j,hj,he⟩ ⟨⟨x,h1,h4⟩,h5,rfl⟩ hK
 have hlast:=aBE hj (he.symm.trans h1)
 have HH:=Lib.hid (And.intro h4 (And.intro h5 hlast))
 clear h1 h4 h5 he hlast
 gi_wp2
 refine ⟨by simp,.inl ⟨_,_,rfl,run_takeDeferred hK,?_⟩⟩
 have hc3:(W2.putObj D (.deferred none)).cell? ⟨w.heap.size,0,none⟩=some (.bool (!x.2.dead)):=cell_kept HH.out.1.cell (grownBy_putObj' _ D (.deferred none)) (fun r e=>by cases e;exact ⟨_,hK,rfl⟩)
 refine ⟨(.bool (!x.2.dead)),?_,?_,?_⟩
 ·simp[results,Tryz.results104,go_sem,hc3]
 ·unfold qM;rw[HH.out.2.2]
 exact HH.out.2.1.trans (belowK_b (w:=w) (Nat.le_refl _) _ D _ _ (by omega) hK rfl rfl)
end Go.Proofs.YtcedmfnlkelhkaaGreatDoor
namespace Go.Proofs.YtcedmfnlkelhkaaGreatDoor
set_option maxHeartbeats 40000000
set_option maxRecDepth 100000
open Go.RowKit Go.Shelf

def atV (vs:List Ver) (t:UInt64):Rec×Bool :=
 match sD vs t with
 | some i=>let v:=vs.getD i Ver.zero;if v.dead then (Rec.zero,false) else (v.r,true)
 | none=>(Rec.zero,false)
theorem aJQ {w:World} {a o sz:Nat} {c:Array Value} (h:w.aW a o sz=some c) (ha:a<w.heap.size) (x:Obj) (xs:Array Obj) (d:Nat):((w.alloc x).grow xs d).aW a o sz=some c:=by
 rw[lI _ _ _ _ _ (by simp;omega),nP _ _ _ _ ha];exact h
theorem yO {vs:List Ver} {t:UInt64} {i:Nat} (h:sD vs t=some i):i<vs.length:=by
 unfold sD at h
 rw[Option.map_eq_some_iff] at h
 obtain ⟨x,hx,rfl⟩:=h
 have hm:=List.mem_of_find?_eq_some hx
 simp only[dn,List.mem_map,List.mem_range] at hm
 obtain ⟨k,hk,rfl⟩:=hm
 simp only
 omega
theorem aIL (co:Option Nat) (vs:List Ver) (hlen:vs.length<=100000) (t:UInt64) (w:World) (hV:pR w w.heap.size co vs) :
  Gives Tryz.prog 232 #[.pointer (nJ co),.int .u64 t.toNat] w (.tuple #[.agg (bI (atV vs t).1),.bool (atV vs t).2]):=by
 have hsn:∀ W,Below w.heap.size w W->Gives Tryz.prog 235 #[.pointer (nJ co),.int .u64 t.toNat] W (.int .i64 (mY vs t)):=fun W hb=>by
  refine aFo co vs hlen t W ?_
  have:=hV.keep hb
  cases co with
  | none=>exact this
  | some c=>obtain ⟨g1,sv,g2,g3⟩:=this;exact ⟨Nat.lt_of_lt_of_le g1 hb.size,sv,g2,g3.more hb.size⟩
 have HS:=Lib.hid hsn
 clear hsn
 cases hs:sD vs t with
 | none =>
  have h1:mY vs t = -1:=by unfold mY;rw[hs]
  have h2:atV vs t=(Rec.zero,false):=by unfold atV;rw[hs]
  rw[h2]
  rw[h1] at HS
  clear hV hs h1 h2
  generalize nJ co=p at *
  unfold Gives
  go_enter Tryz.func232,Tryz.ntmps232
  go_wp2_with fail
  refine Gives.use (HS.out _ blw) ?_
  intro xs1 d1
  go_wp2_with fail
  exact bodyPost_ret (v := .tuple #[.agg (bI Rec.zero),.bool false]) (aH Tryz.results232 (aO.row rfl gY (by simp[go_sem])) (by simp[aO])) rfl ⟨rfl,blw⟩
 | some i =>
  have hil:=yO hs
  have h1:mY vs t=i:=by unfold mY;rw[hs]
  cases co with
  | none=>obtain rfl:vs = []:=hV;simp at hil
  | some c =>
   obtain ⟨g1,sv,g2,_,a,cap,rfl,g4,g5,g6⟩:=hV
   rw[List.length_map] at *
   obtain ⟨b,o,rfl,hb,hcut⟩:=g6 (by omega)
   obtain ⟨v,hv⟩:∃ v,v=vs.getD i Ver.zero:=⟨_,rfl⟩
   have hvi:vs[i]? = some v:=by rw[hv,List.getD_eq_getElem?_getD,List.getElem?_eq_getElem hil];rfl
   have hc:=hcut i (mV v) (by rw[List.getElem?_map,hvi];rfl)
   have hd:w.cell? ⟨b,o+i * 11+1,none⟩=some (.bool v.dead):=((dF hc).2 1 (by omega)).trans (aMe v)
   have hr:w.aW b (o+i * 11+2) 9=some (bI v.r):=by
    have:=iC (i:=2) (m:=9) hc (by omega)
    rwa [aJK] at this
   have hsl:w.cell? ⟨c,0,none⟩=some (.slice (some ⟨b,o,none⟩) vs.length cap):=by simp[World.cell?,g2]
   rw[h1] at HS
   have ha:atV vs t=if v.dead then (Rec.zero,false) else (v.r,true):=by unfold atV;rw[hs,hv]
   rw[ha]
   simp only[nJ] at *
   clear g2 g6 hcut hc hvi hv hs h1 ha
   generalize vs.length=len at *
   obtain ⟨at_,dead,r⟩:=v
   simp only at hd hr |-
   cases dead with
   | true =>
    simp only[if_true]
    unfold Gives
    go_enter Tryz.func232,Tryz.ntmps232
    go_wp2_with fail
    refine Gives.use (HS.out _ blw) ?_
    intro xs1 d1
    go_wp2_with fail
    exact bodyPost_ret (v := .tuple #[.agg (bI Rec.zero),.bool false]) (aH Tryz.results232 (aO.row rfl gY (by simp[go_sem])) (by simp[aO])) rfl ⟨rfl,blw⟩
   | false =>
    simp only[Bool.false_eq_true,if_false]
    unfold Gives
    go_enter Tryz.func232,Tryz.ntmps232
    go_wp2_with fail
    refine Gives.use (HS.out _ blw) ?_
    intro xs1 d1
    have hr':=aJQ hr hb (.cells (bI Rec.zero) 101) xs1 d1
    go_wp2_with fail
    exact bodyPost_ret (v := .tuple #[.agg (bI r),.bool true]) (aH Tryz.results232 (aO.row rfl gY (by simp[go_sem])) (by simp[aO])) rfl ⟨rfl,blw⟩
end Go.Proofs.YtcedmfnlkelhkaaGreatDoor
