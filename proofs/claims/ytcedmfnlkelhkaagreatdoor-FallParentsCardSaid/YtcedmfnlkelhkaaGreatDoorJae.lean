/- A range over an iterator that ranges over another one itself: the iterator is told that a round leaves all blocks of book-keeping but the loop's own record as they lie. -/
import Derived.RangeFuncNested
import Derived.RangeFuncBound
import Derived.RangeFuncCalls
import Derived.RangeFuncLeaves
import Derived.Shelf.Abstract
import Derived.Test.YtcedmfnlkelhkaaGreatDoorJad
import Derived.BigRegion
import Derived.Deep.CutBlock
import Derived.Handy
namespace Go.Proofs.YtcedmfnlkelhkaaGreatDoor
open Go.RowKit

structure aX (B:Nat) (W W':World):Prop where
 size:W.heap.size<=W'.heap.size
 same:∀ k,B<=k->k<W.heap.size->W'.heap[k]? = W.heap[k]?
theorem aX.refl (B:Nat) (W:World):aX B W W:=⟨Nat.le_refl _,fun _ _ _=>rfl⟩
theorem aX.trans {B:Nat} {W W' W'':World} (h:aX B W W') (h':aX B W' W''):aX B W W'' :=
 ⟨Nat.le_trans h.size h'.size,fun k hB hk=>(h'.same k hB (Nat.lt_of_lt_of_le hk h.size)).trans (h.same k hB hk)⟩
theorem aX.more {B B':Nat} {W W':World} (h:aX B W W') (hB:B<=B'):aX B' W W':=⟨h.size,fun k hk=>h.same k (by omega)⟩
theorem aX.some {B:Nat} {W W':World} (h:aX B W W') {k:Nat} {o:Obj} (hB:B<=k) (hk:W.heap[k]? = .some o):W'.heap[k]? = .some o :=
 (h.same k hB (Array.getElem?_eq_some_iff.1 hk).1).trans hk
theorem aX.alloc (B:Nat) (W:World) (o:Obj):aX B W (W.alloc o):=⟨by simp,fun k _ hk=>Below.heap_alloc W o k hk⟩
theorem aX.putObj {B:Nat} {W:World} {l:Nat} (o:Obj) (h:l<B):aX B W (W.putObj l o):=⟨by simp,fun k hB _=>World.putObj_heap_other (by omega)⟩
theorem aX.setCell {B:Nat} {W:World} {b i:Nat} (v:Value) (h:b<B):aX B W (W.setCell ⟨b,i,none⟩ v) :=
 ⟨by simp,fun k hB _=>Below.heap_setCell W ⟨b,i,none⟩ v k (by simp;omega)⟩
theorem aX.of_below {B:Nat} {W W':World} (h:Below W.heap.size W W'):aX B W W':=⟨h.size,fun k _ hk=>h.block k hk⟩

def aIm {α:Type} (B:Nat) (Kp:World->World->Prop) (I:List α->World->Prop) (Ix:Code->List α->World->Prop) (xs:List α) (W:World):Exit->Act->World->Prop
 | .normal,_,W'=>aX B W W'/\Kp W W'/\I xs W'
 | .ret,_,W'=>aX B W W'/\Ix .ret xs W'
 | .exit id,_,W'=>aX B W W'/\Ix (.exit id) xs W'
 | .goto t,_,W'=>aX B W W'/\Ix (.goto t) xs W'
 | .panic _,_,_=>False
 | .outgrown,_,_=>False
def nZ {α:Type} (F:Fence) (n:Nat) (P:Program) (g:Nat) (lb:Array Value) (encs:α->Array Value) (Kp:World->World->Prop) (S Sp:List α->Prop) (N:Nat) (w:World):Prop :=
 ∀ (l:Nat) (J Jx:List α->World->Prop) (W:World),Below w.heap.size w W->OwnFrom W.heap.size J->OwnFrom W.heap.size Jx ->
  (∀ pre x W1,J pre W1->pre.length<N->YieldAt F (n - 1) P l (encs x) W1 fun e W' =>
   ((e = .returned (.bool true)/\J (pre ++ [x]) W'/\Kp W1 W')\/(e = .returned (.bool false)/\Jx (pre ++ [x]) W'))/\aX W.heap.size W1 W') ->
  J [] W ->
  CallsIn F n P g (#[.func (.yield l) #[] #[]]++lb) W fun e W'=>(∃ v,e = .returned v)/\((∃ xs,S xs/\J xs W')\/(∃ pre,Sp pre/\Jx pre W'))

section
variable {F:Fence} {n:Nat} {P:Program}
theorem kQ {α:Type} {g:Operand} {ps:Array Tmp} {assign body:Code} {Q:Exit->Act->World->Prop} {a:Act} {w:World}
  (hro:F.round=none) (h1:1<=n) {gf:Nat} {lb:Array Value} (hg:a.eval g = .func (.func gf) #[] lb) (hFg:F.fn gf) (eg:∀ args w,(callFunc gf args).run P w = .ok (.enter gf args) w)
  {encs:α->Array Value} {Kp:World->World->Prop} {S Sp:List α->Prop} {N:Nat} {w0:World} (hseq:nZ F (n - 1) P gf lb encs Kp S Sp N w0)
  (hKt:∀ {A B C:World},Kp A B->Kp B C->Kp A C) (hKb:∀ (W:World) (l:Nat) (o o':Obj),w.heap.size<=l->W.heap[l]? = some o->o.isCells=false->o.isWalk=false->Kp W (W.putObj l o'))
  (hb0:Below w0.heap.size w0 w) (hps:∀ x,(encs x).size=ps.size)
  (I:List α->World->Prop) (Ix:Code->List α->World->Prop) (hI:OwnFrom w.heap.size I) (hIx:∀ c,OwnFrom w.heap.size (Ix c)) (h0:I [] w)
  (Ax:α->Act->World->Prop) (hAx:∀ x a',OwnFrom w.heap.size (fun (_:Unit) W=>Ax x a' W))
  (hassign:∀ (l:Nat) (pre:List α) (x:α) (W:World) (K:Act->World->Prop),I pre W->(∀ a' W',aX w.heap.size W W'->Kp W W'->I pre W'->Ax x a' W'->K a' W') ->
   assign.wpIn (F.inRound l) (n - 1 - 1) P (Exit.then K (fun _ _ _=>False)) { tmps:=(ps.zip (encs x)).foldl (fun t (p,v)=>t.setIfInBounds p v) a.tmps,defers := [] } W)
  (hbody:∀ (l:Nat) (pre:List α) (x:α) (a':Act) (W:World),I pre W->Ax x a' W->pre.length<N->body.wpIn (F.inRound l) (n - 1 - 1) P (aIm w.heap.size Kp I Ix (pre ++ [x]) W) a' W)
  (hdone:∀ (D:Nat) (xs:List α) (W:World),w.heap.size<=D->S xs->I xs W->W.heap[D]? = some (.deferred (some []))->Q .normal { a with defers := { target := .collected D,args := #[] } :: a.defers } W)
  (hstop:∀ (D:Nat) (c:Code) (pre:List α) (W:World),w.heap.size<=D->Sp pre->Ix c pre W->W.heap[D]? = some (.deferred (some []))->c.wpIn F n P Q { a with defers := { target := .collected D,args := #[] } :: a.defers } W) :
  (Code.rangeFunc g ps assign body).wpIn F n P Q a w:=by
 refine wpIn_rangeFunc fun fn hfn => ?_
 obtain ⟨s,hs⟩:∃ s,s=w.heap.size:=⟨_,rfl⟩
 obtain ⟨R,hR⟩:∃ R:LoopState->Option Code->Loop,R=fun st pe => { state:=st,pending:=pe,fn:=fn,tmps:=a.tmps,params:=ps,assign:=assign,body:=body,defers:=s }:=⟨_,rfl⟩
 have hRs:∀ st pe st',({ R st pe with state:=st' }:Loop)=R st' pe:=by intro st pe st';rw[hR]
 have hRp:∀ st pe st' pe',({ R st pe with state:=st',pending:=pe' }:Loop)=R st' pe':=by intro st pe st' pe';rw[hR]
 -- the two blocks that the statement lays
 let Bk:LoopState->Option Code->World->Prop:=fun st pe W=>W.heap[s+1]? = some (.loop (R st pe))/\W.heap[s]? = some (.deferred (some []))
 have bput:∀ {st pe W} (st':LoopState) (pe':Option Code),Bk st pe W->Bk st' pe' (W.putObj (s+1) (.loop (R st' pe'))):=fun st' pe' h =>
  ⟨World.putObj_heap_same (Array.getElem?_eq_some_iff.1 h.1).1,(World.putObj_heap_other (by omega)).trans h.2⟩
 have bturn:∀ {st pe A B row},Bk st pe A->A.grownBy B row->(∀ r,row=some r->s+2<=r)->Bk st pe B:=fun h hgr hr =>
  ⟨(hgr.block _ (Array.getElem?_eq_some_iff.1 h.1).1 (fun e=>by have:=hr _ e.symm;omega)).trans h.1,(hgr.block _ (Array.getElem?_eq_some_iff.1 h.2).1 (fun e=>by have:=hr _ e.symm;omega)).trans h.2⟩
 obtain ⟨W1,hW1⟩:∃ W1,(w.alloc (.deferred (some []))).alloc (.loop (R .ready none))=W1:=⟨_,rfl⟩
 have hz:W1.heap.size=s+2:=by rw[<-hW1,hs];simp
 have hB1:Bk .ready none W1:=by
  refine ⟨?_,?_⟩
  ·rw[<-hW1,hs];have:=World.alloc_heap_new (w.alloc (.deferred (some []))) (.loop (R .ready none));rwa [World.size_alloc] at this
  rw[<-hW1,hs];exact (Below.heap_alloc _ _ _ (by simp)).trans (World.alloc_heap_new w _)
 have hI1:I [] W1:=by rw[<-hW1];exact hI.alloc _ (hI.alloc _ h0)
 have hbw:Below w0.heap.size w0 W1:=by
  rw[<-hW1];exact hb0.trans ((((Below.refl _ w).alloc (Nat.le_refl _) _).alloc (by simp) _).mono hb0.size)
 refine ⟨s+1, [{ target := .collected s,args := #[] }],W1, { target := .fn (.func gf) lb,args := #[.func (.yield (s+1)) #[] #[]] },W1,gf, #[.func (.yield (s+1)) #[] #[]]++lb,W1,?_,?_,?_,?_,fun _=>h1,?_⟩
 ·rw[hro,run_enterLoop_outer,<-hW1,hR,hs]
 ·simp only[resolve,hg]
  simp[go_sem]
 ·intro f' hf';simp[Target.leads] at hf';subst hf';exact hFg
 ·simp[invoke,go_sem,eg]
 refine (hseq (s+1) (fun pre W=>I pre W/\Bk .ready none W) (fun pre W => ∃ c,Ix c pre W/\Bk .done (some c) W) W1 hbw ?_ ?_ ?_ ⟨hI1,hB1⟩).mono ?_
 ·intro pre A B row hJ hgr hr
  exact ⟨hI pre A B row hJ.1 hgr (fun r e=>⟨by have:=(hr r e).1;omega,(hr r e).2⟩),bturn hJ.2 hgr (fun r e=>by have:=(hr r e).1;omega)⟩
 ·rintro pre A B row ⟨c,hc,hb⟩ hgr hr
  exact ⟨c,hIx c pre A B row hc hgr (fun r e=>⟨by have:=(hr r e).1;omega,(hr r e).2⟩),bturn hb hgr (fun r e=>by have:=(hr r e).1;omega)⟩
 ·-- a round
  rintro pre x W ⟨hi,hb⟩ hlen
  have hy:=run_yield (P:=P) (args:=encs x) hb.1 (by rw[hR];exact hps x)
  have hfn':(R .ready none).fn=fn/\(R .ready none).tmps=a.tmps/\(R .ready none).params=ps/\(R .ready none).assign=assign/\(R .ready none).body=body/\(R .ready none).state = .ready:=by rw[hR];exact ⟨rfl,rfl,rfl,rfl,rfl,rfl⟩
  rw[hfn'.1,hfn'.2.1,hfn'.2.2.1,hfn'.2.2.2.1,hfn'.2.2.2.2.1] at hy
  refine ⟨fn,_,assign,body,hy,roundIn_of_wpIn hfn (hassign _ pre x W _ hi fun a' Wa hka hkpa hia hax => ?_)⟩
  have hba:Bk .ready none Wa:=⟨hka.some (by omega) hb.1,hka.some (by omega) hb.2⟩
  refine ⟨_,run_beginRound hba.1 hfn'.2.2.2.2.2,?_⟩
  rw[hRs]
  have hb2:=bput .busy none hba
  have hk2:Kp W (Wa.putObj (s+1) (.loop (R .busy none))):=hKt hkpa (hKb _ _ _ _ (by omega) hba.1 rfl rfl)
  refine wpIn_mono (hbody _ pre x a' _ (hI.putObj _ hia (by omega) hba.1 rfl) ((hAx x a').putObj (s:=()) _ hax (by omega) hba.1 rfl) hlen) ?_
  have leave:∀ (jump:Option Code) (W3:World),aX w.heap.size (Wa.putObj (s+1) (.loop (R .busy none))) W3->Bk .busy none W3 /\
    (Instr.endRound (s+1) jump).run P W3 = .ok (.bool jump.isNone) (W3.putObj (s+1) (.loop (R (if jump.isNone then .ready else .done) jump))) /\
    aX W1.heap.size W (W3.putObj (s+1) (.loop (R (if jump.isNone then .ready else .done) jump))):=fun jump W3 hk=>by
   have h3:Bk .busy none W3:=⟨hk.some (by omega) hb2.1,hk.some (by omega) hb2.2⟩
   refine ⟨h3,?_,((hka.more (by omega)).trans ((aX.putObj _ (by omega)).trans (hk.more (by omega)))).trans (aX.putObj _ (by omega))⟩
   have:=run_endRound (P:=P) jump h3.1
   rwa [hRp] at this
  rintro e a3 W3 hp
  cases e with
  | normal =>
   obtain ⟨h3,hr,hkb⟩:=leave none W3 hp.1
   exact ⟨_,_,hr,.inl ⟨rfl,⟨hI.putObj _ hp.2.2 (by omega) h3.1 rfl,bput _ _ h3⟩,hKt (hKt hk2 hp.2.1) (hKb _ _ _ _ (by omega) h3.1 rfl rfl)⟩,hkb⟩
  | ret =>
   obtain ⟨h3,hr,hkb⟩:=leave (some .ret) W3 hp.1
   exact ⟨_,_,hr,.inr ⟨rfl,.ret,(hIx _).putObj _ hp.2 (by omega) h3.1 rfl,bput _ _ h3⟩,hkb⟩
  | exit id =>
   obtain ⟨h3,hr,hkb⟩:=leave (some (.exit id)) W3 hp.1
   exact ⟨_,_,hr,.inr ⟨rfl,.exit id,(hIx _).putObj _ hp.2 (by omega) h3.1 rfl,bput _ _ h3⟩,hkb⟩
  | goto t =>
   obtain ⟨h3,hr,hkb⟩:=leave (some (.goto t)) W3 hp.1
   exact ⟨_,_,hr,.inr ⟨rfl,.goto t,(hIx _).putObj _ hp.2 (by omega) h3.1 rfl,bput _ _ h3⟩,hkb⟩
  | panic ch=>exact hp.elim
  | outgrown=>exact hp.elim
 -- behind the iterator
 have hst:∀ st pe,(R st pe).state=st/\(R st pe).pending=pe:=by intro st pe;rw[hR];exact ⟨rfl,rfl⟩
 rintro e W2 ⟨⟨v,rfl⟩,⟨xs,hS,hi,hb⟩ | ⟨pre,hSp,c,hi,hb⟩⟩
 ·have:=run_endLoop (P:=P) hb.1 (by rw[(hst _ _).1];simp)
  rw[hRs,(hst _ _).2] at this
  exact ⟨none,_,this,hs ▸ hdone s xs _ (by omega) hS (hI.putObj _ hi (by omega) hb.1 rfl) (bput .exhausted none hb).2⟩
 have:=run_endLoop (P:=P) hb.1 (by rw[(hst _ _).1];simp)
 rw[hRs,(hst _ _).2] at this
 exact ⟨some c,_,this,hs ▸ hstop s c pre _ (by omega) hSp ((hIx c).putObj _ hi (by omega) hb.1 rfl) (bput .exhausted (some c) hb).2⟩
end
end Go.Proofs.YtcedmfnlkelhkaaGreatDoor
namespace Go.Proofs.YtcedmfnlkelhkaaGreatDoor
set_option maxRecDepth 100000
open Go.RowKit

def jD:Option (CT K25)->List Nat
 | none => []
 | some T=>T.foot
noncomputable def aA7 (R:Option (CT K25)) (k:K25) (c a fa:Nat):CT K25 :=
 match R with
 | none => .leaf a k c
 | some T=>T.ins keyBytes a k c fa (aDf k.val (T.near k.val).2.1.val)
def aD5 (w:World) (t:Nat) (R:Option (CT K25)) (k:K25) (c:Nat) (w':World):Prop :=
 But (t :: jD R) w w' /\ ∃ a fa n',w.heap.size<=a/\w.heap.size<=fa/\a≠fa/\jI w' t (some (aA7 R k c a fa)) n'
theorem jI.aRQ {w:World} {t:Nat} {R:Option (CT K25)} {n:Int} (h:jI w t R n) (ht:t∉jD R) (m:Int):jI (w.setCell ⟨t,1,none⟩ (.int .i64 m)) t R m:=by
 refine ⟨?_,fun T hT=>⟨(h.2 T hT).1.keep fun b hb=>Below.heap_setCell w ⟨t,1,none⟩ _ b (fun e=>ht (by subst hT;have e2:b=t:=e;subst e2;exact hb)),(h.2 T hT).2⟩⟩
 have h1:=h.1
 simp only[World.setCell,Array.getElem?_modify,h1,if_true,Option.map_some]
 simp
theorem dD.other {w:World} {a:Nat} {leaf:Bool} {k b:List UInt8} {th p q:Value} {bit:Int} (h:dD w a leaf k b th bit p q) {g o:Nat} (hg:a≠g) (v:Value):dD (w.setCell ⟨g,o,none⟩ v) a leaf k b th bit p q :=
 (Below.heap_setCell w ⟨g,o,none⟩ v a hg).trans h
theorem jX {w:World} {b:Nat} {c:Array Value} {t:TypeId} (h:w.heap[b]? = some (.cells c t)) (i:Nat):w.cell? ⟨b,i,none⟩=c[i]? /\ w.frozen? ⟨b,i,none⟩=false:=by
 simp[World.cell?,World.frozen?,h]
noncomputable def aB8 (w:World):Value->Nat
 | .pointer (some p)=>sU w ((w.cell? p).getD undef)
 | _=>0
theorem sV {w:World} {t:Nat} {ps:Way} {X:CT K25} {n:Int} (h:jI w t (some (plug ps X)) n) :
  w.cell? ⟨(holder t ps).1,(holder t ps).2,none⟩=some (pt X.at_)/\w.frozen? ⟨(holder t ps).1,(holder t ps).2,none⟩=false/\(holder t ps).1<w.heap.size:=by
 match ps with
 | []=>exact ⟨(jX h.1 0).1,(jX h.1 0).2,lt_of_heap h.1⟩
 | (s,a,bit,o) :: ps =>
  have h1:=pI.1 (mG (ps:=ps) (h.2 _ rfl).1)
  exact ⟨aHO (h.2 _ rfl).1,(jX h1.1 _).2,lt_of_heap h1.1⟩
theorem aCa {w:World} {t:Nat} {ps:Way} {X:CT K25} {n:Int} (h:jI w t (some (plug ps X)) n):aB8 w (.pointer (some ⟨(holder t ps).1,(holder t ps).2,none⟩))=X.depth:=by
 show sU w ((w.cell? ⟨(holder t ps).1,(holder t ps).2,none⟩).getD undef)=X.depth
 rw[(sV h).1]
 exact oI (mG (h.2 _ rfl).1)
theorem zD {w:World} {a o:Nat} {X:CT K25} (h:w.cell? ⟨a,o,none⟩=some (.pointer (some ⟨X.at_,0,none⟩))) (hX:X.At w):aB8 w (.pointer (some ⟨a,o,none⟩))=X.depth:=by
 show sU w ((w.cell? ⟨a,o,none⟩).getD undef)=X.depth
 rw[h]
 exact oI hX
set_option maxHeartbeats 8000000 in
theorem aHR (k:K25) (c t:Nat) (R:Option (CT K25)) (n:Int) (w:World) (h:jI w t R n) (hnd:(t :: jD R).Nodup) (hf:vU R k=none) :
  Calls Tryz.prog 70 #[.pointer (some ⟨t,0,none⟩),.agg (aJ k.val),.pointer (some ⟨c,0,none⟩)] w fun e w'=>e = .returned (.bool true)/\aD5 w t R k c w':=by
 have hlt:=lt_of_heap h.1
 have HB:=Lib.hid (sJ k.val k.property)
 have hfi:∀ W,Below w.heap.size w W->Gives Tryz.prog 106 #[.pointer (some ⟨t,0,none⟩),.agg (aJ k.val)] W (aBk (vU R k)):=fun W hb=>aBD k t R n W (h.keep hb)
 rw[hf] at hfi
 simp only[aBk] at hfi
 have HF:=Lib.hid hfi
 have HT:=Lib.hid h
 have HND:=Lib.hid hnd
 have HTW:=Lib.hid h
 have HFN:=Lib.hid hf
 clear hfi h hnd hf
 go_enter Tryz.func70,Tryz.ntmps70
 go_wp2_with fail
 refine Gives.use (HF.out _ blw) ?_
 intro xs0 d0
 go_wp2_with fail
 clear HF
 apply aG (by rfl) [.val _,.val _,.val _,.val _,.val _,.new _] 6 (by rfl) [25,26,27,28,29,30] [5] [] (by rfl) (by rfl) (by decide) (by decide +kernel) (fun _ _ _ _ _ h=>h)
 case hF=>intro x;simp only[over,List.foldl_cons,List.foldl_nil,List.setIfInBounds_toArray,List.set_cons_succ,List.set_cons_zero];exact rfl
 case hops =>
  refine ⟨?o0,?o1,?o2,?o3,?o4,?o5,trivial⟩
  case o0 =>
   intro x w1 hH K hK
   obtain ⟨xs,d,rfl⟩:=aA hH.below
   clear hH
   try simp only[World.aB] at hK |-
   try simp only[World.grow_grow] at hK |-
   exact zw
  case o1 =>
   intro x w1 hH K hK
   obtain ⟨xs,d,rfl⟩:=aA hH.below
   clear hH
   try simp only[World.aB] at hK |-
   try simp only[World.grow_grow] at hK |-
   exact zw
  case o2 =>
   intro x w1 hH K hK
   have e26:x 26=_:=hH.g 1 26
   obtain ⟨xs,d,rfl⟩:=aA hH.below
   clear hH
   try simp only[World.aB] at hK |-
   try simp only[World.grow_grow] at hK |-
   simp only[e26] at hK |-
   clear e26
   go_simp
   go_wp2_with (refine Gives.use (HB.out _) ?_;intro ys e)
   exact zu
  case o3 =>
   intro x w1 hH K hK
   obtain ⟨xs,d,rfl⟩:=aA hH.below
   clear hH
   try simp only[World.aB] at hK |-
   try simp only[World.grow_grow] at hK |-
   exact zw
  case o4 =>
   intro x w1 hH K hK
   have e25:x 25=_:=hH.g 0 25
   have e27:x 27=_:=hH.g 2 27
   have e28:x 28=_:=hH.g 3 28
   obtain ⟨xs,d,rfl⟩:=aA hH.below
   clear hH
   try simp only[World.aB] at hK |-
   try simp only[World.grow_grow] at hK |-
   simp only[e25,e27,e28] at hK |-
   clear e25 e27 e28
   exact zw
  case o5 =>
   intro x w1 hH K hK
   have e29:x 29=_:=hH.g 4 29
   obtain ⟨xs,d,rfl⟩:=aA hH.below
   clear hH
   try simp only[World.aB] at hK |-
   try simp only[World.grow_grow] at hK |-
   simp only[e29] at hK |-
   clear e29
   go_simp
   go_wp2_with fail
   exact lJ rfl (by simp) (by first | (simp;done) | (simp;omega))
 intro x w1 hH
 have e25:x 25=_:=hH.t 0 25
 have e26:x 26=_:=hH.t 1 26
 have e27:x 27=_:=hH.t 2 27
 have e28:x 28=_:=hH.t 3 28
 have e29:x 29=_:=hH.t 4 29
 obtain ⟨b30,e30,l30,u30,o30⟩:=hH.t 5 30
 obtain ⟨xs,d,rfl⟩:=aA hH.below
 clear hH
 simp only[e25,e26,e27,e28,e29,e30];clear e25 e26 e27 e28 e29 e30
 refine rO o30 l30 u30 ?_
 clear o30
 simp[go_sem] at l30 u30
 simp only[List.drop_succ_cons,List.drop_zero]
 go_upto_region 8 with fail
 refine aP ?_
 intro V hV
 have hbV:Below w.heap.size w V:=by rw[hV];exact blw
 have hNV:dD V b30 true k.val k.val (pt c) 0 (.pointer none) (.pointer none):=by
  rw[hV];exact World.dX _ (by simp;omega)
 have hbl:w.heap.size<=b30:=by omega
 have hTV:=HT.out.keep hbV
 clear hV l30 u30
 have hltV:t<V.heap.size:=lt_of_heap hTV.1
 have htn:t∉jD R:=(List.nodup_cons.1 HND.out).1
 have hbt:b30≠t:=by omega
 have c1:V.cell? ⟨t,1,none⟩=some (.int .i64 n):=(jX hTV.1 1).1
 have f1:V.frozen? ⟨t,1,none⟩=false:=(jX hTV.1 1).2
 have HTV:=Lib.hid hTV
 have HNV:=Lib.hid hNV
 clear hTV hNV
 go_upto_region 9 with fail
 refine aP ?_
 intro V2 hV2
 have hTV2:jI V2 t R (wrap64 (n+1)):=by rw[hV2];exact HTV.out.aRQ htn _
 have hNV2:dD V2 b30 true k.val k.val (pt c) 0 (.pointer none) (.pointer none):=by rw[hV2];exact HNV.out.other hbt _
 have hbw:But (t :: jD R) w V2:=(But.of_below hbV _).trans (by rw[hV2];exact (But.setCell V t 1 _).more (fun b hb _=>by simp at hb;simp[hb]))
 clear hV2 c1 f1 HTV HNV HT hbV hltV
 have cb:=hNV2.bytes k.property k.property
 have lb:=lt_of_heap hNV2
 have HN:=Lib.hid (aBP k.val k.property t R _ V2 hTV2)
 have HT2:=Lib.hid (And.intro hTV2 hNV2)
 clear hTV2 hNV2
 generalize wrap64 (n+1)=m at *
 go_wp2_with fail
 refine Gives.use HN.out ?_
 intro xs2 d2
 go_upto_region 10 with fail
 refine aP ?_
 intro V3 hV3
 have hb3:Below V2.heap.size V2 V3:=by rw[hV3];exact aS _ _
 clear hV3 HN cb lb
 have hT3:=HT2.out.1.keep hb3
 have hN3:dD V3 b30 true k.val k.val (pt c) 0 (.pointer none) (.pointer none):=(hb3.block _ (lt_of_heap HT2.out.2)).trans HT2.out.2
 have hbw3:But (t :: jD R) w V3:=hbw.trans (But.of_below hb3 _)
 clear HT2 hbw hb3 V2
 have l30:=lt_of_heap hN3
 have hlt3:=lt_of_heap hT3.1
 have HBW:=Lib.hid hbw3
 have HT3:=Lib.hid hT3
 have HN3:=Lib.hid hN3
 clear hbw3 hT3 hN3
 cases R with
 | none =>
  simp only[aCg,Option.map_none,aBk] at *
  have f1:V3.frozen? ⟨t,0,none⟩=false:=(jX HT3.out.1 0).2
  have c1:V3.cell? ⟨t,0,none⟩=some (.pointer none):=(jX HT3.out.1 0).1
  go_wp2_with fail
  go_ret
  refine ⟨rfl,HBW.out.trans ((But.setCell V3 t 0 _).more fun b hb _=>by simp at hb;simp[hb]),b30,b30+1,_,hbl,by omega,by omega,⟨aH4 HT3.out.1 _,fun T hT => ?_⟩⟩
  obtain rfl:=Option.some.inj hT
  exact ⟨HN3.out.other hbt _,trivial⟩
 | some T =>
  have HW:=Lib.hid (HTW.out.2 T rfl).1
  simp only[aCg,Option.map_some,aBk,pt] at *
  have hx:=(HT3.out.2 T rfl).1.leaf _ (jM k.val T)
  have hxk:(T.near k.val).2.1≠k:=by
   intro e
   have:=HFN.out
   unfold vU at this
   simp only[Option.bind_some,if_pos e] at this
   cases this
  obtain ⟨dd,hd⟩:∃ d,d=aDf k.val (T.near k.val).2.1.val:=⟨_,rfl⟩
  have hkn:k.val≠(T.near k.val).2.1.val:=fun e=>hxk (Subtype.ext e.symm)
  have hun:gX k.val (T.near k.val).2.1.val dd:=by rw[hd];exact aAa k.property (K25.len _) hkn
  have HUN:=Lib.hid (And.intro hun hd)
  have hdg:=aC1 k.val (T.near k.val).2.1.val k.property (K25.len _) hkn
  rw[<-hd] at hdg
  have HD:=Lib.hid hdg
  have cx:=hx.bytes (K25.len _) (K25.len _)
  have ck:=HN3.out.bytes k.property k.property
  have lx:=lt_of_heap hx
  have hxl:(T.near k.val).2.1.val.length=25:=K25.len _
  clear hx hxk hkn hdg hun hd
  generalize (T.near k.val).2.1.val=xk at cx HD hxl
  generalize (T.near k.val).1=xa at *
  go_wp2_with fail
  apply aG (by rfl) [.val _,.val _,.val _,.val _,.val _,.val _,.val _,.val _,.val _] 9 (by rfl) [50,51,52,53,54,55,56,57,58] [] [] (by rfl) (by rfl) (by decide) (by decide +kernel) (fun _ _ _ _ _ h=>h)
  case hF=>intro x;simp only[over,List.foldl_cons,List.foldl_nil,List.setIfInBounds_toArray,List.set_cons_succ,List.set_cons_zero];exact rfl
  case hops =>
   refine ⟨?o0,?o1,?o2,?o3,?o4,?o5,?o6,?o7,?o8,trivial⟩
   case o0 =>
    intro x w1 hH K hK
    obtain ⟨xs,d,rfl⟩:=aA hH.below
    clear hH
    try simp only[World.aB] at hK |-
    try simp only[World.grow_grow] at hK |-
    exact zw
   case o1 =>
    intro x w1 hH K hK
    have e50:x 50=_:=hH.g 0 50
    obtain ⟨xs,d,rfl⟩:=aA hH.below
    clear hH
    try simp only[World.aB] at hK |-
    try simp only[World.grow_grow] at hK |-
    simp only[e50] at hK |-
    clear e50
    exact zw
   case o2 =>
    intro x w1 hH K hK
    have e51:x 51=_:=hH.g 1 51
    obtain ⟨xs,d,rfl⟩:=aA hH.below
    clear hH
    try simp only[World.aB] at hK |-
    try simp only[World.grow_grow] at hK |-
    simp only[e51] at hK |-
    clear e51
    exact zw
   case o3 =>
    intro x w1 hH K hK
    have e52:x 52=_:=hH.g 2 52
    obtain ⟨xs,d,rfl⟩:=aA hH.below
    clear hH
    try simp only[World.aB] at hK |-
    try simp only[World.grow_grow] at hK |-
    simp only[e52] at hK |-
    clear e52
    exact zw
   case o4 =>
    intro x w1 hH K hK
    obtain ⟨xs,d,rfl⟩:=aA hH.below
    clear hH
    try simp only[World.aB] at hK |-
    try simp only[World.grow_grow] at hK |-
    exact zw
   case o5 =>
    intro x w1 hH K hK
    have e54:x 54=_:=hH.g 4 54
    obtain ⟨xs,d,rfl⟩:=aA hH.below
    clear hH
    try simp only[World.aB] at hK |-
    try simp only[World.grow_grow] at hK |-
    simp only[e54] at hK |-
    clear e54
    exact zw
   case o6 =>
    intro x w1 hH K hK
    have e55:x 55=_:=hH.g 5 55
    obtain ⟨xs,d,rfl⟩:=aA hH.below
    clear hH
    try simp only[World.aB] at hK |-
    try simp only[World.grow_grow] at hK |-
    simp only[e55] at hK |-
    clear e55
    exact zw
   case o7 =>
    intro x w1 hH K hK
    have e56:x 56=_:=hH.g 6 56
    obtain ⟨xs,d,rfl⟩:=aA hH.below
    clear hH
    try simp only[World.aB] at hK |-
    try simp only[World.grow_grow] at hK |-
    simp only[e56] at hK |-
    clear e56
    exact zw
   case o8 =>
    intro x w1 hH K hK
    have e53:x 53=_:=hH.g 3 53
    have e57:x 57=_:=hH.g 7 57
    obtain ⟨xs,d,rfl⟩:=aA hH.below
    clear hH
    try simp only[World.aB] at hK |-
    try simp only[World.grow_grow] at hK |-
    simp only[e53,e57] at hK |-
    clear e53 e57
    go_simp
    go_wp2_with (refine Gives.use (HD.out _) ?_;intro ys e)
    exact zu
  intro x w1 hH
  have e50:x 50=_:=hH.t 0 50
  have e51:x 51=_:=hH.t 1 51
  have e52:x 52=_:=hH.t 2 52
  have e53:x 53=_:=hH.t 3 53
  have e54:x 54=_:=hH.t 4 54
  have e55:x 55=_:=hH.t 5 55
  have e56:x 56=_:=hH.t 6 56
  have e57:x 57=_:=hH.t 7 57
  have e58:x 58=_:=hH.t 8 58
  obtain ⟨xs,d,rfl⟩:=aA hH.below
  clear hH
  simp only[e50,e51,e52,e53,e54,e55,e56,e57,e58];clear e50 e51 e52 e53 e54 e55 e56 e57 e58
  simp only[List.drop_succ_cons,List.drop_zero]
  go_upto_region 14 with fail
  refine aP ?_
  intro V4 hV4
  have hb4:Below V3.heap.size V3 V4:=by rw[hV4,World.aB];exact aS _ _
  clear hV4 HD cx ck lx hxl
  have hT4:=HT3.out.keep hb4
  have hN4:dD V4 b30 true k.val k.val (pt c) 0 (.pointer none) (.pointer none):=(hb4.block _ l30).trans HN3.out
  have hbw4:But (t :: jD (some T)) w V4:=HBW.out.trans (But.of_below hb4 _)
  have l304:=lt_of_heap hN4
  have ck4:=hN4.bytes k.property k.property
  have hbs:w.heap.size<=V4.heap.size:=hbw4.size
  have H4:=Lib.hid (And.intro hT4 (And.intro hN4 hbw4))
  have HS:=Lib.hid (aB0 k.val k.property)
  have hlt4:=lt_of_heap hT4.1
  clear hT4 hN4 hbw4 hb4 HBW HT3 HN3 l30 hlt3 V3
  have hd200:dd<200:=HUN.out.1.1
  go_upto_block 0 with fail
  go_cut [11] (fun s11 wx => ∃ (ps:Way) (X:CT K25) (q o:Nat) (xs:Array Obj) (d:Nat),s11 = .pointer (some ⟨q,o,none⟩)/\Hid (holder t ps=(q,o)/\plug ps X=T/\(∀ a fa,T.ins keyBytes a k c fa dd=plug ps (if rE k.val dd then .fork fa dd X (.leaf a k c) else .fork fa dd (.leaf a k c) X)))/\wx=V4.grow xs d)
  case first =>
   go_wp2_with fail
   go_loopw [11] (fun s11 wr => ∃ (ps:Way) (X:CT K25) (q o:Nat) (xs:Array Obj) (d:Nat),s11 = .pointer (some ⟨q,o,none⟩)/\holder t ps=(q,o)/\plug ps X=T/\(∀ a fa,T.ins keyBytes a k c fa dd=plug ps (X.ins keyBytes a k c fa dd))/\wr=V4.grow xs d)
    (fun s11 _=>aB8 V4 s11)
   case atStart=>exact ⟨[],T,t,0, #[],V4.drawn,rfl,rfl,rfl,fun _ _=>rfl,World.jE.symm⟩
   obtain ⟨ps,X,q,o,xs,d,rfl,hqo,hpl,hins,rfl⟩:=hrel
   have hT:jI V4 t (some (plug ps X)) m:=by rw[hpl];exact H4.out.1
   have hdep:=aCa hT
   have hcel:=sV hT
   rw[hqo] at hdep hcel
   obtain ⟨cq,fq,lq⟩:=hcel
   have hXat:=mG (hT.2 _ rfl).1
   have hXok:=aHP (hT.2 _ rfl).2
   simp only[pt] at cq
   have HP:=Lib.hid (And.intro hqo (And.intro hpl hins))
   clear hqo hpl hins hT
   cases X with
   | leaf xa' k' c' =>
    have hXn:dD V4 xa' true k'.val k'.val (pt c') 0 (.pointer none) (.pointer none):=hXat
    have c0:=(hXn.cells (K25.len _) (K25.len _)).1
    have lX:=lt_of_heap hXn
    rw[aG5] at cq
    clear hXat hXok hXn hdep
    go_wp2_with fail
    go_meet
    exact ⟨ps,_,q,o,xs,d,rfl,Lib.hid ⟨HP.out.1,HP.out.2.1,HP.out.2.2⟩,rfl⟩
   | fork xa' bit l r =>
    obtain ⟨hn,hL,hRt⟩:=hXat
    obtain ⟨hb200,_⟩:=hXok
    obtain ⟨c0,_,c2,c3,c4⟩:=dD.cells hn (by simp[zeros]) (by simp[zeros])
    have lX:=lt_of_heap hn
    rw[aG4] at cq
    simp only[pt] at c3 c4
    have HDL:=Lib.hid (zD c3 hL)
    have HDR:=Lib.hid (zD c4 hRt)
    clear hn hL hRt
    by_cases hlt:bit<dd
    ·have HDP:=Lib.hid hdep
     clear hdep
     by_cases hs:rE k.val bit=true
     ·have hsd:tJ k.val bit=1:=by simp[tJ,hs]
      have HS1:=Lib.hid (HS.out bit hb200)
      rw[hsd] at HS1
      clear hsd
      go_wp2_with fail
      apply aG (by rfl) [.val _,.val _,.val _,.val _,.val _,.val _,.val _,.val _,.val _,.val _,.val _,.val _,.val _,.val _,.val _,.val _,.val _] 17 (by rfl) [79,80,81,82,83,84,85,86,87,88,89,90,91,92,93,94,95] [] [] (by rfl) (by rfl) (by decide) (by decide +kernel) (fun _ _ _ _ _ h=>h)
      case hF=>intro x;simp only[over,List.foldl_cons,List.foldl_nil,List.setIfInBounds_toArray,List.set_cons_succ,List.set_cons_zero];exact rfl
      case hops =>
       refine ⟨?o0,?o1,?o2,?o3,?o4,?o5,?o6,?o7,?o8,?o9,?o10,?o11,?o12,?o13,?o14,?o15,?o16,trivial⟩
       case o0 =>
        intro x w1 hH K hK
        obtain ⟨xs,d,rfl⟩:=aA hH.below
        clear hH
        try simp only[World.aB] at hK |-
        try simp only[World.grow_grow] at hK |-
        exact zw
       case o1 =>
        intro x w1 hH K hK
        have e79:x 79=_:=hH.g 0 79
        obtain ⟨xs,d,rfl⟩:=aA hH.below
        clear hH
        try simp only[World.aB] at hK |-
        try simp only[World.grow_grow] at hK |-
        simp only[e79] at hK |-
        clear e79
        exact zw
       case o2 =>
        intro x w1 hH K hK
        have e80:x 80=_:=hH.g 1 80
        obtain ⟨xs,d,rfl⟩:=aA hH.below
        clear hH
        try simp only[World.aB] at hK |-
        try simp only[World.grow_grow] at hK |-
        simp only[e80] at hK |-
        clear e80
        exact zw
       case o3 =>
        intro x w1 hH K hK
        obtain ⟨xs,d,rfl⟩:=aA hH.below
        clear hH
        try simp only[World.aB] at hK |-
        try simp only[World.grow_grow] at hK |-
        exact zw
       case o4 =>
        intro x w1 hH K hK
        have e82:x 82=_:=hH.g 3 82
        obtain ⟨xs,d,rfl⟩:=aA hH.below
        clear hH
        try simp only[World.aB] at hK |-
        try simp only[World.grow_grow] at hK |-
        simp only[e82] at hK |-
        clear e82
        exact zw
       case o5 =>
        intro x w1 hH K hK
        have e83:x 83=_:=hH.g 4 83
        obtain ⟨xs,d,rfl⟩:=aA hH.below
        clear hH
        try simp only[World.aB] at hK |-
        try simp only[World.grow_grow] at hK |-
        simp only[e83] at hK |-
        clear e83
        exact zw
       case o6 =>
        intro x w1 hH K hK
        have e84:x 84=_:=hH.g 5 84
        obtain ⟨xs,d,rfl⟩:=aA hH.below
        clear hH
        try simp only[World.aB] at hK |-
        try simp only[World.grow_grow] at hK |-
        simp only[e84] at hK |-
        clear e84
        exact zw
       case o7 =>
        intro x w1 hH K hK
        obtain ⟨xs,d,rfl⟩:=aA hH.below
        clear hH
        try simp only[World.aB] at hK |-
        try simp only[World.grow_grow] at hK |-
        exact zw
       case o8 =>
        intro x w1 hH K hK
        have e86:x 86=_:=hH.g 7 86
        obtain ⟨xs,d,rfl⟩:=aA hH.below
        clear hH
        try simp only[World.aB] at hK |-
        try simp only[World.grow_grow] at hK |-
        simp only[e86] at hK |-
        clear e86
        exact zw
       case o9 =>
        intro x w1 hH K hK
        have e87:x 87=_:=hH.g 8 87
        obtain ⟨xs,d,rfl⟩:=aA hH.below
        clear hH
        try simp only[World.aB] at hK |-
        try simp only[World.grow_grow] at hK |-
        simp only[e87] at hK |-
        clear e87
        exact zw
       case o10 =>
        intro x w1 hH K hK
        have e88:x 88=_:=hH.g 9 88
        obtain ⟨xs,d,rfl⟩:=aA hH.below
        clear hH
        try simp only[World.aB] at hK |-
        try simp only[World.grow_grow] at hK |-
        simp only[e88] at hK |-
        clear e88
        exact zw
       case o11 =>
        intro x w1 hH K hK
        have e89:x 89=_:=hH.g 10 89
        obtain ⟨xs,d,rfl⟩:=aA hH.below
        clear hH
        try simp only[World.aB] at hK |-
        try simp only[World.grow_grow] at hK |-
        simp only[e89] at hK |-
        clear e89
        exact zw
       case o12 =>
        intro x w1 hH K hK
        have e90:x 90=_:=hH.g 11 90
        obtain ⟨xs,d,rfl⟩:=aA hH.below
        clear hH
        try simp only[World.aB] at hK |-
        try simp only[World.grow_grow] at hK |-
        simp only[e90] at hK |-
        clear e90
        exact zw
       case o13 =>
        intro x w1 hH K hK
        have e85:x 85=_:=hH.g 6 85
        have e91:x 91=_:=hH.g 12 91
        obtain ⟨xs,d,rfl⟩:=aA hH.below
        clear hH
        try simp only[World.aB] at hK |-
        try simp only[World.grow_grow] at hK |-
        simp only[e85,e91] at hK |-
        clear e85 e91
        go_simp
        go_wp2_with (refine Gives.use (HS1.out _) ?_;intro ys e)
        exact zu
       case o14 =>
        intro x w1 hH K hK
        have e81:x 81=_:=hH.g 2 81
        obtain ⟨xs,d,rfl⟩:=aA hH.below
        clear hH
        try simp only[World.aB] at hK |-
        try simp only[World.grow_grow] at hK |-
        simp only[e81] at hK |-
        clear e81
        exact zw
       case o15 =>
        intro x w1 hH K hK
        have e93:x 93=_:=hH.g 14 93
        obtain ⟨xs,d,rfl⟩:=aA hH.below
        clear hH
        try simp only[World.aB] at hK |-
        try simp only[World.grow_grow] at hK |-
        simp only[e93] at hK |-
        clear e93
        exact zw
       case o16 =>
        intro x w1 hH K hK
        have e92:x 92=_:=hH.g 13 92
        have e94:x 94=_:=hH.g 15 94
        obtain ⟨xs,d,rfl⟩:=aA hH.below
        clear hH
        try simp only[World.aB] at hK |-
        try simp only[World.grow_grow] at hK |-
        simp only[e92,e94] at hK |-
        clear e92 e94
        exact zw
      intro x w1 hH
      have e79:x 79=_:=hH.t 0 79
      have e80:x 80=_:=hH.t 1 80
      have e81:x 81=_:=hH.t 2 81
      have e82:x 82=_:=hH.t 3 82
      have e83:x 83=_:=hH.t 4 83
      have e84:x 84=_:=hH.t 5 84
      have e85:x 85=_:=hH.t 6 85
      have e86:x 86=_:=hH.t 7 86
      have e87:x 87=_:=hH.t 8 87
      have e88:x 88=_:=hH.t 9 88
      have e89:x 89=_:=hH.t 10 89
      have e90:x 90=_:=hH.t 11 90
      have e91:x 91=_:=hH.t 12 91
      have e92:x 92=_:=hH.t 13 92
      have e93:x 93=_:=hH.t 14 93
      have e94:x 94=_:=hH.t 15 94
      have e95:x 95=_:=hH.t 16 95
      obtain ⟨xs,d,rfl⟩:=aA hH.below
      clear hH
      simp only[e79,e80,e81,e82,e83,e84,e85,e86,e87,e88,e89,e90,e91,e92,e93,e94,e95];clear e79 e80 e81 e82 e83 e84 e85 e86 e87 e88 e89 e90 e91 e92 e93 e94 e95
      simp only[List.drop_succ_cons,List.drop_zero]
      go_wp2_with fail
      go_roundw
      case rel=>exact ⟨(true,xa',bit,l) :: ps,r,xa',54,_,_,rfl,rfl,HP.out.2.1,fun a fa=>by rw[HP.out.2.2,CT.ins,if_pos hlt,if_pos (show rE (keyBytes k) bit=true from hs)];rfl,by rw[World.aB,World.grow_grow]⟩
      rw[HDR.out,HDP.out];simp only[CT.depth];omega
     have hsd:tJ k.val bit=0:=by simp[tJ,hs]
     have HS1:=Lib.hid (HS.out bit hb200)
     rw[hsd] at HS1
     clear hsd
     go_wp2_with fail
     apply aG (by rfl) [.val _,.val _,.val _,.val _,.val _,.val _,.val _,.val _,.val _,.val _,.val _,.val _,.val _,.val _,.val _,.val _,.val _] 17 (by rfl) [79,80,81,82,83,84,85,86,87,88,89,90,91,92,93,94,95] [] [] (by rfl) (by rfl) (by decide) (by decide +kernel) (fun _ _ _ _ _ h=>h)
     case hF=>intro x;simp only[over,List.foldl_cons,List.foldl_nil,List.setIfInBounds_toArray,List.set_cons_succ,List.set_cons_zero];exact rfl
     case hops =>
      refine ⟨?o0,?o1,?o2,?o3,?o4,?o5,?o6,?o7,?o8,?o9,?o10,?o11,?o12,?o13,?o14,?o15,?o16,trivial⟩
      case o0 =>
       intro x w1 hH K hK
       obtain ⟨xs,d,rfl⟩:=aA hH.below
       clear hH
       try simp only[World.aB] at hK |-
       try simp only[World.grow_grow] at hK |-
       exact zw
      case o1 =>
       intro x w1 hH K hK
       have e79:x 79=_:=hH.g 0 79
       obtain ⟨xs,d,rfl⟩:=aA hH.below
       clear hH
       try simp only[World.aB] at hK |-
       try simp only[World.grow_grow] at hK |-
       simp only[e79] at hK |-
       clear e79
       exact zw
      case o2 =>
       intro x w1 hH K hK
       have e80:x 80=_:=hH.g 1 80
       obtain ⟨xs,d,rfl⟩:=aA hH.below
       clear hH
       try simp only[World.aB] at hK |-
       try simp only[World.grow_grow] at hK |-
       simp only[e80] at hK |-
       clear e80
       exact zw
      case o3 =>
       intro x w1 hH K hK
       obtain ⟨xs,d,rfl⟩:=aA hH.below
       clear hH
       try simp only[World.aB] at hK |-
       try simp only[World.grow_grow] at hK |-
       exact zw
      case o4 =>
       intro x w1 hH K hK
       have e82:x 82=_:=hH.g 3 82
       obtain ⟨xs,d,rfl⟩:=aA hH.below
       clear hH
       try simp only[World.aB] at hK |-
       try simp only[World.grow_grow] at hK |-
       simp only[e82] at hK |-
       clear e82
       exact zw
      case o5 =>
       intro x w1 hH K hK
       have e83:x 83=_:=hH.g 4 83
       obtain ⟨xs,d,rfl⟩:=aA hH.below
       clear hH
       try simp only[World.aB] at hK |-
       try simp only[World.grow_grow] at hK |-
       simp only[e83] at hK |-
       clear e83
       exact zw
      case o6 =>
       intro x w1 hH K hK
       have e84:x 84=_:=hH.g 5 84
       obtain ⟨xs,d,rfl⟩:=aA hH.below
       clear hH
       try simp only[World.aB] at hK |-
       try simp only[World.grow_grow] at hK |-
       simp only[e84] at hK |-
       clear e84
       exact zw
      case o7 =>
       intro x w1 hH K hK
       obtain ⟨xs,d,rfl⟩:=aA hH.below
       clear hH
       try simp only[World.aB] at hK |-
       try simp only[World.grow_grow] at hK |-
       exact zw
      case o8 =>
       intro x w1 hH K hK
       have e86:x 86=_:=hH.g 7 86
       obtain ⟨xs,d,rfl⟩:=aA hH.below
       clear hH
       try simp only[World.aB] at hK |-
       try simp only[World.grow_grow] at hK |-
       simp only[e86] at hK |-
       clear e86
       exact zw
      case o9 =>
       intro x w1 hH K hK
       have e87:x 87=_:=hH.g 8 87
       obtain ⟨xs,d,rfl⟩:=aA hH.below
       clear hH
       try simp only[World.aB] at hK |-
       try simp only[World.grow_grow] at hK |-
       simp only[e87] at hK |-
       clear e87
       exact zw
      case o10 =>
       intro x w1 hH K hK
       have e88:x 88=_:=hH.g 9 88
       obtain ⟨xs,d,rfl⟩:=aA hH.below
       clear hH
       try simp only[World.aB] at hK |-
       try simp only[World.grow_grow] at hK |-
       simp only[e88] at hK |-
       clear e88
       exact zw
      case o11 =>
       intro x w1 hH K hK
       have e89:x 89=_:=hH.g 10 89
       obtain ⟨xs,d,rfl⟩:=aA hH.below
       clear hH
       try simp only[World.aB] at hK |-
       try simp only[World.grow_grow] at hK |-
       simp only[e89] at hK |-
       clear e89
       exact zw
      case o12 =>
       intro x w1 hH K hK
       have e90:x 90=_:=hH.g 11 90
       obtain ⟨xs,d,rfl⟩:=aA hH.below
       clear hH
       try simp only[World.aB] at hK |-
       try simp only[World.grow_grow] at hK |-
       simp only[e90] at hK |-
       clear e90
       exact zw
      case o13 =>
       intro x w1 hH K hK
       have e85:x 85=_:=hH.g 6 85
       have e91:x 91=_:=hH.g 12 91
       obtain ⟨xs,d,rfl⟩:=aA hH.below
       clear hH
       try simp only[World.aB] at hK |-
       try simp only[World.grow_grow] at hK |-
       simp only[e85,e91] at hK |-
       clear e85 e91
       go_simp
       go_wp2_with (refine Gives.use (HS1.out _) ?_;intro ys e)
       exact zu
      case o14 =>
       intro x w1 hH K hK
       have e81:x 81=_:=hH.g 2 81
       obtain ⟨xs,d,rfl⟩:=aA hH.below
       clear hH
       try simp only[World.aB] at hK |-
       try simp only[World.grow_grow] at hK |-
       simp only[e81] at hK |-
       clear e81
       exact zw
      case o15 =>
       intro x w1 hH K hK
       have e93:x 93=_:=hH.g 14 93
       obtain ⟨xs,d,rfl⟩:=aA hH.below
       clear hH
       try simp only[World.aB] at hK |-
       try simp only[World.grow_grow] at hK |-
       simp only[e93] at hK |-
       clear e93
       exact zw
      case o16 =>
       intro x w1 hH K hK
       have e92:x 92=_:=hH.g 13 92
       have e94:x 94=_:=hH.g 15 94
       obtain ⟨xs,d,rfl⟩:=aA hH.below
       clear hH
       try simp only[World.aB] at hK |-
       try simp only[World.grow_grow] at hK |-
       simp only[e92,e94] at hK |-
       clear e92 e94
       exact zw
     intro x w1 hH
     have e79:x 79=_:=hH.t 0 79
     have e80:x 80=_:=hH.t 1 80
     have e81:x 81=_:=hH.t 2 81
     have e82:x 82=_:=hH.t 3 82
     have e83:x 83=_:=hH.t 4 83
     have e84:x 84=_:=hH.t 5 84
     have e85:x 85=_:=hH.t 6 85
     have e86:x 86=_:=hH.t 7 86
     have e87:x 87=_:=hH.t 8 87
     have e88:x 88=_:=hH.t 9 88
     have e89:x 89=_:=hH.t 10 89
     have e90:x 90=_:=hH.t 11 90
     have e91:x 91=_:=hH.t 12 91
     have e92:x 92=_:=hH.t 13 92
     have e93:x 93=_:=hH.t 14 93
     have e94:x 94=_:=hH.t 15 94
     have e95:x 95=_:=hH.t 16 95
     obtain ⟨xs,d,rfl⟩:=aA hH.below
     clear hH
     simp only[e79,e80,e81,e82,e83,e84,e85,e86,e87,e88,e89,e90,e91,e92,e93,e94,e95];clear e79 e80 e81 e82 e83 e84 e85 e86 e87 e88 e89 e90 e91 e92 e93 e94 e95
     simp only[List.drop_succ_cons,List.drop_zero]
     go_wp2_with fail
     go_roundw
     case rel=>exact ⟨(false,xa',bit,r) :: ps,l,xa',53,_,_,rfl,rfl,HP.out.2.1,fun a fa=>by rw[HP.out.2.2,CT.ins,if_pos hlt,if_neg (show ¬ rE (keyBytes k) bit=true from hs)];rfl,by rw[World.aB,World.grow_grow]⟩
     rw[HDL.out,HDP.out];simp only[CT.depth];omega
    clear hdep
    go_wp2_with fail
    go_meet
    exact ⟨ps,_,q,o,xs,d,rfl,Lib.hid ⟨HP.out.1,HP.out.2.1,fun a fa=>by rw[HP.out.2.2,CT.ins,if_neg hlt];rfl⟩,rfl⟩
  obtain ⟨ps,X,q,o,xs,d,rfl,HP,rfl⟩:=hcut
  have hT:jI V4 t (some (plug ps X)) m:=by rw[HP.out.2.1];exact H4.out.1
  have hcel:=sV hT
  rw[HP.out.1] at hcel
  obtain ⟨cq,fq,lq⟩:=hcel
  simp only[pt] at cq
  clear hT
  go_upto_region 18 with fail
  refine aP ?_
  intro V6 hV6
  have hb6:Below V4.heap.size V4 V6:=by rw[hV6];exact blw
  obtain ⟨fa,hfa⟩:∃ fa,fa=V4.heap.size+xs.size:=⟨_,rfl⟩
  rw[<-hfa]
  have hfl:V4.heap.size<=fa:=by omega
  have hn6:dD V6 fa false (zeros 25) (zeros 25) (.pointer none) dd (.pointer none) (.pointer none):=by
   rw[hV6,hfa]
   exact (aC _ _ _).trans (if_pos (by simp))
  clear hV6 hfa
  have ck6:V6.aW b30 26 25=some (aJ k.val):=(aK (hb6.block _ l304) _ _).trans ck4
  have l306:b30<V6.heap.size:=Nat.lt_of_lt_of_le l304 hb6.size
  have HS1:=Lib.hid (HS.out dd hd200 V6)
  have cq6:V6.cell? ⟨q,o,none⟩=some (.pointer (some ⟨X.at_,0,none⟩)):=(hb6.cell (p:=⟨q,o,none⟩) lq).trans cq
  have fq6:V6.frozen? ⟨q,o,none⟩=false:=(frozen_of_heap (hb6.block _ lq) _).trans fq
  have lq6:q<V6.heap.size:=Nat.lt_of_lt_of_le lq hb6.size
  have hqf:q≠fa:=by intro e;have h1:q<V4.heap.size:=lq;omega
  have H6:=Lib.hid (And.intro hb6 hn6)
  clear hb6 hn6 cq fq
  by_cases hs:rE k.val dd=true
  ·have hsd:tJ k.val dd=1:=by simp[tJ,hs]
   rw[hsd] at HS1
   have hins:∀ a fa,T.ins keyBytes a k c fa dd=plug ps (.fork fa dd X (.leaf a k c)):=fun a fa=>by rw[HP.out.2.2,if_pos hs]
   have HI:=Lib.hid hins
   clear hs hsd hins HS
   go_wp2_with fail
   refine Gives.use HS1.out ?_
   intro xs7 d7
   go_upto_region 19 with fail
   refine aP ?_
   intro V7 hV7
   have hb7:Below V6.heap.size V6 V7:=by rw[hV7];exact aS _ _
   clear hV7 HS1 ck6
   have hn7:dD V7 fa false (zeros 25) (zeros 25) (.pointer none) dd (.pointer none) (.pointer none):=(hb7.block _ (lt_of_heap H6.out.2)).trans H6.out.2
   have cq7:V7.cell? ⟨q,o,none⟩=some (.pointer (some ⟨X.at_,0,none⟩)):=(hb7.cell (p:=⟨q,o,none⟩) lq6).trans cq6
   have fq7:V7.frozen? ⟨q,o,none⟩=false:=(frozen_of_heap (hb7.block _ lq6) _).trans fq6
   obtain ⟨_,_,_,c73,c74⟩:=hn7.cells (by simp[zeros]) (by simp[zeros])
   have f73:=(jX hn7 53).2
   have f74:=(jX hn7 54).2
   have l7:=lt_of_heap hn7
   have lq7:q<V7.heap.size:=Nat.lt_of_lt_of_le lq6 hb7.size
   have H7:=Lib.hid (And.intro H6.out.1 (And.intro hb7 hn7))
   clear H6 hb7 hn7 cq6 fq6 lq6 l306
   go_region
   go_upto_region 20 with fail
   refine aP ?_
   intro V8 hV8
   have hn8:dD V8 fa false (zeros 25) (zeros 25) (.pointer none) dd (pt X.at_) (pt b30):=by rw[hV8];exact qW (qX H7.out.2.2 _) _
   have hb78:But [fa] V7 V8:=by rw[hV8];exact (But.setCell' V7 List.mem_cons_self _ _).trans ((But.setCell' _ List.mem_cons_self _ _).trans (But.of_below ((Below.refl _ _).drew) _))
   have l8:=lt_of_heap hn8
   have lq8:q<V8.heap.size:=Nat.lt_of_lt_of_le lq7 hb78.size
   have cq8:V8.cell? ⟨q,o,none⟩=some (.pointer (some ⟨X.at_,0,none⟩)):=(cell_of_heap (hb78.same _ lq7 (by simpa using hqf)) _).trans cq7
   have fq8:V8.frozen? ⟨q,o,none⟩=false:=(frozen_of_heap (hb78.same _ lq7 (by simpa using hqf)) _).trans fq7
   clear hV8 f73 f74 fq7 cq7 c73 c74 l7 lq7
   go_wp2_with fail
   go_ret
   have hb48:Below V4.heap.size V4 V8:=(H7.out.1.trans (H7.out.2.1.mono H7.out.1.size)).trans ((hb78.below (B:=V4.heap.size) (by intro b hb;simp at hb;omega) (Nat.le_trans H7.out.1.size H7.out.2.1.size)))
   have hT4:jI V4 t (some (plug ps X)) m:=by rw[HP.out.2.1];exact H4.out.1
   have hnd:(t :: (plug ps X).foot).Nodup:=by rw[HP.out.2.1];exact HND.out
   have hX8:X.At V8:=(mG (hT4.2 _ rfl).1).keep fun b hb=>hb48.block b ((mG (hT4.2 _ rfl).1).lt b hb)
   have hl8:(CT.leaf b30 k c).At V8:=(hb48.block _ l304).trans H4.out.2.1
   have hY8:CT.At V8 (.fork fa dd X (.leaf b30 k c)):=⟨hn8,hX8,hl8⟩
   have hqt:q∈t :: (plug ps X).foot:=by have:=aCb (t:=t) (ps:=ps) (X:=X);rwa [HP.out.1] at this
   have hqw:q<w.heap.size:=by
    rcases List.mem_cons.1 hqt with rfl | hm
    ·exact hlt
    rw[HP.out.2.1] at hm;exact HW.out.lt _ hm
   have hqY:q∉(.fork fa dd X (.leaf b30 k c):CT K25).foot:=by
    have h1:=aBI hnd
    rw[HP.out.1] at h1
    simp only[CT.foot,List.mem_cons,List.mem_append,List.not_mem_nil,or_false,not_or]
    exact ⟨hqf,h1,by omega⟩
   have hfin:=aHS (Y := .fork fa dd X (.leaf b30 k c)) hT4 hnd hb48 hY8 (by rw[HP.out.1];exact hqY)
   rw[HP.out.1] at hfin
   refine ⟨rfl,(H4.out.2.2.trans (But.of_below hb48 _)).trans (But.setCell' V8 (by rw[<-HP.out.2.1];exact hqt) _ _),b30,fa,m,hbl,by omega,by omega,?_⟩
   have hput:aA7 (some T) k c b30 fa=plug ps (.fork fa dd X (.leaf b30 k c)):=by
    unfold aA7
    simp only
    rw[<-HUN.out.2,HI.out]
   rw[hput]
   refine ⟨hfin.1,fun T' hT' => ?_⟩
   obtain rfl:=Option.some.inj hT'
   refine ⟨hfin.2,?_⟩
   rw[<-HI.out]
   exact aE9 hd200 T (H4.out.1.2 T rfl).2 HUN.out.1.2.1 HUN.out.1.2.2
  have hsd:tJ k.val dd=0:=by simp[tJ,hs]
  rw[hsd] at HS1
  have hins:∀ a fa,T.ins keyBytes a k c fa dd=plug ps (.fork fa dd (.leaf a k c) X):=fun a fa=>by rw[HP.out.2.2,if_neg hs]
  have HI:=Lib.hid hins
  clear hs hsd hins HS
  go_wp2_with fail
  refine Gives.use HS1.out ?_
  intro xs7 d7
  go_upto_region 19 with fail
  refine aP ?_
  intro V7 hV7
  have hb7:Below V6.heap.size V6 V7:=by rw[hV7];exact aS _ _
  clear hV7 HS1 ck6
  have hn7:dD V7 fa false (zeros 25) (zeros 25) (.pointer none) dd (.pointer none) (.pointer none):=(hb7.block _ (lt_of_heap H6.out.2)).trans H6.out.2
  have cq7:V7.cell? ⟨q,o,none⟩=some (.pointer (some ⟨X.at_,0,none⟩)):=(hb7.cell (p:=⟨q,o,none⟩) lq6).trans cq6
  have fq7:V7.frozen? ⟨q,o,none⟩=false:=(frozen_of_heap (hb7.block _ lq6) _).trans fq6
  obtain ⟨_,_,_,c73,c74⟩:=hn7.cells (by simp[zeros]) (by simp[zeros])
  have f73:=(jX hn7 53).2
  have f74:=(jX hn7 54).2
  have l7:=lt_of_heap hn7
  have lq7:q<V7.heap.size:=Nat.lt_of_lt_of_le lq6 hb7.size
  have H7:=Lib.hid (And.intro H6.out.1 (And.intro hb7 hn7))
  clear H6 hb7 hn7 cq6 fq6 lq6 l306
  go_region
  go_upto_region 20 with fail
  refine aP ?_
  intro V8 hV8
  have hn8:dD V8 fa false (zeros 25) (zeros 25) (.pointer none) dd (pt b30) (pt X.at_):=by rw[hV8];exact qX (qW H7.out.2.2 _) _
  have hb78:But [fa] V7 V8:=by rw[hV8];exact (But.setCell' V7 List.mem_cons_self _ _).trans ((But.setCell' _ List.mem_cons_self _ _).trans (But.of_below ((Below.refl _ _).drew) _))
  have l8:=lt_of_heap hn8
  have lq8:q<V8.heap.size:=Nat.lt_of_lt_of_le lq7 hb78.size
  have cq8:V8.cell? ⟨q,o,none⟩=some (.pointer (some ⟨X.at_,0,none⟩)):=(cell_of_heap (hb78.same _ lq7 (by simpa using hqf)) _).trans cq7
  have fq8:V8.frozen? ⟨q,o,none⟩=false:=(frozen_of_heap (hb78.same _ lq7 (by simpa using hqf)) _).trans fq7
  clear hV8 f73 f74 fq7 cq7 c73 c74 l7 lq7
  go_wp2_with fail
  go_ret
  have hb48:Below V4.heap.size V4 V8:=(H7.out.1.trans (H7.out.2.1.mono H7.out.1.size)).trans ((hb78.below (B:=V4.heap.size) (by intro b hb;simp at hb;omega) (Nat.le_trans H7.out.1.size H7.out.2.1.size)))
  have hT4:jI V4 t (some (plug ps X)) m:=by rw[HP.out.2.1];exact H4.out.1
  have hnd:(t :: (plug ps X).foot).Nodup:=by rw[HP.out.2.1];exact HND.out
  have hX8:X.At V8:=(mG (hT4.2 _ rfl).1).keep fun b hb=>hb48.block b ((mG (hT4.2 _ rfl).1).lt b hb)
  have hl8:(CT.leaf b30 k c).At V8:=(hb48.block _ l304).trans H4.out.2.1
  have hY8:CT.At V8 (.fork fa dd (.leaf b30 k c) X):=⟨hn8,hl8,hX8⟩
  have hqt:q∈t :: (plug ps X).foot:=by have:=aCb (t:=t) (ps:=ps) (X:=X);rwa [HP.out.1] at this
  have hqw:q<w.heap.size:=by
   rcases List.mem_cons.1 hqt with rfl | hm
   ·exact hlt
   rw[HP.out.2.1] at hm;exact HW.out.lt _ hm
  have hqY:q∉(.fork fa dd (.leaf b30 k c) X:CT K25).foot:=by
   have h1:=aBI hnd
   rw[HP.out.1] at h1
   simp only[CT.foot,List.mem_cons,List.mem_append,List.not_mem_nil,or_false,not_or]
   exact ⟨hqf,by omega,h1⟩
  have hfin:=aHS (Y := .fork fa dd (.leaf b30 k c) X) hT4 hnd hb48 hY8 (by rw[HP.out.1];exact hqY)
  rw[HP.out.1] at hfin
  refine ⟨rfl,(H4.out.2.2.trans (But.of_below hb48 _)).trans (But.setCell' V8 (by rw[<-HP.out.2.1];exact hqt) _ _),b30,fa,m,hbl,by omega,by omega,?_⟩
  have hput:aA7 (some T) k c b30 fa=plug ps (.fork fa dd (.leaf b30 k c) X):=by
   unfold aA7
   simp only
   rw[<-HUN.out.2,HI.out]
  rw[hput]
  refine ⟨hfin.1,fun T' hT' => ?_⟩
  obtain rfl:=Option.some.inj hT'
  refine ⟨hfin.2,?_⟩
  rw[<-HI.out]
  exact aE9 hd200 T (H4.out.1.2 T rfl).2 HUN.out.1.2.1 HUN.out.1.2.2
end Go.Proofs.YtcedmfnlkelhkaaGreatDoor
