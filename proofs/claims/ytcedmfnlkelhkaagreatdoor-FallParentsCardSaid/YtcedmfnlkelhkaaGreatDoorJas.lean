/- A range over an iterator, as in LoopB; a round's body may turn blocks of some kinds (rows to which it appends), which no iterator looks at. -/
import Derived.Test.YtcedmfnlkelhkaaGreatDoorJae
namespace Go.Proofs.YtcedmfnlkelhkaaGreatDoor
open Go.RowKit

structure dA (kp:Obj->Bool) (B:Nat) (W W':World):Prop where
 size:W.heap.size<=W'.heap.size
 same:∀ k o,B<=k->W.heap[k]? = some o->kp o=true->W'.heap[k]? = some o
section
variable {kp:Obj->Bool}
theorem dA.refl (B:Nat) (W:World):dA kp B W W:=⟨Nat.le_refl _,fun _ _ _ h _=>h⟩
theorem dA.trans {B:Nat} {W W' W'':World} (h:dA kp B W W') (h':dA kp B W' W''):dA kp B W W'' :=
 ⟨Nat.le_trans h.size h'.size,fun k o hB hk ho=>h'.same k o hB (h.same k o hB hk ho) ho⟩
theorem dA.more {B B':Nat} {W W':World} (h:dA kp B W W') (hB:B<=B'):dA kp B' W W':=⟨h.size,fun k o hk=>h.same k o (by omega)⟩
theorem dA.some {B:Nat} {W W':World} (h:dA kp B W W') {k:Nat} {o:Obj} (ho:kp o=true) (hB:B<=k) (hk:W.heap[k]? = .some o):W'.heap[k]? = .some o:=h.same k o hB hk ho
theorem aX.x {B:Nat} {W W':World} (h:aX B W W'):dA kp B W W':=⟨h.size,fun _ _ hB hk _=>h.some hB hk⟩
theorem dA.alloc (B:Nat) (W:World) (o:Obj):dA kp B W (W.alloc o):=(aX.alloc B W o).x
theorem dA.putObj {B:Nat} {W:World} {l:Nat} (o:Obj) (h:l<B):dA kp B W (W.putObj l o):=(aX.putObj o h).x
theorem dA.setCell {B:Nat} {W:World} {b i:Nat} (v:Value) (h:b<B):dA kp B W (W.setCell ⟨b,i,none⟩ v):=(aX.setCell v h).x
theorem dA.of_below {B:Nat} {W W':World} (h:Below W.heap.size W W'):dA kp B W W':=(aX.of_below h).x
end

def aIn {α:Type} (kp:Obj->Bool) (B:Nat) (Kp:World->World->Prop) (I:List α->World->Prop) (Ix:Code->List α->World->Prop) (xs:List α) (W:World):Exit->Act->World->Prop
 | .normal,_,W'=>dA kp B W W'/\Kp W W'/\I xs W'
 | .ret,_,W'=>dA kp B W W'/\Ix .ret xs W'
 | .exit id,_,W'=>dA kp B W W'/\Ix (.exit id) xs W'
 | .goto t,_,W'=>dA kp B W W'/\Ix (.goto t) xs W'
 | .panic _,_,_=>False
 | .outgrown,_,_=>False
def yU {α:Type} (kp:Obj->Bool) (F:Fence) (n:Nat) (P:Program) (g:Nat) (lb:Array Value) (encs:α->Array Value) (Kp:World->World->Prop) (S Sp:List α->Prop) (N:Nat) (w:World):Prop :=
 ∀ (l:Nat) (J Jx:List α->World->Prop) (W:World),Below w.heap.size w W->OwnFrom W.heap.size J->OwnFrom W.heap.size Jx ->
  (∀ pre x W1,J pre W1->pre.length<N->YieldAt F (n - 1) P l (encs x) W1 fun e W' =>
   ((e = .returned (.bool true)/\J (pre ++ [x]) W'/\Kp W1 W')\/(e = .returned (.bool false)/\Jx (pre ++ [x]) W'))/\dA kp W.heap.size W1 W') ->
  J [] W ->
  CallsIn F n P g (#[.func (.yield l) #[] #[]]++lb) W fun e W'=>(∃ v,e = .returned v)/\((∃ xs,S xs/\J xs W')\/(∃ pre,Sp pre/\Jx pre W'))

section
variable {F:Fence} {n:Nat} {P:Program}
theorem tX {kp:Obj->Bool} (hkp:∀ o:Obj,o.isCells=false->kp o=true) {α:Type} {g:Operand} {ps:Array Tmp} {assign body:Code} {Q:Exit->Act->World->Prop} {a:Act} {w:World}
  (hro:F.round=none) (h1:1<=n) {gf:Nat} {lb:Array Value} (hg:a.eval g = .func (.func gf) #[] lb) (hFg:F.fn gf) (eg:∀ args w,(callFunc gf args).run P w = .ok (.enter gf args) w)
  {encs:α->Array Value} {Kp:World->World->Prop} {S Sp:List α->Prop} {N:Nat} {w0:World} (hseq:yU kp F (n - 1) P gf lb encs Kp S Sp N w0)
  (hKt:∀ {A B C:World},Kp A B->Kp B C->Kp A C) (hKb:∀ (W:World) (l:Nat) (o o':Obj),w.heap.size<=l->W.heap[l]? = some o->o.isCells=false->o.isWalk=false->Kp W (W.putObj l o'))
  (hb0:Below w0.heap.size w0 w) (hps:∀ x,(encs x).size=ps.size)
  (I:List α->World->Prop) (Ix:Code->List α->World->Prop) (hI:OwnFrom w.heap.size I) (hIx:∀ c,OwnFrom w.heap.size (Ix c)) (h0:I [] w)
  (Ax:α->Act->World->Prop) (hAx:∀ x a',OwnFrom w.heap.size (fun (_:Unit) W=>Ax x a' W))
  (hassign:∀ (l:Nat) (pre:List α) (x:α) (W:World) (K:Act->World->Prop),I pre W->(∀ a' W',dA kp w.heap.size W W'->Kp W W'->I pre W'->Ax x a' W'->K a' W') ->
   assign.wpIn (F.inRound l) (n - 1 - 1) P (Exit.then K (fun _ _ _=>False)) { tmps:=(ps.zip (encs x)).foldl (fun t (p,v)=>t.setIfInBounds p v) a.tmps,defers := [] } W)
  (hbody:∀ (l:Nat) (pre:List α) (x:α) (a':Act) (W:World),I pre W->Ax x a' W->pre.length<N->body.wpIn (F.inRound l) (n - 1 - 1) P (aIn kp w.heap.size Kp I Ix (pre ++ [x]) W) a' W)
  (hdone:∀ (D:Nat) (xs:List α) (W:World),w.heap.size<=D->S xs->I xs W->W.heap[D]? = some (.deferred (some []))->Q .normal { a with defers := { target := .collected D,args := #[] } :: a.defers } W)
  (hstop:∀ (D:Nat) (c:Code) (pre:List α) (W:World),w.heap.size<=D->Sp pre->Ix c pre W->W.heap[D]? = some (.deferred (some []))->c.wpIn F n P Q { a with defers := { target := .collected D,args := #[] } :: a.defers } W) :
  (Code.rangeFunc g ps assign body).wpIn F n P Q a w:=by
 refine wpIn_rangeFunc fun fn hfn => ?_
 obtain ⟨s,hs⟩:∃ s,s=w.heap.size:=⟨_,rfl⟩
 obtain ⟨R,hR⟩:∃ R:LoopState->Option Code->Loop,R=fun st pe => { state:=st,pending:=pe,fn:=fn,tmps:=a.tmps,params:=ps,assign:=assign,body:=body,defers:=s }:=⟨_,rfl⟩
 have hRs:∀ st pe st',({ R st pe with state:=st' }:Loop)=R st' pe:=by intro st pe st';rw[hR]
 have hRp:∀ st pe st' pe',({ R st pe with state:=st',pending:=pe' }:Loop)=R st' pe':=by intro st pe st' pe';rw[hR]
 -- the two blocks that the statement lays
 let Bk:LoopState->Option Code->World->Prop:=fun st pe W=>W.heap[s+1]? = some (.loop (R st pe))/\W.heap[s]? = some (.deferred (some []))
 have bput:∀ {st pe W} (st':LoopState) (pe':Option Code),Bk st pe W->Bk st' pe' (W.putObj (s+1) (.loop (R st' pe'))):=fun st' pe' h =>
  ⟨World.putObj_heap_same (Array.getElem?_eq_some_iff.1 h.1).1,(World.putObj_heap_other (by omega)).trans h.2⟩
 have bturn:∀ {st pe A B row},Bk st pe A->A.grownBy B row->(∀ r,row=some r->s+2<=r)->Bk st pe B:=fun h hgr hr =>
  ⟨(hgr.block _ (Array.getElem?_eq_some_iff.1 h.1).1 (fun e=>by have:=hr _ e.symm;omega)).trans h.1,(hgr.block _ (Array.getElem?_eq_some_iff.1 h.2).1 (fun e=>by have:=hr _ e.symm;omega)).trans h.2⟩
 obtain ⟨W1,hW1⟩:∃ W1,(w.alloc (.deferred (some []))).alloc (.loop (R .ready none))=W1:=⟨_,rfl⟩
 have hz:W1.heap.size=s+2:=by rw[<-hW1,hs];simp
 have hB1:Bk .ready none W1:=by
  refine ⟨?_,?_⟩
  ·rw[<-hW1,hs];have:=World.alloc_heap_new (w.alloc (.deferred (some []))) (.loop (R .ready none));rwa [World.size_alloc] at this
  rw[<-hW1,hs];exact (Below.heap_alloc _ _ _ (by simp)).trans (World.alloc_heap_new w _)
 have hI1:I [] W1:=by rw[<-hW1];exact hI.alloc _ (hI.alloc _ h0)
 have hbw:Below w0.heap.size w0 W1:=by
  rw[<-hW1];exact hb0.trans ((((Below.refl _ w).alloc (Nat.le_refl _) _).alloc (by simp) _).mono hb0.size)
 refine ⟨s+1, [{ target := .collected s,args := #[] }],W1, { target := .fn (.func gf) lb,args := #[.func (.yield (s+1)) #[] #[]] },W1,gf, #[.func (.yield (s+1)) #[] #[]]++lb,W1,?_,?_,?_,?_,fun _=>h1,?_⟩
 ·rw[hro,run_enterLoop_outer,<-hW1,hR,hs]
 ·simp only[resolve,hg]
  simp[go_sem]
 ·intro f' hf';simp[Target.leads] at hf';subst hf';exact hFg
 ·simp[invoke,go_sem,eg]
 refine (hseq (s+1) (fun pre W=>I pre W/\Bk .ready none W) (fun pre W => ∃ c,Ix c pre W/\Bk .done (some c) W) W1 hbw ?_ ?_ ?_ ⟨hI1,hB1⟩).mono ?_
 ·intro pre A B row hJ hgr hr
  exact ⟨hI pre A B row hJ.1 hgr (fun r e=>⟨by have:=(hr r e).1;omega,(hr r e).2⟩),bturn hJ.2 hgr (fun r e=>by have:=(hr r e).1;omega)⟩
 ·rintro pre A B row ⟨c,hc,hb⟩ hgr hr
  exact ⟨c,hIx c pre A B row hc hgr (fun r e=>⟨by have:=(hr r e).1;omega,(hr r e).2⟩),bturn hb hgr (fun r e=>by have:=(hr r e).1;omega)⟩
 ·-- a round
  rintro pre x W ⟨hi,hb⟩ hlen
  have hy:=run_yield (P:=P) (args:=encs x) hb.1 (by rw[hR];exact hps x)
  have hfn':(R .ready none).fn=fn/\(R .ready none).tmps=a.tmps/\(R .ready none).params=ps/\(R .ready none).assign=assign/\(R .ready none).body=body/\(R .ready none).state = .ready:=by rw[hR];exact ⟨rfl,rfl,rfl,rfl,rfl,rfl⟩
  rw[hfn'.1,hfn'.2.1,hfn'.2.2.1,hfn'.2.2.2.1,hfn'.2.2.2.2.1] at hy
  refine ⟨fn,_,assign,body,hy,roundIn_of_wpIn hfn (hassign _ pre x W _ hi fun a' Wa hka hkpa hia hax => ?_)⟩
  have hba:Bk .ready none Wa:=⟨hka.some (hkp _ rfl) (by omega) hb.1,hka.some (hkp _ rfl) (by omega) hb.2⟩
  refine ⟨_,run_beginRound hba.1 hfn'.2.2.2.2.2,?_⟩
  rw[hRs]
  have hb2:=bput .busy none hba
  have hk2:Kp W (Wa.putObj (s+1) (.loop (R .busy none))):=hKt hkpa (hKb _ _ _ _ (by omega) hba.1 rfl rfl)
  refine wpIn_mono (hbody _ pre x a' _ (hI.putObj _ hia (by omega) hba.1 rfl) ((hAx x a').putObj (s:=()) _ hax (by omega) hba.1 rfl) hlen) ?_
  have leave:∀ (jump:Option Code) (W3:World),dA kp w.heap.size (Wa.putObj (s+1) (.loop (R .busy none))) W3->Bk .busy none W3 /\
    (Instr.endRound (s+1) jump).run P W3 = .ok (.bool jump.isNone) (W3.putObj (s+1) (.loop (R (if jump.isNone then .ready else .done) jump))) /\
    dA kp W1.heap.size W (W3.putObj (s+1) (.loop (R (if jump.isNone then .ready else .done) jump))):=fun jump W3 hk=>by
   have h3:Bk .busy none W3:=⟨hk.some (hkp _ rfl) (by omega) hb2.1,hk.some (hkp _ rfl) (by omega) hb2.2⟩
   refine ⟨h3,?_,((hka.more (by omega)).trans ((dA.putObj _ (by omega)).trans (hk.more (by omega)))).trans (dA.putObj _ (by omega))⟩
   have:=run_endRound (P:=P) jump h3.1
   rwa [hRp] at this
  rintro e a3 W3 hp
  cases e with
  | normal =>
   obtain ⟨h3,hr,hkb⟩:=leave none W3 hp.1
   exact ⟨_,_,hr,.inl ⟨rfl,⟨hI.putObj _ hp.2.2 (by omega) h3.1 rfl,bput _ _ h3⟩,hKt (hKt hk2 hp.2.1) (hKb _ _ _ _ (by omega) h3.1 rfl rfl)⟩,hkb⟩
  | ret =>
   obtain ⟨h3,hr,hkb⟩:=leave (some .ret) W3 hp.1
   exact ⟨_,_,hr,.inr ⟨rfl,.ret,(hIx _).putObj _ hp.2 (by omega) h3.1 rfl,bput _ _ h3⟩,hkb⟩
  | exit id =>
   obtain ⟨h3,hr,hkb⟩:=leave (some (.exit id)) W3 hp.1
   exact ⟨_,_,hr,.inr ⟨rfl,.exit id,(hIx _).putObj _ hp.2 (by omega) h3.1 rfl,bput _ _ h3⟩,hkb⟩
  | goto t =>
   obtain ⟨h3,hr,hkb⟩:=leave (some (.goto t)) W3 hp.1
   exact ⟨_,_,hr,.inr ⟨rfl,.goto t,(hIx _).putObj _ hp.2 (by omega) h3.1 rfl,bput _ _ h3⟩,hkb⟩
  | panic ch=>exact hp.elim
  | outgrown=>exact hp.elim
 -- behind the iterator
 have hst:∀ st pe,(R st pe).state=st/\(R st pe).pending=pe:=by intro st pe;rw[hR];exact ⟨rfl,rfl⟩
 rintro e W2 ⟨⟨v,rfl⟩,⟨xs,hS,hi,hb⟩ | ⟨pre,hSp,c,hi,hb⟩⟩
 ·have:=run_endLoop (P:=P) hb.1 (by rw[(hst _ _).1];simp)
  rw[hRs,(hst _ _).2] at this
  exact ⟨none,_,this,hs ▸ hdone s xs _ (by omega) hS (hI.putObj _ hi (by omega) hb.1 rfl) (bput .exhausted none hb).2⟩
 have:=run_endLoop (P:=P) hb.1 (by rw[(hst _ _).1];simp)
 rw[hRs,(hst _ _).2] at this
 exact ⟨some c,_,this,hs ▸ hstop s c pre _ (by omega) hSp ((hIx c).putObj _ hi (by omega) hb.1 rfl) (bput .exhausted (some c) hb).2⟩
end
end Go.Proofs.YtcedmfnlkelhkaaGreatDoor
