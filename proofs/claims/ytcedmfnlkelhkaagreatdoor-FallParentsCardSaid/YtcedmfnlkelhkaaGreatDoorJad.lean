/- Values that are built of parts, one behind the other: a tree's nodes, a chain's versions. -/
import Derived.Test.YtcedmfnlkelhkaaGreatDoorJac
namespace Go.Proofs.YtcedmfnlkelhkaaGreatDoor
set_option maxRecDepth 100000
open Go.RowKit

theorem aI3 (c vs:Array Value) (o:Nat) (h:o+vs.size<=c.size):vs.zipIdx.foldl (fun cs (x:Value×Nat)=>cs.setIfInBounds (o+x.2) x.1) c=bT c o vs:=by
 have:=qK vs.toList o c 0 (by simpa using h)
 rw[Array.toArray_toList,Nat.add_zero] at this
 rw[<-this,<-Array.foldl_toList]
 simp
theorem aFs (pre suf vs:Array Value) (h:vs.size<=suf.size):bT (pre++suf) pre.size vs=(pre++vs)++suf.extract vs.size suf.size:=by
 apply Array.ext_getElem?
 intro j
 rw[iZ (by simp;omega)]
 simp only[Array.getElem?_append,Array.size_append,Array.getElem?_extract]
 by_cases h1:j<pre.size
 ·rw[if_neg (by omega),if_pos h1,if_pos (by omega),if_pos h1]
 by_cases h2:j<pre.size+vs.size
 ·rw[if_pos (by omega),if_pos h2,if_neg h1]
 rw[if_neg (by omega),if_neg h1,if_neg h2]
 by_cases h3:j - pre.size<suf.size
 ·rw[if_pos (by omega)];congr 1;omega
 rw[if_neg (by omega),Array.getElem?_eq_none (by omega)]
theorem jC {place:Nat->Option (Nat×Nat)} {pre suf:Array Value} {i off size:Nat} {v:Value} {rest:List (Nat×Value)} (hp:place i=some (off,size)) (ho:off=pre.size) (hs:v.cells.size=size) (hl:size<=suf.size) :
  Instr.fill place (pre++suf) ((i,v) :: rest)=Instr.fill place ((pre++v.cells)++suf.extract size suf.size) rest:=by
 subst ho hs
 conv=>lhs;unfold Instr.fill
 rw[hp]
 simp only
 rw[if_neg (by simp;omega)]
 have:=aI3 (pre++suf) v.cells pre.size (by simp;omega)
 rw[aFs _ _ _ hl] at this
 rw[<-this]
section
variable {P:Program} {t:TypeId} {fields:Array Field} {zero:Value} {w:World}
theorem fJ {places:Array (Nat×Nat)} {parts:Array (Nat×Value)} {cells:Array Value} (hz:∀ w,(zeroValue t).run P w = .ok zero w) (hu:P.underlying t=some (.struct fields))
  (hp:∀ w,(fields.mapM fun f=>do pure (f.offset,<-sizeOf f.type):Sem (Array (Nat×Nat))).run P w = .ok places w) (hf:Instr.fill (places[·]?) zero.cells parts.toList=some cells) :
  (Instr.build t parts).run P w = .ok (.agg cells) w:=by
 unfold Instr.build
 simp only[Sem.run_bind,hz,Result.andThen,run_underlying hu,hp,hf]
 rfl
theorem qI (place:Nat->Option (Nat×Nat)) (cells:Array Value):Instr.fill place cells []=some cells:=rfl
theorem aG8 {n m:Nat} {a b:Value} (hz:∀ w,(zeroValue t).run P w = .ok zero w) (hu:P.underlying t=some (.struct fields))
  (hp:∀ w,(fields.mapM fun f=>do pure (f.offset,<-sizeOf f.type):Sem (Array (Nat×Nat))).run P w = .ok #[(0,n),(n,m)] w) (ha:a.cells.size=n) (hb:b.cells.size=m) (hs:zero.cells.size=n+m) :
  (Instr.build t #[(0,a),(1,b)]).run P w = .ok (.agg (a.cells++b.cells)) w:=by
 refine fJ hz hu hp ?_
 have e0:zero.cells = #[]++zero.cells:=by simp
 rw[e0,jC (off:=0) (size:=n) rfl rfl ha (by omega),jC (off:=n) (size:=m) rfl (by simp[ha]) hb (by simp;omega),qI]
 congr 1
 rw[Array.extract_eq_empty_of_le (by simp;omega)]
 simp
theorem sS {n m k:Nat} {a b c:Value} (hz:∀ w,(zeroValue t).run P w = .ok zero w) (hu:P.underlying t=some (.struct fields))
  (hp:∀ w,(fields.mapM fun f=>do pure (f.offset,<-sizeOf f.type):Sem (Array (Nat×Nat))).run P w = .ok #[(0,n),(n,m),(n+m,k)] w) (ha:a.cells.size=n) (hb:b.cells.size=m) (hc:c.cells.size=k) (hs:zero.cells.size=n+m+k) :
  (Instr.build t #[(0,a),(1,b),(2,c)]).run P w = .ok (.agg (a.cells++b.cells++c.cells)) w:=by
 refine fJ hz hu hp ?_
 have e0:zero.cells = #[]++zero.cells:=by simp
 rw[e0,jC (off:=0) (size:=n) rfl rfl ha (by omega),jC (off:=n) (size:=m) rfl (by simp[ha]) hb (by simp;omega),jC (off:=n+m) (size:=k) rfl (by simp[ha,hb]) hc (by simp;omega),qI]
 congr 1
 rw[Array.extract_eq_empty_of_le (by simp;omega)]
 simp
end
def aHL:Array Value:=lN false (zeros 25) (zeros 25) (.pointer none) 0 (.pointer none) (.pointer none)
theorem aDr {k b:List UInt8} (th:Value):(((#[.bool true]++aJ k)++aJ b) ++ #[th]) ++ #[.int .i64 0,.pointer none,.pointer none]=lN true k b th 0 (.pointer none) (.pointer none):=by
 apply Array.ext';simp[aJ,lN]
def aJ1:Array (Nat×Nat) := #[(0,1),(1,25),(26,25),(51,1),(52,1),(53,2)]
theorem aFO {k b:List UInt8} (hk:k.length=25) (hb:b.length=25) (c:Nat) (w:World) :
  (Instr.build 263 #[(0,.bool true),(1,.agg (aJ k)),(2,.agg (aJ b)),(3,.pointer (some ⟨c,0,none⟩))]).run Tryz.prog w = .ok (.agg (lN true k b (pt c) 0 (.pointer none) (.pointer none))) w:=by
 refine fJ (zero := .agg aHL) (places:=aJ1) (by intro w;exact (Tryz.zeroValue263 w).trans rfl) Tryz.underlying263 (by intro w;kernel_rfl) ?_
 have e0:(Value.agg aHL).cells = #[]++aHL:=by simp[Value.cells]
 have hz:aHL.size=55:=rfl
 rw[e0,jC (off:=0) (size:=1) rfl rfl rfl (by omega)]
 rw[jC (off:=1) (size:=25) rfl (by simp[Value.cells]) (by simp[Value.cells,hk]) (by simp;omega)]
 rw[jC (off:=26) (size:=25) rfl (by simp[Value.cells,hk]) (by simp[Value.cells,hb]) (by simp;omega)]
 rw[jC (off:=51) (size:=1) rfl (by simp[Value.cells,hk,hb]) rfl (by simp;omega)]
 rw[qI,<-aDr]
 congr 1
def aOd (t:TypeId) (p q r u:Nat×Value):Sem Value:=Instr.build t #[p,q,r,u]
def yD (t:TypeId) (p:Nat×Value):Sem Value:=Instr.build t #[p]
@[go_sem ↓ high] theorem aNO (f:Nat×Operand->Nat×Value) (p q r u:Nat×Operand):Instr.build 263 (Array.map f #[p,q,r,u])=aOd 263 (f p) (f q) (f r) (f u):=by simp[aOd]
@[go_sem] theorem aLU (k b:List UInt8) (hk:k.length=25) (hb:b.length=25) (c:Nat) (w:World):(aOd 263 (0,.bool true) (1,.agg (aJ k)) (2,.agg (aJ b)) (3,.pointer (some ⟨c,0,none⟩))).run Tryz.prog w = .ok (.agg (lN true k b (pt c) 0 (.pointer none) (.pointer none))) w:=aFO hk hb c w
@[go_sem ↓ high] theorem aNK (f:Nat×Operand->Nat×Value) (p:Nat×Operand):Instr.build 263 (Array.map f #[p])=yD 263 (f p):=by simp[yD]
@[go_sem] theorem aLR (bit:Int) (w:World):(yD 263 (4,.int .i64 bit)).run Tryz.prog w = .ok (.agg (lN false (zeros 25) (zeros 25) (.pointer none) bit (.pointer none) (.pointer none))) w:=by
 unfold yD
 refine fJ (zero := .agg aHL) (places:=aJ1) (by intro w;exact (Tryz.zeroValue263 w).trans rfl) Tryz.underlying263 (by intro w;kernel_rfl) ?_
 rfl
structure But (bad:List Nat) (w w':World):Prop where
 os:w'.os=w.os
 tape:w'.tape=w.tape
 output:w'.output=w.output
 size:w.heap.size<=w'.heap.size
 same:∀ b,b<w.heap.size->b∉bad->w'.heap[b]? = w.heap[b]?
theorem But.refl (bad:List Nat) (w:World):But bad w w:=⟨rfl,rfl,rfl,Nat.le_refl _,fun _ _ _=>rfl⟩
theorem But.trans {bad:List Nat} {w w' w'':World} (h:But bad w w') (h':But bad w' w''):But bad w w'' :=
 ⟨h'.os.trans h.os,h'.tape.trans h.tape,h'.output.trans h.output,Nat.le_trans h.size h'.size,fun b hb hn=>(h'.same b (Nat.lt_of_lt_of_le hb h.size) hn).trans (h.same b hb hn)⟩
theorem But.more {bad bad':List Nat} {w w':World} (h:But bad w w') (hb:∀ b∈bad,b<w.heap.size->b∈bad'):But bad' w w' :=
 ⟨h.os,h.tape,h.output,h.size,fun b hlt hn=>h.same b hlt (fun hm=>hn (hb b hm hlt))⟩
theorem But.of_below {w w':World} (h:Below w.heap.size w w') (bad:List Nat):But bad w w':=⟨h.os,h.tape,h.output,h.size,fun b hb _=>h.block b hb⟩
theorem But.below {bad:List Nat} {w w':World} (h:But bad w w') {B:Nat} (hB:∀ b∈bad,B<=b) (hle:B<=w.heap.size):Below B w w' :=
 ⟨h.os,h.tape,h.output,h.size,fun b hb=>h.same b (by omega) (fun hm=>by have:=hB b hm;omega)⟩
theorem But.setCell (w:World) (q o:Nat) (v:Value):But [q] w (w.setCell ⟨q,o,none⟩ v):=by
 have hb:=(Below.refl q w).setCell (p:=⟨q,o,none⟩) (Nat.le_refl _) v
 exact ⟨hb.os,hb.tape,hb.output,hb.size,fun b _ hn=>Below.heap_setCell w ⟨q,o,none⟩ v b (by simpa using hn)⟩

theorem cell_of_heap {w w':World} {b:Nat} (h:w'.heap[b]? = w.heap[b]?) (o:Nat):w'.cell? ⟨b,o,none⟩=w.cell? ⟨b,o,none⟩:=by
 unfold World.cell?;rw[h]
theorem frozen_of_heap {w w':World} {b:Nat} (h:w'.heap[b]? = w.heap[b]?) (o:Nat):w'.frozen? ⟨b,o,none⟩=w.frozen? ⟨b,o,none⟩:=by
 unfold World.frozen?;rw[h]
abbrev Way:=List (Bool×Nat×Nat×CT K25)
def stepT (s:Bool) (a bit:Nat) (o X:CT K25):CT K25:=if s then .fork a bit o X else .fork a bit X o
def plug:Way->CT K25->CT K25
 | [],X=>X
 | (s,a,bit,o) :: ps,X=>plug ps (stepT s a bit o X)
def holder (t:Nat):Way->Nat×Nat
 | []=>(t,0)
 | (s,a,_,_) :: _=>(a,if s then 54 else 53)
theorem pI {s:Bool} {a bit:Nat} {o X:CT K25} {w:World}:(stepT s a bit o X).At w ↔
  dD w a false (zeros 25) (zeros 25) (.pointer none) bit (pt (if s then o.at_ else X.at_)) (pt (if s then X.at_ else o.at_))/\o.At w/\X.At w:=by
 cases s
 ·simp only[stepT,Bool.false_eq_true,if_false,CT.At]
  exact ⟨fun ⟨h1,h2,h3⟩=>⟨h1,h3,h2⟩,fun ⟨h1,h2,h3⟩=>⟨h1,h3,h2⟩⟩
 simp only[stepT,if_true,CT.At]
theorem kM (s:Bool) (a bit:Nat) (o X:CT K25):(stepT s a bit o X).foot.Perm (a :: (o.foot++X.foot)):=by
 cases s
 ·simp only[stepT,Bool.false_eq_true,if_false,CT.foot];exact List.perm_append_comm.cons a
 simp only[stepT,if_true,CT.foot];exact List.Perm.refl _
theorem aJG {s:Bool} {a bit N:Nat} {o X:CT K25} (h:(stepT s a bit o X).Ok keyBytes N):bit<N/\X.Ok keyBytes N:=by
 cases s
 ·simp only[stepT,Bool.false_eq_true,if_false,CT.Ok] at h;exact ⟨h.1,h.2.1⟩
 simp only[stepT,if_true,CT.Ok] at h;exact ⟨h.1,h.2.2.1⟩
theorem mG {w:World}:∀ {ps:Way} {X:CT K25},(plug ps X).At w->X.At w
 | [],_,h=>h
 | (_,_,_,_) :: ps,_,h=>(pI.1 (mG (ps:=ps) h)).2.2
theorem aHP {N:Nat}:∀ {ps:Way} {X:CT K25},(plug ps X).Ok keyBytes N->X.Ok keyBytes N
 | [],_,h=>h
 | (_,_,_,_) :: ps,_,h=>(aJG (aHP (ps:=ps) h)).2
theorem qQ:∀ {ps:Way} {X:CT K25} {b:Nat},b∈X.foot->b∈(plug ps X).foot
 | [],_,_,h=>h
 | (s,a,bit,o) :: ps,X,b,h=>qQ (ps:=ps) ((kM s a bit o X).mem_iff.2 (by simp[h]))
theorem rQ:∀ {ps:Way} {X:CT K25},(plug ps X).foot.Nodup->X.foot.Nodup
 | [],_,h=>h
 | (s,a,bit,o) :: ps,X,h=>by
  have h2:=(kM s a bit o X).nodup_iff.1 (rQ (ps:=ps) h)
  rw[List.nodup_cons,List.nodup_append] at h2
  exact h2.2.2.1
theorem aHO {w:World} {s:Bool} {a bit:Nat} {o X:CT K25} {ps:Way} (h:(plug ((s,a,bit,o) :: ps) X).At w):w.cell? ⟨a,if s then 54 else 53,none⟩=some (pt X.at_):=by
 obtain ⟨_,_,_,h3,h4⟩:=dD.cells (pI.1 (mG (ps:=ps) h)).1 (by simp[zeros]) (by simp[zeros])
 cases s
 ·simpa using h3
 simpa using h4
theorem aCq {w w':World}:∀ {ps:Way} {Z Z':CT K25},(plug ps Z).At w->(plug ps Z).foot.Nodup->Z'.At w'->Z'.at_=Z.at_ ->
  (∀ b∈(plug ps Z).foot,b∉Z.foot->w'.heap[b]? = w.heap[b]?)->(plug ps Z').At w'
 | [],_,_,_,_,h',_,_=>h'
 | (s,a,bit,o) :: ps,Z,Z',h,hn,h',he,hk=>by
  have h1:=pI.1 (mG (ps:=ps) h)
  have hp:=kM s a bit o Z
  have h2:=hp.nodup_iff.1 (rQ (ps:=ps) hn)
  rw[List.nodup_cons,List.nodup_append] at h2
  obtain ⟨ha,_,_,hd⟩:=h2
  have up:∀ b,b∈(stepT s a bit o Z).foot->b∈(plug ((s,a,bit,o) :: ps) Z).foot:=fun b hb=>qQ (ps:=ps) hb
  refine aCq (ps:=ps) (Z:=stepT s a bit o Z) h hn (pI.2 ⟨?_,?_,h'⟩) (by cases s <;> rfl) (fun b hb hb2=>hk b hb (fun hz=>hb2 (hp.mem_iff.2 (by simp[hz]))))
  ·rw[he]
   exact (hk a (up a (hp.mem_iff.2 (by simp))) (fun hz=>ha (List.mem_append_right _ hz))).trans h1.1
  ·exact h1.2.1.keep fun b hb=>hk b (up b (hp.mem_iff.2 (by simp[hb]))) (fun hz=>hd b hb b hz rfl)
theorem aCj (leaf:Bool) {k b:List UInt8} (hk:k.length=25) (hb:b.length=25) (th:Value) (bit:Int) (p q v:Value) :
  (lN leaf k b th bit p q).setIfInBounds 53 v=lN leaf k b th bit v q/\(lN leaf k b th bit p q).setIfInBounds 54 v=lN leaf k b th bit p v:=by
 unfold lN
 simp only[List.setIfInBounds_toArray,List.set_cons_succ]
 constructor
 ·congr 2
  rw[List.set_append_right _ _ (by simp[hk]),List.set_append_right _ _ (by simp[hk,hb])]
  simp[hk,hb]
 congr 2
 rw[List.set_append_right _ _ (by simp[hk]),List.set_append_right _ _ (by simp[hk,hb])]
 simp[hk,hb]
theorem qW {w:World} {a:Nat} {leaf:Bool} {k b:List UInt8} {th p q:Value} {bit:Int} (h:dD w a leaf k b th bit p q) (v:Value) (hk:k.length=25:=by simp[zeros]) (hb:b.length=25:=by simp[zeros]) :
  dD (w.setCell ⟨a,53,none⟩ v) a leaf k b th bit v q:=by
 unfold dD at h |-
 simp only[World.setCell,Array.getElem?_modify,h,if_true,Option.map_some]
 simp[(aCj leaf hk hb th bit p q v).1]
theorem qX {w:World} {a:Nat} {leaf:Bool} {k b:List UInt8} {th p q:Value} {bit:Int} (h:dD w a leaf k b th bit p q) (v:Value) (hk:k.length=25:=by simp[zeros]) (hb:b.length=25:=by simp[zeros]) :
  dD (w.setCell ⟨a,54,none⟩ v) a leaf k b th bit p v:=by
 unfold dD at h |-
 simp only[World.setCell,Array.getElem?_modify,h,if_true,Option.map_some]
 simp[(aCj leaf hk hb th bit p q v).2]
theorem aIq {w w':World} {s:Bool} {a bit:Nat} {o X Y:CT K25} {ps:Way} (h:(plug ((s,a,bit,o) :: ps) X).At w) (hn:(plug ((s,a,bit,o) :: ps) X).foot.Nodup) (hY:Y.At w')
  (ha:w'.heap[a]? = (w.setCell ⟨a,if s then 54 else 53,none⟩ (pt Y.at_)).heap[a]?)
  (hk:∀ b∈(plug ((s,a,bit,o) :: ps) X).foot,b≠a->b∉X.foot->w'.heap[b]? = w.heap[b]?):(plug ((s,a,bit,o) :: ps) Y).At w':=by
 have h1:=pI.1 (mG (ps:=ps) h)
 have hp:=kM s a bit o X
 have h2:=hp.nodup_iff.1 (rQ (ps:=ps) hn)
 rw[List.nodup_cons,List.nodup_append] at h2
 obtain ⟨han,_,_,hd⟩:=h2
 have up:∀ b,b∈(stepT s a bit o X).foot->b∈(plug ((s,a,bit,o) :: ps) X).foot:=fun b hb=>qQ (ps:=ps) hb
 refine aCq (ps:=ps) (Z:=stepT s a bit o X) h hn (pI.2 ⟨?_,?_,hY⟩) (by cases s <;> rfl) (fun b hb hb2=>hk b hb (fun e=>hb2 (hp.mem_iff.2 (by simp[e]))) (fun hz=>hb2 (hp.mem_iff.2 (by simp[hz]))))
 ·unfold dD
  rw[ha]
  cases s
  ·exact qW h1.1 _
  exact qX h1.1 _
 exact h1.2.1.keep fun b hb=>hk b (up b (hp.mem_iff.2 (by simp[hb]))) (fun e=>han (e ▸ List.mem_append_left _ hb)) (fun hz=>hd b hb b hz rfl)
theorem aH4 {w:World} {t:Nat} {p:Value} {n:Int} (h:w.heap[t]? = some (.cells #[p,.int .i64 n] 243)) (q:Value) :
  (w.setCell ⟨t,0,none⟩ q).heap[t]? = some (.cells #[q,.int .i64 n] 243):=by
 simp only[World.setCell,Array.getElem?_modify,h,if_true,Option.map_some]
 simp
theorem rX (s:Bool) (a bit:Nat) (o X:CT K25):(stepT s a bit o X).at_=a:=by cases s <;> rfl
theorem aCp:∀ (ps:Way) (X Y:CT K25),X.at_=Y.at_->(plug ps X).at_=(plug ps Y).at_
 | [],_,_,h=>h
 | (s,a,bit,o) :: ps,X,Y,_=>aCp ps _ _ (by rw[rX,rX])
theorem aCb {t:Nat}:∀ {ps:Way} {X:CT K25},(holder t ps).1∈t :: (plug ps X).foot
 | [],_=>List.mem_cons_self
 | (s,a,bit,o) :: ps,X=>List.mem_cons_of_mem _ (qQ (ps:=ps) ((kM s a bit o X).mem_iff.2 (by simp[holder])))
theorem aBI {t:Nat}:∀ {ps:Way} {X:CT K25},(t :: (plug ps X).foot).Nodup->(holder t ps).1∉X.foot
 | [],_,h=>(List.nodup_cons.1 h).1
 | (s,a,bit,o) :: ps,X,h=>by
  have h2:=(kM s a bit o X).nodup_iff.1 (rQ (ps:=ps) (List.nodup_cons.1 h).2)
  rw[List.nodup_cons] at h2
  exact fun hm=>h2.1 (List.mem_append_right _ hm)
theorem aHS {V V8:World} {t:Nat} {ps:Way} {X Y:CT K25} {m:Int} (hT:jI V t (some (plug ps X)) m) (hnd:(t :: (plug ps X).foot).Nodup) (hb:Below V.heap.size V V8)
  (hY:Y.At V8) (hq:(holder t ps).1∉Y.foot) :
  (V8.setCell ⟨(holder t ps).1,(holder t ps).2,none⟩ (pt Y.at_)).heap[t]? = some (.cells #[pt (plug ps Y).at_,.int .i64 m] 243) /\
   (plug ps Y).At (V8.setCell ⟨(holder t ps).1,(holder t ps).2,none⟩ (pt Y.at_)):=by
 have h8:=hT.keep hb
 have hYw:Y.At (V8.setCell ⟨(holder t ps).1,(holder t ps).2,none⟩ (pt Y.at_)):=hY.keep fun b hbm=>Below.heap_setCell _ _ _ _ (fun e=>hq (by have e2:b=(holder t ps).1:=e;rw[<-e2];exact hbm))
 match ps,hnd,h8,hYw,hq with
 | [],_,h8,hYw,_=>exact ⟨aH4 h8.1 _,hYw⟩
 | (s,a,bit,o) :: ps,hnd,h8,hYw,_ =>
  have hat:a≠t:=by
   intro e
   subst e
   exact (List.nodup_cons.1 hnd).1 (qQ (ps:=ps) ((kM s a bit o X).mem_iff.2 (by simp)))
  refine ⟨?_,aIq (h8.2 _ rfl).1 (List.nodup_cons.1 hnd).2 hYw rfl fun b _ hba _=>Below.heap_setCell _ _ _ _ hba⟩
  rw[Below.heap_setCell _ _ _ _ (Ne.symm hat),h8.1]
  rw[aHW]
  rw[show (plug ((s,a,bit,o) :: ps) X).at_=(plug ((s,a,bit,o) :: ps) Y).at_ from aCp ps _ _ (by rw[rX,rX])]
theorem But.setCell' {bad:List Nat} (w:World) {q:Nat} (hq:q∈bad) (o:Nat) (v:Value):But bad w (w.setCell ⟨q,o,none⟩ v) :=
 (But.setCell w q o v).more fun b hb _=>by simp at hb;rw[hb];exact hq
end Go.Proofs.YtcedmfnlkelhkaaGreatDoor
