/- Plain: a tree over bits: what it holds, and what an insertion makes of it. -/
import Derived.Test.YtcedmfnlkelhkaaGreatDoorJab
import Derived.Handy
import Derived.Laws.BitsLemmas
namespace Go.Proofs.YtcedmfnlkelhkaaGreatDoor
set_option maxHeartbeats 40000000
def rE (b:List UInt8) (i:Nat):Bool:=decide ((byt b (i / 8)).toNat / 2 ^ (7 - i % 8) % 2=1)

inductive CT (κ:Type) where
 | leaf (a:Nat) (k:κ) (c:Nat):CT κ
 | fork (a bit:Nat) (l r:CT κ):CT κ

section
variable {κ:Type} (f:κ->List UInt8)
def CT.at_:CT κ->Nat
 | .leaf a _ _=>a
 | .fork a _ _ _=>a
def CT.list:CT κ->List (Nat×κ×Nat)
 | .leaf a k c => [(a,k,c)]
 | .fork _ _ l r=>l.list++r.list
def CT.foot:CT κ->List Nat
 | .leaf a _ _ => [a]
 | .fork a _ l r=>a :: (l.foot++r.foot)
def CT.near (b:List UInt8):CT κ->Nat×κ×Nat
 | .leaf a k c=>(a,k,c)
 | .fork _ bit l r=>if rE b bit then r.near b else l.near b
def CT.depth:CT κ->Nat
 | .leaf _ _ _=>0
 | .fork _ _ l r=>l.depth+r.depth+1
def Alike (n:Nat) (x y:List UInt8):Prop := ∀ i,i<n->rE x i=rE y i
def CT.Ok (N:Nat):CT κ->Prop
 | .leaf _ _ _=>True
 | .fork _ bit l r=>bit<N/\l.Ok N/\r.Ok N/\(∀ x∈l.list,rE (f x.2.1) bit=false)/\(∀ x∈r.list,rE (f x.2.1) bit=true) /\
   (∀ x∈l.list++r.list,∀ y∈l.list++r.list,Alike bit (f x.2.1) (f y.2.1))
def CT.ins (a:Nat) (k:κ) (c:Nat) (fa bit:Nat):CT κ->CT κ
 | .leaf a' k' c'=>if rE (f k) bit then .fork fa bit (.leaf a' k' c') (.leaf a k c) else .fork fa bit (.leaf a k c) (.leaf a' k' c')
 | .fork a' b' l r=>if b'<bit then (if rE (f k) b' then .fork a' b' l (r.ins a k c fa bit) else .fork a' b' (l.ins a k c fa bit) r)
   else if rE (f k) bit then .fork fa bit (.fork a' b' l r) (.leaf a k c) else .fork fa bit (.leaf a k c) (.fork a' b' l r)

variable {f}
theorem jM (b:List UInt8):∀ T:CT κ,T.near b∈T.list
 | .leaf _ _ _=>by simp[CT.near,CT.list]
 | .fork _ bit l r=>by
  unfold CT.near CT.list
  by_cases h:rE b bit
  ·rw[if_pos h];exact List.mem_append_right _ (jM b r)
  ·rw[if_neg h];exact List.mem_append_left _ (jM b l)
theorem aDo {N:Nat}:∀ {T:CT κ},T.Ok f N->(∀ x∈T.list,∀ y∈T.list,f x.2.1=f y.2.1->True) -> ∀ x∈T.list,(T.near (f x.2.1)).2.1=x.2.1/\T.near (f x.2.1)=x
 | .leaf _ _ _,_,_,x,hx=>by
  simp[CT.list] at hx;subst hx;simp[CT.near]
 | .fork _ bit l r,h,_,x,hx=>by
  obtain ⟨_,h1,h2,h3,h4,_⟩:=h
  unfold CT.near
  rcases List.mem_append.1 hx with hx | hx
  ·rw[if_neg (by rw[h3 x hx];simp)];exact aDo h1 (fun _ _ _ _ _=>trivial) x hx
  ·rw[if_pos (h4 x hx)];exact aDo h2 (fun _ _ _ _ _=>trivial) x hx
theorem aIf {N:Nat} {T:CT κ} (h:T.Ok f N) {x:Nat×κ×Nat} (hx:x∈T.list):T.near (f x.2.1)=x:=(aDo h (fun _ _ _ _ _=>trivial) x hx).2
theorem Alike.symm {n:Nat} {x y:List UInt8} (h:Alike n x y):Alike n y x:=fun i hi=>(h i hi).symm
theorem Alike.trans {n:Nat} {x y z:List UInt8} (h:Alike n x y) (h':Alike n y z):Alike n x z:=fun i hi=>(h i hi).trans (h' i hi)
theorem Alike.less {n m:Nat} {x y:List UInt8} (h:Alike n x y) (hm:m<=n):Alike m x y:=fun i hi=>h i (by omega)

theorem uO {a:Nat} {k:κ} {c fa bit:Nat}:∀ T:CT κ,(T.ins f a k c fa bit).list.Perm ((a,k,c) :: T.list)
 | .leaf a' k' c'=>by
  unfold CT.ins
  split
  ·simp only[CT.list];exact List.Perm.swap _ _ _
  ·simp only[CT.list];exact List.Perm.refl _
 | .fork a' b' l r=>by
  unfold CT.ins
  split
  ·split
   ·simp only[CT.list]
    exact ((uO r).append_left _).trans List.perm_middle
   ·simp only[CT.list]
    exact ((uO l).append_right _)
  ·split
   ·simp only[CT.list]
    exact (List.perm_append_comm (l₂ := [(a,k,c)]))
   ·simp only[CT.list];exact List.Perm.refl _
theorem aBe {a:Nat} {k:κ} {c fa bit:Nat}:∀ T:CT κ,(T.ins f a k c fa bit).foot.Perm (a :: fa :: T.foot)
 | .leaf a' k' c'=>by
  unfold CT.ins
  split
  ·simp only[CT.foot];exact (List.Perm.cons _ (List.Perm.swap _ _ _)).trans (List.Perm.swap _ _ _)
  ·simp only[CT.foot];exact List.Perm.swap _ _ _
 | .fork a' b' l r=>by
  unfold CT.ins
  split
  ·split
   ·simp only[CT.foot]
    have h:(l.foot++(r.ins f a k c fa bit).foot).Perm (a :: fa :: (l.foot++r.foot)):=((aBe r).append_left l.foot).trans (List.perm_middle.trans (List.perm_middle.cons a))
    exact (h.cons a').trans ((List.Perm.swap _ _ _).trans ((List.Perm.swap _ _ _).cons a))
   ·simp only[CT.foot]
    have h:((l.ins f a k c fa bit).foot++r.foot).Perm (a :: fa :: (l.foot++r.foot)):=(aBe l).append_right r.foot
    exact (h.cons a').trans ((List.Perm.swap _ _ _).trans ((List.Perm.swap _ _ _).cons a))
  ·split
   ·simp only[CT.foot]
    exact ((List.perm_append_comm (l₂ := [a])).cons fa).trans (List.Perm.swap _ _ _)
   ·simp only[CT.foot];exact List.Perm.swap _ _ _
theorem aE9 {N:Nat} {a:Nat} {k:κ} {c fa bit:Nat} (hbit:bit<N):∀ T:CT κ,T.Ok f N->(∀ i,i<bit->rE (f k) i=rE (f (T.near (f k)).2.1) i)->rE (f k) bit≠rE (f (T.near (f k)).2.1) bit->(T.ins f a k c fa bit).Ok f N
 | .leaf a' k' c',_,h1,h2=>by
  unfold CT.ins
  simp only[CT.near] at h1 h2
  by_cases hb:rE (f k) bit=true
  ·rw[if_pos hb]
   refine ⟨hbit,trivial,trivial,?_,?_,?_⟩
   ·intro x hx;simp[CT.list] at hx;subst hx;rw[hb] at h2;simpa using h2
   ·intro x hx;simp[CT.list] at hx;subst hx;exact hb
   ·intro x hx y hy i hi
    simp[CT.list] at hx hy
    rcases hx with rfl | rfl <;> rcases hy with rfl | rfl <;> simp[h1 i hi]
  ·rw[if_neg hb]
   have hb':rE (f k) bit=false:=by simpa using hb
   refine ⟨hbit,trivial,trivial,?_,?_,?_⟩
   ·intro x hx;simp[CT.list] at hx;subst hx;exact hb'
   ·intro x hx;simp[CT.list] at hx;subst hx;rw[hb'] at h2;simpa using h2
   ·intro x hx y hy i hi
    simp[CT.list] at hx hy
    rcases hx with rfl | rfl <;> rcases hy with rfl | rfl <;> simp[h1 i hi]
 | .fork a' b' l r,hok,h1,h2=>by
  obtain ⟨hb0,hl,hr,h3,h4,h5⟩:=hok
  have hnm:=jM (f k) (.fork a' b' l r)
  simp only[CT.list] at hnm
  unfold CT.ins
  by_cases hlt:b'<bit
  ·rw[if_pos hlt]
   by_cases hs:rE (f k) b'=true
   ·rw[if_pos hs]
    have hnr:(CT.fork a' b' l r).near (f k)=r.near (f k):=by simp[CT.near,hs]
    rw[hnr] at h1 h2
    have ih:=aE9 (a:=a) (c:=c) (fa:=fa) hbit r hr h1 h2
    have hp:=uO (f:=f) (a:=a) (k:=k) (c:=c) (fa:=fa) (bit:=bit) r
    have hkr:∀ y∈l.list++r.list,Alike b' (f k) (f y.2.1):=fun y hy i hi =>
     (h1 i (by omega)).trans (h5 _ (List.mem_append_right _ (jM _ r)) y hy i hi)
    refine ⟨hb0,hl,ih,h3,?_,?_⟩
    ·intro x hx
     rcases List.mem_cons.1 (hp.mem_iff.1 hx) with rfl | hx
     ·exact hs
     ·exact h4 x hx
    ·intro x hx y hy
     have cls:∀ z,z∈l.list++(r.ins f a k c fa bit).list->z=(a,k,c)\/z∈l.list++r.list:=by
      intro z hz
      rcases List.mem_append.1 hz with hz | hz
      ·exact .inr (List.mem_append_left _ hz)
      ·rcases List.mem_cons.1 (hp.mem_iff.1 hz) with hz | hz
       ·exact .inl hz
       ·exact .inr (List.mem_append_right _ hz)
     rcases cls x hx with rfl | hx <;> rcases cls y hy with rfl | hy
     ·exact fun _ _=>rfl
     ·exact hkr y hy
     ·exact (hkr x hx).symm
     ·exact h5 x hx y hy
   ·rw[if_neg hs]
    have hnl:(CT.fork a' b' l r).near (f k)=l.near (f k):=by simp[CT.near,hs]
    rw[hnl] at h1 h2
    have ih:=aE9 (a:=a) (c:=c) (fa:=fa) hbit l hl h1 h2
    have hp:=uO (f:=f) (a:=a) (k:=k) (c:=c) (fa:=fa) (bit:=bit) l
    have hkr:∀ y∈l.list++r.list,Alike b' (f k) (f y.2.1):=fun y hy i hi =>
     (h1 i (by omega)).trans (h5 _ (List.mem_append_left _ (jM _ l)) y hy i hi)
    refine ⟨hb0,ih,hr,?_,h4,?_⟩
    ·intro x hx
     rcases List.mem_cons.1 (hp.mem_iff.1 hx) with rfl | hx
     ·simpa using hs
     ·exact h3 x hx
    ·intro x hx y hy
     have cls:∀ z,z∈(l.ins f a k c fa bit).list++r.list->z=(a,k,c)\/z∈l.list++r.list:=by
      intro z hz
      rcases List.mem_append.1 hz with hz | hz
      ·rcases List.mem_cons.1 (hp.mem_iff.1 hz) with hz | hz
       ·exact .inl hz
       ·exact .inr (List.mem_append_left _ hz)
      ·exact .inr (List.mem_append_right _ hz)
     rcases cls x hx with rfl | hx <;> rcases cls y hy with rfl | hy
     ·exact fun _ _=>rfl
     ·exact hkr y hy
     ·exact (hkr x hx).symm
     ·exact h5 x hx y hy
  ·rw[if_neg hlt]
   -- all below agree with the near leaf up to and with 'bit'
   have hne:bit≠b':=by
    rintro rfl
    apply h2
    by_cases hs:rE (f k) bit=true
    ·have hnr:(CT.fork a' bit l r).near (f k)=r.near (f k):=by simp[CT.near,hs]
     rw[hnr,h4 _ (jM _ r),hs]
    ·have hnl:(CT.fork a' bit l r).near (f k)=l.near (f k):=by simp[CT.near,hs]
     rw[hnl,h3 _ (jM _ l)];simpa using hs
   have hlt':bit<b':=by omega
   have hal:∀ y∈l.list++r.list,Alike bit (f k) (f y.2.1):=fun y hy i hi=>(h1 i hi).trans (h5 _ hnm y hy i (by omega))
   have hop:∀ y∈l.list++r.list,rE (f y.2.1) bit≠rE (f k) bit:=fun y hy e=>h2 (e.symm.trans (h5 _ hy _ hnm bit hlt'))
   have h5':∀ x∈l.list++r.list,∀ y∈l.list++r.list,Alike bit (f x.2.1) (f y.2.1):=fun x hx y hy=>(h5 x hx y hy).less (by omega)
   by_cases hb:rE (f k) bit=true
   ·rw[if_pos hb]
    refine ⟨hbit,⟨hb0,hl,hr,h3,h4,h5⟩,trivial,?_,?_,?_⟩
    ·intro x hx;have:=hop x hx;rw[hb] at this;simpa using this
    ·intro x hx;simp[CT.list] at hx;subst hx;exact hb
    ·intro x hx y hy
     rcases List.mem_append.1 hx with hx | hx <;> rcases List.mem_append.1 hy with hy | hy
     ·exact h5' x hx y hy
     ·simp[CT.list] at hy;subst hy;exact (hal x hx).symm
     ·simp[CT.list] at hx;subst hx;exact hal y hy
     ·simp[CT.list] at hx hy;subst hx;subst hy;exact fun _ _=>rfl
   ·rw[if_neg hb]
    have hb':rE (f k) bit=false:=by simpa using hb
    refine ⟨hbit,trivial,⟨hb0,hl,hr,h3,h4,h5⟩,?_,?_,?_⟩
    ·intro x hx;simp[CT.list] at hx;subst hx;exact hb'
    ·intro x hx;have:=hop x hx;rw[hb'] at this;simpa using this
    ·intro x hx y hy
     rcases List.mem_append.1 hx with hx | hx <;> rcases List.mem_append.1 hy with hy | hy
     ·simp[CT.list] at hx hy;subst hx;subst hy;exact fun _ _=>rfl
     ·simp[CT.list] at hx;subst hx;exact hal y hy
     ·simp[CT.list] at hy;subst hy;exact (hal x hx).symm
     ·exact h5' x hx y hy
def Bef (x y:List UInt8):Prop := ∃ d,Alike d x y/\rE x d=false/\rE y d=true
theorem Bef.trans {x y z:List UInt8} (h:Bef x y) (h':Bef y z):Bef x z:=by
 obtain ⟨d,h1,h2,h3⟩:=h
 obtain ⟨e,g1,g2,g3⟩:=h'
 rcases Nat.lt_trichotomy d e with hlt | rfl | hlt
 ·exact ⟨d,h1.trans (g1.less (by omega)),h2,(g1 d hlt) ▸ h3⟩
 ·rw[g2] at h3;cases h3
 exact ⟨e,(h1.less (by omega)).trans g1,(h1 e hlt).trans g2,g3⟩
end
end Go.Proofs.YtcedmfnlkelhkaaGreatDoor
namespace Go.Proofs.YtcedmfnlkelhkaaGreatDoor
set_option maxHeartbeats 40000000
set_option maxRecDepth 100000
open Go.RowKit

theorem lt_of_heap {w:World} {t:Nat} {o:Obj} (h:w.heap[t]? = some o):t<w.heap.size:=(Array.getElem?_eq_some_iff.1 h).1
def pt (b:Nat):Value := .pointer (some ⟨b,0,none⟩)
def lN (leaf:Bool) (k b:List UInt8) (th:Value) (bit:Int) (p q:Value):Array Value :=
 (.bool leaf :: ((k.map fun x=>Value.int .u8 (x.toNat:Int))++((b.map fun x=>Value.int .u8 (x.toNat:Int)) ++ [th,.int .i64 bit,p,q]))).toArray
section
variable {leaf:Bool} {k b:List UInt8} {th p q:Value} {bit:Int}
theorem aHJ (hk:k.length=25) (hb:b.length=25):(lN leaf k b th bit p q)[0]? = some (.bool leaf)/\(lN leaf k b th bit p q)[51]? = some th/\(lN leaf k b th bit p q)[52]? = some (.int .i64 bit) /\
  (lN leaf k b th bit p q)[53]? = some p/\(lN leaf k b th bit p q)[54]? = some q:=by
 unfold lN
 refine ⟨rfl,?_,?_,?_,?_⟩
 all_goals
  rw[List.getElem?_toArray,List.getElem?_cons_succ,List.getElem?_append_right (by simp[hk]),List.getElem?_append_right (by simp[hk,hb])]
  simp[hk,hb]
theorem aBR (hk:k.length=25) (hb:b.length=25):(lN leaf k b th bit p q).size=55:=by
 simp[lN,hk,hb]
theorem aHK (hk:k.length=25):(lN leaf k b th bit p q).extract 1 26=aJ k:=by
 apply Array.ext'
 simp[lN,aJ,List.extract_eq_take_drop,<-hk]
theorem aDq (hk:k.length=25) (hb:b.length=25):(lN leaf k b th bit p q).extract 26 51=aJ b:=by
 apply Array.ext'
 simp only[lN,aJ,List.extract_eq_take_drop,Array.toList_extract]
 rw[List.drop_succ_cons,List.drop_append_of_le_length (by simp[hk]),List.drop_of_length_le (by simp[hk]),List.nil_append]
 rw[List.take_append_of_le_length (by simp[hb])]
 rw[List.take_of_length_le (by simp[hb])]
end
def dD (w:World) (a:Nat) (leaf:Bool) (k b:List UInt8) (th:Value) (bit:Int) (p q:Value):Prop :=
 w.heap[a]? = some (.cells (lN leaf k b th bit p q) 263)
section
variable {w:World} {a:Nat} {leaf:Bool} {k b:List UInt8} {th p q:Value} {bit:Int}
theorem dD.cells (h:dD w a leaf k b th bit p q) (hk:k.length=25) (hb:b.length=25) :
  w.cell? ⟨a,0,none⟩=some (.bool leaf)/\w.cell? ⟨a,51,none⟩=some th/\w.cell? ⟨a,52,none⟩=some (.int .i64 bit)/\w.cell? ⟨a,53,none⟩=some p/\w.cell? ⟨a,54,none⟩=some q:=by
 obtain ⟨h0,h1,h2,h3,h4⟩:=aHJ (leaf:=leaf) (k:=k) (b:=b) (th:=th) (p:=p) (q:=q) (bit:=bit) hk hb
 unfold dD at h
 simp only[World.cell?,h]
 exact ⟨h0,h1,h2,h3,h4⟩
theorem dD.key (h:dD w a leaf k b th bit p q) (hk:k.length=25) (hb:b.length=25):w.aW a 1 25=some (aJ k):=by
 unfold dD at h
 unfold World.aW
 simp only[h]
 rw[if_pos (by rw[aBR hk hb];omega),aHK hk]
theorem dD.bytes (h:dD w a leaf k b th bit p q) (hk:k.length=25) (hb:b.length=25):w.aW a 26 25=some (aJ b):=by
 unfold dD at h
 unfold World.aW
 simp only[h]
 rw[if_pos (by rw[aBR hk hb];omega),aDq hk hb]
end
def CT.At (w:World):CT K25->Prop
 | .leaf a k c=>dD w a true k.val k.val (pt c) 0 (.pointer none) (.pointer none)
 | .fork a bit l r=>dD w a false (zeros 25) (zeros 25) (.pointer none) bit (pt l.at_) (pt r.at_)/\l.At w/\r.At w
theorem CT.At.keep {w w':World}:∀ {T:CT K25},T.At w->(∀ b∈T.foot,w'.heap[b]? = w.heap[b]?)->T.At w'
 | .leaf a k c,h,hk=>(hk a (by simp[CT.foot])).trans h
 | .fork a bit l r,⟨h1,h2,h3⟩,hk=>⟨(hk a (by simp[CT.foot])).trans h1,h2.keep fun b hb=>hk b (by simp[CT.foot,hb]),h3.keep fun b hb=>hk b (by simp[CT.foot,hb])⟩
theorem CT.At.lt {w:World}:∀ {T:CT K25},T.At w -> ∀ b∈T.foot,b<w.heap.size
 | .leaf a k c,h,b,hb=>by simp[CT.foot] at hb;subst hb;exact lt_of_heap h
 | .fork a bit l r,⟨h1,h2,h3⟩,b,hb=>by
  simp only[CT.foot,List.mem_cons,List.mem_append] at hb
  rcases hb with rfl | hb | hb
  ·exact lt_of_heap h1
  ·exact h2.lt b hb
  ·exact h3.lt b hb
theorem CT.At.leaf {w:World}:∀ {T:CT K25},T.At w -> ∀ x∈T.list,dD w x.1 true x.2.1.val x.2.1.val (pt x.2.2) 0 (.pointer none) (.pointer none)
 | .leaf a k c,h,x,hx=>by simp[CT.list] at hx;subst hx;exact h
 | .fork a bit l r,⟨_,h2,h3⟩,x,hx=>by
  rcases List.mem_append.1 hx with hx | hx
  ·exact h2.leaf x hx
  ·exact h3.leaf x hx
theorem CT.At.root {w:World}:∀ {T:CT K25},T.At w->T.at_<w.heap.size
 | .leaf _ _ _,h=>lt_of_heap h
 | .fork _ _ _ _,h=>lt_of_heap h.1
def aHW:Option (CT K25)->Value
 | none => .pointer none
 | some T=>pt T.at_
def keyBytes (k:K25):List UInt8:=k.val
def jI (w:World) (t:Nat) (R:Option (CT K25)) (n:Int):Prop :=
 w.heap[t]? = some (.cells #[aHW R,.int .i64 n] 243) /\ ∀ T,R=some T->T.At w/\T.Ok keyBytes 200
def aBk:Option Nat->Value
 | none => .pointer none
 | some a=>pt a
def aCg (R:Option (CT K25)) (b:List UInt8):Option Nat:=R.map fun T=>(T.near b).1
def vU (R:Option (CT K25)) (k:K25):Option Nat:=R.bind fun T=>if (T.near k.val).2.1=k then some (T.near k.val).1 else none
def mD (R:Option (CT K25)) (k:K25):Option Nat:=R.bind fun T=>if (T.near k.val).2.1=k then some (T.near k.val).2.2 else none
theorem jI.keep {w w':World} {t:Nat} {R:Option (CT K25)} {n:Int} (h:jI w t R n) (hb:Below w.heap.size w w'):jI w' t R n :=
 ⟨(hb.block _ (lt_of_heap h.1)).trans h.1,fun T hT=>⟨(h.2 T hT).1.keep fun b hb'=>hb.block b ((h.2 T hT).1.lt b hb'),(h.2 T hT).2⟩⟩

theorem aK8:∀ bit<200,min (IntKind.u64.wrap (wrap64 (7 - bits BinOp.and IntKind.i64 ((bit:Nat):Int) 7))).toNat 8=7 - bit % 8:=by decide +kernel
theorem aJF:∀ y<256,bits BinOp.and IntKind.i64 (wrap64 ((y:Nat):Int)) 1=((y % 2:Nat):Int):=by decide +kernel
def tJ (b:List UInt8) (bit:Nat):Int:=if rE b bit then 1 else 0
theorem aJE (b:List UInt8) (bit:Nat) (h:bit<200):bits BinOp.and IntKind.i64 (wrap64 ((byt b (bit / 8)).toNat / 2 ^ min (IntKind.u64.wrap (wrap64 (7 - bits BinOp.and IntKind.i64 (bit:Int) 7))).toNat 8)) 1=tJ b bit:=by
 rw[aK8 bit h]
 have hx:=(byt b (bit / 8)).toNat_lt
 have e:((byt b (bit / 8)).toNat:Int) / 2 ^ (7 - bit % 8)=(((byt b (bit / 8)).toNat / 2 ^ (7 - bit % 8):Nat):Int):=by
  rw[Int.natCast_ediv];simp
 rw[e,aJF _ (Nat.lt_of_le_of_lt (Nat.div_le_self _ _) (by omega))]
 unfold tJ rE
 by_cases hb:(byt b (bit / 8)).toNat / 2 ^ (7 - bit % 8) % 2=1
 ·simp[hb]
 simp[hb];omega
theorem aB0 (b:List UInt8) (hb:b.length=25) (bit:Nat) (hbit:bit<200) (w:World):Gives Tryz.prog 110 #[.agg (aJ b),.int .i64 bit] w (.int .i64 (tJ b bit)):=by
 have hg:(aJ b)[bit / 8]? = some (.int .u8 ((byt b (bit / 8)).toNat:Int)):=lS b _ (by omega)
 have he:=aJE b bit hbit
 have HE:=Lib.hid he
 clear he
 unfold Gives
 go_enter Tryz.func110,Tryz.ntmps110
 go_wp2_with fail
 rw[HE.out]
 go_ret
 exact ⟨rfl,blw⟩
theorem aMJ {a b:Nat} (h:pt a=pt b):a=b:=by
 simp only[pt,Option.some.injEq,Value.pointer.injEq,Addr.mk.injEq,and_true] at h;exact h
theorem aG5 (a:Nat) (k:K25) (c:Nat):(CT.leaf a k c).at_=a:=rfl
theorem aG4 (a bit:Nat) (l r:CT K25):(CT.fork a bit l r).at_=a:=rfl
theorem At.aB9 {w:World}:∀ {X Y:CT K25},X.At w->Y.At w->X.at_=Y.at_->X.depth=Y.depth
 | .leaf a k c,.leaf a' k' c',_,_,_=>rfl
 | .leaf a k c,.fork a' bit l r,hX,hY,e=>by
  simp only[CT.at_] at e;subst e
  have h1:=(dD.cells hX k.property k.property).1
  have h2:=(dD.cells hY.1 (by simp[zeros]) (by simp[zeros])).1
  rw[h1] at h2;cases h2
 | .fork a' bit l r,.leaf a k c,hX,hY,e=>by
  simp only[CT.at_] at e;subst e
  have h1:=(dD.cells hX.1 (by simp[zeros]) (by simp[zeros])).1
  have h2:=(dD.cells hY k.property k.property).1
  rw[h1] at h2;cases h2
 | .fork a bit l r,.fork a' bit' l' r',hX,hY,e=>by
  simp only[CT.at_] at e;subst e
  obtain ⟨_,_,_,h3,h4⟩:=dD.cells hX.1 (by simp[zeros]) (by simp[zeros])
  obtain ⟨_,_,_,g3,g4⟩:=dD.cells hY.1 (by simp[zeros]) (by simp[zeros])
  rw[h3] at g3;rw[h4] at g4
  simp only[pt,Option.some.injEq,Value.pointer.injEq,Addr.mk.injEq,and_true] at g3 g4
  unfold CT.depth
  rw[At.aB9 hX.2.1 hY.2.1 g3,At.aB9 hX.2.2 hY.2.2 g4]
open Classical in
noncomputable def sU (w:World) (v:Value):Nat:=if h:∃ X:CT K25,v=pt X.at_/\X.At w then (Classical.choose h).depth else 0
theorem oI {w:World} {X:CT K25} (h:X.At w):sU w (.pointer (some ⟨X.at_,0,none⟩))=X.depth:=by
 have hex:∃ Y:CT K25,Value.pointer (some ⟨X.at_,0,none⟩)=pt Y.at_/\Y.At w:=⟨X,rfl,h⟩
 unfold sU
 rw[dif_pos hex]
 obtain ⟨h1,h2⟩:=Classical.choose_spec hex
 exact (At.aB9 h h2 (aMJ h1)).symm
theorem aBP (b:List UInt8) (hb:b.length=25) (t:Nat) (R:Option (CT K25)) (n:Int) (w:World) (h:jI w t R n):Gives Tryz.prog 108 #[.pointer (some ⟨t,0,none⟩),.agg (aJ b)] w (aBk (aCg R b)):=by
 have hlt:=lt_of_heap h.1
 have hc:w.cell? ⟨t,0,none⟩=some (aHW R):=by simp[World.cell?,h.1]
 cases R with
 | none =>
  simp only[aHW,aCg,aBk,Option.map_none] at *
  clear h
  unfold Gives
  go_enter Tryz.func108,Tryz.ntmps108
  go_wp2_with fail
  go_loopw [5] (fun s5 wr=>s5 = .pointer none/\wr=w.alloc (.cells (aJ b) 260)) (fun _ _=>0)
  case atStart=>exact ⟨rfl,rfl⟩
  obtain ⟨rfl,rfl⟩:=hrel
  go_wp2_with fail
  go_ret
  exact ⟨rfl,blw⟩
 | some T =>
  obtain ⟨hT,hO⟩:=h.2 T rfl
  have HS:=Lib.hid (aB0 b hb)
  simp only[aHW,aCg,aBk,Option.map_some,pt] at *
  clear h
  obtain ⟨r,hr⟩:∃ r,r=(T.near b).1:=⟨_,rfl⟩
  rw[<-hr]
  have hlr:=hT.root
  have H0:=Lib.hid (And.intro hT (And.intro hO hr))
  clear hT hO hr
  obtain ⟨ra,hra⟩:∃ ra,ra=T.at_:=⟨_,rfl⟩
  rw[<-hra] at hc hlr
  have HA:=Lib.hid hra
  clear hra
  unfold Gives
  go_enter Tryz.func108,Tryz.ntmps108
  go_wp2_with fail
  go_loopw [5] (fun s5 wr => ∃ (X:CT K25) (xs:Array Obj) (d:Nat),s5 = .pointer (some ⟨X.at_,0,none⟩)/\X.At w/\X.Ok keyBytes 200/\(X.near b).1=r/\wr=(w.alloc (.cells (aJ b) 260)).grow xs d)
   (fun s5 wr=>sU w s5)
  case atStart=>exact ⟨T, #[],(w.alloc (.cells (aJ b) 260)).drawn,by rw[<-HA.out],H0.out.1,H0.out.2.1,H0.out.2.2.symm,World.jE.symm⟩
  obtain ⟨X,xs,d,rfl,hX,hXO,hXr,rfl⟩:=hrel
  cases X with
  | leaf a k c =>
   rw[aG5]
   simp only[CT.near] at hXr
   subst hXr
   have hc0:=(dD.cells hX k.property k.property).1
   have hla:=lt_of_heap hX
   clear hX hXO
   go_wp2_with fail
   go_ret
   exact ⟨rfl,blw⟩
  | fork a bit l r' =>
   obtain ⟨hn,hL,hRt⟩:=hX
   obtain ⟨hb200,hLO,hRO,_⟩:=hXO
   obtain ⟨hc0,_,hc2,hc3,hc4⟩:=dD.cells hn (by simp[zeros]) (by simp[zeros])
   have hla:=lt_of_heap hn
   have hdl:=oI hL
   have hdr:=oI hRt
   have hda:sU w (.pointer (some ⟨a,0,none⟩))=l.depth+r'.depth+1:=oI (X := .fork a bit l r') ⟨hn,hL,hRt⟩
   have HB:=Lib.hid hXr
   rw[aG4]
   simp only[pt] at hc3 hc4
   clear hXr hn
   have HL:=Lib.hid (And.intro hL hLO)
   have HR:=Lib.hid (And.intro hRt hRO)
   clear hL hLO hRt hRO
   have HD:=Lib.hid (And.intro hdl (And.intro hdr hda))
   clear hdl hdr hda
   by_cases hs:rE b bit=true
   ·have hsd:tJ b bit=1:=by simp[tJ,hs]
    have HS1:=Lib.hid (HS.out bit hb200)
    rw[hsd] at HS1
    clear HS hsd
    have hnx:(r'.near b).1=r:=by have:=HB.out;simpa only[CT.near,if_pos hs] using this
    go_wp2_with fail
    apply aG (by rfl) [.val _,.val _,.val _,.val _,.val _,.val _,.val _,.val _,.val _,.val _,.val _] 11 (by rfl) [19,20,21,22,23,24,25,26,27,28,29] [] [] (by rfl) (by rfl) (by decide) (by decide +kernel) (fun _ _ _ _ _ h=>h)
    case hF=>intro x;simp only[over,List.foldl_cons,List.foldl_nil,List.setIfInBounds_toArray,List.set_cons_succ,List.set_cons_zero];exact rfl
    case hops =>
     refine ⟨?o0,?o1,?o2,?o3,?o4,?o5,?o6,?o7,?o8,?o9,?o10,trivial⟩
     case o0 =>
      intro x w1 hH K hK
      obtain ⟨xs,d,rfl⟩:=aA hH.below
      clear hH
      try simp only[World.aB] at hK |-
      try simp only[World.grow_grow] at hK |-
      exact zw
     case o1 =>
      intro x w1 hH K hK
      obtain ⟨xs,d,rfl⟩:=aA hH.below
      clear hH
      try simp only[World.aB] at hK |-
      try simp only[World.grow_grow] at hK |-
      exact zw
     case o2 =>
      intro x w1 hH K hK
      obtain ⟨xs,d,rfl⟩:=aA hH.below
      clear hH
      try simp only[World.aB] at hK |-
      try simp only[World.grow_grow] at hK |-
      exact zw
     case o3 =>
      intro x w1 hH K hK
      have e21:x 21=_:=hH.g 2 21
      obtain ⟨xs,d,rfl⟩:=aA hH.below
      clear hH
      try simp only[World.aB] at hK |-
      try simp only[World.grow_grow] at hK |-
      simp only[e21] at hK |-
      clear e21
      exact zw
     case o4 =>
      intro x w1 hH K hK
      have e22:x 22=_:=hH.g 3 22
      obtain ⟨xs,d,rfl⟩:=aA hH.below
      clear hH
      try simp only[World.aB] at hK |-
      try simp only[World.grow_grow] at hK |-
      simp only[e22] at hK |-
      clear e22
      exact zw
     case o5 =>
      intro x w1 hH K hK
      have e23:x 23=_:=hH.g 4 23
      obtain ⟨xs,d,rfl⟩:=aA hH.below
      clear hH
      try simp only[World.aB] at hK |-
      try simp only[World.grow_grow] at hK |-
      simp only[e23] at hK |-
      clear e23
      exact zw
     case o6 =>
      intro x w1 hH K hK
      have e20:x 20=_:=hH.g 1 20
      have e24:x 24=_:=hH.g 5 24
      obtain ⟨xs,d,rfl⟩:=aA hH.below
      clear hH
      try simp only[World.aB] at hK |-
      try simp only[World.grow_grow] at hK |-
      simp only[e20,e24] at hK |-
      clear e20 e24
      go_simp
      go_wp2_with (refine Gives.use (HS1.out _) ?_;intro ys e)
      exact zu
     case o7 =>
      intro x w1 hH K hK
      have e19:x 19=_:=hH.g 0 19
      obtain ⟨xs,d,rfl⟩:=aA hH.below
      clear hH
      try simp only[World.aB] at hK |-
      try simp only[World.grow_grow] at hK |-
      simp only[e19] at hK |-
      clear e19
      exact zw
     case o8 =>
      intro x w1 hH K hK
      have e26:x 26=_:=hH.g 7 26
      obtain ⟨xs,d,rfl⟩:=aA hH.below
      clear hH
      try simp only[World.aB] at hK |-
      try simp only[World.grow_grow] at hK |-
      simp only[e26] at hK |-
      clear e26
      exact zw
     case o9 =>
      intro x w1 hH K hK
      have e25:x 25=_:=hH.g 6 25
      have e27:x 27=_:=hH.g 8 27
      obtain ⟨xs,d,rfl⟩:=aA hH.below
      clear hH
      try simp only[World.aB] at hK |-
      try simp only[World.grow_grow] at hK |-
      simp only[e25,e27] at hK |-
      clear e25 e27
      exact zw
     case o10 =>
      intro x w1 hH K hK
      have e28:x 28=_:=hH.g 9 28
      obtain ⟨xs,d,rfl⟩:=aA hH.below
      clear hH
      try simp only[World.aB] at hK |-
      try simp only[World.grow_grow] at hK |-
      simp only[e28] at hK |-
      clear e28
      exact zw
    intro x w1 hH
    have e19:x 19=_:=hH.t 0 19
    have e20:x 20=_:=hH.t 1 20
    have e21:x 21=_:=hH.t 2 21
    have e22:x 22=_:=hH.t 3 22
    have e23:x 23=_:=hH.t 4 23
    have e24:x 24=_:=hH.t 5 24
    have e25:x 25=_:=hH.t 6 25
    have e26:x 26=_:=hH.t 7 26
    have e27:x 27=_:=hH.t 8 27
    have e28:x 28=_:=hH.t 9 28
    have e29:x 29=_:=hH.t 10 29
    obtain ⟨xs,d,rfl⟩:=aA hH.below
    clear hH
    simp only[e19,e20,e21,e22,e23,e24,e25,e26,e27,e28,e29];clear e19 e20 e21 e22 e23 e24 e25 e26 e27 e28 e29
    simp only[List.drop_succ_cons,List.drop_zero]
    go_wp2_with fail
    go_roundw
    case rel=>exact ⟨r',_,_,rfl,HR.out.1,HR.out.2,hnx,by rw[World.aB,World.grow_grow]⟩
    rw[HD.out.2.1,HD.out.2.2];omega
   have hsd:tJ b bit=0:=by simp[tJ,hs]
   have HS1:=Lib.hid (HS.out bit hb200)
   rw[hsd] at HS1
   clear HS hsd
   have hnx:(l.near b).1=r:=by have:=HB.out;simpa only[CT.near,if_neg hs] using this
   go_wp2_with fail
   apply aG (by rfl) [.val _,.val _,.val _,.val _,.val _,.val _,.val _,.val _,.val _,.val _,.val _] 11 (by rfl) [19,20,21,22,23,24,25,26,27,28,29] [] [] (by rfl) (by rfl) (by decide) (by decide +kernel) (fun _ _ _ _ _ h=>h)
   case hF=>intro x;simp only[over,List.foldl_cons,List.foldl_nil,List.setIfInBounds_toArray,List.set_cons_succ,List.set_cons_zero];exact rfl
   case hops =>
    refine ⟨?o0,?o1,?o2,?o3,?o4,?o5,?o6,?o7,?o8,?o9,?o10,trivial⟩
    case o0 =>
     intro x w1 hH K hK
     obtain ⟨xs,d,rfl⟩:=aA hH.below
     clear hH
     try simp only[World.aB] at hK |-
     try simp only[World.grow_grow] at hK |-
     exact zw
    case o1 =>
     intro x w1 hH K hK
     obtain ⟨xs,d,rfl⟩:=aA hH.below
     clear hH
     try simp only[World.aB] at hK |-
     try simp only[World.grow_grow] at hK |-
     exact zw
    case o2 =>
     intro x w1 hH K hK
     obtain ⟨xs,d,rfl⟩:=aA hH.below
     clear hH
     try simp only[World.aB] at hK |-
     try simp only[World.grow_grow] at hK |-
     exact zw
    case o3 =>
     intro x w1 hH K hK
     have e21:x 21=_:=hH.g 2 21
     obtain ⟨xs,d,rfl⟩:=aA hH.below
     clear hH
     try simp only[World.aB] at hK |-
     try simp only[World.grow_grow] at hK |-
     simp only[e21] at hK |-
     clear e21
     exact zw
    case o4 =>
     intro x w1 hH K hK
     have e22:x 22=_:=hH.g 3 22
     obtain ⟨xs,d,rfl⟩:=aA hH.below
     clear hH
     try simp only[World.aB] at hK |-
     try simp only[World.grow_grow] at hK |-
     simp only[e22] at hK |-
     clear e22
     exact zw
    case o5 =>
     intro x w1 hH K hK
     have e23:x 23=_:=hH.g 4 23
     obtain ⟨xs,d,rfl⟩:=aA hH.below
     clear hH
     try simp only[World.aB] at hK |-
     try simp only[World.grow_grow] at hK |-
     simp only[e23] at hK |-
     clear e23
     exact zw
    case o6 =>
     intro x w1 hH K hK
     have e20:x 20=_:=hH.g 1 20
     have e24:x 24=_:=hH.g 5 24
     obtain ⟨xs,d,rfl⟩:=aA hH.below
     clear hH
     try simp only[World.aB] at hK |-
     try simp only[World.grow_grow] at hK |-
     simp only[e20,e24] at hK |-
     clear e20 e24
     go_simp
     go_wp2_with (refine Gives.use (HS1.out _) ?_;intro ys e)
     exact zu
    case o7 =>
     intro x w1 hH K hK
     have e19:x 19=_:=hH.g 0 19
     obtain ⟨xs,d,rfl⟩:=aA hH.below
     clear hH
     try simp only[World.aB] at hK |-
     try simp only[World.grow_grow] at hK |-
     simp only[e19] at hK |-
     clear e19
     exact zw
    case o8 =>
     intro x w1 hH K hK
     have e26:x 26=_:=hH.g 7 26
     obtain ⟨xs,d,rfl⟩:=aA hH.below
     clear hH
     try simp only[World.aB] at hK |-
     try simp only[World.grow_grow] at hK |-
     simp only[e26] at hK |-
     clear e26
     exact zw
    case o9 =>
     intro x w1 hH K hK
     have e25:x 25=_:=hH.g 6 25
     have e27:x 27=_:=hH.g 8 27
     obtain ⟨xs,d,rfl⟩:=aA hH.below
     clear hH
     try simp only[World.aB] at hK |-
     try simp only[World.grow_grow] at hK |-
     simp only[e25,e27] at hK |-
     clear e25 e27
     exact zw
    case o10 =>
     intro x w1 hH K hK
     have e28:x 28=_:=hH.g 9 28
     obtain ⟨xs,d,rfl⟩:=aA hH.below
     clear hH
     try simp only[World.aB] at hK |-
     try simp only[World.grow_grow] at hK |-
     simp only[e28] at hK |-
     clear e28
     exact zw
   intro x w1 hH
   have e19:x 19=_:=hH.t 0 19
   have e20:x 20=_:=hH.t 1 20
   have e21:x 21=_:=hH.t 2 21
   have e22:x 22=_:=hH.t 3 22
   have e23:x 23=_:=hH.t 4 23
   have e24:x 24=_:=hH.t 5 24
   have e25:x 25=_:=hH.t 6 25
   have e26:x 26=_:=hH.t 7 26
   have e27:x 27=_:=hH.t 8 27
   have e28:x 28=_:=hH.t 9 28
   have e29:x 29=_:=hH.t 10 29
   obtain ⟨xs,d,rfl⟩:=aA hH.below
   clear hH
   simp only[e19,e20,e21,e22,e23,e24,e25,e26,e27,e28,e29];clear e19 e20 e21 e22 e23 e24 e25 e26 e27 e28 e29
   simp only[List.drop_succ_cons,List.drop_zero]
   go_wp2_with fail
   go_roundw
   case rel=>exact ⟨l,_,_,rfl,HL.out.1,HL.out.2,hnx,by rw[World.aB,World.grow_grow]⟩
   rw[HD.out.1,HD.out.2.2];omega
theorem aJP {w:World} {a o sz:Nat} {c:Array Value} (h:w.aW a o sz=some c) (ha:a<w.heap.size) (x:Obj) (xs:Array Obj) (d:Nat):((w.alloc x).grow xs d).aW a o sz=some c:=by
 rw[lI _ _ _ _ _ (by simp;omega),nP _ _ _ _ ha];exact h
theorem aGe {w:World} (c:Array Value) (t:TypeId) {n:Nat} (hn:c.size=n) (xs:Array Obj) (d:Nat):((w.alloc (.cells c t)).grow xs d).aW w.heap.size 0 n=some c:=by
 rw[lI _ _ _ _ _ (by simp),qG _ _ _ _ _ rfl,if_pos (by omega)]
 simp[<-hn]
theorem aKD {a b:K25} (h:a≠b):(a.val == b.val)=false:=by
 rw[beq_eq_false_iff_ne];exact fun e=>h (Subtype.ext e)
theorem aBD (k:K25) (t:Nat) (R:Option (CT K25)) (n:Int) (w:World) (h:jI w t R n):Gives Tryz.prog 106 #[.pointer (some ⟨t,0,none⟩),.agg (aJ k.val)] w (aBk (vU R k)):=by
 have hlt:=lt_of_heap h.1
 have HB:=Lib.hid (sJ k.val k.property)
 have hne:∀ W,Below w.heap.size w W->Gives Tryz.prog 108 #[.pointer (some ⟨t,0,none⟩),.agg (aJ k.val)] W (aBk (aCg R k.val)):=fun W hb=>aBP k.val k.property t R n W (h.keep hb)
 cases R with
 | none =>
  simp only[aCg,vU,aBk,Option.map_none,Option.bind_none] at *
  have HN:=Lib.hid hne
  clear hne h
  unfold Gives
  go_enter Tryz.func106,Tryz.ntmps106
  go_wp2_with fail
  refine Gives.use (HB.out _) ?_
  intro xs0 d0
  go_wp2_with fail
  refine Gives.use (HN.out _ blw) ?_
  intro xs1 d1
  go_wp2_with fail
  clear HB HN
  go_quiet (fail)
  go_wp2_with fail
  all_goals
   go_ret
   exact ⟨rfl,blw⟩
 | some T =>
  obtain ⟨hT,hO⟩:=h.2 T rfl
  have hx:=hT.leaf _ (jM k.val T)
  simp only[aCg,vU,aBk,Option.map_some,Option.bind_some,pt] at *
  obtain ⟨x,hxe⟩:∃ x,x=T.near k.val:=⟨_,rfl⟩
  rw[<-hxe] at hx hne |-
  have hcut:=hx.key x.2.1.property x.2.1.property
  have hla:=lt_of_heap hx
  have HN:=Lib.hid hne
  clear hne h hT hO hx hxe
  obtain ⟨a,k',c⟩:=x
  simp only at *
  by_cases he:k'=k
  ·rw[if_pos he]
   have hkk:(k'.val == k.val)=true:=by rw[he];simp
   clear he
   unfold Gives
   go_enter Tryz.func106,Tryz.ntmps106
   go_wp2_with fail
   refine Gives.use (HB.out _) ?_
   intro xs0 d0
   go_wp2_with fail
   refine Gives.use (HN.out _ blw) ?_
   intro xs1 d1
   go_wp2_with fail
   clear HB HN
   have hb:Below w.heap.size w ((w.alloc (.cells (aJ k.val) 132)).grow (xs0++xs1) d1):=blw
   have f1:=aJP hcut hla (.cells (aJ k.val) 132) (xs0++xs1) d1
   have f2:=aGe (w:=w) (aJ k.val) 132 (by simp:_=25) (xs0++xs1) d1
   have f3:w.heap.size<((w.alloc (.cells (aJ k.val) 132)).grow (xs0++xs1) d1).heap.size:=by simp;omega
   have f4:a<((w.alloc (.cells (aJ k.val) 132)).grow (xs0++xs1) d1).heap.size:=by simp;omega
   generalize hW:(w.alloc (.cells (aJ k.val) 132)).grow (xs0++xs1) d1=W at *
   clear hW hcut hla
   apply aG (by rfl) [.val _,.val _,.val _,.val _,.val _,.val _,.val _,.val _,.val _,.val _] 10 (by rfl) [12,13,14,15,16,17,18,19,20,21] [] [] (by rfl) (by rfl) (by decide) (by decide +kernel) (fun _ _ _ _ _ h=>h)
   case hF=>intro x;simp only[over,List.foldl_cons,List.foldl_nil,List.setIfInBounds_toArray,List.set_cons_succ,List.set_cons_zero];exact rfl
   case hops =>
    refine ⟨?o0,?o1,?o2,?o3,?o4,?o5,?o6,?o7,?o8,?o9,trivial⟩
    case o0 =>
     intro x w1 hH K hK
     obtain ⟨xs,d,rfl⟩:=aA hH.below
     clear hH
     try simp only[World.aB] at hK |-
     try simp only[World.grow_grow] at hK |-
     exact zw
    case o1 =>
     intro x w1 hH K hK
     have e12:x 12=_:=hH.g 0 12
     obtain ⟨xs,d,rfl⟩:=aA hH.below
     clear hH
     try simp only[World.aB] at hK |-
     try simp only[World.grow_grow] at hK |-
     simp only[e12] at hK |-
     clear e12
     exact zw
    case o2 =>
     intro x w1 hH K hK
     have e13:x 13=_:=hH.g 1 13
     obtain ⟨xs,d,rfl⟩:=aA hH.below
     clear hH
     try simp only[World.aB] at hK |-
     try simp only[World.grow_grow] at hK |-
     simp only[e13] at hK |-
     clear e13
     exact zw
    case o3 =>
     intro x w1 hH K hK
     have e14:x 14=_:=hH.g 2 14
     obtain ⟨xs,d,rfl⟩:=aA hH.below
     clear hH
     try simp only[World.aB] at hK |-
     try simp only[World.grow_grow] at hK |-
     simp only[e14] at hK |-
     clear e14
     exact zw
    case o4 =>
     intro x w1 hH K hK
     have e14:x 14=_:=hH.g 2 14
     have e15:x 15=_:=hH.g 3 15
     obtain ⟨xs,d,rfl⟩:=aA hH.below
     clear hH
     try simp only[World.aB] at hK |-
     try simp only[World.grow_grow] at hK |-
     simp only[e14,e15] at hK |-
     clear e14 e15
     exact zw
    case o5 =>
     intro x w1 hH K hK
     have e14:x 14=_:=hH.g 2 14
     have e16:x 16=_:=hH.g 4 16
     obtain ⟨xs,d,rfl⟩:=aA hH.below
     clear hH
     try simp only[World.aB] at hK |-
     try simp only[World.grow_grow] at hK |-
     simp only[e14,e16] at hK |-
     clear e14 e16
     exact zw
    case o6 =>
     intro x w1 hH K hK
     have e14:x 14=_:=hH.g 2 14
     have e17:x 17=_:=hH.g 5 17
     obtain ⟨xs,d,rfl⟩:=aA hH.below
     clear hH
     try simp only[World.aB] at hK |-
     try simp only[World.grow_grow] at hK |-
     simp only[e14,e17] at hK |-
     clear e14 e17
     exact zw
    case o7 =>
     intro x w1 hH K hK
     have e14:x 14=_:=hH.g 2 14
     obtain ⟨xs,d,rfl⟩:=aA hH.below
     clear hH
     try simp only[World.aB] at hK |-
     try simp only[World.grow_grow] at hK |-
     simp only[e14] at hK |-
     clear e14
     exact zw
    case o8 =>
     intro x w1 hH K hK
     have e14:x 14=_:=hH.g 2 14
     have e18:x 18=_:=hH.g 6 18
     have e19:x 19=_:=hH.g 7 19
     obtain ⟨xs,d,rfl⟩:=aA hH.below
     clear hH
     try simp only[World.aB] at hK |-
     try simp only[World.grow_grow] at hK |-
     simp only[e14,e18,e19] at hK |-
     clear e14 e18 e19
     exact zw
    case o9 =>
     intro x w1 hH K hK
     have e14:x 14=_:=hH.g 2 14
     have e20:x 20=_:=hH.g 8 20
     obtain ⟨xs,d,rfl⟩:=aA hH.below
     clear hH
     try simp only[World.aB] at hK |-
     try simp only[World.grow_grow] at hK |-
     simp only[e14,e20] at hK |-
     clear e14 e20
     exact zw
   intro x w1 hH
   have e12:x 12=_:=hH.t 0 12
   have e13:x 13=_:=hH.t 1 13
   have e14:x 14=_:=hH.t 2 14
   have e15:x 15=_:=hH.t 3 15
   have e16:x 16=_:=hH.t 4 16
   have e17:x 17=_:=hH.t 5 17
   have e18:x 18=_:=hH.t 6 18
   have e19:x 19=_:=hH.t 7 19
   have e20:x 20=_:=hH.t 8 20
   have e21:x 21=_:=hH.t 9 21
   obtain ⟨xs,d,rfl⟩:=aA hH.below
   clear hH
   simp only[e12,e13,e14,e15,e16,e17,e18,e19,e20,e21];clear e12 e13 e14 e15 e16 e17 e18 e19 e20 e21
   simp only[List.drop_succ_cons,List.drop_nil]
   go_wp2_with fail
   go_ret
   exact ⟨rfl,hb.trans ((show Below W.heap.size W _ from blw).mono hb.size)⟩
  have hkk:=aKD he
  rw[if_neg he]
  clear he
  unfold Gives
  go_enter Tryz.func106,Tryz.ntmps106
  go_wp2_with fail
  refine Gives.use (HB.out _) ?_
  intro xs0 d0
  go_wp2_with fail
  refine Gives.use (HN.out _ blw) ?_
  intro xs1 d1
  go_wp2_with fail
  clear HB HN
  have hb:Below w.heap.size w ((w.alloc (.cells (aJ k.val) 132)).grow (xs0++xs1) d1):=blw
  have f1:=aJP hcut hla (.cells (aJ k.val) 132) (xs0++xs1) d1
  have f2:=aGe (w:=w) (aJ k.val) 132 (by simp:_=25) (xs0++xs1) d1
  have f3:w.heap.size<((w.alloc (.cells (aJ k.val) 132)).grow (xs0++xs1) d1).heap.size:=by simp;omega
  have f4:a<((w.alloc (.cells (aJ k.val) 132)).grow (xs0++xs1) d1).heap.size:=by simp;omega
  generalize hW:(w.alloc (.cells (aJ k.val) 132)).grow (xs0++xs1) d1=W at *
  clear hW hcut hla
  apply aG (by rfl) [.val _,.val _,.val _,.val _,.val _,.val _,.val _,.val _,.val _,.val _] 10 (by rfl) [12,13,14,15,16,17,18,19,20,21] [] [] (by rfl) (by rfl) (by decide) (by decide +kernel) (fun _ _ _ _ _ h=>h)
  case hF=>intro x;simp only[over,List.foldl_cons,List.foldl_nil,List.setIfInBounds_toArray,List.set_cons_succ,List.set_cons_zero];exact rfl
  case hops =>
   refine ⟨?o0,?o1,?o2,?o3,?o4,?o5,?o6,?o7,?o8,?o9,trivial⟩
   case o0 =>
    intro x w1 hH K hK
    obtain ⟨xs,d,rfl⟩:=aA hH.below
    clear hH
    try simp only[World.aB] at hK |-
    try simp only[World.grow_grow] at hK |-
    exact zw
   case o1 =>
    intro x w1 hH K hK
    have e12:x 12=_:=hH.g 0 12
    obtain ⟨xs,d,rfl⟩:=aA hH.below
    clear hH
    try simp only[World.aB] at hK |-
    try simp only[World.grow_grow] at hK |-
    simp only[e12] at hK |-
    clear e12
    exact zw
   case o2 =>
    intro x w1 hH K hK
    have e13:x 13=_:=hH.g 1 13
    obtain ⟨xs,d,rfl⟩:=aA hH.below
    clear hH
    try simp only[World.aB] at hK |-
    try simp only[World.grow_grow] at hK |-
    simp only[e13] at hK |-
    clear e13
    exact zw
   case o3 =>
    intro x w1 hH K hK
    have e14:x 14=_:=hH.g 2 14
    obtain ⟨xs,d,rfl⟩:=aA hH.below
    clear hH
    try simp only[World.aB] at hK |-
    try simp only[World.grow_grow] at hK |-
    simp only[e14] at hK |-
    clear e14
    exact zw
   case o4 =>
    intro x w1 hH K hK
    have e14:x 14=_:=hH.g 2 14
    have e15:x 15=_:=hH.g 3 15
    obtain ⟨xs,d,rfl⟩:=aA hH.below
    clear hH
    try simp only[World.aB] at hK |-
    try simp only[World.grow_grow] at hK |-
    simp only[e14,e15] at hK |-
    clear e14 e15
    exact zw
   case o5 =>
    intro x w1 hH K hK
    have e14:x 14=_:=hH.g 2 14
    have e16:x 16=_:=hH.g 4 16
    obtain ⟨xs,d,rfl⟩:=aA hH.below
    clear hH
    try simp only[World.aB] at hK |-
    try simp only[World.grow_grow] at hK |-
    simp only[e14,e16] at hK |-
    clear e14 e16
    exact zw
   case o6 =>
    intro x w1 hH K hK
    have e14:x 14=_:=hH.g 2 14
    have e17:x 17=_:=hH.g 5 17
    obtain ⟨xs,d,rfl⟩:=aA hH.below
    clear hH
    try simp only[World.aB] at hK |-
    try simp only[World.grow_grow] at hK |-
    simp only[e14,e17] at hK |-
    clear e14 e17
    exact zw
   case o7 =>
    intro x w1 hH K hK
    have e14:x 14=_:=hH.g 2 14
    obtain ⟨xs,d,rfl⟩:=aA hH.below
    clear hH
    try simp only[World.aB] at hK |-
    try simp only[World.grow_grow] at hK |-
    simp only[e14] at hK |-
    clear e14
    exact zw
   case o8 =>
    intro x w1 hH K hK
    have e14:x 14=_:=hH.g 2 14
    have e18:x 18=_:=hH.g 6 18
    have e19:x 19=_:=hH.g 7 19
    obtain ⟨xs,d,rfl⟩:=aA hH.below
    clear hH
    try simp only[World.aB] at hK |-
    try simp only[World.grow_grow] at hK |-
    simp only[e14,e18,e19] at hK |-
    clear e14 e18 e19
    exact zw
   case o9 =>
    intro x w1 hH K hK
    have e14:x 14=_:=hH.g 2 14
    have e20:x 20=_:=hH.g 8 20
    obtain ⟨xs,d,rfl⟩:=aA hH.below
    clear hH
    try simp only[World.aB] at hK |-
    try simp only[World.grow_grow] at hK |-
    simp only[e14,e20] at hK |-
    clear e14 e20
    exact zw
  intro x w1 hH
  have e12:x 12=_:=hH.t 0 12
  have e13:x 13=_:=hH.t 1 13
  have e14:x 14=_:=hH.t 2 14
  have e15:x 15=_:=hH.t 3 15
  have e16:x 16=_:=hH.t 4 16
  have e17:x 17=_:=hH.t 5 17
  have e18:x 18=_:=hH.t 6 18
  have e19:x 19=_:=hH.t 7 19
  have e20:x 20=_:=hH.t 8 20
  have e21:x 21=_:=hH.t 9 21
  obtain ⟨xs,d,rfl⟩:=aA hH.below
  clear hH
  simp only[e12,e13,e14,e15,e16,e17,e18,e19,e20,e21];clear e12 e13 e14 e15 e16 e17 e18 e19 e20 e21
  simp only[List.drop_succ_cons,List.drop_nil]
  go_wp2_with fail
  go_ret
  exact ⟨rfl,hb.trans ((show Below W.heap.size W _ from blw).mono hb.size)⟩
theorem aGv (k:K25) (t:Nat) (R:Option (CT K25)) (n:Int) (w:World) (h:jI w t R n):Gives Tryz.prog 105 #[.pointer (some ⟨t,0,none⟩),.agg (aJ k.val)] w (.tuple #[aBk (mD R k),.bool (mD R k).isSome]):=by
 have hlt:=lt_of_heap h.1
 have hne:∀ W,Below w.heap.size w W->Gives Tryz.prog 106 #[.pointer (some ⟨t,0,none⟩),.agg (aJ k.val)] W (aBk (vU R k)):=fun W hb=>aBD k t R n W (h.keep hb)
 have hcase:(vU R k=none/\mD R k=none) \/ ∃ a c,vU R k=some a/\mD R k=some c/\w.cell? ⟨a,51,none⟩=some (pt c)/\a<w.heap.size:=by
  cases R with
  | none=>exact .inl ⟨rfl,rfl⟩
  | some T =>
   have hx:=(h.2 T rfl).1.leaf _ (jM k.val T)
   unfold vU mD
   simp only[Option.bind_some]
   by_cases he:(T.near k.val).2.1=k
   ·rw[if_pos he,if_pos he]
    exact .inr ⟨_,_,rfl,rfl,(hx.cells (K25.len _) (K25.len _)).2.1,lt_of_heap hx⟩
   rw[if_neg he,if_neg he];exact .inl ⟨rfl,rfl⟩
 clear h
 rcases hcase with ⟨h1,h2⟩ | ⟨a,c,h1,h2,h3,h4⟩
 ·rw[h1] at hne
  rw[h2]
  simp only[aBk,Option.isSome_none] at *
  have HN:=Lib.hid hne
  clear hne h1 h2
  unfold Gives
  go_enter Tryz.func105,Tryz.ntmps105
  go_wp2_with fail
  refine Gives.use (HN.out _ blw) ?_
  intro xs1 d1
  go_wp2_with fail
  exact bodyPost_ret (v := .tuple #[.pointer none,.bool false]) (by simp[results,Tryz.results105,go_sem]) rfl ⟨rfl,blw⟩
 rw[h1] at hne
 rw[h2]
 simp only[aBk,Option.isSome_some,pt] at *
 have HN:=Lib.hid hne
 clear hne h1 h2
 unfold Gives
 go_enter Tryz.func105,Tryz.ntmps105
 go_wp2_with fail
 refine Gives.use (HN.out _ blw) ?_
 intro xs1 d1
 go_wp2_with fail
 exact bodyPost_ret (v := .tuple #[.pointer (some ⟨c,0,none⟩),.bool true]) (by simp[results,Tryz.results105,go_sem]) rfl ⟨rfl,blw⟩
def wW (w:World) (s t:Nat) (last live:Int):Prop:=w.heap[s]? = some (.cells #[pt t,.int .u64 last,.int .i64 live] 177)
theorem aDd (k:K25) (s t:Nat) (last live:Int) (R:Option (CT K25)) (n:Int) (w:World) (hs:wW w s t last live) (h:jI w t R n):Gives Tryz.prog 69 #[.pointer (some ⟨s,0,none⟩),.agg (aJ k.val)] w (aBk (mD R k)):=by
 have hlt:=lt_of_heap h.1
 have hls:=lt_of_heap hs
 have hc:w.cell? ⟨s,0,none⟩=some (.pointer (some ⟨t,0,none⟩)):=by unfold wW at hs;simp[World.cell?,hs,pt]
 have hne:∀ W,Below w.heap.size w W->Gives Tryz.prog 105 #[.pointer (some ⟨t,0,none⟩),.agg (aJ k.val)] W (.tuple #[aBk (mD R k),.bool (mD R k).isSome]):=fun W hb=>aGv k t R n W (h.keep hb)
 have HN:=Lib.hid hne
 clear hne h hs
 generalize aBk (mD R k)=p at *
 generalize (mD R k).isSome=q at *
 unfold Gives
 go_enter Tryz.func69,Tryz.ntmps69
 go_wp2_with fail
 apply aG (by rfl) [.val _,.val _,.val _,.val _,.val _,.val _,.val _,.val _,.pure _] 9 (by rfl) [10,11,12,13,14,15,9,16,17] [] [8] (by rfl) (by rfl) (by decide) (by decide +kernel) (fun _ _ _ _ _ h=>h)
 case hF=>intro x;simp only[over,List.foldl_cons,List.foldl_nil,List.setIfInBounds_toArray,List.set_cons_succ,List.set_cons_zero];exact rfl
 case hops =>
  refine ⟨?o0,?o1,?o2,?o3,?o4,?o5,?o6,?o7,?o8,trivial⟩
  case o0 =>
   intro x w1 hH K hK
   obtain ⟨xs,d,rfl⟩:=aA hH.below
   clear hH
   try simp only[World.aB] at hK |-
   try simp only[World.grow_grow] at hK |-
   exact zw
  case o1 =>
   intro x w1 hH K hK
   have e10:x 10=_:=hH.g 0 10
   obtain ⟨xs,d,rfl⟩:=aA hH.below
   clear hH
   try simp only[World.aB] at hK |-
   try simp only[World.grow_grow] at hK |-
   simp only[e10] at hK |-
   clear e10
   exact zw
  case o2 =>
   intro x w1 hH K hK
   have e11:x 11=_:=hH.g 1 11
   obtain ⟨xs,d,rfl⟩:=aA hH.below
   clear hH
   try simp only[World.aB] at hK |-
   try simp only[World.grow_grow] at hK |-
   simp only[e11] at hK |-
   clear e11
   exact zw
  case o3 =>
   intro x w1 hH K hK
   have e12:x 12=_:=hH.g 2 12
   obtain ⟨xs,d,rfl⟩:=aA hH.below
   clear hH
   try simp only[World.aB] at hK |-
   try simp only[World.grow_grow] at hK |-
   simp only[e12] at hK |-
   clear e12
   exact zw
  case o4 =>
   intro x w1 hH K hK
   obtain ⟨xs,d,rfl⟩:=aA hH.below
   clear hH
   try simp only[World.aB] at hK |-
   try simp only[World.grow_grow] at hK |-
   exact zw
  case o5 =>
   intro x w1 hH K hK
   have e13:x 13=_:=hH.g 3 13
   have e14:x 14=_:=hH.g 4 14
   obtain ⟨xs,d,rfl⟩:=aA hH.below
   clear hH
   try simp only[World.aB] at hK |-
   try simp only[World.grow_grow] at hK |-
   simp only[e13,e14] at hK |-
   clear e13 e14
   go_simp
   go_wp2_with fail
   have hbx:Below w.heap.size w ((w.alloc (.cells (aJ k.val) 132)).grow xs d):=((Below.refl _ w).alloc (Nat.le_refl _) _).grow (by simp) _ _
   refine Gives.use (HN.out _ hbx) ?_
   intro ys e
   go_wp2_with fail
   exact ⟨_,rfl,rfl,oD _ _ _ _,fun h=>by cases h⟩
  case o6 =>
   intro x w1 hH K hK
   have e15:x 15=_:=hH.g 5 15
   obtain ⟨xs,d,rfl⟩:=aA hH.below
   clear hH
   try simp only[World.aB] at hK |-
   try simp only[World.grow_grow] at hK |-
   simp only[e15] at hK |-
   clear e15
   exact zw
  case o7 =>
   intro x w1 hH K hK
   have e9:x 9=_:=hH.g 6 9
   obtain ⟨xs,d,rfl⟩:=aA hH.below
   clear hH
   try simp only[World.aB] at hK |-
   try simp only[World.grow_grow] at hK |-
   simp only[e9] at hK |-
   clear e9
   exact zw
  case o8 =>
   intro x w1 hH
   have e9:x 9=_:=hH.g 6 9
   clear hH
   simp only[e9]
   exact Or.inl ⟨rfl,fun _=>rfl⟩
 intro x w1 hH
 have e10:x 10=_:=hH.t 0 10
 have e11:x 11=_:=hH.t 1 11
 have e12:x 12=_:=hH.t 2 12
 have e13:x 13=_:=hH.t 3 13
 have e14:x 14=_:=hH.t 4 14
 have e15:x 15=_:=hH.t 5 15
 have e9:x 9=_:=hH.t 6 9
 have e16:x 16=_:=hH.t 7 16
 have e17:x 17=_:=hH.t 8 17
 obtain ⟨xs,d,rfl⟩:=aA hH.below
 clear hH
 simp only[e10,e11,e12,e13,e14,e15,e9,e16,e17];clear e10 e11 e12 e13 e14 e15 e9 e16 e17
 simp only[List.drop_succ_cons,List.drop_zero]
 go_wp2_with fail
 go_ret
 exact ⟨rfl,blw⟩
def aAr (x:Nat):Nat->Int
 | 0 => -1
 | n+1=>if x.testBit n then n else aAr x n
theorem wR (x:Nat):∀ n:Nat, -1<=aAr x n/\aAr x n<n
 | 0=>by unfold aAr;omega
 | n+1=>by
  have:=wR x n
  unfold aAr
  split
  all_goals omega
theorem aDS {x:Nat}:∀ {n t:Nat},aAr x n=t->x.testBit t=true /\ ∀ i,t<i->i<n->x.testBit i=false
 | 0,t,h=>by simp[aAr] at h
 | n+1,t,h=>by
  unfold aAr at h
  split at h
  ·rename_i hb
   obtain rfl:n=t:=by omega
   exact ⟨hb,fun i h1 h2=>by omega⟩
  ·rename_i hb
   obtain ⟨h1,h2⟩:=aDS h
   refine ⟨h1,fun i hi hn => ?_⟩
   by_cases e:i=n
   ·subst e;simpa using hb
   ·exact h2 i hi (by omega)
theorem aDR {x:Nat}:∀ {n:Nat},aAr x n = -1 -> ∀ i,i<n->x.testBit i=false
 | 0,_,i,hi=>by omega
 | n+1,h,i,hi=>by
  unfold aAr at h
  split at h
  ·omega
  ·rename_i hb
   by_cases e:i=n
   ·subst e;simpa using hb
   ·exact aDR h i (by omega)
theorem and_one_u64 (y:Nat) (hy:y<2 ^ 64):bits BinOp.and IntKind.u64 (y:Int) 1=((y % 2:Nat):Int):=by
 have h:=(bits_nat .u64 64 (by decide) (fun n h0 h1=>by simp[IntKind.wrap,IntKind.bits,IntKind.signed];omega) y 1 hy (by decide)).1
 rw[Nat.and_one_is_mod] at h
 exact h
theorem aKk (x i:Nat) (hx:x<2 ^ 64):(bits BinOp.and IntKind.u64 ((x:Int) / 2 ^ i) 1 == 1)=x.testBit i:=by
 have e:(x:Int) / 2 ^ i=((x / 2 ^ i:Nat):Int):=by rw[Int.natCast_ediv];simp
 rw[e,and_one_u64 _ (Nat.lt_of_le_of_lt (Nat.div_le_self _ _) hx),Nat.testBit_eq_decide_div_mod_eq]
 rw[Bool.eq_iff_iff]
 simp
 omega
theorem aMt (a b:UInt8):bits BinOp.xor IntKind.u8 (a.toNat:Int) (b.toNat:Int)=((a.toNat ^^^ b.toNat:Nat):Int):=by
 have ha:=a.toNat_lt
 have hb:=b.toNat_lt
 have hx:a.toNat ^^^ b.toNat<2 ^ 8:=Nat.xor_lt_two_pow ha hb
 simp only[bits,BitVec.ofInt_natCast,BitVec.toNat_xor,BitVec.toNat_ofNat,show IntKind.u8.bits=8 from rfl,Nat.mod_eq_of_lt ha,Nat.mod_eq_of_lt hb]
 exact wraps_u8 _ (Int.natCast_nonneg _) (by exact_mod_cast hx)
theorem aHh (x:Nat) (hx:x<2 ^ 64) (w:World):Gives Tryz.prog 136 #[.int .u64 x] w (.int .i64 (aAr x 64)):=by
 have HT:=Lib.hid (aKk x · hx)
 unfold Gives
 go_enter Tryz.func136,Tryz.ntmps136
 go_wp2_with fail
 go_loopw [3,5] (fun s3 s5 wr => ∃ i:Nat,i<=64/\s3 = .int .i64 (aAr x i)/\s5 = .int .i64 (i:Int)/\wr=w) (fun _ s5 _=>64 - (intOf s5).toNat)
 case atStart=>exact ⟨0,by omega,rfl,rfl,rfl⟩
 obtain ⟨i,hi,rfl,rfl,rfl⟩:=hrel
 obtain ⟨h1,h2⟩:=wR x i
 obtain ⟨t,ht⟩:∃ t,t=aAr x i:=⟨_,rfl⟩
 by_cases hlt:i<64
 ·have hb:=HT.out i
  by_cases hx:x.testBit i=true
  ·have ht2:aAr x (i+1)=i:=by unfold aAr;rw[if_pos hx]
   rw[hx] at hb
   rw[<-ht]
   clear HT hx ht
   go_wp2_with fail
   exact ⟨⟨i+1,by omega,by rw[ht2],by simp,trivial⟩,by simp[intOf];omega⟩
  have ht2:aAr x (i+1)=t:=by unfold aAr;rw[if_neg hx];exact ht.symm
  rw[Bool.not_eq_true] at hx
  rw[hx] at hb
  rw[<-ht]
  clear HT hx ht
  go_wp2_with fail
  exact ⟨⟨i+1,by omega,by rw[ht2],by simp,trivial⟩,by simp[intOf];omega⟩
 obtain rfl:i=64:=by omega
 go_wp2_with fail
 go_ret
 exact ⟨rfl,blw⟩
def gX (a b:List UInt8) (d:Nat):Prop:=d<200/\Alike d a b/\rE a d≠rE b d
theorem gX.once {a b:List UInt8} {d e:Nat} (h:gX a b d) (h':gX a b e):d=e:=by
 rcases Nat.lt_trichotomy d e with hlt | rfl | hlt
 ·exact absurd (h'.2.1 d hlt) h.2.2
 ·rfl
 exact absurd (h.2.1 e hlt) h'.2.2
open Classical in
noncomputable def aDf (a b:List UInt8):Nat:=if h:∃ d,gX a b d then Classical.choose h else 0
theorem aE3 {a b:List UInt8} {d:Nat} (h:gX a b d):aDf a b=d:=by
 have hex:∃ d,gX a b d:=⟨d,h⟩
 unfold aDf
 rw[dif_pos hex]
 exact (Classical.choose_spec hex).once h
theorem uG (b:List UInt8) (i:Nat):rE b i=(byt b (i / 8)).toNat.testBit (7 - i % 8):=by
 rw[Nat.testBit_eq_decide_div_mod_eq];rfl
theorem aB2 {x:Nat} (hx:x<256) (h0:x≠0):∃ t:Nat,aAr x 64=t/\t<8/\x.testBit t=true /\ ∀ i,t<i->x.testBit i=false:=by
 have hr:=wR x 64
 have hbig:∀ i,8<=i->x.testBit i=false:=fun i hi=>Nat.testBit_lt_two_pow (Nat.lt_of_lt_of_le hx (Nat.pow_le_pow_right (by decide) hi:2 ^ 8<=2 ^ i))
 by_cases hn:aAr x 64 = -1
 ·exfalso
  apply h0
  apply Nat.eq_of_testBit_eq
  intro i
  rw[Nat.zero_testBit]
  by_cases h:i<64
  ·exact aDR hn i h
  exact hbig i (by omega)
 obtain ⟨t,ht⟩:∃ t:Nat,aAr x 64=t:=⟨(aAr x 64).toNat,by omega⟩
 obtain ⟨h1,h2⟩:=aDS ht
 refine ⟨t,ht,?_,h1,fun i hi => ?_⟩
 ·rcases Nat.lt_or_ge t 8 with h | h
  ·exact h
  rw[hbig t h] at h1;cases h1
 by_cases h:i<64
 ·exact h2 i hi h
 exact hbig i (by omega)
theorem sH {a b:List UInt8} {i t:Nat} (hi:i<25) (he:∀ j,j<i->byt a j=byt b j) (ht8:t<8) (h1:((byt a i).toNat ^^^ (byt b i).toNat).testBit t=true) (h2:∀ j,t<j->((byt a i).toNat ^^^ (byt b i).toNat).testBit j=false):gX a b (8 * i+7 - t):=by
 have e1:(8 * i+7 - t) / 8=i:=by omega
 have e2:7 - (8 * i+7 - t) % 8=t:=by omega
 refine ⟨by omega,fun j hj => ?_,?_⟩
 ·rw[uG,uG]
  by_cases hq:j / 8<i
  ·rw[he _ hq]
  have hq2:j / 8=i:=by omega
  rw[hq2]
  have:=h2 (7 - j % 8) (by omega)
  rw[Nat.testBit_xor] at this
  simpa using this
 rw[uG,uG,e1,e2]
 rw[Nat.testBit_xor] at h1
 simpa using h1
theorem aE6 {a b:List UInt8}:∀ n,(∀ j,j<n->byt a j=byt b j) \/ ∃ i,i<n/\byt a i≠byt b i /\ ∀ j,j<i->byt a j=byt b j
 | 0 => .inl fun j hj=>by omega
 | n+1=>by
  rcases aE6 (a:=a) (b:=b) n with h | ⟨i,h1,h2,h3⟩
  ·by_cases he:byt a n=byt b n
   ·refine .inl fun j hj => ?_
    by_cases hj2:j=n
    ·rw[hj2];exact he
    ·exact h j (by omega)
   ·exact .inr ⟨n,by omega,he,h⟩
  ·exact .inr ⟨i,by omega,h2,h3⟩
theorem aC3 {a b:Nat} (h:a ^^^ b=0):a=b:=by
 have e:(a ^^^ b) ^^^ b=a:=by rw[Nat.xor_assoc,Nat.xor_self,Nat.xor_zero]
 rw[h,Nat.zero_xor] at e
 exact e.symm
theorem aAa {a b:List UInt8} (ha:a.length=25) (hb:b.length=25) (hne:a≠b):gX a b (aDf a b):=by
 rcases aE6 (a:=a) (b:=b) 25 with h | ⟨i,h1,h2,h3⟩
 ·exfalso
  apply hne
  apply List.ext_getElem (by omega)
  intro j h1 h2
  rw[bP h1,bP h2]
  exact h j (by omega)
 have hx0:(byt a i).toNat ^^^ (byt b i).toNat≠0:=fun h0=>h2 (UInt8.toNat_inj.1 (aC3 h0))
 have hxl:(byt a i).toNat ^^^ (byt b i).toNat<256:=Nat.xor_lt_two_pow (n:=8) (byt a i).toNat_lt (byt b i).toNat_lt
 obtain ⟨t,g1,g2,g3,g4⟩:=aB2 hxl hx0
 have:=sH h1 h3 g2 g3 g4
 rw[aE3 this];exact this
theorem aC1 (a b:List UInt8) (ha:a.length=25) (hb:b.length=25) (hne:a≠b) (w:World):Gives Tryz.prog 109 #[.agg (aJ a),.agg (aJ b)] w (.int .i64 (aDf a b)):=by
 have HT:=Lib.hid aHh
 have HNE:=Lib.hid hne
 clear hne
 unfold Gives
 go_enter Tryz.func109,Tryz.ntmps109
 go_wp2_with fail
 go_loopw [7] (fun s7 wr => ∃ i d:Nat,i<=25/\s7 = .int .i64 (i:Int)/\(∀ j,j<i->byt a j=byt b j)/\wr=((w.alloc (.cells (aJ a) 260)).alloc (.cells (aJ b) 260)).drewN d) (fun s7 _=>25 - (intOf s7).toNat)
 case atStart=>exact ⟨0,0,by omega,rfl,fun j hj=>by omega,rfl⟩
 obtain ⟨i,d,hi,rfl,hall,rfl⟩:=hrel
 by_cases hlt:i<25
 ·have ga:(aJ a)[i]? = some (.int .u8 ((byt a i).toNat:Int)):=lS a _ (by omega)
  have gb:(aJ b)[i]? = some (.int .u8 ((byt b i).toNat:Int)):=lS b _ (by omega)
  have hx:=aMt (byt a i) (byt b i)
  obtain ⟨x,hxe⟩:∃ x,x=(byt a i).toNat ^^^ (byt b i).toNat:=⟨_,rfl⟩
  have hxl:x<256:=by rw[hxe];exact Nat.xor_lt_two_pow (n:=8) (byt a i).toNat_lt (byt b i).toNat_lt
  rw[<-hxe] at hx
  have HALL:=Lib.hid hall
  have HX:=Lib.hid hxe
  clear hall hxe
  by_cases h0:x=0
  ·subst h0
   go_wp2_with fail
   go_quiet (fail)
   go_wp2_with fail
   refine ⟨⟨i+1,_,by omega,by simp,fun j hj => ?_,rfl⟩,by simp[intOf];omega⟩
   by_cases hj2:j<i
   ·exact HALL.out j hj2
   obtain rfl:j=i:=by omega
   exact UInt8.toNat_inj.1 (aC3 HX.out.symm)
  obtain ⟨t,h1,h2,h3,h4⟩:=aB2 hxl h0
  have hd:aDf a b=8 * i+7 - t:=aE3 (sH hlt HALL.out h2 (HX.out ▸ h3) (HX.out ▸ h4))
  have HD:=Lib.hid hd
  have HTT:=Lib.hid (HT.out x (by omega))
  rw[h1] at HTT
  clear h1 h3 h4 hd
  go_wp2_with fail
  go_quiet (fail)
  go_wp2_with fail
  refine Gives.use (HTT.out _) ?_
  intro xs e
  go_wp2_with fail
  go_ret
  refine ⟨congrArg Ending.returned (congrArg (Value.int IntKind.i64) (by rw[HD.out];omega)),blw⟩
 exfalso
 obtain rfl:i=25:=by omega
 apply HNE.out
 apply List.ext_getElem (by omega)
 intro j h1 h2
 rw[bP h1,bP h2]
 exact hall j (by omega)
structure Ver where
 at_:UInt64
 dead:Bool
 r:Rec
instance:DecidableEq Ver:=fun a b =>
 if h:a.at_=b.at_/\a.dead=b.dead/\a.r=b.r then .isTrue (by obtain ⟨h0,h1,h2⟩:=h;cases a;cases b;simp only at *;subst h0 h1 h2;rfl)
 else .isFalse (by rintro rfl;exact h ⟨rfl,rfl,rfl⟩)
def Ver.zero:Ver:=⟨0,false,Rec.zero⟩
def aMg (v:Ver):List Value := .int .u64 v.at_.toNat :: .bool v.dead :: xG v.r
def mV (v:Ver):Array Value:=(aMg v).toArray
@[go_sem,simp] theorem aDW (v:Ver):(mV v).size=11:=id rfl
@[go_sem] theorem aIj (v:Ver):bZ (mV v)=true:=dH (by intro x hx;rcases List.mem_cons.1 hx with rfl | hx;rfl;rcases List.mem_cons.1 hx with rfl | hx;rfl;exact uQ _ x hx)
@[go_sem] theorem aQg (v:Ver):(mV v)[0]? = some (.int .u64 v.at_.toNat):=id rfl
@[go_sem] theorem aMe (v:Ver):(mV v)[1]? = some (.bool v.dead):=id rfl
@[go_sem,simp] theorem aPh (v:Ver) (h:0<(mV v).size):(mV v)[0]'h = .int .u64 v.at_.toNat:=id rfl
@[go_sem,simp] theorem aPi (v:Ver) (h:1<(mV v).size):(mV v)[1]'h = .bool v.dead:=id rfl
@[go_sem] theorem aJK (v:Ver):(mV v).extract 2 11=bI v.r:=ext_list (xG v.r) [.int .u64 v.at_.toNat,.bool v.dead] 2 rfl
@[go_sem] theorem aOC (v:Ver):(mV v).extract 0 11=mV v:=by apply Array.extract_eq_self_of_le;simp
@[go_sem] theorem aOP:Tryz.prog.bJ 210=some 11:=by kernel_rfl
@[go_sem ↓ high] theorem aQN (a:Addr):loadVar 210 a=eX 210 a:=rfl
@[go_sem ↓ high] theorem aQe (a:Addr) (v:Value):storeVar 210 a v=bH 210 a v:=rfl
@[go_sem] theorem gY:Tryz.prog.bJ 101=some 9:=by kernel_rfl
@[go_sem ↓ high] theorem aQL (a:Addr):loadVar 101 a=eX 101 a:=rfl
@[go_sem ↓ high] theorem aQc (a:Addr) (v:Value):storeVar 101 a v=bH 101 a v:=rfl
@[go_sem] theorem aOM:(#[.int .u8 0,.int .u8 0,.int .u8 0,.int .u8 0,.int .u8 0,.bool false,.int .u32 0,.int .u64 0,.string { data := #[] }]:Array Value)=bI Rec.zero:=id rfl
theorem aI1:fQ Tryz.prog 101 aMW:=⟨by kernel_rfl,by kernel_rfl,gY⟩
@[go_sem ↓ high] theorem aQD (a b:Rec) (w:World):(Op.equalIn 10000 101 (.agg (bI a)) (.agg (bI b))).run Tryz.prog w = .ok (decide (a=b)) w :=
 lZ aI1 aKW (fun _ _=>aKX) a b w
def vM (w:World) (B c:Nat) (sv:Value) (vs:List Ver):Prop :=
 w.heap[c]? = some (.cells #[sv] 205)/\gU w B 11 210 sv (vs.map mV)
end Go.Proofs.YtcedmfnlkelhkaaGreatDoor
