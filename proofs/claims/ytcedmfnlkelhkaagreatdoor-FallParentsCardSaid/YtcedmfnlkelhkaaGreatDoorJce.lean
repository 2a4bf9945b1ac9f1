/- Layer 19 in plain Lean: a branch's chain, what is seen by its links. -/
import Derived.Test.YtcedmfnlkelhkaaGreatDoorJap
import Derived.Handy
namespace Go.Proofs.YtcedmfnlkelhkaaGreatDoor
set_option maxHeartbeats 40000000
open Go.RowKit

theorem aEf:∀ (n:Nat) (l:List Nat),l.Nodup->(∀ x∈l,x<n)->l.length<=n
 | 0, [],_,_=>Nat.le_refl _
 | 0,x :: l,_,h=>absurd (h x List.mem_cons_self) (Nat.not_lt_zero _)
 | n+1,l,hn,h=>by
  have ih:=aEf n (l.erase n) (hn.erase n) (fun x hx=>by
   have h1:=h x (List.mem_of_mem_erase hx)
   have h2:x≠n:=fun e=>by subst e;exact (hn.not_mem_erase) hx
   omega)
  have h3:l.length<=(l.erase n).length+1:=by
   rw[List.length_erase]
   split <;> omega
  omega
theorem aEZ (l:List UInt8) (h:l.Nodup):l.length<=256:=by
 have:=aEf 256 (l.map (·.toNat)) (List.pairwise_map.2 (h.imp fun hne e=>hne (UInt8.toNat_inj.1 e))) (fun x hx=>by
  obtain ⟨y,_,rfl⟩:=List.mem_map.1 hx
  exact y.toNat_lt)
 simpa using this
abbrev Lnk:=UInt8×UInt64
def qO:UInt64:=18446744073709551615
def iD (f:K25->List Ver) (T:UInt64) (b0:UInt8) (l:Lnk) (k:K25):Rec×Bool:=atV (f k) (if l.1=b0 then T else min l.2 T)
def dG (f:K25->List Ver) (T:UInt64) (p b0:UInt8):Nat->List UInt8->Lnk->List Lnk
 | 0,_,_ => []
 | n+1,met,l=>if l.1∈met then [] else
  if (iD f T b0 l (jH 4 p l.1)).2=false\/l.1=0 then [l] else l :: dG f T p b0 n (l.1 :: met) ((iD f T b0 l (jH 4 p l.1)).1.parent,(iD f T b0 l (jH 4 p l.1)).1.at_)
def aI4 (kd:Int) (p:UInt8) (l:Lnk) (n t:List UInt8) (h:n.length=12/\t.length=10):K25:=⟨keyOf kd p.toNat l.1.toNat n t,zQ _ _ _ _ _ h.1 h.2⟩
def mJ (f:K25->List Ver) (T:UInt64) (p b0:UInt8) (kd:Int) (n t:List UInt8) (h:n.length=12/\t.length=10):List Lnk->Option (UInt8×Rec)
 | []=>none
 | l :: r=>if gV kd p.toNat l.1.toNat n t=0 then
   (if (iD f T b0 l (aI4 kd p l n t h)).2=true then some (l.1,(iD f T b0 l (aI4 kd p l n t h)).1) else mJ f T p b0 kd n t h r) else none
def gB (f:K25->List Ver) (T:UInt64) (p b0:UInt8) (kd:Int) (n t:List UInt8) (h:n.length=12/\t.length=10):List Lnk->List (UInt8×Rec)
 | [] => []
 | l :: r=>if gV kd p.toNat l.1.toNat n t=0 then
   (if (iD f T b0 l (aI4 kd p l n t h)).2=true then (l.1,(iD f T b0 l (aI4 kd p l n t h)).1) :: gB f T p b0 kd n t h r else gB f T p b0 kd n t h r) else []
theorem wP (f:K25->List Ver) (T:UInt64) (p b0:UInt8) (kd:Int) (n t:List UInt8) (h:n.length=12/\t.length=10):∀ L:List Lnk,mJ f T p b0 kd n t h L=(gB f T p b0 kd n t h L).head?
 | []=>rfl
 | l :: r=>by
  unfold mJ gB
  rw[wP f T p b0 kd n t h r]
  split
  ·split <;> rfl
  ·rfl
def aCH (o:Option (UInt8×Rec)):Rec×UInt8×Bool:=match o with | some (b,r)=>(r,b,true) | none=>(Rec.zero,0,false)
def mM (s t:Option (UInt8×Rec)):UInt8×Rec×Bool :=
 match s,t with
 | some (_,s),some (_,t)=>if s.gone=true then (0,Rec.zero,false) else if t.rev=s.rev then (t.state,t,true) else (5,t,true)
 | _,_=>(0,Rec.zero,false)
end Go.Proofs.YtcedmfnlkelhkaaGreatDoor
namespace Go.Proofs.YtcedmfnlkelhkaaGreatDoor
set_option maxHeartbeats 40000000
set_option maxRecDepth 100000
open Go.RowKit

def aCE (s:Nat) (t:UInt64):Value := .iface 96 (.agg #[.pointer (some ⟨s,0,none⟩),.int .u64 t.toNat])
section
variable {w:World} {B s:Nat} {G:SG}
theorem aAn (h:aV w B s G) (hs:Short G 100000) (k:K25) (t:UInt64):Gives Tryz.prog 251 #[.agg #[.pointer (some ⟨s,0,none⟩),.int .u64 t.toNat],.agg (aJ k.val)] w (.tuple #[.agg (bI (atV (aQ G k) t).1),.bool (atV (aQ G k) t).2]):=by
 have HN:=Lib.hid (fun (W:World) (hb:Below w.heap.size w W)=>aAS (h.keep hb) hs k t)
 clear h hs
 generalize (atV (aQ G k) t).1=r at *
 generalize (atV (aQ G k) t).2=b at *
 generalize t.toNat=tn at *
 unfold Gives
 go_enter Tryz.func251,Tryz.ntmps251
 go_wp2_with fail
 refine Gives.use (HN.out _ blw) ?_
 intro xs1 d1
 go_wp2_with fail
 exact bodyPost_ret (v := .tuple #[.agg (bI r),.bool b]) (aH Tryz.results251 (aO.row rfl gY (by simp[go_sem])) (by simp[aO])) rfl ⟨rfl,blw⟩
end
def lM (l:Lnk):Array Value := #[.int .i64 (l.1.toNat:Int),.int .u64 (l.2.toNat:Int)]
@[simp] theorem aLx (l:Lnk):(lM l).size=2:=rfl
theorem aEh (l:Lnk):bZ (lM l)=true:=dH (by
 intro v hv
 simp at hv
 rcases hv with rfl | rfl <;> rfl)
theorem aBi (P:List Lnk):∀ x∈P.map lM,bZ x=true:=fun x hx=>by
 obtain ⟨l,_,rfl⟩:=List.mem_map.1 hx
 exact aEh l
theorem aHY:kE Tryz.prog 110 171 2 16:=⟨Tryz.underlying110,by kernel_rfl,by decide,by decide⟩
def aMi (s:Nat) (t:UInt64) (p:UInt8) (lv:Value) (r:Rec):List Value:=aCE s t :: .int .i64 (p.toNat:Int) :: lv :: xG r
def wS (s:Nat) (t:UInt64) (p:UInt8) (lv:Value) (r:Rec):Array Value:=(aMi s t p lv r).toArray
structure VAt (w:World) (vb s:Nat) (t:UInt64) (p:UInt8) (lv:Value) (P:List Lnk) (r:Rec):Prop where
 cells:w.heap[vb]? = some (.cells (wS s t p lv r) 168)
 sl:SlA w w.heap.size 2 lv (P.map lM)
section
variable {w w':World} {B vb s:Nat} {G:SG} {t:UInt64} {p:UInt8} {lv:Value} {P:List Lnk} {r:Rec}
theorem VAt.lt (h:VAt w vb s t p lv P r):vb<w.heap.size:=(Array.getElem?_eq_some_iff.1 h.cells).1
theorem VAt.up (h:VAt w vb s t p lv P r) (hb:Below w.heap.size w w'):VAt w' vb s t p lv P r:=⟨(hb.block _ h.lt).trans h.cells,(h.sl.below hb).more hb.size⟩
theorem VAt.parts (h:VAt w vb s t p lv P r):w.cell? ⟨vb,0,none⟩=some (aCE s t)/\w.cell? ⟨vb,1,none⟩=some (.int .i64 (p.toNat:Int))/\w.cell? ⟨vb,2,none⟩=some lv :=
 ⟨(aF h.cells 0).1.trans rfl,(aF h.cells 1).1.trans rfl,(aF h.cells 2).1.trans rfl⟩
def oJ:List Lnk->Lnk->Bool
 | [],_=>true
 | x :: _,l=>((l.1.toNat:Int) == (x.1.toNat:Int))
theorem zG (x l:Lnk) (P:List Lnk):oJ (x :: P) l=decide (l.1=x.1):=by
 unfold oJ
 rw[Bool.eq_iff_iff]
 simp only[beq_iff_eq,decide_eq_true_eq]
 exact ⟨fun h=>UInt8.toNat_inj.1 (by omega),fun h=>by rw[h]⟩
theorem aDX (h:VAt w vb s t p lv P r) (l:Lnk):Gives Tryz.prog 88 #[.pointer (some ⟨vb,0,none⟩),.agg #[.int .i64 (l.1.toNat:Int),.int .u64 (l.2.toNat:Int)]] w (.bool (oJ P l)):=by
 obtain ⟨_,_,k2⟩:=h.parts
 have hlt:=h.lt
 obtain ⟨_,a,cap,rfl,hcl,hcm,hc⟩:=h.sl
 obtain ⟨lb,lt⟩:=l
 cases P with
 | nil =>
  simp only[List.map_nil,List.length_nil] at k2
  clear hc hcl h
  unfold Gives oJ
  go_enter Tryz.func88,Tryz.ntmps88
  go_wp2_with fail
  apply aG (by rfl) [.val _,.val _,.val _,.val _,.val _,.val _,.val _,.val _,.val _,.val _,.val _,.val _,.val _,.val _,.val _,.val _,.val _,.val _] 18 (by rfl) [5,6,7,8,9,10,11,12,13,14,15,16,17,18,19,20,21,22] [] [] (by rfl) (by rfl) (by decide) (by decide +kernel) (fun _ _ _ _ _ h=>h)
  case hF=>intro x;simp only[over,List.foldl_cons,List.foldl_nil,List.setIfInBounds_toArray,List.set_cons_succ,List.set_cons_zero];exact rfl
  case hops =>
   refine ⟨?o0,?o1,?o2,?o3,?o4,?o5,?o6,?o7,?o8,?o9,?o10,?o11,?o12,?o13,?o14,?o15,?o16,?o17,trivial⟩
   case o0 =>
    intro x w1 hH K hK
    obtain ⟨xs,d,rfl⟩:=aA hH.below
    clear hH
    try simp only[World.aB] at hK |-
    try simp only[World.grow_grow] at hK |-
    exact zx
   case o1 =>
    intro x w1 hH K hK
    have e5:x 5=_:=hH.g 0 5
    obtain ⟨xs,d,rfl⟩:=aA hH.below
    clear hH
    try simp only[World.aB] at hK |-
    try simp only[World.grow_grow] at hK |-
    simp only[e5] at hK |-
    clear e5
    exact zx
   case o2 =>
    intro x w1 hH K hK
    have e6:x 6=_:=hH.g 1 6
    obtain ⟨xs,d,rfl⟩:=aA hH.below
    clear hH
    try simp only[World.aB] at hK |-
    try simp only[World.grow_grow] at hK |-
    simp only[e6] at hK |-
    clear e6
    exact zx
   case o3 =>
    intro x w1 hH K hK
    have e7:x 7=_:=hH.g 2 7
    obtain ⟨xs,d,rfl⟩:=aA hH.below
    clear hH
    try simp only[World.aB] at hK |-
    try simp only[World.grow_grow] at hK |-
    simp only[e7] at hK |-
    clear e7
    exact zx
   case o4 =>
    intro x w1 hH K hK
    have e8:x 8=_:=hH.g 3 8
    obtain ⟨xs,d,rfl⟩:=aA hH.below
    clear hH
    try simp only[World.aB] at hK |-
    try simp only[World.grow_grow] at hK |-
    simp only[e8] at hK |-
    clear e8
    exact zx
   case o5 =>
    intro x w1 hH K hK
    have e9:x 9=_:=hH.g 4 9
    obtain ⟨xs,d,rfl⟩:=aA hH.below
    clear hH
    try simp only[World.aB] at hK |-
    try simp only[World.grow_grow] at hK |-
    simp only[e9] at hK |-
    clear e9
    exact zx
   case o6 =>
    intro x w1 hH K hK
    have e10:x 10=_:=hH.g 5 10
    obtain ⟨xs,d,rfl⟩:=aA hH.below
    clear hH
    try simp only[World.aB] at hK |-
    try simp only[World.grow_grow] at hK |-
    simp only[e10] at hK |-
    clear e10
    exact zx
   case o7 =>
    intro x w1 hH K hK
    have e11:x 11=_:=hH.g 6 11
    obtain ⟨xs,d,rfl⟩:=aA hH.below
    clear hH
    try simp only[World.aB] at hK |-
    try simp only[World.grow_grow] at hK |-
    simp only[e11] at hK |-
    clear e11
    exact zx
   case o8 =>
    intro x w1 hH K hK
    have e11:x 11=_:=hH.g 6 11
    have e12:x 12=_:=hH.g 7 12
    obtain ⟨xs,d,rfl⟩:=aA hH.below
    clear hH
    try simp only[World.aB] at hK |-
    try simp only[World.grow_grow] at hK |-
    simp only[e11,e12] at hK |-
    clear e11 e12
    exact zx
   case o9 =>
    intro x w1 hH K hK
    have e11:x 11=_:=hH.g 6 11
    obtain ⟨xs,d,rfl⟩:=aA hH.below
    clear hH
    try simp only[World.aB] at hK |-
    try simp only[World.grow_grow] at hK |-
    simp only[e11] at hK |-
    clear e11
    exact zx
   case o10 =>
    intro x w1 hH K hK
    have e11:x 11=_:=hH.g 6 11
    have e14:x 14=_:=hH.g 9 14
    obtain ⟨xs,d,rfl⟩:=aA hH.below
    clear hH
    try simp only[World.aB] at hK |-
    try simp only[World.grow_grow] at hK |-
    simp only[e11,e14] at hK |-
    clear e11 e14
    exact zx
   case o11 =>
    intro x w1 hH K hK
    have e11:x 11=_:=hH.g 6 11
    have e15:x 15=_:=hH.g 10 15
    obtain ⟨xs,d,rfl⟩:=aA hH.below
    clear hH
    try simp only[World.aB] at hK |-
    try simp only[World.grow_grow] at hK |-
    simp only[e11,e15] at hK |-
    clear e11 e15
    exact zx
   case o12 =>
    intro x w1 hH K hK
    have e11:x 11=_:=hH.g 6 11
    have e16:x 16=_:=hH.g 11 16
    obtain ⟨xs,d,rfl⟩:=aA hH.below
    clear hH
    try simp only[World.aB] at hK |-
    try simp only[World.grow_grow] at hK |-
    simp only[e11,e16] at hK |-
    clear e11 e16
    exact zx
   case o13 =>
    intro x w1 hH K hK
    have e11:x 11=_:=hH.g 6 11
    have e17:x 17=_:=hH.g 12 17
    obtain ⟨xs,d,rfl⟩:=aA hH.below
    clear hH
    try simp only[World.aB] at hK |-
    try simp only[World.grow_grow] at hK |-
    simp only[e11,e17] at hK |-
    clear e11 e17
    exact zx
   case o14 =>
    intro x w1 hH K hK
    have e11:x 11=_:=hH.g 6 11
    have e18:x 18=_:=hH.g 13 18
    obtain ⟨xs,d,rfl⟩:=aA hH.below
    clear hH
    try simp only[World.aB] at hK |-
    try simp only[World.grow_grow] at hK |-
    simp only[e11,e18] at hK |-
    clear e11 e18
    exact zx
   case o15 =>
    intro x w1 hH K hK
    have e11:x 11=_:=hH.g 6 11
    have e19:x 19=_:=hH.g 14 19
    obtain ⟨xs,d,rfl⟩:=aA hH.below
    clear hH
    try simp only[World.aB] at hK |-
    try simp only[World.grow_grow] at hK |-
    simp only[e11,e19] at hK |-
    clear e11 e19
    exact zx
   case o16 =>
    intro x w1 hH K hK
    have e11:x 11=_:=hH.g 6 11
    have e13:x 13=_:=hH.g 8 13
    have e20:x 20=_:=hH.g 15 20
    obtain ⟨xs,d,rfl⟩:=aA hH.below
    clear hH
    try simp only[World.aB] at hK |-
    try simp only[World.grow_grow] at hK |-
    simp only[e11,e13,e20] at hK |-
    clear e11 e13 e20
    exact zx
   case o17 =>
    intro x w1 hH K hK
    have e11:x 11=_:=hH.g 6 11
    have e21:x 21=_:=hH.g 16 21
    obtain ⟨xs,d,rfl⟩:=aA hH.below
    clear hH
    try simp only[World.aB] at hK |-
    try simp only[World.grow_grow] at hK |-
    simp only[e11,e21] at hK |-
    clear e11 e21
    exact zx
  intro x w1 hH
  have e5:x 5=_:=hH.t 0 5
  have e6:x 6=_:=hH.t 1 6
  have e7:x 7=_:=hH.t 2 7
  have e8:x 8=_:=hH.t 3 8
  have e9:x 9=_:=hH.t 4 9
  have e10:x 10=_:=hH.t 5 10
  have e11:x 11=_:=hH.t 6 11
  have e12:x 12=_:=hH.t 7 12
  have e13:x 13=_:=hH.t 8 13
  have e14:x 14=_:=hH.t 9 14
  have e15:x 15=_:=hH.t 10 15
  have e16:x 16=_:=hH.t 11 16
  have e17:x 17=_:=hH.t 12 17
  have e18:x 18=_:=hH.t 13 18
  have e19:x 19=_:=hH.t 14 19
  have e20:x 20=_:=hH.t 15 20
  have e21:x 21=_:=hH.t 16 21
  have e22:x 22=_:=hH.t 17 22
  obtain ⟨xs,d,rfl⟩:=aA hH.below
  clear hH
  simp only[e5,e6,e7,e8,e9,e10,e11,e12,e13,e14,e15,e16,e17,e18,e19,e20,e21,e22];clear e5 e6 e7 e8 e9 e10 e11 e12 e13 e14 e15 e16 e17 e18 e19 e20 e21 e22
  simp only[List.drop_succ_cons,List.drop_zero]
  go_wp2_with fail
  go_ret
  exact ⟨rfl,blw⟩
 | cons x P =>
  obtain ⟨b,o,rfl,hlb,hcut⟩:=hc (by simp)
  have hx:=hcut 0 (lM x) (by simp)
  rw[Nat.zero_mul,Nat.add_zero] at hx
  have c0:w.cell? ⟨b,o,none⟩=some (.int .i64 (x.1.toNat:Int)):=(dF hx).2 0 (by decide)
  have hn0:((((x :: P).map lM).length:Int) == 0)=false:=by rw[beq_eq_false_iff_ne,List.length_map,List.length_cons];omega
  have hn1:(0:Int)<(((x :: P).map lM).length:Int):=by rw[List.length_map,List.length_cons];omega
  generalize ((x :: P).map lM).length=n at *
  obtain ⟨q,hq⟩:∃ q,q=((lb.toNat:Int) == (x.1.toNat:Int)):=⟨_,rfl⟩
  have hq2:oJ (x :: P) (lb,lt)=q:=hq.symm
  rw[hq2]
  have HQ:=Lib.hid hq
  clear hc hcl h hcut hx hq hq2
  unfold Gives
  go_enter Tryz.func88,Tryz.ntmps88
  go_wp2_with fail
  apply aG (by rfl) [.val _,.val _,.val _,.val _,.val _,.val _,.val _,.val _,.val _,.val _,.val _,.val _,.val _,.val _,.val _,.val _,.val _,.val _] 18 (by rfl) [5,6,7,8,9,10,11,12,13,14,15,16,17,18,19,20,21,22] [] [] (by rfl) (by rfl) (by decide) (by decide +kernel) (fun _ _ _ _ _ h=>h)
  case hF=>intro x;simp only[over,List.foldl_cons,List.foldl_nil,List.setIfInBounds_toArray,List.set_cons_succ,List.set_cons_zero];exact rfl
  case hops =>
   refine ⟨?o0,?o1,?o2,?o3,?o4,?o5,?o6,?o7,?o8,?o9,?o10,?o11,?o12,?o13,?o14,?o15,?o16,?o17,trivial⟩
   case o0 =>
    intro x w1 hH K hK
    obtain ⟨xs,d,rfl⟩:=aA hH.below
    clear hH
    try simp only[World.aB] at hK |-
    try simp only[World.grow_grow] at hK |-
    exact zx
   case o1 =>
    intro x w1 hH K hK
    have e5:x 5=_:=hH.g 0 5
    obtain ⟨xs,d,rfl⟩:=aA hH.below
    clear hH
    try simp only[World.aB] at hK |-
    try simp only[World.grow_grow] at hK |-
    simp only[e5] at hK |-
    clear e5
    exact zx
   case o2 =>
    intro x w1 hH K hK
    have e6:x 6=_:=hH.g 1 6
    obtain ⟨xs,d,rfl⟩:=aA hH.below
    clear hH
    try simp only[World.aB] at hK |-
    try simp only[World.grow_grow] at hK |-
    simp only[e6] at hK |-
    clear e6
    exact zx
   case o3 =>
    intro x w1 hH K hK
    have e7:x 7=_:=hH.g 2 7
    obtain ⟨xs,d,rfl⟩:=aA hH.below
    clear hH
    try simp only[World.aB] at hK |-
    try simp only[World.grow_grow] at hK |-
    simp only[e7] at hK |-
    clear e7
    exact zx
   case o4 =>
    intro x w1 hH K hK
    have e8:x 8=_:=hH.g 3 8
    obtain ⟨xs,d,rfl⟩:=aA hH.below
    clear hH
    try simp only[World.aB] at hK |-
    try simp only[World.grow_grow] at hK |-
    simp only[e8] at hK |-
    clear e8
    exact zx
   case o5 =>
    intro x w1 hH K hK
    have e9:x 9=_:=hH.g 4 9
    obtain ⟨xs,d,rfl⟩:=aA hH.below
    clear hH
    try simp only[World.aB] at hK |-
    try simp only[World.grow_grow] at hK |-
    simp only[e9] at hK |-
    clear e9
    exact zx
   case o6 =>
    intro x w1 hH K hK
    have e10:x 10=_:=hH.g 5 10
    obtain ⟨xs,d,rfl⟩:=aA hH.below
    clear hH
    try simp only[World.aB] at hK |-
    try simp only[World.grow_grow] at hK |-
    simp only[e10] at hK |-
    clear e10
    exact zx
   case o7 =>
    intro x w1 hH K hK
    have e11:x 11=_:=hH.g 6 11
    obtain ⟨xs,d,rfl⟩:=aA hH.below
    clear hH
    try simp only[World.aB] at hK |-
    try simp only[World.grow_grow] at hK |-
    simp only[e11] at hK |-
    clear e11
    exact zx
   case o8 =>
    intro x w1 hH K hK
    have e11:x 11=_:=hH.g 6 11
    have e12:x 12=_:=hH.g 7 12
    obtain ⟨xs,d,rfl⟩:=aA hH.below
    clear hH
    try simp only[World.aB] at hK |-
    try simp only[World.grow_grow] at hK |-
    simp only[e11,e12] at hK |-
    clear e11 e12
    exact zx
   case o9 =>
    intro x w1 hH K hK
    have e11:x 11=_:=hH.g 6 11
    obtain ⟨xs,d,rfl⟩:=aA hH.below
    clear hH
    try simp only[World.aB] at hK |-
    try simp only[World.grow_grow] at hK |-
    simp only[e11] at hK |-
    clear e11
    exact zx
   case o10 =>
    intro x w1 hH K hK
    have e11:x 11=_:=hH.g 6 11
    have e14:x 14=_:=hH.g 9 14
    obtain ⟨xs,d,rfl⟩:=aA hH.below
    clear hH
    try simp only[World.aB] at hK |-
    try simp only[World.grow_grow] at hK |-
    simp only[e11,e14] at hK |-
    clear e11 e14
    exact zx
   case o11 =>
    intro x w1 hH K hK
    have e11:x 11=_:=hH.g 6 11
    have e15:x 15=_:=hH.g 10 15
    obtain ⟨xs,d,rfl⟩:=aA hH.below
    clear hH
    try simp only[World.aB] at hK |-
    try simp only[World.grow_grow] at hK |-
    simp only[e11,e15] at hK |-
    clear e11 e15
    exact zx
   case o12 =>
    intro x w1 hH K hK
    have e11:x 11=_:=hH.g 6 11
    have e16:x 16=_:=hH.g 11 16
    obtain ⟨xs,d,rfl⟩:=aA hH.below
    clear hH
    try simp only[World.aB] at hK |-
    try simp only[World.grow_grow] at hK |-
    simp only[e11,e16] at hK |-
    clear e11 e16
    exact zx
   case o13 =>
    intro x w1 hH K hK
    have e11:x 11=_:=hH.g 6 11
    have e17:x 17=_:=hH.g 12 17
    obtain ⟨xs,d,rfl⟩:=aA hH.below
    clear hH
    try simp only[World.aB] at hK |-
    try simp only[World.grow_grow] at hK |-
    simp only[e11,e17] at hK |-
    clear e11 e17
    exact zx
   case o14 =>
    intro x w1 hH K hK
    have e11:x 11=_:=hH.g 6 11
    have e18:x 18=_:=hH.g 13 18
    obtain ⟨xs,d,rfl⟩:=aA hH.below
    clear hH
    try simp only[World.aB] at hK |-
    try simp only[World.grow_grow] at hK |-
    simp only[e11,e18] at hK |-
    clear e11 e18
    exact zx
   case o15 =>
    intro x w1 hH K hK
    have e11:x 11=_:=hH.g 6 11
    have e19:x 19=_:=hH.g 14 19
    obtain ⟨xs,d,rfl⟩:=aA hH.below
    clear hH
    try simp only[World.aB] at hK |-
    try simp only[World.grow_grow] at hK |-
    simp only[e11,e19] at hK |-
    clear e11 e19
    exact zx
   case o16 =>
    intro x w1 hH K hK
    have e11:x 11=_:=hH.g 6 11
    have e13:x 13=_:=hH.g 8 13
    have e20:x 20=_:=hH.g 15 20
    obtain ⟨xs,d,rfl⟩:=aA hH.below
    clear hH
    try simp only[World.aB] at hK |-
    try simp only[World.grow_grow] at hK |-
    simp only[e11,e13,e20] at hK |-
    clear e11 e13 e20
    exact zx
   case o17 =>
    intro x w1 hH K hK
    have e11:x 11=_:=hH.g 6 11
    have e21:x 21=_:=hH.g 16 21
    obtain ⟨xs,d,rfl⟩:=aA hH.below
    clear hH
    try simp only[World.aB] at hK |-
    try simp only[World.grow_grow] at hK |-
    simp only[e11,e21] at hK |-
    clear e11 e21
    exact zx
  intro x w1 hH
  have e5:x 5=_:=hH.t 0 5
  have e6:x 6=_:=hH.t 1 6
  have e7:x 7=_:=hH.t 2 7
  have e8:x 8=_:=hH.t 3 8
  have e9:x 9=_:=hH.t 4 9
  have e10:x 10=_:=hH.t 5 10
  have e11:x 11=_:=hH.t 6 11
  have e12:x 12=_:=hH.t 7 12
  have e13:x 13=_:=hH.t 8 13
  have e14:x 14=_:=hH.t 9 14
  have e15:x 15=_:=hH.t 10 15
  have e16:x 16=_:=hH.t 11 16
  have e17:x 17=_:=hH.t 12 17
  have e18:x 18=_:=hH.t 13 18
  have e19:x 19=_:=hH.t 14 19
  have e20:x 20=_:=hH.t 15 20
  have e21:x 21=_:=hH.t 16 21
  have e22:x 22=_:=hH.t 17 22
  obtain ⟨xs,d,rfl⟩:=aA hH.below
  clear hH
  simp only[e5,e6,e7,e8,e9,e10,e11,e12,e13,e14,e15,e16,e17,e18,e19,e20,e21,e22];clear e5 e6 e7 e8 e9 e10 e11 e12 e13 e14 e15 e16 e17 e18 e19 e20 e21 e22
  simp only[List.drop_succ_cons,List.drop_zero]
  go_wp2_with fail
  go_ret
  exact ⟨congrArg (fun b=>Ending.returned (Value.bool b)) HQ.out.symm,blw⟩
theorem min_u64 (a b:UInt64):((min a b:UInt64).toNat:Int)=min (a.toNat:Int) (b.toNat:Int):=by
 have e:min a b=if a<=b then a else b:=rfl
 rw[e]
 split
 ·rename_i h
  rw[UInt64.le_iff_toNat_le] at h;omega
 rename_i h
 rw[UInt64.le_iff_toNat_le] at h;omega
theorem xW (h:aV w B s G) (hs:Short G 100000) (k:K25) (a t:UInt64):Gives Tryz.prog 252 #[.agg #[.pointer (some ⟨s,0,none⟩),.int .u64 (t.toNat:Int)],.agg (aJ k.val),.int .u64 (a.toNat:Int)] w (.tuple #[.agg (bI (atV (aQ G k) (min a t)).1),.bool (atV (aQ G k) (min a t)).2]):=by
 have hn:=fun (W:World) (hb:Below w.heap.size w W)=>aAS (h.keep hb) hs k (min a t)
 simp only[min_u64] at hn
 have HN:=Lib.hid hn
 clear h hs hn
 generalize (atV (aQ G k) (min a t)).1=r at *
 generalize (atV (aQ G k) (min a t)).2=b at *
 generalize t.toNat=tn at *
 generalize a.toNat=an at *
 unfold Gives
 go_enter Tryz.func252,Tryz.ntmps252
 go_wp2_with fail
 refine Gives.use (HN.out _ blw) ?_
 intro xs1 d1
 go_wp2_with fail
 exact bodyPost_ret (v := .tuple #[.agg (bI r),.bool b]) (aH Tryz.results252 (aO.row rfl gY (by simp[go_sem])) (by simp[aO])) rfl ⟨rfl,blw⟩
def rdV (G:SG) (t:UInt64) (fb:Bool) (l:Lnk) (k:K25):Rec×Bool:=atV (aQ G k) (if fb=true then t else min l.2 t)
theorem tV (hS:aV w B s G) (hs:Short G 100000) (h:VAt w vb s t p lv P r) (l:Lnk) (k:K25) :
  Gives Tryz.prog 53 #[.pointer (some ⟨vb,0,none⟩),.agg #[.int .i64 (l.1.toNat:Int),.int .u64 (l.2.toNat:Int)],.agg (aJ k.val)] w (.tuple #[.agg (bI (rdV G t (oJ P l) l k).1),.bool (rdV G t (oJ P l) l k).2]):=by
 have HF:=Lib.hid (fun (W:World) (hb:Below w.heap.size w W)=>aDX (h.up hb) l)
 have HR:=Lib.hid (fun (W:World) (hb:Below w.heap.size w W)=>aAn (hS.keep hb) hs k t)
 have HA:=Lib.hid (fun (W:World) (hb:Below w.heap.size w W)=>xW (hS.keep hb) hs k l.2 t)
 obtain ⟨k0,_,_⟩:=h.parts
 have hlt:=h.lt
 unfold aCE at k0
 unfold rdV
 obtain ⟨lb,la⟩:=l
 simp only at *
 generalize oJ P (lb,la)=fb at *
 clear h hS hs
 cases fb with
 | true =>
  simp only[if_true]
  generalize (atV (aQ G k) t).1=r1 at *
  generalize (atV (aQ G k) t).2=b1 at *
  generalize t.toNat=tn at *
  clear HA
  unfold Gives
  go_enter Tryz.func53,Tryz.ntmps53
  go_wp2_with fail
  refine Gives.use (HF.out _ blw) ?_
  intro xs0 d0
  go_wp2_with fail
  apply aG (by rfl) [.val _,.val _,.val _,.val _,.val _,.val _,.val _,.val _] 8 (by rfl) [11,12,13,14,15,16,17,18] [] [] (by rfl) (by rfl) (by decide) (by decide +kernel) (fun _ _ _ _ _ h=>h)
  case hF=>intro x;simp only[over,List.foldl_cons,List.foldl_nil,List.setIfInBounds_toArray,List.set_cons_succ,List.set_cons_zero];exact rfl
  case hops =>
   refine ⟨?o0,?o1,?o2,?o3,?o4,?o5,?o6,?o7,trivial⟩
   case o0 =>
    intro x w1 hH K hK
    obtain ⟨xs,d,rfl⟩:=aA hH.below
    clear hH
    try simp only[World.aB] at hK |-
    try simp only[World.grow_grow] at hK |-
    exact zx
   case o1 =>
    intro x w1 hH K hK
    have e11:x 11=_:=hH.g 0 11
    obtain ⟨xs,d,rfl⟩:=aA hH.below
    clear hH
    try simp only[World.aB] at hK |-
    try simp only[World.grow_grow] at hK |-
    simp only[e11] at hK |-
    clear e11
    exact zx
   case o2 =>
    intro x w1 hH K hK
    have e12:x 12=_:=hH.g 1 12
    obtain ⟨xs,d,rfl⟩:=aA hH.below
    clear hH
    try simp only[World.aB] at hK |-
    try simp only[World.grow_grow] at hK |-
    simp only[e12] at hK |-
    clear e12
    exact zx
   case o3 =>
    intro x w1 hH K hK
    have e13:x 13=_:=hH.g 2 13
    obtain ⟨xs,d,rfl⟩:=aA hH.below
    clear hH
    try simp only[World.aB] at hK |-
    try simp only[World.grow_grow] at hK |-
    simp only[e13] at hK |-
    clear e13
    exact zx
   case o4 =>
    intro x w1 hH K hK
    obtain ⟨xs,d,rfl⟩:=aA hH.below
    clear hH
    try simp only[World.aB] at hK |-
    try simp only[World.grow_grow] at hK |-
    exact zx
   case o5 =>
    intro x w1 hH K hK
    have e14:x 14=_:=hH.g 3 14
    have e15:x 15=_:=hH.g 4 15
    obtain ⟨xs,d,rfl⟩:=aA hH.below
    clear hH
    try simp only[World.aB] at hK |-
    try simp only[World.grow_grow] at hK |-
    simp only[e14,e15] at hK |-
    clear e14 e15
    go_simp
    go_wp2_with (refine Gives.use (HR.out _ blw) ?_;intro ys e)
    exact zu
   case o6 =>
    intro x w1 hH K hK
    have e16:x 16=_:=hH.g 5 16
    obtain ⟨xs,d,rfl⟩:=aA hH.below
    clear hH
    try simp only[World.aB] at hK |-
    try simp only[World.grow_grow] at hK |-
    simp only[e16] at hK |-
    clear e16
    exact zx
   case o7 =>
    intro x w1 hH K hK
    have e16:x 16=_:=hH.g 5 16
    obtain ⟨xs,d,rfl⟩:=aA hH.below
    clear hH
    try simp only[World.aB] at hK |-
    try simp only[World.grow_grow] at hK |-
    simp only[e16] at hK |-
    clear e16
    exact zx
  intro x w1 hH
  have e11:x 11=_:=hH.t 0 11
  have e12:x 12=_:=hH.t 1 12
  have e13:x 13=_:=hH.t 2 13
  have e14:x 14=_:=hH.t 3 14
  have e15:x 15=_:=hH.t 4 15
  have e16:x 16=_:=hH.t 5 16
  have e17:x 17=_:=hH.t 6 17
  have e18:x 18=_:=hH.t 7 18
  obtain ⟨xs,d,rfl⟩:=aA hH.below
  clear hH
  simp only[e11,e12,e13,e14,e15,e16,e17,e18];clear e11 e12 e13 e14 e15 e16 e17 e18
  simp only[List.drop_succ_cons,List.drop_zero]
  go_wp2_with fail
  exact bodyPost_ret (v := .tuple #[.agg (bI r1),.bool b1]) (aH Tryz.results53 (aO.row rfl gY (by simp[go_sem])) (by simp[aO])) rfl ⟨rfl,blw⟩
 | false =>
  simp only[Bool.false_eq_true,if_false]
  generalize (atV (aQ G k) (min la t)).1=r1 at *
  generalize (atV (aQ G k) (min la t)).2=b1 at *
  generalize t.toNat=tn at *
  clear HR
  unfold Gives
  go_enter Tryz.func53,Tryz.ntmps53
  go_wp2_with fail
  refine Gives.use (HF.out _ blw) ?_
  intro xs0 d0
  go_wp2_with fail
  apply aG (by rfl) [.val _,.val _,.val _,.val _,.val _,.val _,.val _,.val _,.val _,.val _] 10 (by rfl) [19,20,21,22,23,24,25,26,27,28] [] [] (by rfl) (by rfl) (by decide) (by decide +kernel) (fun _ _ _ _ _ h=>h)
  case hF=>intro x;simp only[over,List.foldl_cons,List.foldl_nil,List.setIfInBounds_toArray,List.set_cons_succ,List.set_cons_zero];exact rfl
  case hops =>
   refine ⟨?o0,?o1,?o2,?o3,?o4,?o5,?o6,?o7,?o8,?o9,trivial⟩
   case o0 =>
    intro x w1 hH K hK
    obtain ⟨xs,d,rfl⟩:=aA hH.below
    clear hH
    try simp only[World.aB] at hK |-
    try simp only[World.grow_grow] at hK |-
    exact zx
   case o1 =>
    intro x w1 hH K hK
    have e19:x 19=_:=hH.g 0 19
    obtain ⟨xs,d,rfl⟩:=aA hH.below
    clear hH
    try simp only[World.aB] at hK |-
    try simp only[World.grow_grow] at hK |-
    simp only[e19] at hK |-
    clear e19
    exact zx
   case o2 =>
    intro x w1 hH K hK
    have e20:x 20=_:=hH.g 1 20
    obtain ⟨xs,d,rfl⟩:=aA hH.below
    clear hH
    try simp only[World.aB] at hK |-
    try simp only[World.grow_grow] at hK |-
    simp only[e20] at hK |-
    clear e20
    exact zx
   case o3 =>
    intro x w1 hH K hK
    have e21:x 21=_:=hH.g 2 21
    obtain ⟨xs,d,rfl⟩:=aA hH.below
    clear hH
    try simp only[World.aB] at hK |-
    try simp only[World.grow_grow] at hK |-
    simp only[e21] at hK |-
    clear e21
    exact zx
   case o4 =>
    intro x w1 hH K hK
    obtain ⟨xs,d,rfl⟩:=aA hH.below
    clear hH
    try simp only[World.aB] at hK |-
    try simp only[World.grow_grow] at hK |-
    exact zx
   case o5 =>
    intro x w1 hH K hK
    obtain ⟨xs,d,rfl⟩:=aA hH.below
    clear hH
    try simp only[World.aB] at hK |-
    try simp only[World.grow_grow] at hK |-
    exact zx
   case o6 =>
    intro x w1 hH K hK
    have e24:x 24=_:=hH.g 5 24
    obtain ⟨xs,d,rfl⟩:=aA hH.below
    clear hH
    try simp only[World.aB] at hK |-
    try simp only[World.grow_grow] at hK |-
    simp only[e24] at hK |-
    clear e24
    exact zx
   case o7 =>
    intro x w1 hH K hK
    have e22:x 22=_:=hH.g 3 22
    have e23:x 23=_:=hH.g 4 23
    have e25:x 25=_:=hH.g 6 25
    obtain ⟨xs,d,rfl⟩:=aA hH.below
    clear hH
    try simp only[World.aB] at hK |-
    try simp only[World.grow_grow] at hK |-
    simp only[e22,e23,e25] at hK |-
    clear e22 e23 e25
    go_simp
    go_wp2_with (refine Gives.use (HA.out _ blw) ?_;intro ys e)
    exact zu
   case o8 =>
    intro x w1 hH K hK
    have e26:x 26=_:=hH.g 7 26
    obtain ⟨xs,d,rfl⟩:=aA hH.below
    clear hH
    try simp only[World.aB] at hK |-
    try simp only[World.grow_grow] at hK |-
    simp only[e26] at hK |-
    clear e26
    exact zx
   case o9 =>
    intro x w1 hH K hK
    have e26:x 26=_:=hH.g 7 26
    obtain ⟨xs,d,rfl⟩:=aA hH.below
    clear hH
    try simp only[World.aB] at hK |-
    try simp only[World.grow_grow] at hK |-
    simp only[e26] at hK |-
    clear e26
    exact zx
  intro x w1 hH
  have e19:x 19=_:=hH.t 0 19
  have e20:x 20=_:=hH.t 1 20
  have e21:x 21=_:=hH.t 2 21
  have e22:x 22=_:=hH.t 3 22
  have e23:x 23=_:=hH.t 4 23
  have e24:x 24=_:=hH.t 5 24
  have e25:x 25=_:=hH.t 6 25
  have e26:x 26=_:=hH.t 7 26
  have e27:x 27=_:=hH.t 8 27
  have e28:x 28=_:=hH.t 9 28
  obtain ⟨xs,d,rfl⟩:=aA hH.below
  clear hH
  simp only[e19,e20,e21,e22,e23,e24,e25,e26,e27,e28];clear e19 e20 e21 e22 e23 e24 e25 e26 e27 e28
  simp only[List.drop_succ_cons,List.drop_zero]
  go_wp2_with fail
  exact bodyPost_ret (v := .tuple #[.agg (bI r1),.bool b1]) (aH Tryz.results53 (aO.row rfl gY (by simp[go_sem])) (by simp[aO])) rfl ⟨rfl,blw⟩
@[go_sem ↓ high] theorem aNM (f:Nat×Operand->Nat×Value) (p q r:Nat×Operand):Instr.build 132 (Array.map f #[p,q,r])=aA5 132 (f p) (f q) (f r):=by simp[aA5]
@[go_sem] theorem aLT (a b:UInt8) (w:World):(aA5 132 (0,.int .u8 4) (1,.int .u8 (a.toNat:Int)) (2,.int .u8 (b.toNat:Int))).run Tryz.prog w = .ok (.agg (aJ (jH 4 a b).val)) w:=by
 unfold aA5
 refine fJ (zero := .agg (aJ (zeros 25))) (places := #[(0,1),(1,1),(2,1),(3,12),(15,10)]) (by intro w;exact (Tryz.zeroValue132 w).trans rfl) Tryz.underlying132 (by intro w;kernel_rfl) ?_
 rfl
theorem aJ9 (x:UInt8):IntKind.u8.wrap (x.toNat:Int)=x.toNat:=by
 have h:∀ n<256,IntKind.u8.wrap ((n:Nat):Int)=n:=by decide +kernel
 exact h _ x.toNat_lt
theorem vI (h:VAt w vb s t p lv P r) (b:UInt8):Gives Tryz.prog 54 #[.pointer (some ⟨vb,0,none⟩),.int .i64 (b.toNat:Int)] w (.agg (aJ (jH 4 p b).val)):=by
 obtain ⟨_,k1,_⟩:=h.parts
 have hlt:=h.lt
 have hwp:=aJ9 p
 have hwb:=aJ9 b
 clear h
 unfold Gives
 have hkl:=(jH 4 p b).len
 go_enter Tryz.func54,Tryz.ntmps54
 go_wp2_with fail
 exact bodyPost_ret (v := .agg (aJ (jH 4 p b).val)) (fE Tryz.results54 (aO.row rfl nO (by simp[go_sem,hkl]))) rfl ⟨rfl,blw⟩
theorem aHn (h:VAt w vb s t p lv P r) (l:Lnk) (kd:Int) (n q:List UInt8) (hn:n.length=12) (hq:q.length=10) :
  Gives Tryz.prog 91 #[.pointer (some ⟨vb,0,none⟩),.agg #[.int .i64 (l.1.toNat:Int),.int .u64 (l.2.toNat:Int)],.int .i64 kd,.agg (aJ n),.agg (aJ q)] w (.tuple #[.agg (aJ (keyOf kd p.toNat l.1.toNat n q)),.int .i64 (gV kd p.toNat l.1.toNat n q)]):=by
 obtain ⟨_,k1,_⟩:=h.parts
 have hlt:=h.lt
 obtain ⟨lb,la⟩:=l
 have HK:=Lib.hid (zO kd p.toNat lb.toNat n q hn hq)
 have hkl:=zQ kd p.toNat lb.toNat n q hn hq
 simp only
 generalize keyOf kd p.toNat lb.toNat n q=kk at *
 generalize gV kd p.toNat lb.toNat n q=ke at *
 clear h
 unfold Gives
 go_enter Tryz.func91,Tryz.ntmps91
 go_wp2_with fail
 apply aG (by rfl) [.val _,.val _,.val _,.val _,.val _,.val _,.val _,.val _,.val _,.val _,.val _,.val _] 12 (by rfl) [12,13,14,15,16,17,18,19,20,21,22,23] [] [] (by rfl) (by rfl) (by decide) (by decide +kernel) (fun _ _ _ _ _ h=>h)
 case hF=>intro x;simp only[over,List.foldl_cons,List.foldl_nil,List.setIfInBounds_toArray,List.set_cons_succ,List.set_cons_zero];exact rfl
 case hops =>
  refine ⟨?o0,?o1,?o2,?o3,?o4,?o5,?o6,?o7,?o8,?o9,?o10,?o11,trivial⟩
  case o0 =>
   intro x w1 hH K hK
   obtain ⟨xs,d,rfl⟩:=aA hH.below
   clear hH
   try simp only[World.aB] at hK |-
   try simp only[World.grow_grow] at hK |-
   exact zx
  case o1 =>
   intro x w1 hH K hK
   obtain ⟨xs,d,rfl⟩:=aA hH.below
   clear hH
   try simp only[World.aB] at hK |-
   try simp only[World.grow_grow] at hK |-
   exact zx
  case o2 =>
   intro x w1 hH K hK
   have e13:x 13=_:=hH.g 1 13
   obtain ⟨xs,d,rfl⟩:=aA hH.below
   clear hH
   try simp only[World.aB] at hK |-
   try simp only[World.grow_grow] at hK |-
   simp only[e13] at hK |-
   clear e13
   exact zx
  case o3 =>
   intro x w1 hH K hK
   have e14:x 14=_:=hH.g 2 14
   obtain ⟨xs,d,rfl⟩:=aA hH.below
   clear hH
   try simp only[World.aB] at hK |-
   try simp only[World.grow_grow] at hK |-
   simp only[e14] at hK |-
   clear e14
   exact zx
  case o4 =>
   intro x w1 hH K hK
   have e15:x 15=_:=hH.g 3 15
   obtain ⟨xs,d,rfl⟩:=aA hH.below
   clear hH
   try simp only[World.aB] at hK |-
   try simp only[World.grow_grow] at hK |-
   simp only[e15] at hK |-
   clear e15
   exact zx
  case o5 =>
   intro x w1 hH K hK
   obtain ⟨xs,d,rfl⟩:=aA hH.below
   clear hH
   try simp only[World.aB] at hK |-
   try simp only[World.grow_grow] at hK |-
   exact zx
  case o6 =>
   intro x w1 hH K hK
   have e17:x 17=_:=hH.g 5 17
   obtain ⟨xs,d,rfl⟩:=aA hH.below
   clear hH
   try simp only[World.aB] at hK |-
   try simp only[World.grow_grow] at hK |-
   simp only[e17] at hK |-
   clear e17
   exact zx
  case o7 =>
   intro x w1 hH K hK
   obtain ⟨xs,d,rfl⟩:=aA hH.below
   clear hH
   try simp only[World.aB] at hK |-
   try simp only[World.grow_grow] at hK |-
   exact zx
  case o8 =>
   intro x w1 hH K hK
   obtain ⟨xs,d,rfl⟩:=aA hH.below
   clear hH
   try simp only[World.aB] at hK |-
   try simp only[World.grow_grow] at hK |-
   exact zx
  case o9 =>
   intro x w1 hH K hK
   have e12:x 12=_:=hH.g 0 12
   have e16:x 16=_:=hH.g 4 16
   have e18:x 18=_:=hH.g 6 18
   have e19:x 19=_:=hH.g 7 19
   have e20:x 20=_:=hH.g 8 20
   obtain ⟨xs,d,rfl⟩:=aA hH.below
   clear hH
   try simp only[World.aB] at hK |-
   try simp only[World.grow_grow] at hK |-
   simp only[e12,e16,e18,e19,e20] at hK |-
   clear e12 e16 e18 e19 e20
   go_simp
   go_wp2_with (refine Gives.use (HK.out _) ?_;intro ys e)
   exact zu
  case o10 =>
   intro x w1 hH K hK
   have e21:x 21=_:=hH.g 9 21
   obtain ⟨xs,d,rfl⟩:=aA hH.below
   clear hH
   try simp only[World.aB] at hK |-
   try simp only[World.grow_grow] at hK |-
   simp only[e21] at hK |-
   clear e21
   exact zx
  case o11 =>
   intro x w1 hH K hK
   have e21:x 21=_:=hH.g 9 21
   obtain ⟨xs,d,rfl⟩:=aA hH.below
   clear hH
   try simp only[World.aB] at hK |-
   try simp only[World.grow_grow] at hK |-
   simp only[e21] at hK |-
   clear e21
   exact zx
 intro x w1 hH
 have e12:x 12=_:=hH.t 0 12
 have e13:x 13=_:=hH.t 1 13
 have e14:x 14=_:=hH.t 2 14
 have e15:x 15=_:=hH.t 3 15
 have e16:x 16=_:=hH.t 4 16
 have e17:x 17=_:=hH.t 5 17
 have e18:x 18=_:=hH.t 6 18
 have e19:x 19=_:=hH.t 7 19
 have e20:x 20=_:=hH.t 8 20
 have e21:x 21=_:=hH.t 9 21
 have e22:x 22=_:=hH.t 10 22
 have e23:x 23=_:=hH.t 11 23
 obtain ⟨xs,d,rfl⟩:=aA hH.below
 clear hH
 simp only[e12,e13,e14,e15,e16,e17,e18,e19,e20,e21,e22,e23];clear e12 e13 e14 e15 e16 e17 e18 e19 e20 e21 e22 e23
 simp only[List.drop_succ_cons,List.drop_zero]
 go_wp2_with fail
 exact bodyPost_ret (v := .tuple #[.agg (aJ kk),.int .i64 ke]) (aH Tryz.results91 (aO.row rfl nO (by simp[go_sem,hkl])) (by simp[aO])) rfl ⟨rfl,blw⟩
theorem aDZ (h:VAt w vb s t p lv P r) (hP:P.length<=1000):Calls Tryz.prog 28 #[.pointer (some ⟨vb,0,none⟩)] w fun e w' => ∃ v',e = .returned v'/\Below w.heap.size w w'/\gU w' w.heap.size 2 171 v' (P.map lM):=by
 obtain ⟨_,_,k2⟩:=h.parts
 have hlt:=h.lt
 have HS:=Lib.hid h.sl
 have H1:=Lib.hid (aBi P)
 obtain ⟨a,cap,rfl,_,_⟩:=h.sl.form
 have hl:(P.map lM).length<=1000:=by simpa using hP
 obtain ⟨L,hL⟩:∃ L,L=P.map lM:=⟨_,rfl⟩
 rw[<-hL] at HS H1 k2 hl |-
 clear h hP hL
 go_enter Tryz.func28,Tryz.ntmps28
 go_wp2_with (at_builtin;refine iE (B:=w.heap.size) (xs := []) (ys:=L) aHY rfl (.const (.slice none 0 0)) (.tmp 8) rfl (v := .slice none 0 0) rfl ?_ rfl ?_ ?_ ?_ ?_ ?_)
 case refine_1=>exact gU.nil _ _ _ _
 case refine_2=>exact ⟨_,HS.out⟩
 case refine_3=>exact H1.out
 case refine_4=>simp;omega
 case refine_5=>first | exact Nat.le_refl _ | (simp;omega)
 intro v3 w3 ho hg _
 have HB3:=Lib.hid (Below.grown (Below.refl w.heap.size w) hg (Nat.le_refl _) (fun q hq=>by cases hq))
 have HO3:=Lib.hid (show gU w3 w.heap.size 2 171 v3 L by simpa using ho)
 clear ho hg
 go_wp2_with fail
 go_ret
 exact ⟨_,rfl,HB3.out,HO3.out⟩
end
end Go.Proofs.YtcedmfnlkelhkaaGreatDoor
