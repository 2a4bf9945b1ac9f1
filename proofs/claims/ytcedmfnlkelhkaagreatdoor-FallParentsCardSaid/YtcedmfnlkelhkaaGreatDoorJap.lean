/- Layer 14's law: keys, records and writes that are built of some parts. -/
import Derived.Test.YtcedmfnlkelhkaaGreatDoorJan
import Derived.Test.YtcedmfnlkelhkaaGreatDoorJao
import Derived.Handy
namespace Go.Proofs.YtcedmfnlkelhkaaGreatDoor
set_option maxRecDepth 100000
open Go.RowKit

def x1:Wr:=⟨kP,false,aPY⟩
def x2:Wr:=⟨kP,true,Rec.zero⟩
def f0:K25->List Ver:=fun _ => []
def f2:K25->List Ver:=dP 2 (dP 1 f0 [x1]) [x2]
theorem at1:atV (f2 kP) 1=(aPY,true):=by decide +kernel
section
variable {w:World} {B s:Nat} {G:SG}
end
theorem vO (a:UInt64):∀ (l:List Wr) (f:K25->List Ver),(l.map (·.k)).Nodup -> ∀ x∈l,dP a f l x.k=f x.k ++ [nV a x]
 | [],_,_,x,hx=>by simp at hx
 | y :: l,f,hn,x,hx=>by
  rw[List.map_cons,List.nodup_cons] at hn
  have hstep:dP a f (y :: l)=dP a (oC a f y) l:=rfl
  rw[hstep]
  rcases List.mem_cons.1 hx with rfl | hx
  ·rw[iU a l _ _ (fun z hz e=>hn.1 (List.mem_map.2 ⟨z,hz,e⟩))]
   unfold oC
   rw[if_pos rfl]
  ·rw[vO a l _ hn.2 x hx]
   unfold oC
   rw[if_neg (fun e=>hn.1 (List.mem_map.2 ⟨x,hx,e⟩))]
theorem zY (vs:List Ver) (v:Ver):fC (vs ++ [v])=v.at_:=by unfold fC;rw[List.getLast?_append];rfl
theorem Inv.apply {f:K25->List Ver} {n:Nat} {last a:UInt64} (h:Inv f n last) (ha:a.toNat=last.toNat+1) {l:List Wr} (hn:(l.map (·.k)).Nodup):Inv (dP a f l) (n+1) a:=by
 have hc:∀ k,dP a f l k=f k \/ ∃ x,dP a f l k=f k ++ [nV a x]:=by
  intro k
  by_cases hk:k∈l.map (·.k)
  ·obtain ⟨x,hx,rfl⟩:=List.mem_map.1 hk
   exact .inr ⟨x,vO a l f hn x hx⟩
  exact .inl (iU a l f k (fun x hx e=>hk (List.mem_map.2 ⟨x,hx,e⟩)))
 refine ⟨fun k => ?_,fun k => ?_⟩
 ·have:=h.short k
  rcases hc k with e | ⟨x,e⟩
  ·rw[e];omega
  rw[e,List.length_append];simp;omega
 have:=h.old k
 rcases hc k with e | ⟨x,e⟩
 ·rw[e];omega
 rw[e,zY];exact Nat.le_refl _
theorem Inv.more {f:K25->List Ver} {n m:Nat} {last:UInt64} (h:Inv f n last) (hm:n<=m):Inv f m last:=⟨fun k=>Nat.le_trans (h.short k) hm,h.old⟩
theorem aEX (vs:List Ver) (v:Ver) (t:UInt64) (h:v.at_<=t):atV (vs ++ [v]) t=if v.dead then (Rec.zero,false) else (v.r,true):=by
 have hd:dn (vs ++ [v]) 1 = [(vs.length,v)]:=by
  simp[dn,List.getD_eq_getElem?_getD]
 have hs:sD (vs ++ [v]) t=some vs.length:=by
  unfold sD
  have hp : [] ++ [(vs.length,v)] <+: dn (vs ++ [v]) (vs ++ [v]).length:=by
   have:=aC2 (vs ++ [v]) (j:=1) (k:=(vs ++ [v]).length) (by simp)
   rw[hd] at this
   exact this
  rw[aE5 hp (fun y hy=>by simp at hy) (decide_eq_true h)]
  rfl
 unfold atV
 rw[hs]
 simp[List.getD_eq_getElem?_getD]
structure Fine (n:Nat) (G:SG):Prop where
 inv:Inv (aQ G) n G.last
 last:G.last.toNat<=n
 low : -(16 * (n:Int))<=G.live
 high:G.live<=16 * (n:Int)
section
variable {w:World} {B s:Nat} {G:SG}
end
end Go.Proofs.YtcedmfnlkelhkaaGreatDoor
