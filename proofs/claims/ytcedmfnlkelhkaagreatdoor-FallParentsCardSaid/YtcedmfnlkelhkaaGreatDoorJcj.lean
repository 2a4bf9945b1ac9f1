/- Layer 14: what is seen at a time stays when later writes are published. -/
import Derived.Test.YtcedmfnlkelhkaaGreatDoorJce
namespace Go.Proofs.YtcedmfnlkelhkaaGreatDoor
set_option maxRecDepth 100000
open Go.RowKit

theorem aGg (vs:List Ver) (v:Ver):dn (vs ++ [v]) (vs ++ [v]).length=(vs.length,v) :: dn vs vs.length:=by
 unfold dn
 rw[List.length_append,List.length_singleton,List.range_succ_eq_map,List.map_cons,List.map_map]
 congr 1
 ·simp[List.getD_eq_getElem?_getD]
 apply List.map_congr_left
 intro j hj
 rw[List.mem_range] at hj
 simp only[Function.comp]
 rw[show vs.length+1 - 1 - (j+1)=vs.length - 1 - j by omega]
 congr 1
 rw[List.getD_eq_getElem?_getD,List.getD_eq_getElem?_getD,List.getElem?_append_left (by omega)]
theorem aIK (vs:List Ver) (v:Ver) (t:UInt64) (h:¬ v.at_<=t):atV (vs ++ [v]) t=atV vs t:=by
 have hs:sD (vs ++ [v]) t=sD vs t:=by
  unfold sD
  rw[aGg,List.find?_cons_of_neg (by simpa using h)]
 unfold atV
 rw[hs]
 cases hi:sD vs t with
 | none=>rfl
 | some i =>
  simp only
  have hl:=yO hi
  rw[List.getD_eq_getElem?_getD,List.getElem?_append_left hl,<-List.getD_eq_getElem?_getD]
theorem aG2 {a:UInt64} {l:List Wr} (hn:(l.map (·.k)).Nodup) (f:K25->List Ver) (k:K25) (t:UInt64) (h:¬ a<=t):atV (dP a f l k) t=atV (f k) t:=by
 by_cases hk:k∈l.map (·.k)
 ·obtain ⟨x,hx,rfl⟩:=List.mem_map.1 hk
  rw[vO a l f hn x hx,aIK _ _ _ (show ¬ (nV a x).at_<=t from h)]
 rw[iU a l f k (fun x hx e=>hk (List.mem_map.2 ⟨x,hx,e⟩))]
end Go.Proofs.YtcedmfnlkelhkaaGreatDoor
namespace Go.Proofs.YtcedmfnlkelhkaaGreatDoor
open Go.RowKit

theorem aJl {vs:List Ver} {t t':UInt64} (h:(fC vs).toNat<=t.toNat) (ht:t.toNat<=t'.toNat):atV vs t'=atV vs t:=by
 rcases List.eq_nil_or_concat vs with rfl | ⟨init,v,rfl⟩
 ·rfl
 rw[List.concat_eq_append] at h |-
 rw[zY] at h
 rw[aEX _ _ _ (UInt64.le_iff_toNat_le.2 h),aEX _ _ _ (UInt64.le_iff_toNat_le.2 (by omega))]
structure Later (b0:UInt8) (f:K25->List Ver) (T:UInt64) (g:K25->List Ver) (T':UInt64):Prop where
 time:T.toNat<=T'.toNat
 old:∀ k,(fC (f k)).toNat<=T.toNat
 seen:∀ k t,t.toNat<=T.toNat->atV (g k) t=atV (f k) t
 same:∀ k,((byt k.val 0).toNat<5\/byt k.val 2=b0)->g k=f k
theorem Later.refl {b0:UInt8} {f:K25->List Ver} {T:UInt64} (h:∀ k,(fC (f k)).toNat<=T.toNat):Later b0 f T f T:=⟨Nat.le_refl _,h,fun _ _ _=>rfl,fun _ _=>rfl⟩
def aLO (b0:UInt8) (l:List Wr):Bool:=l.all fun x=>decide (5<=(byt x.k.val 0).toNat) && decide (byt x.k.val 2≠b0)
theorem Later.apply {b0:UInt8} {f g:K25->List Ver} {T T' a:UInt64} (h:Later b0 f T g T') (ha:a.toNat=T'.toNat+1) {l:List Wr} (hn:(l.map (·.k)).Nodup) (hl:aLO b0 l=true):Later b0 f T (dP a g l) a:=by
 refine ⟨by have:=h.time;omega,h.old,fun k t ht => ?_,fun k hk => ?_⟩
 ·rw[aG2 hn g k t (fun hle=>by rw[UInt64.le_iff_toNat_le] at hle;have:=h.time;omega),h.seen k t ht]
 rw[iU a l g k (fun x hx e => ?_),h.same k hk]
 have hx2:=List.all_eq_true.1 hl x hx
 rw[e] at hx2
 simp only[Bool.and_eq_true,decide_eq_true_eq] at hx2
 rcases hk with h1 | h1
 ·omega
 exact hx2.2 h1
theorem min_le {a T T':UInt64} (h:a.toNat<=T.toNat) (hT:T.toNat<=T'.toNat):min a T'=a/\min a T=a:=by
 have h1:a<=T:=UInt64.le_iff_toNat_le.2 h
 have h2:a<=T':=UInt64.le_iff_toNat_le.2 (by omega)
 exact ⟨if_pos h2,if_pos h1⟩
theorem Later.read {b0:UInt8} {f g:K25->List Ver} {T T':UInt64} (h:Later b0 f T g T') {l:Lnk} (hl:l.1=b0\/l.2.toNat<=T.toNat) {k:K25} (hk:(byt k.val 0).toNat<5\/byt k.val 2=l.1):iD g T' b0 l k=iD f T b0 l k:=by
 unfold iD
 by_cases e:l.1=b0
 ·rw[if_pos e,if_pos e,h.same k (by rw[<-e];exact hk)]
  exact aJl (h.old k) h.time
 rw[if_neg e,if_neg e]
 have hle:=hl.resolve_left e
 obtain ⟨h1,h2⟩:=min_le hle h.time
 rw[h1,h2]
 exact h.seen k _ hle
theorem aLq (a b c:UInt8):byt (jH a b c).val 0=a/\byt (jH a b c).val 2=c:=⟨rfl,rfl⟩
theorem Later.chain {b0:UInt8} {f g:K25->List Ver} {T T':UInt64} (h:Later b0 f T g T') (p:UInt8):∀ (n:Nat) (met:List UInt8) (l:Lnk),(∀ l'∈dG f T p b0 n met l,l'.1=b0\/l'.2.toNat<=T.toNat)->dG g T' p b0 n met l=dG f T p b0 n met l
 | 0,_,_,_=>rfl
 | n+1,met,l,hl=>by
  unfold dG at hl |-
  by_cases hm:l.1∈met
  ·rw[if_pos hm,if_pos hm]
  ·rw[if_neg hm] at hl
   rw[if_neg hm,if_neg hm]
   have hll:l.1=b0\/l.2.toNat<=T.toNat:=hl l (by split <;> simp)
   have hr:iD g T' b0 l (jH 4 p l.1)=iD f T b0 l (jH 4 p l.1):=h.read hll (.inl (by rw[(aLq 4 p l.1).1];decide))
   rw[hr]
   by_cases hc:(iD f T b0 l (jH 4 p l.1)).2=false\/l.1=0
   ·rw[if_pos hc,if_pos hc]
   ·rw[if_neg hc] at hl
    rw[if_neg hc,if_neg hc,h.chain p n _ _ (fun l' hl'=>hl l' (List.mem_cons_of_mem _ hl'))]
theorem aG9 (x:UInt8):byteOf (x.toNat:Int)=x:=by
 have h:∀ n<256,byteOf ((UInt8.ofNat n).toNat:Int)=UInt8.ofNat n:=by decide +kernel
 have:=h x.toNat x.toNat_lt
 rwa [UInt8.ofNat_toNat] at this
theorem aKC {kd:Int} (hk:kd=5\/kd=6) {p b:UInt8} {n t:List UInt8} (he:gV kd p.toNat b.toNat n t=0):byt (keyOf kd p.toNat b.toNat n t) 2=b:=by
 unfold keyOf oZ
 rw[if_pos he,if_pos (by rcases hk with rfl | rfl <;> decide)]
 exact aG9 b
theorem Later.mJ {b0:UInt8} {f g:K25->List Ver} {T T':UInt64} (h:Later b0 f T g T') (p:UInt8) {kd:Int} (hk:kd=5\/kd=6) (n t:List UInt8) (hnt:n.length=12/\t.length=10) :
  ∀ L:List Lnk,(∀ l∈L,l.1=b0\/l.2.toNat<=T.toNat)->mJ g T' p b0 kd n t hnt L=mJ f T p b0 kd n t hnt L
 | [],_=>rfl
 | l :: L,hl=>by
  have ih:=h.mJ p hk n t hnt L (fun l' hl'=>hl l' (List.mem_cons_of_mem _ hl'))
  unfold Go.Proofs.YtcedmfnlkelhkaaGreatDoor.mJ
  by_cases he:gV kd p.toNat l.1.toNat n t=0
  ·rw[if_pos he,if_pos he]
   have hr:iD g T' b0 l (aI4 kd p l n t hnt)=iD f T b0 l (aI4 kd p l n t hnt):=h.read (hl l List.mem_cons_self) (.inr (aKC hk he))
   rw[hr,ih]
  ·rw[if_neg he,if_neg he]
theorem aBA (f:K25->List Ver) (T:UInt64) (p b0:UInt8):∀ (n:Nat) (met:List UInt8) (l:Lnk),(dG f T p b0 n met l).length<=n
 | 0,_,_=>by simp[dG]
 | n+1,met,l=>by
  unfold dG
  split
  ·simp
  ·split
   ·simp
   ·have:=aBA f T p b0 n (l.1 :: met) ((iD f T b0 l (jH 4 p l.1)).1.parent,(iD f T b0 l (jH 4 p l.1)).1.at_)
    simp only[List.length_cons];omega
theorem aDc (f:K25->List Ver) (T:UInt64) (p b0:UInt8) (n:Nat) (met:List UInt8) (l:Lnk):dG f T p b0 n met l = [] \/ ∃ u q,dG f T p b0 n met l=(l.1,u) :: q:=by
 cases n with
 | zero=>exact .inl rfl
 | succ n =>
  unfold dG
  split
  ·exact .inl rfl
  split
  ·exact .inr ⟨l.2,_,rfl⟩
  exact .inr ⟨l.2,_,rfl⟩
end Go.Proofs.YtcedmfnlkelhkaaGreatDoor
namespace Go.Proofs.YtcedmfnlkelhkaaGreatDoor
set_option maxRecDepth 100000
open Go.RowKit

structure aON (G:SG) (l:List Wr) (G':SG):Prop where
 yes:sZ (aQ G) G.live l=0->eY l=0/\(G.last+1).toNat=G.last.toNat+1/\G'.last=G.last+1/\G'.live=G.live+dL (aQ G) l/\aQ G'=dP (G.last+1) (aQ G) l
 no:sZ (aQ G) G.live l≠0->G'=G
 lvs:(dW G'.R).length<=(dW G.R).length+16
def aKj (G:SG) (l:List Wr):Nat:=if sZ (aQ G) G.live l=0 then (G.last+1).toNat else 0
section
variable {w:World} {B s:Nat} {G:SG}
theorem aHQ {n:Nat} (hn:n<=900) (h:aV w B s G) (hf:Fine n G) (lv:Value) (l:List Wr) (hl:SlA w w.heap.size 35 lv (l.map iJ)) (ho:aNA s G lv) :
  Calls Tryz.prog 36 #[.pointer (some ⟨s,0,none⟩),lv] w fun e w'=>e = .returned (.tuple #[.int .u64 (aKj G l),.int .i64 (sZ (aQ G) G.live l)]) /\ ∃ G',aV w' B s G'/\Evo s w G w' G'/\Fine (n+1) G'/\aON G l G':=by
 have hlv : -1000000<=G.live/\G.live<=1000000:=by have:=hf.low;have:=hf.high;omega
 by_cases he:sZ (aQ G) G.live l=0
 ·have hlst:=hf.last
  have hl1:(G.last+1).toNat=G.last.toNat+1:=by rw[UInt64.toNat_add];simp;omega
  have hck:eY l=0:=by
   unfold sZ at he
   split at he
   ·rename_i hc;exact hc
   exact he
  have hsp:=kF hck
  have hbd:=kH (aQ G) l 0
  refine (aCr (G.last+1) hl1 h (hf.inv.more (by omega)) (by omega) hlv lv l hl ho he).mono ?_
  rintro e w' ⟨rfl,G',g1,g2,g3,g4,g5⟩
  have hfun:aQ G'=dP (G.last+1) (aQ G) l:=funext g5
  refine ⟨by rw[he];unfold aKj;rw[if_pos he],G',g1,g2,⟨?_,?_,?_,?_⟩,⟨fun _=>⟨hck,hl1,g3.1,g4,hfun⟩,fun hne=>absurd he hne,by have:=g3.2;have:=hsp.1;omega⟩⟩
  ·rw[hfun,g3.1]
   exact hf.inv.apply hl1 hsp.2.2
  ·rw[g3.1];omega
  ·have:=hf.low;rw[g4];unfold dL;omega
  have:=hf.high;rw[g4];unfold dL;omega
 refine (aF5 h (fun k=>Nat.le_trans (hf.inv.short k) (by omega)) hlv lv l hl he).mono ?_
 rintro e w' ⟨rfl,hb⟩
 exact ⟨by unfold aKj;rw[if_neg he];rfl,G,h.keep hb,Evo.grow G hb,⟨hf.inv.more (by omega),by have:=hf.last;omega,by have:=hf.low;omega,by have:=hf.high;omega⟩,⟨fun h0=>absurd h0 he,fun _=>rfl,Nat.le_add_right _ _⟩⟩
end
end Go.Proofs.YtcedmfnlkelhkaaGreatDoor
namespace Go.Proofs.YtcedmfnlkelhkaaGreatDoor
open Go.RowKit

section
variable {w:World} {B s:Nat} {G:SG}
theorem aEF (h:aV w B s G):Gives Tryz.prog 20 #[.pointer (some ⟨s,0,none⟩)] w (.int .u64 G.last.toNat):=by
 obtain ⟨c0,c1,c2, -, -,ls⟩:=h.cells
 clear h
 unfold Gives
 go_enter Tryz.func20,Tryz.ntmps20
 go_wp2_with fail
 go_ret
 exact ⟨rfl,blw⟩
end
end Go.Proofs.YtcedmfnlkelhkaaGreatDoor
