/- Layer 20 in plain Lean: the answers along a tag's chain. -/
import Derived.Test.YtcedmfnlkelhkaaGreatDoorJce
import Derived.Test.YtcedmfnlkelhkaaGreatDoorJcr
import Derived.Handy
import Derived.Test.YtcedmfnlkelhkaaGreatDoorJas
import Derived.Test.YtcedmfnlkelhkaaGreatDoorJar
import Derived.Shelf.RegionOpen
import Derived.OwnWalkIn
import Derived.TacticsInMore
import Derived.LoopNIn
import Derived.LoopIn
namespace Go.Proofs.YtcedmfnlkelhkaaGreatDoor
set_option maxHeartbeats 40000000
open Go.RowKit

theorem aJk {vs:List Ver} {t:UInt64} (h:(atV vs t).2=true):∃ v∈vs,v.dead=false/\v.r=(atV vs t).1:=by
 unfold atV at h |-
 cases hs:sD vs t with
 | none=>rw[hs] at h;cases h
 | some i =>
  have hi:=yO hs
  have e:vs.getD i Ver.zero=vs[i]:=by rw[List.getD_eq_getElem?_getD,List.getElem?_eq_getElem hi];rfl
  rw[hs] at h
  simp only[e] at h |-
  cases hd:vs[i].dead with
  | true=>rw[hd] at h;cases h
  | false=>exact ⟨vs[i],List.getElem_mem hi,hd,by rw[if_neg (by decide)]⟩
theorem aBZ {f:K25->List Ver} (hg:rY f) {T:UInt64} {p b0:UInt8} {n t:List UInt8} {h:n.length=12/\t.length=10}:∀ {L:List Lnk} {x:UInt8×Rec},mJ f T p b0 6 n t h L=some x->t≠zeros 10/\x.2.state≠0
 | [],_,e=>by cases e
 | l :: L,x,e=>by
  unfold mJ at e
  split at e
  ·rename_i hk
   split at e
   ·rename_i hr
    obtain rfl:=Option.some.inj e
    refine ⟨fun hz => ?_,?_⟩
    ·have:gV 6 p.toNat l.1.toNat n t≠0:=by
      unfold gV
      rw[hz]
      split
      ·omega
      ·split
       ·omega
       ·split
        ·omega
        ·rw[if_pos ⟨rfl,.inr rfl⟩];omega
     exact this hk
    ·unfold iD at hr |-
     obtain ⟨v,hv,hd,er⟩:=aJk hr
     rw[<-er]
     refine hg.1 _ v hv hd ?_
     have hke:keyOf 6 p.toNat l.1.toNat n t=oZ 6 p.toNat l.1.toNat n t:=by unfold keyOf;rw[if_pos hk]
     show byt (keyOf 6 p.toNat l.1.toNat n t) 0=6
     rw[hke]
     rfl
   ·exact aBZ hg e
  ·cases e
structure Ans where
 text:Txt
 tag:List UInt8
 state:UInt8
 rev:UInt32
abbrev StF:=List UInt8->UInt8×Rec×Bool
def aNF (f:StF) (u:List UInt8):Ans:=⟨(f u).2.1.text,u,(f u).1,(f u).2.1.rev⟩
def yC (f:StF) (L:List (List UInt8)):List Ans:=(L.filter fun u=>(f u).2.2).map (aNF f)
def okM (mode:Int) (s:UInt8):Bool:=if mode=0 then s != 4 else s == 3
def aAc (s:Rec):Ans:=⟨s.text,zeros 10,0,s.rev⟩
def aA6 (f:StF) (s:Rec) (mode:Int) (t:List UInt8):Ans:=((yC f (oG t)).find? fun a=>okM mode a.state).getD (aAc s)
theorem aCS (f:StF) (u:List UInt8) (L:List (List UInt8)):yC f (u :: L)=if (f u).2.2=true then aNF f u :: yC f L else yC f L:=by
 unfold yC
 rw[List.filter_cons]
 split <;> rfl
theorem aEW {f:StF} {L:List (List UInt8)} {a:Ans} (h:a∈yC f L):a.tag∈L/\(f a.tag).2.2=true/\a.state=(f a.tag).1:=by
 unfold yC at h
 obtain ⟨u,hu,rfl⟩:=List.mem_map.1 h
 obtain ⟨h1,h2⟩:=List.mem_filter.1 hu
 exact ⟨h1,h2,rfl⟩
theorem vV (f:StF) (s:Rec) (mode:Int) (t:List UInt8):aA6 f s mode t=aAc s\/(aA6 f s mode t∈yC f (oG t)/\okM mode (aA6 f s mode t).state=true):=by
 unfold aA6
 cases h:(yC f (oG t)).find? fun a=>okM mode a.state with
 | none=>exact .inl rfl
 | some a=>exact .inr ⟨List.mem_of_find?_eq_some h,List.find?_some (p:=fun (a:Ans)=>okM mode a.state) h⟩
theorem aE8 {f:StF} {s:Rec} {mode:Int} {t:List UInt8} (ht:t.length=10):(aA6 f s mode t).tag∈oG t:=by
 rcases vV f s mode t with h | h
 ·rw[h];exact aDb ht
 exact (aEW h.1).1
def GoodS (f:StF):Prop := ∀ u,(f u).2.2=true->u≠zeros 10/\(f u).1≠0
theorem aGu {f:StF} (hf:GoodS f) {s:Rec} {mode:Int} {t:List UInt8}:((aA6 f s mode t).tag=zeros 10) ↔ ((aA6 f s mode t).state=0):=by
 rcases vV f s mode t with h | h
 ·rw[h];exact ⟨fun _=>rfl,fun _=>rfl⟩
 obtain ⟨-,h2,h3⟩:=aEW h.1
 obtain ⟨h4,h5⟩:=hf _ h2
 rw[h3]
 exact ⟨fun e=>absurd e h4,fun e=>absurd e h5⟩
theorem aGt {f:StF} {s:Rec} {t:List UInt8} (mode:Int):(mode≠0->(aA6 f s mode t).state≠0->(aA6 f s mode t).state=3)/\(aA6 f s mode t).state≠4:=by
 rcases vV f s mode t with h | h
 ·rw[h];exact ⟨fun _ h=>absurd rfl h,show (0:UInt8)≠4 by decide⟩
 have h2:=h.2
 unfold okM at h2
 by_cases hm:mode=0
 ·rw[if_pos hm] at h2
  exact ⟨fun h=>absurd hm h,by simpa using h2⟩
 rw[if_neg hm] at h2
 have h3:(aA6 f s mode t).state=3:=by simpa using h2
 exact ⟨fun _ _=>h3,by rw[h3];decide⟩
theorem aJw {f:StF} {s:Rec} {mode:Int} {t:List UInt8} (ht:t.length=10) (hz:t≠zeros 10) (hn:(aA6 f s mode t).tag≠t):aA6 f s mode (yK t)=aA6 f s mode t:=by
 unfold aA6 at hn |-
 rw[aCY ht,if_neg hz,aCS] at hn |-
 split at hn
 ·rename_i hb
  rw[if_pos hb]
  rw[List.find?_cons] at hn |-
  split at hn
  ·exact absurd rfl hn
  rename_i hk
  rfl
 rename_i hb
 rw[if_neg hb]
theorem aEK {f:K25->List Ver} (hg:rY f) {T:UInt64} {p b0:UInt8} {n t:List UInt8} {h:n.length=12/\t.length=10} {L:List Lnk} {o:Option (UInt8×Rec)} (hs:(mM o (mJ f T p b0 6 n t h L)).2.2=true):t≠zeros 10/\(mM o (mJ f T p b0 6 n t h L)).1≠0:=by
 cases hq:mJ f T p b0 6 n t h L with
 | none=>rw[hq] at hs;cases o <;> cases hs
 | some y =>
  obtain ⟨h1,h2⟩:=aBZ hg hq
  rw[hq] at hs
  refine ⟨h1,?_⟩
  cases o with
  | none=>cases hs
  | some x =>
   obtain ⟨_,x⟩:=x
   obtain ⟨_,y⟩:=y
   simp only[mM] at hs |-
   split at hs
   ·cases hs
   rename_i hg2
   rw[if_neg hg2]
   split
   ·exact h2
   exact (by decide:(5:UInt8)≠0)
end Go.Proofs.YtcedmfnlkelhkaaGreatDoor
namespace Go.Proofs.YtcedmfnlkelhkaaGreatDoor
set_option maxHeartbeats 40000000
set_option maxRecDepth 100000
open Go.RowKit

@[go_sem] theorem aLK:Tryz.prog.bJ 57=some 3:=by kernel_rfl
@[go_sem ↓ high] theorem aQn (a:Addr):loadVar 57 a=eX 57 a:=rfl
@[go_sem ↓ high] theorem aRR (a:Addr) (v:Value):storeVar 57 a v=bH 57 a v:=rfl
theorem aJu:fQ Tryz.prog 57 (fA 3):=⟨by kernel_rfl,by kernel_rfl,aLK⟩
@[go_sem ↓ high] theorem aQk (a b:List UInt8) (ha:a.length=3) (hb:b.length=3) (w:World) :
  (Op.equalIn 10000 57 (.agg (aJ a)) (.agg (aJ b))).run Tryz.prog w = .ok (a == b) w :=
 wM (by rw[ha];exact aJu) (by rw[ha,hb]) w
@[go_sem] theorem aLL:Tryz.prog.bJ 58=some 4:=by kernel_rfl
@[go_sem ↓ high] theorem aQo (a:Addr):loadVar 58 a=eX 58 a:=rfl
@[go_sem ↓ high] theorem aRS (a:Addr) (v:Value):storeVar 58 a v=bH 58 a v:=rfl
theorem aJv:fQ Tryz.prog 58 (fA 4):=⟨by kernel_rfl,by kernel_rfl,aLL⟩
@[go_sem ↓ high] theorem aQl (a b:List UInt8) (ha:a.length=4) (hb:b.length=4) (w:World) :
  (Op.equalIn 10000 58 (.agg (aJ a)) (.agg (aJ b))).run Tryz.prog w = .ok (a == b) w :=
 wM (by rw[ha];exact aJv) (by rw[ha,hb]) w
@[go_sem] theorem aRU:(#[.int .u8 0,.int .u8 0,.int .u8 0]:Array Value)=aJ (zeros 3):=rfl
@[go_sem] theorem aRV:(#[.int .u8 0,.int .u8 0,.int .u8 0,.int .u8 0]:Array Value)=aJ (zeros 4):=rfl
def oW (t:List UInt8):Bool:=aZ t && !(t == zeros 10)
def aA8 (t:List UInt8):List UInt8:=if oW t=true then yK t else zeros 10
theorem aFA {t:List UInt8} (h:t.length=10):(aA8 t).length=10:=by
 unfold aA8
 split
 ·exact rP h
 rfl
theorem aFX {w:World} {b:Nat} {t:List UInt8} (ht:t.length=10) (k:w.heap[b]? = some (.cells (aJ t) 60)):(w.lay b 7 (aJ (zeros 3))).aW b 0 10=some (aJ (t.take 7++zeros 3)):=by
 have h1:(w.lay b 7 (aJ (zeros 3))).heap[b]? = some (.cells (bT (aJ t) 7 (aJ (zeros 3))) 60):=by
  simp only[World.lay,Array.getElem?_modify,if_true,k,Option.map_some]
 have h2:bT (aJ t) 7 (aJ (zeros 3))=aJ (t.take 7++zeros 3):=by
  match t,ht with
  | [a,b,c,d,e,f,g,h,i,j],_=>rfl
 rw[h2] at h1
 exact aI h1 (by simp[ht])
theorem aFY {w:World} {b:Nat} {t:List UInt8} (ht:t.length=10) (k:w.heap[b]? = some (.cells (aJ t) 60)):(w.lay b 3 (aJ (zeros 4))).aW b 0 10=some (aJ (t.take 3++(zeros 4++t.drop 7))):=by
 have h1:(w.lay b 3 (aJ (zeros 4))).heap[b]? = some (.cells (bT (aJ t) 3 (aJ (zeros 4))) 60):=by
  simp only[World.lay,Array.getElem?_modify,if_true,k,Option.map_some]
 have h2:bT (aJ t) 3 (aJ (zeros 4))=aJ (t.take 3++(zeros 4++t.drop 7)):=by
  match t,ht with
  | [a,b,c,d,e,f,g,h,i,j],_=>rfl
 rw[h2] at h1
 exact aI h1 (by simp[ht])
theorem aDt {w W:World} {b o:Nat} {x:Array Value} {u:List UInt8} (hu:u.length=10) (hk2:W.heap[b+1]? = some (.cells (aJ (zeros 10)) 60)) (hb:Below w.heap.size w W) (he:b=w.heap.size) :
  (W.lay b o x).aN (b+1) 0 10=true/\((W.lay b o x).lay (b+1) 0 (aJ u)).aW (b+1) 0 10=some (aJ u)/\Below w.heap.size w ((W.lay b o x).lay (b+1) 0 (aJ u)):=by
 have h1:(W.lay b o x).heap[b+1]? = some (.cells (aJ (zeros 10)) 60):=(aY (by omega)).trans hk2
 have h2:((W.lay b o x).lay (b+1) 0 (aJ u)).heap[b+1]? = some (.cells (aJ u) 60):=by
  have h3:((W.lay b o x).lay (b+1) 0 (aJ u)).heap[b+1]? = some (.cells (bT (aJ (zeros 10)) 0 (aJ u)) 60):=by
   simp only[World.lay,Array.getElem?_modify,if_true] at h1 |-
   rw[h1];rfl
  rwa [dN (by simp[hu])] at h3
 exact ⟨by simp[World.aN,h1],aI h2 (by simp[hu]),(hb.lay (by omega)).lay (by omega)⟩
theorem vH (t:List UInt8) (ht:t.length=10) (w:World):Gives Tryz.prog 12 #[.agg (aJ t)] w (.tuple #[.agg (aJ (aA8 t)),.bool (oW t)]):=by
 have hr:=kV t ht
 cases hb:aZ t with
 | false =>
  have e1:oW t=false:=by unfold oW;rw[hb];rfl
  have e2:aA8 t=zeros 10:=by unfold aA8;rw[e1];rfl
  rw[e1,e2]
  rw[hb] at hr
  have HR:=Lib.hid hr
  clear hr hb e1 e2
  unfold Gives
  go_enter Tryz.func12,Tryz.ntmps12
  go_wp2_with fail
  refine Gives.use (HR.out _) ?_
  intro xs d
  go_wp2_with fail
  exact bodyPost_ret (v := .tuple #[.agg (aJ (zeros 10)),.bool false]) (aH Tryz.results12 (aO.row rfl lC (by simp[go_sem])) (by simp[aO])) rfl ⟨rfl,blw⟩
 | true =>
  rw[hb] at hr
  have HR:=Lib.hid hr
  by_cases hz:t=zeros 10
  ·have e1:oW t=false:=by unfold oW;rw[hz];simp
   have e2:aA8 t=zeros 10:=by unfold aA8;rw[e1];rfl
   rw[e1,e2]
   have hzz:(t == zeros 10)=true:=beq_iff_eq.2 hz
   clear hr hb e1 e2 hz
   unfold Gives
   go_enter Tryz.func12,Tryz.ntmps12
   go_wp2_with fail
   refine Gives.use (HR.out _) ?_
   intro xs d
   go_wp2_with fail
   exact bodyPost_ret (v := .tuple #[.agg (aJ (zeros 10)),.bool false]) (aH Tryz.results12 (aO.row rfl lC (by simp[go_sem])) (by simp[aO])) rfl ⟨rfl,blw⟩
  have hzz:(t == zeros 10)=false:=beq_eq_false_iff_ne.2 hz
  have e1:oW t=true:=by unfold oW;rw[hb,hzz];rfl
  have e2:aA8 t=yK t:=by unfold aA8;rw[if_pos e1]
  rw[e1,e2]
  have l3:(t.drop 7).length=3:=by simp[ht]
  have l4:((t.drop 3).take 4).length=4:=by simp[ht]
  have HT:=Lib.hid ht
  clear hr hb e1 e2 hz
  unfold Gives
  go_enter Tryz.func12,Tryz.ntmps12
  go_wp2_with fail
  refine Gives.use (HR.out _) ?_
  intro xs d
  go_upto_region 4 with fail
  refine aP ?_
  intro W hW
  obtain ⟨b,hb⟩:∃ b,b=w.heap.size:=⟨_,rfl⟩
  have hk:W.heap[b]? = some (.cells (aJ t) 60):=by rw[hW,hb,World.bQ _ _ _ (by simp;omega)];exact (aC _ _ _).trans ((if_neg (by simp)).trans ((aC _ _ _).trans (if_pos rfl)))
  have hk2:W.heap[b+1]? = some (.cells (aJ (zeros 10)) 60):=by rw[hW,hb,World.bQ _ _ _ (by simp)];exact (aC _ _ _).trans (if_pos (by simp))
  have hbW:Below w.heap.size w W:=by rw[hW];exact blw
  simp only[<-hb]
  have hc:=aI hk (by simp[ht]:(aJ t).size=10)
  have c3:=iC (i:=7) (m:=3) hc (by decide)
  rw[kY,List.take_of_length_le (by omega),Nat.zero_add] at c3
  have c4:=iC (i:=3) (m:=4) hc (by decide)
  rw[kY,List.drop_take,Nat.zero_add] at c4
  have c4:W.aW b 3 4=some (aJ ((t.drop 3).take 4)):=c4
  have lb:b<W.heap.size:=(Array.getElem?_eq_some_iff.1 hk).1
  have lb2:b+1<W.heap.size:=(Array.getElem?_eq_some_iff.1 hk2).1
  have t7:W.aN b 7 3=true:=by simp[World.aN,hk,ht]
  have t3:W.aN b 3 4=true:=by simp[World.aN,hk,ht]
  have t0:W.aN b 0 10=true:=by simp[World.aN,hk,ht]
  have t2:W.aN (b+1) 0 10=true:=by simp[World.aN,hk2]
  have HB:=Lib.hid (And.intro hbW (And.intro hk (And.intro hk2 hb)))
  clear hW hbW hb hc
  by_cases h1:t.drop 7=zeros 3
  ·by_cases h2:(t.drop 3).take 4=zeros 4
   ·have hp:yK t=zeros 10:=by unfold yK;rw[if_neg (fun h=>h h1),if_neg (fun h=>h h2)]
    have HP:=Lib.hid hp
    have q1:(t.drop 7 == zeros 3)=true:=beq_iff_eq.2 h1
    have q2:((t.drop 3).take 4 == zeros 4)=true:=beq_iff_eq.2 h2
    have n10:(W.lay b 0 (aJ (zeros 10))).aW b 0 10=some (aJ (zeros 10)):=by
     have h3:(W.lay b 0 (aJ (zeros 10))).heap[b]? = some (.cells (bT (aJ t) 0 (aJ (zeros 10))) 60):=by
      simp only[World.lay,Array.getElem?_modify,if_true,hk,Option.map_some]
     rw[dN (by simp[ht])] at h3
     exact aI h3 (by simp)
    obtain ⟨p1,p2,p3⟩:=aDt (o:=0) (x:=aJ (zeros 10)) (u:=zeros 10) rfl hk2 HB.out.1 HB.out.2.2.2
    have HP3:=Lib.hid (And.intro p2 p3)
    clear h1 h2 hp ht hk hk2 p2 p3
    go_wp2_with fail
    exact bodyPost_ret (v := .tuple #[.agg (aJ (yK t)),.bool true]) (aH Tryz.results12 (by rw[HP.out];exact aO.row rfl lC HP3.out.1) (by simp[aO])) rfl ⟨rfl,HP3.out.2⟩
   have hp:yK t=t.take 3++(zeros 4++t.drop 7):=by unfold yK;rw[if_neg (fun h=>h h1),if_pos h2]
   have HP:=Lib.hid hp
   have q1:(t.drop 7 == zeros 3)=true:=beq_iff_eq.2 h1
   have q2:((t.drop 3).take 4 == zeros 4)=false:=beq_eq_false_iff_ne.2 h2
   have n10:=aFY ht hk
   obtain ⟨p1,p2,p3⟩:=aDt (o:=3) (x:=aJ (zeros 4)) (u:=t.take 3++(zeros 4++t.drop 7)) (by simp[ht]) hk2 HB.out.1 HB.out.2.2.2
   have hul:(t.take 3++(zeros 4++t.drop 7)).length=10:=by simp[ht]
   have HP3:=Lib.hid (And.intro p2 p3)
   clear h1 h2 hp ht hk hk2 p2 p3
   generalize t.take 3++(zeros 4++t.drop 7)=u at *
   go_wp2_with fail
   exact bodyPost_ret (v := .tuple #[.agg (aJ (yK t)),.bool true]) (aH Tryz.results12 (by rw[HP.out];exact aO.row rfl lC HP3.out.1) (by simp[aO])) rfl ⟨rfl,HP3.out.2⟩
  have hp:yK t=t.take 7++zeros 3:=by unfold yK;rw[if_pos h1]
  have HP:=Lib.hid hp
  have q1:(t.drop 7 == zeros 3)=false:=beq_eq_false_iff_ne.2 h1
  have n10:=aFX ht hk
  obtain ⟨p1,p2,p3⟩:=aDt (o:=7) (x:=aJ (zeros 3)) (u:=t.take 7++zeros 3) (by simp[ht]) hk2 HB.out.1 HB.out.2.2.2
  have hul:(t.take 7++zeros 3).length=10:=by simp[ht]
  have HP3:=Lib.hid (And.intro p2 p3)
  clear h1 hp ht hk hk2 p2 p3
  generalize t.take 7++zeros 3=u at *
  go_wp2_with fail
  exact bodyPost_ret (v := .tuple #[.agg (aJ (yK t)),.bool true]) (aH Tryz.results12 (by rw[HP.out];exact aO.row rfl lC HP3.out.1) (by simp[aO])) rfl ⟨rfl,HP3.out.2⟩
theorem aDT (t:List UInt8) (w:World) :
  Calls Tryz.prog 41 #[.agg (aJ t)] w fun e w'=>e = .returned (.func (.func 77) #[] #[.pointer (some ⟨w.heap.size,0,none⟩)])/\w'=w.alloc (.cells (aJ t) 60):=by
 have hmf:∀ (fn:Fn) (first cap:Array Value) (w:World),(Instr.makeFunc fn first cap).run Tryz.prog w = .ok (.func fn first cap) w:=fun _ _ _ _=>rfl
 go_enter Tryz.func41,Tryz.ntmps41
 go_wp2_with fail
 go_ret
 exact ⟨rfl,rfl⟩
end Go.Proofs.YtcedmfnlkelhkaaGreatDoor
namespace Go.Proofs.YtcedmfnlkelhkaaGreatDoor.Rd
set_option maxHeartbeats 40000000
set_option maxRecDepth 100000
open Go.RowKit Go.Shelf
attribute [local go_sem] Oper.semAt_some

theorem dI {w:World} {t:Nat} {o:Obj} (h:w.heap[t]? = some o):t<w.heap.size:=(Array.getElem?_eq_some_iff.1 h).1
theorem jS {w w':World} (h:Below w.heap.size w w'):w.grownBy w' none:=⟨h.os,h.tape,h.output,h.size,fun k hk _=>h.block k hk⟩
theorem rC {P:Program} {f n:Nat} {args:Array Value} {w:World} {v:Value} (h:Gives P f args w v) {Q:Ending->World->Prop} (hq:∀ xs d,Q (.returned v) (w.grow xs d)):CallsIn Fence.wide n P f args w Q:=callsIn_wide.2 (h.use hq)
abbrev L10 := { l:List UInt8 // l.length=10 }
def aN3 (t:L10):Array Value := #[.agg (aJ t.1)]
def chT (more:Bool) (x:List UInt8):List (List UInt8):=if more=true then oG x else []
def upL (t:List UInt8):List (List UInt8):=chT (aZ t) t
theorem aIP {x:List UInt8} (hx:x.length=10) (hr:aZ x=true):chT true x=x :: chT (oW x) (aA8 x):=by
 unfold chT
 rw[if_pos rfl,aCY hx]
 unfold aA8 oW
 rw[hr,Bool.true_and]
 by_cases hz:x=zeros 10
 ·simp[hz]
 have:(x == zeros 10)=false:=beq_eq_false_iff_ne.2 hz
 rw[this]
 simp[hz]
theorem aGc (b:Bool) (x:List UInt8):(chT b x).length<=4:=by
 unfold chT
 split
 ·exact aDV 4 x
 simp
theorem aFz {x:List UInt8} (hx:x.length=10) (h:oW x=true):aZ (aA8 x)=true:=by
 unfold aA8
 rw[if_pos h]
 unfold oW at h
 rw[Bool.and_eq_true] at h
 exact aBS hx h.1
def aKm (c:Array Value):List UInt8:=c.toList.map fun v=>match v with | .int _ n=>UInt8.ofNat n.toNat | _=>0
theorem aFy (l:List UInt8):aKm (aJ l)=l:=by
 unfold aKm aJ
 rw[List.map_map]
 conv=>rhs;rw[<-List.map_id l]
 exact List.map_congr_left (fun b _=>by simp)
def msT (s3 s4:Value) (w:World):Nat:=match s4 with
 | .bool true=>(match s3 with
  | .pointer (some a)=>(match w.aW a.block 0 10 with | some c=>1+tC (aKm c) | none=>0)
  | _=>0)
 | _=>0
theorem aJ0 {w:World} {b:Nat} {x:List UInt8} (h:w.heap[b]? = some (.cells (aJ x) 60)) (hx:x.length=10) (m:Bool):msT (.pointer (some ⟨b,0,none⟩)) (.bool m) w=if m=true then 1+tC x else 0:=by
 cases m with
 | false=>rfl
 | true =>
  have hc:w.aW b 0 10=some (aJ x):=aI h (by simp[hx])
  unfold msT
  simp only[hc,aFy,if_true]
def aLE (M:Nat) (v:Value) (w:World):Prop := ∃ b,v = .pointer (some ⟨b,0,none⟩)/\M<=b/\w.heap[b]? = some (.cells (aJ (zeros 10)) 60)
theorem aLE.keep {M:Nat} {v:Value} {w w':World} (h:aLE M v w) (hb:Below w.heap.size w w'):aLE M v w':=by
 obtain ⟨b,h1,h2,h3⟩:=h
 exact ⟨b,h1,h2,(hb.block _ (dI h3)).trans h3⟩
theorem aDU {kp:Obj->Bool} (hkp:∀ l:List UInt8,l.length=10->kp (.cells (aJ l) 60)=true) (n:Nat) (hn:4<=n) (t:List UInt8) (ht:t.length=10) (bx:Nat) (Kp:World->World->Prop) (w:World) (c0:w.heap[bx]? = some (.cells (aJ t) 60)) :
  yU kp Fence.wide n Tryz.prog 77 #[.pointer (some ⟨bx,0,none⟩)] aN3 Kp (fun ys=>ys.map (·.1)=upL t) (fun pre=>pre.map (·.1) <+: upL t) 4 w:=by
 intro l J Jx W hW hJ hJx hY h0
 have hl0:=(Array.getElem?_eq_some_iff.1 c0).1
 have hbx:=(hW.block bx hl0).trans c0
 have k0:W.aW bx 0 10=some (aJ t):=aI hbx (by simp[ht])
 have lbx:bx<W.heap.size:=(Array.getElem?_eq_some_iff.1 hbx).1
 have HR:=Lib.hid (kV t ht)
 have HY:=Lib.hid hY
 have HJ:=Lib.hid (And.intro hJ (And.intro hJx h0))
 obtain ⟨m0,hm0⟩:∃ m0,m0=aZ t:=⟨_,rfl⟩
 rw[<-hm0] at HR
 have HM:=Lib.hid hm0
 clear hY hW hJ hJx h0 hbx hm0 c0 hl0
 refine callsIn_of_wp Tryz.func77 rfl trivial ?_ rfl
 simp only[Tryz.ntmps77,List.size_toArray,List.length_cons,List.length_nil,Nat.reduceAdd,Nat.reduceSub,Array.replicate_succ,Array.replicate_zero,List.push_toArray,List.append_toArray,List.nil_append,List.cons_append]
 gi_wp2
 apply aG (by rfl) [.val _,.val _,.val _,.rel (aLE W.heap.size)] 4 (by rfl) [5,6,7,3] [] [] (by rfl) (by rfl) (by decide) (by decide +kernel) (fun _ _ _ _ _ h=>h)
 case hF=>intro x;simp only[over,List.foldl_cons,List.foldl_nil,List.setIfInBounds_toArray,List.set_cons_succ,List.set_cons_zero];exact rfl
 case hops =>
  refine ⟨?o0,?o1,?o2,?o3,trivial⟩
  case o0 =>
   intro x w1 hH K hK
   obtain ⟨xs,d,rfl⟩:=aA hH.below
   clear hH
   try simp only[World.aB] at hK |-
   try simp only[World.grow_grow] at hK |-
   exact zw
  case o1 =>
   intro x w1 hH K hK
   obtain ⟨xs,d,rfl⟩:=aA hH.below
   clear hH
   try simp only[World.aB] at hK |-
   try simp only[World.grow_grow] at hK |-
   exact zw
  case o2 =>
   intro x w1 hH K hK
   have e6:x 6=_:=hH.g 1 6
   obtain ⟨xs,d,rfl⟩:=aA hH.below
   clear hH
   try simp only[World.aB] at hK |-
   try simp only[World.grow_grow] at hK |-
   simp only[e6] at hK |-
   clear e6
   go_simp
   go_wp2_with (refine Gives.use (HR.out _) ?_;intro ys e)
   exact zu
  case o3 =>
   intro x w1 hH K hK
   obtain ⟨xs,d,rfl⟩:=aA hH.below
   clear hH
   try simp only[World.aB] at hK |-
   try simp only[World.grow_grow] at hK |-
   go_simp
   go_wp2_with fail
   exact ⟨_,rfl,fun w3 h3=>aLE.keep ⟨_,rfl,by simp,by rw[aC,if_pos (by simp)]⟩ h3,blw,fun h=>by cases h⟩
 intro x w1 hH
 have e5:x 5=_:=hH.t 0 5
 have e6:x 6=_:=hH.t 1 6
 have e7:x 7=_:=hH.t 2 7
 have r3:=hH.holds 3 (by decide) trivial 3 rfl (_) (Below.refl _ _)
 obtain ⟨xs,d,rfl⟩:=aA hH.below
 clear hH
 simp only[e5,e6,e7];clear e5 e6 e7
 simp only[List.drop_succ_cons,List.drop_zero]
 obtain ⟨v3,hv3⟩:∃ v3,v3=x 3:=⟨_,rfl⟩
 rw[<-hv3] at r3 |-
 clear hv3
 obtain ⟨bb,rfl,hlb,hbh⟩:=r3
 obtain ⟨W1,hW1⟩:∃ W1,W1=W.drew.grow xs d:=⟨_,rfl⟩
 have hb1:Below W.heap.size W W1:=by rw[hW1];exact (Below.refl _ W).drew.trans (aS (w:=W.drew) xs d)
 rw[<-hW1] at hbh |-
 have t1:W1.aN bb 0 10=true:=by simp[World.aN,hbh]
 have hst:(W1.lay bb 0 (aJ t)).heap[bb]? = some (.cells (aJ t) 60):=by
  have h3:(W1.lay bb 0 (aJ t)).heap[bb]? = some (.cells (bT (aJ (zeros 10)) 0 (aJ t)) 60):=by
   simp only[World.lay,Array.getElem?_modify,if_true,hbh,Option.map_some]
  rwa [dN (by simp[ht])] at h3
 have hb2:Below W.heap.size W (W1.lay bb 0 (aJ t)):=hb1.lay hlb
 have HST:=Lib.hid (And.intro hst hb2)
 have HLB:=Lib.hid hlb
 clear hW1 hb1 hst hb2 hbh k0
 gi_wp2
 gi_loopw [3,4] (fun s3 s4 wr => ∃ (b:Nat) (more:Bool) (u:List UInt8) (pre:List L10),s3 = .pointer (some ⟨b,0,none⟩)/\s4 = .bool more/\Hid (J pre wr)/\Hid (pre.map (·.1)++chT more u=upL t)/\u.length=10/\Hid (more=true->aZ u=true)/\Hid (W.heap.size<=b)/\Hid (wr.heap[b]? = some (.cells (aJ u) 60))) (fun s3 s4 wr=>msT s3 s4 wr)
 case atStart=>exact ⟨bb,m0,t, [],rfl,rfl,Lib.hid (HJ.out.1 [] W _ none HJ.out.2.2 (jS HST.out.2) (fun r e=>by cases e)),Lib.hid (by rw[HM.out];rfl),ht,Lib.hid (fun e=>by rw[<-HM.out,e]),HLB,Lib.hid HST.out.1⟩
 obtain ⟨b,more,u,pre,rfl,rfl,HJr,HPr,hu,HTR,HBb,HHb⟩:=hrel
 clear t1 HST HR HM HLB
 cases more with
 | false =>
  have HE:=Lib.hid (show pre.map (·.1)=upL t by rw[<-HPr.out];simp[chT])
  clear HPr HTR HBb HHb HY
  gi_wp2
  go_end0
  first
   | exact ⟨⟨_,rfl⟩,.inl ⟨_,HE.out,HJr.out⟩⟩
 | true =>
  have hnx:=aIP hu (HTR.out rfl)
  have HPX:=Lib.hid (show (pre ++ [⟨u,hu⟩]:List L10).map (·.1)++chT (oW u) (aA8 u)=upL t by rw[<-HPr.out,hnx,List.map_append,List.append_assoc];rfl)
  have hpl:pre.length<4:=by
   have h1:=aGc (aZ t) t
   have h2:=congrArg List.length HPX.out
   rw[List.length_append,List.length_map,List.length_append] at h2
   unfold upL at h2
   simp only[List.length_cons,List.length_nil] at h2
   omega
  have cb:wr.aW b 0 10=some (aJ u):=aI HHb.out (by simp[hu])
  have lb:b<wr.heap.size:=dI HHb.out
  have lul:(aJ u).size=10:=by simp[hu]
  obtain ⟨fn,tmps,assign,body,hy,hR⟩:=HY.out pre ⟨u,hu⟩ wr HJr.out hpl
  simp only[aN3] at hy
  have HPA:=Lib.hid (fun V=>vH u hu V)
  have HRK:=Lib.hid (show oW u=true->tC (aA8 u)<tC u from fun e=>by
   unfold aA8
   rw[if_pos e]
   unfold oW at e
   rw[Bool.and_eq_true] at e
   exact yL hu (by simpa using e.2))
  have hul:=aFA hu
  have HMS:=Lib.hid (show msT (.pointer (some ⟨b,0,none⟩)) (.bool true) wr=1+tC u from (aJ0 HHb.out hu true).trans (if_pos rfl))
  have HUR:=Lib.hid (fun e=>aFz hu e)
  clear hnx HPr HTR HY hpl
  gi_wp2_with fail
  refine ⟨fun _=>by omega,?_⟩
  refine hR.mono ?_
  rintro e W3 ⟨⟨rfl,hJ3,hk3⟩ | ⟨rfl,hJx3⟩,hu3⟩
  ·have hh3:=hu3.some (hkp u hu) HBb.out HHb.out
   have c3:W3.aW b 0 10=some (aJ u):=aI hh3 (by simp[hu])
   have l3:b<W3.heap.size:=dI hh3
   have HJ3:=Lib.hid (And.intro hJ3 (show W.heap.size<=W3.heap.size by have:=HBb.out;omega))
   generalize aA8 u=u2 at *
   generalize oW u=m2 at *
   clear hh3 hJ3 hk3 hu3 hy hR HJr HHb cb lb HBb
   gi_wp2_with fail
   refine ⟨trivial,fun _=>by omega,?_⟩
   refine rC (HPA.out _) ?_
   intro xs1 d1
   gi_wp2_with fail
   have hnew:((W3.alloc (.cells (aJ u2) 60)).grow xs1 d1).heap[W3.heap.size]? = some (.cells (aJ u2) 60):=by
    rw[World.bQ _ _ _ (by simp)]
    exact (aC _ _ _).trans (if_pos rfl)
   refine ⟨⟨W3.heap.size,m2,u2,pre ++ [⟨u,hu⟩],rfl,rfl,Lib.hid (HJ.out.1 _ W3 _ none HJ3.out.1 (jS blw) (fun r e=>by cases e)),HPX,hul,HUR,Lib.hid HJ3.out.2,Lib.hid hnew⟩,?_⟩
   rw[HMS.out,aJ0 hnew hul]
   cases m2 with
   | false=>simp;omega
   | true =>
    have:=HRK.out rfl
    simp only[if_true]
    omega
  have HW3:=Lib.hid hJx3
  clear hJx3 hu3 hy hR
  gi_wp2
  refine bodyPost_ret (results_none rfl _ _ _) rfl ?_
  exact ⟨⟨_,rfl⟩,.inr ⟨pre ++ [⟨u,hu⟩],by rw[<-HPX.out];exact List.prefix_append _ _,HW3.out⟩⟩
end Go.Proofs.YtcedmfnlkelhkaaGreatDoor.Rd
