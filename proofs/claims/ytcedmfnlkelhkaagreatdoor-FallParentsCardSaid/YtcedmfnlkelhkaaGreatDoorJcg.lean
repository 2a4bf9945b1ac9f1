/- Layer 19: the view of a branch: its chain. -/
import Derived.Test.YtcedmfnlkelhkaaGreatDoorJce
import Derived.Test.YtcedmfnlkelhkaaGreatDoorJbr
import Derived.Test.YtcedmfnlkelhkaaGreatDoorJcf
import Derived.BigRegion
import Derived.Deep.CutBlock
import Derived.Deep.Cut
import Derived.Handy
namespace Go.Proofs.YtcedmfnlkelhkaaGreatDoor.Dn
set_option maxRecDepth 100000
open Go.RowKit

@[go_sem ↓ high] theorem aJ6 (w:World):(Instr.makeMap 169 none).run Tryz.prog w = .ok (.map (some w.heap.size)) (w.alloc (.map #[] 0)):=by kernel_rfl
def ekL (n:Int):Value := .int .i64 n
theorem aOq:wV Tryz.prog 3 ekL (fun n=>(Lit.int .i64 n).wf=true):=aFV Tryz.underlying3
theorem wf_u8 (x:UInt8):(Lit.int .i64 (x.toNat:Int)).wf=true:=by
 have:=x.toNat_lt
 have e1:IntKind.i64.min = -9223372036854775808:=rfl
 have e2:IntKind.i64.max=9223372036854775807:=rfl
 simp only[Lit.wf,e1,e2,Bool.and_eq_true,decide_eq_true_eq]
 omega
def aJe (L:List (Int×Bool)) (met:List UInt8):Prop := ∀ j:UInt8,lk L (j.toNat:Int)=if j∈met then some true else none
theorem aJe.nil:aJe [] []:=fun _=>rfl
theorem aJe.put {L:List (Int×Bool)} {met:List UInt8} (h:aJe L met) (k:UInt8):aJe (put L (k.toNat:Int) true) (met ++ [k]):=by
 intro j
 rw[aHE]
 by_cases hj:j=k
 ·rw[if_pos (by rw[hj]),if_pos (by rw[hj];simp)]
 rw[if_neg (fun e=>hj (UInt8.toNat_inj.1 (by omega))),h j]
 by_cases hm:j∈met
 ·rw[if_pos hm,if_pos (List.mem_append_left _ hm)]
 rw[if_neg hm,if_neg (by simp[hj,hm])]
structure OfL (w:World) (s:Nat) (G:SG) (t:UInt64) (p b:UInt8) (vb mb N lb:Nat) (P:List Lnk) (l:Lnk) (lv:Value) (r:Rec) (L:List (Int×Bool)) (wr:World):Prop where
 low:Below w.heap.size w wr
 cells:wr.heap[vb]? = some (.cells (wS s t p lv r) 168)
 own:gU wr N 2 171 lv (P.map lM)
 map:gQ ekL evB (fun n=>(Lit.int .i64 n).wf=true) wr mb L
 met:aJe L (P.map (·.1))
 box:wr.heap[lb]? = some (.cells (lM l) 171)
 apart:lv.ownBlock≠some lb
 lbs:N<=lb
 chain:dG (aQ G) t p b 257 [] (b,qO)=P++dG (aQ G) t p b (257 - P.length) (P.map (·.1)).reverse l
 nodup:(P.map (·.1)).Nodup
 first:(P = []/\l=(b,qO)) \/ ∃ u r,P=(b,u) :: r
 own1:P ≠ []->r=(atV (aQ G (jH 4 p b)) t).1
def aLJ (B:Nat) (l:Lnk) (v:Value) (w:World):Prop := ∃ q t,v = .slice (some ⟨q,0,none⟩) 1 1/\B<=q/\w.heap[q]? = some (.cells (lM l) t)
theorem aLJ.keep {B:Nat} {l:Lnk} {v:Value} {w w':World} (h:aLJ B l v w) (hb:Below w.heap.size w w'):aLJ B l v w':=by
 obtain ⟨q,t,e,h1,h2⟩:=h
 exact ⟨q,t,e,h1,(hb.block q (Array.getElem?_eq_some_iff.1 h2).1).trans h2⟩
def aNh:Option Value->Nat
 | some (.slice _ n _)=>n
 | _=>0
def aPl:Array Value:=(Value.nilIface :: .int .i64 0 :: .slice none 0 0 :: xG Rec.zero).toArray
def aN0 (t:TypeId) (p q:Nat×Value):Sem Value:=Instr.build t #[p,q]
@[go_sem ↓ high] theorem aNV (f:Nat×Operand->Nat×Value) (p q:Nat×Operand):Instr.build 168 (Array.map f #[p,q])=aN0 168 (f p) (f q):=by simp[aN0]
@[go_sem] theorem aL0 (s:Nat) (t:UInt64) (p:UInt8) (w:World):(aN0 168 (0,.iface 96 (.agg #[.pointer (some ⟨s,0,none⟩),.int .u64 (t.toNat:Int)])) (1,.int .i64 (p.toNat:Int))).run Tryz.prog w = .ok (.agg (wS s t p (.slice none 0 0) Rec.zero)) w:=by
 unfold aN0
 refine fJ (zero := .agg aPl) (places := #[(0,1),(1,1),(2,1),(3,9)]) (by intro w;exact (Tryz.zeroValue168 w).trans rfl) Tryz.underlying168 (by intro w;kernel_rfl) ?_
 rfl
theorem aKU {G:SG} {t:UInt64} {b:UInt8} {P:List Lnk} {l:Lnk} (h:(P = []/\l=(b,qO)) \/ ∃ u r,P=(b,u) :: r) (k:K25):rdV G t (oJ P l) l k=iD (aQ G) t b l k:=by
 unfold rdV iD
 rcases h with ⟨rfl,rfl⟩ | ⟨u,r,rfl⟩
 ·simp[oJ]
 rw[zG]
 simp only[decide_eq_true_eq]
section
variable {w:World} {B s:Nat} {G:SG}
set_option maxHeartbeats 20000000 in
theorem aAY (hS:aV w B s G) (hs:Short G 100000) (t:UInt64) (p b:UInt8) (hp:p.toNat<4) (hb4:b.toNat<4) (hthere:(atV (aQ G (jH 4 p b)) t).2=true) :
  Calls Tryz.prog 19 #[aCE s t,.int .i64 (p.toNat:Int),.int .i64 (b.toNat:Int)] w fun e w'=>Below w.heap.size w w' /\ ∃ vb lv,e = .returned (.tuple #[.pointer (some ⟨vb,0,none⟩),.int .i64 0])/\w.heap.size<=vb/\nX w.heap.size lv /\
   VAt w' vb s t p lv (dG (aQ G) t p b 257 [] (b,qO)) (atV (aQ G (jH 4 p b)) t).1:=by
 have p0:((p.toNat:Int)<0)=False:=eq_false (by omega)
 have p4:¬ (4<=(p.toNat:Int)):=by omega
 have b0:((b.toNat:Int)<0)=False:=eq_false (by omega)
 have b4:¬ (4<=(b.toNat:Int)):=by omega
 have HS:=Lib.hid (And.intro hS hs)
 have HTH:=Lib.hid hthere
 have HZ:=Lib.hid pO
 clear hS hs hthere hp hb4
 unfold aCE
 go_enter Tryz.func19,Tryz.ntmps19
 go_upto_block 1 with fail
 refine aP ?_
 intro W hW
 obtain ⟨vb,hvb⟩:∃ vb,vb=w.heap.size:=⟨_,rfl⟩
 have hbW:Below w.heap.size w W:=by rw[hW];exact blw
 have h0:W.heap[vb]? = some (.cells (wS s t p (.slice none 0 0) Rec.zero) 168):=by rw[hW,hvb,aC,if_neg (by simp;omega),aC,if_neg (by simp),aC,if_pos rfl]
 have h1:W.heap[vb+1]? = some (.map #[] 0):=by rw[hW,hvb,aC,if_neg (by simp),aC,if_pos (by simp)]
 have h2:W.heap[vb+2]? = some (.cells (lM (b,qO)) 171):=by rw[hW,hvb,aC,if_pos (by simp)];rfl
 simp only[<-hvb]
 have hm1:gQ ekL evB (fun n=>(Lit.int .i64 n).wf=true) W (vb+1) []:=⟨#[],0,h1,MapKept.stamped_empty 0,rfl,fun p hp=>by simp at hp⟩
 have HI:=Lib.hid (show OfL w s G t p b vb (vb+1) (vb+2) (vb+2) [] (b,qO) (.slice none 0 0) Rec.zero [] W from
  ⟨hbW,h0,gU.nil _ _ _ _,hm1,aJe.nil,h2,by simp[Value.ownBlock],Nat.le_refl _,rfl,List.nodup_nil,.inl ⟨rfl,rfl⟩,fun h=>absurd rfl h⟩)
 have HVB:=Lib.hid hvb
 clear hW hbW h0 h1 h2 hm1 hvb p0 p4 b0 b4
 go_wp2_with fail
 go_loopw [10] (fun s10 wr => ∃ (lb:Nat) (P:List Lnk) (l:Lnk) (lv:Value) (r:Rec) (L:List (Int×Bool)),s10 = .pointer (some ⟨lb,0,none⟩)/\Hid (OfL w s G t p b vb (vb+1) (vb+2) lb P l lv r L wr)) (fun _ wr=>300 - aNh (wr.cell? ⟨vb,2,none⟩))
 case atStart=>exact ⟨vb+2, [],_,_,_,_,rfl,HI⟩
 clear HI
 obtain ⟨lb,P,l,lv,r,L,rfl,HL⟩:=hrel
 have hP:P.length<=256:=by have:=aEZ _ HL.out.nodup;simpa using this
 obtain ⟨n,hn⟩:∃ n,257 - P.length=n+1:=⟨256 - P.length,by omega⟩
 have hlbl:lb<wr.heap.size:=(Array.getElem?_eq_some_iff.1 HL.out.box).1
 have hvbl:vb<wr.heap.size:=(Array.getElem?_eq_some_iff.1 HL.out.cells).1
 have cb0:wr.cell? ⟨lb,0,none⟩=some (.int .i64 (l.1.toNat:Int)):=(aF HL.out.box 0).1.trans rfl
 have cb1:wr.cell? ⟨lb,1,none⟩=some (.int .u64 (l.2.toNat:Int)):=(aF HL.out.box 1).1.trans rfl
 have hlk:=wB (P:=Tryz.prog) aOq Tryz.underlying169 HL.out.map (k:=(l.1.toNat:Int)) (wf_u8 l.1) (HZ.out wr) false
 rw[HL.out.met l.1] at hlk
 have hch:=HL.out.chain
 rw[hn] at hch
 by_cases hm:l.1∈P.map (·.1)
 ·have hce:dG (aQ G) t p b 257 [] (b,qO)=P:=by
   rw[hch]
   unfold dG
   rw[if_pos (by simpa using hm),List.append_nil]
  have hne:P ≠ []:=fun e=>by rw[e] at hm;simp at hm
  have hrr:=HL.out.own1 hne
  have HF:=Lib.hid (And.intro hce hrr)
  rw[if_pos hm] at hlk
  simp only[Option.map_some,Option.getD_some,evB,ekL] at hlk
  clear hm hch hn hP hne hce hrr cb1
  go_wp2_with fail
  exact bodyPost_ret (v := .tuple #[.pointer (some ⟨vb,0,none⟩),.int .i64 0]) (by simp[results,Tryz.results19,go_sem]) rfl ⟨HL.out.low,vb,lv,rfl,Nat.le_of_eq HVB.out.symm,HL.out.own.aFR.mono (by have:=HVB.out;omega),by
   rw[HF.out.1,<-HF.out.2]
   exact ⟨HL.out.cells,HL.out.own.sl⟩⟩
 rw[if_neg hm] at hlk
 simp only[Option.map_none,Option.getD_none,ekL] at hlk
 have hch2:dG (aQ G) t p b 257 [] (b,qO)=P++(if (iD (aQ G) t b l (jH 4 p l.1)).2=false\/l.1=0 then [l] else l :: dG (aQ G) t p b n (l.1 :: (P.map (·.1)).reverse) ((iD (aQ G) t b l (jH 4 p l.1)).1.parent,(iD (aQ G) t b l (jH 4 p l.1)).1.at_)):=by
  rw[hch]
  conv=>lhs;unfold dG
  rw[if_neg (by simpa using hm)]
 have hVA:VAt wr vb s t p lv P r:=⟨HL.out.cells,HL.out.own.sl⟩
 have hSr:=HS.out.1.keep HL.out.low
 have hrd:=aKU (G:=G) (t:=t) HL.out.first (jH 4 p l.1)
 have hfst:P = []->(iD (aQ G) t b l (jH 4 p l.1)).2=true/\(iD (aQ G) t b l (jH 4 p l.1)).1=(atV (aQ G (jH 4 p b)) t).1:=by
  intro e
  rcases HL.out.first with ⟨_,rfl⟩ | ⟨u,q,h⟩
  ·unfold iD
   rw[if_pos rfl]
   exact ⟨HTH.out,rfl⟩
  rw[e] at h;cases h
 have HBR:=Lib.hid (fun (V:World) (hb:Below wr.heap.size wr V)=>vI (hVA.up hb) l.1)
 have hrdg:=fun (V:World) (hb:Below wr.heap.size wr V)=>tV (hSr.keep hb) HS.out.2 (hVA.up hb) l (jH 4 p l.1)
 rw[hrd] at hrdg
 obtain ⟨rd,hrdd⟩:∃ rd,rd=iD (aQ G) t b l (jH 4 p l.1):=⟨_,rfl⟩
 rw[<-hrdd] at hch2 hrdg hfst
 have HRD:=Lib.hid hrdg
 have HCH:=Lib.hid hch2
 have HFS:=Lib.hid hfst
 have HNM:=Lib.hid hm
 obtain ⟨rr,is_⟩:=rd
 obtain ⟨l0,l1⟩:=l
 simp only at *
 have hkl:=(jH 4 p l0).len
 clear hm hch hch2 hVA hSr hrd hrdg hrdd hfst
 go_upto_region 9 with fail
 go_cut [11,12] (fun v11 v12 wx=>v12 = .bool is_ /\ ∃ rb,v11 = .pointer (some ⟨rb,0,none⟩)/\Hid (wx.heap[rb]? = some (.cells (bI rr) 101)/\wr.heap.size<=rb/\Below wr.heap.size wr wx))
 case first =>
  clear HCH HFS HNM HL HS HTH HZ HVB hlk hP hn
  go_wp2_with fail
  apply aG (by rfl) [.val _,.val _,.val _,.val _,.val _,.val _,.val _,.val _,.val _,.pure _,.new _] 11 (by rfl) [44,45,46,47,48,49,50,43,51,52,11] [10] [9] (by rfl) (by rfl) (by decide) (by decide +kernel) (fun _ _ _ _ _ h=>h)
  case hF=>intro x;simp only[over,List.foldl_cons,List.foldl_nil,List.setIfInBounds_toArray,List.set_cons_succ,List.set_cons_zero];exact rfl
  case hops =>
   refine ⟨?o0,?o1,?o2,?o3,?o4,?o5,?o6,?o7,?o8,?o9,?o10,trivial⟩
   case o0 =>
    intro x w1 hH K hK
    obtain ⟨xs,d,rfl⟩:=aA hH.below
    clear hH
    try simp only[World.aB] at hK |-
    try simp only[World.grow_grow] at hK |-
    exact zv
   case o1 =>
    intro x w1 hH K hK
    obtain ⟨xs,d,rfl⟩:=aA hH.below
    clear hH
    try simp only[World.aB] at hK |-
    try simp only[World.grow_grow] at hK |-
    exact zv
   case o2 =>
    intro x w1 hH K hK
    obtain ⟨xs,d,rfl⟩:=aA hH.below
    clear hH
    try simp only[World.aB] at hK |-
    try simp only[World.grow_grow] at hK |-
    exact zv
   case o3 =>
    intro x w1 hH K hK
    obtain ⟨xs,d,rfl⟩:=aA hH.below
    clear hH
    try simp only[World.aB] at hK |-
    try simp only[World.grow_grow] at hK |-
    exact zv
   case o4 =>
    intro x w1 hH K hK
    have e47:x 47=_:=hH.g 3 47
    obtain ⟨xs,d,rfl⟩:=aA hH.below
    clear hH
    try simp only[World.aB] at hK |-
    try simp only[World.grow_grow] at hK |-
    simp only[e47] at hK |-
    clear e47
    exact zv
   case o5 =>
    intro x w1 hH K hK
    have e46:x 46=_:=hH.g 2 46
    have e48:x 48=_:=hH.g 4 48
    obtain ⟨xs,d,rfl⟩:=aA hH.below
    clear hH
    try simp only[World.aB] at hK |-
    try simp only[World.grow_grow] at hK |-
    simp only[e46,e48] at hK |-
    clear e46 e48
    go_simp
    go_wp2_with (refine Gives.use (HBR.out _ blw) ?_;intro ys e)
    exact zu
   case o6 =>
    intro x w1 hH K hK
    have e44:x 44=_:=hH.g 0 44
    have e45:x 45=_:=hH.g 1 45
    have e49:x 49=_:=hH.g 5 49
    obtain ⟨xs,d,rfl⟩:=aA hH.below
    clear hH
    try simp only[World.aB] at hK |-
    try simp only[World.grow_grow] at hK |-
    simp only[e44,e45,e49] at hK |-
    clear e44 e45 e49
    go_simp
    go_wp2_with (refine Gives.use (HRD.out _ blw) ?_;intro ys e)
    exact zu
   case o7 =>
    intro x w1 hH K hK
    have e50:x 50=_:=hH.g 6 50
    obtain ⟨xs,d,rfl⟩:=aA hH.below
    clear hH
    try simp only[World.aB] at hK |-
    try simp only[World.grow_grow] at hK |-
    simp only[e50] at hK |-
    clear e50
    exact zv
   case o8 =>
    intro x w1 hH K hK
    have e43:x 43=_:=hH.g 7 43
    obtain ⟨xs,d,rfl⟩:=aA hH.below
    clear hH
    try simp only[World.aB] at hK |-
    try simp only[World.grow_grow] at hK |-
    simp only[e43] at hK |-
    clear e43
    exact zv
   case o9 =>
    intro x w1 hH
    have e43:x 43=_:=hH.g 7 43
    clear hH
    simp only[e43]
    exact Or.inl ⟨rfl,fun _=>rfl⟩
   case o10 =>
    intro x w1 hH K hK
    obtain ⟨xs,d,rfl⟩:=aA hH.below
    clear hH
    try simp only[World.aB] at hK |-
    try simp only[World.grow_grow] at hK |-
    go_simp
    go_wp2_with fail
    exact lJ rfl (by simp) (by first | (simp;done) | (simp;omega))
  intro x w1 hH
  have e44:x 44=_:=hH.t 0 44
  have e45:x 45=_:=hH.t 1 45
  have e46:x 46=_:=hH.t 2 46
  have e47:x 47=_:=hH.t 3 47
  have e48:x 48=_:=hH.t 4 48
  have e49:x 49=_:=hH.t 5 49
  have e50:x 50=_:=hH.t 6 50
  have e43:x 43=_:=hH.t 7 43
  have e51:x 51=_:=hH.t 8 51
  have e52:x 52=_:=hH.t 9 52
  obtain ⟨b11,e11,l11,u11,o11⟩:=hH.t 10 11
  obtain ⟨xs,d,rfl⟩:=aA hH.below
  clear hH
  simp only[e44,e45,e46,e47,e48,e49,e50,e43,e51,e52,e11];clear e44 e45 e46 e47 e48 e49 e50 e43 e51 e52 e11
  refine rO o11 l11 u11 ?_
  clear o11
  simp[go_sem] at l11 u11
  simp only[List.drop_succ_cons,List.drop_zero]
  go_wp2_with fail
  go_meet
  exact ⟨rfl,_,rfl,Lib.hid ⟨World.dX _ (by first | (simp;omega) | simp),by first | assumption | omega,blw⟩⟩
 obtain ⟨rfl,rb,rfl,HR⟩:=hcut
 generalize wc=X at *
 clear HBR HRD
 obtain ⟨hrb,hge,hbc⟩:=HR.out
 have hsz:=hbc.size
 have hvc:X.heap[vb]? = some (.cells (wS s t p lv r) 168):=(hbc.block vb hvbl).trans HL.out.cells
 have hlc:X.heap[lb]? = some (.cells (lM (l0,l1)) 171):=(hbc.block lb hlbl).trans HL.out.box
 have hmc:=HL.out.map.keep (hbc.block _ HL.out.map.lt)
 have hoc:=HL.out.own.below hbc
 obtain ⟨a,cap,hlv,hcap,hlc2⟩:=HL.out.own.form
 rw[List.length_map] at hlv hlc2
 subst hlv
 have kv2:X.cell? ⟨vb,2,none⟩=some (.slice a P.length cap):=(aF hvc 2).1.trans rfl
 have hvbc:vb<X.heap.size:=by omega
 have hlbc:lb<X.heap.size:=by omega
 have hrbc:rb<X.heap.size:=(Array.getElem?_eq_some_iff.1 hrb).1
 have krb:X.aW rb 0 9=some (bI rr):=aI hrb (by simp)
 have hth:X.aN vb 3 9=true:=by simp[World.aN,hvc,wS,aMi,xG]
 obtain ⟨rt,hrt⟩:∃ rt,rt=(atV (aQ G (jH 4 p b)) t).1:=⟨_,rfl⟩
 have HC:=Lib.hid (And.intro hrb (And.intro hvc (And.intro hlc (And.intro hmc (And.intro hoc (And.intro (HL.out.low.trans (hbc.mono HL.out.low.size)) hge))))))
 have HRT:=Lib.hid hrt
 have hmb:vb+1<X.heap.size:=hmc.lt
 have hlbN:=HL.out.lbs
 clear hrb hge hbc hvc hlc hmc hoc HR hrt
 go_upto_region 10 with fail
 go_cut [62] (fun v wx=>v = .bool false/\wx=X)
 case first =>
  by_cases hP0:P = []
  ·have his:is_=true:=(HFS.out hP0).1
   subst his
   clear HFS HCH HC HL HNM HS HTH HZ HVB HRT hP0 hth krb hn hcap hlk
   go_wp2_with fail
   go_meet
   exact ⟨rfl,rfl⟩
  have hn0:((P.length:Int) == 0)=false:=by rw[beq_eq_false_iff_ne];have:=List.length_pos_iff.2 hP0;omega
  clear HFS HCH HC HL HNM HS HTH HZ HVB HRT hP0 hth krb hn hcap hlk
  cases is_ with
  | true =>
   go_wp2_with fail
   go_meet
   exact ⟨rfl,rfl⟩
  | false =>
   go_wp2_with fail
   go_meet
   exact ⟨rfl,rfl⟩
 obtain ⟨rfl,rfl⟩:=hcut
 generalize wc=X at *
 clear hlk
 go_upto_if 68 with fail
 go_cut [] (fun wx=>Hid (wx.heap[vb]? = some (.cells (wS s t p (.slice a P.length cap) rt) 168)/\(∀ c,c≠vb->wx.heap[c]? = X.heap[c]?)/\wx.heap.size=X.heap.size/\Below w.heap.size w wx))
 case first =>
  by_cases hP0:P = []
  ·have hrr:=(HFS.out hP0).2
   have hn0:((P.length:Int) == 0)=true:=by rw[hP0];rfl
   have HF:=Lib.hid (show rt=rr from HRT.out.trans hrr.symm)
   clear HFS HCH HL HNM HS HTH HZ HRT hP0 hn hcap hrr
   go_wp2_with fail
   go_meet
   have hvw:=HVB.out
   have hh:(X.lay vb 3 (bI rr)).heap[vb]? = some (.cells (wS s t p (.slice a P.length cap) rr) 168):=by
    simp only[World.lay,Array.getElem?_modify,HC.out.2.1,if_true,Option.map_some]
    rfl
   exact Lib.hid ⟨by rw[HF.out];exact hh,fun c hc=>aY hc,lay_size _ _ _,HC.out.2.2.2.2.2.1.lay (by omega)⟩
  have hn0:((P.length:Int) == 0)=false:=by rw[beq_eq_false_iff_ne];have:=List.length_pos_iff.2 hP0;omega
  have HF:=Lib.hid (show rt=r from HRT.out.trans (HL.out.own1 hP0).symm)
  clear HFS HCH HL HNM HS HTH HZ HVB HRT hP0 hn hcap
  go_wp2_with fail
  go_meet
  exact Lib.hid ⟨by rw[HF.out];exact HC.out.2.1,fun _ _=>rfl,rfl,HC.out.2.2.2.2.2.1⟩
 generalize wc=Y at *
 obtain ⟨hvY,hkY,hsY,hbY⟩:=hcut.out
 clear hcut HFS HTH
 obtain ⟨hrX,hvX,hlX,hmX,hoX,hbX,hge⟩:=HC.out
 have hmY:=hmX.keep (hkY (vb+1) (by omega))
 have hoY:gU Y (vb+2) 2 171 (.slice a P.length cap) (P.map lM):=hoX.keep (fun g hg _=>hkY g (by have:=(hoX.lt g hg).1;omega))
 have hlY:Y.heap[lb]? = some (.cells (lM (l0,l1)) 171):=(hkY lb (by omega)).trans hlX
 have hrY:Y.heap[rb]? = some (.cells (bI rr) 101):=(hkY rb (by omega)).trans hrX
 obtain ⟨Z,hrun,hmZ,hoZ,_⟩:=aB3 (P:=Tryz.prog) aOq Tryz.underlying169 hmY (k:=(l0.toNat:Int)) (wf_u8 l0) true
 simp only[evB,ekL] at hrun
 have kl0:Y.cell? ⟨lb,0,none⟩=some (.int .i64 (l0.toNat:Int)):=(aF hlY 0).1.trans rfl
 have hlbY:lb<Y.heap.size:=by omega
 have hvZ:Z.heap[vb]? = some (.cells (wS s t p (.slice a P.length cap) rt) 168):=(hoZ.block vb (by omega)).trans hvY
 have hlZ:=(hoZ.block lb (by omega)).trans hlY
 have hrZ:=(hoZ.block rb (by omega)).trans hrY
 have hoZ2:gU Z (vb+2) 2 171 (.slice a P.length cap) (P.map lM):=hoY.keep (fun g hg _=>hoZ.block g (by have:=(hoY.lt g hg).1;omega))
 have hwv:=HVB.out
 have hbZ:Below w.heap.size w Z:=hbY.only hoZ (by omega)
 have hmt:=HL.out.met.put l0
 have hgap:∀ g,(Value.slice a P.length cap).ownBlock=some g->vb+2<=g/\g≠lb/\g<wr.heap.size:=fun g hg=>⟨(HL.out.own.lt g hg).1,fun e=>HL.out.apart (by rw[hg,e]),(HL.out.own.lt g hg).2⟩
 have hvrb:vb<rb:=by omega
 have hsZ:=hoZ.size
 have hszZ:Z.heap.size=X.heap.size:=by omega
 have HQ:=Lib.hid (And.intro hvZ (And.intro hlZ (And.intro hrZ (And.intro hoZ2 (And.intro hmZ (And.intro hbZ (And.intro hmt (And.intro hgap hge))))))))
 clear hvY hkY hsY hbY hrX hvX hlX hmX hoX hbX hmY hoY hlY hrY hmZ hoZ hvZ hlZ hrZ hoZ2 hbZ hmt hgap HC hwv hsZ hth krb kv2
 go_upto_region 15 with fail
 clear hrun kl0 hlbY
 go_cut [] (fun wx=>Hid (∃ v',wx.heap[vb]? = some (.cells (wS s t p v' rt) 168)/\gU wx (vb+2) 2 171 v' ((P ++ [(l0,l1)]).map lM)/\gQ ekL evB (fun n=>(Lit.int .i64 n).wf=true) wx (vb+1) (put L (l0.toNat:Int) true) /\
  wx.heap[lb]? = some (.cells (lM (l0,l1)) 171)/\wx.heap[rb]? = some (.cells (bI rr) 101)/\Below w.heap.size w wx/\v'.ownBlock≠some lb))
 case first =>
  have z2:Z.cell? ⟨vb,2,none⟩=some (.slice a P.length cap):=(aF HQ.out.1 2).1.trans rfl
  have zl0:Z.cell? ⟨lb,0,none⟩=some (.int .i64 (l0.toNat:Int)):=(aF HQ.out.2.1 0).1.trans rfl
  have zl1:Z.cell? ⟨lb,1,none⟩=some (.int .u64 (l1.toNat:Int)):=(aF HQ.out.2.1 1).1.trans rfl
  have lvZ:vb<Z.heap.size:=by omega
  have llZ:lb<Z.heap.size:=by omega
  have lrZ:rb<Z.heap.size:=by omega
  have HN:=Lib.hid (And.intro hP (And.intro lrZ (And.intro hlbN (And.intro hvrb (Nat.le_of_eq HVB.out.symm:w.heap.size<=vb)))))
  clear HL HS HZ HVB HRT HNM HCH hcap hn hP hvbl hlbl hlbN hvrb lrZ hmb hszZ hvbc hlbc hrbc
  go_wp2_with fail
  apply yA (by rfl) [.pure _,.val _,.val _,.val _,.val _,.val _,.rel (aLJ Z.heap.size (l0,l1))] 7 (by rfl) [76,77,78,79,80,81,82] [] [0] (by rfl) (by rfl) (by decide) (by decide +kernel) (fun _ _ _ _ _ h=>h)
  case hF=>intro x;simp only[over,List.foldl_cons,List.foldl_nil,List.setIfInBounds_toArray,List.set_cons_succ,List.set_cons_zero];exact rfl
  case hops =>
   refine ⟨?o0,?o1,?o2,?o3,?o4,?o5,?o6,trivial⟩
   case o0 =>
    intro x w1 hH
    clear hH
    exact Or.inl ⟨rfl,fun _=>rfl⟩
   case o1 =>
    intro x w1 hH K hK
    obtain ⟨xs,d,rfl⟩:=aA hH.below
    clear hH
    try simp only[World.aB] at hK |-
    try simp only[World.grow_grow] at hK |-
    exact zv
   case o2 =>
    intro x w1 hH K hK
    have e77:x 77=_:=hH.g 1 77
    obtain ⟨xs,d,rfl⟩:=aA hH.below
    clear hH
    try simp only[World.aB] at hK |-
    try simp only[World.grow_grow] at hK |-
    simp only[e77] at hK |-
    clear e77
    exact zv
   case o3 =>
    intro x w1 hH K hK
    have e78:x 78=_:=hH.g 2 78
    obtain ⟨xs,d,rfl⟩:=aA hH.below
    clear hH
    try simp only[World.aB] at hK |-
    try simp only[World.grow_grow] at hK |-
    simp only[e78] at hK |-
    clear e78
    exact zv
   case o4 =>
    intro x w1 hH K hK
    have e79:x 79=_:=hH.g 3 79
    obtain ⟨xs,d,rfl⟩:=aA hH.below
    clear hH
    try simp only[World.aB] at hK |-
    try simp only[World.grow_grow] at hK |-
    simp only[e79] at hK |-
    clear e79
    exact zv
   case o5 =>
    intro x w1 hH K hK
    obtain ⟨xs,d,rfl⟩:=aA hH.below
    clear hH
    try simp only[World.aB] at hK |-
    try simp only[World.grow_grow] at hK |-
    exact zv
   case o6 =>
    intro x w1 hH K hK
    have e81:x 81=_:=hH.g 5 81
    obtain ⟨xs,d,rfl⟩:=aA hH.below
    clear hH
    try simp only[World.aB] at hK |-
    try simp only[World.grow_grow] at hK |-
    simp only[e81] at hK |-
    clear e81
    go_simp
    go_wp2_with fail
    exact ⟨_,rfl,fun w3 h3=>aLJ.keep ⟨_,_,rfl,by simp,by rw[aC,if_pos (by simp)];rfl⟩ h3,blw,fun h=>by cases h⟩
  intro x w1 hH
  have e76:x 76=_:=hH.t 0 76
  have e77:x 77=_:=hH.t 1 77
  have e78:x 78=_:=hH.t 2 78
  have e79:x 79=_:=hH.t 3 79
  have e80:x 80=_:=hH.t 4 80
  have e81:x 81=_:=hH.t 5 81
  have r82:=hH.holds 6 (by decide) trivial 82 rfl (_) (Below.refl _ _)
  obtain ⟨xs,d,rfl⟩:=aA hH.below
  clear hH
  simp only[e76,e77,e78,e79,e80,e81];clear e76 e77 e78 e79 e80 e81
  obtain ⟨q82,t82,h82,hge82,hh82⟩:=r82
  obtain ⟨hvZ,hlZ,hrZ,hoZ,hmZ,hbZ,hmt,hgap,hge⟩:=HQ.out
  obtain ⟨Y,hY⟩:∃ Y,Y=Z.drew.grow xs d:=⟨_,rfl⟩
  have hbY:Below Z.heap.size Z Y:=by rw[hY];exact ((Below.refl _ Z).drew).grow (Nat.le_refl _) xs d
  rw[<-hY] at hh82 |-
  have yv:=(hbY.block vb lvZ).trans hvZ
  have yl:=(hbY.block lb llZ).trans hlZ
  have yr:=(hbY.block rb HN.out.2.1).trans hrZ
  have yo:=hoZ.below hbY
  have ym:=hmZ.keep (hbY.block _ hmZ.lt)
  have yb:Below w.heap.size w Y:=hbZ.trans (hbY.mono hbZ.size)
  have HYY:=Lib.hid (And.intro yv (And.intro yl (And.intro yr (And.intro yo (And.intro ym (And.intro yb (And.intro hgap hbY.size)))))))
  have HHH:=Lib.hid (And.intro hge82 hh82)
  clear hY hbY yv yl yr yo ym yb hvZ hlZ hrZ hoZ hmZ hbZ hmt hgap hge HQ hge82 hh82 z2 zl0 zl1
  show wpAny _ .any _ _ (3+1) _ _ _
  refine yP 7 rfl (by decide +kernel) ?_
  intro K' hK'
  simp only[h82] at hK' |-
  clear h82
  refine step_append (o:=⟨some 83,_,_,_,_,_⟩) (B:=vb+2) (xs:=P.map lM) (ys := [lM (l0,l1)]) aHY rfl (.tmp 80) (.tmp 82) rfl (v:=_) rfl ?_ (y:=_) rfl ?_ ?_ ?_ ?_ ?_
  ·exact HYY.out.2.2.2.1
  ·exact ⟨_,pW (Nat.le_refl _) (by decide) (aI HHH.out.2 rfl)⟩
  ·exact aBi [(l0,l1)]
  ·have:=HN.out.1
   simp;omega
  ·have:=(Array.getElem?_eq_some_iff.1 HYY.out.1).1
   have:=HYY.out.2.2.2.2.1.lt
   omega
  intro v' w' ho hg hv
  have hg:Y.grownBy w' (Value.slice a P.length cap).ownBlock:=hg
  have hv:v'.ownBlock=(Value.slice a P.length cap).ownBlock\/v'.ownBlock=some Y.heap.size:=hv
  refine hK' _ _ ?_
  clear hK' K'
  obtain ⟨yv,yl,yr,yo,ym,yb,hgap,hys⟩:=HYY.out
  have hn1:=HN.out.2.2.1
  have hn2:=HN.out.2.2.2.1
  have hn3:=HN.out.2.2.2.2
  have key:∀ c,c<Y.heap.size->(∀ g,(Value.slice a P.length cap).ownBlock=some g->c≠g)->w'.heap[c]? = Y.heap[c]? := fun c hc hn=>hg.block c hc (fun e=>hn c e.symm rfl)
  have lvY:vb<Y.heap.size:=by omega
  have llY:lb<Y.heap.size:=by omega
  have lrY:rb<Y.heap.size:=by have:=HN.out.2.1;omega
  have wv:=(key vb lvY (fun g hg=>by have:=(hgap g hg).1;omega)).trans yv
  have wl:=(key lb llY (fun g hg e=>(hgap g hg).2.1 e.symm)).trans yl
  have wrr:=(key rb lrY (fun g hg=>by have:=(hgap g hg).2.2;omega)).trans yr
  have wm:=ym.keep (key (vb+1) ym.lt (fun g hg=>by have:=(hgap g hg).1;omega))
  have wb:Below w.heap.size w w':=Below.grown yb hg (by omega) (fun q hq=>by have:=(hgap q hq).1;omega)
  have wap:v'.ownBlock≠some lb:=by
   rcases hv with h | h
   ·rw[h];exact fun e=>(hgap lb e).2.1 rfl
   rw[h];intro e;have:=Option.some.inj e;omega
  have wo:gU w' (vb+2) 2 171 v' ((P ++ [(l0,l1)]).map lM):=by simpa using ho
  obtain ⟨a9,c9,hv9,_,_⟩:=wo.form
  obtain ⟨n9,hn9⟩:∃ n9,n9=((P ++ [(l0,l1)]).map lM).length:=⟨_,rfl⟩
  rw[<-hn9] at hv9
  subst hv9
  have w2c:w'.cell? ⟨vb,2,none⟩=some (.slice a P.length cap):=(aF wv 2).1.trans rfl
  have w2f:=(aF wv 2).2
  have lvw:vb<w'.heap.size:=(Array.getElem?_eq_some_iff.1 wv).1
  have HFIN:=Lib.hid (show ∀ V,V=w'.setCell ⟨vb,2,none⟩ (.slice a9 n9 c9) -> ∃ v',V.heap[vb]? = some (.cells (wS s t p v' rt) 168)/\gU V (vb+2) 2 171 v' ((P ++ [(l0,l1)]).map lM)/\gQ ekL evB (fun n=>(Lit.int .i64 n).wf=true) V (vb+1) (put L (l0.toNat:Int) true) /\
    V.heap[lb]? = some (.cells (lM (l0,l1)) 171)/\V.heap[rb]? = some (.cells (bI rr) 101)/\Below w.heap.size w V/\v'.ownBlock≠some lb by
   rintro V rfl
   have vk:∀ c,c≠vb->(w'.setCell ⟨vb,2,none⟩ (.slice a9 n9 c9)).heap[c]? = w'.heap[c]? := fun c hc=>Below.heap_setCell _ ⟨vb,2,none⟩ _ c hc
   refine ⟨.slice a9 n9 c9,?_,wo.keep (fun g hg _=>vk g (by have:=(wo.lt g hg).1;omega)),wm.keep (vk (vb+1) (by omega)),(vk lb (by omega)).trans wl,(vk rb (by omega)).trans wrr,wb.setCell (by simp;omega) _,wap⟩
   have:=bC wv 2 (.slice a9 n9 c9)
   rw[this]
   rfl)
  clear yv yl yr yo ym yb hgap hys hn1 hn2 hn3 key lvY llY lrY wv wl wrr wm wb wap wo hn9 ho hg hv HYY HHH HN
  show wpAny _ .any _ _ (2+1) _ _ _
  refine yP 8 rfl (by decide +kernel) ?_
  intro K' hK'
  go_simp
  refine hK' _ _ ?_
  clear hK' K'
  show wpAny _ .any _ _ (1+1) _ _ _
  refine yP 9 rfl (by decide +kernel) ?_
  intro K' hK'
  go_simp
  refine hK' _ _ ?_
  clear hK' K'
  show wpAny _ .any _ _ (0+1) _ _ _
  refine yP 10 rfl (by decide +kernel) ?_
  intro K' hK'
  go_simp
  refine hK' _ _ ?_
  clear hK' K'
  refine wpAny_done (by decide +kernel) ?_ _
  go_wp2_with fail
  go_meet
  exact Lib.hid (HFIN.out _ rfl)
 generalize wc=V at *
 obtain ⟨v',hv,ho,hmp,hl,hr,hbl,hap⟩:=hcut.out
 have HAP:=Lib.hid hap
 clear hap
 have r3:V.cell? ⟨rb,3,none⟩=some (.int .u8 (rr.parent.toNat:Int)):=(aF hr 3).1.trans rfl
 have r7:V.cell? ⟨rb,7,none⟩=some (.int .u64 (rr.at_.toNat:Int)):=(aF hr 7).1.trans rfl
 have q0:V.cell? ⟨lb,0,none⟩=some (.int .i64 (l0.toNat:Int)):=(aF hl 0).1.trans rfl
 have q1:V.cell? ⟨lb,1,none⟩=some (.int .u64 (l1.toNat:Int)):=(aF hl 1).1.trans rfl
 have q0f:=(aF hl 0).2
 have q1f:=(aF hl 1).2
 have llV:lb<V.heap.size:=(Array.getElem?_eq_some_iff.1 hl).1
 have lrV:rb<V.heap.size:=(Array.getElem?_eq_some_iff.1 hr).1
 have hwp:IntKind.i64.wrap (rr.parent.toNat:Int)=rr.parent.toNat:=IntWalk.i64_in _ (by have:=rr.parent.toNat_lt;omega)
 by_cases hx:is_=false\/l0=0
 ·have hce:dG (aQ G) t p b 257 [] (b,qO)=P ++ [(l0,l1)]:=by rw[HCH.out,if_pos hx]
  have HF:=Lib.hid (show VAt V vb s t p v' (dG (aQ G) t p b 257 [] (b,qO)) (atV (aQ G (jH 4 p b)) t).1 from by
   rw[hce,<-HRT.out]
   exact ⟨hv,ho.sl⟩)
  have HG:=Lib.hid (And.intro hbl (And.intro (ho.aFR.mono (show w.heap.size<=vb+2 by have:=HVB.out;omega)) (Nat.le_of_eq HVB.out.symm)))
  have hq0:is_=true->((l0.toNat:Int) == 0)=true:=fun h=>by
   rcases hx with h2 | h2
   ·rw[h] at h2;cases h2
   rw[h2];rfl
  clear hce hx hcut hv ho hmp hl hr hbl HQ HCH HNM HRT HL HS HZ HVB hn hP hcap r3 r7 hwp
  cases is_ with
  | false =>
   clear hq0
   go_wp2_with fail
   exact bodyPost_ret (v := .tuple #[.pointer (some ⟨vb,0,none⟩),.int .i64 0]) (by simp[results,Tryz.results19,go_sem]) rfl ⟨HG.out.1,vb,v',rfl,HG.out.2.2,HG.out.2.1,HF.out⟩
  | true =>
   have hq1:=hq0 rfl
   clear hq0
   go_wp2_with fail
   exact bodyPost_ret (v := .tuple #[.pointer (some ⟨vb,0,none⟩),.int .i64 0]) (by simp[results,Tryz.results19,go_sem]) rfl ⟨HG.out.1,vb,v',rfl,HG.out.2.2,HG.out.2.1,HF.out⟩
 have hce:dG (aQ G) t p b 257 [] (b,qO)=P++(l0,l1) :: dG (aQ G) t p b n (l0 :: (P.map (·.1)).reverse) (rr.parent,rr.at_):=by rw[HCH.out,if_neg hx]
 have his:is_=true:=by cases is_ with
  | true=>rfl
  | false=>exact absurd (.inl rfl) hx
 have hl0:l0≠0:=fun e=>hx (.inr e)
 have hq0:((l0.toNat:Int) == 0)=false:=by
  rw[beq_eq_false_iff_ne]
  intro e
  exact hl0 (UInt8.toNat_inj.1 (by simpa using e))
 subst his
 have HG:=Lib.hid (And.intro hce (And.intro hv (And.intro ho (And.intro hmp (And.intro hl (And.intro hr hbl))))))
 clear hce hx hcut hv ho hmp hl hr hbl hl0 HCH
 go_upto_region 18 with fail
 refine aP ?_
 intro V1 hV1
 obtain ⟨hce,hv,ho,hmp,hl,hr,hbl⟩:=HG.out
 have k1:V1.heap[lb]? = some (.cells (lM (rr.parent,rr.at_)) 171):=by
  have:=bC (bC hl 0 (.int .i64 (rr.parent.toNat:Int))) 1 (.int .u64 (rr.at_.toNat:Int))
  rw[hV1]
  simpa [lM] using this
 have kk:∀ c,c≠lb->V1.heap[c]? = V.heap[c]? := by
  intro c hc
  rw[hV1]
  exact (Below.heap_setCell _ ⟨lb,1,none⟩ _ c hc).trans (Below.heap_setCell _ ⟨lb,0,none⟩ _ c hc)
 have ks:V1.heap.size=V.heap.size:=by rw[hV1];simp
 have hwv:=HVB.out
 have kb:Below w.heap.size w V1:=by rw[hV1];exact (hbl.setCell (by simp;omega) _).setCell (by simp;omega) _
 have n0:V1.cell? ⟨lb,0,none⟩=some (.int .i64 (rr.parent.toNat:Int)):=(aF k1 0).1.trans rfl
 have n1:V1.cell? ⟨lb,1,none⟩=some (.int .u64 (rr.at_.toNat:Int)):=(aF k1 1).1.trans rfl
 have llV1:lb<V1.heap.size:=by omega
 have hgV:∀ g,v'.ownBlock=some g->vb+2<=g/\g<V.heap.size:=fun g hg=>ho.lt g hg
 have hapV:=HAP.out
 have kv:V1.heap[vb]? = some (.cells (wS s t p v' rt) 168):=(kk vb (by omega)).trans hv
 have ko:gU V1 (vb+2) 2 171 v' ((P ++ [(l0,l1)]).map lM):=ho.keep (fun g hg _=>kk g (fun e=>hapV (by rw[hg,e])))
 have km:=hmp.keep (kk (vb+1) (by omega))
 have HNEW:=Lib.hid (And.intro kv (And.intro ko (And.intro km (And.intro kb (And.intro hce (And.intro k1 hgV))))))
 clear hV1 hce hv ho hmp hl hr hbl k1 kk ks kb kv ko km hgV hapV hwv HG
 go_wp2_with fail
 go_roundw
 case rel =>
  refine ⟨V1.heap.size,P ++ [(l0,l1)],(rr.parent,rr.at_),v',rt,put L (l0.toNat:Int) true,rfl,Lib.hid ?_⟩
  obtain ⟨kv,ko,km,kb,hce,k1,hgV⟩:=HNEW.out
  have hal:∀ c,c<V1.heap.size->(V1.alloc (.cells #[.int .i64 (rr.parent.toNat:Int),.int .u64 (rr.at_.toNat:Int)] 171)).heap[c]? = V1.heap[c]? := fun c hc=>heap_alloc_old (w:=V1) _ hc
  have hvl:vb<V1.heap.size:=(Array.getElem?_eq_some_iff.1 kv).1
  have hmt:=HL.out.met.put l0
  refine ⟨kb.alloc kb.size _,(hal vb hvl).trans kv,ko.alloc _,km.alloc _,by simpa using hmt,(aC _ _ _).trans (if_pos rfl),fun e => ?_,by omega,?_,?_,?_,fun _=>HRT.out⟩
  ·have:=(ko.lt _ e).2;omega
  ·rw[hce,List.append_assoc]
   have e1:257 - (P ++ [(l0,l1)]).length=n:=by simp;omega
   rw[e1]
   simp
  ·rw[List.map_append,List.nodup_append]
   refine ⟨HL.out.nodup,by simp,fun x hx y hy e => ?_⟩
   simp at hy
   subst hy e
   exact HNM.out hx
  rcases HL.out.first with ⟨h1,h2⟩ | ⟨u,q,h1⟩
  ·obtain ⟨rfl,rfl⟩:=Prod.mk.inj h2
   rw[h1]
   exact .inr ⟨_, [],rfl⟩
  rw[h1]
  exact .inr ⟨u,q ++ [(l0,l1)],rfl⟩
 obtain ⟨kv,ko,km,kb,hce,k1,hgV⟩:=HNEW.out
 have hvl:vb<V1.heap.size:=(Array.getElem?_eq_some_iff.1 kv).1
 have e1:wr.cell? ⟨vb,2,none⟩=some (.slice a P.length cap):=(aF HL.out.cells 2).1.trans rfl
 have e2:(V1.alloc (.cells #[.int .i64 (rr.parent.toNat:Int),.int .u64 (rr.at_.toNat:Int)] 171)).cell? ⟨vb,2,none⟩=some v':=(aF ((heap_alloc_old (w:=V1) _ hvl).trans kv) 2).1.trans rfl
 obtain ⟨a9,c9,hv9,_,_⟩:=ko.form
 rw[e1,e2,hv9]
 simp[aNh]
 omega
end
end Go.Proofs.YtcedmfnlkelhkaaGreatDoor.Dn
