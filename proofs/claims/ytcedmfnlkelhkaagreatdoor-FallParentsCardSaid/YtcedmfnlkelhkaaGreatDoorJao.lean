/- Layer 14's law: writes cut. -/
import Derived.Test.YtcedmfnlkelhkaaGreatDoorJak
import Derived.BigRegion
import Derived.Deep.CutBlock
import Derived.Handy
namespace Go.Proofs.YtcedmfnlkelhkaaGreatDoor
set_option maxRecDepth 100000
open Go.RowKit

def Rec.aC0 (r:Rec):Rec := { r with text:=⟨r.text.val.take 80,by have:=r.text.property;simp;omega⟩ }
def Wr.aC0 (x:Wr):Wr:=⟨x.k,x.dead,x.r.aC0⟩
def aFQ (l:List Wr):List Wr:=(l.take 20).map Wr.aC0
@[go_sem] theorem aKt (x:Wr):(iJ x)[34]? = some (.string (bs x.r.text.val)):=by
 unfold iJ
 rw[List.getElem?_toArray,List.getElem?_append_right (by simp[eU])];simp[eU,xG]
@[go_sem,simp] theorem aOH (x:Wr) (h:34<(iJ x).size):(iJ x)[34]'h = .string (bs x.r.text.val):=by
 have:=aKt x
 rw[Array.getElem?_eq_getElem h] at this
 exact Option.some.inj this
theorem aGJ (x:Wr) (t:Txt):(iJ x).setIfInBounds 34 (.string (bs t.val))=iJ ⟨x.k,x.dead, { x.r with text:=t }⟩:=by
 unfold iJ
 rw[List.setIfInBounds_toArray]
 congr 1
 rw[List.set_append_right _ _ (by simp[eU])]
 simp[eU,xG]
theorem aCF (x:Wr):(iJ x).setIfInBounds 34 (.string ((bs x.r.text.val).extract 0 80))=iJ x.aC0:=by
 rw[aEY]
 exact aGJ x ⟨x.r.text.val.take 80,by have:=x.r.text.property;simp;omega⟩
theorem aDK (x:Wr):(iJ x).setIfInBounds 34 (.string ((bs x.r.text.val).extract 0 (min ((bs x.r.text.val).size:Int) 80).toNat))=iJ x.aC0:=by
 rw[<-aCF]
 have e:(min ((bs x.r.text.val).size:Int) 80).toNat=min x.r.text.val.length 80:=by rw[bD];omega
 rw[e,aEY,aEY]
 congr 3
 rw[List.take_eq_take_iff]
 omega
theorem aGd (l:List Wr) (i:Nat) (h:i<l.length) (h2:i<20):aFQ (l.take (i+1))=aFQ (l.take i) ++ [l[i].aC0]:=by
 unfold aFQ
 rw[List.take_take,List.take_take,Nat.min_eq_right (by omega),Nat.min_eq_right (by omega),List.take_succ_eq_append_getElem h,List.map_append]
 rfl
theorem aIx:kE Tryz.prog 23 134 35 72:=⟨Tryz.underlying23,by kernel_rfl,by decide,by decide⟩
set_option maxHeartbeats 8000000 in
theorem aGf (l:List Wr) (v:Value) (w:World) (hv:SlA w w.heap.size 35 v (l.map iJ)) :
  Calls Tryz.prog 50 #[v] w fun e w' => ∃ v',e = .returned v'/\Below w.heap.size w w'/\gU w' w.heap.size 35 134 v' ((aFQ l).map iJ):=by
 obtain ⟨a0,cap0,rfl,hcl,hcm⟩:=hv.form
 rw[List.length_map] at *
 have HV:=Lib.hid hv
 unfold maxLen at hcm
 clear hv
 go_enter Tryz.func50,Tryz.ntmps50
 go_wp2_with fail
 go_loopw [3,4] (fun s3 s4 wr => ∃ i:Nat,i<=l.length/\i<=20/\s4 = .int .i64 i/\Hid (Below w.heap.size w wr)/\Hid (gU wr w.heap.size 35 134 s3 ((aFQ (l.take i)).map iJ))) (fun _ s4 _=>20 - (intOf s4).toNat)
 case atStart=>exact ⟨0,Nat.zero_le _,Nat.zero_le _,rfl,Lib.hid (Below.refl _ _),Lib.hid (gU.nil _ _ _ _)⟩
 obtain ⟨i,hi,hi20,rfl,HB,HO⟩:=hrel
 by_cases hli:i<l.length
 ·have hliI:(i:Int)<l.length:=by omega
  by_cases h20:i<20
  ·have h20I:(i:Int)<20:=by omega
   obtain ⟨_,a3,cap3,he,_,_,hc⟩:=HV.out.below HB.out
   simp only[Value.slice.injEq,List.length_map,true_and] at he
   obtain ⟨rfl,rfl⟩:=he
   obtain ⟨g,q,rfl,hlb,hcut⟩:=hc (by simp;omega)
   have hcutk:=hcut i (iJ l[i]) (by simp[hli])
   have hsz:=HB.out.size
   have hgr:g<wr.heap.size:=by omega
   have hsu:=aGd l i hli h20
   have hlen:(aFQ (l.take i)).length<=20:=by unfold aFQ;simp;omega
   generalize l[i]=x at *
   generalize aFQ (l.take i)=R at *
   have HSU:=Lib.hid hsu
   clear hcut hc hsu
   go_upto_region 6 with fail
   go_cut [28] (fun _ wx=>wx=wr.alloc (.cells (iJ x.aC0) 134))
   case first =>
    go_wp2_with fail
    all_goals
     go_meet
     rw[aDK]
   subst hcut
   obtain ⟨y,hy⟩:∃ y,y=x.aC0:=⟨_,rfl⟩
   rw[<-hy] at HSU |-
   clear hy hcutk x
   go_wp2_with (at_builtin;refine iE (B:=w.heap.size) (xs:=R.map iJ) (ys := [iJ y]) aIx rfl (.tmp 31) (.tmp 33) rfl (v:=u3) rfl ?_ rfl ?_ ?_ ?_ ?_ ?_)
   case refine_1=>exact (HO.out.alloc _).alloc _
   case refine_2=>exact ⟨_,pW (Nat.le_refl _) (by decide) (aI ((aC _ _ _).trans (if_pos (by simp))) (by simp))⟩
   case refine_3 => intro z hz; obtain rfl : z = iJ y := by simpa using hz
                    exact aIk y
   case refine_4=>simp;omega
   case refine_5=>simp;omega
   intro v3 w3 ho hg _
   have hb3:Below w.heap.size w w3:=Below.grown ((HB.out.alloc hsz _).alloc (by simp;omega) _) hg (by simp;omega) (fun q hq=>by have:=HO.out.lt q hq;simp;omega)
   have HB3:=Lib.hid hb3
   have HO3:=Lib.hid (show gU w3 w.heap.size 35 134 v3 ((R ++ [y]).map iJ) by simpa using ho)
   clear hb3 ho hg HB HO
   go_wp2_with fail
   go_roundw
   case rel=>exact ⟨i+1,by omega,by omega,by go_num,HB3,Lib.hid (by rw[HSU.out];exact HO3.out)⟩
   simp[intOf];omega
  have h20e:i=20:=by omega
  have h20I:¬ (i:Int)<20:=by omega
  have ho:=HO.out
  have hcc:aFQ (l.take i)=aFQ l:=by unfold aFQ;rw[List.take_take,h20e,Nat.min_self]
  rw[hcc] at ho
  have HO2:=Lib.hid ho
  clear ho hcc HO
  go_wp2_with fail
  go_ret
  exact ⟨_,rfl,HB.out,HO2.out⟩
 have hie:i=l.length:=by omega
 have hgn:¬ (i:Int)<l.length:=by omega
 have ho:=HO.out
 rw[hie,List.take_length] at ho
 have HO2:=Lib.hid ho
 clear ho HO
 go_wp2_with fail
 go_ret
 exact ⟨_,rfl,HB.out,HO2.out⟩
def aA4 (t:TypeId) (p q:Nat×Value):Sem Value:=Instr.build t #[p,q]
def aOp (a b c:UInt8):List UInt8:=a :: b :: c :: zeros 22
theorem aI7 (a b c:UInt8):(aOp a b c).length=25:=by simp[aOp,zeros]
def jH (a b c:UInt8):K25:=⟨aOp a b c,aI7 a b c⟩
def kP:K25:=jH 1 0 0
@[go_sem ↓ high] theorem aNL (f:Nat×Operand->Nat×Value) (p:Nat×Operand):Instr.build 132 (Array.map f #[p])=yD 132 (f p):=by simp[yD]
@[go_sem] theorem aLS (w:World):(yD 132 (0,.int .u8 1)).run Tryz.prog w = .ok (.agg (aJ kP.val)) w:=by
 unfold yD
 refine fJ (zero := .agg (aJ (zeros 25))) (places := #[(0,1),(1,1),(2,1),(3,12),(15,10)]) (by intro w;exact (Tryz.zeroValue132 w).trans rfl) Tryz.underlying132 (by intro w;kernel_rfl) ?_
 rfl
@[go_sem ↓ high] theorem aNQ (f:Nat×Operand->Nat×Value) (p q:Nat×Operand):Instr.build 101 (Array.map f #[p,q])=aA4 101 (f p) (f q):=by simp[aA4]
def aPY:Rec := { Rec.zero with kind:=1,user:=1 }
@[go_sem] theorem aLX (w:World):(aA4 101 (0,.int .u8 1) (2,.int .u8 1)).run Tryz.prog w = .ok (.agg (bI aPY)) w:=by
 unfold aA4
 refine fJ (zero := .agg (bI Rec.zero)) (places := #[(0,1),(1,1),(2,1),(3,1),(4,1),(5,1),(6,1),(7,1),(8,1)]) (by intro w;exact (Tryz.zeroValue101 w).trans rfl) Tryz.underlying101 (by intro w;kernel_rfl) ?_
 rfl
def aNq (a:UInt64):Rec := { Rec.zero with kind:=4,at_:=a }
@[go_sem] theorem aLW (a:UInt64) (w:World):(aA4 101 (0,.int .u8 4) (7,.int .u64 a.toNat)).run Tryz.prog w = .ok (.agg (bI (aNq a))) w:=by
 unfold aA4
 refine fJ (zero := .agg (bI Rec.zero)) (places := #[(0,1),(1,1),(2,1),(3,1),(4,1),(5,1),(6,1),(7,1),(8,1)]) (by intro w;exact (Tryz.zeroValue101 w).trans rfl) Tryz.underlying101 (by intro w;kernel_rfl) ?_
 rfl
theorem aB5 (x:Wr):aJ x.k.val ++ #[.bool x.dead]++bI x.r=iJ x:=by apply Array.ext';simp[aJ,bI,iJ,aGO]
def aFH:Array Value:=aJ (zeros 25) ++ #[.bool false]++bI Rec.zero
@[go_sem ↓ high] theorem aNX (f:Nat×Operand->Nat×Value) (p q:Nat×Operand):Instr.build 134 (Array.map f #[p,q])=aA4 134 (f p) (f q):=by simp[aA4]
@[go_sem] theorem aL3 (k:K25) (r:Rec) (w:World):(aA4 134 (0,.agg (aJ k.val)) (2,.agg (bI r))).run Tryz.prog w = .ok (.agg (iJ ⟨k,false,r⟩)) w:=by
 unfold aA4
 refine fJ (zero := .agg aFH) (places := #[(0,25),(25,1),(26,9)]) (by intro w;exact (Tryz.zeroValue134 w).trans rfl) Tryz.underlying134 (by intro w;kernel_rfl) ?_
 have e0:(Value.agg aFH).cells = #[]++aFH:=by simp[Value.cells]
 have hz:aFH.size=35:=rfl
 rw[e0,jC (off:=0) (size:=25) rfl rfl (by simp[Value.cells]) (by omega)]
 have e1:(#[]++(Value.agg (aJ k.val)).cells)++aFH.extract 25 aFH.size=(aJ k.val ++ #[.bool false])++bI Rec.zero:=by
  rw[show aFH.extract 25 aFH.size = #[.bool false]++bI Rec.zero from rfl]
  simp[Value.cells]
 rw[e1,jC (off:=26) (size:=9) rfl (by simp) (by simp[Value.cells]) (by simp),qI]
 refine congrArg some ?_
 rw[Array.extract_eq_empty_of_le (by simp),<-aB5,Array.append_empty]
 rfl
@[go_sem] theorem aL1 (k:K25) (w:World):(aA4 134 (0,.agg (aJ k.val)) (1,.bool true)).run Tryz.prog w = .ok (.agg (iJ ⟨k,true,Rec.zero⟩)) w:=by
 unfold aA4
 refine fJ (zero := .agg aFH) (places := #[(0,25),(25,1),(26,9)]) (by intro w;exact (Tryz.zeroValue134 w).trans rfl) Tryz.underlying134 (by intro w;kernel_rfl) ?_
 have e0:(Value.agg aFH).cells = #[]++aFH:=by simp[Value.cells]
 have hz:aFH.size=35:=rfl
 rw[e0,jC (off:=0) (size:=25) rfl rfl (by simp[Value.cells]) (by omega)]
 rw[show aFH.extract 25 aFH.size = #[.bool false]++bI Rec.zero from rfl]
 rw[jC (off:=25) (size:=1) rfl (by simp[Value.cells]) rfl (by simp),qI]
 refine congrArg some ?_
 rw[show (#[Value.bool false]++bI Rec.zero).extract 1 (#[Value.bool false]++bI Rec.zero).size=bI Rec.zero from rfl,<-aB5,Array.empty_append]
 rfl
theorem aU.u8 {cs:List Value} (h:aU [CK.i .u8] cs):∃ b:UInt8,cs = [.int .u8 b.toNat]:=by
 obtain ⟨z,rfl,hz⟩:=h.int
 have hb:0<=z/\z<256:=by
  simp[Lit.wf,IntKind.min,IntKind.max,IntKind.signed,IntKind.bits] at hz
  omega
 refine ⟨UInt8.ofNat z.toNat,?_⟩
 rw[UInt8.toNat_ofNat']
 congr 2
 omega
theorem aU.u32 {cs:List Value} (h:aU [CK.i .u32] cs):∃ b:UInt32,cs = [.int .u32 b.toNat]:=by
 obtain ⟨z,rfl,hz⟩:=h.int
 have hb:0<=z/\z<4294967296:=by
  simp[Lit.wf,IntKind.min,IntKind.max,IntKind.signed,IntKind.bits] at hz
  omega
 refine ⟨UInt32.ofNat z.toNat,?_⟩
 rw[UInt32.toNat_ofNat']
 congr 2
 omega
theorem aU.u64 {cs:List Value} (h:aU [CK.i .u64] cs):∃ b:UInt64,cs = [.int .u64 b.toNat]:=by
 obtain ⟨z,rfl,hz⟩:=h.int
 have hb:0<=z/\z<18446744073709551616:=by
  simp[Lit.wf,IntKind.min,IntKind.max,IntKind.signed,IntKind.bits] at hz
  omega
 refine ⟨UInt64.ofNat z.toNat,?_⟩
 rw[UInt64.toNat_ofNat']
 congr 2
 omega
theorem aU.str {cs:List Value} (h:aU [CK.s] cs):∃ t:Txt,cs = [.string (bs t.val)]:=by
 match cs,h with
 | [_],⟨⟨s,h,hl⟩,_⟩ =>
  refine ⟨⟨s.data.toList,by simpa using hl⟩,?_⟩
  rw[h]
  rfl
def aMN:List CK := [CK.i .u8]++([CK.i .u8]++([CK.i .u8]++([CK.i .u8]++([CK.i .u8]++([CK.b]++([CK.i .u32]++([CK.i .u64] ++ [CK.s])))))))
theorem aU.rec {cs:List Value} (h:aU aMN cs):∃ r:Rec,cs=xG r:=by
 obtain ⟨x0,y0,rfl,h0,h⟩:=aU.split h
 obtain ⟨x1,y1,rfl,h1,h⟩:=aU.split h
 obtain ⟨x2,y2,rfl,h2,h⟩:=aU.split h
 obtain ⟨x3,y3,rfl,h3,h⟩:=aU.split h
 obtain ⟨x4,y4,rfl,h4,h⟩:=aU.split h
 obtain ⟨x5,y5,rfl,h5,h⟩:=aU.split h
 obtain ⟨x6,y6,rfl,h6,h⟩:=aU.split h
 obtain ⟨x7,x8,rfl,h7,h8⟩:=aU.split h
 obtain ⟨b0,rfl⟩:=h0.u8
 obtain ⟨b1,rfl⟩:=h1.u8
 obtain ⟨b2,rfl⟩:=h2.u8
 obtain ⟨b3,rfl⟩:=h3.u8
 obtain ⟨b4,rfl⟩:=h4.u8
 obtain ⟨b5,rfl⟩:=h5.bool
 obtain ⟨b6,rfl⟩:=h6.u32
 obtain ⟨b7,rfl⟩:=h7.u64
 obtain ⟨b8,rfl⟩:=h8.str
 exact ⟨⟨b0,b1,b2,b3,b4,b5,b6,b7,b8⟩,rfl⟩
end Go.Proofs.YtcedmfnlkelhkaaGreatDoor
namespace Go.Proofs.YtcedmfnlkelhkaaGreatDoor
set_option maxRecDepth 100000
open Go.RowKit Go.ChangeShapes Go.WideShapes

def Tr (P:Program) (w:World) (t:TypeId) (cs:List Value):Prop :=
 ∃ (H:Type) (enc:TypeId×Value->H) (fuel:Nat) (y:DataW H×List MemPlace),DataW.trod enc P w 0 (fun _=>true) true fuel t cs=some y
section
variable {P:Program} {w:World} {t e:TypeId} {v:Value} {cs:List Value}
theorem Reads.tr (h:Reads P w t v):Tr P w t v.cells.toList:=by
 obtain ⟨_,H,enc,d,p,fuel,hd⟩:=h
 exact ⟨H,enc,fuel,_,hd⟩
theorem Tr.flat (h:Tr P w t cs) (f:Nat) {ks:List CK} (hk:flatK P f t=some ks):aU ks cs:=by
 obtain ⟨H,enc,fuel,y,hd⟩:=h
 exact zJ f t ks hk fuel _ _ hd
theorem Tr.field {fs:Array Field} (h:Tr P w t cs) (ht:P.underlying t=some (.struct fs)) {i:Nat} {f:Field} (hf:fs[i]? = some f):Tr P w f.type ((cs.drop f.offset).take (P.cellsOf f.type)):=by
 obtain ⟨H,enc,fuel,y,hd⟩:=h
 obtain ⟨xs,n,_,_,_,hl,hx⟩:=DataW.trod_struct ht hd
 have h1:=hx i f hf
 have hi:i<xs.length:=by
  have:=(Array.getElem?_eq_some_iff.1 hf).1
  omega
 rw[List.getElem?_eq_getElem hi] at h1
 exact ⟨H,enc,n,_,h1⟩
theorem Tr.slice (h:Tr P w t cs) (ht:P.underlying t=some (.slice e)) :
  cs = [.slice none 0 0] \/ ∃ x len cap,cs = [.slice (some x) len cap]/\len<=cap/\cap<=maxLen /\ ∀ i,i<len -> ∃ es:List Value,es.length=P.cellsOf e/\(∀ j,j<P.cellsOf e->w.cell? ((x.add (i * P.cellsOf e)).add j)=es[j]?)/\Tr P w e es:=by
 obtain ⟨H,enc,fuel,y,hd⟩:=h
 rcases DataW.trod_slice ht hd with ⟨hcs,_⟩ | ⟨x,len,cap,elems,rest,n,_,hcs,_,_,hl,hm,hel,hc,_⟩
 ·exact .inl hcs
 refine .inr ⟨x,len,cap,hcs,hl,hm,fun i hi => ?_⟩
 have h1:=hc i hi
 rw[List.getElem?_eq_getElem (by omega)] at h1
 simp only[Option.bind_eq_some_iff] at h1
 obtain ⟨es,h2,h3⟩:=h1
 obtain ⟨h4,h5⟩:=aCW h2
 exact ⟨es,h4,fun j hj=>h5 j hj,H,enc,n,_,h3⟩
theorem Tr.rows (h:Tr P w t cs) (ht:P.underlying t=some (.slice e)) {sz:Nat} (hs:P.cellsOf e=sz) (h0:0<sz) :
  ∃ (v:Value) (xs:List (Array Value)),cs = [v]/\SlA w w.heap.size sz v xs /\ ∀ x∈xs,Tr P w e x.toList:=by
 rcases h.slice ht with rfl | ⟨x,len,cap,rfl,hl,hm,hc⟩
 ·exact ⟨_, [],rfl,SlA.nil _ _ _,fun x hx=>by simp at hx⟩
 rw[hs] at hc
 obtain ⟨ls,h1,h2⟩:∃ ls:List (List Value),ls.length=len /\ ∀ i es,ls[i]? = some es->es.length=sz/\(∀ j,j<sz->w.cell? ((x.add (i * sz)).add j)=es[j]?)/\Tr P w e es:=by
  clear hl h
  induction len with
  | zero=>exact ⟨[],rfl,fun i es hi=>by simp at hi⟩
  | succ len ih =>
   obtain ⟨ls,h1,h2⟩:=ih (fun i hi=>hc i (by omega))
   obtain ⟨es,hes⟩:=hc len (by omega)
   refine ⟨ls ++ [es],by simp[h1],fun i es' hi => ?_⟩
   by_cases hil:i<ls.length
   ·rw[List.getElem?_append_left hil] at hi;exact h2 i es' hi
   rw[List.getElem?_append_right (by omega)] at hi
   have hie:i=ls.length:=by
    rcases Nat.lt_or_ge (i - ls.length) 1 with h | h
    ·omega
    rw[List.getElem?_eq_none (by simpa using h)] at hi;cases hi
   subst hie
   simp at hi
   subst hi
   rw[h1];exact hes
 subst h1
 refine ⟨_,ls.map List.toArray,rfl,⟨?_,some x,cap,by simp,by simpa using hl,hm,fun hn => ?_⟩,?_⟩
 ·intro y hy
  obtain ⟨es,hes,rfl⟩:=List.mem_map.1 hy
  obtain ⟨i,hi,rfl⟩:=List.getElem_of_mem hes
  simpa using (h2 i _ (List.getElem?_eq_getElem hi)).1
 ·simp only[List.length_map] at hn
  obtain ⟨hc0,hd0,_⟩:=h2 0 _ (List.getElem?_eq_getElem hn)
  have hz:=hd0 0 h0
  rw[List.getElem?_eq_getElem (by omega)] at hz
  obtain ⟨b,o,sp⟩:=x
  have hsp:sp=none:=by
   cases sp with
   | none=>rfl
   | some q =>
    simp only[Addr.add,Nat.zero_mul,if_pos,World.cell?] at hz
    split at hz <;> simp at hz
  subst hsp
  have hadd:∀ i j,((⟨b,o,none⟩:Addr).add (i * sz)).add j=⟨b,o+i * sz+j,none⟩:=fun i j=>by rw[addr_add,addr_add]
  refine ⟨b,o,rfl,?_,?_⟩
  ·rw[hadd] at hz
   exact World.block_lt_of_cell? w _ hz
  intro i y hy
  rw[List.getElem?_map] at hy
  cases hi:ls[i]? with
  | none=>rw[hi] at hy;cases hy
  | some es =>
   rw[hi] at hy
   simp only[Option.map_some,Option.some.injEq] at hy
   subst hy
   obtain ⟨q1,q2,_⟩:=h2 i es hi
   exact wZ q1 h0 (fun j hj=>by have:=q2 j hj;rw[hadd] at this;exact this)
 intro y hy
 obtain ⟨es,hes,rfl⟩:=List.mem_map.1 hy
 obtain ⟨i,hi,rfl⟩:=List.getElem_of_mem hes
 exact (h2 i _ (List.getElem?_eq_getElem hi)).2.2
end
def aMr:List CK:=List.replicate 25 (CK.i .u8)++([CK.b]++aMN)
theorem aKu {x:Array Value} (h:aU aMr x.toList):∃ z:Wr,x=iJ z:=by
 obtain ⟨a,b,e,ha,hb⟩:=aU.split h
 obtain ⟨c,d,e2,hc,hd⟩:=aU.split hb
 obtain ⟨k,rfl⟩:=aU.key ha
 obtain ⟨q,rfl⟩:=aU.bool hc
 obtain ⟨r,rfl⟩:=aU.rec hd
 refine ⟨⟨k,q,r⟩,Array.ext' ?_⟩
 rw[e,e2]
 rfl
theorem aD1 {w:World} {cs:List Value} (h:Tr Tryz.prog w 23 cs):∃ (v:Value) (l:List Wr),cs = [v]/\SlA w w.heap.size 35 v (l.map iJ):=by
 obtain ⟨v,xs,rfl,h1,h2⟩:=h.rows Tryz.underlying23 (sz:=35) (by kernel_rfl) (by decide)
 obtain ⟨l,rfl⟩:=models (p:=fun x=>Tr Tryz.prog w 134 x.toList) (fun x hx=>aKu (hx.flat 5 (ks:=aMr) (by kernel_rfl))) xs h2
 exact ⟨v,l,rfl,h1⟩
end Go.Proofs.YtcedmfnlkelhkaaGreatDoor
