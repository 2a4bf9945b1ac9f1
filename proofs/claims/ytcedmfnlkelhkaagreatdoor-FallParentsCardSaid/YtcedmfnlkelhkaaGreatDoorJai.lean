/- Arguments that are slices of structs, or arrays of bytes. -/
import Derived.Test.YtcedmfnlkelhkaaGreatDoorJab
import Derived.Lib.Bytealg
import Derived.Laws.IdiomStrings
import Derived.Laws.Externs
import Derived.Shelf.Bytes.SlIndexAt
import Derived.Test.YtcedmfnlkelhkaaGreatDoorShelf
import Derived.Deep.RegionHeld3
import Derived.Shelf.Strings.SplitCore
import Derived.Lib.IndexBytes
import Derived.Lib.SplitLaws
namespace Go.Proofs.YtcedmfnlkelhkaaGreatDoor
set_option maxHeartbeats 40000000
open Go.RowKit Go.ChangeShapes Go.WideShapes

theorem wZ {w:World} {n o sz:Nat} {cs:List Value} (hl:cs.length=sz) (h0:0<sz) (h:∀ j,j<sz->w.cell? ⟨n,o+j,none⟩=cs[j]?):w.aW n o sz=some cs.toArray:=by
 have hlast:=h (sz - 1) (by omega)
 rw[List.getElem?_eq_getElem (by omega)] at hlast
 unfold World.aW
 unfold World.cell? at h hlast
 simp only at h hlast
 split at hlast
 ·rename_i c t fr hc
  rw[hc] at h |-
  simp only at h |-
  have hsz:o+(sz - 1)<c.size:=(Array.getElem?_eq_some_iff.1 hlast).1
  rw[if_pos (by omega)]
  congr 1
  apply Array.ext_getElem?
  intro j
  by_cases hj:j<sz
  ·rw[Array.getElem?_extract,if_pos (by omega)];have:=h j hj;simp at this;simp[this]
  rw[Array.getElem?_eq_none (by simp;omega),Array.getElem?_eq_none (by simp;omega)]
 cases hlast

theorem Reads.rows {P:Program} {w:World} {t e:TypeId} {v:Value} (h:Reads P w t v) (ht:P.underlying t=some (.slice e)) (f:Nat) {ks:List CK} (hk:flatK P f e=some ks) (hs:ks.length=P.cellsOf e) (h0:0<ks.length) :
  ∃ xs:List (Array Value),SlA w w.heap.size ks.length v xs /\ ∀ x∈xs,aU ks x.toList:=by
 rcases h.slice ht f hk hs with rfl | ⟨x,len,cap,rfl,hl,hm,hc⟩
 ·exact ⟨[],SlA.nil _ _ _,fun x hx=>by simp at hx⟩
 obtain ⟨ls,h1,h2⟩:∃ ls:List (List Value),ls.length=len /\ ∀ i cs,ls[i]? = some cs->cs.length=ks.length/\(∀ j,j<ks.length->w.cell? ((x.add (i * ks.length)).add j)=cs[j]?)/\aU ks cs:=by
  clear hl h
  induction len with
  | zero=>exact ⟨[],rfl,fun i cs hi=>by simp at hi⟩
  | succ len ih =>
   obtain ⟨ls,h1,h2⟩:=ih (fun i hi=>hc i (by omega))
   obtain ⟨cs,hcs⟩:=hc len (by omega)
   refine ⟨ls ++ [cs],by simp[h1],fun i cs' hi => ?_⟩
   by_cases hil:i<ls.length
   ·rw[List.getElem?_append_left hil] at hi;exact h2 i cs' hi
   rw[List.getElem?_append_right (by omega)] at hi
   have hie:i=ls.length:=by
    rcases Nat.lt_or_ge (i - ls.length) 1 with h | h
    ·omega
    rw[List.getElem?_eq_none (by simpa using h)] at hi;cases hi
   subst hie
   simp at hi
   subst hi
   rw[h1];exact hcs
 subst h1
 refine ⟨ls.map List.toArray,⟨?_,some x,cap,by simp,by simpa using hl,hm,fun hn => ?_⟩,?_⟩
 ·intro y hy
  obtain ⟨cs,hcs,rfl⟩:=List.mem_map.1 hy
  obtain ⟨i,hi,rfl⟩:=List.getElem_of_mem hcs
  simpa using (h2 i _ (List.getElem?_eq_getElem hi)).1
 ·simp only[List.length_map] at hn
  obtain ⟨hc0,hd0,_⟩:=h2 0 _ (List.getElem?_eq_getElem hn)
  have hz:=hd0 0 h0
  rw[List.getElem?_eq_getElem (by omega)] at hz
  obtain ⟨b,o,sp⟩:=x
  have hsp:sp=none:=by
   cases sp with
   | none=>rfl
   | some q =>
    simp only[Addr.add,Nat.zero_mul,if_pos,World.cell?] at hz
    split at hz <;> simp at hz
  subst hsp
  have hadd:∀ i j,((⟨b,o,none⟩:Addr).add (i * ks.length)).add j=⟨b,o+i * ks.length+j,none⟩:=fun i j=>by rw[addr_add,addr_add]
  refine ⟨b,o,rfl,?_,?_⟩
  ·rw[hadd] at hz
   exact World.block_lt_of_cell? w _ hz
  intro i y hy
  rw[List.getElem?_map] at hy
  cases hi:ls[i]? with
  | none=>rw[hi] at hy;cases hy
  | some cs =>
   rw[hi] at hy
   simp only[Option.map_some,Option.some.injEq] at hy
   subst hy
   obtain ⟨q1,q2,_⟩:=h2 i cs hi
   exact wZ q1 h0 (fun j hj=>by have:=q2 j hj;rw[hadd] at this;exact this)
 intro y hy
 obtain ⟨cs,hcs,rfl⟩:=List.mem_map.1 hy
 obtain ⟨i,hi,rfl⟩:=List.getElem_of_mem hcs
 exact (h2 i _ (List.getElem?_eq_getElem hi)).2.2

theorem aU.split:∀ {a b:List CK} {cs:List Value},aU (a++b) cs -> ∃ x y,cs=x++y/\aU a x/\aU b y
 | [],_,cs,h=>⟨[],cs,rfl,trivial,h⟩
 | _ :: _,_, [],h=>by simp[aU] at h
 | _ :: _,_,v :: cs,h=>by
  obtain ⟨x,y,rfl,h1,h2⟩:=aU.split h.2
  exact ⟨v :: x,y,rfl,⟨h.1,h1⟩,h2⟩
theorem aU.bytes:∀ {n:Nat} {cs:List Value},aU (List.replicate n (CK.i .u8)) cs -> ∃ l:List UInt8,l.length=n/\cs=l.map fun b => .int .u8 (b.toNat:Int)
 | 0, [],_=>⟨[],rfl,rfl⟩
 | 0,_ :: _,h=>by simp[aU] at h
 | _+1, [],h=>by simp[aU,List.replicate_succ] at h
 | n+1,v :: cs,h=>by
  rw[List.replicate_succ] at h
  obtain ⟨⟨z,rfl,hz⟩,h2⟩:=h
  obtain ⟨l,hl,rfl⟩:=aU.bytes h2
  have hb:0<=z/\z<256:=by
   simp[Lit.wf,IntKind.min,IntKind.max,IntKind.signed,IntKind.bits] at hz
   omega
  refine ⟨UInt8.ofNat z.toNat :: l,by simp[hl],?_⟩
  rw[List.map_cons]
  congr 1
  congr 1
  rw[UInt8.toNat_ofNat']
  omega
theorem aU.key {cs:List Value} (h:aU (List.replicate 25 (CK.i .u8)) cs):∃ k:K25,cs=aGO k:=by
 obtain ⟨l,hl,rfl⟩:=h.bytes
 exact ⟨⟨l,hl⟩,rfl⟩
theorem aU.bool {cs:List Value} (h:aU [CK.b] cs):∃ b,cs = [.bool b]:=by
 match cs,h with
 | [_],⟨⟨b,h⟩,_⟩=>exact ⟨b,by rw[h]⟩
theorem aU.int {k:IntKind} {cs:List Value} (h:aU [CK.i k] cs):∃ n,cs = [.int k n]/\(Lit.int k n).wf=true:=by
 match cs,h with
 | [_],⟨⟨b,h,hw⟩,_⟩=>exact ⟨b,by rw[h],hw⟩
theorem models {α:Type} {f:α->Array Value} {p:Array Value->Prop} (h:∀ x,p x -> ∃ a,x=f a):∀ xs:List (Array Value),(∀ x∈xs,p x) -> ∃ l:List α,xs=l.map f
 | [],_=>⟨[],rfl⟩
 | x :: xs,hx=>by
  obtain ⟨a,rfl⟩:=h x (hx x (by simp))
  obtain ⟨l,rfl⟩:=models h xs (fun y hy=>hx y (by simp[hy]))
  exact ⟨a :: l,rfl⟩
end Go.Proofs.YtcedmfnlkelhkaaGreatDoor
namespace Go.Proofs.YtcedmfnlkelhkaaGreatDoor
set_option maxHeartbeats 40000000
open Go.RowKit

theorem xE (c:UInt8) (w:World):Gives Tryz.prog 137 #[.int .u8 (c.toNat:Int)] w (.bool (yI c)):=by
 unfold Gives
 by_cases h1:(97:Int)<=c.toNat <;> by_cases h2:(c.toNat:Int)<=122 <;>
 ·go_enter Tryz.func137,Tryz.ntmps137
  go_wp2_with fail
  go_ret
  exact ⟨congrArg Ending.returned (congrArg Value.bool (by simp[yI];omega)),blw⟩

theorem aKl (c:UInt8) (k:Nat) (hk:k<256):(c == UInt8.ofNat k)=((c.toNat:Int) == (k:Int)):=by
 rw[Bool.eq_iff_iff,beq_iff_eq,beq_iff_eq]
 constructor
 ·intro h;rw[h];simp;omega
 intro h
 apply UInt8.toNat_inj.1
 simp;omega
theorem aFr (c:UInt8):xU c=(yI c || (decide ((48:Int)<=c.toNat) && decide ((c.toNat:Int)<=57)) || ((c.toNat:Int) == 45) || ((c.toNat:Int) == 95) || ((c.toNat:Int) == 46)):=by
 have h45:=aKl c 45 (by omega)
 have h95:=aKl c 95 (by omega)
 have h46:=aKl c 46 (by omega)
 have e1:decide (48<=c.toNat)=decide ((48:Int)<=c.toNat):=by rw[decide_eq_decide];omega
 have e2:decide (c.toNat<=57)=decide ((c.toNat:Int)<=57):=by rw[decide_eq_decide];omega
 unfold xU rZ
 rw[show (45:UInt8)=UInt8.ofNat 45 from rfl,show (95:UInt8)=UInt8.ofNat 95 from rfl,show (46:UInt8)=UInt8.ofNat 46 from rfl,h45,h95,h46,e1,e2]
 rfl
theorem aFq (c:UInt8) (w:World):Gives Tryz.prog 138 #[.int .u8 (c.toNat:Int)] w (.bool (xU c)):=by
 rw[aFr]
 have hl:=xE c
 generalize yI c=b at *
 have HL:=Lib.hid hl
 clear hl
 unfold Gives
 go_enter Tryz.func138,Tryz.ntmps138
 go_wp2_with (go_at_call 137;refine Gives.use (HL.out _) ?_;intro xs d)
 all_goals
  go_ret
  exact ⟨congrArg Ending.returned (congrArg Value.bool (by first | (simp[*];done) | (rw[Bool.eq_iff_iff];simp[*];done) | (rw[Bool.eq_iff_iff];simp[*];omega) | (rw[Bool.eq_iff_iff];simp;omega))),blw⟩

theorem zX (s:List UInt8) (w:World):Gives Tryz.prog 113 #[.string (bs s)] w (.tuple #[.agg (aJ (gI s)),.int .i64 (jF s)]):=by
 unfold Gives
 by_cases hok:1<=s.length/\s.length<=12
 ·obtain ⟨h1,h2⟩:=hok
  have hz:=bD s
  have hz1:decide ((s.length:Int)<1)=false:=by simp;omega
  have hz2:decide (12<(s.length:Int))=false:=by simp;omega
  have hl:=xE (byt s 0)
  generalize hb:yI (byt s 0)=b at *
  have HB:=Lib.hid hb
  have HL:=Lib.hid hl
  clear hb hl
  cases b
  ·go_enter Tryz.func113,Tryz.ntmps113
   go_wp2_with (go_at_call 137;refine Gives.use (HL.out _) ?_;intro xs d)
   have e:fP s=false:=by simp[fP,HB.out]
   exact bodyPost_ret (v := .tuple #[.agg (aJ (zeros 12)),.int .i64 15]) (aH Tryz.results113 (aO.row rfl rD (by simp[go_sem])) rfl) rfl ⟨by unfold gI jF;rw[e];rfl,blw⟩
  go_enter Tryz.func113,Tryz.ntmps113
  go_wp2_with (go_at_call 137;refine Gives.use (HL.out _) ?_;intro xs0 d0)
  go_loopw [5,23] (fun _ i wr => ∃ (k:Nat) (xs:Array Obj) (d:Nat),k<=s.length/\i = .int .i64 k/\Hid ((s.take k).all xU=true)/\wr=(((w.alloc (.cells (aJ (zeros 12)) 56)).grow xs0 d0).alloc (.cells (aJ (bG 12 (s.take k))) 56)).grow xs d) (fun _ i _=>s.length - (intOf i).toNat)
  case atStart=>exact ⟨0, #[],_,by omega,rfl,Lib.hid (by simp),by rw[List.take_zero,oM];exact World.jE.symm⟩
  obtain ⟨k,xs,d,hk,rfl,hall,rfl⟩:=hrel
  by_cases hlt:k<s.length
  ·have hps:=aAC (n:=12) (by omega) hlt
   have hpl:(bG 12 (s.take k)).length=12:=dM (by simp;omega)
   have htk:s.take (k+1)=s.take k ++ [byt s k]:=by rw[List.take_succ_eq_append_getElem hlt,bP hlt]
   have hk12:(k:Int)<12:=by omega
   have hkp:k<(bG 12 (s.take k)).length:=by omega
   generalize bG 12 (s.take k)=p at *
   have HPL:=Lib.hid hpl
   clear hpl
   have HP:=Lib.hid hps
   have HT:=Lib.hid htk
   clear hps htk
   have hs:=aFq (byt s k)
   generalize hb:xU (byt s k)=b at *
   have HS:=Lib.hid hs
   have HB2:=Lib.hid hb
   clear hs hb
   cases b
   ·go_wp2_with (go_at_call 138;refine Gives.use (HS.out _) ?_;intro ys e)
    have e:fP s=false:=by
     have h:s.all xU=false:=by
      rw[Bool.eq_false_iff]
      intro h
      have:=List.all_eq_true.1 h (s[k]'hlt) (List.getElem_mem hlt)
      rw[bP hlt,HB2.out] at this
      cases this
     simp[fP,h]
    exact bodyPost_ret (v := .tuple #[.agg (aJ (zeros 12)),.int .i64 15]) (aH Tryz.results113 (aO.row rfl rD (by simp[go_sem])) rfl) rfl ⟨by unfold gI jF;rw[e];rfl,blw⟩
   go_wp2_with (go_at_call 138;refine Gives.use (HS.out _) ?_;intro ys e)
   go_roundw
   case rel =>
    refine ⟨k+1,_,_,by omega,by go_num,Lib.hid ?_,by rw[HP.out]⟩
    rw[HT.out,List.all_append,hall.out]
    simp[HB2.out]
   simp[intOf];omega
  have:k=s.length:=by omega
  subst this
  rw[List.take_length] at hall |-
  have e:fP s=true:=by simp[fP,hall.out,HB.out,h1,h2]
  have hpl:(bG 12 s).length=12:=dM (by omega)
  go_wp2_with fail
  exact bodyPost_ret (v := .tuple #[.agg (aJ (bG 12 s)),.int .i64 0]) (aH Tryz.results113 (aO.row rfl rD (by simp[go_sem,hpl])) rfl) rfl ⟨by unfold gI jF;rw[e];rfl,blw⟩
 have e:fP s=false:=by
  unfold fP
  rw[Bool.eq_false_iff]
  intro h
  simp at h
  omega
 have E:=Lib.hid e
 clear e
 by_cases h1:1<=s.length
 ·have hz1:decide ((s.length:Int)<1)=false:=by simp;omega
  have hz2:decide (12<(s.length:Int))=true:=by simp;omega
  have hz:=bD s
  go_enter Tryz.func113,Tryz.ntmps113
  go_wp2_with fail
  exact bodyPost_ret (v := .tuple #[.agg (aJ (zeros 12)),.int .i64 15]) (aH Tryz.results113 (aO.row rfl rD (by simp[go_sem])) rfl) rfl ⟨by unfold gI jF;rw[E.out];rfl,blw⟩
 have hz1:decide ((s.length:Int)<1)=true:=by simp;omega
 have hz:=bD s
 go_enter Tryz.func113,Tryz.ntmps113
 go_wp2_with fail
 exact bodyPost_ret (v := .tuple #[.agg (aJ (zeros 12)),.int .i64 15]) (aH Tryz.results113 (aO.row rfl rD (by simp[go_sem])) rfl) rfl ⟨by unfold gI jF;rw[E.out];rfl,blw⟩

theorem aCc (c:UInt8):∀ l:List UInt8,(Lib.indexByte l c = -1/\l.takeWhile (· != c)=l) \/ ∃ k:Nat,k<l.length/\Lib.indexByte l c=k/\l.takeWhile (· != c)=l.take k
 | [] => .inl ⟨rfl,rfl⟩
 | b :: l=>by
  unfold Lib.indexByte
  by_cases h:b=c
  ·exact .inr ⟨0,by simp,by simp[h],by simp[h]⟩
  ·have h1:(b == c)=false:=by simpa using h
   have h2:(b != c)=true:=by simpa using h
   rw[h1,List.takeWhile_cons,h2]
   rcases aCc c l with ⟨e1,e2⟩ | ⟨k,hk,e1,e2⟩
   ·left;rw[e1,e2];exact ⟨rfl,rfl⟩
   ·right
    refine ⟨k+1,by simp;omega,?_,by rw[e2];rfl⟩
    rw[e1]
    have:((k:Int) == -1)=false:=by simp
    rw[this];rfl

theorem aDa (l:List UInt8):Lib.bytesOf (l.map fun b=>(b.toNat:Int))=l:=by
 unfold Lib.bytesOf
 rw[List.map_map]
 conv=>rhs;rw[<-List.map_id l]
 apply List.map_congr_left
 intro b _
 simp
def yT (w:World) (b o:Nat) (l:List UInt8):Prop := ∀ j,j<l.length->w.cell? ⟨b,o+j,none⟩=some (.int .u8 ((byt l j).toNat:Int))
set_option maxRecDepth 100000 in
theorem zL (l:List UInt8) (b o cap:Nat) (w:World) (h:yT w b o l) :
  Calls Tryz.prog 139 #[.slice (some ⟨b,o,none⟩) l.length cap,.int .u8 0] w fun e w'=>e = .returned (.int .i64 (Lib.indexByte l 0))/\w'=w:=by
 have hr:=Lib.run_indexByteAt (P:=Tryz.prog) w ⟨b,o,none⟩ l.length cap (l.map fun b=>(b.toNat:Int)) (by simp) (fun i hi=>by
  rw[addr_add,h i hi,List.getD_eq_getElem?_getD,List.getElem?_map,List.getElem?_eq_getElem hi,bP hi]
  rfl) 0
 rw[aDa] at hr
 go_enter Tryz.func139,Tryz.ntmps139
 go_wp2
 rw[run_callFunc_extern Tryz.func159 (by kernel_rfl) (by kernel_rfl) (by kernel_rfl) (e:=Extern.BytealgIndexByte.indexByte) (by kernel_rfl),hr]
 simp only[Result.andThen]
 rw[Oper.upon_value]
 go_wp2
 go_ret
 exact ⟨rfl,rfl⟩
theorem wL {w:World} {b o:Nat} {l:List UInt8} (h:yT w b o l):∀ j (hj:j<l.length),w.cell? (Addr.add ⟨b,o,none⟩ j)=some (.int .u8 (l[j].toNat:Int)):=by
 intro j hj
 rw[addr_add,h j hj,bP hj]
theorem yT.take {w:World} {b o:Nat} {l:List UInt8} (h:yT w b o l) (k:Nat):yT w b o (l.take k):=by
 intro j hj
 have hj2:j<k/\j<l.length:=by simpa [Nat.lt_min] using hj
 rw[h j hj2.2,<-bP hj,<-bP hj2.2]
 simp
theorem aBx {w:World} (l:List UInt8) (t:TypeId):yT (w.alloc (.cells (aJ l) t)) w.heap.size 0 l:=by
 intro j hj
 have:=lS l j hj
 rw[Nat.zero_add]
 simp[go_sem,this]

theorem aDi (n:List UInt8) (hn:n.length=12) (w:World):Gives Tryz.prog 114 #[.agg (aJ n)] w (.string (bs (dV n))):=by
 have hr:=aBx (w:=w) n 56
 have hcl:=zL n w.heap.size 0 12 _ hr
 rw[hn] at hcl
 have HCL:=Lib.hid hcl
 clear hcl
 have hfr:(Lib.indexByte n 0 = -1/\dV n=n) \/ ∃ k:Nat,k<n.length/\Lib.indexByte n 0=k/\dV n=n.take k:=aCc 0 n
 generalize dV n=fr at *
 generalize Lib.indexByte n 0=at_ at *
 have HR:=Lib.hid hr
 clear hr
 unfold Gives
 rcases hfr with ⟨rfl,rfl⟩ | ⟨k,hk,rfl,rfl⟩
 ·have hcv:=run_convert_bytes_back (P:=Tryz.prog) (w.alloc (.cells (aJ fr) 56)) 189 9 5 ⟨w.heap.size,0,none⟩ 12 fr Tryz.underlying189 Tryz.underlying5 Tryz.underlying9 (wL HR.out)
  rw[hn] at hcv
  clear hn
  go_enter Tryz.func114,Tryz.ntmps114
  go_wp2_with (go_at_call 139;refine HCL.out.mono ?_;rintro e w' ⟨rfl,rfl⟩)
  go_ret
  exact ⟨rfl,blw⟩
 have hcv:=run_convert_bytes_back (P:=Tryz.prog) (w.alloc (.cells (aJ n) 56)) 189 9 5 ⟨w.heap.size,0,none⟩ 12 (n.take k) Tryz.underlying189 Tryz.underlying5 Tryz.underlying9 (wL (HR.out.take k))
 rw[show (n.take k).length=k by simp;omega] at hcv
 have hk12:(k:Int)<=12:=by omega
 have hk0:(0:Int)<=k:=by omega
 clear hn
 go_enter Tryz.func114,Tryz.ntmps114
 go_wp2_with (go_at_call 139;refine HCL.out.mono ?_;rintro e w' ⟨rfl,rfl⟩)
 go_ret
 exact ⟨rfl,blw⟩

theorem rG (n:List UInt8):(dV n).length<=n.length:=pJ _ n

theorem qN (n:List UInt8) (hn:n.length=12) (w:World):Gives Tryz.prog 72 #[.agg (aJ n)] w (.bool (dJ n)):=by
 have hp1:(gI (dV n)).length=12:=by
  unfold gI
  split
  ·exact dM (by have:=rG n;omega)
  simp
 have hf:=aDi n hn
 have hp:=zX (dV n)
 have hr:dJ n=(decide (jF (dV n)=0) && (gI (dV n) == n)):=by
  unfold dJ gI jF
  cases fP (dV n) <;> simp
 rw[hr]
 generalize dV n=fr at *
 generalize gI fr=p1 at *
 generalize jF fr=p2 at *
 have HF:=Lib.hid hf
 have HP:=Lib.hid hp
 clear hf hp hr
 unfold Gives
 go_enter Tryz.func72,Tryz.ntmps72
 go_wp2_with (first | (go_at_call 114;refine Gives.use (HF.out _) ?_;intro xs d) | (go_at_call 113;refine Gives.use (HP.out _) ?_;intro xs d))
 all_goals
  go_ret
  exact ⟨congrArg Ending.returned (congrArg Value.bool (by first | (simp[*];done) | (rw[Bool.eq_iff_iff];simp[*];done) | (rw[Bool.eq_iff_iff];simp[*];omega) | (rw[Bool.eq_iff_iff];simp;omega))),blw⟩
end Go.Proofs.YtcedmfnlkelhkaaGreatDoor
namespace Go.Proofs.YtcedmfnlkelhkaaGreatDoor
set_option maxHeartbeats 40000000
set_option maxRecDepth 100000
open Go.RowKit

theorem aDn (c:UInt8):yI c=(decide ((97:Int)<=c.toNat) && decide ((c.toNat:Int)<=122)):=by
 unfold yI;congr 1 <;> (rw[decide_eq_decide];omega)
theorem aEP (c:UInt8):aGU c=(decide ((65:Int)<=c.toNat) && decide ((c.toNat:Int)<=90)):=by
 unfold aGU;congr 1 <;> (rw[decide_eq_decide];omega)
theorem aJq (c:UInt8):rZ c=(decide ((48:Int)<=c.toNat) && decide ((c.toNat:Int)<=57)):=by
 unfold rZ;congr 1 <;> (rw[decide_eq_decide];omega)
theorem aAU (c:UInt8) (w:World):Gives Tryz.prog 96 #[.int .u8 (c.toNat:Int)] w (.bool (lK c)):=by
 unfold lK
 rw[aDn,aEP]
 unfold Gives
 go_enter Tryz.func96,Tryz.ntmps96
 go_wp2_with fail
 all_goals
  go_ret
  exact ⟨congrArg Ending.returned (congrArg Value.bool (by first | (simp[*];done) | (rw[Bool.eq_iff_iff];simp[*];done) | (rw[Bool.eq_iff_iff];simp[*];omega) | (rw[Bool.eq_iff_iff];simp;omega))),blw⟩
theorem aAp (c:UInt8) (w:World):Gives Tryz.prog 99 #[.int .u8 (c.toNat:Int)] w (.bool (rZ c)):=by
 rw[aJq]
 unfold Gives
 go_enter Tryz.func99,Tryz.ntmps99
 go_wp2_with fail
 all_goals
  go_ret
  exact ⟨congrArg Ending.returned (congrArg Value.bool (by first | (simp[*];done) | (rw[Bool.eq_iff_iff];simp[*];done) | (rw[Bool.eq_iff_iff];simp[*];omega) | (rw[Bool.eq_iff_iff];simp;omega))),blw⟩
theorem aDP {c:UInt8} (h:aGU c=true):((dK c).toNat:Int)=c.toNat+32:=by
 unfold dK
 rw[if_pos h]
 simp[aGU] at h
 simp[UInt8.toNat_add]
 omega
theorem aDQ {c:UInt8} (h:yI c=true):((eF c).toNat:Int)=c.toNat - 32:=by
 unfold eF
 rw[if_pos h]
 simp[yI] at h
 simp[UInt8.toNat_sub]
 omega
theorem vF {c:UInt8} (h:aGU c=false):dK c=c:=by unfold dK;rw[h];rfl
theorem vG {c:UInt8} (h:yI c=false):eF c=c:=by unfold eF;rw[h];rfl
theorem zW (c:UInt8) (w:World):Gives Tryz.prog 97 #[.int .u8 (c.toNat:Int)] w (.int .u8 ((dK c).toNat:Int)):=by
 cases h:aGU c
 ·rw[vF h]
  rw[aEP] at h
  have H:=Lib.hid h
  clear h
  unfold Gives
  go_enter Tryz.func97,Tryz.ntmps97
  go_wp2_with fail
  all_goals first
   | (go_ret;exact ⟨rfl,blw⟩)
   | (exfalso;have:=H.out;simp at this;omega)
 have e:=aDP h
 rw[e]
 rw[aEP] at h
 have h1:(65:Int)<=c.toNat:=by simp at h;omega
 have h2:(c.toNat:Int)<=90:=by simp at h;omega
 have hw:IntKind.u8.wrap ((c.toNat:Int)+32)=(c.toNat:Int)+32:=by
  have:IntKind.u8.wrap ((c.toNat:Int)+32)=((c.toNat:Int)+32) % 256:=rfl
  rw[this];omega
 clear h e
 unfold Gives
 go_enter Tryz.func97,Tryz.ntmps97
 go_wp2_with fail
 go_ret
 exact ⟨by first | rfl | rw[hw],blw⟩
theorem tN (c:UInt8) (w:World):Gives Tryz.prog 98 #[.int .u8 (c.toNat:Int)] w (.int .u8 ((eF c).toNat:Int)):=by
 cases h:yI c
 ·rw[vG h]
  rw[aDn] at h
  have H:=Lib.hid h
  clear h
  unfold Gives
  go_enter Tryz.func98,Tryz.ntmps98
  go_wp2_with fail
  all_goals first
   | (go_ret;exact ⟨rfl,blw⟩)
   | (exfalso;have:=H.out;simp at this;omega)
 have e:=aDQ h
 rw[e]
 rw[aDn] at h
 have h1:(97:Int)<=c.toNat:=by simp at h;omega
 have h2:(c.toNat:Int)<=122:=by simp at h;omega
 have hw:IntKind.u8.wrap ((c.toNat:Int) - 32)=(c.toNat:Int) - 32:=by
  have:IntKind.u8.wrap ((c.toNat:Int) - 32)=((c.toNat:Int) - 32) % 256:=rfl
  rw[this];omega
 clear h e
 unfold Gives
 go_enter Tryz.func98,Tryz.ntmps98
 go_wp2_with fail
 go_ret
 exact ⟨by first | rfl | rw[hw],blw⟩
theorem nC (s:List UInt8) (hm:s.length<=maxLen) (w:World):Gives Tryz.prog 95 #[.string (bs s),.func (.func 96) #[] #[]] w (.bool (s.all lK)):=by
 have hz:=bD s
 unfold maxLen at hm
 unfold Gives
 go_enter Tryz.func95,Tryz.ntmps95
 go_wp2_with fail
 go_loopw [8] (fun i wr => ∃ (k:Nat) (xs:Array Obj) (d:Nat),k<=s.length/\i = .int .i64 k/\Hid ((s.take k).all lK=true)/\wr=w.grow xs d) (fun i _=>s.length - (intOf i).toNat)
 case atStart=>exact ⟨0, #[],_,by omega,rfl,Lib.hid (by simp),World.jE.symm⟩
 obtain ⟨k,xs,d,hk,rfl,hall,rfl⟩:=hrel
 by_cases hlt:k<s.length
 ·have htk:s.take (k+1)=s.take k ++ [byt s k]:=by rw[List.take_succ_eq_append_getElem hlt,bP hlt]
  have HT:=Lib.hid htk
  have hs:=aAU (byt s k)
  generalize hb:lK (byt s k)=b at *
  have HS:=Lib.hid hs
  have HB:=Lib.hid hb
  clear hs hb htk
  cases b
  ·go_wp2_with (go_at_call 96;refine Gives.use (HS.out _) ?_;intro ys e)
   have h:s.all lK=false:=by
    rw[Bool.eq_false_iff]
    intro h
    have:=List.all_eq_true.1 h (s[k]'hlt) (List.getElem_mem hlt)
    rw[bP hlt,HB.out] at this
    cases this
   go_ret
   exact ⟨by rw[h];rfl,blw⟩
  go_wp2_with (go_at_call 96;refine Gives.use (HS.out _) ?_;intro ys e)
  go_roundw
  case rel =>
   refine ⟨k+1,_,_,by omega,by go_num,Lib.hid ?_,rfl⟩
   rw[HT.out,List.all_append,hall.out]
   simp[HB.out]
  simp[intOf];omega
 have:k=s.length:=by omega
 subst this
 rw[List.take_length] at hall
 go_wp2_with fail
 go_ret
 exact ⟨by rw[hall.out];rfl,blw⟩
theorem aCQ (s:List UInt8) (hm:s.length<=maxLen) (w:World):Gives Tryz.prog 95 #[.string (bs s),.func (.func 99) #[] #[]] w (.bool (s.all rZ)):=by
 have hz:=bD s
 unfold maxLen at hm
 unfold Gives
 go_enter Tryz.func95,Tryz.ntmps95
 go_wp2_with fail
 go_loopw [8] (fun i wr => ∃ (k:Nat) (xs:Array Obj) (d:Nat),k<=s.length/\i = .int .i64 k/\Hid ((s.take k).all rZ=true)/\wr=w.grow xs d) (fun i _=>s.length - (intOf i).toNat)
 case atStart=>exact ⟨0, #[],_,by omega,rfl,Lib.hid (by simp),World.jE.symm⟩
 obtain ⟨k,xs,d,hk,rfl,hall,rfl⟩:=hrel
 by_cases hlt:k<s.length
 ·have htk:s.take (k+1)=s.take k ++ [byt s k]:=by rw[List.take_succ_eq_append_getElem hlt,bP hlt]
  have HT:=Lib.hid htk
  have hs:=aAp (byt s k)
  generalize hb:rZ (byt s k)=b at *
  have HS:=Lib.hid hs
  have HB:=Lib.hid hb
  clear hs hb htk
  cases b
  ·go_wp2_with (go_at_call 99;refine Gives.use (HS.out _) ?_;intro ys e)
   have h:s.all rZ=false:=by
    rw[Bool.eq_false_iff]
    intro h
    have:=List.all_eq_true.1 h (s[k]'hlt) (List.getElem_mem hlt)
    rw[bP hlt,HB.out] at this
    cases this
   go_ret
   exact ⟨by rw[h];rfl,blw⟩
  go_wp2_with (go_at_call 99;refine Gives.use (HS.out _) ?_;intro ys e)
  go_roundw
  case rel =>
   refine ⟨k+1,_,_,by omega,by go_num,Lib.hid ?_,rfl⟩
   rw[HT.out,List.all_append,hall.out]
   simp[HB.out]
  simp[intOf];omega
 have:k=s.length:=by omega
 subst this
 rw[List.take_length] at hall
 go_wp2_with fail
 go_ret
 exact ⟨by rw[hall.out];rfl,blw⟩

theorem aHX {w:World} {b o cap:Nat} {l:List UInt8} (h:yT w b o l) :
  (convert 189 9 (.slice (some ⟨b,o,none⟩) l.length cap)).run Tryz.prog w = .ok (.string (bs l)) w :=
 run_convert_bytes_back (P:=Tryz.prog) w 189 9 5 ⟨b,o,none⟩ cap l Tryz.underlying189 Tryz.underlying5 Tryz.underlying9 (wL h)
theorem aJm (l:List UInt8):(bs l).data.toList=l:=by simp[bs]
theorem aF4 (l:List UInt8) (b o cap:Nat) (w:World) (h:yT w b o l) (hm:l.length<=maxLen):Gives Tryz.prog 100 #[.slice (some ⟨b,o,none⟩) l.length cap] w (.string (bs (partT l))):=by
 have hcv:=aHX (cap:=cap) h
 have ht:=Tryz.strings_TrimRight_one (bs l) 0 (by decide) w (by rw[bD];exact hm)
 rw[aJm] at ht
 have HT:=Lib.hid ht
 clear ht h
 unfold Gives
 go_enter Tryz.func100,Tryz.ntmps100
 go_wp2_with (go_at_call 128;refine HT.out.mono ?_;rintro e w' ⟨rfl,rfl⟩)
 go_ret
 exact ⟨rfl,blw⟩
theorem yT.part {w:World} {b o:Nat} {l:List UInt8} (h:yT w b o l) (a n:Nat):yT w b (o+a) ((l.drop a).take n):=by
 intro j hj
 have hj2:j<n/\a+j<l.length:=by simp at hj;omega
 have:=h (a+j) hj2.2
 rw[Nat.add_assoc,this,<-bP hj,<-bP hj2.2]
 simp
theorem yT.grow {w:World} {b o:Nat} {l:List UInt8} (h:yT w b o l) (hb:b<w.heap.size) (xs:Array Obj) (d:Nat):yT (w.grow xs d) b o l:=by
 intro j hj
 rw[<-h j hj]
 exact World.cell?_grow xs d b (o+j) hb
theorem aBl (l:List UInt8) (b o n cap:Nat) (hn:l.length=n) (w:World) (h:yT w b o l) (hm:n<=100):Gives Tryz.prog 100 #[.slice (some ⟨b,o,none⟩) n cap] w (.string (bs (partT l))):=by
 subst hn
 exact aF4 l b o cap w h (by unfold maxLen;omega)

def aCP (s1 s2:List UInt8) (v:Value) (w:World):Prop :=
 ∃ b,v = .slice (some ⟨b,0,none⟩) 2 2/\b<w.heap.size/\w.cell? ⟨b,0,none⟩=some (.string (bs s1))/\w.cell? ⟨b,1,none⟩=some (.string (bs s2))
theorem aCP.keep {s1 s2:List UInt8} {v:Value} {w w':World} (h:aCP s1 s2 v w) (hb:Below w.heap.size w w'):aCP s1 s2 v w':=by
 obtain ⟨b,h1,h2,h3,h4⟩:=h
 exact ⟨b,h1,Nat.lt_of_lt_of_le h2 hb.size,by rw[hb.cell (p:=⟨b,0,none⟩) h2];exact h3,by rw[hb.cell (p:=⟨b,1,none⟩) h2];exact h4⟩

theorem uI {α:Type} (p:α->Bool):∀ l:List α,(l.dropWhile p).length<=l.length
 | []=>Nat.le_refl _
 | x :: l=>by
  rw[List.dropWhile_cons]
  split
  ·have:=uI p l
   simp only[List.length_cons];omega
  ·exact Nat.le_refl _
theorem iG (l:List UInt8):(partT l).length<=l.length:=by
 unfold partT Lib.trimRightB
 have:=uI (· == (0:UInt8)) l.reverse
 simpa using this
theorem oH (l:List UInt8):(dashed l).length<=l.length+1:=by
 unfold dashed;split <;> simp
theorem aE2 (a b:List UInt8) (h:b ≠ []):bs a++(ByteArray.mk #[45]++bs b)=bs (a++dashed b):=by
 unfold dashed
 rw[if_neg h]
 have:(ByteArray.mk #[45]++bs b)=bs (45 :: b):=by
  rw[show (ByteArray.mk #[45]:ByteArray)=bs [45] from rfl,qE];rfl
 rw[this,qE]
def aBn (a b c:List UInt8):Nat->List UInt8
 | 0=>a
 | 1=>a++dashed b
 | _=>a++dashed b++dashed c
theorem aDs (t:List UInt8) (hn:t.length=10) (w:World):Gives Tryz.prog 64 #[.agg (aJ t)] w (.string (bs (fF t))):=by
 have hz:(zeros 10).length=10:=by simp
 by_cases hroot:t=zeros 10
 ·have e:(t == zeros 10)=true:=beq_iff_eq.2 hroot
  have e2:fF t=qU:=if_pos hroot
  have E:=Lib.hid e2
  clear e2 hroot
  unfold Gives
  go_enter Tryz.func64,Tryz.ntmps64
  go_wp2_with fail
  go_ret
  exact ⟨by rw[E.out];rfl,blw⟩
 have e:(t == zeros 10)=false:=beq_eq_false_iff_ne.2 hroot
 have e2:fF t=partT (vY t)++dashed (partT (kL t))++dashed (partT (kK t)):=if_neg hroot
 have E:=Lib.hid e2
 have hr:=aBx (w:=w) t 60
 have h1:yT (w.alloc (.cells (aJ t) 60)) w.heap.size 0 (vY t):=hr.take 3
 have h2:yT (w.alloc (.cells (aJ t) 60)) w.heap.size 3 (kL t):=by have:=hr.part 3 4;rw[Nat.zero_add] at this;exact this
 have h3:yT (w.alloc (.cells (aJ t) 60)) w.heap.size 7 (kK t):=by
  have:=hr.part 7 3
  rw[Nat.zero_add,List.take_of_length_le (by simp;omega)] at this
  exact this
 have l1:(vY t).length=3:=by simp[vY,hn]
 have l2:(kL t).length=4:=by simp[kL,hn]
 have l3:(kK t).length=3:=by simp[kK,hn]
 have c1:=fun xs d=>aBl (vY t) w.heap.size 0 3 3 l1 _ (h1.grow (by simp) xs d) (by omega)
 have c2:=fun xs d=>aBl (kL t) w.heap.size 3 4 4 l2 _ (h2.grow (by simp) xs d) (by omega)
 have c3:=fun xs d=>aBl (kK t) w.heap.size 7 3 3 l3 _ (h3.grow (by simp) xs d) (by omega)
 have c0:=aBl (vY t) w.heap.size 0 3 3 l1 _ h1 (by omega)
 have b1:(bs (partT (vY t))).size<=10:=by rw[bD];have:=iG (vY t);omega
 have b2:(bs (partT (kL t))).size<=10:=by rw[bD];have:=iG (kL t);omega
 have b3:(bs (partT (kK t))).size<=10:=by rw[bD];have:=iG (kK t);omega
 generalize partT (vY t)=a1 at *
 generalize partT (kL t)=a2 at *
 generalize partT (kK t)=a3 at *
 have C0:=Lib.hid c0
 have C2:=Lib.hid c2
 have C3:=Lib.hid c3
 clear c0 c1 c2 c3 l1 l2 l3 h1 h2 h3 hr hroot e2
 unfold Gives
 go_enter Tryz.func64,Tryz.ntmps64
 go_wp2_with (go_at_call 100;refine Gives.use C0.out ?_;intro xs0 d0)
 apply aG (by rfl) [.val _,.val _,.val _,.val _,.val _,.val _,.rel (aCP a2 a3),.val _,.val _] 9 (by rfl) [12,13,14,15,16,17,18,19,20] [] [] (by rfl) (by rfl) (by decide) (by decide +kernel) (fun _ _ _ _ _ h=>h)
 case hF=>intro x;simp only[over,List.foldl_cons,List.foldl_nil,List.setIfInBounds_toArray,List.set_cons_succ,List.set_cons_zero];exact rfl
 case hops =>
  refine ⟨?o0,?o1,?o2,?o3,?o4,?o5,?o6,?o7,?o8,trivial⟩
  case o0 =>
   intro x w1 hH K hK
   obtain ⟨xs,d,rfl⟩:=aA hH.below
   clear hH
   try simp only[World.aB] at hK |-
   try simp only[World.grow_grow] at hK |-
   exact zw
  case o1 =>
   intro x w1 hH K hK
   have e12:x 12=_:=hH.g 0 12
   obtain ⟨xs,d,rfl⟩:=aA hH.below
   clear hH
   try simp only[World.aB] at hK |-
   try simp only[World.grow_grow] at hK |-
   simp only[e12] at hK |-
   clear e12
   exact zw
  case o2 =>
   intro x w1 hH K hK
   have e13:x 13=_:=hH.g 1 13
   obtain ⟨xs,d,rfl⟩:=aA hH.below
   clear hH
   try simp only[World.aB] at hK |-
   try simp only[World.grow_grow] at hK |-
   simp only[e13] at hK |-
   clear e13
   go_simp
   go_wp2_with (refine Gives.use (C2.out _ _) ?_;intro ys e)
   exact zu
  case o3 =>
   intro x w1 hH K hK
   obtain ⟨xs,d,rfl⟩:=aA hH.below
   clear hH
   try simp only[World.aB] at hK |-
   try simp only[World.grow_grow] at hK |-
   exact zw
  case o4 =>
   intro x w1 hH K hK
   have e15:x 15=_:=hH.g 3 15
   obtain ⟨xs,d,rfl⟩:=aA hH.below
   clear hH
   try simp only[World.aB] at hK |-
   try simp only[World.grow_grow] at hK |-
   simp only[e15] at hK |-
   clear e15
   exact zw
  case o5 =>
   intro x w1 hH K hK
   have e16:x 16=_:=hH.g 4 16
   obtain ⟨xs,d,rfl⟩:=aA hH.below
   clear hH
   try simp only[World.aB] at hK |-
   try simp only[World.grow_grow] at hK |-
   simp only[e16] at hK |-
   clear e16
   go_simp
   go_wp2_with (refine Gives.use (C3.out _ _) ?_;intro ys e)
   exact zu
  case o6 =>
   intro x w1 hH K hK
   have e14:x 14=_:=hH.g 2 14
   have e17:x 17=_:=hH.g 5 17
   obtain ⟨xs,d,rfl⟩:=aA hH.below
   clear hH
   try simp only[World.aB] at hK |-
   try simp only[World.grow_grow] at hK |-
   simp only[e14,e17] at hK |-
   clear e14 e17
   go_simp
   go_wp2_with fail
   exact ⟨_,rfl,fun w3 h3=>aCP.keep ⟨_,rfl,by simp,by simp[go_sem],by simp[go_sem]⟩ h3,blw,fun h=>by cases h⟩
  case o7 =>
   intro x w1 hH K hK
   have r18:=hH.holds 6 (by decide) (by decide +kernel) 18 rfl (_) (Below.refl _ _)
   obtain ⟨xs,d,rfl⟩:=aA hH.below
   clear hH
   try simp only[World.aB] at hK r18 |-
   try simp only[World.grow_grow] at hK r18 |-
   obtain ⟨b,hb,_,_,_⟩:=r18
   simp only[hb] at hK |-
   go_simp
   go_wp2_with fail
   exact ⟨_,rfl,rfl,Below.refl _ _,fun h=>by cases h⟩
  case o8 =>
   intro x w1 hH K hK
   obtain ⟨xs,d,rfl⟩:=aA hH.below
   clear hH
   try simp only[World.aB] at hK |-
   try simp only[World.grow_grow] at hK |-
   exact zw
 intro x w1 hH
 have e12:x 12=_:=hH.t 0 12
 have e13:x 13=_:=hH.t 1 13
 have e14:x 14=_:=hH.t 2 14
 have e15:x 15=_:=hH.t 3 15
 have e16:x 16=_:=hH.t 4 16
 have e17:x 17=_:=hH.t 5 17
 have r18:=hH.holds 6 (by decide) trivial 18 rfl (_) (Below.refl _ _)
 have e19:x 19=_:=hH.t 7 19
 have e20:x 20=_:=hH.t 8 20
 obtain ⟨xs,d,rfl⟩:=aA hH.below
 clear hH
 simp only[e12,e13,e14,e15,e16,e17,e19,e20];clear e12 e13 e14 e15 e16 e17 e19 e20
 simp only[List.drop_succ_cons,List.drop_nil]
 obtain ⟨b,hb,hbs,hc1,hc2⟩:=r18
 rw[hb]
 clear hb
 simp only[World.aB,World.grow_grow] at hbs hc1 hc2 |-
 have hB:Below w.heap.size w ((w.alloc (.cells (aJ t) 60)).grow (xs0++xs) d):=blw
 generalize (w.alloc (.cells (aJ t) 60)).grow (xs0++xs) d=W at hB hbs hc1 hc2 |-
 have hs:=hB.size
 have HB:=Lib.hid hB
 clear hB
 go_wp2_with fail
 have L0:=Lib.hid (show aBn a1 a2 a3 0=a1 from rfl)
 have L1:=Lib.hid (show aBn a1 a2 a3 1=a1++dashed a2 from rfl)
 have L2:=Lib.hid (show aBn a1 a2 a3 2=a1++dashed a2++dashed a3 from rfl)
 go_loopw [3,20] (fun s i wr => ∃ (k:Nat) (ys:Array Obj) (e:Nat),k<=2/\s = .string (bs (aBn a1 a2 a3 k))/\i = .int .i64 k/\wr=W.grow ys e) (fun _ i _=>2 - (intOf i).toNat)
 case atStart=>exact ⟨0, #[],_,by omega,by rw[L0.out],rfl,World.jE.symm⟩
 obtain ⟨k,ys,e1,hk,rfl,rfl,rfl⟩:=hrel
 have hk:k=0\/k=1\/k=2:=by omega
 rcases hk with rfl | rfl | rfl
 ·rw[L0.out]
  go_wp2_with fail
  ·rename_i h
   go_roundw
   case rel=>exact ⟨1,_,_,by omega,by rw[L1.out];exact congrArg Value.string (aE2 a1 a2 (by simpa using h)),rfl,rfl⟩
   simp[intOf]
  rename_i h
  go_roundw
  case rel=>exact ⟨1,_,_,by omega,by rw[L1.out];simp at h;simp[h,dashed],rfl,rfl⟩
  simp[intOf]
 ·rw[L1.out]
  have b4:(bs (a1++dashed a2)).size<=40:=by
   rw[bD] at b1 b2 |-
   have:=oH a2
   simp;omega
  go_wp2_with fail
  ·rename_i h
   go_roundw
   case rel=>exact ⟨2,_,_,by omega,by rw[L2.out];exact congrArg Value.string (aE2 _ a3 (by simpa using h)),rfl,rfl⟩
   simp[intOf]
  rename_i h
  go_roundw
  case rel=>exact ⟨2,_,_,by omega,by rw[L2.out];simp at h;simp[h,dashed],rfl,rfl⟩
  simp[intOf]
 go_wp2_with fail
 go_ret
 exact ⟨by rw[E.out,L2.out];rfl,HB.out.grow hs _ _⟩
theorem aAQ (c:UInt8) (l:List UInt8):splitOn c (c :: l) = [] :: splitOn c l:=by rw[splitOn];exact if_pos rfl
theorem xO {c b:UInt8} {l p:List UInt8} {r:List (List UInt8)} (h:b≠c) (hs:splitOn c l=p :: r):splitOn c (b :: l)=(b :: p) :: r:=by
 rw[splitOn,if_neg h,hs]
theorem tK (c:UInt8):∀ s:List UInt8,(Lib.indexByte s c = -1/\s.count c=0/\splitOn c s = [s]) \/
  ∃ k:Nat,k<s.length/\Lib.indexByte s c=k/\s.count c=1+(s.drop (k+1)).count c/\splitOn c s=s.take k :: splitOn c (s.drop (k+1))
 | [] => .inl ⟨rfl,rfl,rfl⟩
 | b :: l=>by
  rw[Lib.indexByte]
  by_cases h:b=c
  ·right
   subst h
   refine ⟨0,by simp,by simp,by simp;omega,?_⟩
   rw[aAQ];rfl
  ·have h1:(b == c)=false:=by simpa using h
   rw[h1]
   rcases tK c l with ⟨e1,e2,e3⟩ | ⟨k,hk,e1,e2,e3⟩
   ·left
    rw[e1,xO h e3]
    refine ⟨rfl,?_,rfl⟩
    rw[List.count_cons,e2,h1];rfl
   ·right
    refine ⟨k+1,by simp;omega,?_,?_,?_⟩
    ·rw[e1]
     have:((k:Int) == -1)=false:=by simp
     rw[this];rfl
    ·rw[List.count_cons,e2,h1];rfl
    ·rw[xO h e3];rfl
theorem aDI (c:UInt8):∀ (k:Nat) (s:List UInt8),s.count c<=k->Lib.splitK [c] 0 k s=splitOn c s
 | 0,s,h=>by
  rcases tK c s with ⟨_,_,e3⟩ | ⟨k,hk,_,e2,_⟩
  ·rw[e3];rfl
  ·omega
 | n+1,s,h=>by
  unfold Lib.splitK
  rw[Lib.index_one]
  rcases tK c s with ⟨e1,_,e3⟩ | ⟨k,hk,e1,e2,e3⟩
  ·rw[e1,e3];rfl
  ·rw[e1,e3]
   have:((k:Int) == -1)=false:=by simp
   rw[this]
   simp only[Bool.false_eq_true,if_false,Int.toNat_natCast,Nat.add_zero,List.length_cons,List.length_nil]
   rw[aDI c n (s.drop (k+1)) (by omega)]
theorem aAR (c:UInt8) (s:List UInt8):(splitOn c s).length=s.count c+1:=by
 induction s with
 | nil=>rfl
 | cons b l ih =>
  by_cases h:b=c
  ·subst h;rw[aAQ];simp[ih]
  rw[splitOn,if_neg h]
  have h1:(b == c)=false:=by simpa using h
  cases hs:splitOn c l with
  | nil=>rw[hs] at ih;simp at ih
  | cons p r=>rw[hs] at ih;simp only[List.length_cons] at ih |-;rw[List.count_cons,h1];simpa using ih

def aGW (ps:List (List UInt8)) (C:Array Value) (o:Nat):Prop := ∀ (i:Nat) (p:List UInt8),ps[i]? = some p->C[o+i]? = some (.string (bs p))
theorem aGW.tail {p:List UInt8} {ps:List (List UInt8)} {C:Array Value} {o:Nat} (h:aGW (p :: ps) C o):aGW ps C (o+1) :=
 fun i q hi=>by have:=h (i+1) q (by simpa using hi);rw[show o+1+i=o+(i+1) by omega];exact this

theorem aEJ (c:UInt8) (s:List UInt8) (hs:s.length<=1000000) (w:World) :
  Calls Tryz.prog 94 #[.string (bs s),.string ⟨#[c]⟩] w fun e w' => ∃ cap C,e = .returned (.slice (some ⟨w.heap.size,0,none⟩) (splitOn c s).length cap)/\(splitOn c s).length<=cap/\cap<=1000001/\aGW (splitOn c s) C 0/\w'=w.alloc (.cells C 9):=by
 have hcnt:Lib.countB (bs s) ⟨#[c]⟩=s.count c:=by
  show Lib.count (bs s).data.toList [c]=_
  rw[Lib.count_one]
  simp[bs]
 have hi:∀ x:ByteArray,Lib.indexB x ⟨#[c]⟩=Lib.indexByte x.data.toList c:=fun x=>Lib.index_one _ c
 have hle:s.count c<=s.length:=List.count_le_length
 have hcore:=Any.strings_genSplit_core (P:=Tryz.prog) Tryz.lays221 (by kernel_rfl) (bs s) ⟨#[c]⟩ 0 (-1) (s.count c+1) w (by rw[bD];omega) (Nat.le_refl 1) (Nat.zero_le _)
  (fun x cs _=>by
   have:=Tryz.strings_Index_one x c (w.alloc (.cells cs (Tryz.lays221_ren.t 9)))
   rw[hi x]
   exact this)
  (by
   have:=Tryz.strings_Count_one (bs s) c w
   rw[hcnt]
   have e:Lib.countByte (bs s).data.toList c=s.count c:=by simp[Lib.countByte,bs]
   rw[e] at this
   exact this)
  (by decide) (by decide) (by rw[hcnt,bD];simp;omega)
 have hB:(Lib.splitB ⟨#[c]⟩ 0 (s.count c) (bs s)).map (·.data.toList)=splitOn c s:=by
  rw[Lib.splitB_data]
  have:=aDI c (s.count c) s (Nat.le_refl _)
  simpa [bs] using this
 have hBl:(Lib.splitB ⟨#[c]⟩ 0 (s.count c) (bs s)).length=(splitOn c s).length:=by rw[<-hB,List.length_map]
 simp only[Nat.add_sub_cancel] at hcore
 rw[hBl] at hcore
 have HC:=Lib.hid hcore
 have HBB:=Lib.hid hB
 clear hcore hcnt hi hB hBl
 go_enter Tryz.func94,Tryz.ntmps94
 go_wp2_with (go_at_call 127;refine HC.out.mono ?_;rintro e w' ⟨rfl,rfl⟩)
 go_ret
 have hlen:=aAR c s
 refine ⟨s.count c+1,_,rfl,by omega,by omega,?_,rfl⟩
 intro i p hp
 rw[<-HBB.out,List.getElem?_map,Option.map_eq_some_iff] at hp
 obtain ⟨q,hq,rfl⟩:=hp
 have hc:(Lib.cellsOf (Lib.splitB ⟨#[c]⟩ 0 (s.count c) (bs s)) (s.count c+1))[i]? = some (.string q):=by
  unfold Lib.cellsOf
  have hi:=(List.getElem?_eq_some_iff.1 hq).1
  rw[List.getElem?_toArray,List.getElem?_append_left (by simpa using hi),List.getElem?_map,hq]
  rfl
 rw[<-aOe q,Nat.zero_add]
 exact hc
end Go.Proofs.YtcedmfnlkelhkaaGreatDoor
