/- Layer 20: what may be asked for; a name's own answer; modes. -/
import Derived.Test.YtcedmfnlkelhkaaGreatDoorJci
import Derived.Handy
import Derived.Test.YtcedmfnlkelhkaaGreatDoorJct
import Derived.Laws.EntriesVeiled
namespace Go.Proofs.YtcedmfnlkelhkaaGreatDoor
set_option maxHeartbeats 40000000
set_option maxRecDepth 100000
open Go.RowKit

def aD4 (nm tg:List UInt8):Int:=if dJ nm=false then 15 else if aZ tg=false then 14 else 0
theorem aC5 (vb:Nat) (nm tg:List UInt8) (hn:nm.length=12) (ht:tg.length=10) (w:World) :
  Gives Tryz.prog 37 #[.pointer (some ⟨vb,0,none⟩),.agg (aJ nm),.agg (aJ tg)] w (.int .i64 (aD4 nm tg)):=by
 have HN:=Lib.hid (fun w=>qN nm hn w)
 have HT:=Lib.hid (fun w=>kV tg ht w)
 unfold aD4
 generalize dJ nm=a at *
 generalize aZ tg=b at *
 cases a
 ·unfold Gives
  go_enter Tryz.func37,Tryz.ntmps37
  go_wp2_with fail
  refine Gives.use (HN.out _) ?_
  intro xs d
  go_wp2_with fail
  go_ret
  exact ⟨rfl,blw⟩
 cases b
 ·unfold Gives
  go_enter Tryz.func37,Tryz.ntmps37
  go_wp2_with fail
  refine Gives.use (HN.out _) ?_
  intro xs d
  go_wp2_with fail
  refine Gives.use (HT.out _) ?_
  intro xs2 d2
  go_wp2_with fail
  go_ret
  exact ⟨rfl,blw⟩
 unfold Gives
 go_enter Tryz.func37,Tryz.ntmps37
 go_wp2_with fail
 refine Gives.use (HN.out _) ?_
 intro xs d
 go_wp2_with fail
 refine Gives.use (HT.out _) ?_
 intro xs2 d2
 go_wp2_with fail
 go_ret
 exact ⟨rfl,blw⟩
/-! answers -/
def aGZ (a:Ans):List Value := .string (bs a.text.val) :: ((a.tag.map fun b=>Value.int .u8 (b.toNat:Int)) ++ [.int .i64 (a.state.toNat:Int),.int .u32 (a.rev.toNat:Int)])
def gZ (a:Ans):Array Value:=(aGZ a).toArray
theorem uF {a:Ans} (h:a.tag.length=10):(gZ a).size=13:=by simp[gZ,aGZ,h]
theorem aAu {a:Ans} (h:a.tag.length=10):(gZ a)[11]? = some (.int .i64 (a.state.toNat:Int)):=by
 unfold gZ aGZ
 rw[List.getElem?_toArray,List.getElem?_cons_succ,List.getElem?_append_right (by simp[h]),List.length_map,h]
 rfl
@[go_sem] theorem oV:Tryz.prog.bJ 63=some 13:=by kernel_rfl
@[go_sem ↓ high] theorem aQG (a:Addr):loadVar 63 a=eX 63 a:=rfl
@[go_sem ↓ high] theorem aQ7 (a:Addr) (v:Value):storeVar 63 a v=bH 63 a v:=rfl
instance:DecidableEq Ans:=fun a b =>
 if h:a.text=b.text/\a.tag=b.tag/\a.state=b.state/\a.rev=b.rev then .isTrue (by obtain ⟨h0,h1,h2,h3⟩:=h;cases a;cases b;simp only at *;subst h0 h1 h2 h3;rfl)
 else .isFalse (by rintro rfl;exact h ⟨rfl,rfl,rfl,rfl⟩)
def Ans.zero:Ans:=⟨Txt.nil,zeros 10,0,0⟩
@[go_sem] theorem aPB:(#[.string ⟨#[]⟩,.int .u8 0,.int .u8 0,.int .u8 0,.int .u8 0,.int .u8 0,.int .u8 0,.int .u8 0,.int .u8 0,.int .u8 0,.int .u8 0,.int .i64 0,.int .u32 0]:Array Value)=gZ Ans.zero:=by kernel_rfl
def aLN:List TypeDesc := .string :: (fA 10 ++ [.int .i64,.int .u32])
theorem aIZ:fQ Tryz.prog 63 aLN:=⟨by kernel_rfl,by kernel_rfl,oV⟩
def aIJ (a:Ans):List Lit := .string a.text.val :: (kR a.tag ++ [.int .i64 (a.state.toNat:Int),.int .u32 (a.rev.toNat:Int)])
theorem aG1 {a:Ans} (h:a.tag.length=10):iT aLN (aGZ a) (aIJ a):=by
 have h1:=rU a.tag
 rw[h] at h1
 have h2:(aJ a.tag).toList=a.tag.map fun b=>Value.int .u8 (b.toNat:Int):=by simp[aJ]
 rw[h2] at h1
 exact .cons (aDg _) (h1.append (.cons (nR _) (.cons (aGl _) .nil)))
theorem aJj {a b:Ans} (ha:a.tag.length=10) (hb:b.tag.length=10) (h:aIJ a=aIJ b):a=b:=by
 obtain ⟨⟨a0,_⟩,a1,a2,a3⟩:=a
 obtain ⟨⟨b0,_⟩,b1,b2,b3⟩:=b
 unfold aIJ at h
 simp only[List.cons.injEq,Lit.string.injEq] at h ha hb
 obtain ⟨h0,h1⟩:=h
 obtain ⟨h1,h2⟩:=List.append_inj h1 (by simp[kR,ha,hb])
 simp only[List.cons.injEq,Lit.int.injEq,true_and,and_true] at h2
 obtain rfl:=nD h1
 obtain rfl:=mO h2.1
 obtain rfl:a3=b3:=UInt32.toNat_inj.1 (by omega)
 subst h0;rfl
@[go_sem ↓ high] theorem aQA (a b:Ans) (ha:a.tag.length=10) (hb:b.tag.length=10) (w:World):(Op.equalIn 10000 63 (.agg (gZ a)) (.agg (gZ b))).run Tryz.prog w = .ok (decide (a=b)) w:=by
 obtain ⟨r,h1,h2⟩:=aBb aIZ w (a:=gZ a) (b:=gZ b) (by simpa [gZ] using aG1 ha) (by simpa [gZ] using aG1 hb)
 rw[h1]
 congr 1
 rw[Bool.eq_iff_iff,h2,decide_eq_true_eq]
 exact ⟨aJj ha hb,fun h=>by rw[h]⟩
@[go_sem] theorem aPC (a:Ans):bZ (gZ a)=true:=dH (by
 intro v hv
 rcases List.mem_cons.1 hv with rfl | hv
 ·rfl
 ·rcases List.mem_append.1 hv with hv | hv
  ·obtain ⟨b,_,rfl⟩:=List.mem_map.1 hv
   rfl
  ·simp at hv
   rcases hv with rfl | rfl <;> rfl)
def aFN (t:TypeId) (p q:Nat×Value):Sem Value:=Instr.build t #[p,q]
def aA9 (t:TypeId) (p q r u:Nat×Value):Sem Value:=Instr.build t #[p,q,r,u]
@[go_sem ↓ high] theorem aNI (f:Nat×Operand->Nat×Value) (p q:Nat×Operand):Instr.build 63 (Array.map f #[p,q])=aFN 63 (f p) (f q):=by simp[aFN]
@[go_sem ↓ high] theorem aNJ (f:Nat×Operand->Nat×Value) (p q r u:Nat×Operand):Instr.build 63 (Array.map f #[p,q,r,u])=aA9 63 (f p) (f q) (f r) (f u):=by simp[aA9]
@[go_sem] theorem aLP (r:Rec) (w:World):(aFN 63 (0,.string (bs r.text.val)) (3,.int .u32 (r.rev.toNat:Int))).run Tryz.prog w = .ok (.agg (gZ (aAc r))) w:=by
 unfold aFN
 refine fJ (zero := .agg (gZ Ans.zero)) (places := #[(0,1),(1,10),(11,1),(12,1)]) (by intro w;exact (Tryz.zeroValue63 w).trans rfl) Tryz.underlying63 (by intro w;kernel_rfl) ?_
 rfl
@[go_sem] theorem aLQ (x:Txt) (u:List UInt8) (hu:u.length=10) (s:UInt8) (v:UInt32) (w:World):(aA9 63 (0,.string (bs x.val)) (1,.agg (aJ u)) (2,.int .i64 (s.toNat:Int)) (3,.int .u32 (v.toNat:Int))).run Tryz.prog w = .ok (.agg (gZ ⟨x,u,s,v⟩)) w:=by
 unfold aA9
 refine fJ (zero := .agg (gZ Ans.zero)) (places := #[(0,1),(1,10),(11,1),(12,1)]) (by intro w;exact (Tryz.zeroValue63 w).trans rfl) Tryz.underlying63 (by intro w;kernel_rfl) ?_
 match u,hu with
 | [a,b,c,d,e,f,g,h,i,j],_ =>
  show Instr.fill _ _ _=_
  kernel_rfl
def aGS (o:Option (UInt8×Rec)):Int:=match o with | some (_,r)=>if r.gone=true then 7 else 0 | none=>7
def aKb (o:Option (UInt8×Rec)):Ans:=match o with | some (_,r)=>if r.gone=true then Ans.zero else aAc r | none=>Ans.zero
theorem aBd (vb:Nat) (nm:List UInt8) (hn:nm.length=12) (o:Option (UInt8×Rec)) (w:World) (hs:∀ V,Below w.heap.size w V->Gives Tryz.prog 23 #[.pointer (some ⟨vb,0,none⟩),.agg (aJ nm)] V (xX o)) :
  Gives Tryz.prog 39 #[.pointer (some ⟨vb,0,none⟩),.agg (aJ nm)] w (.tuple #[.agg (gZ (aKb o)),.int .i64 (aGS o)]):=by
 have hnl:(aJ nm).size=12:=by simp[hn]
 have hz:(gZ Ans.zero).size=13:=rfl
 cases o with
 | none =>
  simp only[xX,aCH] at hs
  have HS:=Lib.hid hs
  simp only[aKb,aGS]
  clear hs
  unfold Gives
  go_enter Tryz.func39,Tryz.ntmps39
  go_wp2_with fail
  refine Gives.use (HS.out _ blw) ?_
  intro xs d
  go_wp2_with fail
  exact bodyPost_ret (v := .tuple #[.agg (gZ Ans.zero),.int .i64 7]) (aH Tryz.results39 (aO.row rfl oV (by simp[go_sem,hz])) (by simp[aO])) rfl ⟨rfl,blw⟩
 | some x =>
  obtain ⟨xb,xr⟩:=x
  simp only[xX,aCH] at hs
  have HS:=Lib.hid hs
  have hx5:(bI xr)[5]? = some (.bool xr.gone):=rfl
  have hx6:(bI xr)[6]? = some (.int .u32 (xr.rev.toNat:Int)):=rfl
  have hx8:(bI xr)[8]? = some (.string (bs xr.text.val)):=rfl
  simp only[aKb,aGS]
  clear hs
  by_cases hg:xr.gone=true
  ·rw[if_pos hg,if_pos hg]
   unfold Gives
   go_enter Tryz.func39,Tryz.ntmps39
   go_wp2_with fail
   refine Gives.use (HS.out _ blw) ?_
   intro xs d
   go_wp2_with fail
   exact bodyPost_ret (v := .tuple #[.agg (gZ Ans.zero),.int .i64 7]) (aH Tryz.results39 (aO.row rfl oV (by simp[go_sem,hz])) (by simp[aO])) rfl ⟨rfl,blw⟩
  rw[if_neg hg,if_neg hg]
  have hg:xr.gone=false:=by simpa using hg
  have ho:(gZ (aAc xr)).size=13:=rfl
  unfold Gives
  go_enter Tryz.func39,Tryz.ntmps39
  go_wp2_with fail
  refine Gives.use (HS.out _ blw) ?_
  intro xs d
  go_wp2_with fail
  exact bodyPost_ret (v := .tuple #[.agg (gZ (aAc xr)),.int .i64 0]) (aH Tryz.results39 (aO.row rfl oV (by simp[go_sem,ho])) (by simp[aO])) rfl ⟨rfl,blw⟩
end Go.Proofs.YtcedmfnlkelhkaaGreatDoor
namespace Go.Proofs.YtcedmfnlkelhkaaGreatDoor.Rd
set_option maxHeartbeats 40000000
set_option maxRecDepth 100000
open Go.RowKit Go.Shelf
attribute [local go_sem] Oper.semAt_some

abbrev A10 := { a:Ans // a.tag.length=10 }
def aOi (a:A10):Array Value := #[.agg (gZ a.1)]
def stT (s:UInt8×Rec×Bool):Value := .tuple #[.int .i64 (s.1.toNat:Int),.agg (bI s.2.1),.bool s.2.2]
def qB (n₀ bx:Nat) (W W':World):Prop:=Below n₀ W W' /\ ∀ j,j<3->W'.heap[bx+j]? = W.heap[bx+j]?
theorem qB.trans {n₀ bx:Nat} {A B C:World} (h:qB n₀ bx A B) (k:qB n₀ bx B C):qB n₀ bx A C:=⟨h.1.trans k.1,fun j hj=>(k.2 j hj).trans (h.2 j hj)⟩
theorem qB.of_below {n₀ bx:Nat} {W W':World} (h:Below W.heap.size W W') (hn:n₀<=W.heap.size) (hb:bx+2<W.heap.size):qB n₀ bx W W':=⟨h.mono hn,fun j hj=>h.block _ (by omega)⟩
theorem aKA {n₀ bx:Nat} {w:World} (hn:n₀<=w.heap.size) (hB:bx+2<w.heap.size) (W:World) (l:Nat) (o o':Obj) (hl:w.heap.size<=l) (h:W.heap[l]? = some o) (hc:o.isCells=false) (hw:o.isWalk=false):qB n₀ bx W (W.putObj l o') :=
 ⟨belowK_b hn W l o o' hl h hc hw,fun j hj=>World.putObj_heap_other (by omega)⟩
theorem aC4 (vb:Nat) (nm tg:List UInt8) (w:World) :
  Calls Tryz.prog 40 #[.pointer (some ⟨vb,0,none⟩),.agg (aJ nm),.agg (aJ tg)] w fun e w'=>e = .returned (.func (.func 75) #[] #[.pointer (some ⟨w.heap.size+2,0,none⟩),.pointer (some ⟨w.heap.size,0,none⟩),.pointer (some ⟨w.heap.size+1,0,none⟩)]) /\
   w'=((w.alloc (.cells #[.pointer (some ⟨vb,0,none⟩)] 29)).alloc (.cells (aJ nm) 56)).alloc (.cells (aJ tg) 60):=by
 have hmf:∀ (fn:Fn) (first cap:Array Value) (w:World),(Instr.makeFunc fn first cap).run Tryz.prog w = .ok (.func fn first cap) w:=fun _ _ _ _=>rfl
 go_enter Tryz.func40,Tryz.ntmps40
 go_wp2_with fail
 go_ret
 exact ⟨rfl,rfl⟩
theorem aG0 {f:StF} {L:List (List UInt8)} {i:Nat} (hi:i<L.length):yC f (L.drop i)=if (f L[i]).2.2=true then aNF f L[i] :: yC f (L.drop (i+1)) else yC f (L.drop (i+1)):=by
 rw[List.drop_eq_getElem_cons hi,aCS]
theorem aCX {kp:Obj->Bool} (hkp:∀ c:Array Value,kp (.cells c 60)=true) (n:Nat) (hn:4<=n) (vb:Nat) (nm tg:List UInt8) (htg:tg.length=10) (f:StF) (bx n₀:Nat) (w:World) (hbx:bx+2<w.heap.size) (hn₀:n₀<=w.heap.size)
  (hst:∀ V,Below n₀ w V -> ∀ u:List UInt8,u.length=10->Gives Tryz.prog 27 #[.pointer (some ⟨vb,0,none⟩),.agg (aJ nm),.agg (aJ u)] V (stT (f u)))
  (c0:w.cell? ⟨bx,0,none⟩=some (.pointer (some ⟨vb,0,none⟩))) (c1:w.aW (bx+1) 0 12=some (aJ nm)) (c2:w.aW (bx+2) 0 10=some (aJ tg)) :
  yU kp Fence.wide n Tryz.prog 75 #[.pointer (some ⟨bx+2,0,none⟩),.pointer (some ⟨bx,0,none⟩),.pointer (some ⟨bx+1,0,none⟩)] aOi (qB n₀ bx)
   (fun ys=>ys.map (·.1)=yC f (upL tg)) (fun pre=>pre.map (·.1) <+: yC f (upL tg)) 4 w:=by
 intro l J Jx W hW hJ hJx hY h0
 have hWn:Below n₀ w W:=hW.mono hn₀
 have hbW:bx+2<W.heap.size:=by have:=hW.size;omega
 have hnW:n₀<=W.heap.size:=by have:=hW.size;omega
 have k2:W.aW (bx+2) 0 10=some (aJ tg):=(aK (hW.block (bx+2) (by omega)) _ _).trans c2
 have HST:=Lib.hid (fun (V:World) (hb:Below n₀ W V)=>hst V (hWn.trans hb))
 have HC:=Lib.hid (show W.heap[bx]? = w.heap[bx]? /\ W.heap[bx+1]? = w.heap[bx+1]? /\ W.heap[bx+2]? = w.heap[bx+2]? from ⟨hW.block _ (by omega),hW.block _ (by omega),hW.block _ (by omega)⟩)
 have HCC:=Lib.hid (And.intro c0 (And.intro c1 c2))
 have HY:=Lib.hid hY
 have HJ:=Lib.hid (And.intro hJ hJx)
 obtain ⟨L,hL⟩:∃ L,L=upL tg:=⟨_,rfl⟩
 have hL4:L.length<=4:=by rw[hL];exact aGc _ _
 have hLu:∀ u∈L,u.length=10:=by rw[hL];exact aKn htg
 have hch:=aDO tg htg W
 rw[<-hL] at hch |-
 have HCH:=Lib.hid hch
 have HLU:=Lib.hid hLu
 have lb2:bx+2<W.heap.size:=hbW
 clear hWn hst c0 c1 c2 hY hW hL hLu hch
 refine callsIn_of_wp Tryz.func75 rfl trivial ?_ rfl
 simp only[Tryz.ntmps75,List.size_toArray,List.length_cons,List.length_nil,Nat.reduceAdd,Nat.reduceSub,Array.replicate_succ,Array.replicate_zero,List.push_toArray,List.append_toArray,List.nil_append,List.cons_append]
 gi_wp2_with fail
 refine ⟨trivial,fun _=>by omega,?_⟩
 refine (callsIn_wide.2 HCH.out).mono ?_
 rintro e W1 ⟨v',rfl,hb1,ho1⟩
 obtain ⟨a1,cap1,rfl,hc1,hm1⟩:=ho1.form
 simp only[List.length_map] at ho1 hm1 |-
 have hJ1:J [] W1:=HJ.out.1 [] W W1 none h0 (jS hb1) (fun r e=>by cases e)
 have HO1:=Lib.hid (And.intro hb1 ho1)
 have HJ1:=Lib.hid hJ1
 clear hJ1 hb1 ho1 HCH h0 k2
 gi_wp2
 gi_loopw [13] (fun s13 wr => ∃ (i:Nat) (pre:List A10),i<=L.length/\s13 = .int .i64 i/\Hid (J pre wr)/\Hid (pre.length<=i/\yC f L=pre.map (·.1)++yC f (L.drop i))/\Hid (dA kp W.heap.size W1 wr/\qB n₀ bx W wr)) (fun s13 _=>L.length - (intOf s13).toNat)
 case atStart=>exact ⟨0, [],Nat.zero_le _,rfl,HJ1,Lib.hid ⟨Nat.le_refl _,rfl⟩,Lib.hid ⟨dA.refl _ _,qB.of_below HO1.out.1 hnW hbW⟩⟩
 obtain ⟨i,pre,hi,rfl,HJr,HPr,HK⟩:=hrel
 by_cases hli:i<L.length
 ·have hliI:(i:Int)<L.length:=by omega
  obtain ⟨_,a3,cap3,he,_,_,hc⟩:=HO1.out.2.sl
  simp only[Value.slice.injEq,List.length_map,true_and] at he
  obtain ⟨rfl,rfl⟩:=he
  obtain ⟨g,o,rfl,hlb,hcut⟩:=hc (by simp;omega)
  have hx:=hcut i (aJ L[i]) (by simp[hli])
  have hgW:W.heap.size<=g:=(HO1.out.2.lt g rfl).1
  obtain ⟨cg,hcg⟩:=wI HO1.out.2.2 g rfl |>.2
  have hgr:wr.heap[g]? = W1.heap[g]? := (HK.out.1.some (hkp cg) hgW hcg).trans hcg.symm
  have g0:wr.aW g (o+i * 10) 10=some (aJ L[i]):=(aK hgr (o+i * 10) 10).trans hx
  have hds:=aG0 (f:=f) hli
  have hul:=HLU.out L[i] (List.getElem_mem hli)
  have hbr:=HK.out.2
  have hvr:=HST.out wr hbr.1
  have hgl:g<wr.heap.size:=by have:=HK.out.1.size;omega
  have hx0:wr.heap[bx]? = w.heap[bx]? := (hbr.2 0 (by decide)).trans HC.out.1
  have hx1:wr.heap[bx+1]? = w.heap[bx+1]? := (hbr.2 1 (by decide)).trans HC.out.2.1
  have k0:wr.cell? ⟨bx,0,none⟩=some (.pointer (some ⟨vb,0,none⟩)):=by unfold World.cell? at *;rw[hx0];exact HCC.out.1
  have k1:wr.aW (bx+1) 0 12=some (aJ nm):=(aK hx1 _ _).trans HCC.out.2.1
  have hbl:bx+2<wr.heap.size:=by have:=HK.out.1.size;have:=HO1.out.1.size;omega
  have hb0':bx<wr.heap.size:=by omega
  have hb1':bx+1<wr.heap.size:=by omega
  have hul2:(aJ L[i]).size=10:=by simp[hul]
  generalize L[i]=u at *
  have HS:=Lib.hid (fun (V:World) (hb:Below wr.heap.size wr V)=>HST.out V (hbr.1.trans (hb.mono (by have:=HK.out.1.size;have:=HO1.out.1.size;omega))) u hul)
  have HBR:=Lib.hid hbr
  obtain ⟨q,hq⟩:∃ q,q=f u:=⟨_,rfl⟩
  have hav:aNF f u=⟨q.2.1.text,u,q.1,q.2.1.rev⟩:=by rw[hq];rfl
  rw[hav,<-hq] at hds
  rw[<-hq] at HS
  obtain ⟨qs,qr,qb⟩:=q
  simp only[stT] at HS
  simp only at hds
  have HDS:=Lib.hid hds
  have hr6:(bI qr)[6]? = some (.int .u32 (qr.rev.toNat:Int)):=rfl
  have hr8:(bI qr)[8]? = some (.string (bs qr.text.val)):=rfl
  clear hcut hc hx hgr hds hvr hbr hx0 hx1 hq hav hcg
  gi_wp2_with fail
  refine ⟨trivial,fun _=>by omega,?_⟩
  refine rC (HS.out _ blw) ?_
  intro xs1 d1
  cases qb with
  | false =>
   have HD3:=Lib.hid (show yC f (L.drop i)=yC f (L.drop (i+1)) from HDS.out.trans (if_neg (by decide)))
   clear HDS HS
   gi_wp2_with fail
   refine ⟨fun _ _=>trivial,?_⟩
   obtain ⟨V,hV⟩:∃ V,V=((wr.alloc (.cells (aJ u) 60)).grow xs1 d1).alloc (.cells (bI qr) 101):=⟨_,rfl⟩
   have hbV:Below wr.heap.size wr V:=by rw[hV];exact blw
   rw[<-hV]
   have HV:=Lib.hid (show J pre V/\dA kp W.heap.size W1 V/\qB n₀ bx W V from ⟨HJ.out.1 pre wr V none HJr.out (jS hbV) (fun r e=>by cases e),HK.out.1.trans (dA.of_below hbV),HK.out.2.trans (qB.of_below hbV (by omega) (by omega))⟩)
   clear hV hbV HBR HK HJr
   gi_wp2
   go_roundw
   case rel=>exact ⟨i+1,pre,by omega,by go_num,Lib.hid HV.out.1,Lib.hid ⟨by have:=HPr.out.1;omega,HPr.out.2.trans (by rw[HD3.out])⟩,Lib.hid HV.out.2⟩
   simp[intOf];omega
  | true =>
   have HD3:=Lib.hid (show yC f (L.drop i)=⟨qr.text,u,qs,qr.rev⟩ :: yC f (L.drop (i+1)) from HDS.out.trans (if_pos rfl))
   clear HDS HS
   gi_wp2_with fail
   obtain ⟨V,hV⟩:∃ V,V=((wr.alloc (.cells (aJ u) 60)).grow xs1 d1).alloc (.cells (bI qr) 101):=⟨_,rfl⟩
   have hbV:Below wr.heap.size wr V:=by rw[hV];exact blw
   rw[<-hV]
   have hJV:J pre V:=HJ.out.1 pre wr V none HJr.out (jS hbV) (fun r e=>by cases e)
   have hpl:pre.length<4:=by have:=HPr.out.1;omega
   have HV:=Lib.hid (show dA kp W.heap.size W1 V/\qB n₀ bx W V from ⟨HK.out.1.trans (dA.of_below hbV),HK.out.2.trans (qB.of_below hbV (by omega) (by omega))⟩)
   obtain ⟨fn,tmps,assign,body,hy,hR⟩:=HY.out pre ⟨⟨qr.text,u,qs,qr.rev⟩,hul⟩ V hJV hpl
   simp only[aOi] at hy
   have HPX:=Lib.hid (show yC f L=(pre ++ [⟨⟨qr.text,u,qs,qr.rev⟩,hul⟩]:List A10).map (·.1)++yC f (L.drop (i+1)) by
    rw[HPr.out.2,HD3.out,List.map_append,List.append_assoc]
    rfl)
   have HPL:=Lib.hid HPr.out.1
   clear hV hbV hJV HBR HK HJr HPr HD3 HY
   rw[hy,Oper.uponIn_round]
   refine ⟨fun _=>by omega,?_⟩
   refine hR.mono ?_
   rintro e W3 ⟨⟨rfl,hJ3,hk3⟩ | ⟨rfl,hJx3⟩,hu3⟩
   ·have HW3:=Lib.hid (And.intro hJ3 (And.intro (HV.out.1.trans (hu3.more (Nat.le_refl _))) (HV.out.2.trans hk3)))
    clear hJ3 hk3 hu3 HV hy hR
    gi_wp2
    go_roundw
    case rel=>exact ⟨i+1,pre ++ [⟨⟨qr.text,u,qs,qr.rev⟩,hul⟩],by omega,by go_num,Lib.hid HW3.out.1,Lib.hid ⟨by have:=HPL.out;simp;omega,HPX.out⟩,Lib.hid HW3.out.2⟩
    simp[intOf];omega
   have HW3:=Lib.hid hJx3
   clear hJx3 hu3 HV hy hR
   gi_wp2
   refine bodyPost_ret (results_none rfl _ _ _) rfl ?_
   exact ⟨⟨_,rfl⟩,.inr ⟨pre ++ [⟨⟨qr.text,u,qs,qr.rev⟩,hul⟩],by rw[HPX.out];exact List.prefix_append _ _,HW3.out⟩⟩
 have hie:i=L.length:=by omega
 have hgn:¬ (i:Int)<L.length:=by omega
 have HE:=Lib.hid (show pre.map (·.1)=yC f L by
  have:=HPr.out.2
  rw[hie,List.drop_length] at this
  rw[this]
  simp[yC])
 clear hie HPr HK HC HCC HY HO1 HJ1 HST
 gi_wp2
 go_end0
 exact ⟨⟨_,rfl⟩,.inl ⟨_,HE.out,HJr.out⟩⟩
@[go_sem] theorem aN9 (w:World):(binOp .eql 136 .nilFunc .nilFunc).run Tryz.prog w = .ok (.bool true) w:=by kernel_rfl
@[go_sem] theorem aLj (n:Nat) (w:World):(binOp .eql 136 (.func (.func n) #[] #[]) .nilFunc).run Tryz.prog w = .ok (.bool false) w:=by kernel_rfl
def aLC (mode:Int):Value:=if mode=0 then .func (.func 73) #[] #[] else if mode=1 then .func (.func 74) #[] #[] else .nilFunc
theorem aDG (mode:Int) (w:World):Gives Tryz.prog 38 #[.int .i64 mode] w (aLC mode):=by
 unfold aLC Gives
 by_cases h0:mode=0
 ·rw[if_pos h0]
  go_enter Tryz.func38,Tryz.ntmps38
  go_wp2_with fail
  go_ret
  exact ⟨rfl,blw⟩
 rw[if_neg h0]
 by_cases h1:mode=1
 ·rw[if_pos h1]
  subst h1
  go_enter Tryz.func38,Tryz.ntmps38
  go_wp2_with fail
  go_ret
  exact ⟨rfl,blw⟩
 rw[if_neg h1]
 have q0:(mode == 0)=false:=beq_eq_false_iff_ne.2 h0
 have q1:(mode == 1)=false:=beq_eq_false_iff_ne.2 h1
 go_enter Tryz.func38,Tryz.ntmps38
 go_wp2_with fail
 go_ret
 exact ⟨rfl,blw⟩
theorem aCB (s:UInt8) (w:World):Gives Tryz.prog 73 #[.int .i64 (s.toNat:Int)] w (.bool (okM 0 s)):=by
 have hb:(((s.toNat:Int)) != 4)=okM 0 s:=by
  unfold okM
  rw[if_pos rfl,Bool.eq_iff_iff,bne_iff_ne,bne_iff_ne]
  exact ⟨fun h e=>h (by rw[e];rfl),fun h e=>h (UInt8.toNat_inj.1 (by show s.toNat=4;omega))⟩
 unfold Gives
 go_enter Tryz.func73,Tryz.ntmps73
 go_wp2_with fail
 go_ret
 exact ⟨rfl,blw⟩
theorem aCC (s:UInt8) (w:World):Gives Tryz.prog 74 #[.int .i64 (s.toNat:Int)] w (.bool (okM 1 s)):=by
 have hb:(((s.toNat:Int)) == 3)=okM 1 s:=by
  unfold okM
  rw[if_neg (by decide),Bool.eq_iff_iff,beq_iff_eq,beq_iff_eq]
  exact ⟨fun e=>UInt8.toNat_inj.1 (by show s.toNat=3;omega),fun h=>by rw[h];rfl⟩
 unfold Gives
 go_enter Tryz.func74,Tryz.ntmps74
 go_wp2_with fail
 go_ret
 exact ⟨rfl,blw⟩
theorem aL4 (w:World) (o0 o1 o2 o3 o4 o5:Obj) (xs ys:Array Obj) (d e k1 k2:Nat) (h1:k1=w.heap.size+1+1+1+1+xs.size) (h2:k2=k1+1+ys.size):∀ W,W=(((((((w.alloc o0).alloc o1).alloc o2).alloc o3).grow xs d).alloc o4).grow ys e).alloc o5 ->
  W.heap[w.heap.size+1+1]? = some o2/\W.heap[w.heap.size+1+1+1]? = some o3/\W.heap[k1]? = some o4/\W.heap[k2]? = some o5/\W.heap.size=k2+1/\Below w.heap.size w W:=by
 rintro W rfl
 subst h1 h2
 refine ⟨?_,?_,?_,?_,?_,blw⟩
 ·rw[aC,if_neg (by simp;omega),World.bQ _ _ _ (by simp;omega),aC,if_neg (by simp;omega),World.bQ _ _ _ (by simp),aC,if_neg (by simp),aC,if_pos (by simp)]
 ·rw[aC,if_neg (by simp;omega),World.bQ _ _ _ (by simp;omega),aC,if_neg (by simp;omega),World.bQ _ _ _ (by simp),aC,if_pos (by simp)]
 ·rw[aC,if_neg (by simp;omega),World.bQ _ _ _ (by simp),aC,if_pos (by simp)]
 ·rw[aC,if_pos (by simp)]
 simp
theorem aAy {w w':World} {b o:Nat} (h:w'.heap[b]? = w.heap[b]?):w'.cell? ⟨b,o,none⟩=w.cell? ⟨b,o,none⟩:=by
 unfold World.cell?
 rw[h]
theorem aHb {W:World} {n:Nat} {c0 c:Array Value} {t0 t1:TypeId} {u u':Value} (h1:W.heap[n]? = some (.cells c0 t0)) (h2:Boxed W (n+1) t1 u) (hc:c0.size=c.size):∀ V,V=(W.lay n 0 c).setCell ⟨n+1,0,none⟩ u' ->
  V.heap[n]? = some (.cells c t0)/\Boxed V (n+1) t1 u'/\V.heap.size=W.heap.size/\(∀ b,b≠n->b≠n+1->V.heap[b]? = W.heap[b]?)/\V.os=W.os/\V.tape=W.tape/\V.output=W.output:=by
 have e1:∀ b,b≠n->(W.lay n 0 c).heap[b]? = W.heap[b]? := fun b hb=>aY hb
 have e2:∀ b,b≠n+1->((W.lay n 0 c).setCell ⟨n+1,0,none⟩ u').heap[b]? = (W.lay n 0 c).heap[b]? := fun b hb=>Below.heap_setCell _ ⟨n+1,0,none⟩ _ b hb
 have hl:(W.lay n 0 c).heap[n]? = some (.cells c t0):=by
  simp only[World.lay,Array.getElem?_modify,h1,if_true,Option.map_some]
  rw[dN hc.symm]
 have b2:Boxed (W.lay n 0 c) (n+1) t1 u:=(e1 _ (by omega)).trans h2
 rintro V rfl
 exact ⟨(e2 _ (by omega)).trans hl,b2.set u',by simp,fun b h1 h2=>(e2 b h2).trans (e1 b h1),rfl,rfl,rfl⟩
theorem aCU {F:Fence} {n:Nat} {P:Program} {f:FuncId} {args:Array Value} {w:World} {R:Ending->World->Prop} (h:∀ W,W=w->CallsIn F n P f args W R):CallsIn F n P f args w R:=h w rfl
def xB (nm tg:List UInt8) (o:Option (UInt8×Rec)) (mode:Int):Int:=if aD4 nm tg≠0 then aD4 nm tg else if mode≠0/\mode≠1 then 5 else aGS o
def zK (f:StF) (o:Option (UInt8×Rec)) (nm tg:List UInt8) (mode:Int):Ans:=if xB nm tg o mode=0 then (match o with | some (_,s)=>aA6 f s mode tg | none=>Ans.zero) else Ans.zero
theorem aDe {nm tg:List UInt8} (h:aD4 nm tg=0):dJ nm=true/\aZ tg=true:=by
 unfold aD4 at h
 cases hn:dJ nm with
 | false=>rw[hn,if_pos rfl] at h;omega
 | true =>
  cases ht:aZ tg with
  | false=>rw[hn,ht,if_neg (by decide),if_pos rfl] at h;omega
  | true=>exact ⟨rfl,rfl⟩
theorem aH8 {o:Option (UInt8×Rec)} (h:aGS o=0):∃ b s,o=some (b,s)/\s.gone=false/\aKb o=aAc s:=by
 unfold aGS at h
 cases o with
 | none=>simp at h
 | some x =>
  obtain ⟨b,s⟩:=x
  simp only at h
  split at h
  ·omega
  rename_i hg
  refine ⟨b,s,rfl,by simpa using hg,?_⟩
  unfold aKb
  simp only
  rw[if_neg hg]
theorem aBC (vb:Nat) (nm tg:List UInt8) (hn:nm.length=12) (ht:tg.length=10) (o:Option (UInt8×Rec)) (f:StF) (mode:Int) (w:World)
  (hs:∀ V,Below w.heap.size w V->Gives Tryz.prog 23 #[.pointer (some ⟨vb,0,none⟩),.agg (aJ nm)] V (xX o))
  (hst:∀ V,Below w.heap.size w V -> ∀ u:List UInt8,u.length=10->Gives Tryz.prog 27 #[.pointer (some ⟨vb,0,none⟩),.agg (aJ nm),.agg (aJ u)] V (stT (f u))) :
  Gives Tryz.prog 10 #[.pointer (some ⟨vb,0,none⟩),.agg (aJ nm),.agg (aJ tg),.int .i64 mode] w (.tuple #[.agg (gZ (zK f o nm tg mode)),.int .i64 (xB nm tg o mode)]):=by
 have HCK:=Lib.hid (fun V=>aC5 vb nm tg hn ht V)
 have HSV:=Lib.hid (fun V=>aDG mode V)
 have HSO:=Lib.hid (fun V (hb:Below w.heap.size w V)=>aBd vb nm hn o V (fun V2 hb2=>hs V2 (hb.trans (hb2.mono hb.size))))
 have HSS:=Lib.hid hst
 have hnl:(aJ nm).size=12:=by simp[hn]
 have htl:(aJ tg).size=10:=by simp[ht]
 have hz:(gZ Ans.zero).size=13:=rfl
 clear hs hst
 by_cases hc:aD4 nm tg=0
 ·rw[hc] at HCK
  by_cases hm:mode≠0/\mode≠1
  ·have e1:xB nm tg o mode=5:=by unfold xB;rw[if_neg (fun h=>h hc),if_pos hm]
   have e2:zK f o nm tg mode=Ans.zero:=by unfold zK;rw[e1];rfl
   rw[e1,e2]
   have hsv:aLC mode = .nilFunc:=by unfold aLC;rw[if_neg hm.1,if_neg hm.2]
   rw[hsv] at HSV
   clear hc e1 e2 HSO HSS hm hsv
   refine (callsIn_wide (n:=9)).1 ?_
   refine callsIn_of_wp_marks Tryz.func10 rfl trivial ?_ rfl
   simp only[Tryz.ntmps10,List.size_toArray,List.length_cons,List.length_nil,Nat.reduceAdd,Nat.reduceSub,Array.replicate_succ,Array.replicate_zero,List.push_toArray,List.append_toArray,List.nil_append,List.cons_append]
   gi_wp2_with fail
   refine ⟨trivial,?_⟩
   refine rC (HCK.out _) ?_
   intro xs d
   gi_wp2_with fail
   refine ⟨trivial,?_⟩
   refine rC (HSV.out _) ?_
   intro xs2 d2
   gi_wp2_with fail
   exact ⟨_,aH (v := .agg (gZ Ans.zero)) (u := .int .i64 5) Tryz.results10 (aO.row rfl oV (by simp[go_sem,hz])) ⟨_,_,rfl,by simp[go_sem]⟩,rfl,blw⟩
  have hsv:aLC mode = .func (.func (if mode=0 then 73 else 74)) #[] #[]:=by
   unfold aLC
   by_cases h0:mode=0
   ·rw[if_pos h0,if_pos h0]
   rw[if_neg h0,if_neg h0,if_pos (by omega)]
  rw[hsv] at HSV
  clear hsv
  by_cases he:aGS o=0
  ·obtain ⟨ob,sr,hos,hgn,hsa⟩:=aH8 he
   have e1:xB nm tg o mode=0:=by unfold xB;rw[if_neg (fun h=>h hc),if_neg hm,he]
   have hup:upL tg=oG tg:=by unfold upL chT;rw[(aDe hc).2,if_pos rfl]
   have e2:zK f o nm tg mode=aA6 f sr mode tg:=by unfold zK;rw[e1,if_pos rfl,hos]
   have HOK:=Lib.hid (show ∀ (st:UInt8) V,Gives Tryz.prog (if mode=0 then 73 else 74) #[.int .i64 (st.toNat:Int)] V (.bool (okM mode st)) from fun st V=>by
    by_cases h0:mode=0
    ·rw[if_pos h0,h0];exact aCB st V
    rw[if_neg h0,show okM mode st=okM 1 st by unfold okM;rw[if_neg h0,if_neg (by decide)]];exact aCC st V)
   rw[e1,e2]
   rw[he,hsa] at HSO
   have hzo:(gZ (aAc sr)).size=13:=rfl
   obtain ⟨fin,hfin⟩:∃ fin,fin=aA6 f sr mode tg:=⟨_,rfl⟩
   rw[<-hfin]
   have HFIN:=Lib.hid (And.intro hfin hup)
   have HFS:=Lib.hid (show (if mode=0 then 73 else 74)=73\/(if mode=0 then 73 else 74)=74 by
    by_cases h0:mode=0
    ·rw[if_pos h0];exact .inl rfl
    rw[if_neg h0];exact .inr rfl)
   generalize (if mode=0 then 73 else 74)=fs at *
   clear hc e1 e2 hm he hsa hos hgn hfin hup
   refine (callsIn_wide (n:=9)).1 ?_
   refine callsIn_of_wp_marks Tryz.func10 rfl trivial ?_ rfl
   simp only[Tryz.ntmps10,List.size_toArray,List.length_cons,List.length_nil,Nat.reduceAdd,Nat.reduceSub,Array.replicate_succ,Array.replicate_zero,List.push_toArray,List.append_toArray,List.nil_append,List.cons_append]
   gi_wp2_with fail
   refine ⟨trivial,?_⟩
   refine rC (HCK.out _) ?_
   intro xs d
   gi_wp2_with fail
   refine ⟨trivial,?_⟩
   refine rC (HSV.out _) ?_
   intro xs2 d2
   gi_wp2_with fail
   refine ⟨trivial,?_⟩
   refine rC (HSO.out _ blw) ?_
   intro xs3 d3
   gi_wp2_with fail
   refine ⟨trivial,?_⟩
   refine aCU ?_
   intro W1 hW1
   obtain ⟨k1,hk1⟩:∃ k1,k1=w.heap.size+1+1+1+1+(xs.size+xs2.size):=⟨_,rfl⟩
   obtain ⟨k2,hk2⟩:∃ k2,k2=k1+1+xs3.size:=⟨_,rfl⟩
   obtain ⟨r2,r3,r4,r5,hz1,hb1⟩:=aL4 w _ _ _ _ _ _ (xs++xs2) xs3 _ _ k1 k2 (by rw[hk1,Array.size_append]) hk2 W1 hW1
   simp only[<-hk1,<-hk2]
   have hk12:w.heap.size+4<=k1/\k1<k2:=by omega
   clear hW1 hk1 hk2
   refine (callsIn_wide.2 (aC4 vb nm tg W1)).mono ?_
   rintro e w2 ⟨rfl,rfl⟩
   obtain ⟨W2,hW2⟩:∃ W2,W2=((W1.alloc (.cells #[.pointer (some ⟨vb,0,none⟩)] 29)).alloc (.cells (aJ nm) 56)).alloc (.cells (aJ tg) 60):=⟨_,rfl⟩
   have q0:W2.heap[W1.heap.size]? = some (.cells #[.pointer (some ⟨vb,0,none⟩)] 29):=by rw[hW2,aC,if_neg (by simp;omega),aC,if_neg (by simp),aC,if_pos rfl]
   have q1:W2.heap[W1.heap.size+1]? = some (.cells (aJ nm) 56):=by rw[hW2,aC,if_neg (by simp),aC,if_pos (by simp)]
   have q2:W2.heap[W1.heap.size+2]? = some (.cells (aJ tg) 60):=by rw[hW2,aC,if_pos (by simp)]
   have hz2:W2.heap.size=W1.heap.size+3:=by rw[hW2];simp
   have hb2:Below W1.heap.size W1 W2:=by rw[hW2];exact blw
   rw[<-hW2]
   obtain ⟨bx,hbx⟩:∃ bx,bx=W1.heap.size:=⟨_,rfl⟩
   rw[<-hbx] at q0 q1 q2 hz2 |-
   have g2:=(hb2.block _ (by omega)).trans r2
   have g3:Boxed W2 (w.heap.size+1+1+1) 64 (.int .i64 0):=(hb2.block _ (by omega)).trans r3
   have g4:=(hb2.block _ (by omega)).trans r4
   have g5:=(hb2.block _ (by omega)).trans r5
   have hbw:Below w.heap.size w W2:=hb1.trans (hb2.mono hb1.size)
   have c0:W2.cell? ⟨bx,0,none⟩=some (.pointer (some ⟨vb,0,none⟩)):=(aF q0 0).1.trans rfl
   have c1:W2.aW (bx+1) 0 12=some (aJ nm):=aI q1 (by simp[hn])
   have c2:W2.aW (bx+2) 0 10=some (aJ tg):=aI q2 (by simp[ht])
   have hbk:k2<bx:=by omega
   have HST:=aCX (kp:=fun _=>true) (fun _=>rfl) 8 (by decide) vb nm tg ht f bx w.heap.size W2 (by omega) (by omega) (fun V hb u hu=>HSS.out V (hbw.trans hb) u hu) c0 c1 c2
   rw[HFIN.out.2] at HST
   have hkx:=aKA (n₀:=w.heap.size) (bx:=bx) (w:=W2) (by omega) (by omega)
   have HB0:=Lib.hid hbw
   clear hbx hW2 q0 q1 q2 r2 r3 r4 r5 hz1 hb1 hb2 c0 c1 c2 hbw HSS HSO HSV HCK
   gi_wp2_with fail
   refine tX (kp:=fun _=>true) (fun _ _=>rfl) (n:=9) (gf:=75) (lb := #[.pointer (some ⟨bx+2,0,none⟩),.pointer (some ⟨bx,0,none⟩),.pointer (some ⟨bx+1,0,none⟩)]) rfl (by decide) rfl trivial (enters_of Tryz.func75 (by kernel_rfl) rfl)
    HST (fun h k=>h.trans k) hkx (Below.refl _ _) (fun _=>rfl)
    (fun pre W'=>(W'.heap[w.heap.size+1+1]? = some (.cells (gZ Ans.zero) 63)/\Boxed W' (w.heap.size+1+1+1) 64 (.int .i64 0)/\W'.heap[k1]? = some (.cells #[.func (.func fs) #[] #[]] 136)/\W'.heap[k2]? = some (.cells (gZ (aAc sr)) 63))/\(Below w.heap.size w W'/\W2.heap.size<=W'.heap.size) /\ ∀ y∈pre,okM mode y.1.state=false)
    (fun c pre W'=>(∃ q x,pre=q ++ [x]/\(∀ y∈q,okM mode y.1.state=false)/\okM mode x.1.state=true/\W'.heap[w.heap.size+1+1]? = some (.cells (gZ x.1) 63)/\Boxed W' (w.heap.size+1+1+1) 64 (.int .i64 0))/\Below w.heap.size w W'/\c = .ret)
    ?hI ?hIx ⟨⟨g2,g3,g4,g5⟩,⟨HB0.out,Nat.le_refl _⟩,fun y hy=>by cases hy⟩
    (fun x a' W' => ∃ Bv,W2.heap.size<=Bv/\W'.heap[Bv]? = some (.cells (gZ x.1) 63)/\a' = { tmps := #[.pointer (some ⟨vb,0,none⟩),.agg (aJ nm),.agg (aJ tg),.int .i64 mode,undef,.pointer (some ⟨w.heap.size,0,none⟩),.pointer (some ⟨w.heap.size+1,0,none⟩),undef,.pointer (some ⟨w.heap.size+1+1,0,none⟩),.pointer (some ⟨w.heap.size+1+1+1,0,none⟩),.int .i64 0,.pointer (some ⟨k1,0,none⟩),.pointer (some ⟨k2,0,none⟩),.int .i64 0,.pointer (some ⟨Bv,0,none⟩),
     .pointer (some ⟨vb,0,none⟩),.agg (aJ nm),.agg (aJ tg),.int .i64 0,.int .i64 0,.bool false,undef,undef,.int .i64 mode,.func (.func fs) #[] #[],.func (.func fs) #[] #[],.bool false,undef,.tuple #[.agg (gZ (aAc sr)),.int .i64 0],.pointer (some ⟨vb,0,none⟩),.agg (aJ nm),.tuple #[.agg (gZ (aAc sr)),.int .i64 0],.agg (gZ (aAc sr)),.int .i64 0,.int .i64 0,.bool false,undef,undef,.pointer (some ⟨vb,0,none⟩),.agg (aJ nm),.agg (aJ tg),
     .func (.func 75) #[] #[.pointer (some ⟨bx+2,0,none⟩),.pointer (some ⟨bx,0,none⟩),.pointer (some ⟨bx+1,0,none⟩)],.agg (gZ x.1),undef,undef,undef,undef,undef,undef],defers := [] })
    ?hAx ?assign ?body ?done ?stop
   case hI =>
    rintro pre A B row ⟨⟨h1,h2,h3,h4⟩,⟨h5,h6⟩,h7⟩ hg hr
    exact ⟨⟨(grownBy_keeps_cells hg (fun r e=>(hr r e).2) h1 rfl).trans h1,(grownBy_keeps_cells hg (fun r e=>(hr r e).2) h2 rfl).trans h2,(grownBy_keeps_cells hg (fun r e=>(hr r e).2) h3 rfl).trans h3,(grownBy_keeps_cells hg (fun r e=>(hr r e).2) h4 rfl).trans h4⟩,⟨ownFrom_below (β:=Unit) (Nat.le_refl _) (by omega) () A B row h5 hg hr,Nat.le_trans h6 hg.size⟩,h7⟩
   case hIx =>
    rintro c pre A B row ⟨⟨q,x,h0,hq,hx,h1,h2⟩,h5,h6⟩ hg hr
    exact ⟨⟨q,x,h0,hq,hx,(grownBy_keeps_cells hg (fun r e=>(hr r e).2) h1 rfl).trans h1,(grownBy_keeps_cells hg (fun r e=>(hr r e).2) h2 rfl).trans h2⟩,ownFrom_below (β:=Unit) (Nat.le_refl _) (by omega) () A B row h5 hg hr,h6⟩
   case hAx =>
    rintro x a' u A B row ⟨Bv,e1,e2,e3⟩ hg hr
    exact ⟨Bv,e1,(grownBy_keeps_cells hg (fun r e=>(hr r e).2) e2 rfl).trans e2,e3⟩
   case assign =>
    intro l2 pre x W3 K ⟨⟨h1,h2,h3,h4⟩,⟨h5,h6⟩,h7⟩ hK
    have hxs:(gZ x.1).size=13:=uF x.2
    simp only[aOi]
    gi_wp2
    have hb:Below W3.heap.size W3 (W3.alloc (.cells (gZ x.1) 63)):=(Below.refl _ _).alloc (Nat.le_refl _) _
    exact hK _ _ (dA.of_below hb) (qB.of_below hb (by omega) (by omega)) ⟨⟨(hb.block _ (by omega)).trans h1,(hb.block _ (by omega)).trans h2,(hb.block _ (by omega)).trans h3,(hb.block _ (by omega)).trans h4⟩,⟨h5.trans (hb.mono h5.size),by simp;omega⟩,h7⟩ ⟨W3.heap.size,by omega,World.alloc_heap_new _ _,rfl⟩
   case body =>
    rintro l2 pre x a' W3 ⟨⟨h1,h2,h3,h4⟩,⟨h5,h6⟩,h7⟩ ⟨Bv,e1,e2,rfl⟩ hlen
    have hxs:(gZ x.1).size=13:=uF x.2
    have cf:W3.cell? ⟨k1,0,none⟩=some (.func (.func fs) #[] #[]):=(aF h3 0).1.trans rfl
    have lk1:=dI h3
    have cst:W3.cell? ⟨Bv,11,none⟩=some (.int .i64 (x.1.state.toNat:Int)):=(aF e2 11).1.trans (aAu x.2)
    have cx:W3.aW Bv 0 13=some (gZ x.1):=aI e2 hxs
    have lB:=dI e2
    have HH:=Lib.hid (And.intro h1 (And.intro h2 (And.intro h3 (And.intro h4 (And.intro h5 (And.intro h6 h7))))))
    clear h1 h2 h3 h4 h5 h7
    have fN:=hz
    cases hok:okM mode x.1.state with
    | false =>
     have HOF:=Lib.hid (fun V=>HOK.out x.1.state V)
     rw[hok] at HOF
     have HO2:=Lib.hid hok
     clear hok HOK
     have hcut:∀ V:World,Below W3.heap.size W3 V->dA (fun _=>true) W2.heap.size W3 V/\qB w.heap.size bx W3 V/\((V.heap[w.heap.size+1+1]? = some (.cells (gZ Ans.zero) 63)/\Boxed V (w.heap.size+1+1+1) 64 (.int .i64 0)/\V.heap[k1]? = some (.cells #[.func (.func fs) #[] #[]] 136)/\V.heap[k2]? = some (.cells (gZ (aAc sr)) 63))/\(Below w.heap.size w V/\W2.heap.size<=V.heap.size) /\ ∀ y∈pre ++ [x],okM mode y.1.state=false):=fun V hb=>by
      obtain ⟨h1,h2,h3,h4,h5,h6,h7⟩:=HH.out
      have hVs:=hb.size
      refine ⟨dA.of_below hb,qB.of_below hb (by omega) (by omega),⟨(hb.block _ (by omega)).trans h1,(hb.block _ (by omega)).trans h2,(hb.block _ (by omega)).trans h3,(hb.block _ (by omega)).trans h4⟩,⟨h5.trans (hb.mono h5.size),by omega⟩,fun y hy => ?_⟩
      rcases List.mem_append.1 hy with hy | hy
      ·exact h7 y hy
      rw[List.mem_singleton.1 hy];exact HO2.out
     have HCUT:=Lib.hid hcut
     clear hcut
     rcases HFS.out with rfl | rfl
     ·gi_wp2_with fail
      refine ⟨trivial,?_⟩
      refine l9 (.inr ⟨_,rfl⟩) ((HOF.out _).use ?_)
      intro zs d4
      gi_wp2
      exact HCUT.out _ blw
     gi_wp2_with fail
     refine ⟨trivial,?_⟩
     refine l9 (.inr ⟨_,rfl⟩) ((HOF.out _).use ?_)
     intro zs d4
     gi_wp2
     exact HCUT.out _ blw
    | true =>
     have HOF:=Lib.hid (fun V=>HOK.out x.1.state V)
     rw[hok] at HOF
     have HO2:=Lib.hid hok
     have kt:W3.aN (w.heap.size+1+1) 0 13=true:=by simp[World.aN,HH.out.1,hz]
     have k3:=HH.out.2.1.cell
     have k3f:=HH.out.2.1.frozen
     have hm3:Boxed (W3.lay (w.heap.size+1+1) 0 (gZ x.1)) (w.heap.size+1+1+1) 64 (.int .i64 0):=(aY (by omega)).trans HH.out.2.1
     have m3:=hm3.cell
     have m3f:=hm3.frozen
     have l2:w.heap.size+1+1<W3.heap.size:=by omega
     have l3:w.heap.size+1+1+1<W3.heap.size:=by omega
     have hcut:∀ (zs:Array Obj) (d4:Nat),dA (fun _=>true) W2.heap.size W3 (((W3.lay (w.heap.size+1+1) 0 (gZ x.1)).setCell ⟨w.heap.size+1+1+1,0,none⟩ (.int .i64 0)).grow zs d4)/\(∃ q x',pre ++ [x]=q ++ [x']/\(∀ y∈q,okM mode y.1.state=false)/\okM mode x'.1.state=true/\(((W3.lay (w.heap.size+1+1) 0 (gZ x.1)).setCell ⟨w.heap.size+1+1+1,0,none⟩ (.int .i64 0)).grow zs d4).heap[w.heap.size+1+1]? = some (.cells (gZ x'.1) 63)/\Boxed (((W3.lay (w.heap.size+1+1) 0 (gZ x.1)).setCell ⟨w.heap.size+1+1+1,0,none⟩ (.int .i64 0)).grow zs d4) (w.heap.size+1+1+1) 64 (.int .i64 0))/\Below w.heap.size w (((W3.lay (w.heap.size+1+1) 0 (gZ x.1)).setCell ⟨w.heap.size+1+1+1,0,none⟩ (.int .i64 0)).grow zs d4):=fun zs d4=>by
      obtain ⟨h1,h2,h3,h4,h5,h6,h7⟩:=HH.out
      obtain ⟨V,hV⟩:∃ V,V=(W3.lay (w.heap.size+1+1) 0 (gZ x.1)).setCell ⟨w.heap.size+1+1+1,0,none⟩ (.int .i64 0):=⟨_,rfl⟩
      obtain ⟨f1,f2,f3,f4,f5,f6,f7⟩:=aHb (c:=gZ x.1) (u' := .int .i64 0) h1 h2 (by rw[hz,hxs]) V hV
      rw[<-hV]
      have hb:=aS (w:=V) zs d4
      have hbs:=hb.size
      refine ⟨⟨by omega,fun k o hk ho _ => ?_⟩,⟨pre,x,rfl,h7,hok,(hb.block _ (by omega)).trans f1,(hb.block _ (by omega)).trans f2⟩,(h5.trans ⟨f5,f6,f7,by omega,fun c hc=>f4 c (by omega) (by omega)⟩).trans (hb.mono (by omega))⟩
      rw[hb.block k (by have:=dI ho;omega),f4 k (by omega) (by omega)]
      exact ho
     have HCUT:=Lib.hid hcut
     clear hok HOK hcut hm3
     rcases HFS.out with rfl | rfl
     ·gi_wp2_with fail
      refine ⟨trivial,?_⟩
      refine l9 (.inr ⟨_,rfl⟩) ((HOF.out _).use ?_)
      intro zs d4
      gi_wp2
      exact ⟨(HCUT.out zs d4).1,(HCUT.out zs d4).2.1,(HCUT.out zs d4).2.2,rfl⟩
     gi_wp2_with fail
     refine ⟨trivial,?_⟩
     refine l9 (.inr ⟨_,rfl⟩) ((HOF.out _).use ?_)
     intro zs d4
     gi_wp2
     exact ⟨(HCUT.out zs d4).1,(HCUT.out zs d4).2.1,(HCUT.out zs d4).2.2,rfl⟩
   case done =>
    rintro D ys W3 hD hys ⟨⟨h1,h2,h3,h4⟩,⟨h5,h6⟩,h7⟩ hK
    have hfo:fin=aAc sr:=by
     rw[HFIN.out.1]
     unfold aA6
     rw[<-hys,List.find?_eq_none.2 (fun a ha=>by
      obtain ⟨y,hy,rfl⟩:=List.mem_map.1 ha
      simp[h7 y hy])]
     rfl
    have kt:W3.aN (w.heap.size+1+1) 0 13=true:=by simp[World.aN,h1,hz]
    have k3:=h2.cell
    have k3f:=h2.frozen
    have l2:w.heap.size+1+1<W3.heap.size:=by omega
    have l3:w.heap.size+1+1+1<W3.heap.size:=by omega
    have kx:W3.aW k2 0 13=some (gZ (aAc sr)):=aI h4 hzo
    have hm3:Boxed (W3.lay (w.heap.size+1+1) 0 (gZ (aAc sr))) (w.heap.size+1+1+1) 64 (.int .i64 0):=(aY (by omega)).trans h2
    have m3:=hm3.cell
    have m3f:=hm3.frozen
    have lk:k2<W3.heap.size:=by omega
    have HFN:=Lib.hid (aHb (c:=gZ (aAc sr)) (u' := .int .i64 0) h1 h2 (by rw[hz,hzo]) _ rfl)
    have HH:=Lib.hid (And.intro h5 hfo)
    clear h1 h2 h3 h4 h5 h7 hfo hys hm3
    gi_wp2
    obtain ⟨V,hV⟩:∃ V,V=(W3.lay (w.heap.size+1+1) 0 (gZ (aAc sr))).setCell ⟨w.heap.size+1+1+1,0,none⟩ (.int .i64 0):=⟨_,rfl⟩
    rw[<-hV]
    have hf:=HFN.out
    rw[<-hV] at hf
    have hK2:V.heap[D]? = some (.deferred (some [])):=(hf.2.2.2.1 D (by omega) (by omega)).trans hK
    have hbV:Below w.heap.size w V:=HH.out.1.trans ⟨hf.2.2.2.2.1,hf.2.2.2.2.2.1,hf.2.2.2.2.2.2,by rw[hf.2.2.1];exact Nat.le_refl _,fun c hc=>hf.2.2.2.1 c (by omega) (by omega)⟩
    refine ⟨by simp,.inl ⟨_,_,rfl,run_takeDeferred hK2,?_⟩⟩
    have hp:∀ b,b≠D->(V.putObj D (.deferred none)).heap[b]? = V.heap[b]? := fun b hb=>World.putObj_heap_other hb
    have r1:(V.putObj D (.deferred none)).aW (w.heap.size+1+1) 0 13=some (gZ (aAc sr)):=aI ((hp _ (by omega)).trans hf.1) hzo
    have r2:(V.putObj D (.deferred none)).cell? ⟨w.heap.size+1+1+1,0,none⟩=some (.int .i64 0):=(aAy (hp _ (by omega))).trans hf.2.1.cell
    have hbD:Below w.heap.size w (V.putObj D (.deferred none)):=hbV.trans (belowK_b (w:=w) (Nat.le_refl _) _ D _ _ (by omega) hK2 rfl rfl)
    have hfo:=HH.out.2
    clear HH HFN hf hV hK hK2 hbV hp k3 k3f kt kx m3 m3f
    refine ⟨_,aH (v := .agg (gZ (aAc sr))) (u := .int .i64 0) Tryz.results10 (aO.row rfl oV r1) ⟨_,_,rfl,by simp[go_sem,r2]⟩,?_,hbD⟩
    rw[hfo]
   rintro D c pre W3 hD hpre ⟨⟨q,x,h0,hq,hx,h1,h2⟩,h4,rfl⟩ hK
   have hfo:fin=x.1:=by
    rw[HFIN.out.1]
    unfold aA6
    obtain ⟨tl,htl2⟩:=hpre
    rw[<-htl2,h0,List.map_append,List.append_assoc,List.find?_append,List.find?_eq_none.2 (fun a ha=>by
     obtain ⟨y,hy,rfl⟩:=List.mem_map.1 ha
     simp[hq y hy])]
    show (none.or (List.find? (fun a=>okM mode a.state) (x.1 :: tl))).getD (aAc sr)=x.1
    rw[List.find?_cons_of_pos (by simpa using hx)]
    rfl
   have hxs:(gZ x.1).size=13:=uF x.2
   have HH:=Lib.hid (And.intro h1 (And.intro h2 (And.intro h4 hfo)))
   clear h0 h1 h2 h4 hpre hfo hq hx
   gi_wp2
   obtain ⟨h1,h2,h4,hfo⟩:=HH.out
   refine ⟨by simp,.inl ⟨_,_,rfl,run_takeDeferred hK,?_⟩⟩
   have hp:∀ b,b≠D->(W3.putObj D (.deferred none)).heap[b]? = W3.heap[b]? := fun b hb=>World.putObj_heap_other hb
   have r1:(W3.putObj D (.deferred none)).aW (w.heap.size+1+1) 0 13=some (gZ x.1):=aI ((hp _ (by omega)).trans h1) hxs
   have r2:(W3.putObj D (.deferred none)).cell? ⟨w.heap.size+1+1+1,0,none⟩=some (.int .i64 0):=(aAy (hp _ (by omega))).trans h2.cell
   have hbD:Below w.heap.size w (W3.putObj D (.deferred none)):=h4.trans (belowK_b (w:=w) (Nat.le_refl _) _ D _ _ (by omega) hK rfl rfl)
   clear HH hK h1 h2 h4 hp
   refine ⟨_,aH (v := .agg (gZ x.1)) (u := .int .i64 0) Tryz.results10 (aO.row rfl oV r1) ⟨_,_,rfl,by simp[go_sem,r2]⟩,?_,hbD⟩
   rw[hfo]
  have e1:xB nm tg o mode=aGS o:=by unfold xB;rw[if_neg (fun h=>h hc),if_neg hm]
  have e2:zK f o nm tg mode=Ans.zero:=by unfold zK;rw[e1,if_neg he]
  rw[e1,e2]
  have hne:(aGS o != 0)=true:=bne_iff_ne.2 he
  have hsa:aKb o=Ans.zero:=by
   unfold aGS at he
   unfold aKb
   cases o with
   | none=>rfl
   | some x =>
    obtain ⟨b,s⟩:=x
    simp only at he |-
    split at he
    ·rename_i hg;rw[if_pos hg]
    exact absurd rfl he
  rw[hsa] at HSO
  generalize aGS o=se at *
  generalize (if mode=0 then 73 else 74)=fs at *
  clear hc e1 e2 HSS hm he hsa
  refine (callsIn_wide (n:=9)).1 ?_
  refine callsIn_of_wp_marks Tryz.func10 rfl trivial ?_ rfl
  simp only[Tryz.ntmps10,List.size_toArray,List.length_cons,List.length_nil,Nat.reduceAdd,Nat.reduceSub,Array.replicate_succ,Array.replicate_zero,List.push_toArray,List.append_toArray,List.nil_append,List.cons_append]
  gi_wp2_with fail
  refine ⟨trivial,?_⟩
  refine rC (HCK.out _) ?_
  intro xs d
  gi_wp2_with fail
  refine ⟨trivial,?_⟩
  refine rC (HSV.out _) ?_
  intro xs2 d2
  gi_wp2_with fail
  refine ⟨trivial,?_⟩
  refine rC (HSO.out _ blw) ?_
  intro xs3 d3
  gi_wp2_with fail
  exact ⟨_,aH (v := .agg (gZ Ans.zero)) (u := .int .i64 se) Tryz.results10 (aO.row rfl oV (by simp[go_sem,hz])) ⟨_,_,rfl,by simp[go_sem]⟩,rfl,blw⟩
 have e1:xB nm tg o mode=aD4 nm tg:=by unfold xB;rw[if_pos hc]
 have e2:zK f o nm tg mode=Ans.zero:=by unfold zK;rw[e1,if_neg hc]
 rw[e1,e2]
 have hcb:(aD4 nm tg != 0)=true:=bne_iff_ne.2 hc
 generalize aD4 nm tg=ce at *
 clear hc e1 e2 HSV HSO HSS
 refine (callsIn_wide (n:=9)).1 ?_
 refine callsIn_of_wp_marks Tryz.func10 rfl trivial ?_ rfl
 simp only[Tryz.ntmps10,List.size_toArray,List.length_cons,List.length_nil,Nat.reduceAdd,Nat.reduceSub,Array.replicate_succ,Array.replicate_zero,List.push_toArray,List.append_toArray,List.nil_append,List.cons_append]
 gi_wp2_with fail
 refine ⟨trivial,?_⟩
 refine rC (HCK.out _) ?_
 intro xs d
 gi_wp2_with fail
 exact ⟨_,aH (v := .agg (gZ Ans.zero)) (u := .int .i64 ce) Tryz.results10 (aO.row rfl oV (by simp[go_sem,hz])) ⟨_,_,rfl,by simp[go_sem]⟩,rfl,blw⟩
end Go.Proofs.YtcedmfnlkelhkaaGreatDoor.Rd
