/- The document's record and write: what the operations do with them; a record, a write as the document has it. -/
import Derived.Test.YtcedmfnlkelhkaaGreatDoorJbb
import Derived.Test.YtcedmfnlkelhkaaGreatDoorJao
import Derived.Handy
import Derived.BigRegion
import Derived.Test.YtcedmfnlkelhkaaGreatDoorJbc
namespace Go.Proofs.YtcedmfnlkelhkaaGreatDoor
set_option maxHeartbeats 40000000
set_option maxRecDepth 100000
open Go.RowKit
@[go_sem] theorem jB:Tryz.prog.bJ 49=some 9:=by kernel_rfl
@[go_sem ↓ high] theorem aOs (a:Addr):loadVar 49 a=eX 49 a:=rfl
@[go_sem ↓ high] theorem aP9 (a:Addr) (v:Value):storeVar 49 a v=bH 49 a v:=rfl
theorem wrap_u32 (b:UInt32):IntKind.u64.wrap (b.toNat:Int)=b.toNat:=by
 have h:=b.toNat_lt
 simp[IntKind.wrap,IntKind.bits,IntKind.signed]
 omega
theorem aDu (r:Rec) (w:World):Gives Tryz.prog 84 #[.agg (bI r)] w (.agg (dS r)):=by
 have h0:=jA r.kind
 have h1:=jA r.state
 have h2:=jA r.user
 have h3:=jA r.parent
 have h4:=jA r.mask
 have h6:=wrap_u32 r.rev
 unfold Gives
 go_enter Tryz.func84,Tryz.ntmps84
 go_wp2_with fail
 exact bodyPost_ret (v := .agg (dS r)) (fE Tryz.results84 (aO.row (cs:=dS r) rfl jB (aI ((aC _ _ _).trans (if_pos (by simp))) (by simp)))) rfl ⟨rfl,blw⟩
theorem aGp:fQ Tryz.prog 49 aHT:=⟨by kernel_rfl,by kernel_rfl,jB⟩
@[go_sem ↓ high] theorem aOn (a b:Rec) (w:World):(Op.equalIn 10000 49 (.agg (dS a)) (.agg (dS b))).run Tryz.prog w = .ok (decide (a=b)) w :=
 lZ (f:=tH) (g:=aBU) aGp aEn (fun _ _=>aEo) a b w
@[go_sem] theorem aNr (r:Rec):(dS r).extract 0 9=dS r:=by apply Array.extract_eq_self_of_le;simp
@[go_sem] theorem aMu:(#[.int .i64 0,.int .i64 0,.int .i64 0,.int .i64 0,.int .i64 0,.bool false,.int .u64 0,.int .u64 0,.string { data := #[] }]:Array Value)=dS Rec.zero:=id rfl
@[go_sem,simp] theorem aPP (r:Rec) (h:0<(dS r).size):(dS r)[0]'h = .int .i64 r.kind.toNat:=id rfl
@[go_sem] theorem aHU (r:Rec):(dS r)[0]? = some (.int .i64 r.kind.toNat):=id rfl
@[go_sem,simp] theorem aPQ (r:Rec) (h:1<(dS r).size):(dS r)[1]'h = .int .i64 r.state.toNat:=id rfl
@[go_sem] theorem aMO (r:Rec):(dS r)[1]? = some (.int .i64 r.state.toNat):=id rfl
@[go_sem,simp] theorem aPR (r:Rec) (h:2<(dS r).size):(dS r)[2]'h = .int .i64 r.user.toNat:=id rfl
@[go_sem] theorem aMP (r:Rec):(dS r)[2]? = some (.int .i64 r.user.toNat):=id rfl
@[go_sem,simp] theorem aPS (r:Rec) (h:3<(dS r).size):(dS r)[3]'h = .int .i64 r.parent.toNat:=id rfl
@[go_sem] theorem aMQ (r:Rec):(dS r)[3]? = some (.int .i64 r.parent.toNat):=id rfl
@[go_sem,simp] theorem aPT (r:Rec) (h:4<(dS r).size):(dS r)[4]'h = .int .i64 r.mask.toNat:=id rfl
@[go_sem] theorem aMR (r:Rec):(dS r)[4]? = some (.int .i64 r.mask.toNat):=id rfl
@[go_sem,simp] theorem aPU (r:Rec) (h:5<(dS r).size):(dS r)[5]'h = .bool r.gone:=id rfl
@[go_sem] theorem aMS (r:Rec):(dS r)[5]? = some (.bool r.gone):=id rfl
@[go_sem,simp] theorem aPV (r:Rec) (h:6<(dS r).size):(dS r)[6]'h = .int .u64 r.rev.toNat:=id rfl
@[go_sem] theorem aMT (r:Rec):(dS r)[6]? = some (.int .u64 r.rev.toNat):=id rfl
@[go_sem,simp] theorem aPW (r:Rec) (h:7<(dS r).size):(dS r)[7]'h = .int .u64 r.at_.toNat:=id rfl
@[go_sem] theorem aJ3 (r:Rec):(dS r)[7]? = some (.int .u64 r.at_.toNat):=id rfl
@[go_sem,simp] theorem aPX (r:Rec) (h:8<(dS r).size):(dS r)[8]'h = .string (bs r.text.val):=id rfl
@[go_sem] theorem aMU (r:Rec):(dS r)[8]? = some (.string (bs r.text.val)):=id rfl
theorem kX (k:K25):iR k.val=(xQ k).toArray:=rfl
@[go_sem,simp] theorem aRP (k:K25):(iR k.val).size=25:=by rw[kX];simp[fB]
@[go_sem] theorem aNn (k:K25):bZ (iR k.val)=true:=by rw[kX];exact dH (uP k)
@[go_sem] theorem aB6:Tryz.prog.bJ 161=some 35:=by kernel_rfl
@[go_sem ↓ high] theorem aOy (a:Addr):loadVar 161 a=eX 161 a:=rfl
@[go_sem ↓ high] theorem aPf (a:Addr) (v:Value):storeVar 161 a v=bH 161 a v:=rfl
theorem aGr:fQ Tryz.prog 161 (aGx++(.bool :: aHT)):=⟨by kernel_rfl,by kernel_rfl,aB6⟩
@[go_sem ↓ high] theorem aOo (a b:Wr) (w:World):(Op.equalIn 10000 161 (.agg (kC a)) (.agg (kC b))).run Tryz.prog w = .ok (decide (a=b)) w :=
 lZ (f:=fun x:Wr=>xQ x.k ++ .bool x.dead :: tH x.r) (g:=fun x=>xC x.k ++ .bool x.dead :: aBU x.r) aGr (fun x=>(yG _).append (.cons (show fits .bool _ _ from rfl) (aEn _))) (fun a b h=>by
  have hl:(xC a.k).length=(xC b.k).length:=by rw[(yG a.k).l,(yG b.k).l]
  obtain ⟨h1,h2⟩:=List.append_inj h hl
  have e1:=aEa h1
  simp only[List.cons.injEq,Lit.bool.injEq] at h2
  have e2:=aEo h2.2
  have e3:=h2.1
  cases a;cases b;simp only at e1 e2 e3;subst e1 e2 e3;rfl) a b w
@[go_sem] theorem aOL (x:Wr):(kC x).extract 0 35=kC x:=by apply Array.extract_eq_self_of_le;simp
@[go_sem] theorem yQ (x:Wr):(kC x).extract 0 25=iR x.k.val:=by rw[kX];exact uK _ _ 25 (fB _)
@[go_sem] theorem aCK (x:Wr):(kC x).extract 26 35=dS x.r:=by
 have:=ext_list (tH x.r) (xQ x.k ++ [.bool x.dead]) 26 (by simp[fB])
 rw[List.append_assoc] at this;exact this
@[go_sem] theorem aCJ (x:Wr):(kC x)[25]? = some (.bool x.dead):=by
 unfold kC
 rw[List.getElem?_toArray,List.getElem?_append_right (by simp[fB])];simp[fB]
@[go_sem,simp] theorem aOK (x:Wr) (h:25<(kC x).size):(kC x)[25]'h = .bool x.dead:=by
 have:=aCJ x
 rw[Array.getElem?_eq_getElem h] at this
 exact Option.some.inj this
theorem aIy:kE Tryz.prog 30 161 35 136:=⟨Tryz.underlying30,by kernel_rfl,by decide,by decide⟩
theorem aGK (x:Wr):iR x.k.val ++ #[.bool x.dead]++dS x.r=kC x:=by rw[kX];apply Array.ext';simp[dS,kC]
def aCT (t:TypeId) (p q r:Nat×Value):Sem Value:=Instr.build t #[p,q,r]
@[go_sem ↓ high] theorem aNY (f:Nat×Operand->Nat×Value) (p q r':Nat×Operand):Instr.build 161 (Array.map f #[p,q,r'])=aCT 161 (f p) (f q) (f r'):=by simp[aCT]
@[go_sem] theorem aL2 (k:K25) (b:Bool) (r:Rec) (w:World):(aCT 161 (0,.agg (iR k.val)) (1,.bool b) (2,.agg (dS r))).run Tryz.prog w = .ok (.agg (kC ⟨k,b,r⟩)) w:=by
 unfold aCT
 have:=sS (P:=Tryz.prog) (w:=w) (n:=25) (m:=1) (k:=9) (a := .agg (iR k.val)) (b := .bool b) (c := .agg (dS r)) Tryz.zeroValue161 Tryz.underlying161 (by intro w;kernel_rfl) (by rw[kX];simp[Value.cells,fB]) (by simp[Value.cells]) (by simp[Value.cells]) (by rfl)
 rw[this]
 exact congrArg (fun c=>Result.ok (Value.agg c) w) (aGK ⟨k,b,r⟩)
theorem aGI (z:Wr) (w:World):Gives Tryz.prog 51 #[.agg (iJ z)] w (.agg (kC z)):=by
 have hof:=fun W=>aDl z.k.val z.k.len W
 have hrc:=aDu z.r
 have HOF:=Lib.hid hof
 have HRC:=Lib.hid hrc
 clear hof hrc
 unfold Gives
 go_enter Tryz.func51,Tryz.ntmps51
 go_wp2_with fail
 apply aG (by rfl) [.val _,.val _,.val _,.val _,.val _,.val _,.val _,.val _,.val _] 9 (by rfl) [3,4,5,6,7,8,9,10,11] [] [] (by rfl) (by rfl) (by decide) (by decide +kernel) (fun _ _ _ _ _ h=>h)
 case hF=>intro x;simp only[over,List.foldl_cons,List.foldl_nil,List.setIfInBounds_toArray,List.set_cons_succ,List.set_cons_zero];exact rfl
 case hops =>
  refine ⟨?o0,?o1,?o2,?o3,?o4,?o5,?o6,?o7,?o8,trivial⟩
  case o0 =>
   intro x w1 hH K hK
   obtain ⟨xs,d,rfl⟩:=aA hH.below
   clear hH
   try simp only[World.aB] at hK |-
   try simp only[World.grow_grow] at hK |-
   exact zw
  case o1 =>
   intro x w1 hH K hK
   have e3:x 3=_:=hH.g 0 3
   obtain ⟨xs,d,rfl⟩:=aA hH.below
   clear hH
   try simp only[World.aB] at hK |-
   try simp only[World.grow_grow] at hK |-
   simp only[e3] at hK |-
   clear e3
   exact zw
  case o2 =>
   intro x w1 hH K hK
   have e4:x 4=_:=hH.g 1 4
   obtain ⟨xs,d,rfl⟩:=aA hH.below
   clear hH
   try simp only[World.aB] at hK |-
   try simp only[World.grow_grow] at hK |-
   simp only[e4] at hK |-
   clear e4
   go_simp
   go_wp2_with (refine Gives.use (HOF.out _) ?_;intro ys e)
   exact zu
  case o3 =>
   intro x w1 hH K hK
   obtain ⟨xs,d,rfl⟩:=aA hH.below
   clear hH
   try simp only[World.aB] at hK |-
   try simp only[World.grow_grow] at hK |-
   exact zw
  case o4 =>
   intro x w1 hH K hK
   have e6:x 6=_:=hH.g 3 6
   obtain ⟨xs,d,rfl⟩:=aA hH.below
   clear hH
   try simp only[World.aB] at hK |-
   try simp only[World.grow_grow] at hK |-
   simp only[e6] at hK |-
   clear e6
   exact zw
  case o5 =>
   intro x w1 hH K hK
   obtain ⟨xs,d,rfl⟩:=aA hH.below
   clear hH
   try simp only[World.aB] at hK |-
   try simp only[World.grow_grow] at hK |-
   exact zw
  case o6 =>
   intro x w1 hH K hK
   have e8:x 8=_:=hH.g 5 8
   obtain ⟨xs,d,rfl⟩:=aA hH.below
   clear hH
   try simp only[World.aB] at hK |-
   try simp only[World.grow_grow] at hK |-
   simp only[e8] at hK |-
   clear e8
   exact zw
  case o7 =>
   intro x w1 hH K hK
   have e9:x 9=_:=hH.g 6 9
   obtain ⟨xs,d,rfl⟩:=aA hH.below
   clear hH
   try simp only[World.aB] at hK |-
   try simp only[World.grow_grow] at hK |-
   simp only[e9] at hK |-
   clear e9
   go_simp
   go_wp2_with (refine Gives.use (HRC.out _) ?_;intro ys e)
   exact zu
  case o8 =>
   intro x w1 hH K hK
   have e5:x 5=_:=hH.g 2 5
   have e7:x 7=_:=hH.g 4 7
   have e10:x 10=_:=hH.g 7 10
   obtain ⟨xs,d,rfl⟩:=aA hH.below
   clear hH
   try simp only[World.aB] at hK |-
   try simp only[World.grow_grow] at hK |-
   simp only[e5,e7,e10] at hK |-
   clear e5 e7 e10
   exact zw
 intro x w1 hH
 have e3:x 3=_:=hH.t 0 3
 have e4:x 4=_:=hH.t 1 4
 have e5:x 5=_:=hH.t 2 5
 have e6:x 6=_:=hH.t 3 6
 have e7:x 7=_:=hH.t 4 7
 have e8:x 8=_:=hH.t 5 8
 have e9:x 9=_:=hH.t 6 9
 have e10:x 10=_:=hH.t 7 10
 have e11:x 11=_:=hH.t 8 11
 obtain ⟨xs,d,rfl⟩:=aA hH.below
 clear hH
 simp only[e3,e4,e5,e6,e7,e8,e9,e10,e11];clear e3 e4 e5 e6 e7 e8 e9 e10 e11
 simp only[List.drop_succ_cons,List.drop_zero]
 go_wp2_with fail
 exact bodyPost_ret (v := .agg (kC z)) (fE Tryz.results51 (aO.row rfl aB6 (by simp[go_sem]))) rfl ⟨rfl,blw⟩

def aAW (k:Int):List UInt8:=if k=1 then [117] else if k=2 then [109] else if k=4 then [112,115,97] else if k=5 then [103,114,116] else if k=6 then [115,117,114,116] else []
theorem aAK (k:Int) (w:World):Gives Tryz.prog 140 #[.int .i64 k] w (.string (bs (aAW k))):=by
 by_cases h:1<=k/\k<=6
 ·rcases (show k=1\/k=2\/k=3\/k=4\/k=5\/k=6 by omega) with rfl | rfl | rfl | rfl | rfl | rfl
  all_goals
   unfold Gives
   go_enter Tryz.func140,Tryz.ntmps140
   go_wp2_with fail
   go_ret
   exact ⟨rfl,blw⟩
 have hu:aAW k = []:=by unfold aAW;repeat (rw[if_neg (by omega)])
 rw[hu]
 clear hu
 rcases (show k<1\/6<k by omega) with h | h
 all_goals
  unfold Gives
  go_enter Tryz.func140,Tryz.ntmps140
  go_wp2_with fail
  all_goals first | (go_ret;exact ⟨rfl,blw⟩) | (exfalso;omega)
theorem gW (s:List UInt8) (hs:s.length<=1000) (c:UInt8) (w:World):Gives Tryz.prog 141 #[.string (bs s),.int .u8 (c.toNat:Int)] w (.bool (s.contains c)):=by
 have hz:=bD s
 unfold Gives
 go_enter Tryz.func141,Tryz.ntmps141
 go_wp2_with fail
 go_loopw [5] (fun i wr => ∃ (k:Nat),k<=s.length/\i = .int .i64 k/\Hid ((s.take k).contains c=false)/\wr=w) (fun i _=>s.length - (intOf i).toNat)
 case atStart=>exact ⟨0,by omega,rfl,Lib.hid (by simp),rfl⟩
 obtain ⟨k,hk,rfl,hall,rfl⟩:=hrel
 by_cases hlt:k<s.length
 ·have htk:s.take (k+1)=s.take k ++ [byt s k]:=by rw[List.take_succ_eq_append_getElem hlt,bP hlt]
  have hltI:(k:Int)<s.length:=by omega
  by_cases he:byt s k=c
  ·have heI:(((byt s k).toNat:Int) == (c.toNat:Int))=true:=by rw[he];simp
   have hc:s.contains c=true:=by rw[List.contains_iff_mem,<-he,<-bP hlt];exact List.getElem_mem hlt
   have HC:=Lib.hid hc
   clear hc he htk
   go_wp2_with fail
   go_ret
   exact ⟨congrArg Ending.returned (congrArg Value.bool HC.out.symm),blw⟩
  have heI:(((byt s k).toNat:Int) == (c.toNat:Int))=false:=by rw[beq_eq_false_iff_ne];intro h;exact he (UInt8.toNat_inj.1 (by omega))
  have hs:(s.take (k+1)).contains c=false:=by rw[htk];have:=hall.out;simp at this |-;exact ⟨this,fun e=>he e.symm⟩
  have HS:=Lib.hid hs
  clear hs he htk
  go_wp2_with fail
  go_roundw
  case rel=>exact ⟨k+1,by omega,by go_num,HS,trivial⟩
  simp[intOf];omega
 have:k=s.length:=by omega
 subst this
 have hc:=hall.out
 rw[List.take_length] at hc
 have HC:=Lib.hid hc
 clear hc hall
 go_wp2_with fail
 go_ret
 exact ⟨congrArg Ending.returned (congrArg Value.bool HC.out.symm),blw⟩
end Go.Proofs.YtcedmfnlkelhkaaGreatDoor
namespace Go.Proofs.YtcedmfnlkelhkaaGreatDoor
set_option maxHeartbeats 40000000
theorem iK (b:Bool):b=false\/b=true:=by cases b <;> simp
theorem rH (x:Nat):(((x:Int)) != 0)=decide (x≠0):=by
 rw[Bool.eq_iff_iff];simp
end Go.Proofs.YtcedmfnlkelhkaaGreatDoor
namespace Go.Proofs.YtcedmfnlkelhkaaGreatDoor.Lm
set_option maxHeartbeats 40000000
open Go.RowKit

def Same (s e:Nat) (T T':Array Value):Prop:=T'.size=T.size /\ ∀ k,k<s\/e<=k->T'[k]? = T[k]?
theorem Same.refl (s e:Nat) (T:Array Value):Same s e T T:=⟨rfl,fun _ _=>rfl⟩
theorem Same.set {s e j:Nat} {T T':Array Value} (h:Same s e T T') (h1:s<=j) (h2:j<e) (v:Value):Same s e T (T'.setIfInBounds j v) :=
 ⟨by simp[h.1],fun k hk=>by rw[Array.getElem?_setIfInBounds_ne (by omega)];exact h.2 k hk⟩
theorem Same.trans {s m m' e:Nat} {T T' T'':Array Value} (h:Same s m T T') (h':Same m' e T' T'') (h1:s<=m') (h2:m<=e):Same s e T T'' :=
 ⟨h'.1.trans h.1,fun k hk=>(h'.2 k (by omega)).trans (h.2 k (by omega))⟩
theorem Same.wide {s e e':Nat} {T T':Array Value} (h:Same s e T T') (h1:e<=e'):Same s e' T T':=⟨h.1,fun k hk=>h.2 k (by omega)⟩
theorem Same.join {s e s' e':Nat} {T T' T'':Array Value} (h:Same s e T T') (h':Same s' e' T' T'') (h1:s<=s') (h2:e'<=e):Same s e T T'' :=
 ⟨h'.1.trans h.1,fun k hk=>(h'.2 k (by omega)).trans (h.2 k hk)⟩
theorem iP {T:Array Value} {j:Nat} {v:Value} (h:j<T.size):(T.setIfInBounds j v)[j]? = some v:=Array.getElem?_setIfInBounds_self_of_lt h
theorem ev {T:Array Value} {df:List Deferred} {k:Nat} {v:Value} (h:T[k]? = some v):(⟨T,df⟩:Act).eval (.tmp k)=v:=by
 show T.getD k undef=v
 rw[Array.getD_eq_getD_getElem?,h];rfl

section
variable {P:Program} {ops:Array Oper} {Q:Exit->Act->World->Prop} {T:Array Value} {df:List Deferred} {w:World} {rest:List Oper}
theorem jP {o:Oper} {j m:Nat} {t:Bool} (hg:o.guard=some (j,t)) (hj:(ops[j]?).bind (·.dst)=some m) (h:T[m]? = some (.bool t)):Region.wanted o (yielded ops T)=true:=by
 unfold Region.wanted yielded
 rw[hg]
 simp only[hj,Option.bind_some,h]
 simp
theorem aA0 {o:Oper} {j m:Nat} {t:Bool} (hg:o.guard=some (j,t)) (hj:(ops[j]?).bind (·.dst)=some m) (h:T[m]? = some (.bool (!t))\/T[m]? = some undef):Region.wanted o (yielded ops T)=false:=by
 unfold Region.wanted yielded
 rw[hg]
 rcases h with h | h
 ·simp only[hj,Option.bind_some,h]
  cases t <;> rfl
 simp only[hj,Option.bind_some,h]
 rfl
theorem jJ {o:Oper} {s:Nat} {v:Value} (hd:o.dst=some s) (hw:Region.wanted o (yielded ops T)=true) (hr:(execOp (⟨T,df⟩:Act).eval o).run P w = .ok (.value v) w)
  (h:wpList P ops Q rest ⟨T.setIfInBounds s v,df⟩ w):wpList P ops Q (o :: rest) ⟨T,df⟩ w:=by
 unfold wpList
 rw[if_pos hw]
 refine .inl ?_
 unfold Oper.wp
 rw[hr,Oper.upon_value,hd]
 exact h
theorem aKP {o:Oper} {s f:Nat} {args:Array Value} {v:Value} (hd:o.dst=some s) (hw:Region.wanted o (yielded ops T)=true) (hr:(execOp (⟨T,df⟩:Act).eval o).run P w = .ok (.enter f args) w) (hg:Gives P f args w v)
  (h:∀ xs d,wpList P ops Q rest ⟨T.setIfInBounds s v,df⟩ (w.grow xs d)):wpList P ops Q (o :: rest) ⟨T,df⟩ w:=by
 unfold wpList
 rw[if_pos hw]
 refine .inl ?_
 unfold Oper.wp
 rw[hr,Oper.upon_enter]
 refine Gives.use hg ?_
 intro xs d
 rw[hd]
 exact h xs d
theorem iL {o:Oper} {s:Nat} (hd:o.dst=some s) (hw:Region.wanted o (yielded ops T)=false) (h:wpList P ops Q rest ⟨T.setIfInBounds s undef,df⟩ w):wpList P ops Q (o :: rest) ⟨T,df⟩ w:=by
 refine wpList_skip hw ?_
 rw[hd]
 exact h
variable {y p:Nat} {q:String} {e:Array Edge} {g:Option (Nat×Bool)}
theorem run_move (a:Act) (s:Option Nat) (x:Operand):(execOp a.eval ⟨s,.move x,y,q,e,g⟩).run P w = .ok (.value (a.eval x)) w:=rfl
theorem rV (a:Act) (s:Option Nat) (c x z:Operand) {b:Bool} (h:a.eval c = .bool b):(execOp a.eval ⟨s,.pick c x z,y,q,e,g⟩).run P w = .ok (.value (if b then a.eval x else a.eval z)) w:=by
 simp only[execOp,h]
 cases b <;> rfl
theorem aK5 (a:Act) (s:Option Nat) (t:TypeId) (x:Operand) {b:Bool} (h:a.eval x = .bool b):(execOp a.eval ⟨s,.unOp .not t x,y,q,e,g⟩).run P w = .ok (.value (.bool (!b))) w:=by
 simp only[execOp,h]
 rfl
theorem aHZ (a:Act) (s:Option Nat) (F:Nat) (x:Operand) (c:Value) (ts:Array TypeId) {u:Value} (hF:∀ (xs:Array Value) (w:World),(callFunc F xs).run P w = .ok (.enter F xs) w) (h:a.eval x=u):(execOp a.eval ⟨s,.call { callee := .value (.func F),args := #[x,.const c],argTypes:=ts },y,q,e,g⟩).run P w = .ok (.enter F #[u,c]) w:=by
 subst h
 simp[go_sem,hF]

theorem core {y5 y6 y7 y8:Nat} {p5 p6 p7 p8:String} {e5 e6 e7 e8:Array Edge} {ts:Array TypeId} {nt:TypeId} (j m u F:Nat) (zb hb:Bool) (us c:Value) (g8:Option (Nat×Bool))
  (hm:m<u) (hsz:u+3<T.size) (hj:(ops[j]?).bind (·.dst)=some m) (tm:T[m]? = some (.bool zb)) (t3:T[3]? = some us)
  (hF:∀ (xs:Array Value) (w:World),(callFunc F xs).run P w = .ok (.enter F xs) w) (hc:∀ w,Gives P F #[us,c] w (.bool hb))
  (h8:∀ T',Same u (u+4) T T'->Region.wanted (⟨some (u+3),.pick (.tmp m) (.tmp (u+2)) (.const (.bool false)),y8,p8,e8,g8⟩:Oper) (yielded ops T')=true)
  (h:∀ T' xs d,Same u (u+4) T T'->T'[u+3]? = some (.bool (zb && !hb))->wpList P ops Q rest ⟨T',df⟩ (w.grow xs d)) :
  wpList P ops Q (⟨some u,.move (.tmp 3),y5,p5,e5,some (j,true)⟩ :: ⟨some (u+1),.call { callee := .value (.func F),args := #[.tmp u,.const c],argTypes:=ts },y6,p6,e6,some (j,true)⟩ ::
   ⟨some (u+2),.unOp .not nt (.tmp (u+1)),y7,p7,e7,some (j,true)⟩ :: ⟨some (u+3),.pick (.tmp m) (.tmp (u+2)) (.const (.bool false)),y8,p8,e8,g8⟩ :: rest) ⟨T,df⟩ w:=by
 cases zb with
 | true =>
  refine jJ rfl (jP rfl hj tm) (run_move _ _ _) ?_
  rw[ev t3]
  have s1:Same u (u+4) T (T.setIfInBounds u us):=(Same.refl _ _ _).set (by omega) (by omega) _
  have a1:(T.setIfInBounds u us)[u]? = some us:=iP (by omega)
  generalize T.setIfInBounds u us=T1 at s1 a1 |-
  refine aKP rfl (jP rfl hj ((s1.2 m (by omega)).trans tm)) (aHZ _ _ _ _ _ _ hF (ev a1)) (hc _) ?_
  intro xs d
  have s2:Same u (u+4) T (T1.setIfInBounds (u+1) (.bool hb)):=s1.set (by omega) (by omega) _
  have a2:(T1.setIfInBounds (u+1) (.bool hb))[u+1]? = some (.bool hb):=iP (by rw[s1.1];omega)
  generalize T1.setIfInBounds (u+1) (.bool hb)=T2 at s2 a2 |-
  refine jJ rfl (jP rfl hj ((s2.2 m (by omega)).trans tm)) (aK5 _ _ _ _ (ev a2)) ?_
  have s3:Same u (u+4) T (T2.setIfInBounds (u+2) (.bool (!hb))):=s2.set (by omega) (by omega) _
  have a3:(T2.setIfInBounds (u+2) (.bool (!hb)))[u+2]? = some (.bool (!hb)):=iP (by rw[s2.1];omega)
  generalize T2.setIfInBounds (u+2) (.bool (!hb))=T3 at s3 a3 |-
  refine jJ rfl (h8 _ s3) (rV _ _ _ _ _ (ev ((s3.2 m (by omega)).trans tm))) ?_
  rw[if_pos rfl,ev a3]
  refine h _ _ _ (s3.set (by omega) (by omega) _) ?_
  rw[iP (by rw[s3.1];omega)]
  rfl
 | false =>
  have hn:∀ T',Same u (u+4) T T' -> ∀ o:Oper,o.guard=some (j,true)->Region.wanted o (yielded ops T')=false:=fun T' hs o ho=>aA0 ho hj (.inl ((hs.2 m (by omega)).trans tm))
  have s1:Same u (u+4) T (T.setIfInBounds u undef):=(Same.refl _ _ _).set (by omega) (by omega) _
  refine iL rfl (hn _ (Same.refl _ _ _) _ rfl) ?_
  generalize T.setIfInBounds u undef=T1 at s1 |-
  refine iL rfl (hn _ s1 _ rfl) ?_
  have s2:Same u (u+4) T (T1.setIfInBounds (u+1) undef):=s1.set (by omega) (by omega) _
  generalize T1.setIfInBounds (u+1) undef=T2 at s2 |-
  refine iL rfl (hn _ s2 _ rfl) ?_
  have s3:Same u (u+4) T (T2.setIfInBounds (u+2) undef):=s2.set (by omega) (by omega) _
  generalize T2.setIfInBounds (u+2) undef=T3 at s3 |-
  refine jJ rfl (h8 _ s3) (rV _ _ _ _ _ (ev ((s3.2 m (by omega)).trans tm))) ?_
  have:=h (T3.setIfInBounds (u+3) (.bool false)) #[] w.drawn (s3.set (by omega) (by omega) _) (iP (by rw[s3.1];omega))
  rw[World.jE] at this
  exact this

theorem limb {y0 y1 y2 y3 y4 y5 y6 y7 y8 y9:Nat} {p0 p1 p2 p3 p4 p5 p6 p7 p8 p9:String} {e0 e1 e2 e3 e4 e5 e6 e7 e8 e9:Array Edge} {ts:Array TypeId} {nt st lt bt:TypeId} (i s acc f F:Nat) (b zb hb:Bool) (us c z v pp ad:Value)
  (h3:3<s) (hsz:s+9<T.size) (hi:(ops[i]?).bind (·.dst)=some s) (hj:(ops[i+4]?).bind (·.dst)=some (s+4))
  (ta:T[acc]? = some (.bool b)) (t1:T[1]? = some pp) (t3:T[3]? = some us)
  (hF:∀ (xs:Array Value) (w:World),(callFunc F xs).run P w = .ok (.enter F xs) w) (hc:∀ w,Gives P F #[us,c] w (.bool hb))
  (r1:∀ T':Array Value,T'[1]? = some pp->(execOp (⟨T',df⟩:Act).eval ⟨some (s+1),.fieldAddr st (.tmp 1) f,y1,p1,e1,some (i,false)⟩).run P w = .ok (.value ad) w)
  (r2:∀ T':Array Value,T'[s+1]? = some ad->(execOp (⟨T',df⟩:Act).eval ⟨some (s+2),.load lt (.tmp (s+1)),y2,p2,e2,some (i,false)⟩).run P w = .ok (.value v) w)
  (r3:∀ T':Array Value,T'[s+2]? = some v->(execOp (⟨T',df⟩:Act).eval ⟨some (s+3),.binOp .neq lt (.tmp (s+2)) (.const z) bt,y3,p3,e3,some (i,false)⟩).run P w = .ok (.value (.bool zb)) w)
  (h:∀ T' xs d,Same s (s+10) T T'->T'[s+9]? = some (.bool (b || (zb && !hb)))->wpList P ops Q rest ⟨T',df⟩ (w.grow xs d)) :
  wpList P ops Q (⟨some s,.move (.tmp acc),y0,p0,e0,none⟩ :: ⟨some (s+1),.fieldAddr st (.tmp 1) f,y1,p1,e1,some (i,false)⟩ :: ⟨some (s+2),.load lt (.tmp (s+1)),y2,p2,e2,some (i,false)⟩ ::
   ⟨some (s+3),.binOp .neq lt (.tmp (s+2)) (.const z) bt,y3,p3,e3,some (i,false)⟩ :: ⟨some (s+4),.move (.tmp (s+3)),y4,p4,e4,some (i,false)⟩ ::
   ⟨some (s+5),.move (.tmp 3),y5,p5,e5,some (i+4,true)⟩ :: ⟨some (s+6),.call { callee := .value (.func F),args := #[.tmp (s+5),.const c],argTypes:=ts },y6,p6,e6,some (i+4,true)⟩ ::
   ⟨some (s+7),.unOp .not nt (.tmp (s+6)),y7,p7,e7,some (i+4,true)⟩ :: ⟨some (s+8),.pick (.tmp (s+4)) (.tmp (s+7)) (.const (.bool false)),y8,p8,e8,some (i,false)⟩ ::
   ⟨some (s+9),.pick (.tmp s) (.const (.bool true)) (.tmp (s+8)),y9,p9,e9,none⟩ :: rest) ⟨T,df⟩ w:=by
 have wn:∀ (T':Array Value) (o:Oper),o.guard=none->Region.wanted o (yielded ops T')=true:=fun T' o ho=>by unfold Region.wanted;rw[ho]
 refine jJ rfl (wn _ _ rfl) (run_move _ _ _) ?_
 rw[ev ta]
 have s1:Same s (s+10) T (T.setIfInBounds s (.bool b)):=(Same.refl _ _ _).set (by omega) (by omega) _
 have a1:(T.setIfInBounds s (.bool b))[s]? = some (.bool b):=iP (by omega)
 generalize T.setIfInBounds s (.bool b)=T1 at s1 a1 |-
 cases b with
 | false =>
  refine jJ rfl (jP rfl hi a1) (r1 _ ((s1.2 1 (by omega)).trans t1)) ?_
  have s2:Same (s+1) (s+10) T1 (T1.setIfInBounds (s+1) ad):=(Same.refl _ _ _).set (by omega) (by omega) _
  have a2:(T1.setIfInBounds (s+1) ad)[s+1]? = some ad:=iP (by rw[s1.1];omega)
  generalize T1.setIfInBounds (s+1) ad=T2 at s2 a2 |-
  refine jJ rfl (jP rfl hi ((s2.2 s (by omega)).trans a1)) (r2 _ a2) ?_
  have s3:Same (s+1) (s+10) T1 (T2.setIfInBounds (s+2) v):=s2.set (by omega) (by omega) _
  have a3:(T2.setIfInBounds (s+2) v)[s+2]? = some v:=iP (by rw[s2.1,s1.1];omega)
  generalize T2.setIfInBounds (s+2) v=T3 at s3 a3 |-
  refine jJ rfl (jP rfl hi ((s3.2 s (by omega)).trans a1)) (r3 _ a3) ?_
  have s4:Same (s+1) (s+10) T1 (T3.setIfInBounds (s+3) (.bool zb)):=s3.set (by omega) (by omega) _
  have a4:(T3.setIfInBounds (s+3) (.bool zb))[s+3]? = some (.bool zb):=iP (by rw[s3.1,s1.1];omega)
  generalize T3.setIfInBounds (s+3) (.bool zb)=T4 at s4 a4 |-
  refine jJ rfl (jP rfl hi ((s4.2 s (by omega)).trans a1)) (run_move _ _ _) ?_
  rw[ev a4]
  have s5:Same (s+1) (s+10) T1 (T4.setIfInBounds (s+4) (.bool zb)):=s4.set (by omega) (by omega) _
  have a5:(T4.setIfInBounds (s+4) (.bool zb))[s+4]? = some (.bool zb):=iP (by rw[s4.1,s1.1];omega)
  generalize T4.setIfInBounds (s+4) (.bool zb)=T5 at s5 a5 |-
  refine core (i+4) (s+4) (s+5) F zb hb us c _ (by omega) (by rw[s5.1,s1.1];omega) hj a5 ((s5.2 3 (by omega)).trans ((s1.2 3 (by omega)).trans t3)) hF hc ?_ ?_
  ·intro T' hs
   exact jP rfl hi ((hs.2 s (by omega)).trans ((s5.2 s (by omega)).trans a1))
  intro T6 xs d s6 a6
  have s7:=s5.trans (s6.wide (show s+5+4<=s+10 by omega)) (by omega) (Nat.le_refl (s+10))
  refine jJ rfl (wn _ _ rfl) (rV _ _ _ _ _ (ev ((s7.2 s (by omega)).trans a1))) ?_
  rw[if_neg (by simp),ev a6]
  refine h _ _ _ (s1.trans (s7.set (by omega) (by omega) _) (by omega) (Nat.le_refl _)) ?_
  rw[iP (by rw[s7.1,s1.1];omega)]
  simp
 | true =>
  have hn:∀ T',Same (s+1) (s+10) T1 T' -> ∀ o:Oper,o.guard=some (i,false)->Region.wanted o (yielded ops T')=false:=fun T' hs o ho=>aA0 ho hi (.inl ((hs.2 s (by omega)).trans a1))
  refine iL rfl (hn _ (Same.refl _ _ _) _ rfl) ?_
  have s2:Same (s+1) (s+10) T1 (T1.setIfInBounds (s+1) undef):=(Same.refl _ _ _).set (by omega) (by omega) _
  generalize T1.setIfInBounds (s+1) undef=T2 at s2 |-
  refine iL rfl (hn _ s2 _ rfl) ?_
  have s3:Same (s+1) (s+10) T1 (T2.setIfInBounds (s+2) undef):=s2.set (by omega) (by omega) _
  generalize T2.setIfInBounds (s+2) undef=T3 at s3 |-
  refine iL rfl (hn _ s3 _ rfl) ?_
  have s4:Same (s+1) (s+10) T1 (T3.setIfInBounds (s+3) undef):=s3.set (by omega) (by omega) _
  generalize T3.setIfInBounds (s+3) undef=T4 at s4 |-
  refine iL rfl (hn _ s4 _ rfl) ?_
  have s5:Same (s+1) (s+10) T1 (T4.setIfInBounds (s+4) undef):=s4.set (by omega) (by omega) _
  have a5:(T4.setIfInBounds (s+4) undef)[s+4]? = some undef:=iP (by rw[s4.1,s1.1];omega)
  generalize T4.setIfInBounds (s+4) undef=T5 at s5 a5 |-
  have hk:∀ T',Same (s+5) (s+10) T5 T' -> ∀ o:Oper,o.guard=some (i+4,true)->Region.wanted o (yielded ops T')=false:=fun T' hs o ho=>aA0 ho hj (.inr ((hs.2 (s+4) (by omega)).trans a5))
  refine iL rfl (hk _ (Same.refl _ _ _) _ rfl) ?_
  have s6:Same (s+5) (s+10) T5 (T5.setIfInBounds (s+5) undef):=(Same.refl _ _ _).set (by omega) (by omega) _
  generalize T5.setIfInBounds (s+5) undef=T6 at s6 |-
  refine iL rfl (hk _ s6 _ rfl) ?_
  have s7:Same (s+5) (s+10) T5 (T6.setIfInBounds (s+6) undef):=s6.set (by omega) (by omega) _
  generalize T6.setIfInBounds (s+6) undef=T7 at s7 |-
  refine iL rfl (hk _ s7 _ rfl) ?_
  have s8:Same (s+5) (s+10) T5 (T7.setIfInBounds (s+7) undef):=s7.set (by omega) (by omega) _
  generalize T7.setIfInBounds (s+7) undef=T8 at s8 |-
  refine iL rfl (hn _ (s5.trans s8 (by omega) (Nat.le_refl _)) _ rfl) ?_
  have s9:Same (s+5) (s+10) T5 (T8.setIfInBounds (s+8) undef):=s8.set (by omega) (by omega) _
  generalize T8.setIfInBounds (s+8) undef=T9 at s9 |-
  have s10:=s5.trans s9 (by omega) (Nat.le_refl (s+10))
  refine jJ rfl (wn _ _ rfl) (rV _ _ _ _ _ (ev ((s10.2 s (by omega)).trans a1))) ?_
  rw[if_pos rfl]
  have:=h (T9.setIfInBounds (s+9) (.bool true)) #[] w.drawn (s1.trans (s10.set (by omega) (by omega) _) (by omega) (Nat.le_refl _)) (iP (by rw[s10.1,s1.1];omega))
  rw[World.jE] at this
  exact this
theorem aPA {y0 y1 y2 y4 y5 y6 y7 y8 y9:Nat} {p0 p1 p2 p4 p5 p6 p7 p8 p9:String} {e0 e1 e2 e4 e5 e6 e7 e8 e9:Array Edge} {ts:Array TypeId} {nt st lt:TypeId} (i s acc f F:Nat) (b zb hb:Bool) (us c pp ad:Value)
  (h3:3<s) (hsz:s+8<T.size) (hi:(ops[i]?).bind (·.dst)=some s) (hj:(ops[i+3]?).bind (·.dst)=some (s+3))
  (ta:T[acc]? = some (.bool b)) (t1:T[1]? = some pp) (t3:T[3]? = some us)
  (hF:∀ (xs:Array Value) (w:World),(callFunc F xs).run P w = .ok (.enter F xs) w) (hc:∀ w,Gives P F #[us,c] w (.bool hb))
  (r1:∀ T':Array Value,T'[1]? = some pp->(execOp (⟨T',df⟩:Act).eval ⟨some (s+1),.fieldAddr st (.tmp 1) f,y1,p1,e1,some (i,false)⟩).run P w = .ok (.value ad) w)
  (r2:∀ T':Array Value,T'[s+1]? = some ad->(execOp (⟨T',df⟩:Act).eval ⟨some (s+2),.load lt (.tmp (s+1)),y2,p2,e2,some (i,false)⟩).run P w = .ok (.value (.bool zb)) w)
  (h:∀ T' xs d,Same s (s+9) T T'->T'[s+8]? = some (.bool (b || (zb && !hb)))->wpList P ops Q rest ⟨T',df⟩ (w.grow xs d)) :
  wpList P ops Q (⟨some s,.move (.tmp acc),y0,p0,e0,none⟩ :: ⟨some (s+1),.fieldAddr st (.tmp 1) f,y1,p1,e1,some (i,false)⟩ :: ⟨some (s+2),.load lt (.tmp (s+1)),y2,p2,e2,some (i,false)⟩ ::
   ⟨some (s+3),.move (.tmp (s+2)),y4,p4,e4,some (i,false)⟩ ::
   ⟨some (s+4),.move (.tmp 3),y5,p5,e5,some (i+3,true)⟩ :: ⟨some (s+5),.call { callee := .value (.func F),args := #[.tmp (s+4),.const c],argTypes:=ts },y6,p6,e6,some (i+3,true)⟩ ::
   ⟨some (s+6),.unOp .not nt (.tmp (s+5)),y7,p7,e7,some (i+3,true)⟩ :: ⟨some (s+7),.pick (.tmp (s+3)) (.tmp (s+6)) (.const (.bool false)),y8,p8,e8,some (i,false)⟩ ::
   ⟨some (s+8),.pick (.tmp s) (.const (.bool true)) (.tmp (s+7)),y9,p9,e9,none⟩ :: rest) ⟨T,df⟩ w:=by
 have wn:∀ (T':Array Value) (o:Oper),o.guard=none->Region.wanted o (yielded ops T')=true:=fun T' o ho=>by unfold Region.wanted;rw[ho]
 refine jJ rfl (wn _ _ rfl) (run_move _ _ _) ?_
 rw[ev ta]
 have s1:Same s (s+9) T (T.setIfInBounds s (.bool b)):=(Same.refl _ _ _).set (by omega) (by omega) _
 have a1:(T.setIfInBounds s (.bool b))[s]? = some (.bool b):=iP (by omega)
 generalize T.setIfInBounds s (.bool b)=T1 at s1 a1 |-
 cases b with
 | false =>
  refine jJ rfl (jP rfl hi a1) (r1 _ ((s1.2 1 (by omega)).trans t1)) ?_
  have s2:Same (s+1) (s+9) T1 (T1.setIfInBounds (s+1) ad):=(Same.refl _ _ _).set (by omega) (by omega) _
  have a2:(T1.setIfInBounds (s+1) ad)[s+1]? = some ad:=iP (by rw[s1.1];omega)
  generalize T1.setIfInBounds (s+1) ad=T2 at s2 a2 |-
  refine jJ rfl (jP rfl hi ((s2.2 s (by omega)).trans a1)) (r2 _ a2) ?_
  have s4:Same (s+1) (s+9) T1 (T2.setIfInBounds (s+2) (.bool zb)):=s2.set (by omega) (by omega) _
  have a4:(T2.setIfInBounds (s+2) (.bool zb))[s+2]? = some (.bool zb):=iP (by rw[s2.1,s1.1];omega)
  generalize T2.setIfInBounds (s+2) (.bool zb)=T4 at s4 a4 |-
  refine jJ rfl (jP rfl hi ((s4.2 s (by omega)).trans a1)) (run_move _ _ _) ?_
  rw[ev a4]
  have s5:Same (s+1) (s+9) T1 (T4.setIfInBounds (s+3) (.bool zb)):=s4.set (by omega) (by omega) _
  have a5:(T4.setIfInBounds (s+3) (.bool zb))[s+3]? = some (.bool zb):=iP (by rw[s4.1,s1.1];omega)
  generalize T4.setIfInBounds (s+3) (.bool zb)=T5 at s5 a5 |-
  refine core (i+3) (s+3) (s+4) F zb hb us c _ (by omega) (by rw[s5.1,s1.1];omega) hj a5 ((s5.2 3 (by omega)).trans ((s1.2 3 (by omega)).trans t3)) hF hc ?_ ?_
  ·intro T' hs
   exact jP rfl hi ((hs.2 s (by omega)).trans ((s5.2 s (by omega)).trans a1))
  intro T6 xs d s6 a6
  have s7:=s5.trans (s6.wide (show s+4+4<=s+9 by omega)) (by omega) (Nat.le_refl (s+9))
  refine jJ rfl (wn _ _ rfl) (rV _ _ _ _ _ (ev ((s7.2 s (by omega)).trans a1))) ?_
  rw[if_neg (by simp),ev a6]
  refine h _ _ _ (s1.trans (s7.set (by omega) (by omega) _) (by omega) (Nat.le_refl _)) ?_
  rw[iP (by rw[s7.1,s1.1];omega)]
  simp
 | true =>
  have hn:∀ T',Same (s+1) (s+9) T1 T' -> ∀ o:Oper,o.guard=some (i,false)->Region.wanted o (yielded ops T')=false:=fun T' hs o ho=>aA0 ho hi (.inl ((hs.2 s (by omega)).trans a1))
  refine iL rfl (hn _ (Same.refl _ _ _) _ rfl) ?_
  have s2:Same (s+1) (s+9) T1 (T1.setIfInBounds (s+1) undef):=(Same.refl _ _ _).set (by omega) (by omega) _
  generalize T1.setIfInBounds (s+1) undef=T2 at s2 |-
  refine iL rfl (hn _ s2 _ rfl) ?_
  have s4:Same (s+1) (s+9) T1 (T2.setIfInBounds (s+2) undef):=s2.set (by omega) (by omega) _
  generalize T2.setIfInBounds (s+2) undef=T4 at s4 |-
  refine iL rfl (hn _ s4 _ rfl) ?_
  have s5:Same (s+1) (s+9) T1 (T4.setIfInBounds (s+3) undef):=s4.set (by omega) (by omega) _
  have a5:(T4.setIfInBounds (s+3) undef)[s+3]? = some undef:=iP (by rw[s4.1,s1.1];omega)
  generalize T4.setIfInBounds (s+3) undef=T5 at s5 a5 |-
  have hk:∀ T',Same (s+4) (s+9) T5 T' -> ∀ o:Oper,o.guard=some (i+3,true)->Region.wanted o (yielded ops T')=false:=fun T' hs o ho=>aA0 ho hj (.inr ((hs.2 (s+3) (by omega)).trans a5))
  refine iL rfl (hk _ (Same.refl _ _ _) _ rfl) ?_
  have s6:Same (s+4) (s+9) T5 (T5.setIfInBounds (s+4) undef):=(Same.refl _ _ _).set (by omega) (by omega) _
  generalize T5.setIfInBounds (s+4) undef=T6 at s6 |-
  refine iL rfl (hk _ s6 _ rfl) ?_
  have s7:Same (s+4) (s+9) T5 (T6.setIfInBounds (s+5) undef):=s6.set (by omega) (by omega) _
  generalize T6.setIfInBounds (s+5) undef=T7 at s7 |-
  refine iL rfl (hk _ s7 _ rfl) ?_
  have s8:Same (s+4) (s+9) T5 (T7.setIfInBounds (s+6) undef):=s7.set (by omega) (by omega) _
  generalize T7.setIfInBounds (s+6) undef=T8 at s8 |-
  refine iL rfl (hn _ (s5.trans s8 (by omega) (Nat.le_refl _)) _ rfl) ?_
  have s9:Same (s+4) (s+9) T5 (T8.setIfInBounds (s+7) undef):=s8.set (by omega) (by omega) _
  generalize T8.setIfInBounds (s+7) undef=T9 at s9 |-
  have s10:=s5.trans s9 (by omega) (Nat.le_refl (s+9))
  refine jJ rfl (wn _ _ rfl) (rV _ _ _ _ _ (ev ((s10.2 s (by omega)).trans a1))) ?_
  rw[if_pos rfl]
  have:=h (T9.setIfInBounds (s+8) (.bool true)) #[] w.drawn (s1.trans (s10.set (by omega) (by omega) _) (by omega) (Nat.le_refl _)) (iP (by rw[s10.1,s1.1];omega))
  rw[World.jE] at this
  exact this

theorem aOz {y1 y2 y3 y4 y5 y6 y7 y8:Nat} {p1 p2 p3 p4 p5 p6 p7 p8:String} {e1 e2 e3 e4 e5 e6 e7 e8:Array Edge} {ts:Array TypeId} {nt st lt bt:TypeId} (i s f F:Nat) (zb hb:Bool) (us c z v pp ad:Value)
  (h3:3<s) (hsz:s+7<T.size) (hj:(ops[i+3]?).bind (·.dst)=some (s+3))
  (t1:T[1]? = some pp) (t3:T[3]? = some us)
  (hF:∀ (xs:Array Value) (w:World),(callFunc F xs).run P w = .ok (.enter F xs) w) (hc:∀ w,Gives P F #[us,c] w (.bool hb))
  (r1:∀ T':Array Value,T'[1]? = some pp->(execOp (⟨T',df⟩:Act).eval ⟨some s,.fieldAddr st (.tmp 1) f,y1,p1,e1,none⟩).run P w = .ok (.value ad) w)
  (r2:∀ T':Array Value,T'[s]? = some ad->(execOp (⟨T',df⟩:Act).eval ⟨some (s+1),.load lt (.tmp s),y2,p2,e2,none⟩).run P w = .ok (.value v) w)
  (r3:∀ T':Array Value,T'[s+1]? = some v->(execOp (⟨T',df⟩:Act).eval ⟨some (s+2),.binOp .neq lt (.tmp (s+1)) (.const z) bt,y3,p3,e3,none⟩).run P w = .ok (.value (.bool zb)) w)
  (h:∀ T' xs d,Same s (s+8) T T'->T'[s+7]? = some (.bool (zb && !hb))->wpList P ops Q rest ⟨T',df⟩ (w.grow xs d)) :
  wpList P ops Q (⟨some s,.fieldAddr st (.tmp 1) f,y1,p1,e1,none⟩ :: ⟨some (s+1),.load lt (.tmp s),y2,p2,e2,none⟩ ::
   ⟨some (s+2),.binOp .neq lt (.tmp (s+1)) (.const z) bt,y3,p3,e3,none⟩ :: ⟨some (s+3),.move (.tmp (s+2)),y4,p4,e4,none⟩ ::
   ⟨some (s+4),.move (.tmp 3),y5,p5,e5,some (i+3,true)⟩ :: ⟨some (s+5),.call { callee := .value (.func F),args := #[.tmp (s+4),.const c],argTypes:=ts },y6,p6,e6,some (i+3,true)⟩ ::
   ⟨some (s+6),.unOp .not nt (.tmp (s+5)),y7,p7,e7,some (i+3,true)⟩ :: ⟨some (s+7),.pick (.tmp (s+3)) (.tmp (s+6)) (.const (.bool false)),y8,p8,e8,none⟩ :: rest) ⟨T,df⟩ w:=by
 have wn:∀ (T':Array Value) (o:Oper),o.guard=none->Region.wanted o (yielded ops T')=true:=fun T' o ho=>by unfold Region.wanted;rw[ho]
 refine jJ rfl (wn _ _ rfl) (r1 _ t1) ?_
 have s2:Same s (s+8) T (T.setIfInBounds s ad):=(Same.refl _ _ _).set (by omega) (by omega) _
 have a2:(T.setIfInBounds s ad)[s]? = some ad:=iP (by omega)
 generalize T.setIfInBounds s ad=T2 at s2 a2 |-
 refine jJ rfl (wn _ _ rfl) (r2 _ a2) ?_
 have s3:Same s (s+8) T (T2.setIfInBounds (s+1) v):=s2.set (by omega) (by omega) _
 have a3:(T2.setIfInBounds (s+1) v)[s+1]? = some v:=iP (by rw[s2.1];omega)
 generalize T2.setIfInBounds (s+1) v=T3 at s3 a3 |-
 refine jJ rfl (wn _ _ rfl) (r3 _ a3) ?_
 have s4:Same s (s+8) T (T3.setIfInBounds (s+2) (.bool zb)):=s3.set (by omega) (by omega) _
 have a4:(T3.setIfInBounds (s+2) (.bool zb))[s+2]? = some (.bool zb):=iP (by rw[s3.1];omega)
 generalize T3.setIfInBounds (s+2) (.bool zb)=T4 at s4 a4 |-
 refine jJ rfl (wn _ _ rfl) (run_move _ _ _) ?_
 rw[ev a4]
 have s5:Same s (s+8) T (T4.setIfInBounds (s+3) (.bool zb)):=s4.set (by omega) (by omega) _
 have a5:(T4.setIfInBounds (s+3) (.bool zb))[s+3]? = some (.bool zb):=iP (by rw[s4.1];omega)
 generalize T4.setIfInBounds (s+3) (.bool zb)=T5 at s5 a5 |-
 refine core (i+3) (s+3) (s+4) F zb hb us c _ (by omega) (by rw[s5.1];omega) hj a5 ((s5.2 3 (by omega)).trans t3) hF hc ?_ ?_
 ·intro T' hs
  exact wn _ _ rfl
 intro T6 xs d s6 a6
 exact h _ _ _ (s5.trans (s6.wide (show s+4+4<=s+8 by omega)) (by omega) (Nat.le_refl (s+8))) a6
end
theorem aF2 {P:Program} {ops:Array Oper} {Q:Exit->Act->World->Prop} {l:List Oper} {T:Array Value} {df:List Deferred} {w:World} (h:∀ T0,T0=T->wpList P ops Q l ⟨T0,df⟩ w):wpList P ops Q l ⟨T,df⟩ w:=h T rfl
theorem aKS {s e:Nat} {ds:List Nat} {T T':Array Value} (hd:∀ k,k∈ds ↔ (s<=k/\k<e)) (h:Same s e T T'):T'=over T ds (fun d=>T'.getD d undef):=by
 apply Array.ext_getElem?
 intro k
 rw[nK]
 by_cases hk:s<=k/\k<e
 ·rw[if_pos ((hd k).2 hk)]
  by_cases hz:k<T.size
  ·rw[Array.getElem?_eq_getElem (by rw[h.1];exact hz),Array.getElem?_eq_getElem hz]
   simp[h.1,hz]
  rw[Array.getElem?_eq_none (by rw[h.1];omega),Array.getElem?_eq_none (by omega)]
  rfl
 rw[if_neg (fun hm=>hk ((hd k).1 hm))]
 exact h.2 k (by omega)
end Go.Proofs.YtcedmfnlkelhkaaGreatDoor.Lm
