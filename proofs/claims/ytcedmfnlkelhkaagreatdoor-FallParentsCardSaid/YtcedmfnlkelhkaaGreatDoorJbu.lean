/- Layer 10's document: what is wrong with a record. -/
import Derived.Test.YtcedmfnlkelhkaaGreatDoorJbt
import Derived.BigRegion
import Derived.Deep.CutBlock
import Derived.Deep.Cut
namespace Go.Proofs.YtcedmfnlkelhkaaGreatDoor
set_option maxRecDepth 100000
open Go.RowKit

theorem aO7 (r:Rec) (hk:r.kind=1):(decide (eG r≠jY 1))=((((r.mask.toNat:Int)) != 0) || (((r.parent.toNat:Int)) != 0) || (((r.state.toNat:Int)) != 0) || r.gone || (((r.rev.toNat:Int)) != 0) || (((r.at_.toNat:Int)) != 0) || (!(r.text.val == []))):=by
 obtain ⟨kind,state,user,parent,mask,gone,rev,at_,text⟩:=r
 simp only at hk
 subst hk
 have hx:∀ x:UInt8,(x=0) ↔ x.toNat=0:=fun x=>by rw[<-UInt8.toNat_inj];rfl
 have hy:∀ x:UInt32,(x=0) ↔ x.toNat=0:=fun x=>by rw[<-UInt32.toNat_inj];rfl
 have hw:∀ x:UInt64,(x=0) ↔ x.toNat=0:=fun x=>by rw[<-UInt64.toNat_inj];rfl
 have ht:(text=Txt.nil) ↔ text.val = []:=⟨fun h=>by rw[h];rfl,fun h=>Subtype.ext h⟩
 rw[Bool.eq_iff_iff]
 simp[eG,jY,Rec.zero,hx,hy,hw,ht,rH]
 try simp only[or_assoc,or_comm,or_left_comm]
theorem aO8 (r:Rec) (hk:r.kind=2):(decide (eG r≠jY 2))=((((r.user.toNat:Int)) != 0) || (((r.parent.toNat:Int)) != 0) || (((r.state.toNat:Int)) != 0) || r.gone || (((r.rev.toNat:Int)) != 0) || (((r.at_.toNat:Int)) != 0) || (!(r.text.val == []))):=by
 obtain ⟨kind,state,user,parent,mask,gone,rev,at_,text⟩:=r
 simp only at hk
 subst hk
 have hx:∀ x:UInt8,(x=0) ↔ x.toNat=0:=fun x=>by rw[<-UInt8.toNat_inj];rfl
 have hy:∀ x:UInt32,(x=0) ↔ x.toNat=0:=fun x=>by rw[<-UInt32.toNat_inj];rfl
 have hw:∀ x:UInt64,(x=0) ↔ x.toNat=0:=fun x=>by rw[<-UInt64.toNat_inj];rfl
 have ht:(text=Txt.nil) ↔ text.val = []:=⟨fun h=>by rw[h];rfl,fun h=>Subtype.ext h⟩
 rw[Bool.eq_iff_iff]
 simp[eG,jY,Rec.zero,hx,hy,hw,ht,rH]
 try simp only[or_assoc,or_comm,or_left_comm]
theorem aO9 (r:Rec) (hk:r.kind=3):(decide (eG r≠jY 3))=((((r.user.toNat:Int)) != 0) || (((r.mask.toNat:Int)) != 0) || (((r.parent.toNat:Int)) != 0) || (((r.state.toNat:Int)) != 0) || r.gone || (((r.rev.toNat:Int)) != 0) || (((r.at_.toNat:Int)) != 0) || (!(r.text.val == []))):=by
 obtain ⟨kind,state,user,parent,mask,gone,rev,at_,text⟩:=r
 simp only at hk
 subst hk
 have hx:∀ x:UInt8,(x=0) ↔ x.toNat=0:=fun x=>by rw[<-UInt8.toNat_inj];rfl
 have hy:∀ x:UInt32,(x=0) ↔ x.toNat=0:=fun x=>by rw[<-UInt32.toNat_inj];rfl
 have hw:∀ x:UInt64,(x=0) ↔ x.toNat=0:=fun x=>by rw[<-UInt64.toNat_inj];rfl
 have ht:(text=Txt.nil) ↔ text.val = []:=⟨fun h=>by rw[h];rfl,fun h=>Subtype.ext h⟩
 rw[Bool.eq_iff_iff,decide_eq_true_iff]
 have hb3:eG ⟨3,state,user,parent,mask,gone,rev,at_,text⟩=⟨3,state,user,parent,mask,gone,rev,at_,text⟩:=rfl
 rw[hb3]
 unfold jY Rec.zero
 rw[Ne,Rec.mk.injEq]
 simp[hx,hy,hw,ht,rH]
 by_cases h1:state.toNat=0 <;> by_cases h2:user.toNat=0 <;> by_cases h3:parent.toNat=0 <;> by_cases h4:mask.toNat=0 <;> cases gone <;> by_cases h5:rev.toNat=0 <;> by_cases h6:at_.toNat=0 <;> simp[h1,h2,h3,h4,h5,h6]
theorem aOa (r:Rec) (hk:r.kind=4):(decide (eG r≠jY 4))=((((r.user.toNat:Int)) != 0) || (((r.mask.toNat:Int)) != 0) || r.gone || (((r.rev.toNat:Int)) != 0) || (!(r.text.val == []))):=by
 obtain ⟨kind,state,user,parent,mask,gone,rev,at_,text⟩:=r
 simp only at hk
 subst hk
 have hx:∀ x:UInt8,(x=0) ↔ x.toNat=0:=fun x=>by rw[<-UInt8.toNat_inj];rfl
 have hy:∀ x:UInt32,(x=0) ↔ x.toNat=0:=fun x=>by rw[<-UInt32.toNat_inj];rfl
 have ht:(text=Txt.nil) ↔ text.val = []:=⟨fun h=>by rw[h];rfl,fun h=>Subtype.ext h⟩
 rw[Bool.eq_iff_iff]
 simp[eG,jY,Rec.zero,hx,hy,ht,rH]
 try simp only[or_assoc,or_comm,or_left_comm]
theorem aOb (r:Rec) (hk:r.kind=5):(decide (eG r≠jY 5))=((((r.user.toNat:Int)) != 0) || (((r.mask.toNat:Int)) != 0) || (((r.parent.toNat:Int)) != 0) || (((r.state.toNat:Int)) != 0) || (((r.at_.toNat:Int)) != 0)):=by
 obtain ⟨kind,state,user,parent,mask,gone,rev,at_,text⟩:=r
 simp only at hk
 subst hk
 have hx:∀ x:UInt8,(x=0) ↔ x.toNat=0:=fun x=>by rw[<-UInt8.toNat_inj];rfl
 have hw:∀ x:UInt64,(x=0) ↔ x.toNat=0:=fun x=>by rw[<-UInt64.toNat_inj];rfl
 rw[Bool.eq_iff_iff]
 simp[eG,jY,Rec.zero,hx,hw,rH]
 try simp only[or_assoc,or_comm,or_left_comm]
theorem aOc (r:Rec) (hk:r.kind=6):(decide (eG r≠jY 6))=((((r.mask.toNat:Int)) != 0) || (((r.parent.toNat:Int)) != 0) || r.gone || (((r.at_.toNat:Int)) != 0)):=by
 obtain ⟨kind,state,user,parent,mask,gone,rev,at_,text⟩:=r
 simp only at hk
 subst hk
 have hx:∀ x:UInt8,(x=0) ↔ x.toNat=0:=fun x=>by rw[<-UInt8.toNat_inj];rfl
 have hw:∀ x:UInt64,(x=0) ↔ x.toNat=0:=fun x=>by rw[<-UInt64.toNat_inj];rfl
 rw[Bool.eq_iff_iff]
 simp[eG,jY,Rec.zero,hx,hw,rH]
 try simp only[or_assoc,or_comm,or_left_comm]
set_option maxHeartbeats 20000000 in
theorem aF7 (r:Rec) (hkr:1<=r.kind.toNat/\r.kind.toNat<=6) (w:World):Gives Tryz.prog 118 #[.agg (dS r)] w (.int .i64 (mW r)):=by
 obtain ⟨ev,hev⟩:∃ ev,ev=mW r:=⟨_,rfl⟩
 rw[<-hev]
 have HEW:=Lib.hid hev
 obtain ⟨U,hU⟩:∃ U,U=aAW (r.kind.toNat:Int):=⟨_,rfl⟩
 have HU:=Lib.hid (show ∀ w,Gives Tryz.prog 140 #[.int .i64 (r.kind.toNat:Int)] w (.string (bs U)) from by rw[hU];exact aAK (r.kind.toNat:Int))
 have hul:U.length<=1000:=by
  rw[hU]
  unfold aAW
  repeat (first | (split) | decide)
 have Hu:=Lib.hid (show ∀ w,Gives Tryz.prog 141 #[.string (bs U),.int .u8 117] w (.bool (U.contains 117)) from gW U hul 117)
 have Hm:=Lib.hid (show ∀ w,Gives Tryz.prog 141 #[.string (bs U),.int .u8 109] w (.bool (U.contains 109)) from gW U hul 109)
 have Hp:=Lib.hid (show ∀ w,Gives Tryz.prog 141 #[.string (bs U),.int .u8 112] w (.bool (U.contains 112)) from gW U hul 112)
 have Hs:=Lib.hid (show ∀ w,Gives Tryz.prog 141 #[.string (bs U),.int .u8 115] w (.bool (U.contains 115)) from gW U hul 115)
 have Hg:=Lib.hid (show ∀ w,Gives Tryz.prog 141 #[.string (bs U),.int .u8 103] w (.bool (U.contains 103)) from gW U hul 103)
 have Hr:=Lib.hid (show ∀ w,Gives Tryz.prog 141 #[.string (bs U),.int .u8 114] w (.bool (U.contains 114)) from gW U hul 114)
 have Ha:=Lib.hid (show ∀ w,Gives Tryz.prog 141 #[.string (bs U),.int .u8 97] w (.bool (U.contains 97)) from gW U hul 97)
 have Ht:=Lib.hid (show ∀ w,Gives Tryz.prog 141 #[.string (bs U),.int .u8 116] w (.bool (U.contains 116)) from gW U hul 116)
 have k1:((r.kind.toNat:Int)<1)=False:=eq_false (by omega)
 have k6:((6:Int)<(r.kind.toNat:Int))=False:=eq_false (by omega)
 have HUU:=Lib.hid hU
 have HKR:=Lib.hid hkr
 clear hev hU hul hkr
 unfold Gives
 go_enter Tryz.func118,Tryz.ntmps118
 go_upto_region 1 with fail
 refine aP ?_
 intro W hW
 obtain ⟨q,hq⟩:∃ q,q=w.heap.size:=⟨_,rfl⟩
 have hbl:Below w.heap.size w W:=by rw[hW];exact blw
 have hr0:W.heap[q]? = some (.cells (dS r) 49):=by rw[hW,aC,if_pos hq]
 have lq:q<W.heap.size:=(Array.getElem?_eq_some_iff.1 hr0).1
 have a0:W.cell? ⟨q,0,none⟩=some (.int .i64 (r.kind.toNat:Int)):=(sG hr0 0).1.trans (aHU r)
 have a1:W.cell? ⟨q,1,none⟩=some (.int .i64 (r.state.toNat:Int)):=(sG hr0 1).1.trans (aMO r)
 have a2:W.cell? ⟨q,2,none⟩=some (.int .i64 (r.user.toNat:Int)):=(sG hr0 2).1.trans (aMP r)
 have a3:W.cell? ⟨q,3,none⟩=some (.int .i64 (r.parent.toNat:Int)):=(sG hr0 3).1.trans (aMQ r)
 have a4:W.cell? ⟨q,4,none⟩=some (.int .i64 (r.mask.toNat:Int)):=(sG hr0 4).1.trans (aMR r)
 have a5:W.cell? ⟨q,5,none⟩=some (.bool r.gone):=(sG hr0 5).1.trans (aMS r)
 have a6:W.cell? ⟨q,6,none⟩=some (.int .u64 (r.rev.toNat:Int)):=(sG hr0 6).1.trans (aMT r)
 have a7:W.cell? ⟨q,7,none⟩=some (.int .u64 (r.at_.toNat:Int)):=(sG hr0 7).1.trans (aJ3 r)
 have a8:W.cell? ⟨q,8,none⟩=some (.string (bs r.text.val)):=(sG hr0 8).1.trans (aMU r)
 simp only[<-hq]
 have HB:=Lib.hid (And.intro hbl hq)
 clear hW hbl hq hr0
 go_wp2_with fail
 refine Gives.use (HU.out _) ?_
 intro xs1 d1
 obtain ⟨bd,hbd⟩:∃ bd,bd=(((((((((((r.user.toNat:Int)) != 0) && !U.contains 117) || ((((r.mask.toNat:Int)) != 0) && !U.contains 109)) || ((((r.parent.toNat:Int)) != 0) && !U.contains 112)) || ((((r.state.toNat:Int)) != 0) && !U.contains 115)) || (r.gone && !U.contains 103)) || ((((r.rev.toNat:Int)) != 0) && !U.contains 114)) || ((((r.at_.toNat:Int)) != 0) && !U.contains 97)) || ((!(r.text.val == [])) && !U.contains 116)):=⟨_,rfl⟩
 have HBD:=Lib.hid hbd
 clear hbd k1 k6
 go_upto_region 4 with fail
 go_cut [91] (fun v wx=>v = .bool bd /\ ∃ xs d,wx=W.grow xs d)
 case first =>
  simp only[List.append_eq,List.cons_append,List.nil_append]
  refine wp_region_list ?_
  have hF:∀ (xs:Array Value) (w:World),(callFunc 141 xs).run Tryz.prog w = .ok (.enter 141 xs) w:=fun xs w=>by go_simp
  refine Lm.aF2 ?_
  intro T0 hT0
  have z0:T0.size=166:=by rw[hT0];rfl
  have t1_0:T0[1]? = some (.pointer (some ⟨q,0,none⟩)):=by rw[hT0];rfl
  have t3_0:T0[3]? = some (.string (bs U)):=by rw[hT0];rfl
  have S0:Lm.Same 15 92 T0 T0:=Lm.Same.refl _ _ _
  have HT0:=Lib.hid hT0
  clear hT0
  refine Lm.aOz 0 15 2 141 (((r.user.toNat:Int)) != 0) (U.contains 117) (.string (bs U)) (.int .u8 117) (.int .i64 0) (.int .i64 (r.user.toNat:Int)) (.pointer (some ⟨q,0,none⟩)) (.pointer (some ⟨q,2,none⟩)) (by decide) (by rw[z0];decide) rfl t1_0 t3_0 hF Hu.out (fun T' hh=>by go_simp) (fun T' hh=>by go_simp) (fun T' hh=>by go_simp) ?_
  intro T1 ys1 e1 s1 ta_1
  simp only[World.grow_grow]
  have z1:T1.size=166:=s1.1.trans z0
  have t1_1:T1[1]? = some (.pointer (some ⟨q,0,none⟩)):=(s1.2 1 (by decide)).trans t1_0
  have t3_1:T1[3]? = some (.string (bs U)):=(s1.2 3 (by decide)).trans t3_0
  have S1:Lm.Same 15 92 T0 T1:=S0.join s1 (by decide) (by decide)
  clear s1 t1_0 t3_0 z0 S0
  refine Lm.limb 8 23 22 4 141 _ (((r.mask.toNat:Int)) != 0) (U.contains 109) (.string (bs U)) (.int .u8 109) (.int .i64 0) (.int .i64 (r.mask.toNat:Int)) (.pointer (some ⟨q,0,none⟩)) (.pointer (some ⟨q,4,none⟩)) (by decide) (by rw[z1];decide) rfl rfl ta_1 t1_1 t3_1 hF Hm.out (fun T' hh=>by go_simp) (fun T' hh=>by go_simp) (fun T' hh=>by go_simp) ?_
  intro T2 ys2 e2 s2 ta_2
  simp only[World.grow_grow]
  have z2:T2.size=166:=s2.1.trans z1
  have t1_2:T2[1]? = some (.pointer (some ⟨q,0,none⟩)):=(s2.2 1 (by decide)).trans t1_1
  have t3_2:T2[3]? = some (.string (bs U)):=(s2.2 3 (by decide)).trans t3_1
  have S2:Lm.Same 15 92 T0 T2:=S1.join s2 (by decide) (by decide)
  clear s2 t1_1 t3_1 z1 S1 ta_1
  refine Lm.limb 18 33 32 3 141 _ (((r.parent.toNat:Int)) != 0) (U.contains 112) (.string (bs U)) (.int .u8 112) (.int .i64 0) (.int .i64 (r.parent.toNat:Int)) (.pointer (some ⟨q,0,none⟩)) (.pointer (some ⟨q,3,none⟩)) (by decide) (by rw[z2];decide) rfl rfl ta_2 t1_2 t3_2 hF Hp.out (fun T' hh=>by go_simp) (fun T' hh=>by go_simp) (fun T' hh=>by go_simp) ?_
  intro T3 ys3 e3 s3 ta_3
  simp only[World.grow_grow]
  have z3:T3.size=166:=s3.1.trans z2
  have t1_3:T3[1]? = some (.pointer (some ⟨q,0,none⟩)):=(s3.2 1 (by decide)).trans t1_2
  have t3_3:T3[3]? = some (.string (bs U)):=(s3.2 3 (by decide)).trans t3_2
  have S3:Lm.Same 15 92 T0 T3:=S2.join s3 (by decide) (by decide)
  clear s3 t1_2 t3_2 z2 S2 ta_2
  refine Lm.limb 28 43 42 1 141 _ (((r.state.toNat:Int)) != 0) (U.contains 115) (.string (bs U)) (.int .u8 115) (.int .i64 0) (.int .i64 (r.state.toNat:Int)) (.pointer (some ⟨q,0,none⟩)) (.pointer (some ⟨q,1,none⟩)) (by decide) (by rw[z3];decide) rfl rfl ta_3 t1_3 t3_3 hF Hs.out (fun T' hh=>by go_simp) (fun T' hh=>by go_simp) (fun T' hh=>by go_simp) ?_
  intro T4 ys4 e4 s4 ta_4
  simp only[World.grow_grow]
  have z4:T4.size=166:=s4.1.trans z3
  have t1_4:T4[1]? = some (.pointer (some ⟨q,0,none⟩)):=(s4.2 1 (by decide)).trans t1_3
  have t3_4:T4[3]? = some (.string (bs U)):=(s4.2 3 (by decide)).trans t3_3
  have S4:Lm.Same 15 92 T0 T4:=S3.join s4 (by decide) (by decide)
  clear s4 t1_3 t3_3 z3 S3 ta_3
  refine Lm.aPA 38 53 52 5 141 _ r.gone (U.contains 103) (.string (bs U)) (.int .u8 103) (.pointer (some ⟨q,0,none⟩)) (.pointer (some ⟨q,5,none⟩)) (by decide) (by rw[z4];decide) rfl rfl ta_4 t1_4 t3_4 hF Hg.out (fun T' hh=>by go_simp) (fun T' hh=>by go_simp) ?_
  intro T5 ys5 e5 s5 ta_5
  simp only[World.grow_grow]
  have z5:T5.size=166:=s5.1.trans z4
  have t1_5:T5[1]? = some (.pointer (some ⟨q,0,none⟩)):=(s5.2 1 (by decide)).trans t1_4
  have t3_5:T5[3]? = some (.string (bs U)):=(s5.2 3 (by decide)).trans t3_4
  have S5:Lm.Same 15 92 T0 T5:=S4.join s5 (by decide) (by decide)
  clear s5 t1_4 t3_4 z4 S4 ta_4
  refine Lm.limb 47 62 61 6 141 _ (((r.rev.toNat:Int)) != 0) (U.contains 114) (.string (bs U)) (.int .u8 114) (.int .u64 0) (.int .u64 (r.rev.toNat:Int)) (.pointer (some ⟨q,0,none⟩)) (.pointer (some ⟨q,6,none⟩)) (by decide) (by rw[z5];decide) rfl rfl ta_5 t1_5 t3_5 hF Hr.out (fun T' hh=>by go_simp) (fun T' hh=>by go_simp) (fun T' hh=>by go_simp) ?_
  intro T6 ys6 e6 s6 ta_6
  simp only[World.grow_grow]
  have z6:T6.size=166:=s6.1.trans z5
  have t1_6:T6[1]? = some (.pointer (some ⟨q,0,none⟩)):=(s6.2 1 (by decide)).trans t1_5
  have t3_6:T6[3]? = some (.string (bs U)):=(s6.2 3 (by decide)).trans t3_5
  have S6:Lm.Same 15 92 T0 T6:=S5.join s6 (by decide) (by decide)
  clear s6 t1_5 t3_5 z5 S5 ta_5
  refine Lm.limb 57 72 71 7 141 _ (((r.at_.toNat:Int)) != 0) (U.contains 97) (.string (bs U)) (.int .u8 97) (.int .u64 0) (.int .u64 (r.at_.toNat:Int)) (.pointer (some ⟨q,0,none⟩)) (.pointer (some ⟨q,7,none⟩)) (by decide) (by rw[z6];decide) rfl rfl ta_6 t1_6 t3_6 hF Ha.out (fun T' hh=>by go_simp) (fun T' hh=>by go_simp) (fun T' hh=>by go_simp) ?_
  intro T7 ys7 e7 s7 ta_7
  simp only[World.grow_grow]
  have z7:T7.size=166:=s7.1.trans z6
  have t1_7:T7[1]? = some (.pointer (some ⟨q,0,none⟩)):=(s7.2 1 (by decide)).trans t1_6
  have t3_7:T7[3]? = some (.string (bs U)):=(s7.2 3 (by decide)).trans t3_6
  have S7:Lm.Same 15 92 T0 T7:=S6.join s7 (by decide) (by decide)
  clear s7 t1_6 t3_6 z6 S6 ta_6
  refine Lm.limb 67 82 81 8 141 _ (!(r.text.val == [])) (U.contains 116) (.string (bs U)) (.int .u8 116) (.string { data := #[] }) (.string (bs r.text.val)) (.pointer (some ⟨q,0,none⟩)) (.pointer (some ⟨q,8,none⟩)) (by decide) (by rw[z7];decide) rfl rfl ta_7 t1_7 t3_7 hF Ht.out (fun T' hh=>by go_simp) (fun T' hh=>by go_simp) (fun T' hh=>by go_simp) ?_
  intro T8 ys8 e8 s8 ta_8
  simp only[World.grow_grow]
  have z8:T8.size=166:=s8.1.trans z7
  have t1_8:T8[1]? = some (.pointer (some ⟨q,0,none⟩)):=(s8.2 1 (by decide)).trans t1_7
  have t3_8:T8[3]? = some (.string (bs U)):=(s8.2 3 (by decide)).trans t3_7
  have S8:Lm.Same 15 92 T0 T8:=S7.join s8 (by decide) (by decide)
  clear s8 t1_7 t3_7 z7 S7 ta_7
  refine wpList_nil ?_
  have hx:=Lm.aKS (ds:=List.range' 15 77) (fun k=>by simp <;> omega) S8
  have h91:T8.getD 91 undef = .bool bd:=by rw[Array.getD_eq_getD_getElem?,ta_8,HBD.out];rfl
  rw[hx,HT0.out]
  obtain ⟨x,hxx⟩:∃ x:Nat->Value,x=fun d=>T8.getD d undef:=⟨_,rfl⟩
  have h91':x 91 = .bool bd:=by rw[hxx];exact h91
  rw[<-hxx]
  simp only[List.range',over,List.foldl_cons,List.foldl_nil,List.setIfInBounds_toArray,List.set_cons_succ,List.set_cons_zero,Nat.reduceAdd]
  go_wp2_with fail
  go_meet
  exact ⟨h91',_,_,rfl⟩
 obtain ⟨rfl,xs,d,rfl⟩:=hcut
 clear HU Hu Hm Hp Hs Hg Hr Ha Ht
 rcases vW HKR.out with hk | hk | hk | hk | hk | hk
 ·have hbd:=aO7 r hk
  have hbx:bd=((((r.mask.toNat:Int)) != 0) || (((r.parent.toNat:Int)) != 0) || (((r.state.toNat:Int)) != 0) || r.gone || (((r.rev.toNat:Int)) != 0) || (((r.at_.toNat:Int)) != 0) || (!(r.text.val == []))):=by
   rw[HBD.out,HUU.out,hk]
   simp[aAW,Bool.or_assoc]
  rw[<-hbx] at hbd
  have hev1:eG r≠jY 1->ev=3:=fun h=>by rw[HEW.out];unfold mW;rw[hk,if_pos (by decide),if_neg h]
  have hev2:eG r=jY 1->ev=(if dZ r=true then (if 60<r.text.val.length then 2 else if r.gone=true/\r.text.val ≠ [] then 3 else 0) else 5):=fun h=>by rw[HEW.out];unfold mW;rw[hk,if_pos (by decide),if_pos h]
  have HBD:=Lib.hid hbx
  have HBE:=Lib.hid hbd.symm
  have HEV:=Lib.hid (And.intro hev1 hev2)
  clear hbd hbx hev1 hev2
  refine (iK bd).elim (fun e => ?_) (fun e => ?_)
  ·have hz0:=HBD.out
   have hv:=HEV.out.2 (by have:=HBE.out;rw[e] at this;exact Classical.byContradiction (fun h=>by rw[decide_eq_true h] at this;cases this))
   rw[e] at hz0
   have hz:=hz0.symm
   clear hz0
   simp only[Bool.or_eq_false_iff] at hz
   have n_mask:r.mask.toNat=0:=by have:=hz.1.1.1.1.1.1;simpa using this
   have a4':W.cell? ⟨q,4,none⟩=some (.int .i64 0):=by rw[a4,n_mask];rfl
   clear a4
   have n_parent:r.parent.toNat=0:=by have:=hz.1.1.1.1.1.2;simpa using this
   have a3':W.cell? ⟨q,3,none⟩=some (.int .i64 0):=by rw[a3,n_parent];rfl
   clear a3
   have n_state:r.state.toNat=0:=by have:=hz.1.1.1.1.2;simpa using this
   have a1':W.cell? ⟨q,1,none⟩=some (.int .i64 0):=by rw[a1,n_state];rfl
   clear a1
   have n_gone:r.gone=false:=hz.1.1.1.2
   rw[n_gone] at a5
   have n_rev:r.rev.toNat=0:=by have:=hz.1.1.2;simpa using this
   have a6':W.cell? ⟨q,6,none⟩=some (.int .u64 0):=by rw[a6,n_rev];rfl
   clear a6
   have n_at_:r.at_.toNat=0:=by have:=hz.1.2;simpa using this
   have a7':W.cell? ⟨q,7,none⟩=some (.int .u64 0):=by rw[a7,n_at_];rfl
   clear a7
   have n_text:r.text.val = []:=by have:=hz.2;simpa using this
   rw[n_text] at a8
   have hw:dZ r=decide (r.user.toNat<16):=by unfold dZ;rw[hk];rfl
   rw[hw] at hv
   have hrv:=r.rev.toNat_lt
   have hrI:decide ((4294967295:Int)<(r.rev.toNat:Int))=false:=decide_eq_false (by omega)
   clear hrv
   have HV:=Lib.hid hv
   clear hv hz
   have hT:=Lib.hid n_text
   clear n_text
   have hG:=Lib.hid n_gone
   clear n_gone
   have n_mask':=Lib.hid n_mask
   clear n_mask
   have n_parent':=Lib.hid n_parent
   clear n_parent
   have n_state':=Lib.hid n_state
   clear n_state
   have n_rev':=Lib.hid n_rev
   clear n_rev
   have n_at_':=Lib.hid n_at_
   clear n_at_
   rw[e]
   go_wp2_with fail -- PROBE
   all_goals go_ret
   all_goals refine ⟨dQ ?_,HB.out.1.trans ((show Below W.heap.size W _ from blw).mono (Nat.le_of_lt (by rw[<-HB.out.2];exact lq)))⟩
   all_goals rw[HV.out]
   all_goals rw[hT.out]
   all_goals rw[hG.out]
   all_goals try simp only[bD] at *
   all_goals first | (simp;done) | (simp[*];done) | (simp;omega) | (simp[*];omega) | (simp_all;done) | (simp_all;omega)
  have hv:=HEV.out.1 (by have:=HBE.out;rw[e] at this;exact of_decide_eq_true this.symm)
  have HV:=Lib.hid hv
  clear hv
  rw[e]
  go_wp2_with fail
  go_ret
  exact ⟨dQ HV.out.symm,HB.out.1.trans ((show Below W.heap.size W _ from blw).mono (Nat.le_of_lt (by rw[<-HB.out.2];exact lq)))⟩
 ·have hbd:=aO8 r hk
  have hbx:bd=((((r.user.toNat:Int)) != 0) || (((r.parent.toNat:Int)) != 0) || (((r.state.toNat:Int)) != 0) || r.gone || (((r.rev.toNat:Int)) != 0) || (((r.at_.toNat:Int)) != 0) || (!(r.text.val == []))):=by
   rw[HBD.out,HUU.out,hk]
   simp[aAW,Bool.or_assoc]
  rw[<-hbx] at hbd
  have hev1:eG r≠jY 2->ev=3:=fun h=>by rw[HEW.out];unfold mW;rw[hk,if_pos (by decide),if_neg h]
  have hev2:eG r=jY 2->ev=(if dZ r=true then (if 60<r.text.val.length then 2 else if r.gone=true/\r.text.val ≠ [] then 3 else 0) else 5):=fun h=>by rw[HEW.out];unfold mW;rw[hk,if_pos (by decide),if_pos h]
  have HBD:=Lib.hid hbx
  have HBE:=Lib.hid hbd.symm
  have HEV:=Lib.hid (And.intro hev1 hev2)
  clear hbd hbx hev1 hev2
  refine (iK bd).elim (fun e => ?_) (fun e => ?_)
  ·have hz0:=HBD.out
   have hv:=HEV.out.2 (by have:=HBE.out;rw[e] at this;exact Classical.byContradiction (fun h=>by rw[decide_eq_true h] at this;cases this))
   rw[e] at hz0
   have hz:=hz0.symm
   clear hz0
   simp only[Bool.or_eq_false_iff] at hz
   have n_user:r.user.toNat=0:=by have:=hz.1.1.1.1.1.1;simpa using this
   have a2':W.cell? ⟨q,2,none⟩=some (.int .i64 0):=by rw[a2,n_user];rfl
   clear a2
   have n_parent:r.parent.toNat=0:=by have:=hz.1.1.1.1.1.2;simpa using this
   have a3':W.cell? ⟨q,3,none⟩=some (.int .i64 0):=by rw[a3,n_parent];rfl
   clear a3
   have n_state:r.state.toNat=0:=by have:=hz.1.1.1.1.2;simpa using this
   have a1':W.cell? ⟨q,1,none⟩=some (.int .i64 0):=by rw[a1,n_state];rfl
   clear a1
   have n_gone:r.gone=false:=hz.1.1.1.2
   rw[n_gone] at a5
   have n_rev:r.rev.toNat=0:=by have:=hz.1.1.2;simpa using this
   have a6':W.cell? ⟨q,6,none⟩=some (.int .u64 0):=by rw[a6,n_rev];rfl
   clear a6
   have n_at_:r.at_.toNat=0:=by have:=hz.1.2;simpa using this
   have a7':W.cell? ⟨q,7,none⟩=some (.int .u64 0):=by rw[a7,n_at_];rfl
   clear a7
   have n_text:r.text.val = []:=by have:=hz.2;simpa using this
   rw[n_text] at a8
   have hw:dZ r=(decide (1<=r.mask.toNat) && decide (r.mask.toNat<=63)):=by unfold dZ;rw[hk];rfl
   rw[hw] at hv
   have hrv:=r.rev.toNat_lt
   have hrI:decide ((4294967295:Int)<(r.rev.toNat:Int))=false:=decide_eq_false (by omega)
   clear hrv
   have HV:=Lib.hid hv
   clear hv hz
   have hT:=Lib.hid n_text
   clear n_text
   have hG:=Lib.hid n_gone
   clear n_gone
   have n_user':=Lib.hid n_user
   clear n_user
   have n_parent':=Lib.hid n_parent
   clear n_parent
   have n_state':=Lib.hid n_state
   clear n_state
   have n_rev':=Lib.hid n_rev
   clear n_rev
   have n_at_':=Lib.hid n_at_
   clear n_at_
   rw[e]
   go_wp2_with fail -- PROBE
   all_goals go_ret
   all_goals refine ⟨dQ ?_,HB.out.1.trans ((show Below W.heap.size W _ from blw).mono (Nat.le_of_lt (by rw[<-HB.out.2];exact lq)))⟩
   all_goals rw[HV.out]
   all_goals rw[hT.out]
   all_goals rw[hG.out]
   all_goals try simp only[bD] at *
   all_goals first | (simp;done) | (simp[*];done) | (simp;omega) | (simp[*];omega) | (simp_all;done) | (simp_all;omega)
  have hv:=HEV.out.1 (by have:=HBE.out;rw[e] at this;exact of_decide_eq_true this.symm)
  have HV:=Lib.hid hv
  clear hv
  rw[e]
  go_wp2_with fail
  go_ret
  exact ⟨dQ HV.out.symm,HB.out.1.trans ((show Below W.heap.size W _ from blw).mono (Nat.le_of_lt (by rw[<-HB.out.2];exact lq)))⟩
 ·have hbd:=aO9 r hk
  have hbx:bd=((((r.user.toNat:Int)) != 0) || (((r.mask.toNat:Int)) != 0) || (((r.parent.toNat:Int)) != 0) || (((r.state.toNat:Int)) != 0) || r.gone || (((r.rev.toNat:Int)) != 0) || (((r.at_.toNat:Int)) != 0) || (!(r.text.val == []))):=by
   rw[HBD.out,HUU.out,hk]
   simp[aAW,Bool.or_assoc]
  rw[<-hbx] at hbd
  have hev1:eG r≠jY 3->ev=3:=fun h=>by rw[HEW.out];unfold mW;rw[hk,if_pos (by decide),if_neg h]
  have hev2:eG r=jY 3->ev=(if dZ r=true then (if 60<r.text.val.length then 2 else if r.gone=true/\r.text.val ≠ [] then 3 else 0) else 5):=fun h=>by rw[HEW.out];unfold mW;rw[hk,if_pos (by decide),if_pos h]
  have HBD:=Lib.hid hbx
  have HBE:=Lib.hid hbd.symm
  have HEV:=Lib.hid (And.intro hev1 hev2)
  clear hbd hbx hev1 hev2
  refine (iK bd).elim (fun e => ?_) (fun e => ?_)
  ·have hz0:=HBD.out
   have hv:=HEV.out.2 (by have:=HBE.out;rw[e] at this;exact Classical.byContradiction (fun h=>by rw[decide_eq_true h] at this;cases this))
   rw[e] at hz0
   have hz:=hz0.symm
   clear hz0
   simp only[Bool.or_eq_false_iff] at hz
   have n_user:r.user.toNat=0:=by have:=hz.1.1.1.1.1.1.1;simpa using this
   have a2':W.cell? ⟨q,2,none⟩=some (.int .i64 0):=by rw[a2,n_user];rfl
   clear a2
   have n_mask:r.mask.toNat=0:=by have:=hz.1.1.1.1.1.1.2;simpa using this
   have a4':W.cell? ⟨q,4,none⟩=some (.int .i64 0):=by rw[a4,n_mask];rfl
   clear a4
   have n_parent:r.parent.toNat=0:=by have:=hz.1.1.1.1.1.2;simpa using this
   have a3':W.cell? ⟨q,3,none⟩=some (.int .i64 0):=by rw[a3,n_parent];rfl
   clear a3
   have n_state:r.state.toNat=0:=by have:=hz.1.1.1.1.2;simpa using this
   have a1':W.cell? ⟨q,1,none⟩=some (.int .i64 0):=by rw[a1,n_state];rfl
   clear a1
   have n_gone:r.gone=false:=hz.1.1.1.2
   rw[n_gone] at a5
   have n_rev:r.rev.toNat=0:=by have:=hz.1.1.2;simpa using this
   have a6':W.cell? ⟨q,6,none⟩=some (.int .u64 0):=by rw[a6,n_rev];rfl
   clear a6
   have n_at_:r.at_.toNat=0:=by have:=hz.1.2;simpa using this
   have a7':W.cell? ⟨q,7,none⟩=some (.int .u64 0):=by rw[a7,n_at_];rfl
   clear a7
   have n_text:r.text.val = []:=by have:=hz.2;simpa using this
   rw[n_text] at a8
   have hw:dZ r=true:=by unfold dZ;rw[hk];rfl
   rw[hw] at hv
   have hrv:=r.rev.toNat_lt
   have hrI:decide ((4294967295:Int)<(r.rev.toNat:Int))=false:=decide_eq_false (by omega)
   clear hrv
   have HV:=Lib.hid hv
   clear hv hz
   have hT:=Lib.hid n_text
   clear n_text
   have hG:=Lib.hid n_gone
   clear n_gone
   have n_user':=Lib.hid n_user
   clear n_user
   have n_mask':=Lib.hid n_mask
   clear n_mask
   have n_parent':=Lib.hid n_parent
   clear n_parent
   have n_state':=Lib.hid n_state
   clear n_state
   have n_rev':=Lib.hid n_rev
   clear n_rev
   have n_at_':=Lib.hid n_at_
   clear n_at_
   rw[e]
   go_wp2_with fail -- PROBE
   all_goals go_ret
   all_goals refine ⟨dQ ?_,HB.out.1.trans ((show Below W.heap.size W _ from blw).mono (Nat.le_of_lt (by rw[<-HB.out.2];exact lq)))⟩
   all_goals rw[HV.out]
   all_goals rw[hT.out]
   all_goals rw[hG.out]
   all_goals try simp only[bD] at *
   all_goals first | (simp;done) | (simp[*];done) | (simp;omega) | (simp[*];omega) | (simp_all;done) | (simp_all;omega)
  have hv:=HEV.out.1 (by have:=HBE.out;rw[e] at this;exact of_decide_eq_true this.symm)
  have HV:=Lib.hid hv
  clear hv
  rw[e]
  go_wp2_with fail
  go_ret
  exact ⟨dQ HV.out.symm,HB.out.1.trans ((show Below W.heap.size W _ from blw).mono (Nat.le_of_lt (by rw[<-HB.out.2];exact lq)))⟩
 ·have hbd:=aOa r hk
  have hbx:bd=((((r.user.toNat:Int)) != 0) || (((r.mask.toNat:Int)) != 0) || r.gone || (((r.rev.toNat:Int)) != 0) || (!(r.text.val == []))):=by
   rw[HBD.out,HUU.out,hk]
   simp[aAW,Bool.or_assoc]
  rw[<-hbx] at hbd
  have hev1:eG r≠jY 4->ev=3:=fun h=>by rw[HEW.out];unfold mW;rw[hk,if_pos (by decide),if_neg h]
  have hev2:eG r=jY 4->ev=(if dZ r=true then (if 60<r.text.val.length then 2 else if r.gone=true/\r.text.val ≠ [] then 3 else 0) else 5):=fun h=>by rw[HEW.out];unfold mW;rw[hk,if_pos (by decide),if_pos h]
  have HBD:=Lib.hid hbx
  have HBE:=Lib.hid hbd.symm
  have HEV:=Lib.hid (And.intro hev1 hev2)
  clear hbd hbx hev1 hev2
  refine (iK bd).elim (fun e => ?_) (fun e => ?_)
  ·have hz0:=HBD.out
   have hv:=HEV.out.2 (by have:=HBE.out;rw[e] at this;exact Classical.byContradiction (fun h=>by rw[decide_eq_true h] at this;cases this))
   rw[e] at hz0
   have hz:=hz0.symm
   clear hz0
   simp only[Bool.or_eq_false_iff] at hz
   have n_user:r.user.toNat=0:=by have:=hz.1.1.1.1;simpa using this
   have a2':W.cell? ⟨q,2,none⟩=some (.int .i64 0):=by rw[a2,n_user];rfl
   clear a2
   have n_mask:r.mask.toNat=0:=by have:=hz.1.1.1.2;simpa using this
   have a4':W.cell? ⟨q,4,none⟩=some (.int .i64 0):=by rw[a4,n_mask];rfl
   clear a4
   have n_gone:r.gone=false:=hz.1.1.2
   rw[n_gone] at a5
   have n_rev:r.rev.toNat=0:=by have:=hz.1.2;simpa using this
   have a6':W.cell? ⟨q,6,none⟩=some (.int .u64 0):=by rw[a6,n_rev];rfl
   clear a6
   have n_text:r.text.val = []:=by have:=hz.2;simpa using this
   rw[n_text] at a8
   have hw:dZ r=(decide (r.parent.toNat<4) && decide (r.state.toNat<=1)):=by unfold dZ;rw[hk];rfl
   rw[hw] at hv
   have hrv:=r.rev.toNat_lt
   have hrI:decide ((4294967295:Int)<(r.rev.toNat:Int))=false:=decide_eq_false (by omega)
   clear hrv
   have HV:=Lib.hid hv
   clear hv hz
   have hT:=Lib.hid n_text
   clear n_text
   have hG:=Lib.hid n_gone
   clear n_gone
   have n_user':=Lib.hid n_user
   clear n_user
   have n_mask':=Lib.hid n_mask
   clear n_mask
   have n_rev':=Lib.hid n_rev
   clear n_rev
   rw[e]
   go_wp2_with fail -- PROBE
   all_goals go_ret
   all_goals refine ⟨dQ ?_,HB.out.1.trans ((show Below W.heap.size W _ from blw).mono (Nat.le_of_lt (by rw[<-HB.out.2];exact lq)))⟩
   all_goals rw[HV.out]
   all_goals rw[hT.out]
   all_goals rw[hG.out]
   all_goals try simp only[bD] at *
   all_goals first | (simp;done) | (simp[*];done) | (simp;omega) | (simp[*];omega) | (simp_all;done) | (simp_all;omega)
  have hv:=HEV.out.1 (by have:=HBE.out;rw[e] at this;exact of_decide_eq_true this.symm)
  have HV:=Lib.hid hv
  clear hv
  rw[e]
  go_wp2_with fail
  go_ret
  exact ⟨dQ HV.out.symm,HB.out.1.trans ((show Below W.heap.size W _ from blw).mono (Nat.le_of_lt (by rw[<-HB.out.2];exact lq)))⟩
 ·have hbd:=aOb r hk
  have hbx:bd=((((r.user.toNat:Int)) != 0) || (((r.mask.toNat:Int)) != 0) || (((r.parent.toNat:Int)) != 0) || (((r.state.toNat:Int)) != 0) || (((r.at_.toNat:Int)) != 0)):=by
   rw[HBD.out,HUU.out,hk]
   simp[aAW,Bool.or_assoc]
  rw[<-hbx] at hbd
  have hev1:eG r≠jY 5->ev=3:=fun h=>by rw[HEW.out];unfold mW;rw[hk,if_pos (by decide),if_neg h]
  have hev2:eG r=jY 5->ev=(if dZ r=true then (if 60<r.text.val.length then 2 else if r.gone=true/\r.text.val ≠ [] then 3 else 0) else 5):=fun h=>by rw[HEW.out];unfold mW;rw[hk,if_pos (by decide),if_pos h]
  have HBD:=Lib.hid hbx
  have HBE:=Lib.hid hbd.symm
  have HEV:=Lib.hid (And.intro hev1 hev2)
  clear hbd hbx hev1 hev2
  refine (iK bd).elim (fun e => ?_) (fun e => ?_)
  ·have hz0:=HBD.out
   have hv:=HEV.out.2 (by have:=HBE.out;rw[e] at this;exact Classical.byContradiction (fun h=>by rw[decide_eq_true h] at this;cases this))
   rw[e] at hz0
   have hz:=hz0.symm
   clear hz0
   simp only[Bool.or_eq_false_iff] at hz
   have n_user:r.user.toNat=0:=by have:=hz.1.1.1.1;simpa using this
   have a2':W.cell? ⟨q,2,none⟩=some (.int .i64 0):=by rw[a2,n_user];rfl
   clear a2
   have n_mask:r.mask.toNat=0:=by have:=hz.1.1.1.2;simpa using this
   have a4':W.cell? ⟨q,4,none⟩=some (.int .i64 0):=by rw[a4,n_mask];rfl
   clear a4
   have n_parent:r.parent.toNat=0:=by have:=hz.1.1.2;simpa using this
   have a3':W.cell? ⟨q,3,none⟩=some (.int .i64 0):=by rw[a3,n_parent];rfl
   clear a3
   have n_state:r.state.toNat=0:=by have:=hz.1.2;simpa using this
   have a1':W.cell? ⟨q,1,none⟩=some (.int .i64 0):=by rw[a1,n_state];rfl
   clear a1
   have n_at_:r.at_.toNat=0:=by have:=hz.2;simpa using this
   have a7':W.cell? ⟨q,7,none⟩=some (.int .u64 0):=by rw[a7,n_at_];rfl
   clear a7
   have hw:dZ r=decide (0<r.rev.toNat):=by unfold dZ;rw[hk];rfl
   rw[hw] at hv
   have hrv:=r.rev.toNat_lt
   have hrI:decide ((4294967295:Int)<(r.rev.toNat:Int))=false:=decide_eq_false (by omega)
   clear hrv
   have HV:=Lib.hid hv
   clear hv hz
   have n_user':=Lib.hid n_user
   clear n_user
   have n_mask':=Lib.hid n_mask
   clear n_mask
   have n_parent':=Lib.hid n_parent
   clear n_parent
   have n_state':=Lib.hid n_state
   clear n_state
   have n_at_':=Lib.hid n_at_
   clear n_at_
   rw[e]
   refine (iK r.gone).elim (fun eg => ?_) (fun eg => ?_)
   ·skip
    rw[eg] at a5
    refine (iK (r.text.val == [])).elim (fun et => ?_) (fun et => ?_)
    ·skip
     go_wp2_with fail -- PROBE
     all_goals go_ret
     all_goals refine ⟨dQ ?_,HB.out.1.trans ((show Below W.heap.size W _ from blw).mono (Nat.le_of_lt (by rw[<-HB.out.2];exact lq)))⟩
     all_goals rw[HV.out]
     all_goals try simp only[bD] at *
     all_goals first | (simp;done) | (simp[*];done) | (simp;omega) | (simp[*];omega) | (simp_all;done) | (simp_all;omega)
    skip
    go_wp2_with fail -- PROBE
    all_goals go_ret
    all_goals refine ⟨dQ ?_,HB.out.1.trans ((show Below W.heap.size W _ from blw).mono (Nat.le_of_lt (by rw[<-HB.out.2];exact lq)))⟩
    all_goals rw[HV.out]
    all_goals try simp only[bD] at *
    all_goals first | (simp;done) | (simp[*];done) | (simp;omega) | (simp[*];omega) | (simp_all;done) | (simp_all;omega)
   skip
   rw[eg] at a5
   refine (iK (r.text.val == [])).elim (fun et => ?_) (fun et => ?_)
   ·skip
    go_wp2_with fail -- PROBE
    all_goals go_ret
    all_goals refine ⟨dQ ?_,HB.out.1.trans ((show Below W.heap.size W _ from blw).mono (Nat.le_of_lt (by rw[<-HB.out.2];exact lq)))⟩
    all_goals rw[HV.out]
    all_goals try simp only[bD] at *
    all_goals first | (simp;done) | (simp[*];done) | (simp;omega) | (simp[*];omega) | (simp_all;done) | (simp_all;omega)
   skip
   go_wp2_with fail -- PROBE
   all_goals go_ret
   all_goals refine ⟨dQ ?_,HB.out.1.trans ((show Below W.heap.size W _ from blw).mono (Nat.le_of_lt (by rw[<-HB.out.2];exact lq)))⟩
   all_goals rw[HV.out]
   all_goals try simp only[bD] at *
   all_goals first | (simp;done) | (simp[*];done) | (simp;omega) | (simp[*];omega) | (simp_all;done) | (simp_all;omega)
  have hv:=HEV.out.1 (by have:=HBE.out;rw[e] at this;exact of_decide_eq_true this.symm)
  have HV:=Lib.hid hv
  clear hv
  rw[e]
  go_wp2_with fail
  go_ret
  exact ⟨dQ HV.out.symm,HB.out.1.trans ((show Below W.heap.size W _ from blw).mono (Nat.le_of_lt (by rw[<-HB.out.2];exact lq)))⟩
 have hbd:=aOc r hk
 have hbx:bd=((((r.mask.toNat:Int)) != 0) || (((r.parent.toNat:Int)) != 0) || r.gone || (((r.at_.toNat:Int)) != 0)):=by
  rw[HBD.out,HUU.out,hk]
  simp[aAW,Bool.or_assoc]
 rw[<-hbx] at hbd
 have hev1:eG r≠jY 6->ev=3:=fun h=>by rw[HEW.out];unfold mW;rw[hk,if_pos (by decide),if_neg h]
 have hev2:eG r=jY 6->ev=(if dZ r=true then (if 60<r.text.val.length then 2 else if r.gone=true/\r.text.val ≠ [] then 3 else 0) else 5):=fun h=>by rw[HEW.out];unfold mW;rw[hk,if_pos (by decide),if_pos h]
 have HBD:=Lib.hid hbx
 have HBE:=Lib.hid hbd.symm
 have HEV:=Lib.hid (And.intro hev1 hev2)
 clear hbd hbx hev1 hev2
 refine (iK bd).elim (fun e => ?_) (fun e => ?_)
 ·have hz0:=HBD.out
  have hv:=HEV.out.2 (by have:=HBE.out;rw[e] at this;exact Classical.byContradiction (fun h=>by rw[decide_eq_true h] at this;cases this))
  rw[e] at hz0
  have hz:=hz0.symm
  clear hz0
  simp only[Bool.or_eq_false_iff] at hz
  have n_mask:r.mask.toNat=0:=by have:=hz.1.1.1;simpa using this
  have a4':W.cell? ⟨q,4,none⟩=some (.int .i64 0):=by rw[a4,n_mask];rfl
  clear a4
  have n_parent:r.parent.toNat=0:=by have:=hz.1.1.2;simpa using this
  have a3':W.cell? ⟨q,3,none⟩=some (.int .i64 0):=by rw[a3,n_parent];rfl
  clear a3
  have n_gone:r.gone=false:=hz.1.2
  rw[n_gone] at a5
  have n_at_:r.at_.toNat=0:=by have:=hz.2;simpa using this
  have a7':W.cell? ⟨q,7,none⟩=some (.int .u64 0):=by rw[a7,n_at_];rfl
  clear a7
  have hw:dZ r=(decide (1<=r.state.toNat) && decide (r.state.toNat<=5) && decide (r.user.toNat<16) && decide (0<r.rev.toNat)):=by unfold dZ;rw[hk];rfl
  rw[hw] at hv
  have hrv:=r.rev.toNat_lt
  have hrI:decide ((4294967295:Int)<(r.rev.toNat:Int))=false:=decide_eq_false (by omega)
  clear hrv
  have HV:=Lib.hid hv
  clear hv hz
  have hG:=Lib.hid n_gone
  clear n_gone
  have n_mask':=Lib.hid n_mask
  clear n_mask
  have n_parent':=Lib.hid n_parent
  clear n_parent
  have n_at_':=Lib.hid n_at_
  clear n_at_
  rw[e]
  refine (iK (r.text.val == [])).elim (fun et => ?_) (fun et => ?_)
  ·skip
   go_wp2_with fail -- PROBE
   all_goals go_ret
   all_goals refine ⟨dQ ?_,HB.out.1.trans ((show Below W.heap.size W _ from blw).mono (Nat.le_of_lt (by rw[<-HB.out.2];exact lq)))⟩
   all_goals rw[HV.out]
   all_goals rw[hG.out]
   all_goals try simp only[bD] at *
   all_goals first | (simp;done) | (simp[*];done) | (simp;omega) | (simp[*];omega) | (simp_all;done) | (simp_all;omega)
  skip
  go_wp2_with fail -- PROBE
  all_goals go_ret
  all_goals refine ⟨dQ ?_,HB.out.1.trans ((show Below W.heap.size W _ from blw).mono (Nat.le_of_lt (by rw[<-HB.out.2];exact lq)))⟩
  all_goals rw[HV.out]
  all_goals rw[hG.out]
  all_goals try simp only[bD] at *
  all_goals first | (simp;done) | (simp[*];done) | (simp;omega) | (simp[*];omega) | (simp_all;done) | (simp_all;omega)
 have hv:=HEV.out.1 (by have:=HBE.out;rw[e] at this;exact of_decide_eq_true this.symm)
 have HV:=Lib.hid hv
 clear hv
 rw[e]
 go_wp2_with fail
 go_ret
 exact ⟨dQ HV.out.symm,HB.out.1.trans ((show Below W.heap.size W _ from blw).mono (Nat.le_of_lt (by rw[<-HB.out.2];exact lq)))⟩
theorem pU (r:Rec) (w:World):Gives Tryz.prog 118 #[.agg (dS r)] w (.int .i64 (mW r)):=by
 by_cases hk:1<=r.kind.toNat/\r.kind.toNat<=6
 ·exact aF7 r hk w
 have he:mW r=16:=by unfold mW;rw[if_neg hk]
 rw[he]
 clear he
 have h2:((r.kind.toNat:Int)<1)\/(¬ ((r.kind.toNat:Int)<1)/\6<(r.kind.toNat:Int)):=by omega
 clear hk
 rcases h2 with h2 | ⟨h2,h3⟩
 all_goals
  unfold Gives
  go_enter Tryz.func118,Tryz.ntmps118
  go_wp2_with fail
  go_ret
  exact ⟨rfl,blw⟩
end Go.Proofs.YtcedmfnlkelhkaaGreatDoor
