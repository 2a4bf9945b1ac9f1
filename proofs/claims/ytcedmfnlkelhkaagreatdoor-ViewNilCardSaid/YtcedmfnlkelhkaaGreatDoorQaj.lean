/- Layer 5: the tag of a text. -/
import Derived.Test.YtcedmfnlkelhkaaGreatDoorQai
import Derived.Test.YtcedmfnlkelhkaaGreatDoorQab
namespace Go.Proofs.YtcedmfnlkelhkaaGreatDoor
set_option maxRecDepth 100000
open Go.RowKit

/-- a slice of strings that lie in block B, whose cells are C -/
def PartsV (B : Nat) (C : Array Value) (r : List (List UInt8)) (v : Value) : Prop :=
 ∃ o cap, v = .slice (some ⟨B, o, none⟩) r.length cap ∧ r.length ≤ cap ∧ cap ≤ 1000001 ∧ StrsC r C o
theorem title_set (L q : List UInt8) (hL : L.length = 3) (hq : q.length = 4) : (L ++ q.map toLow ++ zeros 3).set 3 (toUpp (byt (L ++ q.map toLow ++ zeros 3) 3)) = L ++ title q ++ zeros 3 := by
 match L, q, hL, hq with
 | [x, y, z], [a, b, c, d], _, _ => rfl
def rgYes (r : List (List UInt8)) : Bool := match r with | [] => false | q :: _ => regionB q
theorem scOf_len (r : List (List UInt8)) : (scOf r).length = 4 := by
 cases r with
 | nil => rfl
 | cons q r =>
  have e : scOf (q :: r) = if scriptB q = true then title q else zeros 4 := rfl
  rw [e]
  by_cases h : scriptB q = true
  ·rw [if_pos h]
   unfold scriptB at h
   rw [Bool.and_eq_true, decide_eq_true_eq] at h
   match q, h.1 with
   | [a, b, c, d], _ => rfl
  ·rw [if_neg h]; rfl
theorem rgOf_len (r : List (List UInt8)) : (rgOf r).length = 3 := by
 cases r with
 | nil => rfl
 | cons q r =>
  have e : rgOf (q :: r) = if regionB q = true then padTo 3 (q.map toUpp) else zeros 3 := rfl
  rw [e]
  by_cases h : regionB q = true
  ·rw [if_pos h, padTo_len (by rw [List.length_map]; simp [regionB] at h; omega)]
  ·rw [if_neg h]; rfl
def scYes (r : List (List UInt8)) : Bool := match r with | [] => false | q :: _ => scriptB q
set_option maxRecDepth 100000 in
set_option maxHeartbeats 20000000 in
theorem tagParse_gives (s : List UInt8) (hs : s.length ≤ 1000000) (w : World) : Gives Tryz.prog 63 #[.string (bs s)] w (.tuple #[.agg (row8 (tagParse1 s)), .int .i64 (tagParse2 s)]) := by
 by_cases hroot : s = rootL
 ·subst hroot
  have e1 : tagParse1 rootL = zeros 10 := by unfold tagParse1 tagOpt; rw [if_pos rfl]; rfl
  have e2 : tagParse2 rootL = 0 := by unfold tagParse2 tagOpt; rw [if_pos rfl]; rfl
  have E1 := Lib.hid e1
  have E2 := Lib.hid e2
  clear e1 e2 hs
  have hr : (rootL == [114, 111, 111, 116]) = true := by decide
  unfold Gives
  go_enter Tryz.func63, Tryz.ntmps63
  go_wp2_with fail
  exact bodyPost_ret (v := .tuple #[.agg (row8 (zeros 10)), .int .i64 0]) (results_two Tryz.results63 (ResIs.row rfl agg_tag (by simp [go_sem])) (by simp [ResIs])) rfl ⟨by rw [E1.out, E2.out], blw⟩
 ·have hr : (s == [114, 111, 111, 116]) = false := beq_eq_false_iff_ne.2 hroot
  have hsp := split_calls 45 s hs
  have ht : tagOpt s = tagParts (splitOn 45 s) := if_neg hroot
  have hne : splitOn 45 s ≠ [] := by
   intro h
   have := splitOn_len 45 s
   rw [h] at this
   simp at this
  generalize splitOn 45 s = ps at *
  have HSP := Lib.hid hsp
  have HT := Lib.hid ht
  clear hsp ht
  unfold Gives
  cases ps with
  | nil => exact absurd rfl hne
  | cons p r =>
  clear hne hroot
  go_enter Tryz.func63, Tryz.ntmps63
  go_wp2_with fail
  refine (HSP.out _).mono ?_
  rintro e w' ⟨cap, C, rfl, hc1, hc2, hC, rfl⟩
  have hC0 : C[0]? = some (.string (bs p)) := hC 0 p rfl
  have HCC := Lib.hid hC
  clear hC
  have hz := bs_size p
  simp only [List.length_cons] at hc1 ⊢
  by_cases hl : langB p = true
  ·have hl' := hl
   simp only [langB, Bool.and_eq_true, decide_eq_true_eq] at hl'
   obtain ⟨⟨h2, h3⟩, ha⟩ := hl'
   have d2 : decide ((p.length : Int) < 2) = false := by simp; omega
   have d3 : decide ((3 : Int) < p.length) = false := by simp; omega
   have hal := allLet_gives p (by unfold maxLen; omega)
   rw [ha] at hal
   have HA := Lib.hid hal
   have HL := Lib.hid hl
   clear hal ha hl
   go_wp2_with (go_at_call 95; refine Gives.use (HA.out _) ?_; intro xs d)
   go_loopw [7, 37] (fun _ i wr => ∃ (k : Nat) (xs : Array Obj) (d : Nat), k ≤ p.length ∧ i = .int .i64 k ∧ wr = ((((w.alloc (.cells (row8 (zeros 10)) 60)).alloc (.cells (row8 (padTo 3 ((p.map toLow).take k) ++ zeros 7)) 60)).alloc (.cells C 9)).grow xs d)) (fun _ i _ => p.length - (intOf i).toNat)
   case atStart => exact ⟨0, _, _, by omega, rfl, by rw [List.take_zero, padTo_nil]; rfl⟩
   case round =>
    obtain ⟨k, xs, d, hk, rfl, rfl⟩ := hrel
    by_cases hlt : k < p.length
    ·have hset := fill_set [] (p.map toLow) (zeros 7) 3 k (by simp; omega) (by simpa using hlt)
     have hlen : (padTo 3 ((p.map toLow).take k) ++ zeros 7).length = 10 := by
      rw [List.length_append, padTo_len (by simp; omega)]; simp
     rw [byt_map _ _ _ hlt] at hset
     simp only [List.nil_append, List.length_nil, Nat.zero_add] at hset
     have hkl : k < (padTo 3 ((p.map toLow).take k) ++ zeros 7).length := by omega
     generalize padTo 3 ((p.map toLow).take k) ++ zeros 7 = tk at *
     have HSET := Lib.hid hset
     clear hset hlen
     have hk3 : (k : Int) < 3 := by omega
     have hki : (k : Int) < p.length := by omega
     go_wp2_with (go_at_call 97; refine Gives.use (lower_gives _ _) ?_; intro ys e)
     go_roundw
     case rel => exact ⟨k + 1, _, _, by omega, by go_num, by rw [HSET.out]⟩
     case measure => simp [intOf]; omega
    ·have : k = p.length := by omega
     subst this
     have hml : (p.map toLow).length = p.length := by simp
     rw [List.take_of_length_le (by omega)]
     have hLl : (padTo 3 (p.map toLow)).length = 3 := padTo_len (by omega)
     have HLL := Lib.hid hLl
     generalize hL : padTo 3 (p.map toLow) = L at *
     have HLL2 := Lib.hid hL
     clear hml hLl hL
     go_upto_region 13 with fail
     go_cut [5] (fun s5 wx => PartsV (w.heap.size + 1 + 1) C r s5 ∧ ((((w.alloc (.cells (row8 (zeros 10)) 60)).alloc (.cells (row8 (L ++ zeros 7)) 60)).alloc (.cells C 9)).grow xs d) = wx)
     case first =>
      by_cases hcap : cap = 1
      ·subst hcap
       have hr0 : r = [] := List.eq_nil_of_length_eq_zero (by omega)
       subst hr0
       go_wp2_with fail
       go_meet
       exact ⟨⟨0, 0, rfl, Nat.le_refl _, Nat.zero_le _, fun i q hq => by simp at hq⟩, rfl⟩
      ·go_wp2_with fail
       go_meet
       exact ⟨⟨1, cap - 1, rfl, by omega, by omega, HCC.out.tail⟩, rfl⟩
     case rest =>
     obtain ⟨⟨o, cap2, rfl, hc3, hc4, hC2⟩, rfl⟩ := hcut
     have HC2 := Lib.hid hC2
     clear hC2 hC0 HCC hc1 hc2 hk hlt hz HA HSP d2 d3
     go_upto_region 14 with fail
     go_cut [67] (fun s67 wx => s67 = .bool (scYes r) ∧ ∃ xs d, wx = ((((w.alloc (.cells (row8 (zeros 10)) 60)).alloc (.cells (row8 (L ++ zeros 7)) 60)).alloc (.cells C 9)).grow xs d))
     case first =>
      cases r with
      | nil =>
       go_wp2_with fail
       go_meet
       exact ⟨rfl, _, _, rfl⟩
      | cons q r1 =>
       have hC0 : C[o]? = some (.string (bs q)) := HC2.out 0 q rfl
       have hz := bs_size q
       by_cases h4 : q.length = 4
       ·have e4 : ((q.length : Int) == 4) = true := by simp; omega
        have hal := allLet_gives q (by unfold maxLen; omega)
        have hsc : scYes (q :: r1) = q.all letB := by simp [scYes, scriptB, h4]
        generalize q.all letB = b at *
        have HA := Lib.hid hal
        have HS := Lib.hid hsc
        clear hal hsc h4
        go_wp2_with (go_at_call 95; refine Gives.use (HA.out _) ?_; intro xs d)
        go_meet
        exact ⟨by rw [HS.out], _, _, rfl⟩
       ·have e4 : ((q.length : Int) == 4) = false := by simp; omega
        have hsc : scYes (q :: r1) = false := by simp [scYes, scriptB, h4]
        have HS := Lib.hid hsc
        clear hsc h4
        go_wp2_with fail
        go_meet
        exact ⟨by rw [HS.out], _, _, rfl⟩
     case rest =>
     obtain ⟨rfl, xs1, d1, rfl⟩ := hcut
     go_upto_if 67 with fail
     go_cut [5] (fun s5 wx => PartsV (w.heap.size + 1 + 1) C (scRest r) s5 ∧ ∃ xs d, wx = ((((w.alloc (.cells (row8 (zeros 10)) 60)).alloc (.cells (row8 (L ++ scOf r ++ zeros 3)) 60)).alloc (.cells C 9)).grow xs d))
     case first =>
      cases hsc : scYes r with
      | false =>
       have e1 : scRest r = r := by
        cases r with
        | nil => rfl
        | cons q r1 => unfold scRest; exact if_neg (by rw [show scriptB q = false from hsc]; decide)
       have e2 : scOf r = zeros 4 := by
        cases r with
        | nil => rfl
        | cons q r1 => unfold scOf; exact if_neg (by rw [show scriptB q = false from hsc]; decide)
       have E1 := Lib.hid e1
       have E2 := Lib.hid e2
       clear e1 e2 hsc
       go_wp2_with fail
       go_meet
       exact ⟨by rw [E1.out]; exact ⟨o, cap2, rfl, hc3, hc4, HC2.out⟩, xs1, d1, by rw [E2.out, List.append_assoc]; rfl⟩
      | true =>
       cases r with
       | nil => cases hsc
       | cons q r1 =>
       have hC0 : C[o]? = some (.string (bs q)) := HC2.out 0 q rfl
       have hz := bs_size q
       have hq : scriptB q = true := hsc
       have e1 : scRest (q :: r1) = r1 := by unfold scRest; exact if_pos hq
       have e2 : scOf (q :: r1) = title q := by unfold scOf; exact if_pos hq
       have h4 : q.length = 4 := by simp [scriptB] at hq; exact hq.1
       have E1 := Lib.hid e1
       have E2 := Lib.hid e2
       have H4 := Lib.hid h4
       clear e1 e2 hsc hq h4
       simp only [List.length_cons] at hc3 ⊢
       go_wp2_with fail
       go_loopw [8, 68] (fun _ i wr => ∃ (k : Nat) (xs : Array Obj) (d : Nat), k ≤ 4 ∧ i = .int .i64 k ∧ wr = ((((w.alloc (.cells (row8 (zeros 10)) 60)).alloc (.cells (row8 (L ++ padTo 4 ((q.map toLow).take k) ++ zeros 3)) 60)).alloc (.cells C 9)).grow xs d)) (fun _ i _ => 4 - (intOf i).toNat)
       case atStart => exact ⟨0, xs1, d1, by omega, rfl, by rw [List.take_zero, padTo_nil, List.append_assoc]; rfl⟩
       case round =>
        obtain ⟨k, xs, d, hk, rfl, rfl⟩ := hrel
        by_cases hlt : k < 4
        ·have hset := fill_set L (q.map toLow) (zeros 3) 4 k (by simp [H4.out]) (by simp [H4.out]; omega)
         have hlen : (L ++ padTo 4 ((q.map toLow).take k) ++ zeros 3).length = 10 := by
          rw [List.length_append, List.length_append, padTo_len (by simp; omega), HLL.out]; simp
         rw [byt_map _ _ _ (by rw [H4.out]; omega), HLL.out] at hset
         have hkl : 3 + k < (L ++ padTo 4 ((q.map toLow).take k) ++ zeros 3).length := by omega
         generalize L ++ padTo 4 ((q.map toLow).take k) ++ zeros 3 = tk at *
         have HSET := Lib.hid hset
         clear hset hlen
         have hk4 : (k : Int) < 4 := by omega
         have hki : (k : Int) < q.length := by rw [H4.out]; omega
         have hkn : k < q.length := by rw [H4.out]; omega
         go_wp2_with (go_at_call 97; refine Gives.use (lower_gives _ _) ?_; intro ys e)
         go_roundw
         case rel => exact ⟨k + 1, _, _, by omega, by go_num, by rw [HSET.out]⟩
         case measure => simp [intOf]; omega
        ·have : k = 4 := by omega
         subst this
         have hml : padTo 4 ((q.map toLow).take 4) = q.map toLow := by
          rw [List.take_of_length_le (by simp [H4.out])]; unfold padTo; simp [H4.out, zeros]
         rw [hml]
         have hset := title_set L q HLL.out H4.out
         have hlen : (L ++ q.map toLow ++ zeros 3).length = 10 := by simp [HLL.out, H4.out]
         generalize L ++ q.map toLow ++ zeros 3 = tk at *
         have HSET := Lib.hid hset
         clear hset hml
         by_cases hcap : cap2 = 1
         ·subst hcap
          have hr1 : r1 = [] := List.eq_nil_of_length_eq_zero (by omega)
          subst hr1
          go_wp2_with (go_at_call 98; refine Gives.use (upper_gives _ _) ?_; intro ys e)
          go_meet
          exact ⟨by rw [E1.out]; exact ⟨o, 0, rfl, Nat.le_refl _, Nat.zero_le _, fun i q hq => by simp at hq⟩, _, _, by rw [E2.out, HSET.out]⟩
         ·go_wp2_with (go_at_call 98; refine Gives.use (upper_gives _ _) ?_; intro ys e)
          go_meet
          exact ⟨by rw [E1.out]; exact ⟨o + 1, cap2 - 1, rfl, by omega, by omega, HC2.out.tail⟩, _, _, by rw [E2.out, HSET.out]⟩
     case rest =>
     obtain ⟨⟨o2, cap3, rfl, hc5, hc6, hC3⟩, xs2, d2, rfl⟩ := hcut
     have hpl : (L ++ scOf r).length = 7 := by rw [List.length_append, scOf_len, HLL.out]
     have hto : tagOpt s = if rgRest (scRest r) = [] then some (L ++ scOf r ++ rgOf (scRest r)) else none := by
      have e : tagParts (p :: r) = if langB p = true ∧ rgRest (scRest r) = [] then some (padTo 3 (p.map toLow) ++ scOf r ++ rgOf (scRest r)) else none := rfl
      rw [HT.out, e, HLL2.out]
      by_cases h : rgRest (scRest r) = []
      ·rw [if_pos h, if_pos ⟨HL.out, h⟩]
      ·rw [if_neg h, if_neg (fun x => h x.2)]
     clear HC2 hc3 hc4
     generalize scRest r = r2 at *
     generalize L ++ scOf r = T0 at *
     have HC3 := Lib.hid hC3
     have HTO := Lib.hid hto
     have HPL := Lib.hid hpl
     clear hC3 hto HT HLL2 HLL HL hpl
     go_upto_region 22 with fail
     go_cut [117] (fun s117 wx => s117 = .bool (rgYes r2) ∧ ∃ xs d, wx = ((((w.alloc (.cells (row8 (zeros 10)) 60)).alloc (.cells (row8 (T0 ++ zeros 3)) 60)).alloc (.cells C 9)).grow xs d))
     case first =>
      cases r2 with
      | nil =>
       go_wp2_with fail
       go_meet
       exact ⟨rfl, _, _, rfl⟩
      | cons q r3 =>
       have hC0 : C[o2]? = some (.string (bs q)) := HC3.out 0 q rfl
       have hz := bs_size q
       by_cases h2 : q.length = 2
       ·have e4 : ((q.length : Int) == 2) = true := by simp; omega
        have e5 : ((q.length : Int) == 3) = false := by simp; omega
        have hal := allLet_gives q (by unfold maxLen; omega)
        have hsc : rgYes (q :: r3) = q.all letB := by simp [rgYes, regionB, h2]
        generalize q.all letB = b at *
        have HA := Lib.hid hal
        have HS := Lib.hid hsc
        clear hal hsc h2
        cases b
        ·go_wp2_with (go_at_call 95; refine Gives.use (HA.out _) ?_; intro xs d)
         go_meet
         exact ⟨by rw [HS.out], _, _, rfl⟩
        ·go_wp2_with (go_at_call 95; refine Gives.use (HA.out _) ?_; intro xs d)
         go_meet
         exact ⟨by rw [HS.out], _, _, rfl⟩
       ·have e4 : ((q.length : Int) == 2) = false := by simp; omega
        by_cases h3 : q.length = 3
        ·have e5 : ((q.length : Int) == 3) = true := by simp; omega
         have hal := allDig_gives q (by unfold maxLen; omega)
         have hsc : rgYes (q :: r3) = q.all digB := by simp [rgYes, regionB, h3]
         generalize q.all digB = b at *
         have HA := Lib.hid hal
         have HS := Lib.hid hsc
         clear hal hsc h2 h3
         go_wp2_with (go_at_call 95; refine Gives.use (HA.out _) ?_; intro xs d)
         go_meet
         exact ⟨by rw [HS.out], _, _, rfl⟩
        ·have e5 : ((q.length : Int) == 3) = false := by simp; omega
         have hsc : rgYes (q :: r3) = false := by simp [rgYes, regionB, h2, h3]
         have HS := Lib.hid hsc
         clear hsc h2 h3
         go_wp2_with fail
         go_meet
         exact ⟨by rw [HS.out], _, _, rfl⟩
     case rest =>
     obtain ⟨rfl, xs3, d3, rfl⟩ := hcut
     go_upto_if 117 with fail
     go_cut [5] (fun s5 wx => PartsV (w.heap.size + 1 + 1) C (rgRest r2) s5 ∧ ∃ xs d, wx = ((((w.alloc (.cells (row8 (zeros 10)) 60)).alloc (.cells (row8 (T0 ++ rgOf r2)) 60)).alloc (.cells C 9)).grow xs d))
     case first =>
      cases hsc : rgYes r2 with
      | false =>
       have e1 : rgRest r2 = r2 := by
        cases r2 with
        | nil => rfl
        | cons q r1 => unfold rgRest; exact if_neg (by rw [show regionB q = false from hsc]; decide)
       have e2 : rgOf r2 = zeros 3 := by
        cases r2 with
        | nil => rfl
        | cons q r1 => unfold rgOf; exact if_neg (by rw [show regionB q = false from hsc]; decide)
       have E1 := Lib.hid e1
       have E2 := Lib.hid e2
       clear e1 e2 hsc
       go_wp2_with fail
       go_meet
       exact ⟨by rw [E1.out]; exact ⟨o2, cap3, rfl, hc5, hc6, HC3.out⟩, xs3, d3, by rw [E2.out]⟩
      | true =>
       cases r2 with
       | nil => cases hsc
       | cons q r1 =>
       have hC0 : C[o2]? = some (.string (bs q)) := HC3.out 0 q rfl
       have hz := bs_size q
       have hq : regionB q = true := hsc
       have e1 : rgRest (q :: r1) = r1 := by unfold rgRest; exact if_pos hq
       have e2 : rgOf (q :: r1) = padTo 3 (q.map toUpp) := by unfold rgOf; exact if_pos hq
       have h4 : q.length ≤ 3 := by simp [regionB] at hq; omega
       have E1 := Lib.hid e1
       have E2 := Lib.hid e2
       clear e1 e2 hsc hq
       simp only [List.length_cons] at hc5 ⊢
       go_wp2_with fail
       go_loopw [9, 122] (fun _ i wr => ∃ (k : Nat) (xs : Array Obj) (d : Nat), k ≤ q.length ∧ i = .int .i64 k ∧ wr = ((((w.alloc (.cells (row8 (zeros 10)) 60)).alloc (.cells (row8 (T0 ++ padTo 3 ((q.map toUpp).take k))) 60)).alloc (.cells C 9)).grow xs d)) (fun _ i _ => q.length - (intOf i).toNat)
       case atStart => exact ⟨0, xs3, d3, by omega, rfl, by rw [List.take_zero, padTo_nil]⟩
       case round =>
        obtain ⟨k, xs, d, hk, rfl, rfl⟩ := hrel
        by_cases hlt : k < q.length
        ·have hset := fill_end T0 (q.map toUpp) 3 k (by simp; omega) (by simpa using hlt)
         have hlen : (T0 ++ padTo 3 ((q.map toUpp).take k)).length = 10 := by
          rw [List.length_append, padTo_len (by simp; omega), HPL.out]
         rw [byt_map _ _ _ hlt, HPL.out] at hset
         have hkl : 7 + k < (T0 ++ padTo 3 ((q.map toUpp).take k)).length := by omega
         generalize T0 ++ padTo 3 ((q.map toUpp).take k) = tk at *
         have HSET := Lib.hid hset
         clear hset hlen
         have hk4 : (k : Int) < 3 := by omega
         have hki : (k : Int) < q.length := by omega
         go_wp2_with (go_at_call 98; refine Gives.use (upper_gives _ _) ?_; intro ys e)
         go_roundw
         case rel => exact ⟨k + 1, _, _, by omega, by go_num, by rw [HSET.out]⟩
         case measure => simp [intOf]; omega
        ·have : k = q.length := by omega
         subst this
         rw [List.take_of_length_le (by simp)]
         by_cases hcap : cap3 = 1
         ·subst hcap
          have hr1 : r1 = [] := List.eq_nil_of_length_eq_zero (by omega)
          subst hr1
          go_wp2_with fail
          go_meet
          exact ⟨by rw [E1.out]; exact ⟨o2, 0, rfl, Nat.le_refl _, Nat.zero_le _, fun i q hq => by simp at hq⟩, _, _, by rw [E2.out]⟩
         ·go_wp2_with fail
          go_meet
          refine ⟨?_, xs, d, ?_⟩
          ·rw [E1.out]
           refine ⟨o2 + 1, cap3 - 1, rfl, ?_, ?_, ?_⟩
           ·omega
           ·omega
           ·exact HC3.out.tail
          ·rw [E2.out]
     case rest =>
     obtain ⟨⟨o4, cap4, rfl, _, _, _⟩, xs4, d4, rfl⟩ := hcut
     have hTl : (T0 ++ rgOf r2).length = 10 := by rw [List.length_append, HPL.out, rgOf_len]
     have hto := HTO.out
     generalize T0 ++ rgOf r2 = T at *
     generalize rgRest r2 = r4 at *
     cases r4 with
     | nil =>
      have e1 : tagParse1 s = T := by unfold tagParse1; rw [hto, if_pos rfl]; rfl
      have e2 : tagParse2 s = 0 := by unfold tagParse2; rw [hto, if_pos rfl]; rfl
      have E1 := Lib.hid e1
      have E2 := Lib.hid e2
      clear e1 e2 hto HTO
      go_wp2_with fail
      exact bodyPost_ret (v := .tuple #[.agg (row8 T), .int .i64 0]) (results_two Tryz.results63 (ResIs.row rfl agg_tag (by simp [go_sem, hTl])) (by simp [ResIs])) rfl ⟨by rw [E1.out, E2.out], blw⟩
     | cons a r5 =>
      have e1 : tagParse1 s = zeros 10 := by unfold tagParse1; rw [hto, if_neg (by simp)]; rfl
      have e2 : tagParse2 s = 14 := by unfold tagParse2; rw [hto, if_neg (by simp)]
      have E1 := Lib.hid e1
      have E2 := Lib.hid e2
      clear e1 e2 hto HTO
      have hpos : decide ((0 : Int) < (a :: r5).length) = true := by simp
      go_wp2_with fail
      exact bodyPost_ret (v := .tuple #[.agg (row8 (zeros 10)), .int .i64 14]) (results_two Tryz.results63 (ResIs.row rfl agg_tag (by simp [go_sem])) (by simp [ResIs])) rfl ⟨by rw [E1.out, E2.out], blw⟩
  ·have he : tagOpt s = none := by
    rw [HT.out]; unfold tagParts; exact if_neg (fun h => hl h.1)
   have e1 : tagParse1 s = zeros 10 := by unfold tagParse1; rw [he]; rfl
   have e2 : tagParse2 s = 14 := by unfold tagParse2; rw [he]; rfl
   have E1 := Lib.hid e1
   have E2 := Lib.hid e2
   clear e1 e2 he
   by_cases h2 : (p.length : Int) < 2
   ·have d2 : decide ((p.length : Int) < 2) = true := decide_eq_true h2
    clear hl h2
    go_wp2_with fail
    exact bodyPost_ret (v := .tuple #[.agg (row8 (zeros 10)), .int .i64 14]) (results_two Tryz.results63 (ResIs.row rfl agg_tag (by simp [go_sem])) (by simp [ResIs])) rfl ⟨by rw [E1.out, E2.out], blw⟩
   ·have d2 : decide ((p.length : Int) < 2) = false := decide_eq_false h2
    by_cases h3 : (3 : Int) < p.length
    ·have d3 : decide ((3 : Int) < p.length) = true := decide_eq_true h3
     clear hl h2 h3
     go_wp2_with fail
     exact bodyPost_ret (v := .tuple #[.agg (row8 (zeros 10)), .int .i64 14]) (results_two Tryz.results63 (ResIs.row rfl agg_tag (by simp [go_sem])) (by simp [ResIs])) rfl ⟨by rw [E1.out, E2.out], blw⟩
    ·have d3 : decide ((3 : Int) < p.length) = false := decide_eq_false h3
     have ha : p.all letB = false := by
      rw [Bool.eq_false_iff]
      intro h
      apply hl
      unfold langB
      rw [h]; simp; omega
     have hal := allLet_gives p (by unfold maxLen; omega)
     rw [ha] at hal
     have HA := Lib.hid hal
     clear hl h2 h3 hal ha
     go_wp2_with (go_at_call 95; refine Gives.use (HA.out _) ?_; intro xs d)
     exact bodyPost_ret (v := .tuple #[.agg (row8 (zeros 10)), .int .i64 14]) (results_two Tryz.results63 (ResIs.row rfl agg_tag (by simp [go_sem])) (by simp [ResIs])) rfl ⟨by rw [E1.out, E2.out], blw⟩
end Go.Proofs.YtcedmfnlkelhkaaGreatDoor
namespace Go.Proofs.YtcedmfnlkelhkaaGreatDoor
set_option maxRecDepth 100000
open Go.RowKit

theorem tagPlain_len (t : List UInt8) (ht : t.length = 10) : (tagPlain t).length ≤ 1000000 := by
 unfold tagPlain
 split
 ·decide
 ·have h1 := partT_len (langT t)
  have h2 := partT_len (scriptT t)
  have h3 := partT_len (regionT t)
  have d2 := dashed_len (partT (scriptT t))
  have d3 := dashed_len (partT (regionT t))
  simp only [langT, scriptT, regionT, List.length_take, List.length_drop] at h1 h2 h3
  simp only [List.length_append]
  simp only [langT, scriptT, regionT] at d2 d3 ⊢
  omega
theorem tagOpt_len (s : List UInt8) : ∀ x, tagOpt s = some x → x.length = 10 := by
 intro x hx
 unfold tagOpt at hx
 split at hx
 ·cases hx; simp
 ·unfold tagParts at hx
  split at hx
  ·cases hx
  ·rename_i p r _
   split at hx
   ·rename_i h
    cases hx
    have hl := h.1
    simp only [langB, Bool.and_eq_true, decide_eq_true_eq] at hl
    rw [List.length_append, List.length_append, scOf_len, rgOf_len, padTo_len (by simp; omega)]
   ·cases hx
theorem tagParse1_len (s : List UInt8) : (tagParse1 s).length = 10 := by
 unfold tagParse1
 cases h : tagOpt s with
 | none => simp
 | some x => exact tagOpt_len s x h
theorem tagRight_gives (t : List UInt8) (ht : t.length = 10) (w : World) : Gives Tryz.prog 33 #[.agg (row8 t)] w (.bool (tagRight t)) := by
 have hp1 := tagParse1_len (tagPlain t)
 have hf := plain_gives t ht
 have hp := tagParse_gives (tagPlain t) (tagPlain_len t ht)
 have hr : tagRight t = (decide (tagParse2 (tagPlain t) = 0) && (tagParse1 (tagPlain t) == t)) := by
  unfold tagRight tagParse1 tagParse2
  cases tagOpt (tagPlain t) with
  | none => rfl
  | some x =>
   simp only [Option.isSome_some, if_true, decide_true, Bool.true_and, Option.getD_some]
   rw [Bool.eq_iff_iff]; simp
 rw [hr]
 generalize tagPlain t = fr at *
 generalize tagParse1 fr = p1 at *
 generalize tagParse2 fr = p2 at *
 have HF := Lib.hid hf
 have HP := Lib.hid hp
 clear hf hp hr
 unfold Gives
 go_enter Tryz.func33, Tryz.ntmps33
 go_wp2_with (first | (go_at_call 64; refine Gives.use (HF.out _) ?_; intro xs d) | (go_at_call 63; refine Gives.use (HP.out _) ?_; intro xs d))
 all_goals
  go_ret
  exact ⟨congrArg Ending.returned (congrArg Value.bool (by first | (simp [*]; done) | (rw [Bool.eq_iff_iff]; simp [*]; done) | (rw [Bool.eq_iff_iff]; simp [*]; omega) | (rw [Bool.eq_iff_iff]; simp; omega))), blw⟩
end Go.Proofs.YtcedmfnlkelhkaaGreatDoor
namespace Go.Proofs.YtcedmfnlkelhkaaGreatDoor
set_option maxRecDepth 100000
open Go.RowKit

theorem used_gives (k : Int) (w : World) : Gives Tryz.prog 146 #[.int .i64 k] w (.agg #[.int .i64 (usedAt k), .bool (usedName k), .bool (usedTag k)]) := by
 by_cases h : k = 2 ∨ k = 3 ∨ k = 4 ∨ k = 5 ∨ k = 6
 ·rcases h with rfl | rfl | rfl | rfl | rfl
  all_goals
   unfold Gives
   go_enter Tryz.func146, Tryz.ntmps146
   go_wp2_with fail
  ·exact bodyPost_ret (v := .agg #[.int .i64 16, .bool false, .bool false]) (by simp [results, Tryz.results146, go_sem]) rfl ⟨rfl, blw⟩
  ·exact bodyPost_ret (v := .agg #[.int .i64 0, .bool false, .bool true]) (by simp [results, Tryz.results146, go_sem]) rfl ⟨rfl, blw⟩
  ·exact bodyPost_ret (v := .agg #[.int .i64 4, .bool false, .bool false]) (by simp [results, Tryz.results146, go_sem]) rfl ⟨rfl, blw⟩
  ·exact bodyPost_ret (v := .agg #[.int .i64 4, .bool true, .bool false]) (by simp [results, Tryz.results146, go_sem]) rfl ⟨rfl, blw⟩
  ·exact bodyPost_ret (v := .agg #[.int .i64 4, .bool true, .bool true]) (by simp [results, Tryz.results146, go_sem]) rfl ⟨rfl, blw⟩
 ·have e : usedAt k = 0 ∧ usedName k = false ∧ usedTag k = false := by
   unfold usedAt usedName usedTag
   refine ⟨?_, by simp; omega, by simp; omega⟩
   rw [if_neg (by omega), if_neg (by omega)]
  rw [e.1, e.2.1, e.2.2]
  have h2 : (k == 2) = false := by simp; omega
  have h3 : (k == 3) = false := by simp; omega
  have h4 : (k == 4) = false := by simp; omega
  have h5 : (k == 5) = false := by simp; omega
  have h6 : (k == 6) = false := by simp; omega
  clear e h
  unfold Gives
  go_enter Tryz.func146, Tryz.ntmps146
  go_wp2_with fail
  exact bodyPost_ret (v := .agg #[.int .i64 0, .bool false, .bool false]) (by simp [results, Tryz.results146, go_sem]) rfl ⟨rfl, blw⟩
end Go.Proofs.YtcedmfnlkelhkaaGreatDoor
namespace Go.Proofs.YtcedmfnlkelhkaaGreatDoor
set_option maxRecDepth 100000
open Go.RowKit

@[go_sem] theorem lit25b (a b : UInt8) : (#[.int .u8 (a.toNat : Int), .int .u8 (b.toNat : Int), .int .u8 0, .int .u8 0, .int .u8 0, .int .u8 0, .int .u8 0, .int .u8 0, .int .u8 0, .int .u8 0, .int .u8 0, .int .u8 0, .int .u8 0, .int .u8 0, .int .u8 0, .int .u8 0, .int .u8 0, .int .u8 0, .int .u8 0, .int .u8 0, .int .u8 0, .int .u8 0, .int .u8 0, .int .u8 0, .int .u8 0] : Array Value) = row8 (((zeros 25).set 0 a).set 1 b) := rfl
@[go_sem] theorem row8_splice1 (l : List UInt8) (i : Nat) (b : UInt8) (h : i < l.length) : spliceA (row8 l) i #[.int .u8 (b.toNat : Int)] = row8 (l.set i b) := by
 rw [splice_one (by simpa using h), row8_set]
theorem wrap_byteOf (x : Int) : IntKind.u8.wrap x = ((byteOf x).toNat : Int) := by
 unfold byteOf
 have h1 : 0 ≤ x % 256 := by omega
 have h2 : x % 256 < 256 := by omega
 have h3 : IntKind.u8.wrap x = x % 256 := by
  unfold IntKind.wrap
  simp [IntKind.signed, IntKind.bits]
 rw [h3, UInt8.toNat_ofNat']
 omega
def keySteps (k p a : Int) (n t : List UInt8) (ua : Int) (un ut : Bool) : List UInt8 :=
 let b0 := ((zeros 25).set 0 (byteOf k)).set 1 (byteOf p)
 let b1 := if 0 < ua then b0.set 2 (byteOf a) else b0
 let b2 := if un = true then spl b1 3 n else b1
 if ut = true then spl b2 15 t else b2
theorem keySteps_eq (k p a : Int) (n t : List UInt8) (hn : n.length = 12) (ht : t.length = 10) : keySteps k p a n t (usedAt k) (usedName k) (usedTag k) = keyMade k p a n t := by
 unfold keySteps keyMade
 generalize usedName k = un
 generalize usedTag k = ut
 generalize usedAt k = ua
 match n, hn with
 | [a0, b, c, d, e, f, g, h, i, j, l, m], _ =>
  match t, ht with
  | [z0, z1, z2, z3, z4, z5, z6, z7, z8, z9], _ =>
   by_cases hu : 0 < ua
   ·cases un <;> cases ut <;> simp only [hu] <;> rfl
   ·cases un <;> cases ut <;> simp only [hu] <;> rfl
set_option maxRecDepth 100000 in
set_option maxHeartbeats 2000000 in
theorem keyOf_gives (k p a : Int) (n t : List UInt8) (hn : n.length = 12) (ht : t.length = 10) (w : World) :
  Gives Tryz.prog 126 #[.int .i64 k, .int .i64 p, .int .i64 a, .agg (row8 n), .agg (row8 t)] w (.tuple #[.agg (row8 (keyOf k p a n t)), .int .i64 (keyErr k p a n t)]) := by
 have hu := used_gives k
 have hnr := nameRight_gives n hn
 have htr := tagRight_gives t ht
 have hst := keySteps_eq k p a n t hn ht
 have hkw := wrap_byteOf k
 have hpw := wrap_byteOf p
 have haw := wrap_byteOf a
 have hko : keyOf k p a n t = if keyErr k p a n t = 0 then keySteps k p a n t (usedAt k) (usedName k) (usedTag k) else zeros 25 := by rw [hst]; rfl
 have he : ∀ e, keyErr k p a n t = e ↔ (if k < 1 ∨ 6 < k then 16
 else if p < 0 ∨ 4 ≤ p ∨ (0 < usedAt k ∧ (a < 0 ∨ usedAt k ≤ a)) then 5
 else if usedName k = true ∧ nameRight n = false then 15
 else if usedTag k = true ∧ (tagRight t = false ∨ t = zeros 10) then 14
 else 0) = e := by intro e; unfold keyErr; exact Iff.rfl
 generalize keyOf k p a n t = ko at *
 generalize keyErr k p a n t = er at *
 generalize usedAt k = ua at *
 generalize usedName k = un at *
 generalize usedTag k = ut at *
 generalize nameRight n = nr at *
 generalize tagRight t = tr at *
 have HU := Lib.hid hu
 have HNR := Lib.hid hnr
 have HTR := Lib.hid htr
 have HE := Lib.hid he
 have HKO := Lib.hid hko
 clear hu hnr htr he hst hko
 unfold Gives
 go_enter Tryz.func126, Tryz.ntmps126
 go_wp2_with (first | (go_at_call 146; refine Gives.use (HU.out _) ?_; intro xs0 d0) | (go_at_call 72; refine Gives.use (HNR.out _) ?_; intro xs1 d1) | (go_at_call 33; refine Gives.use (HTR.out _) ?_; intro xs2 d2))
 all_goals clear HU HNR HTR
 all_goals first
  | (refine bodyPost_ret (v := .tuple #[.agg (row8 (zeros 25)), .int .i64 16]) (results_two Tryz.results126 (ResIs.row rfl agg_key ?_) ?_) rfl ⟨?_, ?_⟩
     rotate_left
     ·simp [ResIs]; done
     ·have e1 : er = 16 := by
       refine (HE.out _).2 ?_
       clear HE HKO hkw hpw haw
       (repeat' split) <;> first | rfl | (exfalso; simp_all; done) | (exfalso; simp_all; omega)
      rw [HKO.out, e1]; rfl
     ·exact blw
     ·simp [go_sem]; done)
  | (refine bodyPost_ret (v := .tuple #[.agg (row8 (zeros 25)), .int .i64 5]) (results_two Tryz.results126 (ResIs.row rfl agg_key ?_) ?_) rfl ⟨?_, ?_⟩
     rotate_left
     ·simp [ResIs]; done
     ·have e1 : er = 5 := by
       refine (HE.out _).2 ?_
       clear HE HKO hkw hpw haw
       (repeat' split) <;> first | rfl | (exfalso; simp_all; done) | (exfalso; simp_all; omega)
      rw [HKO.out, e1]; rfl
     ·exact blw
     ·simp [go_sem]; done)
  | (refine bodyPost_ret (v := .tuple #[.agg (row8 (zeros 25)), .int .i64 15]) (results_two Tryz.results126 (ResIs.row rfl agg_key ?_) ?_) rfl ⟨?_, ?_⟩
     rotate_left
     ·simp [ResIs]; done
     ·have e1 : er = 15 := by
       refine (HE.out _).2 ?_
       clear HE HKO hkw hpw haw
       (repeat' split) <;> first | rfl | (exfalso; simp_all; done) | (exfalso; simp_all; omega)
      rw [HKO.out, e1]; rfl
     ·exact blw
     ·simp [go_sem]; done)
  | (refine bodyPost_ret (v := .tuple #[.agg (row8 (zeros 25)), .int .i64 14]) (results_two Tryz.results126 (ResIs.row rfl agg_key ?_) ?_) rfl ⟨?_, ?_⟩
     rotate_left
     ·simp [ResIs]; done
     ·have e1 : er = 14 := by
       refine (HE.out _).2 ?_
       clear HE HKO hkw hpw haw
       (repeat' split) <;> first | rfl | (exfalso; simp_all; done) | (exfalso; simp_all; omega)
      rw [HKO.out, e1]; rfl
     ·exact blw
     ·simp [go_sem]; done)
  | (refine bodyPost_ret (v := .tuple #[.agg (row8 (keySteps k p a n t ua un ut)), .int .i64 0]) (results_two Tryz.results126 (ResIs.row rfl agg_key ?_) ?_) rfl ⟨?_, ?_⟩
     rotate_left
     ·simp [ResIs]; done
     ·have e1 : er = 0 := by
       refine (HE.out _).2 ?_
       clear HE HKO hkw hpw haw
       (repeat' split) <;> first | rfl | (exfalso; simp_all; done) | (exfalso; simp_all; omega)
      rw [HKO.out, e1]; rfl
     ·exact blw
     ·first
       | (simp [go_sem, keySteps, *]; done)
       | (have hu0 : ¬ (0 < ua) := by omega
          simp [go_sem, keySteps, *]; done))
theorem keyMade_len (k p a : Int) (n t : List UInt8) (hn : n.length = 12) (ht : t.length = 10) : (keyMade k p a n t).length = 25 := by
 unfold keyMade
 simp only [List.length_append, List.length_cons, List.length_nil]
 split <;> split <;> simp [hn, ht]
theorem keyOf_len (k p a : Int) (n t : List UInt8) (hn : n.length = 12) (ht : t.length = 10) : (keyOf k p a n t).length = 25 := by
 unfold keyOf
 split
 ·exact keyMade_len k p a n t hn ht
 ·simp
end Go.Proofs.YtcedmfnlkelhkaaGreatDoor
namespace Go.Proofs.YtcedmfnlkelhkaaGreatDoor
set_option maxRecDepth 100000
open Go.RowKit

set_option maxRecDepth 100000 in
set_option maxHeartbeats 2000000 in
theorem keyRight_gives (k : List UInt8) (hk : k.length = 25) (w : World) : Gives Tryz.prog 132 #[.agg (row8 k)] w (.bool (keyRight k)) := by
 have hn : ((k.take 15).drop 3).length = 12 := by simp; omega
 have ht : (k.drop 15).length = 10 := by simp; omega
 have ho := keyOf_gives (byt k 0).toNat (byt k 1).toNat (byt k 2).toNat _ _ hn ht
 have hl := keyOf_len (byt k 0).toNat (byt k 1).toNat (byt k 2).toNat _ _ hn ht
 have e3 : kName k = (k.take 15).drop 3 := by unfold kName; rw [List.drop_take]
 unfold keyRight
 rw [e3]
 unfold kKind kProj kAt kTag
 generalize hko : keyOf ((byt k 0).toNat : Int) ((byt k 1).toNat : Int) ((byt k 2).toNat : Int) ((k.take 15).drop 3) (k.drop 15) = ko at ho hl ⊢
 generalize keyErr ((byt k 0).toNat : Int) ((byt k 1).toNat : Int) ((byt k 2).toNat : Int) ((k.take 15).drop 3) (k.drop 15) = er at ho ⊢
 have HO := Lib.hid ho
 clear ho hko
 have b0 : ((byt k 0).toNat : Int) < 256 := by have := (byt k 0).toNat_lt; omega
 have b1 : ((byt k 1).toNat : Int) < 256 := by have := (byt k 1).toNat_lt; omega
 have b2 : ((byt k 2).toNat : Int) < 256 := by have := (byt k 2).toNat_lt; omega
 unfold Gives
 go_enter Tryz.func132, Tryz.ntmps132
 go_wp2_with (go_at_call 126; refine Gives.use (HO.out _) ?_; intro xs d)
 all_goals
  go_ret
  refine ⟨?_, ?_⟩
  rotate_left
  ·exact blw
  ·exact congrArg Ending.returned (congrArg Value.bool (by first | (simp [*]; done) | (rw [Bool.eq_iff_iff]; simp [*]; done) | (rw [Bool.eq_iff_iff]; simp [*]; omega) | (rw [Bool.eq_iff_iff]; simp; omega)))
end Go.Proofs.YtcedmfnlkelhkaaGreatDoor
