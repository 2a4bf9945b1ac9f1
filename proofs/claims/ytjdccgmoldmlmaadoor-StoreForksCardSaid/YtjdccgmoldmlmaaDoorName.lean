/- Layer 4: names. -/
import Derived.Test.YtjdccgmoldmlmaaDoorKinds
import Derived.Lib.Bytealg
import Derived.Laws.IdiomStrings
import Derived.Laws.Externs
import Derived.Shelf.Bytes.SlIndexAt
namespace Go.Proofs.YtjdccgmoldmlmaaDoor
open Go.RowKit

theorem letter_gives (c : UInt8) (w : World) : Gives Tryd.prog 54 #[.int .u8 (c.toNat : Int)] w (.bool (lowB c)) := by
  unfold Gives
  by_cases h1 : (97 : Int) ≤ c.toNat <;> by_cases h2 : (c.toNat : Int) ≤ 122 <;>
  · go_enter Tryd.func54, Tryd.ntmps54
    go_wp2_with fail
    go_ret
    exact ⟨congrArg Ending.returned (congrArg Value.bool (by simp [lowB]; omega)), (by repeat (first | exact below_of_grow _ _ | exact Below.refl _ _ | exact below_more _ _ _ _ | (simp only [← Array.append_assoc]; first | exact below_more _ _ _ _ | exact below_same _ _ _ | exact Below.refl _ _) | exact below_same _ _ _ | (refine Below.alloc ?_ (by first | (simp; done) | (simp; omega)) _) | (refine Below.grow ?_ (by first | (simp; done) | (simp; omega)) _ _) | refine Below.drew ?_ | refine Below.drewN ?_ _ | (refine Below.putF ?_ (by first | (simp; done) | omega | (simp; omega)) _) | (refine Below.setCell ?_ (by first | (simp; done) | (simp; omega)) _)))⟩

theorem u8_eq (c : UInt8) (k : Nat) (hk : k < 256) : (c == UInt8.ofNat k) = ((c.toNat : Int) == (k : Int)) := by
  rw [Bool.eq_iff_iff, beq_iff_eq, beq_iff_eq]
  constructor
  · intro h; rw [h]; simp; omega
  · intro h
    apply UInt8.toNat_inj.1
    simp; omega
theorem sign_plain (c : UInt8) : signB c = (lowB c || (decide ((48 : Int) ≤ c.toNat) && decide ((c.toNat : Int) ≤ 57)) || ((c.toNat : Int) == 45) || ((c.toNat : Int) == 95) || ((c.toNat : Int) == 46)) := by
  have h45 := u8_eq c 45 (by omega)
  have h95 := u8_eq c 95 (by omega)
  have h46 := u8_eq c 46 (by omega)
  have e1 : decide (48 ≤ c.toNat) = decide ((48 : Int) ≤ c.toNat) := by rw [decide_eq_decide]; omega
  have e2 : decide (c.toNat ≤ 57) = decide ((c.toNat : Int) ≤ 57) := by rw [decide_eq_decide]; omega
  unfold signB digB
  rw [show (45 : UInt8) = UInt8.ofNat 45 from rfl, show (95 : UInt8) = UInt8.ofNat 95 from rfl, show (46 : UInt8) = UInt8.ofNat 46 from rfl, h45, h95, h46, e1, e2]
  rfl
theorem sign_gives (c : UInt8) (w : World) : Gives Tryd.prog 55 #[.int .u8 (c.toNat : Int)] w (.bool (signB c)) := by
  rw [sign_plain]
  have hl := letter_gives c
  generalize lowB c = b at *
  have HL := Lib.hid hl
  clear hl
  unfold Gives
  go_enter Tryd.func55, Tryd.ntmps55
  go_wp2_with (go_at_call 54; refine Gives.use (HL.out _) ?_; intro xs d)
  all_goals
    go_ret
    exact ⟨congrArg Ending.returned (congrArg Value.bool (by first | (simp [*]; done) | (rw [Bool.eq_iff_iff]; simp [*]; done) | (rw [Bool.eq_iff_iff]; simp [*]; omega) | (rw [Bool.eq_iff_iff]; simp; omega))), (by repeat (first | exact below_of_grow _ _ | exact Below.refl _ _ | exact below_more _ _ _ _ | (simp only [← Array.append_assoc]; first | exact below_more _ _ _ _ | exact below_same _ _ _ | exact Below.refl _ _) | exact below_same _ _ _ | (refine Below.alloc ?_ (by first | (simp; done) | (simp; omega)) _) | (refine Below.grow ?_ (by first | (simp; done) | (simp; omega)) _ _) | refine Below.drew ?_ | refine Below.drewN ?_ _ | (refine Below.putF ?_ (by first | (simp; done) | omega | (simp; omega)) _) | (refine Below.setCell ?_ (by first | (simp; done) | (simp; omega)) _)))⟩

set_option maxHeartbeats 800000 in
theorem nameParse_gives (s : List UInt8) (w : World) : Gives Tryd.prog 50 #[.string (bs s)] w (.tuple #[.agg (row8 (nameParse1 s)), .int .i64 (nameParse2 s)]) := by
  unfold Gives
  by_cases hok : 1 ≤ s.length ∧ s.length ≤ 12
  · obtain ⟨h1, h2⟩ := hok
    have hz := bs_size s
    have hz1 : decide ((s.length : Int) < 1) = false := by simp; omega
    have hz2 : decide (12 < (s.length : Int)) = false := by simp; omega
    have hl := letter_gives (byt s 0)
    generalize hb : lowB (byt s 0) = b at *
    have HB := Lib.hid hb
    have HL := Lib.hid hl
    clear hb hl
    cases b
    · go_enter Tryd.func50, Tryd.ntmps50
      go_wp2_with (go_at_call 54; refine Gives.use (HL.out _) ?_; intro xs d)
      have e : nameOk s = false := by simp [nameOk, HB.out]
      exact bodyPost_ret (v := .tuple #[.agg (row8 (zeros 12)), .int .i64 15]) (results_two Tryd.results50 (ResIs.row rfl agg_name (by simp [go_sem])) rfl) rfl ⟨by unfold nameParse1 nameParse2; rw [e]; rfl, (by repeat (first | exact below_of_grow _ _ | exact Below.refl _ _ | exact below_more _ _ _ _ | (simp only [← Array.append_assoc]; first | exact below_more _ _ _ _ | exact below_same _ _ _ | exact Below.refl _ _) | exact below_same _ _ _ | (refine Below.alloc ?_ (by first | (simp; done) | (simp; omega)) _) | (refine Below.grow ?_ (by first | (simp; done) | (simp; omega)) _ _) | refine Below.drew ?_ | refine Below.drewN ?_ _ | (refine Below.putF ?_ (by first | (simp; done) | omega | (simp; omega)) _) | (refine Below.setCell ?_ (by first | (simp; done) | (simp; omega)) _)))⟩
    · go_enter Tryd.func50, Tryd.ntmps50
      go_wp2_with (go_at_call 54; refine Gives.use (HL.out _) ?_; intro xs0 d0)
      go_loopw [5, 23] (fun _ i wr => ∃ (k : Nat) (xs : Array Obj) (d : Nat), k ≤ s.length ∧ i = .int .i64 k ∧ Hid ((s.take k).all signB = true) ∧ wr = (((w.alloc (.cells (row8 (zeros 12)) 32)).grow xs0 d0).alloc (.cells (row8 (padTo 12 (s.take k))) 32)).grow xs d) (fun _ i _ => s.length - (intOf i).toNat)
      case atStart => exact ⟨0, #[], _, by omega, rfl, Lib.hid (by simp), by rw [List.take_zero, padTo_nil]; exact World.grow_nil.symm⟩
      case round =>
        obtain ⟨k, xs, d, hk, rfl, hall, rfl⟩ := hrel
        by_cases hlt : k < s.length
        · have hps := padTo_set (n := 12) (by omega) hlt
          have hpl : (padTo 12 (s.take k)).length = 12 := padTo_len (by simp; omega)
          have htk : s.take (k + 1) = s.take k ++ [byt s k] := by rw [List.take_succ_eq_append_getElem hlt, byt_get hlt]
          have hk12 : (k : Int) < 12 := by omega
          have hkp : k < (padTo 12 (s.take k)).length := by omega
          generalize padTo 12 (s.take k) = p at *
          have HPL := Lib.hid hpl
          clear hpl
          have HP := Lib.hid hps
          have HT := Lib.hid htk
          clear hps htk
          have hs := sign_gives (byt s k)
          generalize hb : signB (byt s k) = b at *
          have HS := Lib.hid hs
          have HB2 := Lib.hid hb
          clear hs hb
          cases b
          · go_wp2_with (go_at_call 55; refine Gives.use (HS.out _) ?_; intro ys e)
            have e : nameOk s = false := by
              have h : s.all signB = false := by
                rw [Bool.eq_false_iff]
                intro h
                have := List.all_eq_true.1 h (s[k]'hlt) (List.getElem_mem hlt)
                rw [byt_get hlt, HB2.out] at this
                cases this
              simp [nameOk, h]
            exact bodyPost_ret (v := .tuple #[.agg (row8 (zeros 12)), .int .i64 15]) (results_two Tryd.results50 (ResIs.row rfl agg_name (by simp [go_sem])) rfl) rfl ⟨by unfold nameParse1 nameParse2; rw [e]; rfl, (by repeat (first | exact below_of_grow _ _ | exact Below.refl _ _ | exact below_more _ _ _ _ | (simp only [← Array.append_assoc]; first | exact below_more _ _ _ _ | exact below_same _ _ _ | exact Below.refl _ _) | exact below_same _ _ _ | (refine Below.alloc ?_ (by first | (simp; done) | (simp; omega)) _) | (refine Below.grow ?_ (by first | (simp; done) | (simp; omega)) _ _) | refine Below.drew ?_ | refine Below.drewN ?_ _ | (refine Below.putF ?_ (by first | (simp; done) | omega | (simp; omega)) _) | (refine Below.setCell ?_ (by first | (simp; done) | (simp; omega)) _)))⟩
          · go_wp2_with (go_at_call 55; refine Gives.use (HS.out _) ?_; intro ys e)
            go_roundw
            case rel =>
              refine ⟨k + 1, _, _, by omega, by go_num, Lib.hid ?_, by rw [HP.out]⟩
              rw [HT.out, List.all_append, hall.out]
              simp [HB2.out]
            case measure => simp [intOf]; omega
        · have : k = s.length := by omega
          subst this
          rw [List.take_length] at hall ⊢
          have e : nameOk s = true := by simp [nameOk, hall.out, HB.out, h1, h2]
          have hpl : (padTo 12 s).length = 12 := padTo_len (by omega)
          go_wp2_with fail
          exact bodyPost_ret (v := .tuple #[.agg (row8 (padTo 12 s)), .int .i64 0]) (results_two Tryd.results50 (ResIs.row rfl agg_name (by simp [go_sem, hpl])) rfl) rfl ⟨by unfold nameParse1 nameParse2; rw [e]; rfl, (by repeat (first | exact below_of_grow _ _ | exact Below.refl _ _ | exact below_more _ _ _ _ | (simp only [← Array.append_assoc]; first | exact below_more _ _ _ _ | exact below_same _ _ _ | exact Below.refl _ _) | exact below_same _ _ _ | (refine Below.alloc ?_ (by first | (simp; done) | (simp; omega)) _) | (refine Below.grow ?_ (by first | (simp; done) | (simp; omega)) _ _) | refine Below.drew ?_ | refine Below.drewN ?_ _ | (refine Below.putF ?_ (by first | (simp; done) | omega | (simp; omega)) _) | (refine Below.setCell ?_ (by first | (simp; done) | (simp; omega)) _)))⟩
  · have e : nameOk s = false := by
      unfold nameOk
      rw [Bool.eq_false_iff]
      intro h
      simp at h
      omega
    have E := Lib.hid e
    clear e
    by_cases h1 : 1 ≤ s.length
    · have hz1 : decide ((s.length : Int) < 1) = false := by simp; omega
      have hz2 : decide (12 < (s.length : Int)) = true := by simp; omega
      have hz := bs_size s
      go_enter Tryd.func50, Tryd.ntmps50
      go_wp2_with fail
      exact bodyPost_ret (v := .tuple #[.agg (row8 (zeros 12)), .int .i64 15]) (results_two Tryd.results50 (ResIs.row rfl agg_name (by simp [go_sem])) rfl) rfl ⟨by unfold nameParse1 nameParse2; rw [E.out]; rfl, (by repeat (first | exact below_of_grow _ _ | exact Below.refl _ _ | exact below_more _ _ _ _ | (simp only [← Array.append_assoc]; first | exact below_more _ _ _ _ | exact below_same _ _ _ | exact Below.refl _ _) | exact below_same _ _ _ | (refine Below.alloc ?_ (by first | (simp; done) | (simp; omega)) _) | (refine Below.grow ?_ (by first | (simp; done) | (simp; omega)) _ _) | refine Below.drew ?_ | refine Below.drewN ?_ _ | (refine Below.putF ?_ (by first | (simp; done) | omega | (simp; omega)) _) | (refine Below.setCell ?_ (by first | (simp; done) | (simp; omega)) _)))⟩
    · have hz1 : decide ((s.length : Int) < 1) = true := by simp; omega
      have hz := bs_size s
      go_enter Tryd.func50, Tryd.ntmps50
      go_wp2_with fail
      exact bodyPost_ret (v := .tuple #[.agg (row8 (zeros 12)), .int .i64 15]) (results_two Tryd.results50 (ResIs.row rfl agg_name (by simp [go_sem])) rfl) rfl ⟨by unfold nameParse1 nameParse2; rw [E.out]; rfl, (by repeat (first | exact below_of_grow _ _ | exact Below.refl _ _ | exact below_more _ _ _ _ | (simp only [← Array.append_assoc]; first | exact below_more _ _ _ _ | exact below_same _ _ _ | exact Below.refl _ _) | exact below_same _ _ _ | (refine Below.alloc ?_ (by first | (simp; done) | (simp; omega)) _) | (refine Below.grow ?_ (by first | (simp; done) | (simp; omega)) _ _) | refine Below.drew ?_ | refine Below.drewN ?_ _ | (refine Below.putF ?_ (by first | (simp; done) | omega | (simp; omega)) _) | (refine Below.setCell ?_ (by first | (simp; done) | (simp; omega)) _)))⟩

theorem index_cut (c : UInt8) : ∀ l : List UInt8, (Lib.indexByte l c = -1 ∧ l.takeWhile (· != c) = l) ∨ ∃ k : Nat, k < l.length ∧ Lib.indexByte l c = k ∧ l.takeWhile (· != c) = l.take k
  | [] => .inl ⟨rfl, rfl⟩
  | b :: l => by
    unfold Lib.indexByte
    by_cases h : b = c
    · exact .inr ⟨0, by simp, by simp [h], by simp [h]⟩
    · have h1 : (b == c) = false := by simpa using h
      have h2 : (b != c) = true := by simpa using h
      rw [h1, List.takeWhile_cons, h2]
      rcases index_cut c l with ⟨e1, e2⟩ | ⟨k, hk, e1, e2⟩
      · left; rw [e1, e2]; exact ⟨rfl, rfl⟩
      · right
        refine ⟨k + 1, by simp; omega, ?_, by rw [e2]; rfl⟩
        rw [e1]
        have : ((k : Int) == -1) = false := by simp
        rw [this]; rfl

theorem bytesOf_row (l : List UInt8) : Lib.bytesOf (l.map fun b => (b.toNat : Int)) = l := by
  unfold Lib.bytesOf
  rw [List.map_map]
  conv => rhs; rw [← List.map_id l]
  apply List.map_congr_left
  intro b _
  simp
/-- cells that hold bytes, from place o of block b on -/
def Row8 (w : World) (b o : Nat) (l : List UInt8) : Prop := ∀ j, j < l.length → w.cell? ⟨b, o + j, none⟩ = some (.int .u8 ((byt l j).toNat : Int))
set_option maxRecDepth 100000 in
theorem indexByte_calls (l : List UInt8) (b o cap : Nat) (w : World) (h : Row8 w b o l) :
    Calls Tryd.prog 56 #[.slice (some ⟨b, o, none⟩) l.length cap, .int .u8 0] w fun e w' => e = .returned (.int .i64 (Lib.indexByte l 0)) ∧ w' = w := by
  have hr := Lib.run_indexByteAt (P := Tryd.prog) w ⟨b, o, none⟩ l.length cap (l.map fun b => (b.toNat : Int)) (by simp) (fun i hi => by
    rw [addr_add, h i hi, List.getD_eq_getElem?_getD, List.getElem?_map, List.getElem?_eq_getElem hi, byt_get hi]
    rfl) 0
  rw [bytesOf_row] at hr
  go_enter Tryd.func56, Tryd.ntmps56
  go_wp2
  rw [run_callFunc_extern Tryd.func64 (by kernel_rfl) (by kernel_rfl) (by kernel_rfl) (e := Extern.BytealgIndexByte.indexByte) (by kernel_rfl), hr]
  simp only [Result.andThen]
  rw [Oper.upon_value]
  go_wp2
  go_ret
  exact ⟨rfl, rfl⟩
theorem row8_cells {w : World} {b o : Nat} {l : List UInt8} (h : Row8 w b o l) : ∀ j (hj : j < l.length), w.cell? (Addr.add ⟨b, o, none⟩ j) = some (.int .u8 (l[j].toNat : Int)) := by
  intro j hj
  rw [addr_add, h j hj, byt_get hj]
theorem Row8.take {w : World} {b o : Nat} {l : List UInt8} (h : Row8 w b o l) (k : Nat) : Row8 w b o (l.take k) := by
  intro j hj
  have hj2 : j < k ∧ j < l.length := by simpa [Nat.lt_min] using hj
  rw [h j hj2.2, ← byt_get hj, ← byt_get hj2.2]
  simp
theorem row8_new {w : World} (l : List UInt8) (t : TypeId) : Row8 (w.alloc (.cells (row8 l) t)) w.heap.size 0 l := by
  intro j hj
  have := row8_get l j hj
  rw [Nat.zero_add]
  simp [go_sem, this]

theorem front_gives (n : List UInt8) (hn : n.length = 12) (w : World) : Gives Tryd.prog 51 #[.agg (row8 n)] w (.string (bs (frontN n))) := by
  have hr := row8_new (w := w) n 32
  have hcl := indexByte_calls n w.heap.size 0 12 _ hr
  rw [hn] at hcl
  have HCL := Lib.hid hcl
  clear hcl
  have hfr : (Lib.indexByte n 0 = -1 ∧ frontN n = n) ∨ ∃ k : Nat, k < n.length ∧ Lib.indexByte n 0 = k ∧ frontN n = n.take k := index_cut 0 n
  generalize frontN n = fr at *
  generalize Lib.indexByte n 0 = at_ at *
  have HR := Lib.hid hr
  clear hr
  unfold Gives
  rcases hfr with ⟨rfl, rfl⟩ | ⟨k, hk, rfl, rfl⟩
  · have hcv := run_convert_bytes_back (P := Tryd.prog) (w.alloc (.cells (row8 fr) 32)) 97 9 5 ⟨w.heap.size, 0, none⟩ 12 fr Tryd.underlying97 Tryd.underlying5 Tryd.underlying9 (row8_cells HR.out)
    rw [hn] at hcv
    clear hn
    go_enter Tryd.func51, Tryd.ntmps51
    go_wp2_with (go_at_call 56; refine HCL.out.mono ?_; rintro e w' ⟨rfl, rfl⟩)
    go_ret
    exact ⟨rfl, (by repeat (first | exact below_of_grow _ _ | exact Below.refl _ _ | exact below_more _ _ _ _ | (simp only [← Array.append_assoc]; first | exact below_more _ _ _ _ | exact below_same _ _ _ | exact Below.refl _ _) | exact below_same _ _ _ | (refine Below.alloc ?_ (by first | (simp; done) | (simp; omega)) _) | (refine Below.grow ?_ (by first | (simp; done) | (simp; omega)) _ _) | refine Below.drew ?_ | refine Below.drewN ?_ _ | (refine Below.putF ?_ (by first | (simp; done) | omega | (simp; omega)) _) | (refine Below.setCell ?_ (by first | (simp; done) | (simp; omega)) _)))⟩
  · have hcv := run_convert_bytes_back (P := Tryd.prog) (w.alloc (.cells (row8 n) 32)) 97 9 5 ⟨w.heap.size, 0, none⟩ 12 (n.take k) Tryd.underlying97 Tryd.underlying5 Tryd.underlying9 (row8_cells (HR.out.take k))
    rw [show (n.take k).length = k by simp; omega] at hcv
    have hk12 : (k : Int) ≤ 12 := by omega
    have hk0 : (0 : Int) ≤ k := by omega
    clear hn
    go_enter Tryd.func51, Tryd.ntmps51
    go_wp2_with (go_at_call 56; refine HCL.out.mono ?_; rintro e w' ⟨rfl, rfl⟩)
    go_ret
    exact ⟨rfl, (by repeat (first | exact below_of_grow _ _ | exact Below.refl _ _ | exact below_more _ _ _ _ | (simp only [← Array.append_assoc]; first | exact below_more _ _ _ _ | exact below_same _ _ _ | exact Below.refl _ _) | exact below_same _ _ _ | (refine Below.alloc ?_ (by first | (simp; done) | (simp; omega)) _) | (refine Below.grow ?_ (by first | (simp; done) | (simp; omega)) _ _) | refine Below.drew ?_ | refine Below.drewN ?_ _ | (refine Below.putF ?_ (by first | (simp; done) | omega | (simp; omega)) _) | (refine Below.setCell ?_ (by first | (simp; done) | (simp; omega)) _)))⟩

theorem frontN_len (n : List UInt8) : (frontN n).length ≤ n.length := takeWhile_len _ n

theorem nameRight_gives (n : List UInt8) (hn : n.length = 12) (w : World) : Gives Tryd.prog 41 #[.agg (row8 n)] w (.bool (nameRight n)) := by
  have hp1 : (nameParse1 (frontN n)).length = 12 := by
    unfold nameParse1
    split
    · exact padTo_len (by have := frontN_len n; omega)
    · simp
  have hf := front_gives n hn
  have hp := nameParse_gives (frontN n)
  have hr : nameRight n = (decide (nameParse2 (frontN n) = 0) && (nameParse1 (frontN n) == n)) := by
    unfold nameRight nameParse1 nameParse2
    cases nameOk (frontN n) <;> simp
  rw [hr]
  generalize frontN n = fr at *
  generalize nameParse1 fr = p1 at *
  generalize nameParse2 fr = p2 at *
  have HF := Lib.hid hf
  have HP := Lib.hid hp
  clear hf hp hr
  unfold Gives
  go_enter Tryd.func41, Tryd.ntmps41
  go_wp2_with (first | (go_at_call 51; refine Gives.use (HF.out _) ?_; intro xs d) | (go_at_call 50; refine Gives.use (HP.out _) ?_; intro xs d))
  all_goals
    go_ret
    exact ⟨congrArg Ending.returned (congrArg Value.bool (by first | (simp [*]; done) | (rw [Bool.eq_iff_iff]; simp [*]; done) | (rw [Bool.eq_iff_iff]; simp [*]; omega) | (rw [Bool.eq_iff_iff]; simp; omega))), (by repeat (first | exact below_of_grow _ _ | exact Below.refl _ _ | exact below_more _ _ _ _ | (simp only [← Array.append_assoc]; first | exact below_more _ _ _ _ | exact below_same _ _ _ | exact Below.refl _ _) | exact below_same _ _ _ | (refine Below.alloc ?_ (by first | (simp; done) | (simp; omega)) _) | (refine Below.grow ?_ (by first | (simp; done) | (simp; omega)) _ _) | refine Below.drew ?_ | refine Below.drewN ?_ _ | (refine Below.putF ?_ (by first | (simp; done) | omega | (simp; omega)) _) | (refine Below.setCell ?_ (by first | (simp; done) | (simp; omega)) _)))⟩
end Go.Proofs.YtjdccgmoldmlmaaDoor
