/- Layer 6: the key of a text, walked. -/
import Derived.Test.YtpdohgadcepipaaDoorQby
import Derived.BigRegion
import Derived.Deep.CutBlock
import Derived.Deep.Cut
import Derived.Test.YtpdohgadcepipaaDoorQaq
import Derived.Handy
import Derived.Test.YtpdohgadcepipaaDoorQai
namespace Go.Proofs.YtpdohgadcepipaaDoor
set_option maxRecDepth 100000
open Go.RowKit

theorem parse1_len (s : List UInt8) : (nameParse1 s).length = 12 := by
  unfold nameParse1
  split
  · rename_i h
    unfold nameOk at h
    simp only [Bool.and_eq_true, decide_eq_true_eq] at h
    simp [padTo, zeros]; omega
  · simp [zeros]
set_option maxHeartbeats 40000000 in
theorem keyParse_walk (num : List UInt8 → Int) (s : List UInt8) (hs : s.length ≤ 1000) (w : World)
    (h1 : ∀ W, Below w.heap.size w W → Gives Tryd.prog 19 #[.string (bs ((splitOn 47 s).tail.headD []))] W (.int .i64 (num ((splitOn 47 s).tail.headD []))))
    (h2 : 0 < usedAt (kindL ((splitOn 47 s).headD [])) → ∀ W, Below w.heap.size w W → Gives Tryd.prog 19 #[.string (bs ((splitOn 47 s).tail.tail.headD []))] W (.int .i64 (num ((splitOn 47 s).tail.tail.headD [])))) :
    Gives Tryd.prog 11 #[.string (bs s)] w (.tuple #[.agg (row8 ((keyParse num s).getD (zeros 25))), .int .i64 (if (keyParse num s).isSome = true then 0 else 3)]) := by
  have hpl : ∀ p ∈ splitOn 47 s, p.length ≤ 1000 := fun p hp => Nat.le_trans (piece_len p hp) hs
  have hsp := split_calls 47 s (by omega)
  have hkp : keyParse num s = if (keyRead num (splitOn 47 s)).err = 0 ∧ keyText (keyRead num (splitOn 47 s)).key = s then some (keyRead num (splitOn 47 s)).key else none := rfl
  obtain ⟨kp, hkpe⟩ : ∃ kp, kp = keyParse num s := ⟨_, rfl⟩
  rw [← hkpe] at hkp ⊢
  clear hkpe
  obtain ⟨ev, hev⟩ : ∃ ev : Int, ev = if kp.isSome = true then 0 else 3 := ⟨_, rfl⟩
  rw [← hev]
  have HEV := Lib.hid hev
  clear hev
  have HKP := Lib.hid hkp
  clear hkp
  obtain ⟨p0, r0, hps⟩ : ∃ p0 r0, splitOn 47 s = p0 :: r0 := by
    cases h : splitOn 47 s with
    | nil => exact absurd h (splitOn_ne 47 s)
    | cons p r => exact ⟨p, r, rfl⟩
  rw [hps] at h1 h2 hpl HKP hsp
  simp only [List.tail_cons, List.headD_cons] at h1 h2
  obtain ⟨y1, hy1⟩ : ∃ y, y = r0.headD [] := ⟨_, rfl⟩
  obtain ⟨r1, hr1⟩ : ∃ r, r = r0.tail := ⟨_, rfl⟩
  obtain ⟨y2, hy2⟩ : ∃ y, y = r1.headD [] := ⟨_, rfl⟩
  obtain ⟨r2, hr2⟩ : ∃ r, r = (if 0 < usedAt (kindL p0) then r1.tail else r1) := ⟨_, rfl⟩
  obtain ⟨y3, hy3⟩ : ∃ y, y = r2.headD [] := ⟨_, rfl⟩
  obtain ⟨r3, hr3⟩ : ∃ r, r = (if usedName (kindL p0) = true then r2.tail else r2) := ⟨_, rfl⟩
  obtain ⟨y4, hy4⟩ : ∃ y, y = r3.headD [] := ⟨_, rfl⟩
  obtain ⟨r4, hr4⟩ : ∃ r, r = (if usedTag (kindL p0) = true then r3.tail else r3) := ⟨_, rfl⟩
  have hrd : keyRead num (p0 :: r0) = ⟨kindL p0, num y1, if 0 < usedAt (kindL p0) then num y2 else 0, if usedName (kindL p0) = true then nameParse1 y3 else zeros 12, if usedTag (kindL p0) = true then tagParse1 y4 else zeros 10⟩ := by
    rw [hy1, hy2, hy3, hy4, hr3, hr2, hr1]; rfl
  rw [← hr1, ← hy2] at h2
  rw [← hy1] at h1
  rw [hrd] at HKP
  have HY1 := Lib.hid hy1
  have HR1 := Lib.hid hr1
  have HY2 := Lib.hid hy2
  have HR2 := Lib.hid hr2
  have HY3 := Lib.hid hy3
  have HR3 := Lib.hid hr3
  have HY4 := Lib.hid hy4
  have HR4 := Lib.hid hr4
  clear hy1 hr1 hy2 hr2 hy3 hr3 hy4 hr4 hrd
  have HL := Lib.hid (show ∀ p ∈ r0, p.length ≤ 1000 from fun p hp => hpl p (List.mem_cons_of_mem _ hp))
  have hp0 := hpl p0 List.mem_cons_self
  have HSP := Lib.hid hsp
  have HU := Lib.hid (used_gives (kindL p0))
  have H1 := Lib.hid h1
  have H2 := Lib.hid h2
  clear hpl hsp h1 h2 hps
  unfold Gives
  go_enter Tryd.func11, Tryd.ntmps11
  go_wp2_with fail
  refine (HSP.out _).mono ?_
  rintro e W1 ⟨cap, C, rfl, hcl, hcm, hC, hW1⟩
  clear HSP
  rw [List.length_cons] at hcl ⊢
  have hlen : (((r0.length + 1 : Nat)) : Int) = r0.length + 1 := by omega
  go_upto_region 3 with fail
  refine wp_name ?_
  intro W hW
  obtain ⟨b2, hb2⟩ : ∃ b2, b2 = w.heap.size := ⟨_, rfl⟩
  have hsz : W.heap.size = b2 + 2 := by rw [hW, hb2]; simp
  have hh2 : W.heap[b2]? = some (.cells (row8 (zeros 25)) 33) := by rw [hW, hb2, heap_al, if_neg (by simp), heap_al, if_pos rfl]
  have hh3 : W.heap[b2 + 1]? = some (.cells C 9) := by rw [hW, hb2, heap_al, if_pos (by simp)]
  have hbel : Below w.heap.size w W := by rw [hW]; exact (by repeat (first | exact below_of_grow _ _ | exact Below.refl _ _ | exact below_more _ _ _ _ | (simp only [← Array.append_assoc]; first | exact below_more _ _ _ _ | exact below_same _ _ _ | exact Below.refl _ _) | exact below_same _ _ _ | (refine Below.alloc ?_ (by first | (simp; done) | (simp; omega)) _) | (refine Below.grow ?_ (by first | (simp; done) | (simp; omega)) _ _) | refine Below.drew ?_ | refine Below.drewN ?_ _ | (refine Below.putF ?_ (by first | (simp; done) | omega | (simp; omega)) _) | (refine Below.setCell ?_ (by first | (simp; done) | (simp; omega)) _)))
  have hsl := cells_str hh3 hC hcl (by unfold maxLen; omega)
  have hc0 : W.cell? ⟨b2 + 1, 0, none⟩ = some (.string (bs p0)) := ((cellsK hh3 0).1).trans (hC 0 p0 rfl)
  simp only [← hb2]
  have HW := Lib.hid (And.intro hsz (And.intro hh2 (And.intro hbel (And.intro hb2 hsl))))
  clear hW hW1 hb2 hsz hh2 hh3 hbel hsl hC
  have hl0 : (0 : Int) < ((r0.length + 1 : Nat) : Int) := by omega
  have hnn : (0 : Int) < r0.length + 1 := by omega
  go_upto_if 21 with fail
  go_cut [5] (fun v5 wx => v5 = .int .i64 (kindL p0) ∧ wx = W)
  case first =>
    by_cases hq : p0.length = 1
    · obtain ⟨c, rfl⟩ : ∃ c, p0 = [c] := by
        match p0, hq with
        | [c], _ => exact ⟨c, rfl⟩
      have hk : kindL [c] = 1 + Lib.indexByte lettersL c := rfl
      have hwk : wrap64 (1 + Lib.indexByte lettersL c) = 1 + Lib.indexByte lettersL c := byte256 (P := fun c => wrap64 (1 + Lib.indexByte lettersL c) = 1 + Lib.indexByte lettersL c) (by decide +kernel) c
      have HI := Lib.hid (fun w => Tryd.strings_Index_one ⟨#[112, 103, 108, 98, 115, 116]⟩ c w)
      have HK := Lib.hid hk
      clear hk HKP HU H1 H2 HW HL
      have hz : (bs [c]).size = 1 := rfl
      go_wp2_with fail
      refine (HI.out _).mono ?_
      rintro e W' ⟨rfl, rfl⟩
      go_wp2_with fail
      go_meet
      exact ⟨by rw [HK.out, ← hwk]; rfl, rfl⟩
    · have hk : kindL p0 = 0 := if_neg hq
      have HK := Lib.hid hk
      have hq' : (((bs p0).size : Int) == 1) = false := beq_eq_false_iff_ne.2 (by rw [bs_size]; omega)
      clear hk HKP HU H1 H2 HW HL
      go_wp2_with fail
      go_meet
      exact ⟨by rw [HK.out], rfl⟩
  case rest =>
    obtain ⟨rfl, rfl⟩ := hcut
    go_wp2_with fail
    refine Gives.use (HU.out _) ?_
    intro xs1 d1
    go_upto_region 6 with fail
    refine wp_name ?_
    intro W2 hW2
    obtain ⟨b6, hb6⟩ : ∃ b6, b6 = wc.heap.size + xs1.size := ⟨_, rfl⟩
    obtain ⟨hsz, hh2, hbel, hb2, hsl⟩ := HW.out
    have hs2 : W2.heap.size = b6 + 1 := by rw [hW2, hb6]; simp [World.grow_size]
    have hw2 : Below wc.heap.size wc W2 := by rw [hW2]; exact (by repeat (first | exact below_of_grow _ _ | exact Below.refl _ _ | exact below_more _ _ _ _ | (simp only [← Array.append_assoc]; first | exact below_more _ _ _ _ | exact below_same _ _ _ | exact Below.refl _ _) | exact below_same _ _ _ | (refine Below.alloc ?_ (by first | (simp; done) | (simp; omega)) _) | (refine Below.grow ?_ (by first | (simp; done) | (simp; omega)) _ _) | refine Below.drew ?_ | refine Below.drewN ?_ _ | (refine Below.putF ?_ (by first | (simp; done) | omega | (simp; omega)) _) | (refine Below.setCell ?_ (by first | (simp; done) | (simp; omega)) _)))
    have h26 : W2.heap[b6]? = some (.cells #[.int .i64 (usedAt (kindL p0)), .bool (usedName (kindL p0)), .bool (usedTag (kindL p0))] 45) := by
      rw [hW2, heap_al, if_pos (by rw [hb6, World.grow_size])]
    have h22 : W2.heap[b2]? = some (.cells (row8 (zeros 25)) 33) := (hw2.block b2 (by omega)).trans hh2
    have hbe2 : Below w.heap.size w W2 := hbel.trans (hw2.mono (by omega))
    have hsl2 : SlA W2 (b2 + 2) 1 (.slice (some ⟨b2 + 1, 0, none⟩) (r0.length + 1) cap) ((p0 :: r0).map strA) := hsl.keep fun b hb => hw2.block b (by omega)
    have hdr := SlA.drop (n := 1) (xs := (p0 :: r0).map strA) (by rw [List.length_map]; exact hsl2) (by simp)
    rw [List.length_map] at hdr
    simp only [List.length_cons, Nat.add_sub_cancel, List.map_cons, List.drop_succ_cons, List.drop_zero] at hdr
    have ho : b2 + 2 ≤ b6 := by omega
    simp only [← hb6]
    have hb26 : b2 < b6 := by omega
    have HS := Lib.hid (And.intro hs2 (And.intro h22 (And.intro h26 (And.intro hbe2 (And.intro hdr (And.intro ho hb2))))))
    clear hW2 hsz hh2 hbel hb2 hsl hs2 hw2 h26 h22 hbe2 hsl2 hdr ho hb6 HW hc0
    have hcl1 : 1 ≤ cap := by omega
    go_cut [7] (fun v7 wx => ∃ v, v7 = .pointer (some ⟨W2.heap.size, 0, none⟩) ∧ wx = W2.alloc (.cells #[v] 49) ∧ Hid (SlA W2 (b2 + 2) 1 v (r0.map strA)))
    case first =>
      clear HU H1 H2 HKP HL
      rcases (show cap = 1 ∨ ¬ cap = 1 by omega) with rfl | hc1
      · go_wp2_with fail
        go_meet
        refine ⟨_, rfl, rfl, Lib.hid ?_⟩
        have hd := HS.out.2.2.2.2.1
        simp only [if_true, Option.map_some, Nat.sub_self, Nat.mul_one] at hd
        rw [show r0.length = 0 by omega] at hd
        exact hd
      · go_wp2_with fail
        go_meet
        refine ⟨_, rfl, rfl, Lib.hid ?_⟩
        have hd := HS.out.2.2.2.2.1
        simp only [if_neg hc1, Option.map_some, Nat.mul_one] at hd
        exact hd
    case rest =>
      obtain ⟨v, rfl, rfl, HV⟩ := hcut
      obtain ⟨b7, hb7⟩ : ∃ b7, b7 = W2.heap.size := ⟨_, rfl⟩
      obtain ⟨hs2, h22, h26, hbe2, hdr0, ho, hb2⟩ := HS.out
      clear hdr0
      obtain ⟨W3, hW3⟩ : ∃ W3, W3 = W2.alloc (.cells #[v] 49) := ⟨_, rfl⟩
      have h7 : W3.heap[b7]? = some (.cells #[v] 49) := by rw [hW3, heap_al, if_pos hb7]
      have hsl3 : SlA W3 (b2 + 2) 1 v (r0.map strA) := by rw [hW3]; exact HV.out.alloc _ (by omega)
      have hw3 : Below W2.heap.size W2 W3 := by rw [hW3]; exact (by repeat (first | exact below_of_grow _ _ | exact Below.refl _ _ | exact below_more _ _ _ _ | (simp only [← Array.append_assoc]; first | exact below_more _ _ _ _ | exact below_same _ _ _ | exact Below.refl _ _) | exact below_same _ _ _ | (refine Below.alloc ?_ (by first | (simp; done) | (simp; omega)) _) | (refine Below.grow ?_ (by first | (simp; done) | (simp; omega)) _ _) | refine Below.drew ?_ | refine Below.drewN ?_ _ | (refine Below.putF ?_ (by first | (simp; done) | omega | (simp; omega)) _) | (refine Below.setCell ?_ (by first | (simp; done) | (simp; omega)) _)))
      have hs3 : W3.heap.size = b7 + 1 := by rw [hW3, hb7]; simp
      have h32 := (hw3.block b2 (by omega)).trans h22
      have h36 := (hw3.block b6 (by omega)).trans h26
      have hbe3 : Below w.heap.size w W3 := hbe2.trans (hw3.mono (by omega))
      have o7 : b6 < b7 := by omega
      rw [← hW3]
      simp only [← hb7]
      have hnx := next_calls r0 v b7 (b2 + 2) W3 h7 hsl3 (by omega)
      rw [← HY1.out, ← HR1.out] at hnx
      have HN := Lib.hid hnx
      clear hnx
      have HO := Lib.hid (And.intro h32 (And.intro h36 (And.intro hbe3 (And.intro hs3 (And.intro ho hb2)))))
      clear hW3 hb7 hs2 h22 h26 hbe2 ho hb2 h7 hsl3 hw3 hs3 h32 h36 hbe3 HS HV
      go_wp2_with fail
      refine HN.out.mono ?_
      rintro e W4 ⟨rfl, v', h7', hs', hbt⟩
      obtain ⟨h32, h36, hbe3, hs3, ho, hb2⟩ := HO.out
      have hbe4 : Below w.heap.size w W4 := hbe3.trans (hbt.below (by intro b hb; simp at hb; omega) (by omega))
      have h42 := (hbt.same b2 (by omega) (by simp; omega)).trans h32
      have h46 := (hbt.same b6 (by omega) (by simp; omega)).trans h36
      have HN1 := Lib.hid (H1.out W4 hbe4)
      have HO2 := Lib.hid (And.intro h42 (And.intro h46 (And.intro hbe4 (And.intro (Nat.le_trans (Nat.le_of_eq hs3.symm) hbt.size) (And.intro ho (And.intro hb2 (And.intro h7' hs')))))))
      clear HN HO h32 h36 hbe3 hs3 ho hb2 hbe4 h42 h46 h7' hs' hbt H1
      go_wp2_with fail
      refine Gives.use HN1.out ?_
      intro xs3 d3
      go_upto_region 11 with fail
      refine wp_name ?_
      intro W5 hW5
      obtain ⟨b11, hb11⟩ : ∃ b11, b11 = W4.heap.size + xs3.size := ⟨_, rfl⟩
      obtain ⟨h42, h46, hbe4, hs4, ho, hb2, h7', hs'⟩ := HO2.out
      have hw5 : Below W4.heap.size W4 W5 := by rw [hW5]; exact (by repeat (first | exact below_of_grow _ _ | exact Below.refl _ _ | exact below_more _ _ _ _ | (simp only [← Array.append_assoc]; first | exact below_more _ _ _ _ | exact below_same _ _ _ | exact Below.refl _ _) | exact below_same _ _ _ | (refine Below.alloc ?_ (by first | (simp; done) | (simp; omega)) _) | (refine Below.grow ?_ (by first | (simp; done) | (simp; omega)) _ _) | refine Below.drew ?_ | refine Below.drewN ?_ _ | (refine Below.putF ?_ (by first | (simp; done) | omega | (simp; omega)) _) | (refine Below.setCell ?_ (by first | (simp; done) | (simp; omega)) _)))
      have hs5 : W5.heap.size = b11 + 2 := by rw [hW5, hb11]; simp [World.grow_size]
      have st : PSt #[.int .i64 (usedAt (kindL p0)), .bool (usedName (kindL p0)), .bool (usedTag (kindL p0))] w b2 b6 b7 b11 (b11 + 1) (b2 + 2) r1 (zeros 12) (zeros 10) W5 := by
        refine ⟨(hw5.block b2 (by omega)).trans h42, (hw5.block b6 (by omega)).trans h46, ⟨v', (hw5.block b7 (by omega)).trans h7', hs'.keep fun b hb => hw5.block b (by omega)⟩, ?_, ?_, hbe4.trans (hw5.mono (by omega)), ⟨by omega, hb26, o7, by omega, by omega, by omega, by omega⟩, by simp [zeros], by simp [zeros]⟩
        · rw [hW5, hb11, heap_al, if_neg (by simp [World.grow_size]), heap_al, if_pos (by simp [World.grow_size])]
        · rw [hW5, hb11, heap_al, if_pos (by simp [World.grow_size])]
      simp only [← hb11]
      obtain ⟨b12, hb12⟩ : ∃ b12, b12 = b11 + 1 := ⟨_, rfl⟩
      rw [← hb12] at st
      simp only [← hb12]
      clear hb12 hb11 h42 h46 hbe4 hs4 ho hb2 h7' hs' hw5 hs5 hW5 HO2 HN1
      have hu6 := (cellsK st.h6 0).1
      have hu7 := (cellsK st.h6 1).1
      have hu8 := (cellsK st.h6 2).1
      have hlt6 : b6 < W5.heap.size := by have := st.o; omega
      generalize hB : b2 + 2 = BB at st
      generalize hua : usedAt (kindL p0) = ua at *
      generalize hun : usedName (kindL p0) = un at *
      generalize hut : usedTag (kindL p0) = ut at *
      have ST := Lib.hid st
      have HG := Lib.hid (And.intro hua (And.intro hun hut))
      clear st hB hua hun hut HU
      obtain ⟨av, hav⟩ : ∃ a, a = if 0 < ua then num y2 else 0 := ⟨_, rfl⟩
      obtain ⟨nv, hnv⟩ : ∃ a, a = if un = true then nameParse1 y3 else zeros 12 := ⟨_, rfl⟩
      obtain ⟨tv, htv⟩ : ∃ a, a = if ut = true then tagParse1 y4 else zeros 10 := ⟨_, rfl⟩
      rw [← hav, ← hnv, ← htv] at HKP
      have HAV := Lib.hid hav
      have HNV := Lib.hid hnv
      have HTV := Lib.hid htv
      have hl4 : y4.length ≤ 1000000 := by
        have m1 : ∀ p ∈ r1, p.length ≤ 1000 := fun p hp => HL.out p (by rw [HR1.out] at hp; exact List.mem_of_mem_tail hp)
        have m2 : ∀ p ∈ r2, p.length ≤ 1000 := fun p hp => by
          rw [HR2.out] at hp
          split at hp
          · exact m1 p (List.mem_of_mem_tail hp)
          · exact m1 p hp
        have m3 : ∀ p ∈ r3, p.length ≤ 1000 := fun p hp => by
          rw [HR3.out] at hp
          split at hp
          · exact m2 p (List.mem_of_mem_tail hp)
          · exact m2 p hp
        have := head_len m3
        rw [← HY4.out] at this; omega
      have HL4 := Lib.hid hl4
      clear hl4
      clear hav hnv htv
      go_upto_if 37 with fail
      go_cut [10] (fun v10 wx => v10 = .int .i64 av ∧ Hid (PSt #[.int .i64 ua, .bool un, .bool ut] w b2 b6 b7 b11 b12 BB r2 (zeros 12) (zeros 10) wx))
      case first =>
        rcases (show 0 < ua ∨ ¬ 0 < ua by omega) with hu | hu
        · have hr2 := HR2.out
          rw [if_pos hu] at hr2
          obtain ⟨v1, g7, gs⟩ := ST.out.h7
          have hnx := next_calls r1 v1 b7 BB W5 g7 gs ST.out.o.2.2.2.2.2.2
          rw [← HY2.out, ← hr2] at hnx
          have HN := Lib.hid hnx
          have HQ2 := Lib.hid hr2
          clear hnx g7 gs hr2
          have HN2 := Lib.hid (H2.out hu)
          go_wp2_with fail
          refine HN.out.mono ?_
          rintro e W6 ⟨rfl, v6, h67, hs6, hbt6⟩
          have hst := ST.out.next h67 (by rw [← HQ2.out]; exact hs6) hbt6
          have HN3 := Lib.hid (HN2.out W6 hst.bel)
          have ST2 := Lib.hid hst
          clear h67 hs6 hbt6 hst
          go_wp2_with fail
          refine Gives.use HN3.out ?_
          intro xs6 d6
          go_wp2_with fail
          go_meet
          refine ⟨by rw [HAV.out, if_pos hu], Lib.hid ?_⟩
          have := ST2.out.keep (below_of_grow xs6 d6)
          rw [← HQ2.out] at this
          exact this
        · have hr2 := HR2.out
          rw [if_neg hu] at hr2
          have HQ2 := Lib.hid hr2
          clear hr2
          go_wp2_with fail
          go_meet
          exact ⟨by rw [HAV.out, if_neg (by omega)], Lib.hid (by rw [HQ2.out]; exact ST.out)⟩
      case rest =>
        obtain ⟨rfl, ST2⟩ := hcut
        clear hu6 hu7 hu8 hlt6 ST HR2 HAV H2
        obtain ⟨W7, hW7⟩ : ∃ W7, W7 = wc := ⟨_, rfl⟩
        rw [← hW7] at ST2 ⊢
        clear hW7
        have hu7 := (cellsK ST2.out.h6 1).1
        have hlt6 : b6 < W7.heap.size := by have := ST2.out.o; omega
        go_upto_if 42 with fail
        go_cut [11] (fun v11 wx => v11 = .pointer (some ⟨b11, 0, none⟩) ∧ Hid (PSt #[.int .i64 ua, .bool un, .bool ut] w b2 b6 b7 b11 b12 BB r3 nv (zeros 10) wx))
        case first =>
          cases un with
          | true =>
            have hr3 := HR3.out
            rw [if_pos rfl] at hr3
            obtain ⟨v1, g7, gs⟩ := ST2.out.h7
            have hnx := next_calls r2 v1 b7 BB W7 g7 gs ST2.out.o.2.2.2.2.2.2
            rw [← HY3.out, ← hr3] at hnx
            have HN := Lib.hid hnx
            have HQ2 := Lib.hid hr3
            clear hnx g7 gs hr3
            have HN2 := Lib.hid (nameParse_gives y3)
            have HNP := Lib.hid (show nv = nameParse1 y3 from by rw [HNV.out, if_pos rfl])
            have hnl := parse1_len y3
            obtain ⟨np, hnp⟩ : ∃ np, np = nameParse1 y3 := ⟨_, rfl⟩
            rw [← hnp] at HN2 HNP hnl
            clear hnp
            go_wp2_with fail
            refine HN.out.mono ?_
            rintro e W8 ⟨rfl, v6, h67, hs6, hbt6⟩
            have hst := ST2.out.next h67 (by rw [← HQ2.out]; exact hs6) hbt6
            have ST3 := Lib.hid hst
            clear h67 hs6 hbt6 hst HN
            go_wp2_with fail
            refine Gives.use (HN2.out _) ?_
            intro xs6 d6
            have h11 : ((W8.grow xs6 d6).there? b11 0 12) = true := by
              have := (ST3.out.keep (below_of_grow xs6 d6)).h11
              simp [World.there?, this, ST3.out.hn]
            go_wp2_with fail
            go_meet
            refine ⟨rfl, Lib.hid ?_⟩
            have h := (ST3.out.keep (below_of_grow xs6 d6)).name (m := np) hnl
            rw [← HQ2.out, ← HNP.out] at h
            rw [← HNP.out]
            exact h
          | false =>
            have hr3 := HR3.out
            rw [if_neg (by decide)] at hr3
            have HQ2 := Lib.hid hr3
            clear hr3
            go_wp2_with fail
            go_meet
            exact ⟨rfl, Lib.hid (by rw [HQ2.out, HNV.out, if_neg (by decide)]; exact ST2.out)⟩
        case rest =>
          obtain ⟨rfl, ST3⟩ := hcut
          clear hu7 hlt6 ST2 HR3 HNV
          obtain ⟨W9, hW9⟩ : ∃ W9, W9 = wc := ⟨_, rfl⟩
          rw [← hW9] at ST3 ⊢
          clear hW9
          have hu8 := (cellsK ST3.out.h6 2).1
          have hlt6 : b6 < W9.heap.size := by have := ST3.out.o; omega
          go_upto_if 50 with fail
          go_cut [12] (fun v12 wx => v12 = .pointer (some ⟨b12, 0, none⟩) ∧ Hid (PSt #[.int .i64 ua, .bool un, .bool ut] w b2 b6 b7 b11 b12 BB r4 nv tv wx))
          case first =>
            cases ut with
            | true =>
              obtain ⟨v1, g7, gs⟩ := ST3.out.h7
              have hnx := next_calls r3 v1 b7 BB W9 g7 gs ST3.out.o.2.2.2.2.2.2
              have hr4 := HR4.out
              rw [if_pos rfl] at hr4
              rw [← HY4.out, ← hr4] at hnx
              have HQ2 := Lib.hid hr4
              have HN := Lib.hid hnx
              clear hnx g7 gs hr4
              have HN2 := Lib.hid (tagParse_gives y4 HL4.out)
              have HNP := Lib.hid (show tv = tagParse1 y4 from by rw [HTV.out, if_pos rfl])
              have hnl := tagParse1_len y4
              obtain ⟨np, hnp⟩ : ∃ np, np = tagParse1 y4 := ⟨_, rfl⟩
              rw [← hnp] at HN2 HNP hnl
              clear hnp
              go_wp2_with fail
              refine HN.out.mono ?_
              rintro e W8 ⟨rfl, v6, h67, hs6, hbt6⟩
              have hst := ST3.out.next h67 (by rw [← HQ2.out]; exact hs6) hbt6
              have ST4 := Lib.hid hst
              clear h67 hs6 hbt6 hst HN
              go_wp2_with fail
              refine Gives.use (HN2.out _) ?_
              intro xs6 d6
              have h12 : ((W8.grow xs6 d6).there? b12 0 10) = true := by
                have := (ST4.out.keep (below_of_grow xs6 d6)).h12
                simp [World.there?, this, ST4.out.ht]
              go_wp2_with fail
              go_meet
              refine ⟨rfl, Lib.hid ?_⟩
              have h := (ST4.out.keep (below_of_grow xs6 d6)).tag (m := np) hnl
              rw [← HQ2.out, ← HNP.out] at h
              rw [← HNP.out]
              exact h
            | false =>
              have HNP := Lib.hid (show tv = zeros 10 from by rw [HTV.out, if_neg (by decide)])
              have HQ2 := Lib.hid (show r4 = r3 from by rw [HR4.out, if_neg (by decide)])
              go_wp2_with fail
              go_meet
              exact ⟨rfl, Lib.hid (by rw [HNP.out, HQ2.out]; exact ST3.out)⟩
          case rest =>
            obtain ⟨rfl, ST4⟩ := hcut
            clear hu8 hlt6 ST3 HTV
            obtain ⟨WA, hWA⟩ : ∃ WA, WA = wc := ⟨_, rfl⟩
            rw [← hWA] at ST4 ⊢
            clear hWA
            have hn12 := ST4.out.hn
            have ht10 := ST4.out.ht
            have hlt11 : b11 < WA.heap.size := by have := ST4.out.o; omega
            have hlt12 : b12 < WA.heap.size := by have := ST4.out.o; omega
            have hlt2 : b2 < WA.heap.size := by have := ST4.out.o; omega
            have c11 := cut_heap ST4.out.h11 (sz := 12) (by simp [hn12])
            have c12 := cut_heap ST4.out.h12 (sz := 10) (by simp [ht10])
            have hko : KRead.key ⟨kindL p0, num y1, av, nv, tv⟩ = keyOf (kindL p0) (num y1) av nv tv := rfl
            have hke : KRead.err ⟨kindL p0, num y1, av, nv, tv⟩ = keyErr (kindL p0) (num y1) av nv tv := rfl
            rw [hko, hke] at HKP
            have hkl := keyOf_len (kindL p0) (num y1) av nv tv hn12 ht10
            have hof := keyOf_gives (kindL p0) (num y1) av nv tv hn12 ht10
            obtain ⟨ko, hkoe⟩ : ∃ ko, ko = keyOf (kindL p0) (num y1) av nv tv := ⟨_, rfl⟩
            obtain ⟨ke, hkee⟩ : ∃ ke, ke = keyErr (kindL p0) (num y1) av nv tv := ⟨_, rfl⟩
            rw [← hkoe, ← hkee] at HKP hof
            rw [← hkoe] at hkl
            have HOF := Lib.hid hof
            have HTX := Lib.hid (keyText_gives ko hkl)
            clear hof hkoe hkee hko hke
            go_wp2_with fail
            refine Gives.use (HOF.out _) ?_
            intro xs7 d7
            have hth2 : WA.there? b2 0 25 = true := by simp [World.there?, ST4.out.h2, zeros]
            have hwb := ST4.out.o.1
            have hfin : ∀ (W' : World) (y : List UInt8), Below WA.heap.size WA W' → y.length = 25 → (W'.lay b2 0 (row8 y)).cut? b2 0 25 = some (row8 y) ∧ Below w.heap.size w (W'.lay b2 0 (row8 y)) ∧ W'.there? b2 0 25 = true := fun W' y hb hy => by
              have h5 := ST4.out.keep hb
              refine ⟨cut_heap (lay_set h5.h2 (by simp [hy, zeros])) (by simp [hy]), h5.bel.lay hwb, by simp [World.there?, h5.h2, zeros]⟩
            have HF := Lib.hid hfin
            clear hfin hwb
            go_upto_region 18 with fail
            obtain ⟨b13, hb13⟩ : ∃ b13, b13 = WA.heap.size + xs7.size := ⟨_, rfl⟩
            obtain ⟨WB, hWB⟩ : ∃ WB, WB = (WA.grow xs7 d7).alloc (.cells (row8 ko) 33) := ⟨_, rfl⟩
            have hbb : Below WA.heap.size WA WB := by rw [hWB]; exact (by repeat (first | exact below_of_grow _ _ | exact Below.refl _ _ | exact below_more _ _ _ _ | (simp only [← Array.append_assoc]; first | exact below_more _ _ _ _ | exact below_same _ _ _ | exact Below.refl _ _) | exact below_same _ _ _ | (refine Below.alloc ?_ (by first | (simp; done) | (simp; omega)) _) | (refine Below.grow ?_ (by first | (simp; done) | (simp; omega)) _ _) | refine Below.drew ?_ | refine Below.drewN ?_ _ | (refine Below.putF ?_ (by first | (simp; done) | omega | (simp; omega)) _) | (refine Below.setCell ?_ (by first | (simp; done) | (simp; omega)) _)))
            have h13 : WB.heap[b13]? = some (.cells (row8 ko) 33) := by rw [hWB, heap_al, if_pos (by rw [hb13, World.grow_size])]
            have c13 := cut_heap h13 (sz := 25) (by simp [hkl])
            have l13 : b13 < WB.heap.size := (Array.getElem?_eq_some_iff.1 h13).1
            have l2B : b2 < WB.heap.size := Nat.lt_of_lt_of_le hlt2 hbb.size
            rw [← hWB]
            simp only [← hb13]
            have HBB := Lib.hid hbb
            clear hWB hb13 hbb h13 hlt2 hth2 hlt11 hlt12 c11 c12 HOF
            rcases (show ke = 0 ∨ ¬ ke = 0 by omega) with hk0 | hk0
            · subst hk0
              by_cases htx : keyText ko = s
              · have hkp := HKP.out
                rw [if_pos ⟨rfl, htx⟩] at hkp
                have hq : (keyText ko == s) = true := by rw [htx]; simp
                have HKP2 := Lib.hid hkp
                clear HKP hkp htx
                go_wp2_with fail
                refine Gives.use (HTX.out _) ?_
                intro xs8 d8
                go_upto_region 20 with fail
                have hff := HF.out (WB.grow xs8 d8) ko (HBB.out.grow HBB.out.size _ _) hkl
                have hth := hff.2.2
                have c14 : (WB.grow xs8 d8).cut? b13 0 25 = some (row8 ko) := (cut_of_heap (World.grow_heap _ _ _ l13) 0 25).trans c13
                have HFF := Lib.hid hff
                clear hff
                obtain ⟨WC, hWC⟩ : ∃ WC, WC = WB.grow xs8 d8 := ⟨_, rfl⟩
                rw [← hWC] at hth c14 HFF ⊢
                clear hWC hq
                go_wp21
                refine bodyPost_ret (v := .tuple #[.agg (row8 ko), .int .i64 0]) (results_two Tryd.results11 (ResIs.row rfl agg_key ?_) ?_) rfl ⟨?_, ?_⟩
                · exact HFF.out.1
                · rfl
                · rw [HEV.out, HKP2.out]; rfl
                · exact HFF.out.2.1
              · have hkp := HKP.out
                rw [if_neg (fun h => htx h.2)] at hkp
                have hq : (keyText ko == s) = false := beq_eq_false_iff_ne.2 htx
                have HKP2 := Lib.hid hkp
                clear HKP hkp htx
                go_wp2_with fail
                refine Gives.use (HTX.out _) ?_
                intro xs8 d8
                go_upto_region 19 with fail
                have hff := HF.out (WB.grow xs8 d8) (zeros 25) (HBB.out.grow HBB.out.size _ _) (by simp [zeros])
                have hth := hff.2.2
                have HFF := Lib.hid hff
                clear hff
                obtain ⟨WC, hWC⟩ : ∃ WC, WC = WB.grow xs8 d8 := ⟨_, rfl⟩
                rw [← hWC] at hth HFF ⊢
                clear hWC hq
                go_wp21
                refine bodyPost_ret (v := .tuple #[.agg (row8 (zeros 25)), .int .i64 3]) (results_two Tryd.results11 (ResIs.row rfl agg_key ?_) ?_) rfl ⟨?_, ?_⟩
                · exact HFF.out.1
                · rfl
                · rw [HEV.out, HKP2.out]; rfl
                · exact HFF.out.2.1
            · have hkp := HKP.out
              rw [if_neg (fun h => hk0 h.1)] at hkp
              have hq : (ke == 0) = false := beq_eq_false_iff_ne.2 hk0
              have hq2 : (ke != 0) = true := by simpa using hk0
              have HKP2 := Lib.hid hkp
              clear HKP hkp hk0
              go_upto_region 19 with fail
              have hff := HF.out WB (zeros 25) HBB.out (by simp [zeros])
              have hth := hff.2.2
              have HFF := Lib.hid hff
              clear hff
              go_wp21
              refine bodyPost_ret (v := .tuple #[.agg (row8 (zeros 25)), .int .i64 3]) (results_two Tryd.results11 (ResIs.row rfl agg_key ?_) ?_) rfl ⟨?_, ?_⟩
              · exact HFF.out.1
              · rfl
              · rw [HEV.out, HKP2.out]; rfl
              · exact HFF.out.2.1
end Go.Proofs.YtpdohgadcepipaaDoor
namespace Go.Proofs.YtpdohgadcepipaaDoor
set_option maxRecDepth 100000
open Go.RowKit

theorem parse_small (s : List UInt8) (hs : s.length ≤ 1000) (n1 : Nat) (h1 : n1 < 100) (h1l : ((splitOn 47 s).tail.headD []).length ≤ 18) (h1a : Lib.atoi ((splitOn 47 s).tail.headD []) = some (n1 : Int))
    (h2 : 0 < usedAt (kindL ((splitOn 47 s).headD [])) → ∃ n2 : Nat, n2 < 100 ∧ ((splitOn 47 s).tail.tail.headD []).length ≤ 18 ∧ Lib.atoi ((splitOn 47 s).tail.tail.headD []) = some (n2 : Int)) (w : World) :
    Gives Tryd.prog 11 #[.string (bs s)] w (.tuple #[.agg (row8 ((keyParse numS s).getD (zeros 25))), .int .i64 (if (keyParse numS s).isSome = true then 0 else 3)]) :=
  keyParse_walk numS s hs w (fun W _ => number_gives _ n1 h1 h1l h1a W) (fun hu W _ => by obtain ⟨n2, h, hl, ha⟩ := h2 hu; exact number_gives _ n2 h hl ha W)
/-! the chapter's three texts -/
def txA : List UInt8 := [116, 47, 48, 47, 49, 47, 104, 101, 108, 108, 111, 47, 100, 101, 45, 65, 84]
def txB : List UInt8 := [112, 47, 48, 50]
def txC : List UInt8 := [116, 47, 48, 47, 49, 47, 104, 101, 108, 108, 111, 47, 102, 114]
def kA : K25 := ⟨[6, 0, 1, 104, 101, 108, 108, 111, 0, 0, 0, 0, 0, 0, 0, 100, 101, 0, 0, 0, 0, 0, 65, 84, 0], rfl⟩
def kC : K25 := ⟨[6, 0, 1, 104, 101, 108, 108, 111, 0, 0, 0, 0, 0, 0, 0, 102, 114, 0, 0, 0, 0, 0, 0, 0, 0], rfl⟩
theorem readA : keyParse numS txA = some kA.val := by decide +kernel
theorem readB : keyParse numS txB = none := by decide +kernel
theorem readC : keyParse numS txC = some kC.val := by decide +kernel
theorem textA : keyText kA.val = txA := parse_some readA
theorem parseA (w : World) : Gives Tryd.prog 11 #[.string (bs txA)] w (.tuple #[.agg (row8 kA.val), .int .i64 0]) := by
  have := parse_small txA (by decide) 0 (by decide) (by decide +kernel) (by decide +kernel) (fun _ => ⟨1, by decide, by decide +kernel, by decide +kernel⟩) w
  rw [readA] at this
  exact this
theorem parseB (w : World) : Gives Tryd.prog 11 #[.string (bs txB)] w (.tuple #[.agg (row8 (zeros 25)), .int .i64 3]) := by
  have := parse_small txB (by decide) 2 (by decide) (by decide +kernel) (by decide +kernel) (fun h => absurd h (by decide +kernel)) w
  rw [readB] at this
  exact this
theorem parseC (w : World) : Gives Tryd.prog 11 #[.string (bs txC)] w (.tuple #[.agg (row8 kC.val), .int .i64 0]) := by
  have := parse_small txC (by decide) 0 (by decide) (by decide +kernel) (by decide +kernel) (fun _ => ⟨1, by decide, by decide +kernel, by decide +kernel⟩) w
  rw [readC] at this
  exact this
set_option maxHeartbeats 8000000 in
theorem known06_gives (w : World) : Gives Tryd.prog 7 #[] w (.bool true) := by
  have HA := Lib.hid (show ∀ w, Gives Tryd.prog 11 #[.string ⟨#[116, 47, 48, 47, 49, 47, 104, 101, 108, 108, 111, 47, 100, 101, 45, 65, 84]⟩] w (.tuple #[.agg (row8 kA.val), .int .i64 0]) from parseA)
  have HB := Lib.hid (show ∀ w, Gives Tryd.prog 11 #[.string ⟨#[112, 47, 48, 50]⟩] w (.tuple #[.agg (row8 (zeros 25)), .int .i64 3]) from parseB)
  have HC := Lib.hid (show ∀ w, Gives Tryd.prog 11 #[.string ⟨#[116, 47, 48, 47, 49, 47, 104, 101, 108, 108, 111, 47, 102, 114]⟩] w (.tuple #[.agg (row8 kC.val), .int .i64 0]) from parseC)
  have htx := keyText_gives kA.val kA.property
  rw [textA] at htx
  have HT := Lib.hid (show ∀ w, Gives Tryd.prog 12 #[.agg (row8 kA.val)] w (.string ⟨#[116, 47, 48, 47, 49, 47, 104, 101, 108, 108, 111, 47, 100, 101, 45, 65, 84]⟩) from htx)
  have h4 := has_gives kA kC 4
  have h5 := has_gives kA kC 5
  rw [show hasB kA 4 kC = true from by decide +kernel] at h4
  rw [show hasB kA 5 kC = false from by decide +kernel] at h5
  have H4 := Lib.hid h4
  have H5 := Lib.hid h5
  have pA := kA.property
  have pC := kC.property
  clear htx h4 h5
  generalize kA = a at *
  generalize kC = c at *
  unfold Gives
  go_enter Tryd.func7, Tryd.ntmps7
  go_wp2_with fail
  refine Gives.use (HA.out _) ?_
  intro xs1 d1
  go_wp2_with fail
  refine Gives.use (HB.out _) ?_
  intro xs2 d2
  go_wp2_with fail
  refine Gives.use (HC.out _) ?_
  intro xs3 d3
  go_wp2_with fail
  refine Gives.use (HT.out _) ?_
  intro xs4 d4
  go_wp2_with fail
  refine Gives.use (H4.out _) ?_
  intro xs5 d5
  go_wp2_with fail
  refine Gives.use (H5.out _) ?_
  intro xs6 d6
  go_wp2_with fail
  go_ret
  exact ⟨rfl, (by repeat (first | exact below_of_grow _ _ | exact Below.refl _ _ | exact below_more _ _ _ _ | (simp only [← Array.append_assoc]; first | exact below_more _ _ _ _ | exact below_same _ _ _ | exact Below.refl _ _) | exact below_same _ _ _ | (refine Below.alloc ?_ (by first | (simp; done) | (simp; omega)) _) | (refine Below.grow ?_ (by first | (simp; done) | (simp; omega)) _ _) | refine Below.drew ?_ | refine Below.drewN ?_ _ | (refine Below.putF ?_ (by first | (simp; done) | omega | (simp; omega)) _) | (refine Below.setCell ?_ (by first | (simp; done) | (simp; omega)) _)))⟩
end Go.Proofs.YtpdohgadcepipaaDoor
namespace Go.Proofs.YtpdohgadcepipaaDoor
open Go.RowKit Go.ChangeShapes Go.WideShapes
theorem Reads.arr {P : Program} {w : World} {t : TypeId} {v : Value} {n : Nat} {el : TypeId} (h : Reads P w t v) (ht : P.underlying t = some (.array n el)) : ∃ cs, v = .agg cs := by
  obtain ⟨⟨base, hv⟩, _⟩ := h
  unfold Value.okWide at hv
  rw [ht] at hv
  obtain ⟨cs, h, _⟩ := hv
  exact ⟨cs, h⟩
theorem keyRd {w : World} {v : Value} (h : Reads Tryd.prog w 33 v) : ∃ k : K25, v = .agg (row8 k.val) := by
  have hf := h.flat 5 (ks := List.replicate 25 (CK.i .u8)) (by kernel_rfl)
  obtain ⟨cs, rfl⟩ := h.agg Tryd.underlying33
  obtain ⟨k, hk⟩ := FitsAll.key hf
  exact ⟨k, congrArg Value.agg (Array.ext' hk)⟩
theorem prefRd {w : World} {v : Value} (h : Reads Tryd.prog w 35 v) : ∃ (k : K25) (d : Int), v = .agg (prefA k d) := by
  have hf := h.flat 6 (ks := List.replicate 25 (CK.i .u8) ++ [CK.i .i64]) (by kernel_rfl)
  obtain ⟨cs, rfl⟩ := h.agg Tryd.underlying35
  obtain ⟨x, y, e, hx, hy⟩ := FitsAll.split hf
  obtain ⟨k, rfl⟩ := FitsAll.key hx
  obtain ⟨d, rfl, _⟩ := FitsAll.int hy
  refine ⟨k, d, congrArg Value.agg (Array.ext' ?_)⟩
  have e2 : cs.toList = _ := e
  rw [e2]
  simp [prefA, row8, keyL]
theorem nameRd {w : World} {v : Value} (h : Reads Tryd.prog w 27 v) : ∃ n : List UInt8, n.length = 12 ∧ v = .agg (row8 n) := by
  have hf := h.flat 5 (ks := List.replicate 12 (CK.i .u8)) (by kernel_rfl)
  obtain ⟨cs, rfl⟩ := h.arr Tryd.underlying27
  obtain ⟨k, hl, hk⟩ := FitsAll.bytes hf
  exact ⟨k, hl, congrArg Value.agg (Array.ext' hk)⟩
theorem tagRd {w : World} {v : Value} (h : Reads Tryd.prog w 31 v) : ∃ n : List UInt8, n.length = 10 ∧ v = .agg (row8 n) := by
  have hf := h.flat 6 (ks := List.replicate 10 (CK.i .u8)) (by kernel_rfl)
  obtain ⟨cs, rfl⟩ := h.agg Tryd.underlying31
  obtain ⟨k, hl, hk⟩ := FitsAll.bytes hf
  exact ⟨k, hl, congrArg Value.agg (Array.ext' hk)⟩
end Go.Proofs.YtpdohgadcepipaaDoor
