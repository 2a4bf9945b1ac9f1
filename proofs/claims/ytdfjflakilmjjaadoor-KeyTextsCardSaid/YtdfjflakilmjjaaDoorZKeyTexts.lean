/- Layer 6's law KeyTexts, for every input: a text is a key's just if that key's text it is, and what is told is read; the Go function returns true, and each argument reads behind the call as it read before. Condition: the tables and errors that the row lists (tied to the program's text by the card). -/
import Derived.Test.YtdfjflakilmjjaaDoorQbj
import Derived.BigRegion
import Derived.Deep.CutBlock
import Derived.Deep.Cut
import Derived.Handy
import Derived.Test.YtdfjflakilmjjaaDoorQay
import Derived.Test.YtdfjflakilmjjaaDoorCards
import Derived.Test.YtdfjflakilmjjaaDoorTie
import Derived.ProofKit
import Derived.LaidMore
import Derived.Lay
import Derived.OpenShut
import Derived.ShutString
namespace Go.Proofs.YtdfjflakilmjjaaDoor
set_option maxRecDepth 100000
open Go.RowKit

theorem tagPlain_len100 (t : List UInt8) (ht : t.length = 10) : (tagPlain t).length ≤ 100 := by
  unfold tagPlain
  split
  · decide
  · have h1 := partT_len (langT t)
    have h2 := partT_len (scriptT t)
    have h3 := partT_len (regionT t)
    have d2 := dashed_len (partT (scriptT t))
    have d3 := dashed_len (partT (regionT t))
    simp only [langT, scriptT, regionT, List.length_take, List.length_drop] at h1 h2 h3
    simp only [List.length_append]
    simp only [langT, scriptT, regionT] at d2 d3 ⊢
    omega
theorem keyText_len {k : List UInt8} (hk : k.length = 25) : (keyText k).length ≤ 1000 := by
  unfold keyText
  split
  · rename_i hr
    obtain ⟨h1, h2⟩ := k_le100 hr
    have hdec : ∀ i < 100, (Lib.decDigits i).length ≤ 100 := by
      have : ∀ i < 100, (Lib.decDigits i).length ≤ 2 := by decide +kernel
      intro i hi; have := this i hi; omega
    have hM : ∀ p ∈ keyParts k, p.length ≤ 100 := by
      intro p hp
      unfold keyParts at hp
      simp only [List.mem_cons, List.mem_append, List.mem_ite_nil_right, List.not_mem_nil, or_false] at hp
      rcases hp with rfl | rfl | (⟨hc, rfl⟩ | ⟨_, rfl⟩) | ⟨_, rfl⟩
      · simp
      · exact hdec _ h1
      · exact hdec _ (h2 hc)
      · unfold nameText; split
        · have := frontN_len (kName k)
          have : (kName k).length ≤ 100 := by unfold kName; simp; omega
          omega
        · simp
      · unfold tagText; split
        · exact tagPlain_len100 _ (by unfold kTag; simp; omega)
        · simp
    have hl : (keyParts k).length ≤ 5 := by
      unfold keyParts
      simp only [List.length_cons, List.length_append]
      split <;> split <;> split <;> simp
    have := join_le hM
    have h5 : (keyParts k).length * (100 + 1) ≤ 5 * 101 := Nat.mul_le_mul_right _ hl
    omega
  · simp
set_option maxHeartbeats 20000000 in
theorem keyTexts_walk (s : List UInt8) (k : K25) (w : World) (hL : LaidF w) : Gives Tryd.prog 3 #[.string (bs s), .agg (row8 k.val)] w (.bool true) := by
  obtain ⟨s2, hs2⟩ : ∃ s2, s2 = s.take 60 := ⟨_, rfl⟩
  have hs60 : s2.length ≤ 1000 := by rw [hs2, List.length_take]; omega
  have hcut : (bs s).extract 0 (min ((bs s).size : Int) 60).toNat = bs s2 := by
    have e : (min ((bs s).size : Int) 60).toNat = min s.length 60 := by rw [bs_size]; omega
    rw [e, bs_cut, hs2]
    congr 1
    rw [List.take_eq_take_iff]
    omega
  obtain ⟨tx, htx⟩ : ∃ tx, tx = keyText k.val := ⟨_, rfl⟩
  have htl : tx.length ≤ 1000 := by rw [htx]; exact keyText_len k.len
  have hkt := keyText_gives k.val k.len
  rw [← htx] at hkt
  have hkr := keyRight_gives k.val k.len
  obtain ⟨R, hR⟩ : ∃ R, R = keyRight k.val := ⟨_, rfl⟩
  rw [← hR] at hkr
  have hp1 := fun W hb => parseA_gives s2 hs60 W (hL.keep hb)
  have hp2 := fun W hb => parseA_gives tx htl W (hL.keep hb)
  -- what is read of the key's text
  have hy : (R = true ∧ keyParse numF tx = some k.val) ∨ (R = false ∧ tx = [] ∧ keyParse numF tx = none) := by
    rw [hR, htx]
    cases hr : keyRight k.val with
    | true => exact .inl ⟨rfl, parse_text numF_dec k.len hr⟩
    | false =>
      have e : keyText k.val = [] := by unfold keyText; rw [if_neg (by rw [hr]; decide)]
      exact .inr ⟨rfl, e, by rw [e]; exact parse_empty numF⟩
  obtain ⟨x, er, hx, hxl⟩ : ∃ (x : List UInt8) (er : Int), ((keyParse numF s2 = some x ∧ er = 0 ∧ keyRight x = true ∧ keyText x = s2) ∨ (keyParse numF s2 = none ∧ er = 3 ∧ x = zeros 25)) ∧ x.length = 25 := by
    cases hp : keyParse numF s2 with
    | some x => exact ⟨x, 0, .inl ⟨rfl, rfl, (parse_right hp).1, parse_some hp⟩, (parse_right hp).2⟩
    | none => exact ⟨zeros 25, 3, .inr ⟨rfl, rfl, rfl⟩, by simp [zeros]⟩
  have hq1 : ∀ W, Below w.heap.size w W → Gives Tryd.prog 5 #[.string (bs s2)] W (.tuple #[.agg (row8 x), .int .i64 er]) := fun W hb => by
    have := hp1 W hb
    rcases hx with ⟨h1, h2, _⟩ | ⟨h1, h2, h3⟩
    · rw [h1] at this; rw [h2]; exact this
    · rw [h1] at this; rw [h2, h3]; exact this
  obtain ⟨y, fr, hy2, hyl⟩ : ∃ (y : List UInt8) (fr : Int), ((R = true ∧ fr = 0 ∧ y = k.val) ∨ (R = false ∧ fr = 3 ∧ y = zeros 25)) ∧ y.length = 25 := by
    rcases hy with ⟨h1, _⟩ | ⟨h1, _⟩
    · exact ⟨k.val, 0, .inl ⟨h1, rfl, rfl⟩, k.len⟩
    · exact ⟨zeros 25, 3, .inr ⟨h1, rfl, rfl⟩, by simp [zeros]⟩
  have hq2 : ∀ W, Below w.heap.size w W → Gives Tryd.prog 5 #[.string (bs tx)] W (.tuple #[.agg (row8 y), .int .i64 fr]) := fun W hb => by
    have := hp2 W hb
    rcases hy2 with ⟨h1, h2, h3⟩ | ⟨h1, h2, h3⟩
    · rcases hy with ⟨_, h4⟩ | ⟨h4, _⟩
      · rw [h4] at this; rw [h2, h3]; exact this
      · rw [h1] at h4; cases h4
    · rcases hy with ⟨h4, _⟩ | ⟨_, _, h4⟩
      · rw [h1] at h4; cases h4
      · rw [h4] at this; rw [h2, h3]; exact this
  -- the same text
  have hsame : s2 = tx → ((er = 0 ∧ R = true) ∨ (er = 3 ∧ R = false)) := by
    intro e
    rcases hy with ⟨h1, h2⟩ | ⟨h1, _, h2⟩
    · rw [← e] at h2
      rcases hx with ⟨h3, h4, _⟩ | ⟨h3, _⟩
      · exact .inl ⟨h4, h1⟩
      · rw [h2] at h3; cases h3
    · rw [← e] at h2
      rcases hx with ⟨h3, _⟩ | ⟨_, h4, _⟩
      · rw [h2] at h3; cases h3
      · exact .inr ⟨h4, h1⟩
  have hxr := keyRight_gives x hxl
  have hxt := keyText_gives x hxl
  have hkl := k.len
  have HQ1 := Lib.hid hq1
  have HQ2 := Lib.hid hq2
  have HKT := Lib.hid hkt
  have HKR := Lib.hid hkr
  have HXR := Lib.hid hxr
  have HXT := Lib.hid hxt
  have HX := Lib.hid (show (er = 0 ∧ keyRight x = true ∧ keyText x = s2) ∨ (er = 3 ∧ x = zeros 25) from by
    rcases hx with ⟨_, h⟩ | ⟨_, h⟩
    · exact .inl h
    · exact .inr h)
  have HY := Lib.hid hy2
  have HS := Lib.hid hsame
  have HKN := Lib.hid known06_gives
  have HCUT := Lib.hid hcut
  clear hs2 hs60 hcut htx htl hkt hkr hR hp1 hp2 hy hx hq1 hy2 hq2 hsame hxr hxt hL
  unfold Gives
  go_enter Tryd.func3, Tryd.ntmps3
  go_upto_region 2 with fail
  rw [HCUT.out]
  refine wp_name ?_
  intro W1 hW1
  obtain ⟨q, hq⟩ : ∃ q, q = w.heap.size := ⟨_, rfl⟩
  have hb1 : Below w.heap.size w W1 := by rw [hW1]; exact (by repeat (first | exact below_of_grow _ _ | exact Below.refl _ _ | exact below_more _ _ _ _ | (simp only [← Array.append_assoc]; first | exact below_more _ _ _ _ | exact below_same _ _ _ | exact Below.refl _ _) | exact below_same _ _ _ | (refine Below.alloc ?_ (by first | (simp; done) | (simp; omega)) _) | (refine Below.grow ?_ (by first | (simp; done) | (simp; omega)) _ _) | refine Below.drew ?_ | refine Below.drewN ?_ _ | (refine Below.putF ?_ (by first | (simp; done) | omega | (simp; omega)) _) | (refine Below.setCell ?_ (by first | (simp; done) | (simp; omega)) _)))
  have h3 : W1.heap[q]? = some (.cells (row8 k.val) 29) := by rw [hW1, hq]; exact (heap_al _ _ _).trans (if_pos rfl)
  have c3 : W1.cut? q 0 25 = some (row8 k.val) := cut_heap h3 (by simp [hkl])
  have l3 := (Array.getElem?_eq_some_iff.1 h3).1
  simp only [← hq]
  have H1 := Lib.hid hb1
  have hz1 := hb1.size
  clear hW1 hb1 h3 hq
  go_wp2_with fail
  refine Gives.use (HQ1.out _ H1.out) ?_
  intro xs1 d1
  go_upto_region 3 with fail
  refine wp_name ?_
  intro W2 hW2
  obtain ⟨q5, hq5⟩ : ∃ q5, q5 = W1.heap.size + xs1.size := ⟨_, rfl⟩
  have hb2 : Below W1.heap.size W1 W2 := by rw [hW2]; exact (by repeat (first | exact below_of_grow _ _ | exact Below.refl _ _ | exact below_more _ _ _ _ | (simp only [← Array.append_assoc]; first | exact below_more _ _ _ _ | exact below_same _ _ _ | exact Below.refl _ _) | exact below_same _ _ _ | (refine Below.alloc ?_ (by first | (simp; done) | (simp; omega)) _) | (refine Below.grow ?_ (by first | (simp; done) | (simp; omega)) _ _) | refine Below.drew ?_ | refine Below.drewN ?_ _ | (refine Below.putF ?_ (by first | (simp; done) | omega | (simp; omega)) _) | (refine Below.setCell ?_ (by first | (simp; done) | (simp; omega)) _)))
  have h5 : W2.heap[q5]? = some (.cells (row8 x) 29) := by rw [hW2, hq5]; exact (heap_al _ _ _).trans (if_pos (by simp))
  have c35 : W2.cut? q 0 25 = some (row8 k.val) := by rw [cut_of_heap (hb2.block q l3)]; exact c3
  have c5 : W2.cut? q5 0 25 = some (row8 x) := cut_heap h5 (by simp [hxl])
  have l5 := (Array.getElem?_eq_some_iff.1 h5).1
  have l35 : q < W2.heap.size := Nat.lt_of_lt_of_le l3 hb2.size
  simp only [← hq5]
  have H2 := Lib.hid (H1.out.trans (hb2.mono hz1))
  have hz2 := H2.out.size
  clear hW2 hb2 h5 hq5 c3 l3 HQ1 H1 hz1
  go_wp2_with fail
  refine Gives.use (HKT.out _) ?_
  intro xs2 d2
  go_wp2_with fail
  refine Gives.use (HQ2.out _ (H2.out.trans ((below_of_grow _ _).mono hz2))) ?_
  intro xs3 d3
  go_upto_region 4 with fail
  refine wp_name ?_
  intro W3 hW3
  have hb3 : Below W2.heap.size W2 W3 := by rw [hW3]; exact (by repeat (first | exact below_of_grow _ _ | exact Below.refl _ _ | exact below_more _ _ _ _ | (simp only [← Array.append_assoc]; first | exact below_more _ _ _ _ | exact below_same _ _ _ | exact Below.refl _ _) | exact below_same _ _ _ | (refine Below.alloc ?_ (by first | (simp; done) | (simp; omega)) _) | (refine Below.grow ?_ (by first | (simp; done) | (simp; omega)) _ _) | refine Below.drew ?_ | refine Below.drewN ?_ _ | (refine Below.putF ?_ (by first | (simp; done) | omega | (simp; omega)) _) | (refine Below.setCell ?_ (by first | (simp; done) | (simp; omega)) _)))
  obtain ⟨q7, hq7, c7, l7⟩ : ∃ q7, q7 = W2.heap.size + (xs2.size + xs3.size) ∧ W3.cut? q7 0 25 = some (row8 y) ∧ q7 < W3.heap.size := by
    refine ⟨_, rfl, ?_, ?_⟩
    · rw [hW3]; exact cut_heap ((heap_al _ _ _).trans (if_pos (by simp))) (by simp [hyl])
    · rw [hW3]; simp
  simp only [← hq7]
  have c33 : W3.cut? q 0 25 = some (row8 k.val) := by rw [cut_of_heap (hb3.block q l35)]; exact c35
  have c53 : W3.cut? q5 0 25 = some (row8 x) := by rw [cut_of_heap (hb3.block q5 l5)]; exact c5
  have l33 : q < W3.heap.size := Nat.lt_of_lt_of_le l35 hb3.size
  have l53 : q5 < W3.heap.size := Nat.lt_of_lt_of_le l5 hb3.size
  have H3 := Lib.hid (H2.out.trans (hb3.mono hz2))
  have hz3 := H3.out.size
  clear hW3 hb3 hq7 c35 c5 l35 l5 H2 hz2 HQ2
  have hx := HX.out
  clear HX
  generalize keyRight x = xr at *
  generalize keyText x = xt at *
  have hbc : (s2 == tx) = true ∨ (s2 == tx) = false := by cases (s2 == tx) <;> simp
  have hbn : (s2 == tx) = true → ((er = 0 ∧ R = true) ∨ (er = 3 ∧ R = false)) := fun h => HS.out (by simpa using h)
  have hy := HY.out
  clear HS HY
  rcases hx with ⟨rfl, rfl, rfl⟩ | ⟨rfl, rfl⟩
  · skip
    rcases hy with ⟨rfl, rfl, rfl⟩ | ⟨rfl, rfl, rfl⟩
    · skip
      rcases hbc with hb | hb
      · skip
        clear hbn
        go_wp2_with fail
        refine Gives.use (HXR.out _) ?_
        intro y0 e0
        go_wp2_with fail
        refine Gives.use (HXT.out _) ?_
        intro y1 e1
        go_wp2_with fail
        refine Gives.use (HKT.out _) ?_
        intro y2 e2
        go_wp2_with fail
        refine Gives.use (HKR.out _) ?_
        intro y3 e3
        go_wp2_with fail
        refine Gives.use (HKN.out _) ?_
        intro y4 e4
        go_wp2_with fail
        refine Gives.use (HKR.out _) ?_
        intro y5 e5
        go_wp2_with fail
        go_ret
        exact ⟨rfl, H3.out.trans ((show Below W3.heap.size W3 _ from (by repeat (first | exact below_of_grow _ _ | exact Below.refl _ _ | exact below_more _ _ _ _ | (simp only [← Array.append_assoc]; first | exact below_more _ _ _ _ | exact below_same _ _ _ | exact Below.refl _ _) | exact below_same _ _ _ | (refine Below.alloc ?_ (by first | (simp; done) | (simp; omega)) _) | (refine Below.grow ?_ (by first | (simp; done) | (simp; omega)) _ _) | refine Below.drew ?_ | refine Below.drewN ?_ _ | (refine Below.putF ?_ (by first | (simp; done) | omega | (simp; omega)) _) | (refine Below.setCell ?_ (by first | (simp; done) | (simp; omega)) _)))).mono hz3)⟩
      · skip
        clear hbn
        go_wp2_with fail
        refine Gives.use (HXR.out _) ?_
        intro y0 e0
        go_wp2_with fail
        refine Gives.use (HXT.out _) ?_
        intro y1 e1
        go_wp2_with fail
        refine Gives.use (HKT.out _) ?_
        intro y2 e2
        go_wp2_with fail
        refine Gives.use (HKN.out _) ?_
        intro y3 e3
        go_wp2_with fail
        refine Gives.use (HKR.out _) ?_
        intro y4 e4
        go_wp2_with fail
        go_ret
        exact ⟨rfl, H3.out.trans ((show Below W3.heap.size W3 _ from (by repeat (first | exact below_of_grow _ _ | exact Below.refl _ _ | exact below_more _ _ _ _ | (simp only [← Array.append_assoc]; first | exact below_more _ _ _ _ | exact below_same _ _ _ | exact Below.refl _ _) | exact below_same _ _ _ | (refine Below.alloc ?_ (by first | (simp; done) | (simp; omega)) _) | (refine Below.grow ?_ (by first | (simp; done) | (simp; omega)) _ _) | refine Below.drew ?_ | refine Below.drewN ?_ _ | (refine Below.putF ?_ (by first | (simp; done) | omega | (simp; omega)) _) | (refine Below.setCell ?_ (by first | (simp; done) | (simp; omega)) _)))).mono hz3)⟩
    · skip
      rcases hbc with hb | hb
      · skip
        exfalso
        have := hbn hb
        simp at this
      · skip
        clear hbn
        go_wp2_with fail
        refine Gives.use (HXR.out _) ?_
        intro y0 e0
        go_wp2_with fail
        refine Gives.use (HXT.out _) ?_
        intro y1 e1
        go_wp2_with fail
        refine Gives.use (HKT.out _) ?_
        intro y2 e2
        go_wp2_with fail
        refine Gives.use (HKN.out _) ?_
        intro y3 e3
        go_wp2_with fail
        refine Gives.use (HKR.out _) ?_
        intro y4 e4
        go_wp2_with fail
        go_ret
        exact ⟨rfl, H3.out.trans ((show Below W3.heap.size W3 _ from (by repeat (first | exact below_of_grow _ _ | exact Below.refl _ _ | exact below_more _ _ _ _ | (simp only [← Array.append_assoc]; first | exact below_more _ _ _ _ | exact below_same _ _ _ | exact Below.refl _ _) | exact below_same _ _ _ | (refine Below.alloc ?_ (by first | (simp; done) | (simp; omega)) _) | (refine Below.grow ?_ (by first | (simp; done) | (simp; omega)) _ _) | refine Below.drew ?_ | refine Below.drewN ?_ _ | (refine Below.putF ?_ (by first | (simp; done) | omega | (simp; omega)) _) | (refine Below.setCell ?_ (by first | (simp; done) | (simp; omega)) _)))).mono hz3)⟩
  · skip
    rcases hy with ⟨rfl, rfl, rfl⟩ | ⟨rfl, rfl, rfl⟩
    · skip
      rcases hbc with hb | hb
      · skip
        exfalso
        have := hbn hb
        simp at this
      · skip
        clear hbn
        go_wp2_with fail
        refine Gives.use (HKT.out _) ?_
        intro y0 e0
        go_wp2_with fail
        refine Gives.use (HKN.out _) ?_
        intro y1 e1
        go_wp2_with fail
        refine Gives.use (HKR.out _) ?_
        intro y2 e2
        go_wp2_with fail
        go_ret
        exact ⟨rfl, H3.out.trans ((show Below W3.heap.size W3 _ from (by repeat (first | exact below_of_grow _ _ | exact Below.refl _ _ | exact below_more _ _ _ _ | (simp only [← Array.append_assoc]; first | exact below_more _ _ _ _ | exact below_same _ _ _ | exact Below.refl _ _) | exact below_same _ _ _ | (refine Below.alloc ?_ (by first | (simp; done) | (simp; omega)) _) | (refine Below.grow ?_ (by first | (simp; done) | (simp; omega)) _ _) | refine Below.drew ?_ | refine Below.drewN ?_ _ | (refine Below.putF ?_ (by first | (simp; done) | omega | (simp; omega)) _) | (refine Below.setCell ?_ (by first | (simp; done) | (simp; omega)) _)))).mono hz3)⟩
    · skip
      rcases hbc with hb | hb
      · skip
        clear hbn
        go_wp2_with fail
        refine Gives.use (HKT.out _) ?_
        intro y0 e0
        go_wp2_with fail
        refine Gives.use (HKR.out _) ?_
        intro y1 e1
        go_wp2_with fail
        refine Gives.use (HKN.out _) ?_
        intro y2 e2
        go_wp2_with fail
        refine Gives.use (HKR.out _) ?_
        intro y3 e3
        go_wp2_with fail
        go_ret
        exact ⟨rfl, H3.out.trans ((show Below W3.heap.size W3 _ from (by repeat (first | exact below_of_grow _ _ | exact Below.refl _ _ | exact below_more _ _ _ _ | (simp only [← Array.append_assoc]; first | exact below_more _ _ _ _ | exact below_same _ _ _ | exact Below.refl _ _) | exact below_same _ _ _ | (refine Below.alloc ?_ (by first | (simp; done) | (simp; omega)) _) | (refine Below.grow ?_ (by first | (simp; done) | (simp; omega)) _ _) | refine Below.drew ?_ | refine Below.drewN ?_ _ | (refine Below.putF ?_ (by first | (simp; done) | omega | (simp; omega)) _) | (refine Below.setCell ?_ (by first | (simp; done) | (simp; omega)) _)))).mono hz3)⟩
      · skip
        clear hbn
        go_wp2_with fail
        refine Gives.use (HKT.out _) ?_
        intro y0 e0
        go_wp2_with fail
        refine Gives.use (HKN.out _) ?_
        intro y1 e1
        go_wp2_with fail
        refine Gives.use (HKR.out _) ?_
        intro y2 e2
        go_wp2_with fail
        go_ret
        exact ⟨rfl, H3.out.trans ((show Below W3.heap.size W3 _ from (by repeat (first | exact below_of_grow _ _ | exact Below.refl _ _ | exact below_more _ _ _ _ | (simp only [← Array.append_assoc]; first | exact below_more _ _ _ _ | exact below_same _ _ _ | exact Below.refl _ _) | exact below_same _ _ _ | (refine Below.alloc ?_ (by first | (simp; done) | (simp; omega)) _) | (refine Below.grow ?_ (by first | (simp; done) | (simp; omega)) _ _) | refine Below.drew ?_ | refine Below.drewN ?_ _ | (refine Below.putF ?_ (by first | (simp; done) | omega | (simp; omega)) _) | (refine Below.setCell ?_ (by first | (simp; done) | (simp; omega)) _)))).mono hz3)⟩
end Go.Proofs.YtdfjflakilmjjaaDoor
namespace Go.Proofs.YtdfjflakilmjjaaDoor
set_option maxRecDepth 100000
open Go.RowKit

theorem keyTexts_law (w : World) (hX : laidMetH Tryd.prog Rows.keyTextsRow.laid w) (v0 v1 : Value) (h0 : Reads Tryd.prog w 9 v0) (h1 : Reads Tryd.prog w 29 v1) : Gives Tryd.prog 3 #[v0, v1] w (.bool true) := by
  obtain ⟨s, rfl, _⟩ := h0.string Tryd.underlying9
  obtain ⟨k, rfl⟩ := keyRd h1
  have e : s = bs s.data.toList := by cases s; simp [bs]
  rw [e]
  exact keyTexts_walk s.data.toList k w (laidF_of hX)

namespace keyTexts
open Go.ChangeShapes Go.WideShapes Go.ChangeAt Go.RowKit
open Go.ChangeMaps (open_string shut_string)
theorem own : ownKnob Tryd.prog.godebug = none := by kernel_rfl
theorem laidOut : laidOutB Tryd.prog = true := by kernel_rfl
/-- a world in which the listed variables hold what the row says -/
noncomputable def laidW (os : Os) : World := World.laidAll Tryd.prog os Rows.keyTextsRow.laid
set_option maxRecDepth 100000 in
theorem door_met (os : Os) (args : Array Value) : laidMetH Tryd.prog Rows.keyTextsRow.laid ((laidW os).forCall (fun _ _ => 0) ⟨#[], args, []⟩).memory := by
  rw [MakeChecks.laidMetH_plain _ _ _ (by kernel_rfl)]
  exact laidMet_laidAll args (by kernel_rfl) (by kernel_rfl)
set_option maxRecDepth 100000 in
theorem lifted (os : Os) (started : os.Started) (H : Type) (enc : TypeId × Value → H) :
    ReturnsInHanded {} Tryd.checked os 3 .any (fun w args => (Rows.keyTextsSpec.pre enc Tryd.prog Tryd.f3 Rows.keyTextsRow.domain false w args ∧ laidMetH Tryd.prog Rows.keyTextsRow.laid w) ∧ sizedMet enc Tryd.prog Tryd.f3 (OpenSpec.ofChange Rows.keyTextsSpec) false w args) (Rows.keyTextsSpec.post enc Tryd.prog Tryd.f3 false true false false) := by
  refine returnsInHanded_of_change_and (C := Tryd.checked) (X := fun w _ => laidMetH Tryd.prog Rows.keyTextsRow.laid w) (fun _ _ _ hh h => h.of_heap hh) own started (by kernel_rfl) Tryd.func3
    (ChangeSpec.witness_shaped (enc := enc) (C := Tryd.checked) (os := os) (X := fun w _ => laidMetH Tryd.prog Rows.keyTextsRow.laid w) false (laidW os) #[.string ByteArray.empty, .agg #[.int .u8 0, .int .u8 0, .int .u8 0, .int .u8 0, .int .u8 0, .int .u8 0, .int .u8 0, .int .u8 0, .int .u8 0, .int .u8 0, .int .u8 0, .int .u8 0, .int .u8 0, .int .u8 0, .int .u8 0, .int .u8 0, .int .u8 0, .int .u8 0, .int .u8 0, .int .u8 0, .int .u8 0, .int .u8 0, .int .u8 0, .int .u8 0, .int .u8 0]] 8 (World.laidAll_os _ _ _) (World.shaped_of_ZipB (by kernel_rfl) (by kernel_rfl)) (by kernel_rfl) (by kernel_rfl) (by kernel_rfl) (door_met os _)) ?_
  intro W base args ds gs before hval0 hW _ _ hX0 _
  have hval : ∀ (j : Nat) t v, Tryd.f3.params[j]? = some t → args[j]? = some v → Value.okWide Tryd.prog W .any base t v := hval0
  have hW' := hW
  obtain ⟨p, q, hA0, hV, rfl, hfz, hnd⟩ := hW
  have hA : DataW.TrodAll enc Tryd.prog W 0 (fun _ => true) true Tryd.f3.params.toList args.toList ds p := hA0
  rw [Tryd.params3] at hA hval
  obtain ⟨v0, vs0, d0, ds0, p0, q0, hargs, rfl, rfl, h0, r0⟩ := trodAll_cons hA
  obtain ⟨v1, vs1, d1, ds1, p1, q1, rfl, rfl, rfl, h1, r1⟩ := trodAll_cons r0
  obtain ⟨rfl, rfl, rfl⟩ := trodAll_nil r1
  obtain rfl : args = #[v0, v1] := by cases args; simp_all
  obtain ⟨rfl, rfl⟩ := trodVars_none hV
  have lt0 : ∀ x ∈ p0, x.block < W.heap.size := by obtain ⟨m, hm⟩ := h0; exact DataW.trod_lt m _ _ _ hm
  have lt1 : ∀ x ∈ p1, x.block < W.heap.size := by obtain ⟨m, hm⟩ := h1; exact DataW.trod_lt m _ _ _ hm
  clear hA0 hval0
  refine Calls.mono (keyTexts_law W hX0 v0 v1 ⟨⟨_, hval 0 9 v0 rfl rfl⟩, H, enc, _, _, h0⟩ ⟨⟨_, hval 1 29 v1 rfl rfl⟩, H, enc, _, _, h1⟩) fun e W' ⟨he, bel⟩ => ?_
  subst he
  exact ⟨_, rfl, _, _, _, [], _, [], hW', trodAll_mk1 (shut_bool Tryd.underlying4 _), (trodAll_cons_mk (Below.trod laidOut (by kernel_rfl) (of_decide_eq_true (by kernel_rfl)) h0 bel lt0) (trodAll_cons_mk (Below.trod laidOut (by kernel_rfl) (of_decide_eq_true (by kernel_rfl)) h1 bel lt1) trodAll_mk0)), rfl, bel.frame _, fun h => by cases h⟩
theorem fact0 : (Rows.keyTextsRow.inPlace == Program.inPlace Tryd.pinned.checked.prog 3) = true := by kernel_rfl
theorem fact1 : (Rows.keyTextsRow.unfollowed == Program.unfollowed Tryd.pinned.checked.prog 3) = true := by kernel_rfl
theorem fact2 : (Rows.keyTextsRow.recurses == Program.recurses Tryd.pinned.checked.prog 3) = true := by kernel_rfl
theorem fact3 : (Rows.keyTextsRow.named == Program.varsNamed Tryd.pinned.checked.prog 3) = true := by kernel_rfl
theorem closed : joinedFacts Tryd.pinned.checked.prog 3 Tryd.f3 Rows.keyTextsSpec Rows.keyTextsRow = true := by
  unfold joinedFacts
  rw [fact0, fact1, fact2, fact3]
  refine Eq.trans (b := true) ?_ rfl
  kernel_rfl
theorem said : Rows.KeyTextsSaid :=
  OpenClaim.holds_of_wide 3 Tryd.f3 rfl rfl rfl rfl rfl rfl rfl ⟨rfl, rfl, rfl, rfl, rfl⟩ rfl rfl rfl rfl rfl (by kernel_rfl) Tryd.func3 closed
    (of_decide_eq_true (by kernel_rfl)) (by unfold Func.isWrapper; first | (rw [if_pos (by decide +kernel)]; kernel_rfl) | (rw [if_neg (by decide +kernel)]; exact ⟨rfl, rfl⟩))
    (fun os started H enc _ => lifted os started H enc)
/-- no parameter wants a stand-in; the program's own looks are off -/
theorem plain (f : FuncId) (fn : Func) (hf : Tryd.pinned.checked.prog.funcNamed "vulgate/vulgatelaw06.KeyTexts" = some f) (hfn : Tryd.pinned.checked.prog.funcs[f]? = some fn) :
    true = Tryd.pinned.checked.prog.looks [] ∧ ∀ (j : Nat) t, fn.params[j]? = some t → Tryd.pinned.checked.prog.wantsStandIn t = false := by
  obtain rfl : f = 3 := Option.some.inj ((show Tryd.prog.funcNamed "vulgate/vulgatelaw06.KeyTexts" = some 3 by kernel_rfl).symm.trans hf) |>.symm
  obtain rfl : fn = Tryd.f3 := (Option.some.inj (Tryd.func3.symm.trans hfn)).symm
  refine ⟨by kernel_rfl, fun j t ht => ?_⟩
  rw [Tryd.params3] at ht
  have hm : t ∈ [9, 29] := by simpa using Array.mem_of_getElem? ht
  have hall : ([9, 29].all fun u => !Tryd.prog.wantsStandIn u) = true := by kernel_rfl
  exact (show Tryd.prog.wantsStandIn t = false by simpa using List.all_eq_true.1 hall t hm)
theorem proved : Rows.KeyTextsCardSaid :=
  Claim7.holds_tied_plain_at .later [] _ _ _ _ said (fun _ h => by cases h) (by kernel_rfl) (fun _ h => by cases h) keyTexts_row_tie rfl ⟨rfl, rfl⟩ (by kernel_rfl) rfl plain (by kernel_rfl)
#print axioms proved
end keyTexts
end Go.Proofs.YtdfjflakilmjjaaDoor
