/- Layer 17's law BufferCopies, for every input: what is put into a buffer's copy isn't seen in the other; the Go function returns true, and each argument reads behind the call as it read before. Condition: the tables that the row lists (tied to the program's text by the card); the proof does not use what they hold. -/
import Derived.Test.YtfmphfidloobkaaGreatDoorQca
import Derived.Test.YtfmphfidloobkaaGreatDoorQbz
import Derived.Test.YtfmphfidloobkaaGreatDoorQbp
import Derived.BigRegion
import Derived.Deep.CutBlock
import Derived.Deep.Cut
import Derived.Handy
import Derived.Test.YtfmphfidloobkaaGreatDoorCards
import Derived.Test.YtfmphfidloobkaaGreatDoorTie
import Derived.ProofKit
import Derived.LaidMore
import Derived.Lay
import Derived.OpenShut
import Derived.ShutString
namespace Go.Proofs.YtfmphfidloobkaaGreatDoor
set_option maxRecDepth 100000
open Go.RowKit

theorem flat_wrtC : FlatType Tryz.prog 79 (byteKinds 25 ++ (.bool :: recKs)) := ⟨by kernel_rfl, by kernel_rfl, agg_wrt⟩
@[go_sem ↓ high] theorem eq_wrtC (a b : Wr) (w : World) : (Op.equalIn 10000 79 (.agg (wrtA a)) (.agg (wrtA b))).run Tryz.prog w = .ok (decide (a = b)) w :=
  eq_of_flat (f := fun x : Wr => keyL x.k ++ .bool x.dead :: recL x.r) (g := fun x => keyLs x.k ++ .bool x.dead :: recLs x.r) flat_wrtC (fun x => (key_fit _).append (.cons (show fits .bool _ _ from rfl) (rec_fit _))) (fun a b h => by
    have hl : (keyLs a.k).length = (keyLs b.k).length := by rw [(key_fit a.k).l, (key_fit b.k).l]
    obtain ⟨h1, h2⟩ := List.append_inj h hl
    have e1 := key_inj h1
    simp only [List.cons.injEq, Lit.bool.injEq] at h2
    have e2 := rec_inj h2.2
    have e3 := h2.1
    cases a; cases b; simp only at e1 e2 e3; subst e1 e2 e3; rfl) a b w
def gnum (W : MW) (G : MG) : Nat := ((G.map (·.1)).filter (freeK W)).length
theorem playG_ok : ∀ (acs : List ActB) (t : MW × MG × MP), t.1.length ≤ 16 → OkP t.2.2 → (playG t acs).1.length ≤ 16 ∧ (playG t acs).2.1.length ≤ t.2.1.length + acs.length ∧ OkP (playG t acs).2.2 ∧ (playG t acs).2.2.length ≤ t.2.2.length + acs.length
  | [], t, h1, h2 => ⟨h1, Nat.le_refl _, h2, Nat.le_refl _⟩
  | a :: acs, t, h1, h2 => by
    obtain ⟨q1, q2, q3, q4⟩ := playG_ok acs (stepB t a) (putL_len _ _ h1) (ginL_ok _ _ h2)
    have l1 := guardsL_len [a.k] t.2.1
    have l2 := ginL_len [a.p] t.2.2
    unfold playG at *
    rw [List.foldl_cons]
    simp only [List.length_cons, List.length_nil] at *
    refine ⟨q1, ?_, q3, ?_⟩
    · have : (stepB t a).2.1.length ≤ t.2.1.length + 1 := by unfold stepB; simpa using l1
      omega
    · have : (stepB t a).2.2.length ≤ t.2.2.length + 1 := by unfold stepB; simpa using l2
      omega
section
variable {w : World} {B b : Nat} {g : BG}
theorem glen_calls (h : BufAt w B b g) (hlen : g.G.length ≤ 1000) : Calls Tryz.prog 40 #[.pointer (some ⟨b, 0, none⟩)] w fun e w' => ∃ a c, e = .returned (.slice a (gnum g.W g.G) c) ∧ Below w.heap.size w w' := by
  refine (bguards_calls h hlen).mono ?_
  rintro e w' ⟨v', l', rfl, hb, hp, _, ho⟩
  obtain ⟨a, c, rfl, _, _⟩ := ho.form
  refine ⟨a, c, ?_, hb⟩
  rw [List.length_map, hp.length_eq]
  rfl
theorem plen_calls (h : BufAt w B b g) (hlen : g.P.length ≤ 100000) : Calls Tryz.prog 41 #[.pointer (some ⟨b, 0, none⟩)] w fun e w' => ∃ a c, e = .returned (.slice a g.P.length c) ∧ Below w.heap.size w w' := by
  refine (bprefixes_calls h hlen).mono ?_
  rintro e w' ⟨v', rfl, hb, ho⟩
  obtain ⟨a, c, rfl, _, _⟩ := ho.form
  exact ⟨a, c, by rw [List.length_map], hb⟩
theorem wlen_calls (h : BufAt w B b g) : Calls Tryz.prog 39 #[.pointer (some ⟨b, 0, none⟩)] w fun e w' => e = .returned (.int .i64 g.W.length) ∧ Below w.heap.size w w' := blen_gives h
end
set_option maxHeartbeats 20000000 in
theorem copies_walk (w : World) (av mv : Value) (acs ms : List ActB) (ha : ActsAt w w.heap.size av acs) (hm : ActsAt w w.heap.size mv ms) :
    Gives Tryz.prog 7 #[av, mv] w (.bool true) := by
  obtain ⟨aa, ac, rfl, hal⟩ := ha.form
  obtain ⟨ma, mc, rfl, hml⟩ := hm.form
  have HAS := Lib.hid ha
  have HMS := Lib.hid hm
  have HKN := Lib.hid known17_gives
  clear ha hm
  unfold Gives
  go_enter Tryz.func7, Tryz.ntmps7
  go_upto_region 2 with fail
  refine wp_name ?_
  intro W0 hW0
  obtain ⟨b, hb⟩ : ∃ b, b = w.heap.size := ⟨_, rfl⟩
  have hb0 : Below w.heap.size w W0 := by rw [hW0]; exact (by repeat (first | exact below_of_grow _ _ | exact Below.refl _ _ | exact below_more _ _ _ _ | (simp only [← Array.append_assoc]; first | exact below_more _ _ _ _ | exact below_same _ _ _ | exact Below.refl _ _) | exact below_same _ _ _ | (refine Below.alloc ?_ (by first | (simp; done) | (simp; omega)) _) | (refine Below.grow ?_ (by first | (simp; done) | (simp; omega)) _ _) | refine Below.drew ?_ | refine Below.drewN ?_ _ | (refine Below.putF ?_ (by first | (simp; done) | omega | (simp; omega)) _) | (refine Below.setCell ?_ (by first | (simp; done) | (simp; omega)) _)))
  have hA0 : BufAt W0 w.heap.size b emptyB := by rw [hW0, hb]; exact bufNew w
  rw [← hb]
  clear hW0 hb
  have HPL := Lib.hid (play_calls hA0 (Nat.zero_le _) (fun q hq => by simp [emptyB] at hq) (Nat.zero_le _) _ acs (HAS.out.below hb0))
  go_wp2_with fail
  refine HPL.out.mono ?_
  rintro e W1 ⟨rfl, g, hA1, hE1, ht1⟩
  have hB1 : Below w.heap.size w W1 := hb0.trans (hE1.below hA0)
  obtain ⟨k1, k2, k3, k4⟩ := playG_ok (acs.take 20) (trip emptyB) (Nat.zero_le _) (fun q hq => by simp [emptyB, trip] at hq)
  rw [← ht1] at k1 k2 k3 k4
  have hl20 : (acs.take 20).length ≤ 20 := by rw [List.length_take]; omega
  have k1 : g.W.length ≤ 16 := k1
  have k2 : g.G.length ≤ 20 := by
    have : g.G.length ≤ 0 + (acs.take 20).length := k2
    omega
  have k3 : OkP g.P := k3
  have k4 : g.P.length ≤ 20 := by
    have : g.P.length ≤ 0 + (acs.take 20).length := k4
    omega
  have HK := Lib.hid (And.intro k1 (And.intro k2 (And.intro k3 k4)))
  have HC := Lib.hid (Dv.copy_calls hA1 (by omega))
  have H1 := Lib.hid (And.intro hB1 hA1)
  clear hA0 hb0 hA1 hE1 ht1 hB1 k1 k2 k3 k4 hl20 HPL HAS
  go_wp2_with fail
  refine HC.out.mono ?_
  rintro e W2 ⟨c, gc, rfl, hb2, hC2, hcW, hcG, hcP⟩
  have hA2 := H1.out.2.keep hb2
  have hdis : ∀ x ∈ g.blocks b, x ∉ gc.blocks c := fun x hx hx2 => by
    have := H1.out.2.lt x hx
    have := hC2.low x hx2
    omega
  have htc : trip gc = trip g := by unfold trip; rw [hcW, hcG, hcP]
  have HD := Lib.hid (And.intro hdis htc)
  have H2 := Lib.hid (And.intro (H1.out.1.trans (hb2.mono H1.out.1.size)) (And.intro hA2 (hC2.less H1.out.1.size)))
  obtain ⟨nW, hnW⟩ : ∃ n, n = g.W.length := ⟨_, rfl⟩
  obtain ⟨nG, hnG⟩ : ∃ n, n = gnum g.W g.G := ⟨_, rfl⟩
  obtain ⟨nP, hnP⟩ : ∃ n, n = g.P.length := ⟨_, rfl⟩
  have HN := Lib.hid (And.intro hnW (And.intro hnG hnP))
  have HLEN := Lib.hid (fun (W : World) (hA : BufAt W w.heap.size b g) => (⟨by rw [hnW]; exact wlen_calls hA, by rw [hnG]; exact glen_calls hA (by have := HK.out.2.1; omega), by rw [hnP]; exact plen_calls hA (by have := HK.out.2.2.2; omega)⟩ :
    (Calls Tryz.prog 39 #[.pointer (some ⟨b, 0, none⟩)] W fun e w' => e = .returned (.int .i64 nW) ∧ Below W.heap.size W w') ∧
    (Calls Tryz.prog 40 #[.pointer (some ⟨b, 0, none⟩)] W fun e w' => ∃ a c, e = .returned (.slice a nG c) ∧ Below W.heap.size W w') ∧
    (Calls Tryz.prog 41 #[.pointer (some ⟨b, 0, none⟩)] W fun e w' => ∃ a c, e = .returned (.slice a nP c) ∧ Below W.heap.size W w')))
  clear hb2 hC2 hcW hcG hcP hA2 hdis htc hnW hnG hnP HC H1
  go_wp2_with fail
  refine (HLEN.out _ H2.out.2.1).1.mono ?_
  rintro e W3 ⟨rfl, hb3⟩
  have H3 := Lib.hid (And.intro (H2.out.1.trans (hb3.mono H2.out.1.size)) (And.intro (H2.out.2.1.keep hb3) (H2.out.2.2.keep hb3)))
  clear hb3 H2
  go_wp2_with fail
  refine (HLEN.out _ H3.out.2.1).2.1.mono ?_
  rintro e W4 ⟨a18, c18, rfl, hb4⟩
  have H4 := Lib.hid (And.intro (H3.out.1.trans (hb4.mono H3.out.1.size)) (And.intro (H3.out.2.1.keep hb4) (H3.out.2.2.keep hb4)))
  clear hb4 H3
  go_wp2_with fail
  refine (HLEN.out _ H4.out.2.1).2.2.mono ?_
  rintro e W5 ⟨a20, c20, rfl, hb5⟩
  have H5 := Lib.hid (And.intro (H4.out.1.trans (hb5.mono H4.out.1.size)) (And.intro (H4.out.2.1.keep hb5) (H4.out.2.2.keep hb5)))
  clear hb5 H4
  have HW5 := Lib.hid (writes_calls H5.out.2.1 (by have := HK.out.1; omega))
  go_wp2_with fail
  refine HW5.out.mono ?_
  rintro e W6 ⟨v10, rfl, hb6, ho6⟩
  obtain ⟨R, hR⟩ : ∃ R, R = writesB g.W := ⟨_, rfl⟩
  rw [← hR] at ho6
  obtain ⟨a10, c10, rfl, hc10, hm10⟩ := ho6.form
  rw [List.length_map] at *
  have hRl : R.length ≤ 16 := by rw [hR]; unfold writesB; rw [sortK_len, List.length_map]; exact HK.out.1
  have hA6 := H5.out.2.1.keep hb6
  have hbc6 := H5.out.2.2.keep hb6
  have hout10 : ∀ x, (Value.slice a10 R.length c10).ownBlock = some x → x ∉ gc.blocks c := fun x e hx => by
    have h1 := (ho6.lt x e).1
    have := H5.out.2.2.lt x hx
    omega
  have hB6 := H5.out.1.trans (hb6.mono H5.out.1.size)
  have hgc16 : gc.W.length ≤ 16 := by
    have h := congrArg (fun t : MW × MG × MP => t.1) HD.out.2
    have h2 : gc.W = g.W := h
    rw [h2]; exact HK.out.1
  have hgcP : gc.P = g.P := congrArg (fun t : MW × MG × MP => t.2.2) HD.out.2
  have hgcG : gc.G = g.G := congrArg (fun t : MW × MG × MP => t.2.1) HD.out.2
  have HPC := Lib.hid (play_calls hbc6 hgc16 (by rw [hgcP]; exact HK.out.2.2.1) (by rw [hgcP]; have := HK.out.2.2.2; omega) _ ms (HMS.out.below hB6))
  have H6 := Lib.hid (And.intro hB6 (And.intro hA6 (And.intro hbc6 (And.intro ho6 hout10))))
  have HRR := Lib.hid hR
  have hm9 : R.length ≤ 9223372036854775807 := by omega
  clear hb6 ho6 hbc6 hA6 hout10 hB6 hgc16 hgcP hgcG hR HW5 H5 hm10 hc10
  go_wp2_with fail
  refine HPC.out.mono ?_
  rintro e W7 ⟨rfl, gd, hC7, hEc, htd⟩
  have hA7 := H6.out.2.1.keepAll (fun x hx => hEc.1.same x (H6.out.2.1.lt x hx) (HD.out.1 x hx))
  have ho7 : OwnA W7 W5.heap.size 35 79 (.slice a10 R.length c10) (R.map wrtA) := H6.out.2.2.2.1.keep (fun x e _ => hEc.1.same x (H6.out.2.2.2.1.lt x e).2 (H6.out.2.2.2.2 x e))
  have hB7 : Below w.heap.size w W7 := H6.out.1.trans (hEc.below H6.out.2.2.1)
  have hdis7 : ∀ x ∈ gd.blocks c, x ∉ g.blocks b := fun x hx hx2 => by
    rcases hEc.2 x hx with h | h
    · exact HD.out.1 x hx2 h
    · have := H6.out.2.1.lt x hx2; omega
  have htd2 : trip gd = playG (trip g) (ms.take 20) := by rw [htd, HD.out.2]
  have H7 := Lib.hid (And.intro hdis7 htd2)
  have HS := Lib.hid (fun (V : World) (hb : Below W7.heap.size W7 V) => (⟨hB7.trans (hb.mono hB7.size), hA7.keep hb, hC7.keep hb, ho7.below hb⟩ :
    Below w.heap.size w V ∧ BufAt V w.heap.size b g ∧ BufAt V w.heap.size c gd ∧ OwnA V W5.heap.size 35 79 (.slice a10 R.length c10) (R.map wrtA)))
  have hz7 : W6.heap.size ≤ W7.heap.size := hEc.1.size
  clear hA7 ho7 hB7 hdis7 htd htd2 hC7 hEc HPC H6 HD
  have hnn : ∀ n : Nat, ((n : Int) != (n : Int)) = false := fun n => by simp
  have hne : ∀ n : Nat, ((n : Int) == (n : Int)) = true := fun n => by simp
  go_wp2_with fail
  refine (HLEN.out _ (HS.out _ (Below.refl _ _)).2.1).1.mono ?_
  rintro e W8 ⟨rfl, hb8⟩
  have HB8 := Lib.hid hb8
  clear hb8
  go_wp2_with fail
  refine (HLEN.out _ (HS.out _ HB8.out).2.1).2.1.mono ?_
  rintro e W9 ⟨a30, c30, rfl, hb9⟩
  have HB9 := Lib.hid (HB8.out.trans (hb9.mono HB8.out.size))
  clear hb9 HB8
  go_wp2_with fail
  refine (HLEN.out _ (HS.out _ HB9.out).2.1).2.2.mono ?_
  rintro e W10 ⟨a36, c36, rfl, hb10⟩
  have HB10 := Lib.hid (HB9.out.trans (hb10.mono HB9.out.size))
  clear hb10 HB9
  have HW10 := Lib.hid (writes_calls (HS.out _ HB10.out).2.1 (by have := HK.out.1; omega))
  go_wp2_with fail
  refine HW10.out.mono ?_
  rintro e W11 ⟨v11, rfl, hb11, ho11⟩
  rw [← HRR.out] at ho11
  obtain ⟨a11, c11, rfl, hc11, hm11⟩ := ho11.form
  rw [List.length_map] at *
  have HB11 := Lib.hid (HB10.out.trans (hb11.mono HB10.out.size))
  have HO11 := Lib.hid ho11
  clear hb11 ho11 HW10 hc11 hm11 hnn
  go_upto_block 0 with fail
  go_cut [12] (fun _ wx => Hid (Below W11.heap.size W11 wx))
  case first =>
    go_wp2_with fail
    go_loopw [12] (fun s12 wr => ∃ i : Nat, i ≤ R.length ∧ s12 = .int .i64 i ∧ Hid (Below W11.heap.size W11 wr)) (fun s12 _ => R.length - (intOf s12).toNat)
    case atStart => exact ⟨0, Nat.zero_le _, rfl, Lib.hid (Below.refl _ _)⟩
    case round =>
      obtain ⟨i, hi, rfl, HR⟩ := hrel
      by_cases hli : i < R.length
      · have hliI : (i : Int) < R.length := by omega
        have h7 := (HS.out _ (HB11.out.trans (HR.out.mono HB11.out.size))).2.2.2.sl
        have h8 := (HO11.out.below HR.out).sl
        obtain ⟨_, a', cap', he, _, _, hc7⟩ := h7
        simp only [Value.slice.injEq, List.length_map, true_and] at he
        obtain ⟨rfl, rfl⟩ := he
        obtain ⟨q1, o1, rfl, hl1, hcut1⟩ := hc7 (by simp; omega)
        obtain ⟨_, a', cap', he, _, _, hc8⟩ := h8
        simp only [Value.slice.injEq, List.length_map, true_and] at he
        obtain ⟨rfl, rfl⟩ := he
        obtain ⟨q2, o2, rfl, hl2, hcut2⟩ := hc8 (by simp; omega)
        have e1 := hcut1 i (wrtA R[i]) (by simp [hli])
        have e2 := hcut2 i (wrtA R[i]) (by simp [hli])
        generalize R[i] = x at *
        clear hcut1 hcut2 hc7 hc8
        go_wp2_with fail
        apply wp_region_specs (by rfl) [.val _, .val _, .val _, .val _, .val _, .val _, .val _, .val _, .val _] 9 (by rfl) [48, 49, 50, 51, 52, 53, 54, 55, 56] [] [] (by rfl) (by rfl) (by decide) (by decide +kernel) (fun _ _ _ _ _ h => h)
        case hF => intro x; simp only [over, List.foldl_cons, List.foldl_nil, List.setIfInBounds_toArray, List.set_cons_succ, List.set_cons_zero]; exact rfl
        case hops =>
          refine ⟨?o0, ?o1, ?o2, ?o3, ?o4, ?o5, ?o6, ?o7, ?o8, trivial⟩
          case o0 =>
            intro x w1 hH K hK
            obtain ⟨xs, d, rfl⟩ := grow_of_below hH.below
            clear hH
            try simp only [World.grow_drew] at hK ⊢
            try simp only [World.grow_grow] at hK ⊢
            go_simp
            first | (with_reducible refine hK _ _ ?_) | go_wp2_with fail
            exact ⟨_, rfl, rfl, (by first | exact Below.refl _ _ | exact below_same _ _ _ | exact below_more _ _ _ _ | exact below_of_grow _ _), fun h => by cases h⟩
          case o1 =>
            intro x w1 hH K hK
            obtain ⟨xs, d, rfl⟩ := grow_of_below hH.below
            clear hH
            try simp only [World.grow_drew] at hK ⊢
            try simp only [World.grow_grow] at hK ⊢
            go_simp
            first | (with_reducible refine hK _ _ ?_) | go_wp2_with fail
            exact ⟨_, rfl, rfl, (by first | exact Below.refl _ _ | exact below_same _ _ _ | exact below_more _ _ _ _ | exact below_of_grow _ _), fun h => by cases h⟩
          case o2 =>
            intro x w1 hH K hK
            have e48 : x 48 = _ := hH.holds 0 (by decide) (by decide +kernel) 48 rfl
            have e49 : x 49 = _ := hH.holds 1 (by decide) (by decide +kernel) 49 rfl
            obtain ⟨xs, d, rfl⟩ := grow_of_below hH.below
            clear hH
            try simp only [World.grow_drew] at hK ⊢
            try simp only [World.grow_grow] at hK ⊢
            simp only [e48, e49] at hK ⊢
            clear e48 e49
            go_simp
            first | (with_reducible refine hK _ _ ?_) | go_wp2_with fail
            exact ⟨_, rfl, rfl, (by first | exact Below.refl _ _ | exact below_same _ _ _ | exact below_more _ _ _ _ | exact below_of_grow _ _), fun h => by cases h⟩
          case o3 =>
            intro x w1 hH K hK
            have e50 : x 50 = _ := hH.holds 2 (by decide) (by decide +kernel) 50 rfl
            obtain ⟨xs, d, rfl⟩ := grow_of_below hH.below
            clear hH
            try simp only [World.grow_drew] at hK ⊢
            try simp only [World.grow_grow] at hK ⊢
            simp only [e50] at hK ⊢
            clear e50
            go_simp
            first | (with_reducible refine hK _ _ ?_) | go_wp2_with fail
            exact ⟨_, rfl, rfl, (by first | exact Below.refl _ _ | exact below_same _ _ _ | exact below_more _ _ _ _ | exact below_of_grow _ _), fun h => by cases h⟩
          case o4 =>
            intro x w1 hH K hK
            obtain ⟨xs, d, rfl⟩ := grow_of_below hH.below
            clear hH
            try simp only [World.grow_drew] at hK ⊢
            try simp only [World.grow_grow] at hK ⊢
            go_simp
            first | (with_reducible refine hK _ _ ?_) | go_wp2_with fail
            exact ⟨_, rfl, rfl, (by first | exact Below.refl _ _ | exact below_same _ _ _ | exact below_more _ _ _ _ | exact below_of_grow _ _), fun h => by cases h⟩
          case o5 =>
            intro x w1 hH K hK
            obtain ⟨xs, d, rfl⟩ := grow_of_below hH.below
            clear hH
            try simp only [World.grow_drew] at hK ⊢
            try simp only [World.grow_grow] at hK ⊢
            go_simp
            first | (with_reducible refine hK _ _ ?_) | go_wp2_with fail
            exact ⟨_, rfl, rfl, (by first | exact Below.refl _ _ | exact below_same _ _ _ | exact below_more _ _ _ _ | exact below_of_grow _ _), fun h => by cases h⟩
          case o6 =>
            intro x w1 hH K hK
            have e52 : x 52 = _ := hH.holds 4 (by decide) (by decide +kernel) 52 rfl
            have e53 : x 53 = _ := hH.holds 5 (by decide) (by decide +kernel) 53 rfl
            obtain ⟨xs, d, rfl⟩ := grow_of_below hH.below
            clear hH
            try simp only [World.grow_drew] at hK ⊢
            try simp only [World.grow_grow] at hK ⊢
            simp only [e52, e53] at hK ⊢
            clear e52 e53
            go_simp
            first | (with_reducible refine hK _ _ ?_) | go_wp2_with fail
            exact ⟨_, rfl, rfl, (by first | exact Below.refl _ _ | exact below_same _ _ _ | exact below_more _ _ _ _ | exact below_of_grow _ _), fun h => by cases h⟩
          case o7 =>
            intro x w1 hH K hK
            have e54 : x 54 = _ := hH.holds 6 (by decide) (by decide +kernel) 54 rfl
            obtain ⟨xs, d, rfl⟩ := grow_of_below hH.below
            clear hH
            try simp only [World.grow_drew] at hK ⊢
            try simp only [World.grow_grow] at hK ⊢
            simp only [e54] at hK ⊢
            clear e54
            go_simp
            first | (with_reducible refine hK _ _ ?_) | go_wp2_with fail
            exact ⟨_, rfl, rfl, (by first | exact Below.refl _ _ | exact below_same _ _ _ | exact below_more _ _ _ _ | exact below_of_grow _ _), fun h => by cases h⟩
          case o8 =>
            intro x w1 hH K hK
            have e51 : x 51 = _ := hH.holds 3 (by decide) (by decide +kernel) 51 rfl
            have e55 : x 55 = _ := hH.holds 7 (by decide) (by decide +kernel) 55 rfl
            obtain ⟨xs, d, rfl⟩ := grow_of_below hH.below
            clear hH
            try simp only [World.grow_drew] at hK ⊢
            try simp only [World.grow_grow] at hK ⊢
            simp only [e51, e55] at hK ⊢
            clear e51 e55
            go_simp
            first | (with_reducible refine hK _ _ ?_) | go_wp2_with fail
            exact ⟨_, rfl, rfl, (by first | exact Below.refl _ _ | exact below_same _ _ _ | exact below_more _ _ _ _ | exact below_of_grow _ _), fun h => by cases h⟩
        case hend =>
          intro x w1 hH
          have e48 : x 48 = _ := hH.holds 0 (by decide) trivial 48 rfl
          have e49 : x 49 = _ := hH.holds 1 (by decide) trivial 49 rfl
          have e50 : x 50 = _ := hH.holds 2 (by decide) trivial 50 rfl
          have e51 : x 51 = _ := hH.holds 3 (by decide) trivial 51 rfl
          have e52 : x 52 = _ := hH.holds 4 (by decide) trivial 52 rfl
          have e53 : x 53 = _ := hH.holds 5 (by decide) trivial 53 rfl
          have e54 : x 54 = _ := hH.holds 6 (by decide) trivial 54 rfl
          have e55 : x 55 = _ := hH.holds 7 (by decide) trivial 55 rfl
          have e56 : x 56 = _ := hH.holds 8 (by decide) trivial 56 rfl
          obtain ⟨xs, d, rfl⟩ := grow_of_below hH.below
          clear hH
          simp only [e48, e49, e50, e51, e52, e53, e54, e55, e56]; clear e48 e49 e50 e51 e52 e53 e54 e55 e56
          simp only [List.drop_succ_cons, List.drop_nil]
          go_wp2_with fail
          go_roundw
          case rel => exact ⟨i + 1, by omega, by go_num, Lib.hid (HR.out.trans ((show Below wr.heap.size wr _ from (by repeat (first | exact below_of_grow _ _ | exact Below.refl _ _ | exact below_more _ _ _ _ | (simp only [← Array.append_assoc]; first | exact below_more _ _ _ _ | exact below_same _ _ _ | exact Below.refl _ _) | exact below_same _ _ _ | (refine Below.alloc ?_ (by first | (simp; done) | (simp; omega)) _) | (refine Below.grow ?_ (by first | (simp; done) | (simp; omega)) _ _) | refine Below.drew ?_ | refine Below.drewN ?_ _ | (refine Below.putF ?_ (by first | (simp; done) | omega | (simp; omega)) _) | (refine Below.setCell ?_ (by first | (simp; done) | (simp; omega)) _)))).mono HR.out.size |> fun h => h))⟩
          case measure => simp [intOf]; omega
      · have hgn : ¬ (i : Int) < R.length := by omega
        go_wp2_with fail
        go_meet
        exact HR
  case rest =>
    have HB12 := Lib.hid (HB11.out.trans (hcut.out.mono HB11.out.size))
    clear hcut HO11 HRR
    have hA12 := (HS.out _ HB12.out).2.1
    have HCP := Lib.hid (Dv.copy_calls hA12 (by have := HK.out.2.2.2; omega))
    clear hA12
    go_wp2_with fail
    refine HCP.out.mono ?_
    rintro e W13 ⟨dd, gdd, rfl, hb13, hD13, hdW, hdG, hdP⟩
    have HB13 := Lib.hid (HB12.out.trans (hb13.mono HB12.out.size))
    obtain ⟨hw13, hA13, hC13, -⟩ := HS.out _ HB13.out
    have hdb : ∀ x ∈ gdd.blocks dd, x ∉ g.blocks b := fun x hx hx2 => by
      have := hD13.low x hx
      have := (HS.out _ HB12.out).2.1.lt x hx2
      omega
    have HPB := Lib.hid (play_calls hA13 HK.out.1 HK.out.2.2.1 (by have := HK.out.2.2.2; omega) _ ms (HMS.out.below hw13))
    have H13 := Lib.hid (And.intro hw13 (And.intro hA13 (And.intro hC13 (And.intro hD13 (And.intro hdb (And.intro hdW (And.intro hdG hdP)))))))
    clear hb13 hw13 hA13 hC13 hD13 hdb hdW hdG hdP HCP HB12 HB11 HB10
    go_wp2_with fail
    refine HPB.out.mono ?_
    rintro e W14 ⟨rfl, gb, hA14, hEb, htb⟩
    have hC14 := H13.out.2.2.1.keepAll (fun x hx => hEb.1.same x (H13.out.2.2.1.lt x hx) (H7.out.1 x hx))
    have hD14 := H13.out.2.2.2.1.keepAll (fun x hx => hEb.1.same x (H13.out.2.2.2.1.lt x hx) (H13.out.2.2.2.2.1 x hx))
    have hB14 : Below w.heap.size w W14 := H13.out.1.trans (hEb.below H13.out.2.1)
    have hbc : trip gb = trip gd := htb.trans H7.out.2.symm
    have hgl : gd.G.length ≤ 100 := by
      have h1 := (playG_ok (ms.take 20) (trip g) HK.out.1 HK.out.2.2.1).2.1
      rw [← H7.out.2] at h1
      have h2 : (trip g).2.1.length ≤ 20 := HK.out.2.1
      have h3 : (ms.take 20).length ≤ 20 := by rw [List.length_take]; omega
      have h4 : gd.G.length ≤ (trip g).2.1.length + (ms.take 20).length := h1
      omega
    obtain ⟨m1, hm1⟩ : ∃ n, n = gd.W.length := ⟨_, rfl⟩
    obtain ⟨m2, hm2⟩ : ∃ n, n = gnum gd.W gd.G := ⟨_, rfl⟩
    have hbW : gb.W = gd.W := congrArg (fun t : MW × MG × MP => t.1) hbc
    have hbG : gb.G = gd.G := congrArg (fun t : MW × MG × MP => t.2.1) hbc
    have HE := Lib.hid (fun (V : World) (hb : Below W14.heap.size W14 V) => (⟨by rw [HN.out.1, ← H13.out.2.2.2.2.2.1]; exact wlen_calls (hD14.keep hb),
      by rw [HN.out.2.1, ← H13.out.2.2.2.2.2.1, ← H13.out.2.2.2.2.2.2.1]; exact glen_calls (hD14.keep hb) (by rw [H13.out.2.2.2.2.2.2.1]; have := HK.out.2.1; omega),
      by rw [HN.out.2.2, ← H13.out.2.2.2.2.2.2.2]; exact plen_calls (hD14.keep hb) (by rw [H13.out.2.2.2.2.2.2.2]; have := HK.out.2.2.2; omega),
      by rw [hm1, ← hbW]; exact wlen_calls (hA14.keep hb), by rw [hm1]; exact wlen_calls (hC14.keep hb),
      by rw [hm2, ← hbW, ← hbG]; exact glen_calls (hA14.keep hb) (by rw [hbG]; omega), by rw [hm2]; exact glen_calls (hC14.keep hb) (by omega), hB14.trans (hb.mono hB14.size)⟩ :
      (Calls Tryz.prog 39 #[.pointer (some ⟨dd, 0, none⟩)] V fun e w' => e = .returned (.int .i64 nW) ∧ Below V.heap.size V w') ∧
      (Calls Tryz.prog 40 #[.pointer (some ⟨dd, 0, none⟩)] V fun e w' => ∃ a c, e = .returned (.slice a nG c) ∧ Below V.heap.size V w') ∧
      (Calls Tryz.prog 41 #[.pointer (some ⟨dd, 0, none⟩)] V fun e w' => ∃ a c, e = .returned (.slice a nP c) ∧ Below V.heap.size V w') ∧
      (Calls Tryz.prog 39 #[.pointer (some ⟨b, 0, none⟩)] V fun e w' => e = .returned (.int .i64 m1) ∧ Below V.heap.size V w') ∧
      (Calls Tryz.prog 39 #[.pointer (some ⟨c, 0, none⟩)] V fun e w' => e = .returned (.int .i64 m1) ∧ Below V.heap.size V w') ∧
      (Calls Tryz.prog 40 #[.pointer (some ⟨b, 0, none⟩)] V fun e w' => ∃ a c, e = .returned (.slice a m2 c) ∧ Below V.heap.size V w') ∧
      (Calls Tryz.prog 40 #[.pointer (some ⟨c, 0, none⟩)] V fun e w' => ∃ a c, e = .returned (.slice a m2 c) ∧ Below V.heap.size V w') ∧ Below w.heap.size w V))
    clear hC14 hD14 hB14 hbc hgl hm1 hm2 hbW hbG hA14 hEb htb HPB H13 H7 HS HB13 HN HLEN HK HMS
    go_wp2_with fail
    refine Gives.use (HKN.out _) ?_
    intro xs d
    have HB15 := Lib.hid (show Below W14.heap.size W14 (W14.grow xs d) from below_of_grow _ _)
    generalize W14.grow xs d = W15 at *
    go_wp2_with fail
    refine (HE.out _ HB15.out).1.mono ?_
    rintro e W16 ⟨rfl, hb⟩
    have HB16 := Lib.hid (HB15.out.trans (hb.mono HB15.out.size))
    clear hb HB15
    go_wp2_with fail
    refine (HE.out _ HB16.out).2.1.mono ?_
    rintro e W17 ⟨_, _, rfl, hb⟩
    have HB17 := Lib.hid (HB16.out.trans (hb.mono HB16.out.size))
    clear hb HB16
    go_wp2_with fail
    refine (HE.out _ HB17.out).2.2.1.mono ?_
    rintro e W18 ⟨_, _, rfl, hb⟩
    have HB18 := Lib.hid (HB17.out.trans (hb.mono HB17.out.size))
    clear hb HB17
    go_wp2_with fail
    refine (HE.out _ HB18.out).2.2.2.1.mono ?_
    rintro e W19 ⟨rfl, hb⟩
    have HB19 := Lib.hid (HB18.out.trans (hb.mono HB18.out.size))
    clear hb HB18
    go_wp2_with fail
    refine (HE.out _ HB19.out).2.2.2.2.1.mono ?_
    rintro e W20 ⟨rfl, hb⟩
    have HB20 := Lib.hid (HB19.out.trans (hb.mono HB19.out.size))
    clear hb HB19
    go_wp2_with fail
    refine (HE.out _ HB20.out).2.2.2.2.2.1.mono ?_
    rintro e W21 ⟨_, _, rfl, hb⟩
    have HB21 := Lib.hid (HB20.out.trans (hb.mono HB20.out.size))
    clear hb HB20
    go_wp2_with fail
    refine (HE.out _ HB21.out).2.2.2.2.2.2.1.mono ?_
    rintro e W22 ⟨_, _, rfl, hb⟩
    have HB22 := Lib.hid (HE.out _ (HB21.out.trans (hb.mono HB21.out.size))).2.2.2.2.2.2.2
    clear hb HB21
    go_wp2_with fail
    go_ret
    exact ⟨congrArg Ending.returned (by simp), HB22.out⟩
end Go.Proofs.YtfmphfidloobkaaGreatDoor
namespace Go.Proofs.YtfmphfidloobkaaGreatDoor
set_option maxRecDepth 100000
open Go.RowKit

theorem bufferCopies_law (w : World) (v0 v1 : Value) (h0 : Reads Tryz.prog w 91 v0) (h1 : Reads Tryz.prog w 91 v1) : Gives Tryz.prog 7 #[v0, v1] w (.bool true) := by
  obtain ⟨a0, hl0⟩ := acts17_read h0
  obtain ⟨a1, hl1⟩ := acts17_read h1
  exact copies_walk w v0 v1 a0 a1 hl0 hl1

namespace bufferCopies
open Go.ChangeShapes Go.WideShapes Go.ChangeAt Go.RowKit
open Go.ChangeMaps (open_string shut_string)
theorem own : ownKnob Tryz.prog.godebug = none := by kernel_rfl
theorem laidOut : laidOutB Tryz.prog = true := by kernel_rfl
/-- a world in which the listed variables hold what the row says -/
noncomputable def laidW (os : Os) : World := World.laidAll Tryz.prog os Rows.bufferCopiesRow.laid
set_option maxRecDepth 100000 in
theorem door_met (os : Os) (args : Array Value) : laidMetH Tryz.prog Rows.bufferCopiesRow.laid ((laidW os).forCall (fun _ _ => 0) ⟨#[], args, []⟩).memory := by
  rw [MakeChecks.laidMetH_plain _ _ _ (by kernel_rfl)]
  exact laidMet_laidAll args (by kernel_rfl) (by kernel_rfl)
set_option maxRecDepth 100000 in
theorem lifted (os : Os) (started : os.Started) (H : Type) (enc : TypeId × Value → H) :
    ReturnsInHanded {} Tryz.checked os 7 .any (fun w args => (Rows.bufferCopiesSpec.pre enc Tryz.prog Tryz.f7 Rows.bufferCopiesRow.domain false w args ∧ laidMetH Tryz.prog Rows.bufferCopiesRow.laid w) ∧ sizedMet enc Tryz.prog Tryz.f7 (OpenSpec.ofChange Rows.bufferCopiesSpec) false w args) (Rows.bufferCopiesSpec.post enc Tryz.prog Tryz.f7 false true false false) := by
  refine returnsInHanded_of_change_and (C := Tryz.checked) (X := fun w _ => laidMetH Tryz.prog Rows.bufferCopiesRow.laid w) (fun _ _ _ hh h => h.of_heap hh) own started (by kernel_rfl) Tryz.func7
    (ChangeSpec.witness_shaped (enc := enc) (C := Tryz.checked) (os := os) (X := fun w _ => laidMetH Tryz.prog Rows.bufferCopiesRow.laid w) false (laidW os) #[.slice none 0 0, .slice none 0 0] 8 (World.laidAll_os _ _ _) (World.shaped_of_ZipB (by kernel_rfl) (by kernel_rfl)) (by kernel_rfl) (by kernel_rfl) (by kernel_rfl) (door_met os _)) ?_
  intro W base args ds gs before hval0 hW _ _ _ _
  have hval : ∀ (j : Nat) t v, Tryz.f7.params[j]? = some t → args[j]? = some v → Value.okWide Tryz.prog W .any base t v := hval0
  have hW' := hW
  obtain ⟨p, q, hA0, hV, rfl, hfz, hnd⟩ := hW
  have hA : DataW.TrodAll enc Tryz.prog W 0 (fun _ => true) true Tryz.f7.params.toList args.toList ds p := hA0
  rw [Tryz.params7] at hA hval
  obtain ⟨v0, vs0, d0, ds0, p0, q0, hargs, rfl, rfl, h0, r0⟩ := trodAll_cons hA
  obtain ⟨v1, vs1, d1, ds1, p1, q1, rfl, rfl, rfl, h1, r1⟩ := trodAll_cons r0
  obtain ⟨rfl, rfl, rfl⟩ := trodAll_nil r1
  obtain rfl : args = #[v0, v1] := by cases args; simp_all
  obtain ⟨rfl, rfl⟩ := trodVars_none hV
  have lt0 : ∀ x ∈ p0, x.block < W.heap.size := by obtain ⟨m, hm⟩ := h0; exact DataW.trod_lt m _ _ _ hm
  have lt1 : ∀ x ∈ p1, x.block < W.heap.size := by obtain ⟨m, hm⟩ := h1; exact DataW.trod_lt m _ _ _ hm
  clear hA0 hval0
  refine Calls.mono (bufferCopies_law W v0 v1 ⟨⟨_, hval 0 91 v0 rfl rfl⟩, H, enc, _, _, h0⟩ ⟨⟨_, hval 1 91 v1 rfl rfl⟩, H, enc, _, _, h1⟩) fun e W' ⟨he, bel⟩ => ?_
  subst he
  exact ⟨_, rfl, _, _, _, [], _, [], hW', trodAll_mk1 (shut_bool Tryz.underlying4 _), (trodAll_cons_mk (Below.trod laidOut (by kernel_rfl) (of_decide_eq_true (by kernel_rfl)) h0 bel lt0) (trodAll_cons_mk (Below.trod laidOut (by kernel_rfl) (of_decide_eq_true (by kernel_rfl)) h1 bel lt1) trodAll_mk0)), rfl, bel.frame _, fun h => by cases h⟩
theorem fact0 : (Rows.bufferCopiesRow.inPlace == Program.inPlace Tryz.pinned.checked.prog 7) = true := by kernel_rfl
theorem fact1 : (Rows.bufferCopiesRow.unfollowed == Program.unfollowed Tryz.pinned.checked.prog 7) = true := by kernel_rfl
theorem fact2 : (Rows.bufferCopiesRow.recurses == Program.recurses Tryz.pinned.checked.prog 7) = true := by kernel_rfl
theorem fact3 : (Rows.bufferCopiesRow.named == Program.varsNamed Tryz.pinned.checked.prog 7) = true := by kernel_rfl
theorem closed : joinedFacts Tryz.pinned.checked.prog 7 Tryz.f7 Rows.bufferCopiesSpec Rows.bufferCopiesRow = true := by
  unfold joinedFacts
  rw [fact0, fact1, fact2, fact3]
  refine Eq.trans (b := true) ?_ rfl
  kernel_rfl
theorem said : Rows.BufferCopiesSaid :=
  OpenClaim.holds_of_wide 7 Tryz.f7 rfl rfl rfl rfl rfl rfl rfl ⟨rfl, rfl, rfl, rfl, rfl⟩ rfl rfl rfl rfl rfl (by kernel_rfl) Tryz.func7 closed
    (of_decide_eq_true (by kernel_rfl)) (by unfold Func.isWrapper; first | (rw [if_pos (by decide +kernel)]; kernel_rfl) | (rw [if_neg (by decide +kernel)]; exact ⟨rfl, rfl⟩))
    (fun os started H enc _ => lifted os started H enc)
/-- no parameter wants a stand-in; the program's own looks are off -/
theorem plain (f : FuncId) (fn : Func) (hf : Tryz.pinned.checked.prog.funcNamed "vulgate/vulgatelaw17.BufferCopies" = some f) (hfn : Tryz.pinned.checked.prog.funcs[f]? = some fn) :
    true = Tryz.pinned.checked.prog.looks [] ∧ ∀ (j : Nat) t, fn.params[j]? = some t → Tryz.pinned.checked.prog.wantsStandIn t = false := by
  obtain rfl : f = 7 := Option.some.inj ((show Tryz.prog.funcNamed "vulgate/vulgatelaw17.BufferCopies" = some 7 by kernel_rfl).symm.trans hf) |>.symm
  obtain rfl : fn = Tryz.f7 := (Option.some.inj (Tryz.func7.symm.trans hfn)).symm
  refine ⟨by kernel_rfl, fun j t ht => ?_⟩
  rw [Tryz.params7] at ht
  have hm : t ∈ [91, 91] := by simpa using Array.mem_of_getElem? ht
  have hall : ([91, 91].all fun u => !Tryz.prog.wantsStandIn u) = true := by kernel_rfl
  exact (show Tryz.prog.wantsStandIn t = false by simpa using List.all_eq_true.1 hall t hm)
theorem proved : Rows.BufferCopiesCardSaid :=
  Claim7.holds_tied_plain_at .later [] _ _ _ _ said (fun _ h => by cases h) (by kernel_rfl) (fun _ h => by cases h) bufferCopies_row_tie rfl ⟨rfl, rfl⟩ (by kernel_rfl) rfl plain (by kernel_rfl)
#print axioms proved
end bufferCopies
end Go.Proofs.YtfmphfidloobkaaGreatDoor
