/- Layer 6: the text of a key. -/
import Derived.Test.YtpdohgadcepipaaDoorQbc
import Derived.Test.YtpdohgadcepipaaDoorShelf
import Derived.Test.YtpdohgadcepipaaDoorQaj
import Derived.BigRegion
import Derived.Deep.CutBlock
import Derived.Test.YtpdohgadcepipaaDoorQai
import Derived.Lib.AtoiErrMem
import Derived.Handy
import Derived.Deep.Cut
namespace Go.Proofs.YtpdohgadcepipaaDoor
set_option maxRecDepth 100000
open Go.RowKit

theorem itoa_gives (i : Nat) (hi : i < 100) (w : World) : Gives Tryd.prog 22 #[.int .i64 (i : Int)] w (.string (bs (Lib.decDigits i))) :=
  (Tryd.strconv_Itoa_small i hi w).mono fun _ _ h => ⟨h.1, h.2 ▸ Below.refl _ _⟩
theorem join_le {M : Nat} : ∀ {ps : List (List UInt8)}, (∀ p ∈ ps, p.length ≤ M) → (Lib.join ps [47]).length ≤ ps.length * (M + 1)
  | [], _ => by simp [Lib.join_nil]
  | [x], h => by rw [Lib.join_one]; have := h x (by simp); simp; omega
  | x :: y :: r, h => by
    have h1 := h x (by simp)
    have h2 := join_le (ps := y :: r) (fun p hp => h p (List.mem_cons_of_mem _ hp))
    rw [join_two, List.length_append, List.length_cons]
    simp only [List.length_cons] at h2 ⊢
    rw [Nat.add_mul (r.length + 1) 1]
    omega
theorem map_bs (ps : List (List UInt8)) : ps.map ((fun x : ByteArray => x.data.toList) ∘ bs) = ps := by
  induction ps with
  | nil => rfl
  | cons x r ih => rw [List.map_cons, ih]; rfl
theorem join_gives {w : World} {B : Nat} {v : Value} {ps : List (List UInt8)} (h : OwnA w B 1 9 v (ps.map strA)) (hne : 0 < ps.length) (hp : ps.length ≤ 1000) (hM : ∀ p ∈ ps, p.length ≤ 1000000) : Gives Tryd.prog 25 #[v, .string ⟨#[47]⟩] w (.string (bs (Lib.join ps [47]))) := by
  have hsl := h.sl
  obtain ⟨a, cap, rfl, hcm, hcl⟩ := h.form
  rw [List.length_map] at *
  obtain ⟨_, a', cap', e, _, _, hc⟩ := hsl
  rw [List.length_map] at e hc
  simp only [Value.slice.injEq, true_and] at e
  obtain ⟨rfl, rfl⟩ := e
  obtain ⟨b, o, rfl, hb, _⟩ := hc hne
  have hq := Tryd.strings_Join b o cap (ps.map bs) ⟨#[47]⟩ w (strs_cells h.sl) hb (by simp; omega) (by simpa using hcl) (by
    have := join_le hM
    simp only [List.map_map]
    rw [map_bs]
    show (Lib.join ps [47]).length ≤ _
    have h2 : ps.length * (1000000 + 1) ≤ 1000 * (1000000 + 1) := Nat.mul_le_mul_right _ hp
    omega)
  refine Calls.mono ?_ (fun e w' h => h)
  rw [List.length_map] at hq
  refine hq.mono fun e w' hh => ⟨?_, hh.2⟩
  rw [hh.1]
  simp only [List.map_map]
  rw [map_bs]
  rfl
theorem dec_len : ∀ i < 100, (Lib.decDigits i).length ≤ 1000000 := by
  have : ∀ i < 100, (Lib.decDigits i).length ≤ 2 := by decide +kernel
  intro i hi; have := this i hi; omega
theorem nameText_len {n : List UInt8} (hn : n.length = 12) : (nameText n).length ≤ 1000000 := by
  unfold nameText; split
  · have := frontN_len n; omega
  · simp
theorem tagText_len {t : List UInt8} (ht : t.length = 10) : (tagText t).length ≤ 1000000 := by
  unfold tagText; split
  · exact tagPlain_len t ht
  · simp
theorem k_le100 {k : List UInt8} (hr : keyRight k = true) : (byt k 1).toNat < 100 ∧ (0 < usedAt (byt k 0).toNat → (byt k 2).toNat < 100) := by
  obtain ⟨_, _, _, h4, h5⟩ := keyErr_range (right_err hr)
  have hu := usedAt_le (kKind k).toNat
  unfold kKind kProj kAt at *
  refine ⟨by omega, fun h => by have := h5 h; omega⟩
theorem take_two {α : Type} (l : List α) : (l.take 15).drop 3 = (l.drop 3).take 12 := by rw [List.drop_take]
/-- the state between the appends of a key's text: the key's block, the block of what its kind uses, the parts so far -/
structure TextSt (k : List UInt8) (u : Array Value) (w : World) (b1 b3 B : Nat) (ps : List (List UInt8)) (v : Value) (W : World) : Prop where
  key : W.heap[b1]? = some (.cells (row8 k) 33)
  use : W.heap[b3]? = some (.cells u 45)
  own : OwnA W B 1 9 v (ps.map strA)
  bel : Below w.heap.size w W
  l1 : b1 < B
  l3 : b3 < B
  lB : B ≤ W.heap.size
  wB : w.heap.size ≤ B
theorem TextSt.facts {k : List UInt8} (hk : k.length = 25) {x y z : Value} {w : World} {b1 b3 B : Nat} {ps : List (List UInt8)} {v : Value} {W : World} (h : TextSt k #[x, y, z] w b1 b3 B ps v W) :
    W.cell? ⟨b1, 2, none⟩ = some (.int .u8 ((byt k 2).toNat : Int)) ∧ W.cut? b1 3 12 = some (row8 ((k.take 15).drop 3)) ∧ W.cut? b1 15 10 = some (row8 (k.drop 15)) ∧ W.cell? ⟨b3, 0, none⟩ = some x ∧ W.cell? ⟨b3, 1, none⟩ = some y ∧ W.cell? ⟨b3, 2, none⟩ = some z ∧ b1 < W.heap.size ∧ b3 < W.heap.size := by
  have hc := cut_heap h.key (sz := 25) (by simp [hk])
  refine ⟨(cellsK h.key 2).1.trans (row8_get k 2 (by omega)), ?_, ?_, (cellsK h.use 0).1, (cellsK h.use 1).1, (cellsK h.use 2).1, Nat.lt_of_lt_of_le h.l1 h.lB, Nat.lt_of_lt_of_le h.l3 h.lB⟩
  · have := cut_sub hc (i := 3) (m := 12) (by decide)
    rw [Nat.zero_add, row8_extract] at this
    exact this
  · have := cut_sub hc (i := 15) (m := 10) (by decide)
    rw [Nat.zero_add, row8_extract, List.take_of_length_le (by omega)] at this
    exact this
theorem TextSt.next {k : List UInt8} {u : Array Value} {w : World} {b1 b3 B : Nat} {ps qs : List (List UInt8)} {v v3 : Value} {W : World} (h : TextSt k u w b1 b3 B ps v W) {xs : Array Obj} {d : Nat} {o : Obj} {w3 : World}
    (ho : OwnA w3 B 1 9 v3 (qs.map strA)) (hg : ((W.grow xs d).alloc o).grownBy w3 v.ownBlock) : TextSt k u w b1 b3 B qs v3 w3 := by
  have hlt : ∀ g, v.ownBlock = some g → B ≤ g := fun g hq => (h.own.lt g hq).1
  have hs : W.heap.size ≤ ((W.grow xs d).alloc o).heap.size := by simp; omega
  have hb : Below w.heap.size w w3 := Below.grown ((h.bel.grow (Nat.le_trans h.wB h.lB) xs d).alloc (by simp; have := h.lB; have := h.wB; omega) o) hg (by have := h.lB; have := h.wB; omega) (fun q hq => Nat.le_trans h.wB (hlt q hq))
  have keep : ∀ b, b < B → w3.heap[b]? = W.heap[b]? := fun b hbB => by
    have hbW : b < W.heap.size := Nat.lt_of_lt_of_le hbB h.lB
    rw [hg.block b (by omega) (fun e => by have := hlt b e.symm; omega), heap_al, if_neg (by simp; omega)]
    exact World.grow_heap _ _ _ hbW
  exact ⟨(keep b1 h.l1).trans h.key, (keep b3 h.l3).trans h.use, ho, hb, h.l1, h.l3, Nat.le_trans h.lB (Nat.le_trans hs hg.size), h.wB⟩
set_option maxHeartbeats 20000000 in
theorem keyText1 (k : List UInt8) (hk : k.length = 25) (hk0 : byt k 0 = 1) (hr : keyRight k = true) (w : World) : Gives Tryd.prog 12 #[.agg (row8 k)] w (.string (bs (keyText k))) := by
  have hp1 : (byt k 1).toNat < 100 := (k_le100 hr).1
  have htx : keyText k = Lib.join [[112], Lib.decDigits (byt k 1).toNat] [47] := by
    unfold keyText
    rw [if_pos hr]
    unfold keyParts kKind kProj kAt kName kTag
    rw [hk0]
    try rw [take_two]
    rfl
  rw [htx]
  have HR := Lib.hid (keyRight_gives k hk)
  rw [hr] at HR
  have HU := Lib.hid (show ∀ w, Gives Tryd.prog 13 #[.int .i64 1] w (.agg #[.int .i64 0, .bool false, .bool false]) from used_gives 1)
  have HP := Lib.hid (itoa_gives _ hp1)
  have h01 : ((byt k 0).toNat : Int) = 1 := by rw [hk0]; rfl
  clear hr htx hk0
  unfold Gives
  go_enter Tryd.func12, Tryd.ntmps12
  go_wp2_with fail
  refine Gives.use (HR.out _) ?_
  intro xs1 d1
  go_wp2_with fail
  refine Gives.use (HU.out _) ?_
  intro xs2 d2
  go_upto_region 4 with fail
  refine wp_name ?_
  intro W hW
  obtain ⟨b1, hb1⟩ : ∃ b1, b1 = w.heap.size := ⟨_, rfl⟩
  obtain ⟨b3, hb3⟩ : ∃ b3, b3 = w.heap.size + 1 + (xs1.size + xs2.size) := ⟨_, rfl⟩
  have s3 : w.heap.size + 1 ≤ b3 := by omega
  have sW : W.heap.size = b3 + 1 := by rw [hW, hb3]; simp [World.grow_size]
  have hbl : Below w.heap.size w W := by rw [hW]; exact (by repeat (first | exact below_of_grow _ _ | exact Below.refl _ _ | exact below_more _ _ _ _ | (simp only [← Array.append_assoc]; first | exact below_more _ _ _ _ | exact below_same _ _ _ | exact Below.refl _ _) | exact below_same _ _ _ | (refine Below.alloc ?_ (by first | (simp; done) | (simp; omega)) _) | (refine Below.grow ?_ (by first | (simp; done) | (simp; omega)) _ _) | refine Below.drew ?_ | refine Below.drewN ?_ _ | (refine Below.putF ?_ (by first | (simp; done) | omega | (simp; omega)) _) | (refine Below.setCell ?_ (by first | (simp; done) | (simp; omega)) _)))
  have hkk : W.heap[b1]? = some (.cells (row8 k) 33) := by
    rw [hW, heap_al, if_neg (by simp [World.grow_size]; omega), World.grow_heap _ _ _ (by simp; omega), heap_al, if_pos hb1]
  have huu : W.heap[b3]? = some (.cells #[.int .i64 0, .bool false, .bool false] 45) := by
    rw [hW, heap_al, if_pos (by simp [World.grow_size]; omega)]
  have c0 : W.cell? ⟨b1, 0, none⟩ = some (.int .u8 1) := (cellsK hkk 0).1.trans (by rw [row8_get k 0 (by omega), h01])
  have c1 : W.cell? ⟨b1, 1, none⟩ = some (.int .u8 ((byt k 1).toNat : Int)) := (cellsK hkk 1).1.trans (row8_get k 1 (by omega))
  have lW1 : b1 < W.heap.size := by omega
  have wp : IntKind.i64.wrap ((byt k 1).toNat : Int) = (byt k 1).toNat := by have := (byt k 1).toNat_lt; simp [IntKind.wrap, IntKind.bits, IntKind.signed]; omega
  simp only [← hb3]
  simp only [← hb1]
  have HH := Lib.hid (And.intro hb1 (And.intro s3 (And.intro sW (And.intro hbl (And.intro hkk huu)))))
  clear hW h01 hb3 hb1 s3 sW hbl hkk huu
  apply wp_region_specs (by rfl) [.val _, .val _, .val _, .val _, .val _, .val _, .val _, .val _, .val _, .val _, .rel (fun v W' => OwnA W' W.heap.size 1 9 v ([[112], Lib.decDigits (byt k 1).toNat].map strA))] 11 (by rfl) [12, 13, 14, 15, 16, 17, 18, 19, 20, 21, 22] [] [] (by rfl) (by rfl) (by decide) (by decide +kernel) (fun _ _ _ _ _ h => h)
  case hF => intro x; simp only [over, List.foldl_cons, List.foldl_nil, List.setIfInBounds_toArray, List.set_cons_succ, List.set_cons_zero]; exact rfl
  case hops =>
    refine ⟨?o0, ?o1, ?o2, ?o3, ?o4, ?o5, ?o6, ?o7, ?o8, ?o9, ?o10, trivial⟩
    case o0 =>
      intro x w1 hH K hK
      obtain ⟨xs, d, rfl⟩ := grow_of_below hH.below
      clear hH
      try simp only [World.grow_drew] at hK ⊢
      try simp only [World.grow_grow] at hK ⊢
      go_simp
      go_wp2_with fail
      exact ⟨_, rfl, rfl, (by repeat (first | exact below_of_grow _ _ | exact Below.refl _ _ | exact below_more _ _ _ _ | (simp only [← Array.append_assoc]; first | exact below_more _ _ _ _ | exact below_same _ _ _ | exact Below.refl _ _) | exact below_same _ _ _ | (refine Below.alloc ?_ (by first | (simp; done) | (simp; omega)) _) | (refine Below.grow ?_ (by first | (simp; done) | (simp; omega)) _ _) | refine Below.drew ?_ | refine Below.drewN ?_ _ | (refine Below.putF ?_ (by first | (simp; done) | omega | (simp; omega)) _) | (refine Below.setCell ?_ (by first | (simp; done) | (simp; omega)) _))), fun h => by cases h⟩
    case o1 =>
      intro x w1 hH K hK
      have e12 : x 12 = _ := hH.holds 0 (by decide) (by decide +kernel) 12 rfl
      obtain ⟨xs, d, rfl⟩ := grow_of_below hH.below
      clear hH
      try simp only [World.grow_drew] at hK ⊢
      try simp only [World.grow_grow] at hK ⊢
      simp only [e12] at hK ⊢
      clear e12
      go_simp
      go_wp2_with fail
      exact ⟨_, rfl, rfl, (by repeat (first | exact below_of_grow _ _ | exact Below.refl _ _ | exact below_more _ _ _ _ | (simp only [← Array.append_assoc]; first | exact below_more _ _ _ _ | exact below_same _ _ _ | exact Below.refl _ _) | exact below_same _ _ _ | (refine Below.alloc ?_ (by first | (simp; done) | (simp; omega)) _) | (refine Below.grow ?_ (by first | (simp; done) | (simp; omega)) _ _) | refine Below.drew ?_ | refine Below.drewN ?_ _ | (refine Below.putF ?_ (by first | (simp; done) | omega | (simp; omega)) _) | (refine Below.setCell ?_ (by first | (simp; done) | (simp; omega)) _))), fun h => by cases h⟩
    case o2 =>
      intro x w1 hH K hK
      have e13 : x 13 = _ := hH.holds 1 (by decide) (by decide +kernel) 13 rfl
      obtain ⟨xs, d, rfl⟩ := grow_of_below hH.below
      clear hH
      try simp only [World.grow_drew] at hK ⊢
      try simp only [World.grow_grow] at hK ⊢
      simp only [e13] at hK ⊢
      clear e13
      go_simp
      go_wp2_with fail
      exact ⟨_, rfl, rfl, (by repeat (first | exact below_of_grow _ _ | exact Below.refl _ _ | exact below_more _ _ _ _ | (simp only [← Array.append_assoc]; first | exact below_more _ _ _ _ | exact below_same _ _ _ | exact Below.refl _ _) | exact below_same _ _ _ | (refine Below.alloc ?_ (by first | (simp; done) | (simp; omega)) _) | (refine Below.grow ?_ (by first | (simp; done) | (simp; omega)) _ _) | refine Below.drew ?_ | refine Below.drewN ?_ _ | (refine Below.putF ?_ (by first | (simp; done) | omega | (simp; omega)) _) | (refine Below.setCell ?_ (by first | (simp; done) | (simp; omega)) _))), fun h => by cases h⟩
    case o3 =>
      intro x w1 hH K hK
      obtain ⟨xs, d, rfl⟩ := grow_of_below hH.below
      clear hH
      try simp only [World.grow_drew] at hK ⊢
      try simp only [World.grow_grow] at hK ⊢
      go_simp
      go_wp2_with fail
      exact ⟨_, rfl, rfl, (by repeat (first | exact below_of_grow _ _ | exact Below.refl _ _ | exact below_more _ _ _ _ | (simp only [← Array.append_assoc]; first | exact below_more _ _ _ _ | exact below_same _ _ _ | exact Below.refl _ _) | exact below_same _ _ _ | (refine Below.alloc ?_ (by first | (simp; done) | (simp; omega)) _) | (refine Below.grow ?_ (by first | (simp; done) | (simp; omega)) _ _) | refine Below.drew ?_ | refine Below.drewN ?_ _ | (refine Below.putF ?_ (by first | (simp; done) | omega | (simp; omega)) _) | (refine Below.setCell ?_ (by first | (simp; done) | (simp; omega)) _))), fun h => by cases h⟩
    case o4 =>
      intro x w1 hH K hK
      have e15 : x 15 = _ := hH.holds 3 (by decide) (by decide +kernel) 15 rfl
      obtain ⟨xs, d, rfl⟩ := grow_of_below hH.below
      clear hH
      try simp only [World.grow_drew] at hK ⊢
      try simp only [World.grow_grow] at hK ⊢
      simp only [e15] at hK ⊢
      clear e15
      go_simp
      go_wp2_with fail
      exact ⟨_, rfl, rfl, (by repeat (first | exact below_of_grow _ _ | exact Below.refl _ _ | exact below_more _ _ _ _ | (simp only [← Array.append_assoc]; first | exact below_more _ _ _ _ | exact below_same _ _ _ | exact Below.refl _ _) | exact below_same _ _ _ | (refine Below.alloc ?_ (by first | (simp; done) | (simp; omega)) _) | (refine Below.grow ?_ (by first | (simp; done) | (simp; omega)) _ _) | refine Below.drew ?_ | refine Below.drewN ?_ _ | (refine Below.putF ?_ (by first | (simp; done) | omega | (simp; omega)) _) | (refine Below.setCell ?_ (by first | (simp; done) | (simp; omega)) _))), fun h => by cases h⟩
    case o5 =>
      intro x w1 hH K hK
      have e14 : x 14 = _ := hH.holds 2 (by decide) (by decide +kernel) 14 rfl
      have e16 : x 16 = _ := hH.holds 4 (by decide) (by decide +kernel) 16 rfl
      obtain ⟨xs, d, rfl⟩ := grow_of_below hH.below
      clear hH
      try simp only [World.grow_drew] at hK ⊢
      try simp only [World.grow_grow] at hK ⊢
      simp only [e14, e16] at hK ⊢
      clear e14 e16
      go_simp
      go_wp2_with fail
      exact ⟨_, rfl, rfl, (by repeat (first | exact below_of_grow _ _ | exact Below.refl _ _ | exact below_more _ _ _ _ | (simp only [← Array.append_assoc]; first | exact below_more _ _ _ _ | exact below_same _ _ _ | exact Below.refl _ _) | exact below_same _ _ _ | (refine Below.alloc ?_ (by first | (simp; done) | (simp; omega)) _) | (refine Below.grow ?_ (by first | (simp; done) | (simp; omega)) _ _) | refine Below.drew ?_ | refine Below.drewN ?_ _ | (refine Below.putF ?_ (by first | (simp; done) | omega | (simp; omega)) _) | (refine Below.setCell ?_ (by first | (simp; done) | (simp; omega)) _))), fun h => by cases h⟩
    case o6 =>
      intro x w1 hH K hK
      obtain ⟨xs, d, rfl⟩ := grow_of_below hH.below
      clear hH
      try simp only [World.grow_drew] at hK ⊢
      try simp only [World.grow_grow] at hK ⊢
      go_simp
      go_wp2_with fail
      exact ⟨_, rfl, rfl, (by repeat (first | exact below_of_grow _ _ | exact Below.refl _ _ | exact below_more _ _ _ _ | (simp only [← Array.append_assoc]; first | exact below_more _ _ _ _ | exact below_same _ _ _ | exact Below.refl _ _) | exact below_same _ _ _ | (refine Below.alloc ?_ (by first | (simp; done) | (simp; omega)) _) | (refine Below.grow ?_ (by first | (simp; done) | (simp; omega)) _ _) | refine Below.drew ?_ | refine Below.drewN ?_ _ | (refine Below.putF ?_ (by first | (simp; done) | omega | (simp; omega)) _) | (refine Below.setCell ?_ (by first | (simp; done) | (simp; omega)) _))), fun h => by cases h⟩
    case o7 =>
      intro x w1 hH K hK
      have e18 : x 18 = _ := hH.holds 6 (by decide) (by decide +kernel) 18 rfl
      obtain ⟨xs, d, rfl⟩ := grow_of_below hH.below
      clear hH
      try simp only [World.grow_drew] at hK ⊢
      try simp only [World.grow_grow] at hK ⊢
      simp only [e18] at hK ⊢
      clear e18
      go_simp
      go_wp2_with fail
      exact ⟨_, rfl, rfl, (by repeat (first | exact below_of_grow _ _ | exact Below.refl _ _ | exact below_more _ _ _ _ | (simp only [← Array.append_assoc]; first | exact below_more _ _ _ _ | exact below_same _ _ _ | exact Below.refl _ _) | exact below_same _ _ _ | (refine Below.alloc ?_ (by first | (simp; done) | (simp; omega)) _) | (refine Below.grow ?_ (by first | (simp; done) | (simp; omega)) _ _) | refine Below.drew ?_ | refine Below.drewN ?_ _ | (refine Below.putF ?_ (by first | (simp; done) | omega | (simp; omega)) _) | (refine Below.setCell ?_ (by first | (simp; done) | (simp; omega)) _))), fun h => by cases h⟩
    case o8 =>
      intro x w1 hH K hK
      have e19 : x 19 = _ := hH.holds 7 (by decide) (by decide +kernel) 19 rfl
      obtain ⟨xs, d, rfl⟩ := grow_of_below hH.below
      clear hH
      try simp only [World.grow_drew] at hK ⊢
      try simp only [World.grow_grow] at hK ⊢
      simp only [e19] at hK ⊢
      clear e19
      go_simp
      go_wp2_with fail
      exact ⟨_, rfl, rfl, (by repeat (first | exact below_of_grow _ _ | exact Below.refl _ _ | exact below_more _ _ _ _ | (simp only [← Array.append_assoc]; first | exact below_more _ _ _ _ | exact below_same _ _ _ | exact Below.refl _ _) | exact below_same _ _ _ | (refine Below.alloc ?_ (by first | (simp; done) | (simp; omega)) _) | (refine Below.grow ?_ (by first | (simp; done) | (simp; omega)) _ _) | refine Below.drew ?_ | refine Below.drewN ?_ _ | (refine Below.putF ?_ (by first | (simp; done) | omega | (simp; omega)) _) | (refine Below.setCell ?_ (by first | (simp; done) | (simp; omega)) _))), fun h => by cases h⟩
    case o9 =>
      intro x w1 hH K hK
      have e20 : x 20 = _ := hH.holds 8 (by decide) (by decide +kernel) 20 rfl
      obtain ⟨xs, d, rfl⟩ := grow_of_below hH.below
      clear hH
      try simp only [World.grow_drew] at hK ⊢
      try simp only [World.grow_grow] at hK ⊢
      simp only [e20] at hK ⊢
      clear e20
      go_simp
      go_wp2_with (refine Gives.use (HP.out _) ?_; intro ys e)
      exact ⟨_, rfl, rfl, (by first | exact below_more _ _ _ _ | exact (by repeat (first | exact below_of_grow _ _ | exact Below.refl _ _ | exact below_more _ _ _ _ | (simp only [← Array.append_assoc]; first | exact below_more _ _ _ _ | exact below_same _ _ _ | exact Below.refl _ _) | exact below_same _ _ _ | (refine Below.alloc ?_ (by first | (simp; done) | (simp; omega)) _) | (refine Below.grow ?_ (by first | (simp; done) | (simp; omega)) _ _) | refine Below.drew ?_ | refine Below.drewN ?_ _ | (refine Below.putF ?_ (by first | (simp; done) | omega | (simp; omega)) _) | (refine Below.setCell ?_ (by first | (simp; done) | (simp; omega)) _)))), fun h => by cases h⟩
    case o10 =>
      intro x w1 hH K hK
      have e17 : x 17 = _ := hH.holds 5 (by decide) (by decide +kernel) 17 rfl
      have e21 : x 21 = _ := hH.holds 9 (by decide) (by decide +kernel) 21 rfl
      obtain ⟨xs, d, rfl⟩ := grow_of_below hH.below
      clear hH
      try simp only [World.grow_drew] at hK ⊢
      try simp only [World.grow_grow] at hK ⊢
      simp only [e17, e21] at hK ⊢
      clear e17 e21
      go_simp
      go_wp2_with fail
      refine ⟨_, rfl, fun w3 h3 => OwnA.below (own_block (g := _) ?_ ?_ (by simp [strA]) (by simp)) h3, (by repeat (first | exact below_of_grow _ _ | exact Below.refl _ _ | exact below_more _ _ _ _ | (simp only [← Array.append_assoc]; first | exact below_more _ _ _ _ | exact below_same _ _ _ | exact Below.refl _ _) | exact below_same _ _ _ | (refine Below.alloc ?_ (by first | (simp; done) | (simp; omega)) _) | (refine Below.grow ?_ (by first | (simp; done) | (simp; omega)) _ _) | refine Below.drew ?_ | refine Below.drewN ?_ _ | (refine Below.putF ?_ (by first | (simp; done) | omega | (simp; omega)) _) | (refine Below.setCell ?_ (by first | (simp; done) | (simp; omega)) _))), fun h => by cases h⟩
      · rw [heap_al, if_pos (by simp)]; rfl
      · simp
  case hend =>
    intro x w1 hH
    have e12 : x 12 = _ := hH.holds 0 (by decide) trivial 12 rfl
    have e13 : x 13 = _ := hH.holds 1 (by decide) trivial 13 rfl
    have e14 : x 14 = _ := hH.holds 2 (by decide) trivial 14 rfl
    have e15 : x 15 = _ := hH.holds 3 (by decide) trivial 15 rfl
    have e16 : x 16 = _ := hH.holds 4 (by decide) trivial 16 rfl
    have e17 : x 17 = _ := hH.holds 5 (by decide) trivial 17 rfl
    have e18 : x 18 = _ := hH.holds 6 (by decide) trivial 18 rfl
    have e19 : x 19 = _ := hH.holds 7 (by decide) trivial 19 rfl
    have e20 : x 20 = _ := hH.holds 8 (by decide) trivial 20 rfl
    have e21 : x 21 = _ := hH.holds 9 (by decide) trivial 21 rfl
    have r22 := hH.holds 10 (by decide) trivial 22 rfl (_) (Below.refl _ _)
    obtain ⟨xs, d, rfl⟩ := grow_of_below hH.below
    clear hH
    simp only [e12, e13, e14, e15, e16, e17, e18, e19, e20, e21]; clear e12 e13 e14 e15 e16 e17 e18 e19 e20 e21
    simp only [List.drop_succ_cons, List.drop_zero]

    obtain ⟨v0, hv0⟩ : ∃ v0, v0 = x 22 := ⟨_, rfl⟩
    rw [← hv0] at r22 ⊢
    clear hv0 c0 c1 lW1 wp HP
    go_upto_region 5 with fail
    refine wp_name ?_
    intro W0 hW0
    have st : TextSt k #[.int .i64 0, .bool false, .bool false] w b1 b3 W.heap.size [[112], Lib.decDigits (byt k 1).toNat] v0 W0 := by
      rw [hW0]
      obtain ⟨e1, e3, eW, ebl, ek, eu⟩ := HH.out
      exact ⟨(World.grow_heap _ _ _ (by show b1 < W.heap.size; omega)).trans ek, (World.grow_heap _ _ _ (by show b3 < W.heap.size; omega)).trans eu, r22, ebl.drew.grow (by show w.heap.size ≤ W.heap.size; omega) _ _, by omega, by omega, by rw [World.grow_size]; show W.heap.size ≤ W.heap.size + _; omega, by omega⟩
    generalize W.heap.size = BB at st
    clear hW0 r22 HH W
    obtain ⟨f2, f3, f4, f5, f6, f7, l1, l3⟩ := st.facts hk
    have ST := Lib.hid st
    clear st
    have HJ := Lib.hid (join_gives ST.out.own (by simp) (by simp) (by
      intro p hp
      simp only [List.mem_cons, List.not_mem_nil, or_false] at hp
      rcases hp with rfl | rfl
      · simp
      · exact  dec_len _ hp1))
    go_wp2_with fail
    refine Gives.use HJ.out ?_
    intro yz dz
    go_wp2_with fail
    go_ret
    exact ⟨rfl, ST.out.bel.grow (Nat.le_trans ST.out.wB ST.out.lB) _ _⟩
set_option maxHeartbeats 20000000 in
theorem keyText2 (k : List UInt8) (hk : k.length = 25) (hk0 : byt k 0 = 2) (hr : keyRight k = true) (w : World) : Gives Tryd.prog 12 #[.agg (row8 k)] w (.string (bs (keyText k))) := by
  have hp1 : (byt k 1).toNat < 100 := (k_le100 hr).1
  have hp2 : (byt k 2).toNat < 100 := (k_le100 hr).2 (by rw [hk0]; decide)
  have htx : keyText k = Lib.join [[103], Lib.decDigits (byt k 1).toNat, Lib.decDigits (byt k 2).toNat] [47] := by
    unfold keyText
    rw [if_pos hr]
    unfold keyParts kKind kProj kAt kName kTag
    rw [hk0]
    try rw [take_two]
    rfl
  rw [htx]
  have HR := Lib.hid (keyRight_gives k hk)
  rw [hr] at HR
  have HU := Lib.hid (show ∀ w, Gives Tryd.prog 13 #[.int .i64 2] w (.agg #[.int .i64 16, .bool false, .bool false]) from used_gives 2)
  have HP := Lib.hid (itoa_gives _ hp1)
  have HA := Lib.hid (itoa_gives _ hp2)
  have h01 : ((byt k 0).toNat : Int) = 2 := by rw [hk0]; rfl
  clear hr htx hk0
  unfold Gives
  go_enter Tryd.func12, Tryd.ntmps12
  go_wp2_with fail
  refine Gives.use (HR.out _) ?_
  intro xs1 d1
  go_wp2_with fail
  refine Gives.use (HU.out _) ?_
  intro xs2 d2
  go_upto_region 4 with fail
  refine wp_name ?_
  intro W hW
  obtain ⟨b1, hb1⟩ : ∃ b1, b1 = w.heap.size := ⟨_, rfl⟩
  obtain ⟨b3, hb3⟩ : ∃ b3, b3 = w.heap.size + 1 + (xs1.size + xs2.size) := ⟨_, rfl⟩
  have s3 : w.heap.size + 1 ≤ b3 := by omega
  have sW : W.heap.size = b3 + 1 := by rw [hW, hb3]; simp [World.grow_size]
  have hbl : Below w.heap.size w W := by rw [hW]; exact (by repeat (first | exact below_of_grow _ _ | exact Below.refl _ _ | exact below_more _ _ _ _ | (simp only [← Array.append_assoc]; first | exact below_more _ _ _ _ | exact below_same _ _ _ | exact Below.refl _ _) | exact below_same _ _ _ | (refine Below.alloc ?_ (by first | (simp; done) | (simp; omega)) _) | (refine Below.grow ?_ (by first | (simp; done) | (simp; omega)) _ _) | refine Below.drew ?_ | refine Below.drewN ?_ _ | (refine Below.putF ?_ (by first | (simp; done) | omega | (simp; omega)) _) | (refine Below.setCell ?_ (by first | (simp; done) | (simp; omega)) _)))
  have hkk : W.heap[b1]? = some (.cells (row8 k) 33) := by
    rw [hW, heap_al, if_neg (by simp [World.grow_size]; omega), World.grow_heap _ _ _ (by simp; omega), heap_al, if_pos hb1]
  have huu : W.heap[b3]? = some (.cells #[.int .i64 16, .bool false, .bool false] 45) := by
    rw [hW, heap_al, if_pos (by simp [World.grow_size]; omega)]
  have c0 : W.cell? ⟨b1, 0, none⟩ = some (.int .u8 2) := (cellsK hkk 0).1.trans (by rw [row8_get k 0 (by omega), h01])
  have c1 : W.cell? ⟨b1, 1, none⟩ = some (.int .u8 ((byt k 1).toNat : Int)) := (cellsK hkk 1).1.trans (row8_get k 1 (by omega))
  have lW1 : b1 < W.heap.size := by omega
  have wp : IntKind.i64.wrap ((byt k 1).toNat : Int) = (byt k 1).toNat := by have := (byt k 1).toNat_lt; simp [IntKind.wrap, IntKind.bits, IntKind.signed]; omega
  simp only [← hb3]
  simp only [← hb1]
  have HH := Lib.hid (And.intro hb1 (And.intro s3 (And.intro sW (And.intro hbl (And.intro hkk huu)))))
  clear hW h01 hb3 hb1 s3 sW hbl hkk huu
  apply wp_region_specs (by rfl) [.val _, .val _, .val _, .val _, .val _, .val _, .val _, .val _, .val _, .val _, .rel (fun v W' => OwnA W' W.heap.size 1 9 v ([[103], Lib.decDigits (byt k 1).toNat].map strA))] 11 (by rfl) [12, 13, 14, 15, 16, 17, 18, 19, 20, 21, 22] [] [] (by rfl) (by rfl) (by decide) (by decide +kernel) (fun _ _ _ _ _ h => h)
  case hF => intro x; simp only [over, List.foldl_cons, List.foldl_nil, List.setIfInBounds_toArray, List.set_cons_succ, List.set_cons_zero]; exact rfl
  case hops =>
    refine ⟨?o0, ?o1, ?o2, ?o3, ?o4, ?o5, ?o6, ?o7, ?o8, ?o9, ?o10, trivial⟩
    case o0 =>
      intro x w1 hH K hK
      obtain ⟨xs, d, rfl⟩ := grow_of_below hH.below
      clear hH
      try simp only [World.grow_drew] at hK ⊢
      try simp only [World.grow_grow] at hK ⊢
      go_simp
      go_wp2_with fail
      exact ⟨_, rfl, rfl, (by repeat (first | exact below_of_grow _ _ | exact Below.refl _ _ | exact below_more _ _ _ _ | (simp only [← Array.append_assoc]; first | exact below_more _ _ _ _ | exact below_same _ _ _ | exact Below.refl _ _) | exact below_same _ _ _ | (refine Below.alloc ?_ (by first | (simp; done) | (simp; omega)) _) | (refine Below.grow ?_ (by first | (simp; done) | (simp; omega)) _ _) | refine Below.drew ?_ | refine Below.drewN ?_ _ | (refine Below.putF ?_ (by first | (simp; done) | omega | (simp; omega)) _) | (refine Below.setCell ?_ (by first | (simp; done) | (simp; omega)) _))), fun h => by cases h⟩
    case o1 =>
      intro x w1 hH K hK
      have e12 : x 12 = _ := hH.holds 0 (by decide) (by decide +kernel) 12 rfl
      obtain ⟨xs, d, rfl⟩ := grow_of_below hH.below
      clear hH
      try simp only [World.grow_drew] at hK ⊢
      try simp only [World.grow_grow] at hK ⊢
      simp only [e12] at hK ⊢
      clear e12
      go_simp
      go_wp2_with fail
      exact ⟨_, rfl, rfl, (by repeat (first | exact below_of_grow _ _ | exact Below.refl _ _ | exact below_more _ _ _ _ | (simp only [← Array.append_assoc]; first | exact below_more _ _ _ _ | exact below_same _ _ _ | exact Below.refl _ _) | exact below_same _ _ _ | (refine Below.alloc ?_ (by first | (simp; done) | (simp; omega)) _) | (refine Below.grow ?_ (by first | (simp; done) | (simp; omega)) _ _) | refine Below.drew ?_ | refine Below.drewN ?_ _ | (refine Below.putF ?_ (by first | (simp; done) | omega | (simp; omega)) _) | (refine Below.setCell ?_ (by first | (simp; done) | (simp; omega)) _))), fun h => by cases h⟩
    case o2 =>
      intro x w1 hH K hK
      have e13 : x 13 = _ := hH.holds 1 (by decide) (by decide +kernel) 13 rfl
      obtain ⟨xs, d, rfl⟩ := grow_of_below hH.below
      clear hH
      try simp only [World.grow_drew] at hK ⊢
      try simp only [World.grow_grow] at hK ⊢
      simp only [e13] at hK ⊢
      clear e13
      go_simp
      go_wp2_with fail
      exact ⟨_, rfl, rfl, (by repeat (first | exact below_of_grow _ _ | exact Below.refl _ _ | exact below_more _ _ _ _ | (simp only [← Array.append_assoc]; first | exact below_more _ _ _ _ | exact below_same _ _ _ | exact Below.refl _ _) | exact below_same _ _ _ | (refine Below.alloc ?_ (by first | (simp; done) | (simp; omega)) _) | (refine Below.grow ?_ (by first | (simp; done) | (simp; omega)) _ _) | refine Below.drew ?_ | refine Below.drewN ?_ _ | (refine Below.putF ?_ (by first | (simp; done) | omega | (simp; omega)) _) | (refine Below.setCell ?_ (by first | (simp; done) | (simp; omega)) _))), fun h => by cases h⟩
    case o3 =>
      intro x w1 hH K hK
      obtain ⟨xs, d, rfl⟩ := grow_of_below hH.below
      clear hH
      try simp only [World.grow_drew] at hK ⊢
      try simp only [World.grow_grow] at hK ⊢
      go_simp
      go_wp2_with fail
      exact ⟨_, rfl, rfl, (by repeat (first | exact below_of_grow _ _ | exact Below.refl _ _ | exact below_more _ _ _ _ | (simp only [← Array.append_assoc]; first | exact below_more _ _ _ _ | exact below_same _ _ _ | exact Below.refl _ _) | exact below_same _ _ _ | (refine Below.alloc ?_ (by first | (simp; done) | (simp; omega)) _) | (refine Below.grow ?_ (by first | (simp; done) | (simp; omega)) _ _) | refine Below.drew ?_ | refine Below.drewN ?_ _ | (refine Below.putF ?_ (by first | (simp; done) | omega | (simp; omega)) _) | (refine Below.setCell ?_ (by first | (simp; done) | (simp; omega)) _))), fun h => by cases h⟩
    case o4 =>
      intro x w1 hH K hK
      have e15 : x 15 = _ := hH.holds 3 (by decide) (by decide +kernel) 15 rfl
      obtain ⟨xs, d, rfl⟩ := grow_of_below hH.below
      clear hH
      try simp only [World.grow_drew] at hK ⊢
      try simp only [World.grow_grow] at hK ⊢
      simp only [e15] at hK ⊢
      clear e15
      go_simp
      go_wp2_with fail
      exact ⟨_, rfl, rfl, (by repeat (first | exact below_of_grow _ _ | exact Below.refl _ _ | exact below_more _ _ _ _ | (simp only [← Array.append_assoc]; first | exact below_more _ _ _ _ | exact below_same _ _ _ | exact Below.refl _ _) | exact below_same _ _ _ | (refine Below.alloc ?_ (by first | (simp; done) | (simp; omega)) _) | (refine Below.grow ?_ (by first | (simp; done) | (simp; omega)) _ _) | refine Below.drew ?_ | refine Below.drewN ?_ _ | (refine Below.putF ?_ (by first | (simp; done) | omega | (simp; omega)) _) | (refine Below.setCell ?_ (by first | (simp; done) | (simp; omega)) _))), fun h => by cases h⟩
    case o5 =>
      intro x w1 hH K hK
      have e14 : x 14 = _ := hH.holds 2 (by decide) (by decide +kernel) 14 rfl
      have e16 : x 16 = _ := hH.holds 4 (by decide) (by decide +kernel) 16 rfl
      obtain ⟨xs, d, rfl⟩ := grow_of_below hH.below
      clear hH
      try simp only [World.grow_drew] at hK ⊢
      try simp only [World.grow_grow] at hK ⊢
      simp only [e14, e16] at hK ⊢
      clear e14 e16
      go_simp
      go_wp2_with fail
      exact ⟨_, rfl, rfl, (by repeat (first | exact below_of_grow _ _ | exact Below.refl _ _ | exact below_more _ _ _ _ | (simp only [← Array.append_assoc]; first | exact below_more _ _ _ _ | exact below_same _ _ _ | exact Below.refl _ _) | exact below_same _ _ _ | (refine Below.alloc ?_ (by first | (simp; done) | (simp; omega)) _) | (refine Below.grow ?_ (by first | (simp; done) | (simp; omega)) _ _) | refine Below.drew ?_ | refine Below.drewN ?_ _ | (refine Below.putF ?_ (by first | (simp; done) | omega | (simp; omega)) _) | (refine Below.setCell ?_ (by first | (simp; done) | (simp; omega)) _))), fun h => by cases h⟩
    case o6 =>
      intro x w1 hH K hK
      obtain ⟨xs, d, rfl⟩ := grow_of_below hH.below
      clear hH
      try simp only [World.grow_drew] at hK ⊢
      try simp only [World.grow_grow] at hK ⊢
      go_simp
      go_wp2_with fail
      exact ⟨_, rfl, rfl, (by repeat (first | exact below_of_grow _ _ | exact Below.refl _ _ | exact below_more _ _ _ _ | (simp only [← Array.append_assoc]; first | exact below_more _ _ _ _ | exact below_same _ _ _ | exact Below.refl _ _) | exact below_same _ _ _ | (refine Below.alloc ?_ (by first | (simp; done) | (simp; omega)) _) | (refine Below.grow ?_ (by first | (simp; done) | (simp; omega)) _ _) | refine Below.drew ?_ | refine Below.drewN ?_ _ | (refine Below.putF ?_ (by first | (simp; done) | omega | (simp; omega)) _) | (refine Below.setCell ?_ (by first | (simp; done) | (simp; omega)) _))), fun h => by cases h⟩
    case o7 =>
      intro x w1 hH K hK
      have e18 : x 18 = _ := hH.holds 6 (by decide) (by decide +kernel) 18 rfl
      obtain ⟨xs, d, rfl⟩ := grow_of_below hH.below
      clear hH
      try simp only [World.grow_drew] at hK ⊢
      try simp only [World.grow_grow] at hK ⊢
      simp only [e18] at hK ⊢
      clear e18
      go_simp
      go_wp2_with fail
      exact ⟨_, rfl, rfl, (by repeat (first | exact below_of_grow _ _ | exact Below.refl _ _ | exact below_more _ _ _ _ | (simp only [← Array.append_assoc]; first | exact below_more _ _ _ _ | exact below_same _ _ _ | exact Below.refl _ _) | exact below_same _ _ _ | (refine Below.alloc ?_ (by first | (simp; done) | (simp; omega)) _) | (refine Below.grow ?_ (by first | (simp; done) | (simp; omega)) _ _) | refine Below.drew ?_ | refine Below.drewN ?_ _ | (refine Below.putF ?_ (by first | (simp; done) | omega | (simp; omega)) _) | (refine Below.setCell ?_ (by first | (simp; done) | (simp; omega)) _))), fun h => by cases h⟩
    case o8 =>
      intro x w1 hH K hK
      have e19 : x 19 = _ := hH.holds 7 (by decide) (by decide +kernel) 19 rfl
      obtain ⟨xs, d, rfl⟩ := grow_of_below hH.below
      clear hH
      try simp only [World.grow_drew] at hK ⊢
      try simp only [World.grow_grow] at hK ⊢
      simp only [e19] at hK ⊢
      clear e19
      go_simp
      go_wp2_with fail
      exact ⟨_, rfl, rfl, (by repeat (first | exact below_of_grow _ _ | exact Below.refl _ _ | exact below_more _ _ _ _ | (simp only [← Array.append_assoc]; first | exact below_more _ _ _ _ | exact below_same _ _ _ | exact Below.refl _ _) | exact below_same _ _ _ | (refine Below.alloc ?_ (by first | (simp; done) | (simp; omega)) _) | (refine Below.grow ?_ (by first | (simp; done) | (simp; omega)) _ _) | refine Below.drew ?_ | refine Below.drewN ?_ _ | (refine Below.putF ?_ (by first | (simp; done) | omega | (simp; omega)) _) | (refine Below.setCell ?_ (by first | (simp; done) | (simp; omega)) _))), fun h => by cases h⟩
    case o9 =>
      intro x w1 hH K hK
      have e20 : x 20 = _ := hH.holds 8 (by decide) (by decide +kernel) 20 rfl
      obtain ⟨xs, d, rfl⟩ := grow_of_below hH.below
      clear hH
      try simp only [World.grow_drew] at hK ⊢
      try simp only [World.grow_grow] at hK ⊢
      simp only [e20] at hK ⊢
      clear e20
      go_simp
      go_wp2_with (refine Gives.use (HP.out _) ?_; intro ys e)
      exact ⟨_, rfl, rfl, (by first | exact below_more _ _ _ _ | exact (by repeat (first | exact below_of_grow _ _ | exact Below.refl _ _ | exact below_more _ _ _ _ | (simp only [← Array.append_assoc]; first | exact below_more _ _ _ _ | exact below_same _ _ _ | exact Below.refl _ _) | exact below_same _ _ _ | (refine Below.alloc ?_ (by first | (simp; done) | (simp; omega)) _) | (refine Below.grow ?_ (by first | (simp; done) | (simp; omega)) _ _) | refine Below.drew ?_ | refine Below.drewN ?_ _ | (refine Below.putF ?_ (by first | (simp; done) | omega | (simp; omega)) _) | (refine Below.setCell ?_ (by first | (simp; done) | (simp; omega)) _)))), fun h => by cases h⟩
    case o10 =>
      intro x w1 hH K hK
      have e17 : x 17 = _ := hH.holds 5 (by decide) (by decide +kernel) 17 rfl
      have e21 : x 21 = _ := hH.holds 9 (by decide) (by decide +kernel) 21 rfl
      obtain ⟨xs, d, rfl⟩ := grow_of_below hH.below
      clear hH
      try simp only [World.grow_drew] at hK ⊢
      try simp only [World.grow_grow] at hK ⊢
      simp only [e17, e21] at hK ⊢
      clear e17 e21
      go_simp
      go_wp2_with fail
      refine ⟨_, rfl, fun w3 h3 => OwnA.below (own_block (g := _) ?_ ?_ (by simp [strA]) (by simp)) h3, (by repeat (first | exact below_of_grow _ _ | exact Below.refl _ _ | exact below_more _ _ _ _ | (simp only [← Array.append_assoc]; first | exact below_more _ _ _ _ | exact below_same _ _ _ | exact Below.refl _ _) | exact below_same _ _ _ | (refine Below.alloc ?_ (by first | (simp; done) | (simp; omega)) _) | (refine Below.grow ?_ (by first | (simp; done) | (simp; omega)) _ _) | refine Below.drew ?_ | refine Below.drewN ?_ _ | (refine Below.putF ?_ (by first | (simp; done) | omega | (simp; omega)) _) | (refine Below.setCell ?_ (by first | (simp; done) | (simp; omega)) _))), fun h => by cases h⟩
      · rw [heap_al, if_pos (by simp)]; rfl
      · simp
  case hend =>
    intro x w1 hH
    have e12 : x 12 = _ := hH.holds 0 (by decide) trivial 12 rfl
    have e13 : x 13 = _ := hH.holds 1 (by decide) trivial 13 rfl
    have e14 : x 14 = _ := hH.holds 2 (by decide) trivial 14 rfl
    have e15 : x 15 = _ := hH.holds 3 (by decide) trivial 15 rfl
    have e16 : x 16 = _ := hH.holds 4 (by decide) trivial 16 rfl
    have e17 : x 17 = _ := hH.holds 5 (by decide) trivial 17 rfl
    have e18 : x 18 = _ := hH.holds 6 (by decide) trivial 18 rfl
    have e19 : x 19 = _ := hH.holds 7 (by decide) trivial 19 rfl
    have e20 : x 20 = _ := hH.holds 8 (by decide) trivial 20 rfl
    have e21 : x 21 = _ := hH.holds 9 (by decide) trivial 21 rfl
    have r22 := hH.holds 10 (by decide) trivial 22 rfl (_) (Below.refl _ _)
    obtain ⟨xs, d, rfl⟩ := grow_of_below hH.below
    clear hH
    simp only [e12, e13, e14, e15, e16, e17, e18, e19, e20, e21]; clear e12 e13 e14 e15 e16 e17 e18 e19 e20 e21
    simp only [List.drop_succ_cons, List.drop_zero]

    obtain ⟨v0, hv0⟩ : ∃ v0, v0 = x 22 := ⟨_, rfl⟩
    rw [← hv0] at r22 ⊢
    clear hv0 c0 c1 lW1 wp HP
    go_upto_region 5 with fail
    refine wp_name ?_
    intro W0 hW0
    have st : TextSt k #[.int .i64 16, .bool false, .bool false] w b1 b3 W.heap.size [[103], Lib.decDigits (byt k 1).toNat] v0 W0 := by
      rw [hW0]
      obtain ⟨e1, e3, eW, ebl, ek, eu⟩ := HH.out
      exact ⟨(World.grow_heap _ _ _ (by show b1 < W.heap.size; omega)).trans ek, (World.grow_heap _ _ _ (by show b3 < W.heap.size; omega)).trans eu, r22, ebl.drew.grow (by show w.heap.size ≤ W.heap.size; omega) _ _, by omega, by omega, by rw [World.grow_size]; show W.heap.size ≤ W.heap.size + _; omega, by omega⟩
    generalize W.heap.size = BB at st
    clear hW0 r22 HH W
    obtain ⟨f2, f3, f4, f5, f6, f7, l1, l3⟩ := st.facts hk
    have ST := Lib.hid st
    clear st
    go_wp2_with fail
    refine Gives.use (HA.out _) ?_
    intro ya1 da1
    go_wp2_with (at_builtin; refine wpList_append (B := BB) (xs := [[103], Lib.decDigits (byt k 1).toNat].map strA) (ys := [strA (Lib.decDigits (byt k 2).toNat)]) row_str rfl (.tmp 26) (.tmp 31) rfl (v := v0) rfl ?_ rfl ?_ ?_ ?_ ?_ ?_)
    case refine_1 => exact (ST.out.own.grow _ _).alloc _
    case refine_2 => exact ⟨_, sl_one (Nat.le_refl _) (by decide) (cut_heap ((heap_al _ _ _).trans (if_pos (by simp))) rfl)⟩
    case refine_3 => exact allOne_str (l := [Lib.decDigits (byt k 2).toNat])
    case refine_4 => simp
    case refine_5 => have := ST.out.lB; simp; omega
    intro v1 W1 ho hg _
    have st := ST.out.next (qs := [[103], Lib.decDigits (byt k 1).toNat, Lib.decDigits (byt k 2).toNat]) (by simpa using ho) hg
    clear ho hg ST f2 f3 f4 f5 f6 f7 l1 l3
    obtain ⟨f2, f3, f4, f5, f6, f7, l1, l3⟩ := st.facts hk
    have ST := Lib.hid st
    clear st
    have HJ := Lib.hid (join_gives ST.out.own (by simp) (by simp) (by
      intro p hp
      simp only [List.mem_cons, List.not_mem_nil, or_false] at hp
      rcases hp with rfl | rfl | rfl
      · simp
      · exact  dec_len _ hp1
      · exact dec_len _ hp2))
    go_wp2_with fail
    refine Gives.use HJ.out ?_
    intro yz dz
    go_wp2_with fail
    go_ret
    exact ⟨rfl, ST.out.bel.grow (Nat.le_trans ST.out.wB ST.out.lB) _ _⟩
set_option maxHeartbeats 20000000 in
theorem keyText3 (k : List UInt8) (hk : k.length = 25) (hk0 : byt k 0 = 3) (hr : keyRight k = true) (w : World) : Gives Tryd.prog 12 #[.agg (row8 k)] w (.string (bs (keyText k))) := by
  have hp1 : (byt k 1).toNat < 100 := (k_le100 hr).1
  have htx : keyText k = Lib.join [[108], Lib.decDigits (byt k 1).toNat, tagText (k.drop 15)] [47] := by
    unfold keyText
    rw [if_pos hr]
    unfold keyParts kKind kProj kAt kName kTag
    rw [hk0]
    try rw [take_two]
    rfl
  rw [htx]
  have HR := Lib.hid (keyRight_gives k hk)
  rw [hr] at HR
  have HU := Lib.hid (show ∀ w, Gives Tryd.prog 13 #[.int .i64 3] w (.agg #[.int .i64 0, .bool false, .bool true]) from used_gives 3)
  have HP := Lib.hid (itoa_gives _ hp1)
  have HT := Lib.hid (tagText_gives (k.drop 15) (by simp; omega))
  have h01 : ((byt k 0).toNat : Int) = 3 := by rw [hk0]; rfl
  clear hr htx hk0
  unfold Gives
  go_enter Tryd.func12, Tryd.ntmps12
  go_wp2_with fail
  refine Gives.use (HR.out _) ?_
  intro xs1 d1
  go_wp2_with fail
  refine Gives.use (HU.out _) ?_
  intro xs2 d2
  go_upto_region 4 with fail
  refine wp_name ?_
  intro W hW
  obtain ⟨b1, hb1⟩ : ∃ b1, b1 = w.heap.size := ⟨_, rfl⟩
  obtain ⟨b3, hb3⟩ : ∃ b3, b3 = w.heap.size + 1 + (xs1.size + xs2.size) := ⟨_, rfl⟩
  have s3 : w.heap.size + 1 ≤ b3 := by omega
  have sW : W.heap.size = b3 + 1 := by rw [hW, hb3]; simp [World.grow_size]
  have hbl : Below w.heap.size w W := by rw [hW]; exact (by repeat (first | exact below_of_grow _ _ | exact Below.refl _ _ | exact below_more _ _ _ _ | (simp only [← Array.append_assoc]; first | exact below_more _ _ _ _ | exact below_same _ _ _ | exact Below.refl _ _) | exact below_same _ _ _ | (refine Below.alloc ?_ (by first | (simp; done) | (simp; omega)) _) | (refine Below.grow ?_ (by first | (simp; done) | (simp; omega)) _ _) | refine Below.drew ?_ | refine Below.drewN ?_ _ | (refine Below.putF ?_ (by first | (simp; done) | omega | (simp; omega)) _) | (refine Below.setCell ?_ (by first | (simp; done) | (simp; omega)) _)))
  have hkk : W.heap[b1]? = some (.cells (row8 k) 33) := by
    rw [hW, heap_al, if_neg (by simp [World.grow_size]; omega), World.grow_heap _ _ _ (by simp; omega), heap_al, if_pos hb1]
  have huu : W.heap[b3]? = some (.cells #[.int .i64 0, .bool false, .bool true] 45) := by
    rw [hW, heap_al, if_pos (by simp [World.grow_size]; omega)]
  have c0 : W.cell? ⟨b1, 0, none⟩ = some (.int .u8 3) := (cellsK hkk 0).1.trans (by rw [row8_get k 0 (by omega), h01])
  have c1 : W.cell? ⟨b1, 1, none⟩ = some (.int .u8 ((byt k 1).toNat : Int)) := (cellsK hkk 1).1.trans (row8_get k 1 (by omega))
  have lW1 : b1 < W.heap.size := by omega
  have wp : IntKind.i64.wrap ((byt k 1).toNat : Int) = (byt k 1).toNat := by have := (byt k 1).toNat_lt; simp [IntKind.wrap, IntKind.bits, IntKind.signed]; omega
  simp only [← hb3]
  simp only [← hb1]
  have HH := Lib.hid (And.intro hb1 (And.intro s3 (And.intro sW (And.intro hbl (And.intro hkk huu)))))
  clear hW h01 hb3 hb1 s3 sW hbl hkk huu
  apply wp_region_specs (by rfl) [.val _, .val _, .val _, .val _, .val _, .val _, .val _, .val _, .val _, .val _, .rel (fun v W' => OwnA W' W.heap.size 1 9 v ([[108], Lib.decDigits (byt k 1).toNat].map strA))] 11 (by rfl) [12, 13, 14, 15, 16, 17, 18, 19, 20, 21, 22] [] [] (by rfl) (by rfl) (by decide) (by decide +kernel) (fun _ _ _ _ _ h => h)
  case hF => intro x; simp only [over, List.foldl_cons, List.foldl_nil, List.setIfInBounds_toArray, List.set_cons_succ, List.set_cons_zero]; exact rfl
  case hops =>
    refine ⟨?o0, ?o1, ?o2, ?o3, ?o4, ?o5, ?o6, ?o7, ?o8, ?o9, ?o10, trivial⟩
    case o0 =>
      intro x w1 hH K hK
      obtain ⟨xs, d, rfl⟩ := grow_of_below hH.below
      clear hH
      try simp only [World.grow_drew] at hK ⊢
      try simp only [World.grow_grow] at hK ⊢
      go_simp
      go_wp2_with fail
      exact ⟨_, rfl, rfl, (by repeat (first | exact below_of_grow _ _ | exact Below.refl _ _ | exact below_more _ _ _ _ | (simp only [← Array.append_assoc]; first | exact below_more _ _ _ _ | exact below_same _ _ _ | exact Below.refl _ _) | exact below_same _ _ _ | (refine Below.alloc ?_ (by first | (simp; done) | (simp; omega)) _) | (refine Below.grow ?_ (by first | (simp; done) | (simp; omega)) _ _) | refine Below.drew ?_ | refine Below.drewN ?_ _ | (refine Below.putF ?_ (by first | (simp; done) | omega | (simp; omega)) _) | (refine Below.setCell ?_ (by first | (simp; done) | (simp; omega)) _))), fun h => by cases h⟩
    case o1 =>
      intro x w1 hH K hK
      have e12 : x 12 = _ := hH.holds 0 (by decide) (by decide +kernel) 12 rfl
      obtain ⟨xs, d, rfl⟩ := grow_of_below hH.below
      clear hH
      try simp only [World.grow_drew] at hK ⊢
      try simp only [World.grow_grow] at hK ⊢
      simp only [e12] at hK ⊢
      clear e12
      go_simp
      go_wp2_with fail
      exact ⟨_, rfl, rfl, (by repeat (first | exact below_of_grow _ _ | exact Below.refl _ _ | exact below_more _ _ _ _ | (simp only [← Array.append_assoc]; first | exact below_more _ _ _ _ | exact below_same _ _ _ | exact Below.refl _ _) | exact below_same _ _ _ | (refine Below.alloc ?_ (by first | (simp; done) | (simp; omega)) _) | (refine Below.grow ?_ (by first | (simp; done) | (simp; omega)) _ _) | refine Below.drew ?_ | refine Below.drewN ?_ _ | (refine Below.putF ?_ (by first | (simp; done) | omega | (simp; omega)) _) | (refine Below.setCell ?_ (by first | (simp; done) | (simp; omega)) _))), fun h => by cases h⟩
    case o2 =>
      intro x w1 hH K hK
      have e13 : x 13 = _ := hH.holds 1 (by decide) (by decide +kernel) 13 rfl
      obtain ⟨xs, d, rfl⟩ := grow_of_below hH.below
      clear hH
      try simp only [World.grow_drew] at hK ⊢
      try simp only [World.grow_grow] at hK ⊢
      simp only [e13] at hK ⊢
      clear e13
      go_simp
      go_wp2_with fail
      exact ⟨_, rfl, rfl, (by repeat (first | exact below_of_grow _ _ | exact Below.refl _ _ | exact below_more _ _ _ _ | (simp only [← Array.append_assoc]; first | exact below_more _ _ _ _ | exact below_same _ _ _ | exact Below.refl _ _) | exact below_same _ _ _ | (refine Below.alloc ?_ (by first | (simp; done) | (simp; omega)) _) | (refine Below.grow ?_ (by first | (simp; done) | (simp; omega)) _ _) | refine Below.drew ?_ | refine Below.drewN ?_ _ | (refine Below.putF ?_ (by first | (simp; done) | omega | (simp; omega)) _) | (refine Below.setCell ?_ (by first | (simp; done) | (simp; omega)) _))), fun h => by cases h⟩
    case o3 =>
      intro x w1 hH K hK
      obtain ⟨xs, d, rfl⟩ := grow_of_below hH.below
      clear hH
      try simp only [World.grow_drew] at hK ⊢
      try simp only [World.grow_grow] at hK ⊢
      go_simp
      go_wp2_with fail
      exact ⟨_, rfl, rfl, (by repeat (first | exact below_of_grow _ _ | exact Below.refl _ _ | exact below_more _ _ _ _ | (simp only [← Array.append_assoc]; first | exact below_more _ _ _ _ | exact below_same _ _ _ | exact Below.refl _ _) | exact below_same _ _ _ | (refine Below.alloc ?_ (by first | (simp; done) | (simp; omega)) _) | (refine Below.grow ?_ (by first | (simp; done) | (simp; omega)) _ _) | refine Below.drew ?_ | refine Below.drewN ?_ _ | (refine Below.putF ?_ (by first | (simp; done) | omega | (simp; omega)) _) | (refine Below.setCell ?_ (by first | (simp; done) | (simp; omega)) _))), fun h => by cases h⟩
    case o4 =>
      intro x w1 hH K hK
      have e15 : x 15 = _ := hH.holds 3 (by decide) (by decide +kernel) 15 rfl
      obtain ⟨xs, d, rfl⟩ := grow_of_below hH.below
      clear hH
      try simp only [World.grow_drew] at hK ⊢
      try simp only [World.grow_grow] at hK ⊢
      simp only [e15] at hK ⊢
      clear e15
      go_simp
      go_wp2_with fail
      exact ⟨_, rfl, rfl, (by repeat (first | exact below_of_grow _ _ | exact Below.refl _ _ | exact below_more _ _ _ _ | (simp only [← Array.append_assoc]; first | exact below_more _ _ _ _ | exact below_same _ _ _ | exact Below.refl _ _) | exact below_same _ _ _ | (refine Below.alloc ?_ (by first | (simp; done) | (simp; omega)) _) | (refine Below.grow ?_ (by first | (simp; done) | (simp; omega)) _ _) | refine Below.drew ?_ | refine Below.drewN ?_ _ | (refine Below.putF ?_ (by first | (simp; done) | omega | (simp; omega)) _) | (refine Below.setCell ?_ (by first | (simp; done) | (simp; omega)) _))), fun h => by cases h⟩
    case o5 =>
      intro x w1 hH K hK
      have e14 : x 14 = _ := hH.holds 2 (by decide) (by decide +kernel) 14 rfl
      have e16 : x 16 = _ := hH.holds 4 (by decide) (by decide +kernel) 16 rfl
      obtain ⟨xs, d, rfl⟩ := grow_of_below hH.below
      clear hH
      try simp only [World.grow_drew] at hK ⊢
      try simp only [World.grow_grow] at hK ⊢
      simp only [e14, e16] at hK ⊢
      clear e14 e16
      go_simp
      go_wp2_with fail
      exact ⟨_, rfl, rfl, (by repeat (first | exact below_of_grow _ _ | exact Below.refl _ _ | exact below_more _ _ _ _ | (simp only [← Array.append_assoc]; first | exact below_more _ _ _ _ | exact below_same _ _ _ | exact Below.refl _ _) | exact below_same _ _ _ | (refine Below.alloc ?_ (by first | (simp; done) | (simp; omega)) _) | (refine Below.grow ?_ (by first | (simp; done) | (simp; omega)) _ _) | refine Below.drew ?_ | refine Below.drewN ?_ _ | (refine Below.putF ?_ (by first | (simp; done) | omega | (simp; omega)) _) | (refine Below.setCell ?_ (by first | (simp; done) | (simp; omega)) _))), fun h => by cases h⟩
    case o6 =>
      intro x w1 hH K hK
      obtain ⟨xs, d, rfl⟩ := grow_of_below hH.below
      clear hH
      try simp only [World.grow_drew] at hK ⊢
      try simp only [World.grow_grow] at hK ⊢
      go_simp
      go_wp2_with fail
      exact ⟨_, rfl, rfl, (by repeat (first | exact below_of_grow _ _ | exact Below.refl _ _ | exact below_more _ _ _ _ | (simp only [← Array.append_assoc]; first | exact below_more _ _ _ _ | exact below_same _ _ _ | exact Below.refl _ _) | exact below_same _ _ _ | (refine Below.alloc ?_ (by first | (simp; done) | (simp; omega)) _) | (refine Below.grow ?_ (by first | (simp; done) | (simp; omega)) _ _) | refine Below.drew ?_ | refine Below.drewN ?_ _ | (refine Below.putF ?_ (by first | (simp; done) | omega | (simp; omega)) _) | (refine Below.setCell ?_ (by first | (simp; done) | (simp; omega)) _))), fun h => by cases h⟩
    case o7 =>
      intro x w1 hH K hK
      have e18 : x 18 = _ := hH.holds 6 (by decide) (by decide +kernel) 18 rfl
      obtain ⟨xs, d, rfl⟩ := grow_of_below hH.below
      clear hH
      try simp only [World.grow_drew] at hK ⊢
      try simp only [World.grow_grow] at hK ⊢
      simp only [e18] at hK ⊢
      clear e18
      go_simp
      go_wp2_with fail
      exact ⟨_, rfl, rfl, (by repeat (first | exact below_of_grow _ _ | exact Below.refl _ _ | exact below_more _ _ _ _ | (simp only [← Array.append_assoc]; first | exact below_more _ _ _ _ | exact below_same _ _ _ | exact Below.refl _ _) | exact below_same _ _ _ | (refine Below.alloc ?_ (by first | (simp; done) | (simp; omega)) _) | (refine Below.grow ?_ (by first | (simp; done) | (simp; omega)) _ _) | refine Below.drew ?_ | refine Below.drewN ?_ _ | (refine Below.putF ?_ (by first | (simp; done) | omega | (simp; omega)) _) | (refine Below.setCell ?_ (by first | (simp; done) | (simp; omega)) _))), fun h => by cases h⟩
    case o8 =>
      intro x w1 hH K hK
      have e19 : x 19 = _ := hH.holds 7 (by decide) (by decide +kernel) 19 rfl
      obtain ⟨xs, d, rfl⟩ := grow_of_below hH.below
      clear hH
      try simp only [World.grow_drew] at hK ⊢
      try simp only [World.grow_grow] at hK ⊢
      simp only [e19] at hK ⊢
      clear e19
      go_simp
      go_wp2_with fail
      exact ⟨_, rfl, rfl, (by repeat (first | exact below_of_grow _ _ | exact Below.refl _ _ | exact below_more _ _ _ _ | (simp only [← Array.append_assoc]; first | exact below_more _ _ _ _ | exact below_same _ _ _ | exact Below.refl _ _) | exact below_same _ _ _ | (refine Below.alloc ?_ (by first | (simp; done) | (simp; omega)) _) | (refine Below.grow ?_ (by first | (simp; done) | (simp; omega)) _ _) | refine Below.drew ?_ | refine Below.drewN ?_ _ | (refine Below.putF ?_ (by first | (simp; done) | omega | (simp; omega)) _) | (refine Below.setCell ?_ (by first | (simp; done) | (simp; omega)) _))), fun h => by cases h⟩
    case o9 =>
      intro x w1 hH K hK
      have e20 : x 20 = _ := hH.holds 8 (by decide) (by decide +kernel) 20 rfl
      obtain ⟨xs, d, rfl⟩ := grow_of_below hH.below
      clear hH
      try simp only [World.grow_drew] at hK ⊢
      try simp only [World.grow_grow] at hK ⊢
      simp only [e20] at hK ⊢
      clear e20
      go_simp
      go_wp2_with (refine Gives.use (HP.out _) ?_; intro ys e)
      exact ⟨_, rfl, rfl, (by first | exact below_more _ _ _ _ | exact (by repeat (first | exact below_of_grow _ _ | exact Below.refl _ _ | exact below_more _ _ _ _ | (simp only [← Array.append_assoc]; first | exact below_more _ _ _ _ | exact below_same _ _ _ | exact Below.refl _ _) | exact below_same _ _ _ | (refine Below.alloc ?_ (by first | (simp; done) | (simp; omega)) _) | (refine Below.grow ?_ (by first | (simp; done) | (simp; omega)) _ _) | refine Below.drew ?_ | refine Below.drewN ?_ _ | (refine Below.putF ?_ (by first | (simp; done) | omega | (simp; omega)) _) | (refine Below.setCell ?_ (by first | (simp; done) | (simp; omega)) _)))), fun h => by cases h⟩
    case o10 =>
      intro x w1 hH K hK
      have e17 : x 17 = _ := hH.holds 5 (by decide) (by decide +kernel) 17 rfl
      have e21 : x 21 = _ := hH.holds 9 (by decide) (by decide +kernel) 21 rfl
      obtain ⟨xs, d, rfl⟩ := grow_of_below hH.below
      clear hH
      try simp only [World.grow_drew] at hK ⊢
      try simp only [World.grow_grow] at hK ⊢
      simp only [e17, e21] at hK ⊢
      clear e17 e21
      go_simp
      go_wp2_with fail
      refine ⟨_, rfl, fun w3 h3 => OwnA.below (own_block (g := _) ?_ ?_ (by simp [strA]) (by simp)) h3, (by repeat (first | exact below_of_grow _ _ | exact Below.refl _ _ | exact below_more _ _ _ _ | (simp only [← Array.append_assoc]; first | exact below_more _ _ _ _ | exact below_same _ _ _ | exact Below.refl _ _) | exact below_same _ _ _ | (refine Below.alloc ?_ (by first | (simp; done) | (simp; omega)) _) | (refine Below.grow ?_ (by first | (simp; done) | (simp; omega)) _ _) | refine Below.drew ?_ | refine Below.drewN ?_ _ | (refine Below.putF ?_ (by first | (simp; done) | omega | (simp; omega)) _) | (refine Below.setCell ?_ (by first | (simp; done) | (simp; omega)) _))), fun h => by cases h⟩
      · rw [heap_al, if_pos (by simp)]; rfl
      · simp
  case hend =>
    intro x w1 hH
    have e12 : x 12 = _ := hH.holds 0 (by decide) trivial 12 rfl
    have e13 : x 13 = _ := hH.holds 1 (by decide) trivial 13 rfl
    have e14 : x 14 = _ := hH.holds 2 (by decide) trivial 14 rfl
    have e15 : x 15 = _ := hH.holds 3 (by decide) trivial 15 rfl
    have e16 : x 16 = _ := hH.holds 4 (by decide) trivial 16 rfl
    have e17 : x 17 = _ := hH.holds 5 (by decide) trivial 17 rfl
    have e18 : x 18 = _ := hH.holds 6 (by decide) trivial 18 rfl
    have e19 : x 19 = _ := hH.holds 7 (by decide) trivial 19 rfl
    have e20 : x 20 = _ := hH.holds 8 (by decide) trivial 20 rfl
    have e21 : x 21 = _ := hH.holds 9 (by decide) trivial 21 rfl
    have r22 := hH.holds 10 (by decide) trivial 22 rfl (_) (Below.refl _ _)
    obtain ⟨xs, d, rfl⟩ := grow_of_below hH.below
    clear hH
    simp only [e12, e13, e14, e15, e16, e17, e18, e19, e20, e21]; clear e12 e13 e14 e15 e16 e17 e18 e19 e20 e21
    simp only [List.drop_succ_cons, List.drop_zero]

    obtain ⟨v0, hv0⟩ : ∃ v0, v0 = x 22 := ⟨_, rfl⟩
    rw [← hv0] at r22 ⊢
    clear hv0 c0 c1 lW1 wp HP
    go_upto_region 5 with fail
    refine wp_name ?_
    intro W0 hW0
    have st : TextSt k #[.int .i64 0, .bool false, .bool true] w b1 b3 W.heap.size [[108], Lib.decDigits (byt k 1).toNat] v0 W0 := by
      rw [hW0]
      obtain ⟨e1, e3, eW, ebl, ek, eu⟩ := HH.out
      exact ⟨(World.grow_heap _ _ _ (by show b1 < W.heap.size; omega)).trans ek, (World.grow_heap _ _ _ (by show b3 < W.heap.size; omega)).trans eu, r22, ebl.drew.grow (by show w.heap.size ≤ W.heap.size; omega) _ _, by omega, by omega, by rw [World.grow_size]; show W.heap.size ≤ W.heap.size + _; omega, by omega⟩
    generalize W.heap.size = BB at st
    clear hW0 r22 HH W
    obtain ⟨f2, f3, f4, f5, f6, f7, l1, l3⟩ := st.facts hk
    have ST := Lib.hid st
    clear st
    go_wp2_with fail
    refine Gives.use (HT.out _) ?_
    intro ya1 da1
    go_wp2_with (at_builtin; refine wpList_append (B := BB) (xs := [[108], Lib.decDigits (byt k 1).toNat].map strA) (ys := [strA (tagText (k.drop 15))]) row_str rfl (.tmp 43) (.tmp 47) rfl (v := v0) rfl ?_ rfl ?_ ?_ ?_ ?_ ?_)
    case refine_1 => exact (ST.out.own.grow _ _).alloc _
    case refine_2 => exact ⟨_, sl_one (Nat.le_refl _) (by decide) (cut_heap ((heap_al _ _ _).trans (if_pos (by simp))) rfl)⟩
    case refine_3 => exact allOne_str (l := [tagText (k.drop 15)])
    case refine_4 => simp
    case refine_5 => have := ST.out.lB; simp; omega
    intro v1 W1 ho hg _
    have st := ST.out.next (qs := [[108], Lib.decDigits (byt k 1).toNat, tagText (k.drop 15)]) (by simpa using ho) hg
    clear ho hg ST f2 f3 f4 f5 f6 f7 l1 l3
    obtain ⟨f2, f3, f4, f5, f6, f7, l1, l3⟩ := st.facts hk
    have ST := Lib.hid st
    clear st
    have HJ := Lib.hid (join_gives ST.out.own (by simp) (by simp) (by
      intro p hp
      simp only [List.mem_cons, List.not_mem_nil, or_false] at hp
      rcases hp with rfl | rfl | rfl
      · simp
      · exact  dec_len _ hp1
      · exact tagText_len (by simp; omega)))
    go_wp2_with fail
    refine Gives.use HJ.out ?_
    intro yz dz
    go_wp2_with fail
    go_ret
    exact ⟨rfl, ST.out.bel.grow (Nat.le_trans ST.out.wB ST.out.lB) _ _⟩
set_option maxHeartbeats 20000000 in
theorem keyText4 (k : List UInt8) (hk : k.length = 25) (hk0 : byt k 0 = 4) (hr : keyRight k = true) (w : World) : Gives Tryd.prog 12 #[.agg (row8 k)] w (.string (bs (keyText k))) := by
  have hp1 : (byt k 1).toNat < 100 := (k_le100 hr).1
  have hp2 : (byt k 2).toNat < 100 := (k_le100 hr).2 (by rw [hk0]; decide)
  have htx : keyText k = Lib.join [[98], Lib.decDigits (byt k 1).toNat, Lib.decDigits (byt k 2).toNat] [47] := by
    unfold keyText
    rw [if_pos hr]
    unfold keyParts kKind kProj kAt kName kTag
    rw [hk0]
    try rw [take_two]
    rfl
  rw [htx]
  have HR := Lib.hid (keyRight_gives k hk)
  rw [hr] at HR
  have HU := Lib.hid (show ∀ w, Gives Tryd.prog 13 #[.int .i64 4] w (.agg #[.int .i64 4, .bool false, .bool false]) from used_gives 4)
  have HP := Lib.hid (itoa_gives _ hp1)
  have HA := Lib.hid (itoa_gives _ hp2)
  have h01 : ((byt k 0).toNat : Int) = 4 := by rw [hk0]; rfl
  clear hr htx hk0
  unfold Gives
  go_enter Tryd.func12, Tryd.ntmps12
  go_wp2_with fail
  refine Gives.use (HR.out _) ?_
  intro xs1 d1
  go_wp2_with fail
  refine Gives.use (HU.out _) ?_
  intro xs2 d2
  go_upto_region 4 with fail
  refine wp_name ?_
  intro W hW
  obtain ⟨b1, hb1⟩ : ∃ b1, b1 = w.heap.size := ⟨_, rfl⟩
  obtain ⟨b3, hb3⟩ : ∃ b3, b3 = w.heap.size + 1 + (xs1.size + xs2.size) := ⟨_, rfl⟩
  have s3 : w.heap.size + 1 ≤ b3 := by omega
  have sW : W.heap.size = b3 + 1 := by rw [hW, hb3]; simp [World.grow_size]
  have hbl : Below w.heap.size w W := by rw [hW]; exact (by repeat (first | exact below_of_grow _ _ | exact Below.refl _ _ | exact below_more _ _ _ _ | (simp only [← Array.append_assoc]; first | exact below_more _ _ _ _ | exact below_same _ _ _ | exact Below.refl _ _) | exact below_same _ _ _ | (refine Below.alloc ?_ (by first | (simp; done) | (simp; omega)) _) | (refine Below.grow ?_ (by first | (simp; done) | (simp; omega)) _ _) | refine Below.drew ?_ | refine Below.drewN ?_ _ | (refine Below.putF ?_ (by first | (simp; done) | omega | (simp; omega)) _) | (refine Below.setCell ?_ (by first | (simp; done) | (simp; omega)) _)))
  have hkk : W.heap[b1]? = some (.cells (row8 k) 33) := by
    rw [hW, heap_al, if_neg (by simp [World.grow_size]; omega), World.grow_heap _ _ _ (by simp; omega), heap_al, if_pos hb1]
  have huu : W.heap[b3]? = some (.cells #[.int .i64 4, .bool false, .bool false] 45) := by
    rw [hW, heap_al, if_pos (by simp [World.grow_size]; omega)]
  have c0 : W.cell? ⟨b1, 0, none⟩ = some (.int .u8 4) := (cellsK hkk 0).1.trans (by rw [row8_get k 0 (by omega), h01])
  have c1 : W.cell? ⟨b1, 1, none⟩ = some (.int .u8 ((byt k 1).toNat : Int)) := (cellsK hkk 1).1.trans (row8_get k 1 (by omega))
  have lW1 : b1 < W.heap.size := by omega
  have wp : IntKind.i64.wrap ((byt k 1).toNat : Int) = (byt k 1).toNat := by have := (byt k 1).toNat_lt; simp [IntKind.wrap, IntKind.bits, IntKind.signed]; omega
  simp only [← hb3]
  simp only [← hb1]
  have HH := Lib.hid (And.intro hb1 (And.intro s3 (And.intro sW (And.intro hbl (And.intro hkk huu)))))
  clear hW h01 hb3 hb1 s3 sW hbl hkk huu
  apply wp_region_specs (by rfl) [.val _, .val _, .val _, .val _, .val _, .val _, .val _, .val _, .val _, .val _, .rel (fun v W' => OwnA W' W.heap.size 1 9 v ([[98], Lib.decDigits (byt k 1).toNat].map strA))] 11 (by rfl) [12, 13, 14, 15, 16, 17, 18, 19, 20, 21, 22] [] [] (by rfl) (by rfl) (by decide) (by decide +kernel) (fun _ _ _ _ _ h => h)
  case hF => intro x; simp only [over, List.foldl_cons, List.foldl_nil, List.setIfInBounds_toArray, List.set_cons_succ, List.set_cons_zero]; exact rfl
  case hops =>
    refine ⟨?o0, ?o1, ?o2, ?o3, ?o4, ?o5, ?o6, ?o7, ?o8, ?o9, ?o10, trivial⟩
    case o0 =>
      intro x w1 hH K hK
      obtain ⟨xs, d, rfl⟩ := grow_of_below hH.below
      clear hH
      try simp only [World.grow_drew] at hK ⊢
      try simp only [World.grow_grow] at hK ⊢
      go_simp
      go_wp2_with fail
      exact ⟨_, rfl, rfl, (by repeat (first | exact below_of_grow _ _ | exact Below.refl _ _ | exact below_more _ _ _ _ | (simp only [← Array.append_assoc]; first | exact below_more _ _ _ _ | exact below_same _ _ _ | exact Below.refl _ _) | exact below_same _ _ _ | (refine Below.alloc ?_ (by first | (simp; done) | (simp; omega)) _) | (refine Below.grow ?_ (by first | (simp; done) | (simp; omega)) _ _) | refine Below.drew ?_ | refine Below.drewN ?_ _ | (refine Below.putF ?_ (by first | (simp; done) | omega | (simp; omega)) _) | (refine Below.setCell ?_ (by first | (simp; done) | (simp; omega)) _))), fun h => by cases h⟩
    case o1 =>
      intro x w1 hH K hK
      have e12 : x 12 = _ := hH.holds 0 (by decide) (by decide +kernel) 12 rfl
      obtain ⟨xs, d, rfl⟩ := grow_of_below hH.below
      clear hH
      try simp only [World.grow_drew] at hK ⊢
      try simp only [World.grow_grow] at hK ⊢
      simp only [e12] at hK ⊢
      clear e12
      go_simp
      go_wp2_with fail
      exact ⟨_, rfl, rfl, (by repeat (first | exact below_of_grow _ _ | exact Below.refl _ _ | exact below_more _ _ _ _ | (simp only [← Array.append_assoc]; first | exact below_more _ _ _ _ | exact below_same _ _ _ | exact Below.refl _ _) | exact below_same _ _ _ | (refine Below.alloc ?_ (by first | (simp; done) | (simp; omega)) _) | (refine Below.grow ?_ (by first | (simp; done) | (simp; omega)) _ _) | refine Below.drew ?_ | refine Below.drewN ?_ _ | (refine Below.putF ?_ (by first | (simp; done) | omega | (simp; omega)) _) | (refine Below.setCell ?_ (by first | (simp; done) | (simp; omega)) _))), fun h => by cases h⟩
    case o2 =>
      intro x w1 hH K hK
      have e13 : x 13 = _ := hH.holds 1 (by decide) (by decide +kernel) 13 rfl
      obtain ⟨xs, d, rfl⟩ := grow_of_below hH.below
      clear hH
      try simp only [World.grow_drew] at hK ⊢
      try simp only [World.grow_grow] at hK ⊢
      simp only [e13] at hK ⊢
      clear e13
      go_simp
      go_wp2_with fail
      exact ⟨_, rfl, rfl, (by repeat (first | exact below_of_grow _ _ | exact Below.refl _ _ | exact below_more _ _ _ _ | (simp only [← Array.append_assoc]; first | exact below_more _ _ _ _ | exact below_same _ _ _ | exact Below.refl _ _) | exact below_same _ _ _ | (refine Below.alloc ?_ (by first | (simp; done) | (simp; omega)) _) | (refine Below.grow ?_ (by first | (simp; done) | (simp; omega)) _ _) | refine Below.drew ?_ | refine Below.drewN ?_ _ | (refine Below.putF ?_ (by first | (simp; done) | omega | (simp; omega)) _) | (refine Below.setCell ?_ (by first | (simp; done) | (simp; omega)) _))), fun h => by cases h⟩
    case o3 =>
      intro x w1 hH K hK
      obtain ⟨xs, d, rfl⟩ := grow_of_below hH.below
      clear hH
      try simp only [World.grow_drew] at hK ⊢
      try simp only [World.grow_grow] at hK ⊢
      go_simp
      go_wp2_with fail
      exact ⟨_, rfl, rfl, (by repeat (first | exact below_of_grow _ _ | exact Below.refl _ _ | exact below_more _ _ _ _ | (simp only [← Array.append_assoc]; first | exact below_more _ _ _ _ | exact below_same _ _ _ | exact Below.refl _ _) | exact below_same _ _ _ | (refine Below.alloc ?_ (by first | (simp; done) | (simp; omega)) _) | (refine Below.grow ?_ (by first | (simp; done) | (simp; omega)) _ _) | refine Below.drew ?_ | refine Below.drewN ?_ _ | (refine Below.putF ?_ (by first | (simp; done) | omega | (simp; omega)) _) | (refine Below.setCell ?_ (by first | (simp; done) | (simp; omega)) _))), fun h => by cases h⟩
    case o4 =>
      intro x w1 hH K hK
      have e15 : x 15 = _ := hH.holds 3 (by decide) (by decide +kernel) 15 rfl
      obtain ⟨xs, d, rfl⟩ := grow_of_below hH.below
      clear hH
      try simp only [World.grow_drew] at hK ⊢
      try simp only [World.grow_grow] at hK ⊢
      simp only [e15] at hK ⊢
      clear e15
      go_simp
      go_wp2_with fail
      exact ⟨_, rfl, rfl, (by repeat (first | exact below_of_grow _ _ | exact Below.refl _ _ | exact below_more _ _ _ _ | (simp only [← Array.append_assoc]; first | exact below_more _ _ _ _ | exact below_same _ _ _ | exact Below.refl _ _) | exact below_same _ _ _ | (refine Below.alloc ?_ (by first | (simp; done) | (simp; omega)) _) | (refine Below.grow ?_ (by first | (simp; done) | (simp; omega)) _ _) | refine Below.drew ?_ | refine Below.drewN ?_ _ | (refine Below.putF ?_ (by first | (simp; done) | omega | (simp; omega)) _) | (refine Below.setCell ?_ (by first | (simp; done) | (simp; omega)) _))), fun h => by cases h⟩
    case o5 =>
      intro x w1 hH K hK
      have e14 : x 14 = _ := hH.holds 2 (by decide) (by decide +kernel) 14 rfl
      have e16 : x 16 = _ := hH.holds 4 (by decide) (by decide +kernel) 16 rfl
      obtain ⟨xs, d, rfl⟩ := grow_of_below hH.below
      clear hH
      try simp only [World.grow_drew] at hK ⊢
      try simp only [World.grow_grow] at hK ⊢
      simp only [e14, e16] at hK ⊢
      clear e14 e16
      go_simp
      go_wp2_with fail
      exact ⟨_, rfl, rfl, (by repeat (first | exact below_of_grow _ _ | exact Below.refl _ _ | exact below_more _ _ _ _ | (simp only [← Array.append_assoc]; first | exact below_more _ _ _ _ | exact below_same _ _ _ | exact Below.refl _ _) | exact below_same _ _ _ | (refine Below.alloc ?_ (by first | (simp; done) | (simp; omega)) _) | (refine Below.grow ?_ (by first | (simp; done) | (simp; omega)) _ _) | refine Below.drew ?_ | refine Below.drewN ?_ _ | (refine Below.putF ?_ (by first | (simp; done) | omega | (simp; omega)) _) | (refine Below.setCell ?_ (by first | (simp; done) | (simp; omega)) _))), fun h => by cases h⟩
    case o6 =>
      intro x w1 hH K hK
      obtain ⟨xs, d, rfl⟩ := grow_of_below hH.below
      clear hH
      try simp only [World.grow_drew] at hK ⊢
      try simp only [World.grow_grow] at hK ⊢
      go_simp
      go_wp2_with fail
      exact ⟨_, rfl, rfl, (by repeat (first | exact below_of_grow _ _ | exact Below.refl _ _ | exact below_more _ _ _ _ | (simp only [← Array.append_assoc]; first | exact below_more _ _ _ _ | exact below_same _ _ _ | exact Below.refl _ _) | exact below_same _ _ _ | (refine Below.alloc ?_ (by first | (simp; done) | (simp; omega)) _) | (refine Below.grow ?_ (by first | (simp; done) | (simp; omega)) _ _) | refine Below.drew ?_ | refine Below.drewN ?_ _ | (refine Below.putF ?_ (by first | (simp; done) | omega | (simp; omega)) _) | (refine Below.setCell ?_ (by first | (simp; done) | (simp; omega)) _))), fun h => by cases h⟩
    case o7 =>
      intro x w1 hH K hK
      have e18 : x 18 = _ := hH.holds 6 (by decide) (by decide +kernel) 18 rfl
      obtain ⟨xs, d, rfl⟩ := grow_of_below hH.below
      clear hH
      try simp only [World.grow_drew] at hK ⊢
      try simp only [World.grow_grow] at hK ⊢
      simp only [e18] at hK ⊢
      clear e18
      go_simp
      go_wp2_with fail
      exact ⟨_, rfl, rfl, (by repeat (first | exact below_of_grow _ _ | exact Below.refl _ _ | exact below_more _ _ _ _ | (simp only [← Array.append_assoc]; first | exact below_more _ _ _ _ | exact below_same _ _ _ | exact Below.refl _ _) | exact below_same _ _ _ | (refine Below.alloc ?_ (by first | (simp; done) | (simp; omega)) _) | (refine Below.grow ?_ (by first | (simp; done) | (simp; omega)) _ _) | refine Below.drew ?_ | refine Below.drewN ?_ _ | (refine Below.putF ?_ (by first | (simp; done) | omega | (simp; omega)) _) | (refine Below.setCell ?_ (by first | (simp; done) | (simp; omega)) _))), fun h => by cases h⟩
    case o8 =>
      intro x w1 hH K hK
      have e19 : x 19 = _ := hH.holds 7 (by decide) (by decide +kernel) 19 rfl
      obtain ⟨xs, d, rfl⟩ := grow_of_below hH.below
      clear hH
      try simp only [World.grow_drew] at hK ⊢
      try simp only [World.grow_grow] at hK ⊢
      simp only [e19] at hK ⊢
      clear e19
      go_simp
      go_wp2_with fail
      exact ⟨_, rfl, rfl, (by repeat (first | exact below_of_grow _ _ | exact Below.refl _ _ | exact below_more _ _ _ _ | (simp only [← Array.append_assoc]; first | exact below_more _ _ _ _ | exact below_same _ _ _ | exact Below.refl _ _) | exact below_same _ _ _ | (refine Below.alloc ?_ (by first | (simp; done) | (simp; omega)) _) | (refine Below.grow ?_ (by first | (simp; done) | (simp; omega)) _ _) | refine Below.drew ?_ | refine Below.drewN ?_ _ | (refine Below.putF ?_ (by first | (simp; done) | omega | (simp; omega)) _) | (refine Below.setCell ?_ (by first | (simp; done) | (simp; omega)) _))), fun h => by cases h⟩
    case o9 =>
      intro x w1 hH K hK
      have e20 : x 20 = _ := hH.holds 8 (by decide) (by decide +kernel) 20 rfl
      obtain ⟨xs, d, rfl⟩ := grow_of_below hH.below
      clear hH
      try simp only [World.grow_drew] at hK ⊢
      try simp only [World.grow_grow] at hK ⊢
      simp only [e20] at hK ⊢
      clear e20
      go_simp
      go_wp2_with (refine Gives.use (HP.out _) ?_; intro ys e)
      exact ⟨_, rfl, rfl, (by first | exact below_more _ _ _ _ | exact (by repeat (first | exact below_of_grow _ _ | exact Below.refl _ _ | exact below_more _ _ _ _ | (simp only [← Array.append_assoc]; first | exact below_more _ _ _ _ | exact below_same _ _ _ | exact Below.refl _ _) | exact below_same _ _ _ | (refine Below.alloc ?_ (by first | (simp; done) | (simp; omega)) _) | (refine Below.grow ?_ (by first | (simp; done) | (simp; omega)) _ _) | refine Below.drew ?_ | refine Below.drewN ?_ _ | (refine Below.putF ?_ (by first | (simp; done) | omega | (simp; omega)) _) | (refine Below.setCell ?_ (by first | (simp; done) | (simp; omega)) _)))), fun h => by cases h⟩
    case o10 =>
      intro x w1 hH K hK
      have e17 : x 17 = _ := hH.holds 5 (by decide) (by decide +kernel) 17 rfl
      have e21 : x 21 = _ := hH.holds 9 (by decide) (by decide +kernel) 21 rfl
      obtain ⟨xs, d, rfl⟩ := grow_of_below hH.below
      clear hH
      try simp only [World.grow_drew] at hK ⊢
      try simp only [World.grow_grow] at hK ⊢
      simp only [e17, e21] at hK ⊢
      clear e17 e21
      go_simp
      go_wp2_with fail
      refine ⟨_, rfl, fun w3 h3 => OwnA.below (own_block (g := _) ?_ ?_ (by simp [strA]) (by simp)) h3, (by repeat (first | exact below_of_grow _ _ | exact Below.refl _ _ | exact below_more _ _ _ _ | (simp only [← Array.append_assoc]; first | exact below_more _ _ _ _ | exact below_same _ _ _ | exact Below.refl _ _) | exact below_same _ _ _ | (refine Below.alloc ?_ (by first | (simp; done) | (simp; omega)) _) | (refine Below.grow ?_ (by first | (simp; done) | (simp; omega)) _ _) | refine Below.drew ?_ | refine Below.drewN ?_ _ | (refine Below.putF ?_ (by first | (simp; done) | omega | (simp; omega)) _) | (refine Below.setCell ?_ (by first | (simp; done) | (simp; omega)) _))), fun h => by cases h⟩
      · rw [heap_al, if_pos (by simp)]; rfl
      · simp
  case hend =>
    intro x w1 hH
    have e12 : x 12 = _ := hH.holds 0 (by decide) trivial 12 rfl
    have e13 : x 13 = _ := hH.holds 1 (by decide) trivial 13 rfl
    have e14 : x 14 = _ := hH.holds 2 (by decide) trivial 14 rfl
    have e15 : x 15 = _ := hH.holds 3 (by decide) trivial 15 rfl
    have e16 : x 16 = _ := hH.holds 4 (by decide) trivial 16 rfl
    have e17 : x 17 = _ := hH.holds 5 (by decide) trivial 17 rfl
    have e18 : x 18 = _ := hH.holds 6 (by decide) trivial 18 rfl
    have e19 : x 19 = _ := hH.holds 7 (by decide) trivial 19 rfl
    have e20 : x 20 = _ := hH.holds 8 (by decide) trivial 20 rfl
    have e21 : x 21 = _ := hH.holds 9 (by decide) trivial 21 rfl
    have r22 := hH.holds 10 (by decide) trivial 22 rfl (_) (Below.refl _ _)
    obtain ⟨xs, d, rfl⟩ := grow_of_below hH.below
    clear hH
    simp only [e12, e13, e14, e15, e16, e17, e18, e19, e20, e21]; clear e12 e13 e14 e15 e16 e17 e18 e19 e20 e21
    simp only [List.drop_succ_cons, List.drop_zero]

    obtain ⟨v0, hv0⟩ : ∃ v0, v0 = x 22 := ⟨_, rfl⟩
    rw [← hv0] at r22 ⊢
    clear hv0 c0 c1 lW1 wp HP
    go_upto_region 5 with fail
    refine wp_name ?_
    intro W0 hW0
    have st : TextSt k #[.int .i64 4, .bool false, .bool false] w b1 b3 W.heap.size [[98], Lib.decDigits (byt k 1).toNat] v0 W0 := by
      rw [hW0]
      obtain ⟨e1, e3, eW, ebl, ek, eu⟩ := HH.out
      exact ⟨(World.grow_heap _ _ _ (by show b1 < W.heap.size; omega)).trans ek, (World.grow_heap _ _ _ (by show b3 < W.heap.size; omega)).trans eu, r22, ebl.drew.grow (by show w.heap.size ≤ W.heap.size; omega) _ _, by omega, by omega, by rw [World.grow_size]; show W.heap.size ≤ W.heap.size + _; omega, by omega⟩
    generalize W.heap.size = BB at st
    clear hW0 r22 HH W
    obtain ⟨f2, f3, f4, f5, f6, f7, l1, l3⟩ := st.facts hk
    have ST := Lib.hid st
    clear st
    go_wp2_with fail
    refine Gives.use (HA.out _) ?_
    intro ya1 da1
    go_wp2_with (at_builtin; refine wpList_append (B := BB) (xs := [[98], Lib.decDigits (byt k 1).toNat].map strA) (ys := [strA (Lib.decDigits (byt k 2).toNat)]) row_str rfl (.tmp 26) (.tmp 31) rfl (v := v0) rfl ?_ rfl ?_ ?_ ?_ ?_ ?_)
    case refine_1 => exact (ST.out.own.grow _ _).alloc _
    case refine_2 => exact ⟨_, sl_one (Nat.le_refl _) (by decide) (cut_heap ((heap_al _ _ _).trans (if_pos (by simp))) rfl)⟩
    case refine_3 => exact allOne_str (l := [Lib.decDigits (byt k 2).toNat])
    case refine_4 => simp
    case refine_5 => have := ST.out.lB; simp; omega
    intro v1 W1 ho hg _
    have st := ST.out.next (qs := [[98], Lib.decDigits (byt k 1).toNat, Lib.decDigits (byt k 2).toNat]) (by simpa using ho) hg
    clear ho hg ST f2 f3 f4 f5 f6 f7 l1 l3
    obtain ⟨f2, f3, f4, f5, f6, f7, l1, l3⟩ := st.facts hk
    have ST := Lib.hid st
    clear st
    have HJ := Lib.hid (join_gives ST.out.own (by simp) (by simp) (by
      intro p hp
      simp only [List.mem_cons, List.not_mem_nil, or_false] at hp
      rcases hp with rfl | rfl | rfl
      · simp
      · exact  dec_len _ hp1
      · exact dec_len _ hp2))
    go_wp2_with fail
    refine Gives.use HJ.out ?_
    intro yz dz
    go_wp2_with fail
    go_ret
    exact ⟨rfl, ST.out.bel.grow (Nat.le_trans ST.out.wB ST.out.lB) _ _⟩
set_option maxHeartbeats 20000000 in
theorem keyText5 (k : List UInt8) (hk : k.length = 25) (hk0 : byt k 0 = 5) (hr : keyRight k = true) (w : World) : Gives Tryd.prog 12 #[.agg (row8 k)] w (.string (bs (keyText k))) := by
  have hp1 : (byt k 1).toNat < 100 := (k_le100 hr).1
  have hp2 : (byt k 2).toNat < 100 := (k_le100 hr).2 (by rw [hk0]; decide)
  have htx : keyText k = Lib.join [[115], Lib.decDigits (byt k 1).toNat, Lib.decDigits (byt k 2).toNat, nameText ((k.take 15).drop 3)] [47] := by
    unfold keyText
    rw [if_pos hr]
    unfold keyParts kKind kProj kAt kName kTag
    rw [hk0]
    try rw [take_two]
    rfl
  rw [htx]
  have HR := Lib.hid (keyRight_gives k hk)
  rw [hr] at HR
  have HU := Lib.hid (show ∀ w, Gives Tryd.prog 13 #[.int .i64 5] w (.agg #[.int .i64 4, .bool true, .bool false]) from used_gives 5)
  have HP := Lib.hid (itoa_gives _ hp1)
  have HA := Lib.hid (itoa_gives _ hp2)
  have HN := Lib.hid (nameText_gives ((k.take 15).drop 3) (by simp; omega))
  have h01 : ((byt k 0).toNat : Int) = 5 := by rw [hk0]; rfl
  clear hr htx hk0
  unfold Gives
  go_enter Tryd.func12, Tryd.ntmps12
  go_wp2_with fail
  refine Gives.use (HR.out _) ?_
  intro xs1 d1
  go_wp2_with fail
  refine Gives.use (HU.out _) ?_
  intro xs2 d2
  go_upto_region 4 with fail
  refine wp_name ?_
  intro W hW
  obtain ⟨b1, hb1⟩ : ∃ b1, b1 = w.heap.size := ⟨_, rfl⟩
  obtain ⟨b3, hb3⟩ : ∃ b3, b3 = w.heap.size + 1 + (xs1.size + xs2.size) := ⟨_, rfl⟩
  have s3 : w.heap.size + 1 ≤ b3 := by omega
  have sW : W.heap.size = b3 + 1 := by rw [hW, hb3]; simp [World.grow_size]
  have hbl : Below w.heap.size w W := by rw [hW]; exact (by repeat (first | exact below_of_grow _ _ | exact Below.refl _ _ | exact below_more _ _ _ _ | (simp only [← Array.append_assoc]; first | exact below_more _ _ _ _ | exact below_same _ _ _ | exact Below.refl _ _) | exact below_same _ _ _ | (refine Below.alloc ?_ (by first | (simp; done) | (simp; omega)) _) | (refine Below.grow ?_ (by first | (simp; done) | (simp; omega)) _ _) | refine Below.drew ?_ | refine Below.drewN ?_ _ | (refine Below.putF ?_ (by first | (simp; done) | omega | (simp; omega)) _) | (refine Below.setCell ?_ (by first | (simp; done) | (simp; omega)) _)))
  have hkk : W.heap[b1]? = some (.cells (row8 k) 33) := by
    rw [hW, heap_al, if_neg (by simp [World.grow_size]; omega), World.grow_heap _ _ _ (by simp; omega), heap_al, if_pos hb1]
  have huu : W.heap[b3]? = some (.cells #[.int .i64 4, .bool true, .bool false] 45) := by
    rw [hW, heap_al, if_pos (by simp [World.grow_size]; omega)]
  have c0 : W.cell? ⟨b1, 0, none⟩ = some (.int .u8 5) := (cellsK hkk 0).1.trans (by rw [row8_get k 0 (by omega), h01])
  have c1 : W.cell? ⟨b1, 1, none⟩ = some (.int .u8 ((byt k 1).toNat : Int)) := (cellsK hkk 1).1.trans (row8_get k 1 (by omega))
  have lW1 : b1 < W.heap.size := by omega
  have wp : IntKind.i64.wrap ((byt k 1).toNat : Int) = (byt k 1).toNat := by have := (byt k 1).toNat_lt; simp [IntKind.wrap, IntKind.bits, IntKind.signed]; omega
  simp only [← hb3]
  simp only [← hb1]
  have HH := Lib.hid (And.intro hb1 (And.intro s3 (And.intro sW (And.intro hbl (And.intro hkk huu)))))
  clear hW h01 hb3 hb1 s3 sW hbl hkk huu
  apply wp_region_specs (by rfl) [.val _, .val _, .val _, .val _, .val _, .val _, .val _, .val _, .val _, .val _, .rel (fun v W' => OwnA W' W.heap.size 1 9 v ([[115], Lib.decDigits (byt k 1).toNat].map strA))] 11 (by rfl) [12, 13, 14, 15, 16, 17, 18, 19, 20, 21, 22] [] [] (by rfl) (by rfl) (by decide) (by decide +kernel) (fun _ _ _ _ _ h => h)
  case hF => intro x; simp only [over, List.foldl_cons, List.foldl_nil, List.setIfInBounds_toArray, List.set_cons_succ, List.set_cons_zero]; exact rfl
  case hops =>
    refine ⟨?o0, ?o1, ?o2, ?o3, ?o4, ?o5, ?o6, ?o7, ?o8, ?o9, ?o10, trivial⟩
    case o0 =>
      intro x w1 hH K hK
      obtain ⟨xs, d, rfl⟩ := grow_of_below hH.below
      clear hH
      try simp only [World.grow_drew] at hK ⊢
      try simp only [World.grow_grow] at hK ⊢
      go_simp
      go_wp2_with fail
      exact ⟨_, rfl, rfl, (by repeat (first | exact below_of_grow _ _ | exact Below.refl _ _ | exact below_more _ _ _ _ | (simp only [← Array.append_assoc]; first | exact below_more _ _ _ _ | exact below_same _ _ _ | exact Below.refl _ _) | exact below_same _ _ _ | (refine Below.alloc ?_ (by first | (simp; done) | (simp; omega)) _) | (refine Below.grow ?_ (by first | (simp; done) | (simp; omega)) _ _) | refine Below.drew ?_ | refine Below.drewN ?_ _ | (refine Below.putF ?_ (by first | (simp; done) | omega | (simp; omega)) _) | (refine Below.setCell ?_ (by first | (simp; done) | (simp; omega)) _))), fun h => by cases h⟩
    case o1 =>
      intro x w1 hH K hK
      have e12 : x 12 = _ := hH.holds 0 (by decide) (by decide +kernel) 12 rfl
      obtain ⟨xs, d, rfl⟩ := grow_of_below hH.below
      clear hH
      try simp only [World.grow_drew] at hK ⊢
      try simp only [World.grow_grow] at hK ⊢
      simp only [e12] at hK ⊢
      clear e12
      go_simp
      go_wp2_with fail
      exact ⟨_, rfl, rfl, (by repeat (first | exact below_of_grow _ _ | exact Below.refl _ _ | exact below_more _ _ _ _ | (simp only [← Array.append_assoc]; first | exact below_more _ _ _ _ | exact below_same _ _ _ | exact Below.refl _ _) | exact below_same _ _ _ | (refine Below.alloc ?_ (by first | (simp; done) | (simp; omega)) _) | (refine Below.grow ?_ (by first | (simp; done) | (simp; omega)) _ _) | refine Below.drew ?_ | refine Below.drewN ?_ _ | (refine Below.putF ?_ (by first | (simp; done) | omega | (simp; omega)) _) | (refine Below.setCell ?_ (by first | (simp; done) | (simp; omega)) _))), fun h => by cases h⟩
    case o2 =>
      intro x w1 hH K hK
      have e13 : x 13 = _ := hH.holds 1 (by decide) (by decide +kernel) 13 rfl
      obtain ⟨xs, d, rfl⟩ := grow_of_below hH.below
      clear hH
      try simp only [World.grow_drew] at hK ⊢
      try simp only [World.grow_grow] at hK ⊢
      simp only [e13] at hK ⊢
      clear e13
      go_simp
      go_wp2_with fail
      exact ⟨_, rfl, rfl, (by repeat (first | exact below_of_grow _ _ | exact Below.refl _ _ | exact below_more _ _ _ _ | (simp only [← Array.append_assoc]; first | exact below_more _ _ _ _ | exact below_same _ _ _ | exact Below.refl _ _) | exact below_same _ _ _ | (refine Below.alloc ?_ (by first | (simp; done) | (simp; omega)) _) | (refine Below.grow ?_ (by first | (simp; done) | (simp; omega)) _ _) | refine Below.drew ?_ | refine Below.drewN ?_ _ | (refine Below.putF ?_ (by first | (simp; done) | omega | (simp; omega)) _) | (refine Below.setCell ?_ (by first | (simp; done) | (simp; omega)) _))), fun h => by cases h⟩
    case o3 =>
      intro x w1 hH K hK
      obtain ⟨xs, d, rfl⟩ := grow_of_below hH.below
      clear hH
      try simp only [World.grow_drew] at hK ⊢
      try simp only [World.grow_grow] at hK ⊢
      go_simp
      go_wp2_with fail
      exact ⟨_, rfl, rfl, (by repeat (first | exact below_of_grow _ _ | exact Below.refl _ _ | exact below_more _ _ _ _ | (simp only [← Array.append_assoc]; first | exact below_more _ _ _ _ | exact below_same _ _ _ | exact Below.refl _ _) | exact below_same _ _ _ | (refine Below.alloc ?_ (by first | (simp; done) | (simp; omega)) _) | (refine Below.grow ?_ (by first | (simp; done) | (simp; omega)) _ _) | refine Below.drew ?_ | refine Below.drewN ?_ _ | (refine Below.putF ?_ (by first | (simp; done) | omega | (simp; omega)) _) | (refine Below.setCell ?_ (by first | (simp; done) | (simp; omega)) _))), fun h => by cases h⟩
    case o4 =>
      intro x w1 hH K hK
      have e15 : x 15 = _ := hH.holds 3 (by decide) (by decide +kernel) 15 rfl
      obtain ⟨xs, d, rfl⟩ := grow_of_below hH.below
      clear hH
      try simp only [World.grow_drew] at hK ⊢
      try simp only [World.grow_grow] at hK ⊢
      simp only [e15] at hK ⊢
      clear e15
      go_simp
      go_wp2_with fail
      exact ⟨_, rfl, rfl, (by repeat (first | exact below_of_grow _ _ | exact Below.refl _ _ | exact below_more _ _ _ _ | (simp only [← Array.append_assoc]; first | exact below_more _ _ _ _ | exact below_same _ _ _ | exact Below.refl _ _) | exact below_same _ _ _ | (refine Below.alloc ?_ (by first | (simp; done) | (simp; omega)) _) | (refine Below.grow ?_ (by first | (simp; done) | (simp; omega)) _ _) | refine Below.drew ?_ | refine Below.drewN ?_ _ | (refine Below.putF ?_ (by first | (simp; done) | omega | (simp; omega)) _) | (refine Below.setCell ?_ (by first | (simp; done) | (simp; omega)) _))), fun h => by cases h⟩
    case o5 =>
      intro x w1 hH K hK
      have e14 : x 14 = _ := hH.holds 2 (by decide) (by decide +kernel) 14 rfl
      have e16 : x 16 = _ := hH.holds 4 (by decide) (by decide +kernel) 16 rfl
      obtain ⟨xs, d, rfl⟩ := grow_of_below hH.below
      clear hH
      try simp only [World.grow_drew] at hK ⊢
      try simp only [World.grow_grow] at hK ⊢
      simp only [e14, e16] at hK ⊢
      clear e14 e16
      go_simp
      go_wp2_with fail
      exact ⟨_, rfl, rfl, (by repeat (first | exact below_of_grow _ _ | exact Below.refl _ _ | exact below_more _ _ _ _ | (simp only [← Array.append_assoc]; first | exact below_more _ _ _ _ | exact below_same _ _ _ | exact Below.refl _ _) | exact below_same _ _ _ | (refine Below.alloc ?_ (by first | (simp; done) | (simp; omega)) _) | (refine Below.grow ?_ (by first | (simp; done) | (simp; omega)) _ _) | refine Below.drew ?_ | refine Below.drewN ?_ _ | (refine Below.putF ?_ (by first | (simp; done) | omega | (simp; omega)) _) | (refine Below.setCell ?_ (by first | (simp; done) | (simp; omega)) _))), fun h => by cases h⟩
    case o6 =>
      intro x w1 hH K hK
      obtain ⟨xs, d, rfl⟩ := grow_of_below hH.below
      clear hH
      try simp only [World.grow_drew] at hK ⊢
      try simp only [World.grow_grow] at hK ⊢
      go_simp
      go_wp2_with fail
      exact ⟨_, rfl, rfl, (by repeat (first | exact below_of_grow _ _ | exact Below.refl _ _ | exact below_more _ _ _ _ | (simp only [← Array.append_assoc]; first | exact below_more _ _ _ _ | exact below_same _ _ _ | exact Below.refl _ _) | exact below_same _ _ _ | (refine Below.alloc ?_ (by first | (simp; done) | (simp; omega)) _) | (refine Below.grow ?_ (by first | (simp; done) | (simp; omega)) _ _) | refine Below.drew ?_ | refine Below.drewN ?_ _ | (refine Below.putF ?_ (by first | (simp; done) | omega | (simp; omega)) _) | (refine Below.setCell ?_ (by first | (simp; done) | (simp; omega)) _))), fun h => by cases h⟩
    case o7 =>
      intro x w1 hH K hK
      have e18 : x 18 = _ := hH.holds 6 (by decide) (by decide +kernel) 18 rfl
      obtain ⟨xs, d, rfl⟩ := grow_of_below hH.below
      clear hH
      try simp only [World.grow_drew] at hK ⊢
      try simp only [World.grow_grow] at hK ⊢
      simp only [e18] at hK ⊢
      clear e18
      go_simp
      go_wp2_with fail
      exact ⟨_, rfl, rfl, (by repeat (first | exact below_of_grow _ _ | exact Below.refl _ _ | exact below_more _ _ _ _ | (simp only [← Array.append_assoc]; first | exact below_more _ _ _ _ | exact below_same _ _ _ | exact Below.refl _ _) | exact below_same _ _ _ | (refine Below.alloc ?_ (by first | (simp; done) | (simp; omega)) _) | (refine Below.grow ?_ (by first | (simp; done) | (simp; omega)) _ _) | refine Below.drew ?_ | refine Below.drewN ?_ _ | (refine Below.putF ?_ (by first | (simp; done) | omega | (simp; omega)) _) | (refine Below.setCell ?_ (by first | (simp; done) | (simp; omega)) _))), fun h => by cases h⟩
    case o8 =>
      intro x w1 hH K hK
      have e19 : x 19 = _ := hH.holds 7 (by decide) (by decide +kernel) 19 rfl
      obtain ⟨xs, d, rfl⟩ := grow_of_below hH.below
      clear hH
      try simp only [World.grow_drew] at hK ⊢
      try simp only [World.grow_grow] at hK ⊢
      simp only [e19] at hK ⊢
      clear e19
      go_simp
      go_wp2_with fail
      exact ⟨_, rfl, rfl, (by repeat (first | exact below_of_grow _ _ | exact Below.refl _ _ | exact below_more _ _ _ _ | (simp only [← Array.append_assoc]; first | exact below_more _ _ _ _ | exact below_same _ _ _ | exact Below.refl _ _) | exact below_same _ _ _ | (refine Below.alloc ?_ (by first | (simp; done) | (simp; omega)) _) | (refine Below.grow ?_ (by first | (simp; done) | (simp; omega)) _ _) | refine Below.drew ?_ | refine Below.drewN ?_ _ | (refine Below.putF ?_ (by first | (simp; done) | omega | (simp; omega)) _) | (refine Below.setCell ?_ (by first | (simp; done) | (simp; omega)) _))), fun h => by cases h⟩
    case o9 =>
      intro x w1 hH K hK
      have e20 : x 20 = _ := hH.holds 8 (by decide) (by decide +kernel) 20 rfl
      obtain ⟨xs, d, rfl⟩ := grow_of_below hH.below
      clear hH
      try simp only [World.grow_drew] at hK ⊢
      try simp only [World.grow_grow] at hK ⊢
      simp only [e20] at hK ⊢
      clear e20
      go_simp
      go_wp2_with (refine Gives.use (HP.out _) ?_; intro ys e)
      exact ⟨_, rfl, rfl, (by first | exact below_more _ _ _ _ | exact (by repeat (first | exact below_of_grow _ _ | exact Below.refl _ _ | exact below_more _ _ _ _ | (simp only [← Array.append_assoc]; first | exact below_more _ _ _ _ | exact below_same _ _ _ | exact Below.refl _ _) | exact below_same _ _ _ | (refine Below.alloc ?_ (by first | (simp; done) | (simp; omega)) _) | (refine Below.grow ?_ (by first | (simp; done) | (simp; omega)) _ _) | refine Below.drew ?_ | refine Below.drewN ?_ _ | (refine Below.putF ?_ (by first | (simp; done) | omega | (simp; omega)) _) | (refine Below.setCell ?_ (by first | (simp; done) | (simp; omega)) _)))), fun h => by cases h⟩
    case o10 =>
      intro x w1 hH K hK
      have e17 : x 17 = _ := hH.holds 5 (by decide) (by decide +kernel) 17 rfl
      have e21 : x 21 = _ := hH.holds 9 (by decide) (by decide +kernel) 21 rfl
      obtain ⟨xs, d, rfl⟩ := grow_of_below hH.below
      clear hH
      try simp only [World.grow_drew] at hK ⊢
      try simp only [World.grow_grow] at hK ⊢
      simp only [e17, e21] at hK ⊢
      clear e17 e21
      go_simp
      go_wp2_with fail
      refine ⟨_, rfl, fun w3 h3 => OwnA.below (own_block (g := _) ?_ ?_ (by simp [strA]) (by simp)) h3, (by repeat (first | exact below_of_grow _ _ | exact Below.refl _ _ | exact below_more _ _ _ _ | (simp only [← Array.append_assoc]; first | exact below_more _ _ _ _ | exact below_same _ _ _ | exact Below.refl _ _) | exact below_same _ _ _ | (refine Below.alloc ?_ (by first | (simp; done) | (simp; omega)) _) | (refine Below.grow ?_ (by first | (simp; done) | (simp; omega)) _ _) | refine Below.drew ?_ | refine Below.drewN ?_ _ | (refine Below.putF ?_ (by first | (simp; done) | omega | (simp; omega)) _) | (refine Below.setCell ?_ (by first | (simp; done) | (simp; omega)) _))), fun h => by cases h⟩
      · rw [heap_al, if_pos (by simp)]; rfl
      · simp
  case hend =>
    intro x w1 hH
    have e12 : x 12 = _ := hH.holds 0 (by decide) trivial 12 rfl
    have e13 : x 13 = _ := hH.holds 1 (by decide) trivial 13 rfl
    have e14 : x 14 = _ := hH.holds 2 (by decide) trivial 14 rfl
    have e15 : x 15 = _ := hH.holds 3 (by decide) trivial 15 rfl
    have e16 : x 16 = _ := hH.holds 4 (by decide) trivial 16 rfl
    have e17 : x 17 = _ := hH.holds 5 (by decide) trivial 17 rfl
    have e18 : x 18 = _ := hH.holds 6 (by decide) trivial 18 rfl
    have e19 : x 19 = _ := hH.holds 7 (by decide) trivial 19 rfl
    have e20 : x 20 = _ := hH.holds 8 (by decide) trivial 20 rfl
    have e21 : x 21 = _ := hH.holds 9 (by decide) trivial 21 rfl
    have r22 := hH.holds 10 (by decide) trivial 22 rfl (_) (Below.refl _ _)
    obtain ⟨xs, d, rfl⟩ := grow_of_below hH.below
    clear hH
    simp only [e12, e13, e14, e15, e16, e17, e18, e19, e20, e21]; clear e12 e13 e14 e15 e16 e17 e18 e19 e20 e21
    simp only [List.drop_succ_cons, List.drop_zero]

    obtain ⟨v0, hv0⟩ : ∃ v0, v0 = x 22 := ⟨_, rfl⟩
    rw [← hv0] at r22 ⊢
    clear hv0 c0 c1 lW1 wp HP
    go_upto_region 5 with fail
    refine wp_name ?_
    intro W0 hW0
    have st : TextSt k #[.int .i64 4, .bool true, .bool false] w b1 b3 W.heap.size [[115], Lib.decDigits (byt k 1).toNat] v0 W0 := by
      rw [hW0]
      obtain ⟨e1, e3, eW, ebl, ek, eu⟩ := HH.out
      exact ⟨(World.grow_heap _ _ _ (by show b1 < W.heap.size; omega)).trans ek, (World.grow_heap _ _ _ (by show b3 < W.heap.size; omega)).trans eu, r22, ebl.drew.grow (by show w.heap.size ≤ W.heap.size; omega) _ _, by omega, by omega, by rw [World.grow_size]; show W.heap.size ≤ W.heap.size + _; omega, by omega⟩
    generalize W.heap.size = BB at st
    clear hW0 r22 HH W
    obtain ⟨f2, f3, f4, f5, f6, f7, l1, l3⟩ := st.facts hk
    have ST := Lib.hid st
    clear st
    go_wp2_with fail
    refine Gives.use (HA.out _) ?_
    intro ya1 da1
    go_wp2_with (at_builtin; refine wpList_append (B := BB) (xs := [[115], Lib.decDigits (byt k 1).toNat].map strA) (ys := [strA (Lib.decDigits (byt k 2).toNat)]) row_str rfl (.tmp 26) (.tmp 31) rfl (v := v0) rfl ?_ rfl ?_ ?_ ?_ ?_ ?_)
    case refine_1 => exact (ST.out.own.grow _ _).alloc _
    case refine_2 => exact ⟨_, sl_one (Nat.le_refl _) (by decide) (cut_heap ((heap_al _ _ _).trans (if_pos (by simp))) rfl)⟩
    case refine_3 => exact allOne_str (l := [Lib.decDigits (byt k 2).toNat])
    case refine_4 => simp
    case refine_5 => have := ST.out.lB; simp; omega
    intro v1 W1 ho hg _
    have st := ST.out.next (qs := [[115], Lib.decDigits (byt k 1).toNat, Lib.decDigits (byt k 2).toNat]) (by simpa using ho) hg
    clear ho hg ST f2 f3 f4 f5 f6 f7 l1 l3
    obtain ⟨f2, f3, f4, f5, f6, f7, l1, l3⟩ := st.facts hk
    have ST := Lib.hid st
    clear st
    go_wp2_with fail
    refine Gives.use (HN.out _) ?_
    intro ya2 da2
    go_wp2_with (at_builtin; refine wpList_append (B := BB) (xs := [[115], Lib.decDigits (byt k 1).toNat, Lib.decDigits (byt k 2).toNat].map strA) (ys := [strA (nameText ((k.take 15).drop 3))]) row_str rfl (.tmp 35) (.tmp 39) rfl (v := v1) rfl ?_ rfl ?_ ?_ ?_ ?_ ?_)
    case refine_1 => exact (ST.out.own.grow _ _).alloc _
    case refine_2 => exact ⟨_, sl_one (Nat.le_refl _) (by decide) (cut_heap ((heap_al _ _ _).trans (if_pos (by simp))) rfl)⟩
    case refine_3 => exact allOne_str (l := [nameText ((k.take 15).drop 3)])
    case refine_4 => simp
    case refine_5 => have := ST.out.lB; simp; omega
    intro v2 W2 ho hg _
    have st := ST.out.next (qs := [[115], Lib.decDigits (byt k 1).toNat, Lib.decDigits (byt k 2).toNat, nameText ((k.take 15).drop 3)]) (by simpa using ho) hg
    clear ho hg ST f2 f3 f4 f5 f6 f7 l1 l3
    obtain ⟨f2, f3, f4, f5, f6, f7, l1, l3⟩ := st.facts hk
    have ST := Lib.hid st
    clear st
    have HJ := Lib.hid (join_gives ST.out.own (by simp) (by simp) (by
      intro p hp
      simp only [List.mem_cons, List.not_mem_nil, or_false] at hp
      rcases hp with rfl | rfl | rfl | rfl
      · simp
      · exact  dec_len _ hp1
      · exact dec_len _ hp2
      · exact nameText_len (by simp; omega)))
    go_wp2_with fail
    refine Gives.use HJ.out ?_
    intro yz dz
    go_wp2_with fail
    go_ret
    exact ⟨rfl, ST.out.bel.grow (Nat.le_trans ST.out.wB ST.out.lB) _ _⟩
set_option maxHeartbeats 20000000 in
theorem keyText6 (k : List UInt8) (hk : k.length = 25) (hk0 : byt k 0 = 6) (hr : keyRight k = true) (w : World) : Gives Tryd.prog 12 #[.agg (row8 k)] w (.string (bs (keyText k))) := by
  have hp1 : (byt k 1).toNat < 100 := (k_le100 hr).1
  have hp2 : (byt k 2).toNat < 100 := (k_le100 hr).2 (by rw [hk0]; decide)
  have htx : keyText k = Lib.join [[116], Lib.decDigits (byt k 1).toNat, Lib.decDigits (byt k 2).toNat, nameText ((k.take 15).drop 3), tagText (k.drop 15)] [47] := by
    unfold keyText
    rw [if_pos hr]
    unfold keyParts kKind kProj kAt kName kTag
    rw [hk0]
    try rw [take_two]
    rfl
  rw [htx]
  have HR := Lib.hid (keyRight_gives k hk)
  rw [hr] at HR
  have HU := Lib.hid (show ∀ w, Gives Tryd.prog 13 #[.int .i64 6] w (.agg #[.int .i64 4, .bool true, .bool true]) from used_gives 6)
  have HP := Lib.hid (itoa_gives _ hp1)
  have HA := Lib.hid (itoa_gives _ hp2)
  have HN := Lib.hid (nameText_gives ((k.take 15).drop 3) (by simp; omega))
  have HT := Lib.hid (tagText_gives (k.drop 15) (by simp; omega))
  have h01 : ((byt k 0).toNat : Int) = 6 := by rw [hk0]; rfl
  clear hr htx hk0
  unfold Gives
  go_enter Tryd.func12, Tryd.ntmps12
  go_wp2_with fail
  refine Gives.use (HR.out _) ?_
  intro xs1 d1
  go_wp2_with fail
  refine Gives.use (HU.out _) ?_
  intro xs2 d2
  go_upto_region 4 with fail
  refine wp_name ?_
  intro W hW
  obtain ⟨b1, hb1⟩ : ∃ b1, b1 = w.heap.size := ⟨_, rfl⟩
  obtain ⟨b3, hb3⟩ : ∃ b3, b3 = w.heap.size + 1 + (xs1.size + xs2.size) := ⟨_, rfl⟩
  have s3 : w.heap.size + 1 ≤ b3 := by omega
  have sW : W.heap.size = b3 + 1 := by rw [hW, hb3]; simp [World.grow_size]
  have hbl : Below w.heap.size w W := by rw [hW]; exact (by repeat (first | exact below_of_grow _ _ | exact Below.refl _ _ | exact below_more _ _ _ _ | (simp only [← Array.append_assoc]; first | exact below_more _ _ _ _ | exact below_same _ _ _ | exact Below.refl _ _) | exact below_same _ _ _ | (refine Below.alloc ?_ (by first | (simp; done) | (simp; omega)) _) | (refine Below.grow ?_ (by first | (simp; done) | (simp; omega)) _ _) | refine Below.drew ?_ | refine Below.drewN ?_ _ | (refine Below.putF ?_ (by first | (simp; done) | omega | (simp; omega)) _) | (refine Below.setCell ?_ (by first | (simp; done) | (simp; omega)) _)))
  have hkk : W.heap[b1]? = some (.cells (row8 k) 33) := by
    rw [hW, heap_al, if_neg (by simp [World.grow_size]; omega), World.grow_heap _ _ _ (by simp; omega), heap_al, if_pos hb1]
  have huu : W.heap[b3]? = some (.cells #[.int .i64 4, .bool true, .bool true] 45) := by
    rw [hW, heap_al, if_pos (by simp [World.grow_size]; omega)]
  have c0 : W.cell? ⟨b1, 0, none⟩ = some (.int .u8 6) := (cellsK hkk 0).1.trans (by rw [row8_get k 0 (by omega), h01])
  have c1 : W.cell? ⟨b1, 1, none⟩ = some (.int .u8 ((byt k 1).toNat : Int)) := (cellsK hkk 1).1.trans (row8_get k 1 (by omega))
  have lW1 : b1 < W.heap.size := by omega
  have wp : IntKind.i64.wrap ((byt k 1).toNat : Int) = (byt k 1).toNat := by have := (byt k 1).toNat_lt; simp [IntKind.wrap, IntKind.bits, IntKind.signed]; omega
  simp only [← hb3]
  simp only [← hb1]
  have HH := Lib.hid (And.intro hb1 (And.intro s3 (And.intro sW (And.intro hbl (And.intro hkk huu)))))
  clear hW h01 hb3 hb1 s3 sW hbl hkk huu
  apply wp_region_specs (by rfl) [.val _, .val _, .val _, .val _, .val _, .val _, .val _, .val _, .val _, .val _, .rel (fun v W' => OwnA W' W.heap.size 1 9 v ([[116], Lib.decDigits (byt k 1).toNat].map strA))] 11 (by rfl) [12, 13, 14, 15, 16, 17, 18, 19, 20, 21, 22] [] [] (by rfl) (by rfl) (by decide) (by decide +kernel) (fun _ _ _ _ _ h => h)
  case hF => intro x; simp only [over, List.foldl_cons, List.foldl_nil, List.setIfInBounds_toArray, List.set_cons_succ, List.set_cons_zero]; exact rfl
  case hops =>
    refine ⟨?o0, ?o1, ?o2, ?o3, ?o4, ?o5, ?o6, ?o7, ?o8, ?o9, ?o10, trivial⟩
    case o0 =>
      intro x w1 hH K hK
      obtain ⟨xs, d, rfl⟩ := grow_of_below hH.below
      clear hH
      try simp only [World.grow_drew] at hK ⊢
      try simp only [World.grow_grow] at hK ⊢
      go_simp
      go_wp2_with fail
      exact ⟨_, rfl, rfl, (by repeat (first | exact below_of_grow _ _ | exact Below.refl _ _ | exact below_more _ _ _ _ | (simp only [← Array.append_assoc]; first | exact below_more _ _ _ _ | exact below_same _ _ _ | exact Below.refl _ _) | exact below_same _ _ _ | (refine Below.alloc ?_ (by first | (simp; done) | (simp; omega)) _) | (refine Below.grow ?_ (by first | (simp; done) | (simp; omega)) _ _) | refine Below.drew ?_ | refine Below.drewN ?_ _ | (refine Below.putF ?_ (by first | (simp; done) | omega | (simp; omega)) _) | (refine Below.setCell ?_ (by first | (simp; done) | (simp; omega)) _))), fun h => by cases h⟩
    case o1 =>
      intro x w1 hH K hK
      have e12 : x 12 = _ := hH.holds 0 (by decide) (by decide +kernel) 12 rfl
      obtain ⟨xs, d, rfl⟩ := grow_of_below hH.below
      clear hH
      try simp only [World.grow_drew] at hK ⊢
      try simp only [World.grow_grow] at hK ⊢
      simp only [e12] at hK ⊢
      clear e12
      go_simp
      go_wp2_with fail
      exact ⟨_, rfl, rfl, (by repeat (first | exact below_of_grow _ _ | exact Below.refl _ _ | exact below_more _ _ _ _ | (simp only [← Array.append_assoc]; first | exact below_more _ _ _ _ | exact below_same _ _ _ | exact Below.refl _ _) | exact below_same _ _ _ | (refine Below.alloc ?_ (by first | (simp; done) | (simp; omega)) _) | (refine Below.grow ?_ (by first | (simp; done) | (simp; omega)) _ _) | refine Below.drew ?_ | refine Below.drewN ?_ _ | (refine Below.putF ?_ (by first | (simp; done) | omega | (simp; omega)) _) | (refine Below.setCell ?_ (by first | (simp; done) | (simp; omega)) _))), fun h => by cases h⟩
    case o2 =>
      intro x w1 hH K hK
      have e13 : x 13 = _ := hH.holds 1 (by decide) (by decide +kernel) 13 rfl
      obtain ⟨xs, d, rfl⟩ := grow_of_below hH.below
      clear hH
      try simp only [World.grow_drew] at hK ⊢
      try simp only [World.grow_grow] at hK ⊢
      simp only [e13] at hK ⊢
      clear e13
      go_simp
      go_wp2_with fail
      exact ⟨_, rfl, rfl, (by repeat (first | exact below_of_grow _ _ | exact Below.refl _ _ | exact below_more _ _ _ _ | (simp only [← Array.append_assoc]; first | exact below_more _ _ _ _ | exact below_same _ _ _ | exact Below.refl _ _) | exact below_same _ _ _ | (refine Below.alloc ?_ (by first | (simp; done) | (simp; omega)) _) | (refine Below.grow ?_ (by first | (simp; done) | (simp; omega)) _ _) | refine Below.drew ?_ | refine Below.drewN ?_ _ | (refine Below.putF ?_ (by first | (simp; done) | omega | (simp; omega)) _) | (refine Below.setCell ?_ (by first | (simp; done) | (simp; omega)) _))), fun h => by cases h⟩
    case o3 =>
      intro x w1 hH K hK
      obtain ⟨xs, d, rfl⟩ := grow_of_below hH.below
      clear hH
      try simp only [World.grow_drew] at hK ⊢
      try simp only [World.grow_grow] at hK ⊢
      go_simp
      go_wp2_with fail
      exact ⟨_, rfl, rfl, (by repeat (first | exact below_of_grow _ _ | exact Below.refl _ _ | exact below_more _ _ _ _ | (simp only [← Array.append_assoc]; first | exact below_more _ _ _ _ | exact below_same _ _ _ | exact Below.refl _ _) | exact below_same _ _ _ | (refine Below.alloc ?_ (by first | (simp; done) | (simp; omega)) _) | (refine Below.grow ?_ (by first | (simp; done) | (simp; omega)) _ _) | refine Below.drew ?_ | refine Below.drewN ?_ _ | (refine Below.putF ?_ (by first | (simp; done) | omega | (simp; omega)) _) | (refine Below.setCell ?_ (by first | (simp; done) | (simp; omega)) _))), fun h => by cases h⟩
    case o4 =>
      intro x w1 hH K hK
      have e15 : x 15 = _ := hH.holds 3 (by decide) (by decide +kernel) 15 rfl
      obtain ⟨xs, d, rfl⟩ := grow_of_below hH.below
      clear hH
      try simp only [World.grow_drew] at hK ⊢
      try simp only [World.grow_grow] at hK ⊢
      simp only [e15] at hK ⊢
      clear e15
      go_simp
      go_wp2_with fail
      exact ⟨_, rfl, rfl, (by repeat (first | exact below_of_grow _ _ | exact Below.refl _ _ | exact below_more _ _ _ _ | (simp only [← Array.append_assoc]; first | exact below_more _ _ _ _ | exact below_same _ _ _ | exact Below.refl _ _) | exact below_same _ _ _ | (refine Below.alloc ?_ (by first | (simp; done) | (simp; omega)) _) | (refine Below.grow ?_ (by first | (simp; done) | (simp; omega)) _ _) | refine Below.drew ?_ | refine Below.drewN ?_ _ | (refine Below.putF ?_ (by first | (simp; done) | omega | (simp; omega)) _) | (refine Below.setCell ?_ (by first | (simp; done) | (simp; omega)) _))), fun h => by cases h⟩
    case o5 =>
      intro x w1 hH K hK
      have e14 : x 14 = _ := hH.holds 2 (by decide) (by decide +kernel) 14 rfl
      have e16 : x 16 = _ := hH.holds 4 (by decide) (by decide +kernel) 16 rfl
      obtain ⟨xs, d, rfl⟩ := grow_of_below hH.below
      clear hH
      try simp only [World.grow_drew] at hK ⊢
      try simp only [World.grow_grow] at hK ⊢
      simp only [e14, e16] at hK ⊢
      clear e14 e16
      go_simp
      go_wp2_with fail
      exact ⟨_, rfl, rfl, (by repeat (first | exact below_of_grow _ _ | exact Below.refl _ _ | exact below_more _ _ _ _ | (simp only [← Array.append_assoc]; first | exact below_more _ _ _ _ | exact below_same _ _ _ | exact Below.refl _ _) | exact below_same _ _ _ | (refine Below.alloc ?_ (by first | (simp; done) | (simp; omega)) _) | (refine Below.grow ?_ (by first | (simp; done) | (simp; omega)) _ _) | refine Below.drew ?_ | refine Below.drewN ?_ _ | (refine Below.putF ?_ (by first | (simp; done) | omega | (simp; omega)) _) | (refine Below.setCell ?_ (by first | (simp; done) | (simp; omega)) _))), fun h => by cases h⟩
    case o6 =>
      intro x w1 hH K hK
      obtain ⟨xs, d, rfl⟩ := grow_of_below hH.below
      clear hH
      try simp only [World.grow_drew] at hK ⊢
      try simp only [World.grow_grow] at hK ⊢
      go_simp
      go_wp2_with fail
      exact ⟨_, rfl, rfl, (by repeat (first | exact below_of_grow _ _ | exact Below.refl _ _ | exact below_more _ _ _ _ | (simp only [← Array.append_assoc]; first | exact below_more _ _ _ _ | exact below_same _ _ _ | exact Below.refl _ _) | exact below_same _ _ _ | (refine Below.alloc ?_ (by first | (simp; done) | (simp; omega)) _) | (refine Below.grow ?_ (by first | (simp; done) | (simp; omega)) _ _) | refine Below.drew ?_ | refine Below.drewN ?_ _ | (refine Below.putF ?_ (by first | (simp; done) | omega | (simp; omega)) _) | (refine Below.setCell ?_ (by first | (simp; done) | (simp; omega)) _))), fun h => by cases h⟩
    case o7 =>
      intro x w1 hH K hK
      have e18 : x 18 = _ := hH.holds 6 (by decide) (by decide +kernel) 18 rfl
      obtain ⟨xs, d, rfl⟩ := grow_of_below hH.below
      clear hH
      try simp only [World.grow_drew] at hK ⊢
      try simp only [World.grow_grow] at hK ⊢
      simp only [e18] at hK ⊢
      clear e18
      go_simp
      go_wp2_with fail
      exact ⟨_, rfl, rfl, (by repeat (first | exact below_of_grow _ _ | exact Below.refl _ _ | exact below_more _ _ _ _ | (simp only [← Array.append_assoc]; first | exact below_more _ _ _ _ | exact below_same _ _ _ | exact Below.refl _ _) | exact below_same _ _ _ | (refine Below.alloc ?_ (by first | (simp; done) | (simp; omega)) _) | (refine Below.grow ?_ (by first | (simp; done) | (simp; omega)) _ _) | refine Below.drew ?_ | refine Below.drewN ?_ _ | (refine Below.putF ?_ (by first | (simp; done) | omega | (simp; omega)) _) | (refine Below.setCell ?_ (by first | (simp; done) | (simp; omega)) _))), fun h => by cases h⟩
    case o8 =>
      intro x w1 hH K hK
      have e19 : x 19 = _ := hH.holds 7 (by decide) (by decide +kernel) 19 rfl
      obtain ⟨xs, d, rfl⟩ := grow_of_below hH.below
      clear hH
      try simp only [World.grow_drew] at hK ⊢
      try simp only [World.grow_grow] at hK ⊢
      simp only [e19] at hK ⊢
      clear e19
      go_simp
      go_wp2_with fail
      exact ⟨_, rfl, rfl, (by repeat (first | exact below_of_grow _ _ | exact Below.refl _ _ | exact below_more _ _ _ _ | (simp only [← Array.append_assoc]; first | exact below_more _ _ _ _ | exact below_same _ _ _ | exact Below.refl _ _) | exact below_same _ _ _ | (refine Below.alloc ?_ (by first | (simp; done) | (simp; omega)) _) | (refine Below.grow ?_ (by first | (simp; done) | (simp; omega)) _ _) | refine Below.drew ?_ | refine Below.drewN ?_ _ | (refine Below.putF ?_ (by first | (simp; done) | omega | (simp; omega)) _) | (refine Below.setCell ?_ (by first | (simp; done) | (simp; omega)) _))), fun h => by cases h⟩
    case o9 =>
      intro x w1 hH K hK
      have e20 : x 20 = _ := hH.holds 8 (by decide) (by decide +kernel) 20 rfl
      obtain ⟨xs, d, rfl⟩ := grow_of_below hH.below
      clear hH
      try simp only [World.grow_drew] at hK ⊢
      try simp only [World.grow_grow] at hK ⊢
      simp only [e20] at hK ⊢
      clear e20
      go_simp
      go_wp2_with (refine Gives.use (HP.out _) ?_; intro ys e)
      exact ⟨_, rfl, rfl, (by first | exact below_more _ _ _ _ | exact (by repeat (first | exact below_of_grow _ _ | exact Below.refl _ _ | exact below_more _ _ _ _ | (simp only [← Array.append_assoc]; first | exact below_more _ _ _ _ | exact below_same _ _ _ | exact Below.refl _ _) | exact below_same _ _ _ | (refine Below.alloc ?_ (by first | (simp; done) | (simp; omega)) _) | (refine Below.grow ?_ (by first | (simp; done) | (simp; omega)) _ _) | refine Below.drew ?_ | refine Below.drewN ?_ _ | (refine Below.putF ?_ (by first | (simp; done) | omega | (simp; omega)) _) | (refine Below.setCell ?_ (by first | (simp; done) | (simp; omega)) _)))), fun h => by cases h⟩
    case o10 =>
      intro x w1 hH K hK
      have e17 : x 17 = _ := hH.holds 5 (by decide) (by decide +kernel) 17 rfl
      have e21 : x 21 = _ := hH.holds 9 (by decide) (by decide +kernel) 21 rfl
      obtain ⟨xs, d, rfl⟩ := grow_of_below hH.below
      clear hH
      try simp only [World.grow_drew] at hK ⊢
      try simp only [World.grow_grow] at hK ⊢
      simp only [e17, e21] at hK ⊢
      clear e17 e21
      go_simp
      go_wp2_with fail
      refine ⟨_, rfl, fun w3 h3 => OwnA.below (own_block (g := _) ?_ ?_ (by simp [strA]) (by simp)) h3, (by repeat (first | exact below_of_grow _ _ | exact Below.refl _ _ | exact below_more _ _ _ _ | (simp only [← Array.append_assoc]; first | exact below_more _ _ _ _ | exact below_same _ _ _ | exact Below.refl _ _) | exact below_same _ _ _ | (refine Below.alloc ?_ (by first | (simp; done) | (simp; omega)) _) | (refine Below.grow ?_ (by first | (simp; done) | (simp; omega)) _ _) | refine Below.drew ?_ | refine Below.drewN ?_ _ | (refine Below.putF ?_ (by first | (simp; done) | omega | (simp; omega)) _) | (refine Below.setCell ?_ (by first | (simp; done) | (simp; omega)) _))), fun h => by cases h⟩
      · rw [heap_al, if_pos (by simp)]; rfl
      · simp
  case hend =>
    intro x w1 hH
    have e12 : x 12 = _ := hH.holds 0 (by decide) trivial 12 rfl
    have e13 : x 13 = _ := hH.holds 1 (by decide) trivial 13 rfl
    have e14 : x 14 = _ := hH.holds 2 (by decide) trivial 14 rfl
    have e15 : x 15 = _ := hH.holds 3 (by decide) trivial 15 rfl
    have e16 : x 16 = _ := hH.holds 4 (by decide) trivial 16 rfl
    have e17 : x 17 = _ := hH.holds 5 (by decide) trivial 17 rfl
    have e18 : x 18 = _ := hH.holds 6 (by decide) trivial 18 rfl
    have e19 : x 19 = _ := hH.holds 7 (by decide) trivial 19 rfl
    have e20 : x 20 = _ := hH.holds 8 (by decide) trivial 20 rfl
    have e21 : x 21 = _ := hH.holds 9 (by decide) trivial 21 rfl
    have r22 := hH.holds 10 (by decide) trivial 22 rfl (_) (Below.refl _ _)
    obtain ⟨xs, d, rfl⟩ := grow_of_below hH.below
    clear hH
    simp only [e12, e13, e14, e15, e16, e17, e18, e19, e20, e21]; clear e12 e13 e14 e15 e16 e17 e18 e19 e20 e21
    simp only [List.drop_succ_cons, List.drop_zero]

    obtain ⟨v0, hv0⟩ : ∃ v0, v0 = x 22 := ⟨_, rfl⟩
    rw [← hv0] at r22 ⊢
    clear hv0 c0 c1 lW1 wp HP
    go_upto_region 5 with fail
    refine wp_name ?_
    intro W0 hW0
    have st : TextSt k #[.int .i64 4, .bool true, .bool true] w b1 b3 W.heap.size [[116], Lib.decDigits (byt k 1).toNat] v0 W0 := by
      rw [hW0]
      obtain ⟨e1, e3, eW, ebl, ek, eu⟩ := HH.out
      exact ⟨(World.grow_heap _ _ _ (by show b1 < W.heap.size; omega)).trans ek, (World.grow_heap _ _ _ (by show b3 < W.heap.size; omega)).trans eu, r22, ebl.drew.grow (by show w.heap.size ≤ W.heap.size; omega) _ _, by omega, by omega, by rw [World.grow_size]; show W.heap.size ≤ W.heap.size + _; omega, by omega⟩
    generalize W.heap.size = BB at st
    clear hW0 r22 HH W
    obtain ⟨f2, f3, f4, f5, f6, f7, l1, l3⟩ := st.facts hk
    have ST := Lib.hid st
    clear st
    go_wp2_with fail
    refine Gives.use (HA.out _) ?_
    intro ya1 da1
    go_wp2_with (at_builtin; refine wpList_append (B := BB) (xs := [[116], Lib.decDigits (byt k 1).toNat].map strA) (ys := [strA (Lib.decDigits (byt k 2).toNat)]) row_str rfl (.tmp 26) (.tmp 31) rfl (v := v0) rfl ?_ rfl ?_ ?_ ?_ ?_ ?_)
    case refine_1 => exact (ST.out.own.grow _ _).alloc _
    case refine_2 => exact ⟨_, sl_one (Nat.le_refl _) (by decide) (cut_heap ((heap_al _ _ _).trans (if_pos (by simp))) rfl)⟩
    case refine_3 => exact allOne_str (l := [Lib.decDigits (byt k 2).toNat])
    case refine_4 => simp
    case refine_5 => have := ST.out.lB; simp; omega
    intro v1 W1 ho hg _
    have st := ST.out.next (qs := [[116], Lib.decDigits (byt k 1).toNat, Lib.decDigits (byt k 2).toNat]) (by simpa using ho) hg
    clear ho hg ST f2 f3 f4 f5 f6 f7 l1 l3
    obtain ⟨f2, f3, f4, f5, f6, f7, l1, l3⟩ := st.facts hk
    have ST := Lib.hid st
    clear st
    go_wp2_with fail
    refine Gives.use (HN.out _) ?_
    intro ya2 da2
    go_wp2_with (at_builtin; refine wpList_append (B := BB) (xs := [[116], Lib.decDigits (byt k 1).toNat, Lib.decDigits (byt k 2).toNat].map strA) (ys := [strA (nameText ((k.take 15).drop 3))]) row_str rfl (.tmp 35) (.tmp 39) rfl (v := v1) rfl ?_ rfl ?_ ?_ ?_ ?_ ?_)
    case refine_1 => exact (ST.out.own.grow _ _).alloc _
    case refine_2 => exact ⟨_, sl_one (Nat.le_refl _) (by decide) (cut_heap ((heap_al _ _ _).trans (if_pos (by simp))) rfl)⟩
    case refine_3 => exact allOne_str (l := [nameText ((k.take 15).drop 3)])
    case refine_4 => simp
    case refine_5 => have := ST.out.lB; simp; omega
    intro v2 W2 ho hg _
    have st := ST.out.next (qs := [[116], Lib.decDigits (byt k 1).toNat, Lib.decDigits (byt k 2).toNat, nameText ((k.take 15).drop 3)]) (by simpa using ho) hg
    clear ho hg ST f2 f3 f4 f5 f6 f7 l1 l3
    obtain ⟨f2, f3, f4, f5, f6, f7, l1, l3⟩ := st.facts hk
    have ST := Lib.hid st
    clear st
    go_wp2_with fail
    refine Gives.use (HT.out _) ?_
    intro ya3 da3
    go_wp2_with (at_builtin; refine wpList_append (B := BB) (xs := [[116], Lib.decDigits (byt k 1).toNat, Lib.decDigits (byt k 2).toNat, nameText ((k.take 15).drop 3)].map strA) (ys := [strA (tagText (k.drop 15))]) row_str rfl (.tmp 43) (.tmp 47) rfl (v := v2) rfl ?_ rfl ?_ ?_ ?_ ?_ ?_)
    case refine_1 => exact (ST.out.own.grow _ _).alloc _
    case refine_2 => exact ⟨_, sl_one (Nat.le_refl _) (by decide) (cut_heap ((heap_al _ _ _).trans (if_pos (by simp))) rfl)⟩
    case refine_3 => exact allOne_str (l := [tagText (k.drop 15)])
    case refine_4 => simp
    case refine_5 => have := ST.out.lB; simp; omega
    intro v3 W3 ho hg _
    have st := ST.out.next (qs := [[116], Lib.decDigits (byt k 1).toNat, Lib.decDigits (byt k 2).toNat, nameText ((k.take 15).drop 3), tagText (k.drop 15)]) (by simpa using ho) hg
    clear ho hg ST f2 f3 f4 f5 f6 f7 l1 l3
    obtain ⟨f2, f3, f4, f5, f6, f7, l1, l3⟩ := st.facts hk
    have ST := Lib.hid st
    clear st
    have HJ := Lib.hid (join_gives ST.out.own (by simp) (by simp) (by
      intro p hp
      simp only [List.mem_cons, List.not_mem_nil, or_false] at hp
      rcases hp with rfl | rfl | rfl | rfl | rfl
      · simp
      · exact  dec_len _ hp1
      · exact dec_len _ hp2
      · exact nameText_len (by simp; omega)
      · exact tagText_len (by simp; omega)))
    go_wp2_with fail
    refine Gives.use HJ.out ?_
    intro yz dz
    go_wp2_with fail
    go_ret
    exact ⟨rfl, ST.out.bel.grow (Nat.le_trans ST.out.wB ST.out.lB) _ _⟩
theorem byt0_cases {k : List UInt8} (hr : keyRight k = true) : byt k 0 = 1 ∨ byt k 0 = 2 ∨ byt k 0 = 3 ∨ byt k 0 = 4 ∨ byt k 0 = 5 ∨ byt k 0 = 6 := by
  obtain ⟨h1, h6, _⟩ := keyErr_range (right_err hr)
  have h1 : 1 ≤ (byt k 0).toNat := by unfold kKind at h1; omega
  have h6 : (byt k 0).toNat ≤ 6 := by unfold kKind at h6; omega
  generalize byt k 0 = c at h1 h6
  revert h1 h6
  exact byte256 (P := fun c => 1 ≤ c.toNat → c.toNat ≤ 6 → c = 1 ∨ c = 2 ∨ c = 3 ∨ c = 4 ∨ c = 5 ∨ c = 6) (by decide +kernel) c
theorem keyText_gives (k : List UInt8) (hk : k.length = 25) (w : World) : Gives Tryd.prog 12 #[.agg (row8 k)] w (.string (bs (keyText k))) := by
  by_cases hr : keyRight k = true
  · rcases byt0_cases hr with h | h | h | h | h | h
    · exact keyText1 k hk h hr w
    · exact keyText2 k hk h hr w
    · exact keyText3 k hk h hr w
    · exact keyText4 k hk h hr w
    · exact keyText5 k hk h hr w
    · exact keyText6 k hk h hr w
  · have he : keyText k = [] := if_neg hr
    rw [he]
    have HR := Lib.hid (keyRight_gives k hk)
    rw [Bool.not_eq_true] at hr
    rw [hr] at HR
    clear he hr
    unfold Gives
    go_enter Tryd.func12, Tryd.ntmps12
    go_wp2_with fail
    refine Gives.use (HR.out _) ?_
    intro xs1 d1
    go_wp2_with fail
    go_ret
    exact ⟨rfl, (by repeat (first | exact below_of_grow _ _ | exact Below.refl _ _ | exact below_more _ _ _ _ | (simp only [← Array.append_assoc]; first | exact below_more _ _ _ _ | exact below_same _ _ _ | exact Below.refl _ _) | exact below_same _ _ _ | (refine Below.alloc ?_ (by first | (simp; done) | (simp; omega)) _) | (refine Below.grow ?_ (by first | (simp; done) | (simp; omega)) _ _) | refine Below.drew ?_ | refine Below.drewN ?_ _ | (refine Below.putF ?_ (by first | (simp; done) | omega | (simp; omega)) _) | (refine Below.setCell ?_ (by first | (simp; done) | (simp; omega)) _)))⟩

end Go.Proofs.YtpdohgadcepipaaDoor
namespace Go.Proofs.YtpdohgadcepipaaDoor
set_option maxRecDepth 100000
open Go.RowKit

/-- all that lay lies as it lay, but for some blocks -/
structure Bt (bad : List Nat) (w w' : World) : Prop where
  os : w'.os = w.os
  tape : w'.tape = w.tape
  output : w'.output = w.output
  size : w.heap.size ≤ w'.heap.size
  same : ∀ b, b < w.heap.size → b ∉ bad → w'.heap[b]? = w.heap[b]?
theorem Bt.refl (bad : List Nat) (w : World) : Bt bad w w := ⟨rfl, rfl, rfl, Nat.le_refl _, fun _ _ _ => rfl⟩
theorem Bt.trans {bad : List Nat} {w w' w'' : World} (h : Bt bad w w') (h' : Bt bad w' w'') : Bt bad w w'' :=
  ⟨h'.os.trans h.os, h'.tape.trans h.tape, h'.output.trans h.output, Nat.le_trans h.size h'.size, fun b hb hn => (h'.same b (Nat.lt_of_lt_of_le hb h.size) hn).trans (h.same b hb hn)⟩
theorem Bt.more {bad bad' : List Nat} {w w' : World} (h : Bt bad w w') (hb : ∀ b ∈ bad, b < w.heap.size → b ∈ bad') : Bt bad' w w' :=
  ⟨h.os, h.tape, h.output, h.size, fun b hlt hn => h.same b hlt (fun hm => hn (hb b hm hlt))⟩
theorem Bt.of_below {w w' : World} (h : Below w.heap.size w w') (bad : List Nat) : Bt bad w w' := ⟨h.os, h.tape, h.output, h.size, fun b hb _ => h.block b hb⟩
theorem Bt.below {bad : List Nat} {w w' : World} (h : Bt bad w w') {B : Nat} (hB : ∀ b ∈ bad, B ≤ b) (hle : B ≤ w.heap.size) : Below B w w' :=
  ⟨h.os, h.tape, h.output, h.size, fun b hb => h.same b (by omega) (fun hm => by have := hB b hm; omega)⟩
theorem Bt.setCell (w : World) (q o : Nat) (v : Value) : Bt [q] w (w.setCell ⟨q, o, none⟩ v) := by
  have hb := (Below.refl q w).setCell (p := ⟨q, o, none⟩) (Nat.le_refl _) v
  exact ⟨hb.os, hb.tape, hb.output, hb.size, fun b _ hn => Below.heap_setCell w ⟨q, o, none⟩ v b (by simpa using hn)⟩

theorem Bt.setCell' {bad : List Nat} (w : World) {q : Nat} (hq : q ∈ bad) (o : Nat) (v : Value) : Bt bad w (w.setCell ⟨q, o, none⟩ v) :=
  (Bt.setCell w q o v).more fun b hb _ => by simp at hb; rw [hb]; exact hq

/-- a text's number, as it is told; below 0: it is none -/
def numS (p : List UInt8) : Int := match Lib.atoi p with
  | some n => if 0 ≤ n ∧ n < 100 ∧ Lib.decDigits n.toNat = p then n else -1
  | none => -1
theorem bytes_grow (w : World) (t : TypeId) (s : ByteArray) : Below w.heap.size w (Lib.bytesWorld w t s) := Lib.bytesWorld_below w t s
theorem number_gives (p : List UInt8) (n : Nat) (hn : n < 100) (hl : p.length ≤ 18) (h : Lib.atoi p = some (n : Int)) (w : World) : Gives Tryd.prog 19 #[.string (bs p)] w (.int .i64 (numS p)) := by
  have HA := Lib.hid (fun w => Tryd.strconv_Atoi (bs p) n (by rw [bs_size]; exact hl) (by show Lib.atoi p.toArray.toList = _; rw [List.toList_toArray]; exact h) w)
  have HI := Lib.hid (itoa_gives n hn)
  have hv : numS p = if Lib.decDigits n = p then (n : Int) else -1 := by
    unfold numS
    rw [h]
    simp only
    by_cases hd : Lib.decDigits n = p
    · rw [if_pos hd, if_pos ⟨by omega, by omega, by simpa using hd⟩]
    · rw [if_neg hd, if_neg (fun hc => hd (by simpa using hc.2.2))]
  rw [hv]
  clear hv h
  by_cases hd : Lib.decDigits n = p
  · rw [if_pos hd]
    have he : (Lib.decDigits n == p) = true := by rw [hd]; simp
    clear hd
    unfold Gives
    go_enter Tryd.func19, Tryd.ntmps19
    go_wp2_with fail
    refine (HA.out _).mono ?_
    rintro e W ⟨rfl, t, hW⟩
    obtain ⟨xs, d, rfl⟩ := grow_of_below (hW ▸ bytes_grow _ _ _)
    clear hW
    go_wp2_with fail
    refine Gives.use (HI.out _) ?_
    intro ys d2
    go_wp2_with fail
    all_goals go_ret
    all_goals exact ⟨rfl, (by repeat (first | exact below_of_grow _ _ | exact Below.refl _ _ | exact below_more _ _ _ _ | (simp only [← Array.append_assoc]; first | exact below_more _ _ _ _ | exact below_same _ _ _ | exact Below.refl _ _) | exact below_same _ _ _ | (refine Below.alloc ?_ (by first | (simp; done) | (simp; omega)) _) | (refine Below.grow ?_ (by first | (simp; done) | (simp; omega)) _ _) | refine Below.drew ?_ | refine Below.drewN ?_ _ | (refine Below.putF ?_ (by first | (simp; done) | omega | (simp; omega)) _) | (refine Below.setCell ?_ (by first | (simp; done) | (simp; omega)) _)))⟩
  · rw [if_neg hd]
    have he : (Lib.decDigits n == p) = false := beq_eq_false_iff_ne.2 hd
    clear hd
    unfold Gives
    go_enter Tryd.func19, Tryd.ntmps19
    go_wp2_with fail
    refine (HA.out _).mono ?_
    rintro e W ⟨rfl, t, hW⟩
    obtain ⟨xs, d, rfl⟩ := grow_of_below (hW ▸ bytes_grow _ _ _)
    clear hW
    go_wp2_with fail
    refine Gives.use (HI.out _) ?_
    intro ys d2
    go_wp2_with fail
    all_goals go_ret
    all_goals exact ⟨rfl, (by repeat (first | exact below_of_grow _ _ | exact Below.refl _ _ | exact below_more _ _ _ _ | (simp only [← Array.append_assoc]; first | exact below_more _ _ _ _ | exact below_same _ _ _ | exact Below.refl _ _) | exact below_same _ _ _ | (refine Below.alloc ?_ (by first | (simp; done) | (simp; omega)) _) | (refine Below.grow ?_ (by first | (simp; done) | (simp; omega)) _ _) | refine Below.drew ?_ | refine Below.drewN ?_ _ | (refine Below.putF ?_ (by first | (simp; done) | omega | (simp; omega)) _) | (refine Below.setCell ?_ (by first | (simp; done) | (simp; omega)) _)))⟩
theorem set_rowK {w : World} {b : Nat} {c : Array Value} {t : TypeId} (h : w.heap[b]? = some (.cells c t)) (o : Nat) (v : Value) : (w.setCell ⟨b, o, none⟩ v).heap[b]? = some (.cells (c.setIfInBounds o v) t) := by
  simp [World.setCell, Array.getElem?_modify, h]
set_option maxHeartbeats 4000000 in
/-- the next part -/
theorem next_calls (q : List (List UInt8)) (v : Value) (b B : Nat) (w : World) (hb : w.heap[b]? = some (.cells #[v] 49)) (hs : SlA w B 1 v (q.map strA)) (hB : B ≤ b) :
    Calls Tryd.prog 18 #[.pointer (some ⟨b, 0, none⟩)] w fun e w' => e = .returned (.string (bs (q.headD []))) ∧ ∃ v', w'.heap[b]? = some (.cells #[v'] 49) ∧ SlA w' B 1 v' (q.tail.map strA) ∧ Bt [b] w w' := by
  have hf := hs.form
  obtain ⟨a, cap, rfl, hcl, hcm⟩ := hf
  rw [List.length_map] at *
  have hc0 := (cellsK hb 0).1
  have hfz := (cellsK hb 0).2
  have hbl := (Array.getElem?_eq_some_iff.1 hb).1
  cases q with
  | nil =>
    have HS := Lib.hid hs
    have HB := Lib.hid hb
    clear hs hb
    go_enter Tryd.func18, Tryd.ntmps18
    go_wp2_with fail
    go_ret
    exact ⟨rfl, _, HB.out, HS.out, Bt.refl _ _⟩
  | cons p r =>
    have hd := SlA.drop (n := 1) (xs := (p :: r).map strA) (by rw [List.length_map]; exact hs) (by simp)
    rw [List.length_map] at hd
    obtain ⟨_, a', cap', e, _, _, hc⟩ := id hs
    rw [List.length_map] at e hc
    simp only [Value.slice.injEq, true_and] at e
    obtain ⟨rfl, rfl⟩ := e
    obtain ⟨g, o, rfl, hg, hcut⟩ := hc (by simp)
    have h0 := (cut_spec (hcut 0 (strA p) rfl)).2 0 (by decide)
    simp only [Nat.zero_mul, Nat.add_zero, strA] at h0
    have h0' : w.cell? ⟨g, o, none⟩ = some (.string (bs p)) := h0
    have hcl' : 1 ≤ cap := by simp at hcl; omega
    have hlen : (((p :: r).length : Nat) : Int) = r.length + 1 := by simp
    have hz : (((p :: r).length : Int) == 0) = false := beq_eq_false_iff_ne.2 (by rw [hlen]; omega)
    have h1n : (1 : Int) ≤ ((p :: r).length : Int) := by rw [hlen]; omega
    have h0n : (0 : Int) < ((p :: r).length : Int) := by rw [hlen]; omega
    have HB := Lib.hid hb
    have HD := Lib.hid hd
    clear hb hs hc hcut h0 hd hcl hlen
    go_enter Tryd.func18, Tryd.ntmps18
    go_wp2_with fail
    all_goals go_ret
    all_goals
      have hd := HD.out
      simp only [h, if_true, if_false, List.length_cons, Nat.add_sub_cancel, List.map_cons, List.drop_succ_cons, List.drop_zero, Option.map_some, Nat.sub_self, Nat.mul_one] at hd
      refine ⟨rfl, _, set_rowK HB.out 0 _, SlA.keep hd (fun k hk => Below.heap_setCell w ⟨b, 0, none⟩ _ k (by simp; omega)), Bt.setCell w b 0 _⟩
end Go.Proofs.YtpdohgadcepipaaDoor
namespace Go.Proofs.YtpdohgadcepipaaDoor
set_option maxRecDepth 100000
open Go.RowKit

theorem piece_len {c : UInt8} : ∀ {s : List UInt8}, ∀ p ∈ splitOn c s, p.length ≤ s.length
  | [], p, hp => by simp [splitOn] at hp; simp [hp]
  | b :: l, p, hp => by
    rw [splitOn] at hp
    split at hp
    · rcases List.mem_cons.1 hp with hp | hp
      · simp [hp]
      · have := piece_len p hp; simp; omega
    · cases hs : splitOn c l with
      | nil => exact absurd hs (splitOn_ne c l)
      | cons q r =>
        rw [hs] at hp
        simp only at hp
        rcases List.mem_cons.1 hp with hp | hp
        · have := piece_len (c := c) (s := l) q (by rw [hs]; exact List.mem_cons_self); simp [hp]; omega
        · have := piece_len (c := c) (s := l) p (by rw [hs]; exact List.mem_cons_of_mem _ hp); simp; omega
theorem head_len {M : Nat} {q : List (List UInt8)} (h : ∀ p ∈ q, p.length ≤ M) : (q.headD []).length ≤ M := by
  cases q with
  | nil => simp
  | cons x r => exact h x List.mem_cons_self
theorem cells_str {w : World} {g : Nat} {C : Array Value} {t : TypeId} (h : w.heap[g]? = some (.cells C t)) {ps : List (List UInt8)} (hC : StrsC ps C 0) {cap : Nat} (hc : ps.length ≤ cap) (hm : cap ≤ maxLen) : SlA w (g + 1) 1 (.slice (some ⟨g, 0, none⟩) ps.length cap) (ps.map strA) := by
  refine ⟨fun x hx => by obtain ⟨p, _, rfl⟩ := List.mem_map.1 hx; rfl, some ⟨g, 0, none⟩, cap, by rw [List.length_map], by rw [List.length_map]; exact hc, hm, fun _ => ⟨g, 0, rfl, by omega, fun i x hi => ?_⟩⟩
  rw [List.getElem?_map, Option.map_eq_some_iff] at hi
  obtain ⟨p, hp, rfl⟩ := hi
  have hcp := hC i p hp
  rw [Nat.zero_add] at hcp
  have hi := (Array.getElem?_eq_some_iff.1 hcp).1
  unfold World.cut?
  simp only [h, Nat.zero_add, Nat.mul_one]
  rw [if_pos (by omega)]
  congr 1
  apply Array.ext_getElem?
  intro j
  by_cases hj : j < 1
  · obtain rfl : j = 0 := by omega
    rw [Array.getElem?_extract, if_pos (by omega), Nat.add_zero, hcp]; rfl
  · rw [Array.getElem?_eq_none (by simp; omega), Array.getElem?_eq_none (by simp [strA]; omega)]
/-- the state while a text is read: the result's block, what the kind uses, the parts that are left, name, tag -/
structure PSt (u : Array Value) (w : World) (b2 b6 b7 b11 b12 B : Nat) (q : List (List UInt8)) (n t : List UInt8) (W : World) : Prop where
  h2 : W.heap[b2]? = some (.cells (row8 (zeros 25)) 33)
  h6 : W.heap[b6]? = some (.cells u 45)
  h7 : ∃ v, W.heap[b7]? = some (.cells #[v] 49) ∧ SlA W B 1 v (q.map strA)
  h11 : W.heap[b11]? = some (.cells (row8 n) 27)
  h12 : W.heap[b12]? = some (.cells (row8 t) 31)
  bel : Below w.heap.size w W
  o : w.heap.size ≤ b2 ∧ b2 < b6 ∧ b6 < b7 ∧ b7 < b11 ∧ b11 < b12 ∧ b12 < W.heap.size ∧ B ≤ b7
  hn : n.length = 12
  ht : t.length = 10
section
variable {u : Array Value} {w W : World} {b2 b6 b7 b11 b12 B : Nat} {q : List (List UInt8)} {n t : List UInt8}
theorem PSt.keep (h : PSt u w b2 b6 b7 b11 b12 B q n t W) {W' : World} (hb : Below W.heap.size W W') : PSt u w b2 b6 b7 b11 b12 B q n t W' := by
  obtain ⟨o1, o2, o3, o4, o5, o6, o7⟩ := h.o
  obtain ⟨v, h7, hs⟩ := h.h7
  exact ⟨(hb.block b2 (by omega)).trans h.h2, (hb.block b6 (by omega)).trans h.h6, ⟨v, (hb.block b7 (by omega)).trans h7, hs.keep fun b hbB => hb.block b (by omega)⟩, (hb.block b11 (by omega)).trans h.h11, (hb.block b12 (by omega)).trans h.h12, h.bel.trans (hb.mono (by omega)), ⟨o1, o2, o3, o4, o5, Nat.lt_of_lt_of_le o6 hb.size, o7⟩, h.hn, h.ht⟩
theorem PSt.next (h : PSt u w b2 b6 b7 b11 b12 B q n t W) {W' : World} {v' : Value} (h7 : W'.heap[b7]? = some (.cells #[v'] 49)) (hs : SlA W' B 1 v' (q.tail.map strA)) (hb : Bt [b7] W W') : PSt u w b2 b6 b7 b11 b12 B q.tail n t W' := by
  obtain ⟨o1, o2, o3, o4, o5, o6, o7⟩ := h.o
  have k : ∀ b, b < W.heap.size → b ≠ b7 → W'.heap[b]? = W.heap[b]? := fun b hl hne => hb.same b hl (by simpa using hne)
  exact ⟨(k b2 (by omega) (by omega)).trans h.h2, (k b6 (by omega) (by omega)).trans h.h6, ⟨v', h7, hs⟩, (k b11 (by omega) (by omega)).trans h.h11, (k b12 (by omega) (by omega)).trans h.h12, h.bel.trans (hb.below (by intro b hbm; simp at hbm; omega) (by omega)), ⟨o1, o2, o3, o4, o5, Nat.lt_of_lt_of_le o6 hb.size, o7⟩, h.hn, h.ht⟩
theorem lay_keep {w : World} {b o : Nat} {vs : Array Value} {k : Nat} (h : k ≠ b) : (w.lay b o vs).heap[k]? = w.heap[k]? := by
  simp only [World.lay, Array.getElem?_modify]; rw [if_neg (Ne.symm h)]
theorem lay_set {w : World} {b : Nat} {c vs : Array Value} {t : TypeId} (h : w.heap[b]? = some (.cells c t)) (hs : vs.size = c.size) : (w.lay b 0 vs).heap[b]? = some (.cells vs t) := by
  simp only [World.lay, Array.getElem?_modify, h, if_true, Option.map_some]
  rw [splice_full hs]
theorem lay_sz (w : World) (b o : Nat) (vs : Array Value) : (w.lay b o vs).heap.size = w.heap.size := by simp [World.lay]
theorem PSt.name (h : PSt u w b2 b6 b7 b11 b12 B q n t W) {m : List UInt8} (hm : m.length = 12) : PSt u w b2 b6 b7 b11 b12 B q m t (W.lay b11 0 (row8 m)) := by
  obtain ⟨o1, o2, o3, o4, o5, o6, o7⟩ := h.o
  obtain ⟨v, h7, hs⟩ := h.h7
  exact ⟨(lay_keep (by omega)).trans h.h2, (lay_keep (by omega)).trans h.h6, ⟨v, (lay_keep (by omega)).trans h7, hs.keep fun b hbB => lay_keep (by omega)⟩, lay_set h.h11 (by simp [hm, h.hn]), (lay_keep (by omega)).trans h.h12, h.bel.lay (by omega), ⟨o1, o2, o3, o4, o5, by rw [lay_sz]; exact o6, o7⟩, hm, h.ht⟩
theorem PSt.tag (h : PSt u w b2 b6 b7 b11 b12 B q n t W) {m : List UInt8} (hm : m.length = 10) : PSt u w b2 b6 b7 b11 b12 B q n m (W.lay b12 0 (row8 m)) := by
  obtain ⟨o1, o2, o3, o4, o5, o6, o7⟩ := h.o
  obtain ⟨v, h7, hs⟩ := h.h7
  exact ⟨(lay_keep (by omega)).trans h.h2, (lay_keep (by omega)).trans h.h6, ⟨v, (lay_keep (by omega)).trans h7, hs.keep fun b hbB => lay_keep (by omega)⟩, (lay_keep (by omega)).trans h.h11, lay_set h.h12 (by simp [hm, h.ht]), h.bel.lay (by omega), ⟨o1, o2, o3, o4, o5, by rw [lay_sz]; exact o6, o7⟩, h.hn, hm⟩
end
end Go.Proofs.YtpdohgadcepipaaDoor
