/- Layer 6 in plain Lean: any text's number; what KeyTexts says of what is read. -/
import Derived.Test.YtdfjflakilmjjaaDoorQay
import Derived.Lib.AtoiAllCases
import Derived.Lib.AtoiAllMem
import Derived.Lib.AtoiErrMem
import Derived.Shelf.Strconv.AtoiAll
import Derived.Handy
import Derived.Test.YtdfjflakilmjjaaDoorRows
import Derived.LaidLaws
import Derived.MakeChecks
namespace Go.Proofs.YtdfjflakilmjjaaDoor
set_option maxRecDepth 100000
open Go.RowKit

/-- a text's number, as Text writes it; below 0: it is none -/
def numF (p : List UInt8) : Int := match Lib.atoiAll p with
  | .ok v => if Lib.itoa v = p then v else -1
  | _ => -1
theorem numF_dec : ∀ i < 16, numF (Lib.decDigits i) = i := by decide +kernel
theorem parse_right {num : List UInt8 → Int} {s k : List UInt8} (h : keyParse num s = some k) : keyRight k = true ∧ k.length = 25 := by
  unfold keyParse at h
  split at h
  · rename_i hc
    cases h
    obtain ⟨h0, _⟩ := hc
    have hn : (keyRead num (splitOn 47 s)).name.length = 12 := by
      unfold keyRead
      simp only
      split
      · exact parse1_len _
      · simp [zeros]
    have ht : (keyRead num (splitOn 47 s)).tag.length = 10 := by
      unfold keyRead
      simp only
      split
      · exact tagParse1_len _
      · simp [zeros]
    unfold KRead.err at h0
    have e : (keyRead num (splitOn 47 s)).key = keyMade (keyRead num (splitOn 47 s)).kind (keyRead num (splitOn 47 s)).proj (keyRead num (splitOn 47 s)).at_ (keyRead num (splitOn 47 s)).name (keyRead num (splitOn 47 s)).tag := if_pos h0
    refine ⟨?_, ?_⟩
    · rw [e]; exact made_right hn ht h0
    · exact keyOf_len _ _ _ _ _ hn ht
  · cases h
theorem parse_empty (num : List UInt8 → Int) : keyParse num [] = none := by
  unfold keyParse
  have hk : (keyRead num (splitOn 47 [])).kind = 0 := rfl
  have he : (keyRead num (splitOn 47 [])).err ≠ 0 := by
    intro h0
    have := (keyErr_range h0).1
    rw [hk] at this
    omega
  rw [if_neg (fun h => he h.1)]
end Go.Proofs.YtdfjflakilmjjaaDoor
namespace Go.Proofs.YtdfjflakilmjjaaDoor
set_option maxRecDepth 100000
open Go.RowKit

/-- the variables that a number's reading looks at hold what they hold -/
structure LaidF (w : World) : Prop where
  tab : Lib.TabIs Tryd.prog w "internal/strconv.uint64pow10" .u64 Lib.pow10Tab
  sy : ∃ ev, w.cell? ⟨1, 0, none⟩ = some ev ∧ (ev = .nilIface ∨ ∃ te pe, ev = .iface te pe)
  rg : ∃ ev, w.cell? ⟨2, 0, none⟩ = some ev ∧ (ev = .nilIface ∨ ∃ te pe, ev = .iface te pe)
theorem var_keep {P : Program} {w w' : World} {n : String} {cs : Array Value} (h : w.var? P n = some cs) (hb : Below w.heap.size w w') : w'.var? P n = some cs := by
  unfold World.var? at h ⊢
  cases hg : P.globalNamed n with
  | none => rw [hg] at h; cases h
  | some g =>
    rw [hg] at h
    simp only [Option.bind_some] at h ⊢
    rw [hb.block g]
    · exact h
    · rcases Nat.lt_or_ge g w.heap.size with h1 | h1
      · exact h1
      · rw [Array.getElem?_eq_none h1] at h; cases h
theorem cell_keep {w w' : World} {a : Addr} {v : Value} (h : w.cell? a = some v) (hb : Below w.heap.size w w') : w'.cell? a = some v :=
  (hb.cell (Lib.lt_of_cell h)).trans h
theorem LaidF.keep {w w' : World} (h : LaidF w) (hb : Below w.heap.size w w') : LaidF w' := by
  obtain ⟨ev, h1, h2⟩ := h.sy
  obtain ⟨eu, h3, h4⟩ := h.rg
  exact ⟨var_keep h.tab hb, ⟨ev, cell_keep h1 hb, h2⟩, ⟨eu, cell_keep h3 hb, h4⟩⟩
theorem numBad_gives (p : List UInt8) (w : World) (h : Calls Tryd.prog 27 #[.string (bs p)] w fun e w' => ∃ z te pe, e = .returned (.tuple #[.int .i64 z, .iface te pe]) ∧ Below w.heap.size w w') :
    Gives Tryd.prog 15 #[.string (bs p)] w (.int .i64 (-1)) := by
  have HA := Lib.hid h
  clear h
  unfold Gives
  go_enter Tryd.func15, Tryd.ntmps15
  go_wp2_with fail
  refine HA.out.mono ?_
  rintro e W ⟨z, te, pe, rfl, hb⟩
  have HB := Lib.hid hb
  clear hb
  go_wp2_with fail
  go_ret
  exact ⟨rfl, HB.out⟩
theorem grow_below {w : World} (k : Nat) (os : Array Obj) : Below w.heap.size w (Go.Sort.grow (w.drewN k) os) := by
  refine ⟨rfl, rfl, rfl, ?_, fun b hb => ?_⟩
  · simp [Go.Sort.grow]
  · unfold Go.Sort.grow
    simp only
    rw [Array.getElem?_append, if_pos (by simpa using hb)]
    rfl
theorem numA_gives (p : List UInt8) (hl : p.length ≤ 100000) (w : World) (hL : LaidF w) : Gives Tryd.prog 15 #[.string (bs p)] w (.int .i64 (numF p)) := by
  have hz : (bs p).size ≤ 100000 := by rw [bs_size]; exact hl
  have hp : (bs p).data.toList = p := by show p.toArray.toList = p; simp
  rcases h : Lib.atoiAll p with v | _ | _
  · obtain ⟨b0, b1⟩ := Lib.atoiAll_bounds h
    have hv : numF p = if Lib.itoa v = p then v else -1 := by unfold numF; rw [h]
    have HA := Lib.hid (Tryd.strconv_Atoi_ok (bs p) (by omega) v (by rw [hp]; exact h) w)
    have HI := Lib.hid (fun (W : World) (hb : Below w.heap.size w W) => Tryd.strconv_Itoa v b0 b1 W (hL.keep hb).tab)
    rw [hv]
    clear hv h hL hp
    by_cases hd : Lib.itoa v = p
    · rw [if_pos hd]
      have he : (Lib.itoa v == p) = true := by rw [hd]; simp
      clear hd
      unfold Gives
      go_enter Tryd.func15, Tryd.ntmps15
      go_wp2_with fail
      refine HA.out.mono ?_
      rintro e W ⟨rfl, hW⟩
      have hb : Below w.heap.size w W := by
        rcases hW with rfl | ⟨t, rfl⟩
        · exact Below.refl _ _
        · exact Lib.bytesWorld_below _ _ _
      have HB := Lib.hid hb
      clear hW hb
      go_wp2_with fail
      refine (HI.out _ HB.out).mono ?_
      rintro e W2 ⟨rfl, k, os, hW2⟩
      have HB2 := Lib.hid (HB.out.trans ((show Below W.heap.size W W2 from hW2 ▸ grow_below k os).mono HB.out.size))
      clear hW2
      go_wp2_with fail
      go_ret
      exact ⟨rfl, HB2.out⟩
    · rw [if_neg hd]
      have he : (Lib.itoa v == p) = false := beq_eq_false_iff_ne.2 hd
      clear hd
      unfold Gives
      go_enter Tryd.func15, Tryd.ntmps15
      go_wp2_with fail
      refine HA.out.mono ?_
      rintro e W ⟨rfl, hW⟩
      have hb : Below w.heap.size w W := by
        rcases hW with rfl | ⟨t, rfl⟩
        · exact Below.refl _ _
        · exact Lib.bytesWorld_below _ _ _
      have HB := Lib.hid hb
      clear hW hb
      go_wp2_with fail
      refine (HI.out _ HB.out).mono ?_
      rintro e W2 ⟨rfl, k, os, hW2⟩
      have HB2 := Lib.hid (HB.out.trans ((show Below W.heap.size W W2 from hW2 ▸ grow_below k os).mono HB.out.size))
      clear hW2
      go_wp2_with fail
      go_ret
      exact ⟨rfl, HB2.out⟩
  · have hv : numF p = -1 := by unfold numF; rw [h]
    rw [hv]
    obtain ⟨ev, h1, h2⟩ := hL.sy
    refine numBad_gives p w ((Any.strconv_Atoi_syntax Tryd.laysC172 (bs p) (by omega) (by rw [hp]; exact h) ev w h1 h2).mono ?_)
    rintro e w' ⟨N, he, _, _, hb⟩
    exact ⟨_, _, _, he, hb⟩
  · have hv : numF p = -1 := by unfold numF; rw [h]
    rw [hv]
    obtain ⟨ev, h1, h2⟩ := hL.rg
    refine numBad_gives p w ((Any.strconv_Atoi_range Tryd.laysC172 (bs p) (by omega) (by rw [hp]; exact h) ev w h1 h2).mono ?_)
    rintro e w' ⟨N, he, _, _, hb⟩
    exact ⟨_, _, _, he, hb⟩
/-- the key of any text -/
theorem parseA_gives (s : List UInt8) (hs : s.length ≤ 1000) (w : World) (hL : LaidF w) :
    Gives Tryd.prog 5 #[.string (bs s)] w (.tuple #[.agg (row8 ((keyParse numF s).getD (zeros 25))), .int .i64 (if (keyParse numF s).isSome = true then 0 else 3)]) := by
  have hpl : ∀ p ∈ splitOn 47 s, p.length ≤ 100000 := fun p hp => by have := piece_len p hp; omega
  have hh : ∀ q : List (List UInt8), (∀ p ∈ q, p.length ≤ 100000) → (q.headD []).length ≤ 100000 := fun q h => head_len h
  exact keyParse_walk numF s hs w (fun W hb => numA_gives _ (hh _ fun p hp => hpl p (List.mem_of_mem_tail hp)) W (hL.keep hb)) (fun _ W hb => numA_gives _ (hh _ fun p hp => hpl p (List.mem_of_mem_tail (List.mem_of_mem_tail hp))) W (hL.keep hb))
end Go.Proofs.YtdfjflakilmjjaaDoor
namespace Go.Proofs.YtdfjflakilmjjaaDoor
set_option maxRecDepth 100000
open Go.RowKit

theorem laid_at {P : Program} {w : World} : ∀ {laid : List (String × DataW Unit)} {ps : List MemPlace}, DataW.LaidVars P w laid ps → ∀ (i : Nat) (n : String) (d : DataW Unit), laid[i]? = some (n, d) →
    ∃ g t cs fuel p, P.globalNamed n = some g ∧ (P.globals[g]?).map (·.type) = some t ∧ w.var? P n = some cs ∧ DataW.trod (fun _ => ()) P w 0 (fun _ => true) false fuel t cs.toList = some (d, p)
  | [], _, _, i, n, d, hi => by simp at hi
  | (n0, d0) :: r, ps, h, 0, n, d, hi => by
    simp only [List.getElem?_cons_zero, Option.some.injEq, Prod.mk.injEq] at hi
    obtain ⟨rfl, rfl⟩ := hi
    obtain ⟨g, t, cs, fuel, p, q, h1, h2, h3, h4, _⟩ := h
    exact ⟨g, t, cs, fuel, p, h1, h2, h3, h4⟩
  | (n0, d0) :: r, ps, h, i + 1, n, d, hi => by
    obtain ⟨g, t, cs, fuel, p, q, _, _, _, _, h5, _⟩ := h
    exact laid_at h5 i n d (by simpa using hi)
theorem sentinel {P : Program} {w : World} {n : String} {g0 t0 : Nat} {ms : Array (String × TypeId)} {laid : List (String × DataW Unit)} {i : Nat} {d : DataW Unit} {name : String} (h : laidMet P laid w) (hi : laid[i]? = some (n, .iface name d)) (hg : P.globalNamed n = some g0) (ht : (P.globals[g0]?).map (·.type) = some t0) (hu : P.underlying t0 = some (.interface ms)) :
    ∃ ev, w.cell? ⟨g0, 0, none⟩ = some ev ∧ (ev = .nilIface ∨ ∃ te pe, ev = .iface te pe) := by
  obtain ⟨ps, hl, _⟩ := h
  obtain ⟨g, t, cs, fuel, p, h1, h2, h3, h4⟩ := laid_at hl i _ _ hi
  obtain rfl := Option.some.inj (hg.symm.trans h1)
  obtain rfl := Option.some.inj (ht.symm.trans h2)
  obtain ⟨_, u, v, hcs, _⟩ := iface_of_trod hu h4
  refine ⟨.iface u v, ?_, .inr ⟨_, _, rfl⟩⟩
  have := World.var?_cell hg h3 0
  rw [this, ← Array.getElem?_toList, hcs]
  rfl
theorem table {P : Program} {w : World} {n : String} {g0 t0 e k : Nat} {q : IntKind} {zs : List Int} {laid : List (String × DataW Unit)} {i : Nat} (h : laidMet P laid w) (hi : laid[i]? = some (n, Lib.tabData q zs)) (hg : P.globalNamed n = some g0) (ht : (P.globals[g0]?).map (·.type) = some t0) (hu : P.underlying t0 = some (.array k e)) (he : P.underlying e = some (.int q)) (hce : P.cellsOf e = 1) (hct : P.cellsOf t0 = k) :
    Lib.TabIs P w n q zs := by
  obtain ⟨ps, hl, _⟩ := h
  obtain ⟨g, t, cs, fuel, p, h1, h2, h3, h4⟩ := laid_at hl i _ _ hi
  obtain rfl := Option.some.inj (hg.symm.trans h1)
  obtain rfl := Option.some.inj (ht.symm.trans h2)
  unfold Lib.TabIs
  rw [h3, ← Lib.cells_of_tab hu he hce hct h4]
theorem laidF_of {w : World} (h : laidMetH Tryd.prog Rows.keyTextsRow.laid w) : LaidF w := by
  rw [MakeChecks.laidMetH_plain _ _ _ (by kernel_rfl)] at h
  exact ⟨table (i := 2) h rfl rfl rfl rfl rfl (by kernel_rfl) (by kernel_rfl), sentinel (i := 5) h rfl rfl rfl rfl, sentinel (i := 4) h rfl rfl rfl rfl⟩
end Go.Proofs.YtdfjflakilmjjaaDoor
