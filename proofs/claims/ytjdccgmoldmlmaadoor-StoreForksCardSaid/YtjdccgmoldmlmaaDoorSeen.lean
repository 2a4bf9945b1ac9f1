/- Layer 12: what is seen of a chain. -/
import Derived.Test.YtjdccgmoldmlmaaDoorBackV
import Derived.Handy
namespace Go.Proofs.YtjdccgmoldmlmaaDoor
set_option maxRecDepth 100000
open Go.RowKit Go.Shelf
attribute [local go_sem] Oper.semAt_some

/-- the place of the newest version up to a time -/
def seenO (vs : List Ver) (t : UInt64) : Option Nat := ((dn vs vs.length).find? fun x => decide (x.2.at_ ≤ t)).map (·.1)
def seenI (vs : List Ver) (t : UInt64) : Int := match seenO vs t with | some i => i | none => -1
theorem find_pre {α : Type} {p : α → Bool} {l pre : List α} {x : α} {j : Nat} (h : pre ++ [x] <+: l) (hn : ∀ y ∈ pre, p y = false) (hx : p x = true) : l.find? p = some x := by
  obtain ⟨r, rfl⟩ := h
  rw [List.append_assoc, List.find?_append, List.find?_eq_none.2 (by intro y hy; rw [hn y hy]; simp)]
  simp [hx]
theorem dn_prefix (vs : List Ver) {j k : Nat} (h : j ≤ k) : dn vs j <+: dn vs k := by
  unfold dn
  obtain ⟨d, rfl⟩ := Nat.exists_eq_add_of_le h
  rw [List.range_add, List.map_append]
  exact List.prefix_append _ _
/-- none of them up to a time -/
def NoneTo (t : UInt64) (pre : List (Nat × Ver)) : Prop := ∀ y ∈ pre, decide (y.2.at_ ≤ t) = false
theorem NoneTo.nil (t : UInt64) : NoneTo t [] := fun y hy => by simp at hy
theorem NoneTo.snoc {t : UInt64} {pre : List (Nat × Ver)} (h : NoneTo t pre) {x : Nat × Ver} (hx : ¬ x.2.at_ ≤ t) : NoneTo t (pre ++ [x]) := by
  intro y hy
  rcases List.mem_append.1 hy with hy | hy
  · exact h y hy
  · rw [List.mem_singleton.1 hy]; exact decide_eq_false hx
/-- the last one is the newest up to a time; its place lies in a box -/
def Hit (t : UInt64) (b : Nat) (pre : List (Nat × Ver)) (W : World) : Prop := ∃ pre' x, pre = pre' ++ [x] ∧ NoneTo t pre' ∧ x.2.at_ ≤ t ∧ Boxed W b 3 (.int .i64 (x.1 : Int))
theorem seenI_none {vs : List Ver} {t : UInt64} (h : NoneTo t (dn vs vs.length)) : seenI vs t = -1 := by
  unfold seenI seenO
  rw [List.find?_eq_none.2 (by intro y hy; rw [h y hy]; simp)]
  rfl
theorem seenI_some {vs : List Ver} {t : UInt64} {pre : List (Nat × Ver)} {x : Nat × Ver} {j : Nat} (hj : j ≤ vs.length) (he : dn vs j = pre ++ [x]) (h : NoneTo t pre) (hx : x.2.at_ ≤ t) : seenI vs t = x.1 := by
  unfold seenI seenO
  rw [find_pre (j := j) (he ▸ dn_prefix vs hj) h (decide_eq_true hx)]
  rfl
set_option maxHeartbeats 4000000 in
theorem seen_calls (co : Option Nat) (vs : List Ver) (hlen : vs.length ≤ 100000) (t : UInt64) (w : World) (hV : ChainV w w.heap.size co vs) :
    Gives Tryd.prog 29 #[.pointer (optA co), .int .u64 t.toNat] w (.int .i64 (seenI vs t)) := by
  refine (callsIn_wide (n := 9)).1 ?_
  refine callsIn_of_wp_marks Tryd.func29 rfl trivial ?_ rfl
  simp only [Tryd.ntmps29, List.size_toArray, List.length_cons, List.length_nil, Nat.reduceAdd, Nat.reduceSub, Array.replicate_succ, Array.replicate_zero, List.push_toArray, List.append_toArray, List.nil_append, List.cons_append]
  gi_wp2_with (refine ⟨trivial, ?_⟩; gi_at_call 32; refine (back_in _ _ trivial rfl _ _).mono ?_; rintro e w' ⟨rfl, rfl⟩)
  have hsz : (((w.alloc (.cells #[.int .u64 t.toNat] 23)).alloc (.cells #[.int .i64 0] 3)).alloc (.cells #[.pointer (optA co)] 53)).heap.size = w.heap.size + 3 := by simp
  have hb1 : Below w.heap.size w (((w.alloc (.cells #[.int .u64 t.toNat] 23)).alloc (.cells #[.int .i64 0] 3)).alloc (.cells #[.pointer (optA co)] 53)) := (((Below.refl _ w).alloc (Nat.le_refl _) _).alloc (by simp) _).alloc (by simp; omega) _
  have hT : Boxed (((w.alloc (.cells #[.int .u64 t.toNat] 23)).alloc (.cells #[.int .i64 0] 3)).alloc (.cells #[.pointer (optA co)] 53)) w.heap.size 23 (.int .u64 t.toNat) := ((Boxed.new w _ _).alloc _).alloc _
  have hR : Boxed (((w.alloc (.cells #[.int .u64 t.toNat] 23)).alloc (.cells #[.int .i64 0] 3)).alloc (.cells #[.pointer (optA co)] 53)) (w.heap.size + 1) 3 (.int .i64 0) := by
    have := (Boxed.new (w.alloc (.cells #[.int .u64 t.toNat] 23)) 3 (.int .i64 0)).alloc (.cells #[.pointer (optA co)] 53)
    rwa [World.size_alloc] at this
  have hC : (((w.alloc (.cells #[.int .u64 t.toNat] 23)).alloc (.cells #[.int .i64 0] 3)).alloc (.cells #[.pointer (optA co)] 53)).cell? ⟨w.heap.size + 2, 0, none⟩ = some (.pointer (optA co)) := by
    have := (Boxed.new ((w.alloc (.cells #[.int .u64 t.toNat] 23)).alloc (.cells #[.int .i64 0] 3)) 53 (.pointer (optA co))).cell
    rwa [World.size_alloc, World.size_alloc] at this
  obtain ⟨W1, hW1⟩ : ∃ W1, (((w.alloc (.cells #[.int .u64 t.toNat] 23)).alloc (.cells #[.int .i64 0] 3)).alloc (.cells #[.pointer (optA co)] 53)) = W1 := ⟨_, rfl⟩
  rw [hW1] at hsz hb1 hT hR hC
  have e2 : w.heap.size + 1 + 1 = w.heap.size + 2 := rfl
  rw [hW1]
  clear hW1
  refine wpIn_rangeB (n := 9) (gf := 38) (lb := #[.pointer (some ⟨w.heap.size + 1 + 1, 0, none⟩)]) rfl (by decide) rfl trivial (enters_of Tryd.func38 (by kernel_rfl) rfl)
    (back_stops Fence.wide 8 rfl trivial trivial trivial rfl (by decide) (w.heap.size + 2) w.heap.size co vs hlen W1 (by omega) (by omega) hC (hV.keep hb1))
    (fun h k => h.trans k) (belowK_b (by omega)) (Below.refl _ _) (fun _ => rfl)
    (fun pre W' => (Boxed W' w.heap.size 23 (.int .u64 t.toNat) ∧ Boxed W' (w.heap.size + 1) 3 (.int .i64 0)) ∧ (Below w.heap.size w W' ∧ w.heap.size + 3 ≤ W'.heap.size) ∧ NoneTo t pre)
    (fun c pre W' => Hit t (w.heap.size + 1) pre W' ∧ Below w.heap.size w W' ∧ c = .ret)
    ?hI ?hIx ⟨⟨hT, hR⟩, ⟨hb1, by omega⟩, NoneTo.nil t⟩
    (fun x a' W' => ∃ Bv, w.heap.size + 2 < Bv ∧ W'.heap[Bv]? = some (.cells (verA x.2) 66) ∧ a' = { tmps := #[.pointer (optA co), .int .u64 t.toNat, undef, .pointer (some ⟨w.heap.size, 0, none⟩), .pointer (some ⟨w.heap.size + 1, 0, none⟩), .int .i64 (x.1 : Int), .pointer (some ⟨Bv, 0, none⟩), .pointer (optA co), .func (.func 38) #[] #[.pointer (some ⟨w.heap.size + 2, 0, none⟩)], .int .i64 (x.1 : Int), .agg (verA x.2), undef, undef, undef, undef, undef], defers := [] })
    ?hAx ?assign ?body ?done ?stop
  case hI =>
    exact OwnFrom.and (OwnFrom.and ((boxed_own w.heap.size 23 (fun _ => .int .u64 t.toNat)).from _) ((boxed_own (w.heap.size + 1) 3 (fun _ => .int .i64 0)).from _))
      (OwnFrom.and (OwnFrom.and (ownFrom_below (Nat.le_refl _) (by omega)) (fun s A B row hs hg _ => Nat.le_trans hs hg.size)) (ownFrom_pure _ _))
  case hIx =>
    rintro c s A B row ⟨⟨pre', x, h1, h2, h3, h4⟩, h5, h6⟩ hg hr
    exact ⟨⟨pre', x, h1, h2, h3, boxed_own (w.heap.size + 1) 3 (fun _ : Unit => .int .i64 (x.1 : Int)) () A B row h4 hg (fun r e => (hr r e).2)⟩, ownFrom_below (β := Unit) (Nat.le_refl _) (by omega) () A B row h5 hg hr, h6⟩
  case hAx =>
    rintro x a' s A B row ⟨Bv, g1, g2, g3⟩ hg hr
    exact ⟨Bv, g1, (grownBy_keeps_cells hg (fun r e => (hr r e).2) g2 rfl).trans g2, g3⟩
  case assign =>
    intro l2 pre x W2 K ⟨⟨h1, h2⟩, ⟨h3, h4⟩, h5⟩ hK
    simp only [encV]
    gi_wp2
    exact hK _ _ (KeepsUp.alloc _ _ _) ((Below.refl _ _).alloc (by omega) _) ⟨⟨h1.alloc _, h2.alloc _⟩, ⟨h3.alloc (by omega) _, by simp; omega⟩, h5⟩ ⟨W2.heap.size, by omega, World.alloc_heap_new _ _, rfl⟩
  case body =>
    rintro l2 pre x a' W2 ⟨⟨h1, h2⟩, ⟨h3, h4⟩, h5⟩ ⟨Bv, hBv, hv, rfl⟩ hlen
    have c1 := h1.cell
    have c2 := h2.cell
    have f2 := h2.frozen
    have cv : W2.cell? ⟨Bv, 0, none⟩ = some (.int .u64 x.2.at_.toNat) := by simp [World.cell?, hv, verA, verL]
    have HH := Lib.hid (And.intro h1 (And.intro h2 h3))
    clear h1 h2 h3
    have hle : ((x.2.at_.toNat : Int) ≤ t.toNat) ↔ x.2.at_ ≤ t := by rw [UInt64.le_iff_toNat_le]; omega
    by_cases hx : x.2.at_ ≤ t
    · have hx' : (x.2.at_.toNat : Int) ≤ t.toNat := hle.2 hx
      have HX := Lib.hid hx
      clear hle hx
      gi_wp2
      exact ⟨KeepsUp.setCell _ (by omega), ⟨pre, x, rfl, h5, HX.out, HH.out.2.1.set _⟩, HH.out.2.2.setCell (by simp) _, rfl⟩
    · have hx' : ¬ (x.2.at_.toNat : Int) ≤ t.toNat := fun h => hx (hle.1 h)
      have HX := Lib.hid hx
      clear hle hx
      gi_wp2
      exact ⟨KeepsUp.refl _ _, Below.refl _ _, ⟨HH.out.1, HH.out.2.1⟩, ⟨HH.out.2.2, h4⟩, h5.snoc HX.out⟩
  case done =>
    rintro D ys W2 hD rfl ⟨⟨h1, h2⟩, ⟨h3, h4⟩, h5⟩ hK
    have c2 := h2.cell
    have f2 := h2.frozen
    have HH := Lib.hid (And.intro h2 (And.intro h3 h5))
    clear h1 h2 h3 h5
    gi_wp2
    have hK2 : (W2.setCell ⟨w.heap.size + 1, 0, none⟩ (.int .i64 (-1))).heap[D]? = some (.deferred (some [])) := (KeepsOthers.setCell W2 ⟨w.heap.size + 1, 0, none⟩ (.int .i64 (-1))).same D _ hK rfl
    refine ⟨by simp, .inl ⟨_, _, rfl, run_takeDeferred hK2, ?_⟩⟩
    have hc3 : ((W2.setCell ⟨w.heap.size + 1, 0, none⟩ (.int .i64 (-1))).putObj D (.deferred none)).cell? ⟨w.heap.size + 1, 0, none⟩ = some (.int .i64 (-1)) := cell_kept (HH.out.1.set _).cell (grownBy_putObj' _ D (.deferred none)) (fun r e => by cases e; exact ⟨_, hK2, rfl⟩)
    refine ⟨.int .i64 (-1), ?_, ?_, ?_⟩
    · simp [results, Tryd.results29, go_sem, hc3]
    · rw [seenI_none HH.out.2.2]
    · exact (HH.out.2.1.setCell (p := ⟨w.heap.size + 1, 0, none⟩) (by simp) _).trans (belowK_b (w := w) (Nat.le_refl _) _ D _ _ (by omega) hK2 rfl rfl)
  case stop =>
    rintro D c pre W2 hD ⟨j, hj, he⟩ ⟨⟨pre', x, h1, h2, h3, h4⟩, h5, rfl⟩ hK
    subst h1
    have HH := Lib.hid (And.intro h4 (And.intro h5 (And.intro h2 (And.intro h3 he))))
    clear h2 h3 h4 h5 he
    gi_wp2
    refine ⟨by simp, .inl ⟨_, _, rfl, run_takeDeferred hK, ?_⟩⟩
    have hc3 : (W2.putObj D (.deferred none)).cell? ⟨w.heap.size + 1, 0, none⟩ = some (.int .i64 (x.1 : Int)) := cell_kept HH.out.1.cell (grownBy_putObj' _ D (.deferred none)) (fun r e => by cases e; exact ⟨_, hK, rfl⟩)
    refine ⟨.int .i64 (x.1 : Int), ?_, ?_, ?_⟩
    · simp [results, Tryd.results29, go_sem, hc3]
    · rw [seenI_some hj HH.out.2.2.2.2.symm HH.out.2.2.1 HH.out.2.2.2.1]
    · exact HH.out.2.1.trans (belowK_b (w := w) (Nat.le_refl _) _ D _ _ (by omega) hK rfl rfl)
end Go.Proofs.YtjdccgmoldmlmaaDoor
namespace Go.Proofs.YtjdccgmoldmlmaaDoor
set_option maxRecDepth 100000
open Go.RowKit Go.Shelf
attribute [local go_sem] Oper.semAt_some

theorem first_last {vs : List Ver} {j : Nat} {x : Nat × Ver} (hj : j ≤ vs.length) (h : dn vs j = [x]) : vs.getLast? = some x.2 := by
  have hl := congrArg List.length h
  rw [dn_length] at hl
  simp only [List.length_singleton] at hl
  subst hl
  simp only [dn, List.range_one, List.map_cons, List.map_nil, List.cons.injEq, and_true, Nat.sub_zero] at h
  rw [← h, List.getLast?_eq_getElem?, List.getD_eq_getElem?_getD, List.getElem?_eq_getElem (by omega)]
  rfl
/-- the newest version's time -/
def newestN (vs : List Ver) : UInt64 := match vs.getLast? with | some v => v.at_ | none => 0
def HitN (b : Nat) (pre : List (Nat × Ver)) (W : World) : Prop := ∃ x, pre = [x] ∧ Boxed W b 23 (.int .u64 x.2.at_.toNat)
set_option maxHeartbeats 4000000 in
theorem newest_gives (co : Option Nat) (vs : List Ver) (hlen : vs.length ≤ 100000) (w : World) (hV : ChainV w w.heap.size co vs) :
    Gives Tryd.prog 28 #[.pointer (optA co)] w (.int .u64 (newestN vs).toNat) := by
  refine (callsIn_wide (n := 9)).1 ?_
  refine callsIn_of_wp_marks Tryd.func28 rfl trivial ?_ rfl
  simp only [Tryd.ntmps28, List.size_toArray, List.length_cons, List.length_nil, Nat.reduceAdd, Nat.reduceSub, Array.replicate_succ, Array.replicate_zero, List.push_toArray, List.append_toArray, List.nil_append, List.cons_append]
  gi_wp2_with (refine ⟨trivial, ?_⟩; gi_at_call 32; refine (back_in _ _ trivial rfl _ _).mono ?_; rintro e w' ⟨rfl, rfl⟩)
  have hsz : ((w.alloc (.cells #[.int .u64 0] 23)).alloc (.cells #[.pointer (optA co)] 53)).heap.size = w.heap.size + 2 := by simp
  have hb1 : Below w.heap.size w ((w.alloc (.cells #[.int .u64 0] 23)).alloc (.cells #[.pointer (optA co)] 53)) := ((Below.refl _ w).alloc (Nat.le_refl _) _).alloc (by simp) _
  have hR : Boxed ((w.alloc (.cells #[.int .u64 0] 23)).alloc (.cells #[.pointer (optA co)] 53)) w.heap.size 23 (.int .u64 0) := (Boxed.new w _ _).alloc _
  have hC : ((w.alloc (.cells #[.int .u64 0] 23)).alloc (.cells #[.pointer (optA co)] 53)).cell? ⟨w.heap.size + 1, 0, none⟩ = some (.pointer (optA co)) := by
    have := (Boxed.new (w.alloc (.cells #[.int .u64 0] 23)) 53 (.pointer (optA co))).cell
    rwa [World.size_alloc] at this
  obtain ⟨W1, hW1⟩ : ∃ W1, ((w.alloc (.cells #[.int .u64 0] 23)).alloc (.cells #[.pointer (optA co)] 53)) = W1 := ⟨_, rfl⟩
  rw [hW1] at hsz hb1 hR hC
  rw [hW1]
  clear hW1
  refine wpIn_rangeB (n := 9) (gf := 38) (lb := #[.pointer (some ⟨w.heap.size + 1, 0, none⟩)]) rfl (by decide) rfl trivial (enters_of Tryd.func38 (by kernel_rfl) rfl)
    (back_stops Fence.wide 8 rfl trivial trivial trivial rfl (by decide) (w.heap.size + 1) w.heap.size co vs hlen W1 (by omega) (by omega) hC (hV.keep hb1))
    (fun h k => h.trans k) (belowK_b (by omega)) (Below.refl _ _) (fun _ => rfl)
    (fun pre W' => pre = [] ∧ Boxed W' w.heap.size 23 (.int .u64 0) ∧ (Below w.heap.size w W' ∧ w.heap.size + 2 ≤ W'.heap.size))
    (fun c pre W' => HitN w.heap.size pre W' ∧ Below w.heap.size w W' ∧ c = .ret)
    ?hI ?hIx ⟨rfl, hR, hb1, by omega⟩
    (fun x a' W' => ∃ Bv, w.heap.size + 1 < Bv ∧ W'.heap[Bv]? = some (.cells (verA x.2) 66) ∧ a' = { tmps := #[.pointer (optA co), undef, .pointer (some ⟨w.heap.size, 0, none⟩), undef, .pointer (some ⟨Bv, 0, none⟩), .pointer (optA co), .func (.func 38) #[] #[.pointer (some ⟨w.heap.size + 1, 0, none⟩)], .int .i64 (x.1 : Int), .agg (verA x.2), undef, undef], defers := [] })
    ?hAx ?assign ?body ?done ?stop
  case hI =>
    exact OwnFrom.and (ownFrom_pure _ _) (OwnFrom.and ((boxed_own w.heap.size 23 (fun _ => .int .u64 0)).from _) (OwnFrom.and (ownFrom_below (Nat.le_refl _) (by omega)) (fun s A B row hs hg _ => Nat.le_trans hs hg.size)))
  case hIx =>
    rintro c s A B row ⟨⟨x, h1, h4⟩, h5, h6⟩ hg hr
    exact ⟨⟨x, h1, boxed_own w.heap.size 23 (fun _ : Unit => (.int .u64 x.2.at_.toNat)) () A B row h4 hg (fun r e => (hr r e).2)⟩, ownFrom_below (β := Unit) (Nat.le_refl _) (by omega) () A B row h5 hg hr, h6⟩
  case hAx =>
    rintro x a' s A B row ⟨Bv, g1, g2, g3⟩ hg hr
    exact ⟨Bv, g1, (grownBy_keeps_cells hg (fun r e => (hr r e).2) g2 rfl).trans g2, g3⟩
  case assign =>
    intro l2 pre x W2 K ⟨h1, h2, h3, h4⟩ hK
    simp only [encV]
    gi_wp2
    exact hK _ _ (KeepsUp.alloc _ _ _) ((Below.refl _ _).alloc (by omega) _) ⟨h1, h2.alloc _, h3.alloc (by omega) _, by simp; omega⟩ ⟨W2.heap.size, by omega, World.alloc_heap_new _ _, rfl⟩
  case body =>
    rintro l2 pre x a' W2 ⟨rfl, h2, h3, h4⟩ ⟨Bv, hBv, hv, rfl⟩ hlen
    have c2 := h2.cell
    have f2 := h2.frozen
    have cv : W2.cell? ⟨Bv, 0, none⟩ = some (.int .u64 x.2.at_.toNat) := by simp [World.cell?, hv, verA, verL]
    have HH := Lib.hid (And.intro h2 h3)
    clear h2 h3
    gi_wp2
    exact ⟨KeepsUp.setCell _ (by omega), ⟨x, rfl, HH.out.1.set _⟩, HH.out.2.setCell (by simp) _, rfl⟩
  case done =>
    rintro D ys W2 hD rfl ⟨h1, h2, h3, h4⟩ hK
    have hn : vs = [] := by
      have := congrArg List.length h1
      rw [dn_length] at this
      exact List.length_eq_zero_iff.1 this
    have c2 := h2.cell
    have f2 := h2.frozen
    have HH := Lib.hid (And.intro h2 h3)
    clear h1 h2 h3
    gi_wp2
    have hK2 : (W2.setCell ⟨w.heap.size, 0, none⟩ (.int .u64 0)).heap[D]? = some (.deferred (some [])) := (KeepsOthers.setCell W2 ⟨w.heap.size, 0, none⟩ (.int .u64 0)).same D _ hK rfl
    refine ⟨by simp, .inl ⟨_, _, rfl, run_takeDeferred hK2, ?_⟩⟩
    have hc3 : ((W2.setCell ⟨w.heap.size, 0, none⟩ (.int .u64 0)).putObj D (.deferred none)).cell? ⟨w.heap.size, 0, none⟩ = some (.int .u64 0) := cell_kept (HH.out.1.set _).cell (grownBy_putObj' _ D (.deferred none)) (fun r e => by cases e; exact ⟨_, hK2, rfl⟩)
    refine ⟨.int .u64 0, ?_, ?_, ?_⟩
    · simp [results, Tryd.results28, go_sem, hc3]
    · rw [hn]; rfl
    · exact (HH.out.2.setCell (p := ⟨w.heap.size, 0, none⟩) (by simp) _).trans (belowK_b (w := w) (Nat.le_refl _) _ D _ _ (by omega) hK2 rfl rfl)
  case stop =>
    rintro D c pre W2 hD ⟨j, hj, he⟩ ⟨⟨x, h1, h4⟩, h5, rfl⟩ hK
    have hlast := first_last hj (he.symm.trans h1)
    have HH := Lib.hid (And.intro h4 (And.intro h5 hlast))
    clear h1 h4 h5 he hlast
    gi_wp2
    refine ⟨by simp, .inl ⟨_, _, rfl, run_takeDeferred hK, ?_⟩⟩
    have hc3 : (W2.putObj D (.deferred none)).cell? ⟨w.heap.size, 0, none⟩ = some (.int .u64 x.2.at_.toNat) := cell_kept HH.out.1.cell (grownBy_putObj' _ D (.deferred none)) (fun r e => by cases e; exact ⟨_, hK, rfl⟩)
    refine ⟨(.int .u64 x.2.at_.toNat), ?_, ?_, ?_⟩
    · simp [results, Tryd.results28, go_sem, hc3]
    · unfold newestN; rw [HH.out.2.2]
    · exact HH.out.2.1.trans (belowK_b (w := w) (Nat.le_refl _) _ D _ _ (by omega) hK rfl rfl)
/-- the newest version's life -/
def liveB (vs : List Ver) : Bool := match vs.getLast? with | some v => !v.dead | none => false
def HitL (b : Nat) (pre : List (Nat × Ver)) (W : World) : Prop := ∃ x, pre = [x] ∧ Boxed W b 4 (.bool (!x.2.dead))
set_option maxHeartbeats 4000000 in
theorem live_gives (co : Option Nat) (vs : List Ver) (hlen : vs.length ≤ 100000) (w : World) (hV : ChainV w w.heap.size co vs) :
    Gives Tryd.prog 20 #[.pointer (optA co)] w (.bool (liveB vs)) := by
  refine (callsIn_wide (n := 9)).1 ?_
  refine callsIn_of_wp_marks Tryd.func20 rfl trivial ?_ rfl
  simp only [Tryd.ntmps20, List.size_toArray, List.length_cons, List.length_nil, Nat.reduceAdd, Nat.reduceSub, Array.replicate_succ, Array.replicate_zero, List.push_toArray, List.append_toArray, List.nil_append, List.cons_append]
  gi_wp2_with (refine ⟨trivial, ?_⟩; gi_at_call 32; refine (back_in _ _ trivial rfl _ _).mono ?_; rintro e w' ⟨rfl, rfl⟩)
  have hsz : ((w.alloc (.cells #[.bool false] 4)).alloc (.cells #[.pointer (optA co)] 53)).heap.size = w.heap.size + 2 := by simp
  have hb1 : Below w.heap.size w ((w.alloc (.cells #[.bool false] 4)).alloc (.cells #[.pointer (optA co)] 53)) := ((Below.refl _ w).alloc (Nat.le_refl _) _).alloc (by simp) _
  have hR : Boxed ((w.alloc (.cells #[.bool false] 4)).alloc (.cells #[.pointer (optA co)] 53)) w.heap.size 4 (.bool false) := (Boxed.new w _ _).alloc _
  have hC : ((w.alloc (.cells #[.bool false] 4)).alloc (.cells #[.pointer (optA co)] 53)).cell? ⟨w.heap.size + 1, 0, none⟩ = some (.pointer (optA co)) := by
    have := (Boxed.new (w.alloc (.cells #[.bool false] 4)) 53 (.pointer (optA co))).cell
    rwa [World.size_alloc] at this
  obtain ⟨W1, hW1⟩ : ∃ W1, ((w.alloc (.cells #[.bool false] 4)).alloc (.cells #[.pointer (optA co)] 53)) = W1 := ⟨_, rfl⟩
  rw [hW1] at hsz hb1 hR hC
  rw [hW1]
  clear hW1
  refine wpIn_rangeB (n := 9) (gf := 38) (lb := #[.pointer (some ⟨w.heap.size + 1, 0, none⟩)]) rfl (by decide) rfl trivial (enters_of Tryd.func38 (by kernel_rfl) rfl)
    (back_stops Fence.wide 8 rfl trivial trivial trivial rfl (by decide) (w.heap.size + 1) w.heap.size co vs hlen W1 (by omega) (by omega) hC (hV.keep hb1))
    (fun h k => h.trans k) (belowK_b (by omega)) (Below.refl _ _) (fun _ => rfl)
    (fun pre W' => pre = [] ∧ Boxed W' w.heap.size 4 (.bool false) ∧ (Below w.heap.size w W' ∧ w.heap.size + 2 ≤ W'.heap.size))
    (fun c pre W' => HitL w.heap.size pre W' ∧ Below w.heap.size w W' ∧ c = .ret)
    ?hI ?hIx ⟨rfl, hR, hb1, by omega⟩
    (fun x a' W' => ∃ Bv, w.heap.size + 1 < Bv ∧ W'.heap[Bv]? = some (.cells (verA x.2) 66) ∧ a' = { tmps := #[.pointer (optA co), undef, .pointer (some ⟨w.heap.size, 0, none⟩), undef, .pointer (some ⟨Bv, 0, none⟩), .pointer (optA co), .func (.func 38) #[] #[.pointer (some ⟨w.heap.size + 1, 0, none⟩)], .int .i64 (x.1 : Int), .agg (verA x.2), undef, undef, undef], defers := [] })
    ?hAx ?assign ?body ?done ?stop
  case hI =>
    exact OwnFrom.and (ownFrom_pure _ _) (OwnFrom.and ((boxed_own w.heap.size 4 (fun _ => .bool false)).from _) (OwnFrom.and (ownFrom_below (Nat.le_refl _) (by omega)) (fun s A B row hs hg _ => Nat.le_trans hs hg.size)))
  case hIx =>
    rintro c s A B row ⟨⟨x, h1, h4⟩, h5, h6⟩ hg hr
    exact ⟨⟨x, h1, boxed_own w.heap.size 4 (fun _ : Unit => (.bool (!x.2.dead))) () A B row h4 hg (fun r e => (hr r e).2)⟩, ownFrom_below (β := Unit) (Nat.le_refl _) (by omega) () A B row h5 hg hr, h6⟩
  case hAx =>
    rintro x a' s A B row ⟨Bv, g1, g2, g3⟩ hg hr
    exact ⟨Bv, g1, (grownBy_keeps_cells hg (fun r e => (hr r e).2) g2 rfl).trans g2, g3⟩
  case assign =>
    intro l2 pre x W2 K ⟨h1, h2, h3, h4⟩ hK
    simp only [encV]
    gi_wp2
    exact hK _ _ (KeepsUp.alloc _ _ _) ((Below.refl _ _).alloc (by omega) _) ⟨h1, h2.alloc _, h3.alloc (by omega) _, by simp; omega⟩ ⟨W2.heap.size, by omega, World.alloc_heap_new _ _, rfl⟩
  case body =>
    rintro l2 pre x a' W2 ⟨rfl, h2, h3, h4⟩ ⟨Bv, hBv, hv, rfl⟩ hlen
    have c2 := h2.cell
    have f2 := h2.frozen
    have cv : W2.cell? ⟨Bv, 1, none⟩ = some (.bool x.2.dead) := by simp [World.cell?, hv, verA, verL]
    have HH := Lib.hid (And.intro h2 h3)
    clear h2 h3
    gi_wp2
    exact ⟨KeepsUp.setCell _ (by omega), ⟨x, rfl, HH.out.1.set _⟩, HH.out.2.setCell (by simp) _, rfl⟩
  case done =>
    rintro D ys W2 hD rfl ⟨h1, h2, h3, h4⟩ hK
    have hn : vs = [] := by
      have := congrArg List.length h1
      rw [dn_length] at this
      exact List.length_eq_zero_iff.1 this
    have c2 := h2.cell
    have f2 := h2.frozen
    have HH := Lib.hid (And.intro h2 h3)
    clear h1 h2 h3
    gi_wp2
    have hK2 : (W2.setCell ⟨w.heap.size, 0, none⟩ (.bool false)).heap[D]? = some (.deferred (some [])) := (KeepsOthers.setCell W2 ⟨w.heap.size, 0, none⟩ (.bool false)).same D _ hK rfl
    refine ⟨by simp, .inl ⟨_, _, rfl, run_takeDeferred hK2, ?_⟩⟩
    have hc3 : ((W2.setCell ⟨w.heap.size, 0, none⟩ (.bool false)).putObj D (.deferred none)).cell? ⟨w.heap.size, 0, none⟩ = some (.bool false) := cell_kept (HH.out.1.set _).cell (grownBy_putObj' _ D (.deferred none)) (fun r e => by cases e; exact ⟨_, hK2, rfl⟩)
    refine ⟨.bool false, ?_, ?_, ?_⟩
    · simp [results, Tryd.results20, go_sem, hc3]
    · rw [hn]; rfl
    · exact (HH.out.2.setCell (p := ⟨w.heap.size, 0, none⟩) (by simp) _).trans (belowK_b (w := w) (Nat.le_refl _) _ D _ _ (by omega) hK2 rfl rfl)
  case stop =>
    rintro D c pre W2 hD ⟨j, hj, he⟩ ⟨⟨x, h1, h4⟩, h5, rfl⟩ hK
    have hlast := first_last hj (he.symm.trans h1)
    have HH := Lib.hid (And.intro h4 (And.intro h5 hlast))
    clear h1 h4 h5 he hlast
    gi_wp2
    refine ⟨by simp, .inl ⟨_, _, rfl, run_takeDeferred hK, ?_⟩⟩
    have hc3 : (W2.putObj D (.deferred none)).cell? ⟨w.heap.size, 0, none⟩ = some (.bool (!x.2.dead)) := cell_kept HH.out.1.cell (grownBy_putObj' _ D (.deferred none)) (fun r e => by cases e; exact ⟨_, hK, rfl⟩)
    refine ⟨(.bool (!x.2.dead)), ?_, ?_, ?_⟩
    · simp [results, Tryd.results20, go_sem, hc3]
    · unfold liveB; rw [HH.out.2.2]
    · exact HH.out.2.1.trans (belowK_b (w := w) (Nat.le_refl _) _ D _ _ (by omega) hK rfl rfl)
end Go.Proofs.YtjdccgmoldmlmaaDoor
namespace Go.Proofs.YtjdccgmoldmlmaaDoor
set_option maxRecDepth 100000
open Go.RowKit Go.Shelf

/-- what is seen of versions at a time -/
def atV (vs : List Ver) (t : UInt64) : Rec × Bool :=
  match seenO vs t with
  | some i => let v := vs.getD i Ver.zero; if v.dead then (Rec.zero, false) else (v.r, true)
  | none => (Rec.zero, false)
theorem cut_al {w : World} {a o sz : Nat} {c : Array Value} (h : w.cut? a o sz = some c) (ha : a < w.heap.size) (x : Obj) (xs : Array Obj) (d : Nat) : ((w.alloc x).grow xs d).cut? a o sz = some c := by
  rw [cut_grow _ _ _ _ _ (by simp; omega), cut_alloc_past _ _ _ _ ha]; exact h
theorem seenO_lt {vs : List Ver} {t : UInt64} {i : Nat} (h : seenO vs t = some i) : i < vs.length := by
  unfold seenO at h
  rw [Option.map_eq_some_iff] at h
  obtain ⟨x, hx, rfl⟩ := h
  have hm := List.mem_of_find?_eq_some hx
  simp only [dn, List.mem_map, List.mem_range] at hm
  obtain ⟨k, hk, rfl⟩ := hm
  simp only
  omega
set_option maxHeartbeats 4000000 in
theorem at_gives (co : Option Nat) (vs : List Ver) (hlen : vs.length ≤ 100000) (t : UInt64) (w : World) (hV : ChainV w w.heap.size co vs) :
    Gives Tryd.prog 16 #[.pointer (optA co), .int .u64 t.toNat] w (.tuple #[.agg (recA (atV vs t).1), .bool (atV vs t).2]) := by
  have hsn : ∀ W, Below w.heap.size w W → Gives Tryd.prog 29 #[.pointer (optA co), .int .u64 t.toNat] W (.int .i64 (seenI vs t)) := fun W hb => by
    refine seen_calls co vs hlen t W ?_
    have := hV.keep hb
    cases co with
    | none => exact this
    | some c => obtain ⟨g1, sv, g2, g3⟩ := this; exact ⟨Nat.lt_of_lt_of_le g1 hb.size, sv, g2, g3.more hb.size⟩
  have HS := Lib.hid hsn
  clear hsn
  cases hs : seenO vs t with
  | none =>
    have h1 : seenI vs t = -1 := by unfold seenI; rw [hs]
    have h2 : atV vs t = (Rec.zero, false) := by unfold atV; rw [hs]
    rw [h2]
    rw [h1] at HS
    clear hV hs h1 h2
    generalize optA co = p at *
    unfold Gives
    go_enter Tryd.func16, Tryd.ntmps16
    go_wp2_with fail
    refine Gives.use (HS.out _ (by repeat (first | exact below_of_grow _ _ | exact Below.refl _ _ | exact below_more _ _ _ _ | (simp only [← Array.append_assoc]; first | exact below_more _ _ _ _ | exact below_same _ _ _ | exact Below.refl _ _) | exact below_same _ _ _ | (refine Below.alloc ?_ (by first | (simp; done) | (simp; omega)) _) | (refine Below.grow ?_ (by first | (simp; done) | (simp; omega)) _ _) | refine Below.drew ?_ | refine Below.drewN ?_ _ | (refine Below.putF ?_ (by first | (simp; done) | omega | (simp; omega)) _) | (refine Below.setCell ?_ (by first | (simp; done) | (simp; omega)) _)))) ?_
    intro xs1 d1
    go_wp2_with fail
    exact bodyPost_ret (v := .tuple #[.agg (recA Rec.zero), .bool false]) (results_two Tryd.results16 (ResIs.row rfl agg_rec (by simp [go_sem])) (by simp [ResIs])) rfl ⟨rfl, (by repeat (first | exact below_of_grow _ _ | exact Below.refl _ _ | exact below_more _ _ _ _ | (simp only [← Array.append_assoc]; first | exact below_more _ _ _ _ | exact below_same _ _ _ | exact Below.refl _ _) | exact below_same _ _ _ | (refine Below.alloc ?_ (by first | (simp; done) | (simp; omega)) _) | (refine Below.grow ?_ (by first | (simp; done) | (simp; omega)) _ _) | refine Below.drew ?_ | refine Below.drewN ?_ _ | (refine Below.putF ?_ (by first | (simp; done) | omega | (simp; omega)) _) | (refine Below.setCell ?_ (by first | (simp; done) | (simp; omega)) _)))⟩
  | some i =>
    have hil := seenO_lt hs
    have h1 : seenI vs t = i := by unfold seenI; rw [hs]
    cases co with
    | none => obtain rfl : vs = [] := hV; simp at hil
    | some c =>
      obtain ⟨g1, sv, g2, _, a, cap, rfl, g4, g5, g6⟩ := hV
      rw [List.length_map] at *
      obtain ⟨b, o, rfl, hb, hcut⟩ := g6 (by omega)
      obtain ⟨v, hv⟩ : ∃ v, v = vs.getD i Ver.zero := ⟨_, rfl⟩
      have hvi : vs[i]? = some v := by rw [hv, List.getD_eq_getElem?_getD, List.getElem?_eq_getElem hil]; rfl
      have hc := hcut i (verA v) (by rw [List.getElem?_map, hvi]; rfl)
      have hd : w.cell? ⟨b, o + i * 11 + 1, none⟩ = some (.bool v.dead) := ((cut_spec hc).2 1 (by omega)).trans (verA_1 v)
      have hr : w.cut? b (o + i * 11 + 2) 9 = some (recA v.r) := by
        have := cut_sub (i := 2) (m := 9) hc (by omega)
        rwa [verA_rec] at this
      have hsl : w.cell? ⟨c, 0, none⟩ = some (.slice (some ⟨b, o, none⟩) vs.length cap) := by simp [World.cell?, g2]
      rw [h1] at HS
      have ha : atV vs t = if v.dead then (Rec.zero, false) else (v.r, true) := by unfold atV; rw [hs, hv]
      rw [ha]
      simp only [optA] at *
      clear g2 g6 hcut hc hvi hv hs h1 ha
      generalize vs.length = len at *
      obtain ⟨at_, dead, r⟩ := v
      simp only at hd hr ⊢
      cases dead with
      | true =>
        simp only [if_true]
        unfold Gives
        go_enter Tryd.func16, Tryd.ntmps16
        go_wp2_with fail
        refine Gives.use (HS.out _ (by repeat (first | exact below_of_grow _ _ | exact Below.refl _ _ | exact below_more _ _ _ _ | (simp only [← Array.append_assoc]; first | exact below_more _ _ _ _ | exact below_same _ _ _ | exact Below.refl _ _) | exact below_same _ _ _ | (refine Below.alloc ?_ (by first | (simp; done) | (simp; omega)) _) | (refine Below.grow ?_ (by first | (simp; done) | (simp; omega)) _ _) | refine Below.drew ?_ | refine Below.drewN ?_ _ | (refine Below.putF ?_ (by first | (simp; done) | omega | (simp; omega)) _) | (refine Below.setCell ?_ (by first | (simp; done) | (simp; omega)) _)))) ?_
        intro xs1 d1
        go_wp2_with fail
        exact bodyPost_ret (v := .tuple #[.agg (recA Rec.zero), .bool false]) (results_two Tryd.results16 (ResIs.row rfl agg_rec (by simp [go_sem])) (by simp [ResIs])) rfl ⟨rfl, (by repeat (first | exact below_of_grow _ _ | exact Below.refl _ _ | exact below_more _ _ _ _ | (simp only [← Array.append_assoc]; first | exact below_more _ _ _ _ | exact below_same _ _ _ | exact Below.refl _ _) | exact below_same _ _ _ | (refine Below.alloc ?_ (by first | (simp; done) | (simp; omega)) _) | (refine Below.grow ?_ (by first | (simp; done) | (simp; omega)) _ _) | refine Below.drew ?_ | refine Below.drewN ?_ _ | (refine Below.putF ?_ (by first | (simp; done) | omega | (simp; omega)) _) | (refine Below.setCell ?_ (by first | (simp; done) | (simp; omega)) _)))⟩
      | false =>
        simp only [Bool.false_eq_true, if_false]
        unfold Gives
        go_enter Tryd.func16, Tryd.ntmps16
        go_wp2_with fail
        refine Gives.use (HS.out _ (by repeat (first | exact below_of_grow _ _ | exact Below.refl _ _ | exact below_more _ _ _ _ | (simp only [← Array.append_assoc]; first | exact below_more _ _ _ _ | exact below_same _ _ _ | exact Below.refl _ _) | exact below_same _ _ _ | (refine Below.alloc ?_ (by first | (simp; done) | (simp; omega)) _) | (refine Below.grow ?_ (by first | (simp; done) | (simp; omega)) _ _) | refine Below.drew ?_ | refine Below.drewN ?_ _ | (refine Below.putF ?_ (by first | (simp; done) | omega | (simp; omega)) _) | (refine Below.setCell ?_ (by first | (simp; done) | (simp; omega)) _)))) ?_
        intro xs1 d1
        have hr' := cut_al hr hb (.cells (recA Rec.zero) 44) xs1 d1
        go_wp2_with fail
        exact bodyPost_ret (v := .tuple #[.agg (recA r), .bool true]) (results_two Tryd.results16 (ResIs.row rfl agg_rec (by simp [go_sem])) (by simp [ResIs])) rfl ⟨rfl, (by repeat (first | exact below_of_grow _ _ | exact Below.refl _ _ | exact below_more _ _ _ _ | (simp only [← Array.append_assoc]; first | exact below_more _ _ _ _ | exact below_same _ _ _ | exact Below.refl _ _) | exact below_same _ _ _ | (refine Below.alloc ?_ (by first | (simp; done) | (simp; omega)) _) | (refine Below.grow ?_ (by first | (simp; done) | (simp; omega)) _ _) | refine Below.drew ?_ | refine Below.drewN ?_ _ | (refine Below.putF ?_ (by first | (simp; done) | omega | (simp; omega)) _) | (refine Below.setCell ?_ (by first | (simp; done) | (simp; omega)) _)))⟩
end Go.Proofs.YtjdccgmoldmlmaaDoor
