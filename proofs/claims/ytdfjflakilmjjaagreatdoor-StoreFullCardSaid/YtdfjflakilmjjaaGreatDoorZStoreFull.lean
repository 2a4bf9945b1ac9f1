/- Layer 14's law StoreFull, for every input: a store takes its keys, and no more; the Go function returns true, and each argument reads behind the call as it read before. Condition: the tables that the row lists (tied to the program's text by the card); the proof does not use what they hold. -/
import Derived.Test.YtdfjflakilmjjaaGreatDoorQbl
import Derived.BigRegion
import Derived.Deep.CutBlock
import Derived.Deep.Cut
import Derived.Handy
import Derived.Test.YtdfjflakilmjjaaGreatDoorQaa
import Derived.Test.YtdfjflakilmjjaaGreatDoorCards
import Derived.Test.YtdfjflakilmjjaaGreatDoorTie
import Derived.ProofKit
import Derived.LaidMore
import Derived.Lay
import Derived.OpenShut
import Derived.ShutString
namespace Go.Proofs.YtdfjflakilmjjaaGreatDoor
set_option maxRecDepth 100000
open Go.RowKit

theorem mod220 (p : Int) : ∃ n : Nat, n < 220 ∧ wrap64 ((IntKind.u64.wrap p).tmod 220) = n := by
  have h0 : 0 ≤ IntKind.u64.wrap p := by
    unfold IntKind.wrap; simp [IntKind.signed, IntKind.bits]; omega
  have h1 : 0 ≤ (IntKind.u64.wrap p).tmod 220 ∧ (IntKind.u64.wrap p).tmod 220 < 220 := by
    rw [Int.tmod_eq_emod_of_nonneg h0]; omega
  refine ⟨((IntKind.u64.wrap p).tmod 220).toNat, by omega, ?_⟩
  unfold wrap64
  omega
theorem convL {w : World} {b : Nat} {l : List UInt8} {t : TypeId} {n : Nat} (h : w.heap[b]? = some (.cells (row8 l) t)) (hn : l.length = n) : (convert 127 9 (.slice (some ⟨b, 0, none⟩) n n)).run Tryz.prog w = .ok (.string (bs l)) w := by
  subst hn
  exact run_convert_bytes_back (P := Tryz.prog) w 127 9 5 ⟨b, 0, none⟩ l.length l Tryz.underlying127 Tryz.underlying5 Tryz.underlying9 (fun j hj => by
    rw [addr_add, (cut_spec (cut_heap h (by simp))).2 j hj, row8_get l j hj, byt_get hj])
@[go_sem] theorem bRecS_run (w : World) : (bld2 66 (0, .int .u8 5) (6, .int .u32 1)).run Tryz.prog w = .ok (.agg (recA recS)) w := by
  unfold bld2
  refine build_of (zero := .agg (recA Rec.zero)) (places := #[(0, 1), (1, 1), (2, 1), (3, 1), (4, 1), (5, 1), (6, 1), (7, 1), (8, 1)]) (by intro w; exact (Tryz.zeroValue66 w).trans rfl) Tryz.underlying66 (by intro w; kernel_rfl) ?_
  rfl
theorem wrt_cellsF (x : Wr) : (Value.agg (wrtA x)).cells.size = 35 := by simp [Value.cells]
@[go_sem] theorem bSlWr2_run (x y : Wr) (w : World) : (bldSl2 22 (0, .agg (wrtA x)) (1, .agg (wrtA y))).run Tryz.prog w = .ok (.slice (some ⟨w.heap.size, 0, none⟩) 2 2) (w.alloc (.cells (wrtA x ++ wrtA y) 68)) :=
  run_buildSlice2 w Tryz.underlying22 (fun w => Tryz.sizeOf68 w) (fun w => Tryz.zeroValue68 w) (by decide) (by decide) (wrt_cellsF x) (wrt_cellsF y)
@[go_sem] theorem bSlB2_run (a b : Int) (w : World) : (bldSl2 127 (0, .int .u8 a) (1, .int .u8 b)).run Tryz.prog w = .ok (.slice (some ⟨w.heap.size, 0, none⟩) 2 2) (w.alloc (.cells #[.int .u8 a, .int .u8 b] 5)) :=
  run_buildSlice2 w Tryz.underlying127 (fun w => Tryz.sizeOf5 w) (fun w => Tryz.zeroValue5 w) (by decide) (by decide) rfl rfl
theorem row_keyF : RowType Tryz.prog 90 39 25 25 := ⟨Tryz.underlying90, by kernel_rfl, by decide, by decide⟩
theorem cat4 (c0 c1 c2 : UInt8) : ((ByteArray.mk #[115, 47]) ++ bs [c0] ++ (ByteArray.mk #[47, 48, 47, 97]) ++ bs [c1, c2]) = bs [115, 47, c0, 47, 48, 47, 97, c1, c2] := by
  apply ByteArray.ext
  simp [bs]
theorem one_key (k : K25) : allOne (row8 k.val) = true := by
  unfold allOne row8
  rw [Array.all_eq_true_iff_forall_mem]
  intro v hv
  simp at hv
  obtain ⟨b, _, rfl⟩ := hv
  rfl
/-- one more write published -/
theorem pubF {W : World} {B s : Nat} {G : SG} (i : Nat) (hi : i < 220) (h : StoreAt W B s G) (hF : Full (min i 200) G) (lb : Nat) (hc : W.cut? lb 0 35 = some (wrtA (wF i))) (hlb : lb < W.heap.size) (hout : lb ∉ G.blocks s) :
    Calls Tryz.prog 49 #[.pointer (some ⟨s, 0, none⟩), .slice (some ⟨lb, 0, none⟩) 1 1] W fun e w' => ∃ (a : Nat) (er : Int), e = .returned (.tuple #[.int .u64 a, .int .i64 er]) ∧ ((er = 0 ∧ i < 200) ∨ (er = 6 ∧ 200 ≤ i)) ∧ ∃ G', StoreAt w' B s G' ∧ Evo s W G w' G' ∧ Full (min (i + 1) 200) G' := by
  have hlast := hF.last
  have hlive := hF.live
  have hm : min i 200 ≤ 200 := Nat.min_le_right _ _
  have hlv : -1000000 ≤ G.live ∧ G.live ≤ 1000000 := by omega
  by_cases h2 : i < 200
  · have e1 : min i 200 = i := by omega
    have e2 : min (i + 1) 200 = i + 1 := by omega
    rw [e1] at hF hlast
    have ha : (G.last + 1).toNat = G.last.toNat + 1 := by rw [UInt64.toNat_add]; simp; omega
    refine (pub_one (G.last + 1) ha h (hF.inv.more (by omega)) (by omega) hlv (wF i) (hF.pub h2) lb hc hlb hout).mono ?_
    rintro e w' ⟨rfl, G', g1, g2, g3, g4, g5⟩
    refine ⟨_, _, rfl, .inl ⟨rfl, h2⟩, G', g1, g2, ?_⟩
    rw [e2]
    exact hF.next h2 ha g3 g4 g5
  · have e1 : min i 200 = 200 := by omega
    have e2 : min (i + 1) 200 = 200 := by omega
    rw [e1] at hF
    have hp := hF.full (by omega : 200 ≤ i) hi
    have hno := publish_no h (fun k => Nat.le_trans (hF.inv.short k) (by omega)) hlv (.slice (some ⟨lb, 0, none⟩) 1 1) [wF i] ((sl_one (Nat.le_refl _) (by decide) hc).more (by omega)) (by rw [hp]; decide)
    rw [hp] at hno
    refine hno.mono ?_
    rintro e w' ⟨rfl, hb⟩
    exact ⟨0, 6, rfl, .inr ⟨rfl, by omega⟩, G, h.keep hb, Evo.grow G hb, by rw [e2]; exact hF⟩
theorem sl_parts2F {w : World} {b sz : Nat} {x y : Array Value} {t : TypeId} (h : w.heap[b]? = some (.cells (x ++ y) t)) (hx : x.size = sz) (hy : y.size = sz) : SlA w (b + 1) sz (.slice (some ⟨b, 0, none⟩) 2 2) [x, y] := by
  refine ⟨fun u hu => by simp at hu; rcases hu with rfl | rfl <;> assumption, _, 2, rfl, Nat.le_refl _, by decide, fun _ => ⟨b, 0, rfl, by omega, fun i u hi => ?_⟩⟩
  have hc := cut_heap (sz := 2 * sz) h (by simp [hx, hy]; omega)
  have e : x ++ y = (x.toList ++ y.toList).toArray := by simp
  have lx : x.toList.length = sz := by simpa using hx
  have ly : y.toList.length = sz := by simpa using hy
  have hcs : ∀ j, j + sz ≤ 2 * sz → w.cut? b (0 + j) sz = some ((x ++ y).extract j (j + sz)) := fun j hj => cut_sub hc hj
  match i, hi with
  | 0, hi =>
    simp at hi; subst hi
    rw [Nat.zero_mul, hcs 0 (by omega), e, Nat.zero_add]
    rw [ext_front _ _ sz lx]
  | 1, hi =>
    simp at hi; subst hi
    rw [Nat.one_mul, hcs sz (by omega), e]
    have := ext_list y.toList x.toList sz lx
    rw [ly] at this
    rw [this]
/-- a slice of two rows in a block of its own, from B on -/
def TwoAt (B : Nat) (x y : Array Value) (v : Value) (w : World) : Prop := ∃ g, v = .slice (some ⟨g, 0, none⟩) 2 2 ∧ B ≤ g ∧ w.heap[g]? = some (.cells (x ++ y) 68)
theorem TwoAt.keep {B : Nat} {x y : Array Value} {v : Value} {w w' : World} (h : TwoAt B x y v w) (hb : Below w.heap.size w w') : TwoAt B x y v w' := by
  obtain ⟨g, e, hB, hh⟩ := h
  exact ⟨g, e, hB, (hb.block g (Array.getElem?_eq_some_iff.1 hh).1).trans hh⟩
theorem last_calls {W : World} {B s : Nat} {G : SG} (h : StoreAt W B s G) (hF : Full 200 G) (lb : Nat) (hl : SlA W W.heap.size 35 (.slice (some ⟨lb, 0, none⟩) 2 2) (lastW.map wrtA)) (hout : lb ∉ G.blocks s) :
    Calls Tryz.prog 49 #[.pointer (some ⟨s, 0, none⟩), .slice (some ⟨lb, 0, none⟩) 2 2] W fun e w' => ∃ (a : Nat), e = .returned (.tuple #[.int .u64 a, .int .i64 0]) ∧ ∃ G', StoreAt w' B s G' ∧ Evo s W G w' G' ∧ G'.live = 200 := by
  have hlast := hF.last
  have hlive := hF.live
  obtain ⟨hm, hp⟩ := hF.last2
  have ha : (G.last + 1).toNat = G.last.toNat + 1 := by rw [UInt64.toNat_add]; simp; omega
  refine (publish_yes (G.last + 1) ha h (hF.inv.more (by omega)) (by omega) (by omega) _ lastW hl ?_ hp).mono ?_
  · intro b o n c e _
    simp only [Value.slice.injEq, Option.some.injEq, Addr.mk.injEq] at e
    rw [← e.1.1]; exact hout
  · rintro e w' ⟨rfl, G', g1, g2, g3, g4, g5⟩
    exact ⟨_, rfl, G', g1, g2, by rw [g4, hm, hlive]; rfl⟩
/-- the state behind i rounds -/
def FSt (w : World) (s i : Nat) (v : Value) (W : World) : Prop :=
  Below w.heap.size w W ∧ ∃ G, StoreAt W w.heap.size s G ∧ Full (min i 200) G ∧ OwnA W w.heap.size 25 39 v ((List.range i).map fun j => row8 (kF j).val) ∧ ∀ q, v.ownBlock = some q → q ∉ G.blocks s
end Go.Proofs.YtdfjflakilmjjaaGreatDoor
namespace Go.Proofs.YtdfjflakilmjjaaGreatDoor.Dn
set_option maxRecDepth 100000
open Go.RowKit

set_option maxHeartbeats 20000000 in
theorem full_walk (p : Int) (w : World) : Gives Tryz.prog 8 #[.int .i64 p] w (.bool true) := by
  have HKN := Lib.hid known14_gives
  obtain ⟨n, hn, hpn⟩ := mod220 p
  unfold Gives
  go_enter Tryz.func8, Tryz.ntmps8
  go_wp2_with fail
  refine (storeNew_calls w).mono ?_
  rintro e w1 ⟨rfl, hb1, hS1⟩
  have hF1 : Full 0 (emptyG w.heap.size) := ⟨⟨fun _ => Nat.le_refl _, fun _ => Nat.le_refl _⟩, rfl, rfl, fun j hj => absurd hj (Nat.not_lt_zero _), fun _ _ _ => rfl⟩
  have HE := Lib.hid (show FSt w (w.heap.size + 1) 0 (.slice none 0 0) w1 from ⟨hb1, _, hS1, hF1, OwnA.nil _ _ _ _, fun q e => by cases e⟩)
  clear hb1 hS1 hF1
  generalize w.heap.size + 1 = s at *
  go_upto_block 0 with fail
  rw [hpn]
  clear hpn
  go_cut [4] (fun v4 wx => Hid (FSt w s n v4 wx))
  case first =>
    go_wp2_with fail
    go_loopw [4, 5] (fun s4 s5 wr => ∃ i : Nat, i ≤ n ∧ s5 = .int .i64 i ∧ Hid (FSt w s i s4 wr)) (fun _ s5 _ => n - (intOf s5).toNat)
    case atStart => exact ⟨0, Nat.zero_le _, rfl, HE⟩
    case round =>
      obtain ⟨i, hi, rfl, HR⟩ := hrel
      by_cases hlt : i < n
      · have hltI : (i : Int) < n := by omega
        have h220 : i < 220 := by omega
        obtain ⟨c0, hc0⟩ : ∃ c0 : UInt8, c0 = 48 + UInt8.ofNat (i % 4) := ⟨_, rfl⟩
        obtain ⟨c1, hc1⟩ : ∃ c1 : UInt8, c1 = 97 + UInt8.ofNat (i / 4 % 10) := ⟨_, rfl⟩
        obtain ⟨c2, hc2⟩ : ∃ c2 : UInt8, c2 = 97 + UInt8.ofNat (i / 40) := ⟨_, rfl⟩
        have e0 : (48 : Int) + (i : Int) % 4 = (c0.toNat : Int) := by rw [hc0, UInt8.toNat_add, UInt8.toNat_ofNat']; simp; omega
        have e1 : (97 : Int) + (i : Int) / 4 % 10 = (c1.toNat : Int) := by rw [hc1, UInt8.toNat_add, UInt8.toNat_ofNat']; simp; omega
        have e2 : (97 : Int) + (i : Int) / 40 = (c2.toNat : Int) := by rw [hc2, UInt8.toNat_add, UInt8.toNat_ofNat']; simp; omega
        have htx : txF i = [115, 47, c0, 47, 48, 47, 97, c1, c2] := by unfold txF; rw [hc0, hc1, hc2]
        have v1 : (convert 127 9 (.slice (some ⟨wr.heap.size, 0, none⟩) 1 1)).run Tryz.prog (wr.alloc (.cells #[.int .u8 (48 + (i : Int) % 4)] 5)) = .ok (.string (bs [c0])) (wr.alloc (.cells #[.int .u8 (48 + (i : Int) % 4)] 5)) := by
          rw [e0]; exact convL (l := [c0]) (t := 5) ((heap_al _ _ _).trans (if_pos rfl)) rfl
        have v2 : (convert 127 9 (.slice (some ⟨wr.heap.size + 1, 0, none⟩) 2 2)).run Tryz.prog ((wr.alloc (.cells #[.int .u8 (48 + (i : Int) % 4)] 5)).alloc (.cells #[.int .u8 (97 + (i : Int) / 4 % 10), .int .u8 (97 + (i : Int) / 40)] 5)) = .ok (.string (bs [c1, c2])) ((wr.alloc (.cells #[.int .u8 (48 + (i : Int) % 4)] 5)).alloc (.cells #[.int .u8 (97 + (i : Int) / 4 % 10), .int .u8 (97 + (i : Int) / 40)] 5)) := by
          rw [e1, e2]; exact convL (l := [c1, c2]) (t := 5) ((heap_al _ _ _).trans (if_pos (by simp))) rfl
        have HTX := Lib.hid htx
        clear hc0 hc1 hc2 e0 e1 e2 htx
        have HPA := Lib.hid (fun W => parseF_gives i h220 W)
        have hcat := cat4 c0 c1 c2
        rw [← HTX.out] at hcat
        have HCAT := Lib.hid hcat
        clear hcat
        obtain ⟨hbr, G, hS, hF, hO, hown⟩ := HR.out
        have HG := Lib.hid (And.intro hbr (And.intro hS (And.intro hF (And.intro hO hown))))
        have hsz := hbr.size
        clear hbr hS hF hO hown HR
        go_wp2_with fail
        rw [HCAT.out]
        refine Gives.use (HPA.out _) ?_
        intro xs d
        go_upto_region 10 with fail
        refine wp_name ?_
        intro W hW
        obtain ⟨k6, hk6⟩ : ∃ k6, k6 = wr.heap.size + 1 + 1 + xs.size := ⟨_, rfl⟩
        have hbW : Below wr.heap.size wr W := by rw [hW]; exact (by repeat (first | exact below_of_grow _ _ | exact Below.refl _ _ | exact below_more _ _ _ _ | (simp only [← Array.append_assoc]; first | exact below_more _ _ _ _ | exact below_same _ _ _ | exact Below.refl _ _) | exact below_same _ _ _ | (refine Below.alloc ?_ (by first | (simp; done) | (simp; omega)) _) | (refine Below.grow ?_ (by first | (simp; done) | (simp; omega)) _ _) | refine Below.drew ?_ | refine Below.drewN ?_ _ | (refine Below.putF ?_ (by first | (simp; done) | omega | (simp; omega)) _) | (refine Below.setCell ?_ (by first | (simp; done) | (simp; omega)) _)))
        have h6 : W.heap[k6]? = some (.cells (row8 (kF i).val) 39) := by rw [hW, hk6]; exact (heap_al _ _ _).trans (if_pos (by simp))
        have l6 : k6 < W.heap.size := (Array.getElem?_eq_some_iff.1 h6).1
        have c6 : W.cut? k6 0 25 = some (row8 (kF i).val) := cut_heap h6 (by simp [(kF i).len])
        have hk6g : wr.heap.size ≤ k6 := by omega
        have hSW := HG.out.2.1.keep hbW
        have hk6o : k6 ∉ G.blocks s := fun hm => by have := HG.out.2.1.lt _ hm; omega
        have HP := Lib.hid (fun (V : World) (hb : Below W.heap.size W V) (lb : Nat) (hc : V.cut? lb 0 35 = some (wrtA ⟨kF i, false, recS⟩)) (hlb : lb < V.heap.size) (hge : W.heap.size ≤ lb) =>
          pubF i h220 (hSW.keep hb) HG.out.2.2.1 lb hc hlb (fun hm => by have := hSW.lt lb hm; omega))
        have H6 := Lib.hid (And.intro hbW (And.intro c6 (And.intro hk6g (And.intro hSW hk6o))))
        simp only [← hk6]
        clear hW h6 hbW hk6g hSW hk6o hk6 HPA HCAT HTX v1 v2
        obtain ⟨kk, hkk⟩ : ∃ kk, kk = kF i := ⟨_, rfl⟩
        rw [← hkk] at HP H6 c6
        have HKK := Lib.hid hkk
        have hkl := kk.len
        clear hkk
        go_wp2_with fail
        refine (HP.out _ (by repeat (first | exact below_of_grow _ _ | exact Below.refl _ _ | exact below_more _ _ _ _ | (simp only [← Array.append_assoc]; first | exact below_more _ _ _ _ | exact below_same _ _ _ | exact Below.refl _ _) | exact below_same _ _ _ | (refine Below.alloc ?_ (by first | (simp; done) | (simp; omega)) _) | (refine Below.grow ?_ (by first | (simp; done) | (simp; omega)) _ _) | refine Below.drew ?_ | refine Below.drewN ?_ _ | (refine Below.putF ?_ (by first | (simp; done) | omega | (simp; omega)) _) | (refine Below.setCell ?_ (by first | (simp; done) | (simp; omega)) _))) _ ?_ ?_ ?_).mono ?_
        · exact cut_heap ((heap_al _ _ _).trans (if_pos (by simp))) (wrtA_size _)
        · simp
        · simp
        rintro e w3 ⟨a, er, rfl, her, G', g1, g2, g3⟩
        obtain ⟨W1, hW1⟩ : ∃ W1, W1 = W.alloc (Obj.cells (wrtA ⟨kk, false, recS⟩) 68) := ⟨_, rfl⟩
        rw [← hW1] at g2
        have hb1 : Below W.heap.size W W1 := by rw [hW1]; exact (Below.refl _ _).alloc (Nat.le_refl _) _
        have c63 : w3.cut? k6 0 25 = some (row8 kk.val) := by
          rw [cut_of_heap (g2.1.same _ (Nat.lt_of_lt_of_le l6 hb1.size) H6.out.2.2.2.2), cut_of_heap (hb1.block _ l6)]
          exact H6.out.2.1
        have l63 : k6 < w3.heap.size := Nat.lt_of_lt_of_le l6 (Nat.le_trans hb1.size g2.1.size)
        have hb3 : Below w.heap.size w w3 := (HG.out.1.trans (H6.out.1.mono hsz)).trans ((hb1.mono (Nat.le_trans hsz H6.out.1.size)).trans (g2.below (H6.out.2.2.2.1.keep hb1)))
        have ho3 : OwnA w3 w.heap.size 25 39 u4 ((List.range i).map fun j => row8 (kF j).val) := HG.out.2.2.2.1.keep fun q e hq => by
          have hqo := HG.out.2.2.2.2 q e
          rw [g2.1.same q (Nat.lt_of_lt_of_le hq (Nat.le_trans H6.out.1.size hb1.size)) hqo, hb1.block q (Nat.lt_of_lt_of_le hq H6.out.1.size), H6.out.1.block q hq]
        have hown3 : ∀ q, u4.ownBlock = some q → q ∉ G'.blocks s := fun q e hm => by
          have hqo := HG.out.2.2.2.2 q e
          have hql := (HG.out.2.2.2.1.lt q e).2
          rcases g2.2 q hm with h | h
          · exact hqo h
          · have := Nat.le_trans H6.out.1.size hb1.size; omega
        have H3 := Lib.hid (And.intro g1 (And.intro g3 (And.intro hb3 (And.intro ho3 hown3))))
        have hz3 := hb3.size
        clear hW1 g1 g2 g3 hb1 hb3 ho3 hown3 HP H6 HG c6 l6
        have hcc : (er = 0 ∧ (i : Int) < 200) ∨ (er = 6 ∧ ¬ (i : Int) < 200) := by omega
        clear her
        go_upto_region 11 with fail
        go_cut [69] (fun v wx => v = .bool false ∧ wx = w3)
        case first =>
          rcases hcc with ⟨rfl, hi2⟩ | ⟨rfl, hi2⟩
          · go_wp2_with fail
            go_meet
            exact ⟨rfl, rfl⟩
          · go_wp2_with fail
            go_meet
            exact ⟨congrArg Value.bool (by simp [hi2]), rfl⟩
        case rest =>
          obtain ⟨rfl, rfl⟩ := hcut
          have hrng : (List.range (i + 1)).map (fun j => row8 (kF j).val) = ((List.range i).map fun j => row8 (kF j).val) ++ [row8 kk.val] := by rw [List.range_succ, List.map_append, HKK.out]; rfl
          have HRNG := Lib.hid hrng
          clear hrng
          go_wp2_with (at_builtin; refine wpList_append (B := w.heap.size) (xs := (List.range i).map fun j => row8 (kF j).val) (ys := [row8 kk.val]) row_keyF rfl (.tmp 70) (.tmp 72) rfl (v := u4) rfl ?_ rfl ?_ ?_ ?_ ?_ ?_)
          case refine_1 => exact H3.out.2.2.2.1.alloc _
          case refine_2 => exact ⟨_, sl_one (Nat.le_refl _) (by decide) (cut_heap ((heap_al _ _ _).trans (if_pos (by simp))) (by simp [hkl]))⟩
          case refine_3 => intro z hz; obtain rfl : z = row8 kk.val := by simpa using hz
                           exact one_key kk
          case refine_4 => simp; omega
          case refine_5 => simp; omega
          intro v3 w5 ho hg hv
          have hSA := H3.out.1.keep ((Below.refl _ _).alloc (Nat.le_refl _) (Obj.cells (row8 kk.val) 39))
          have hFS : FSt w s (i + 1) v3 w5 := by
            refine ⟨Below.grown (H3.out.2.2.1.alloc hz3 _) hg (by simp; omega) (fun q hq => by have := H3.out.2.2.2.1.lt q hq; simp; omega), G', ?_, H3.out.2.1, by rw [HRNG.out]; exact ho, fun q e hm => ?_⟩
            · refine hSA.keepAll (fun y hy => hg.block y (hSA.lt y hy) (fun e => H3.out.2.2.2.2 y e.symm hy)) hg.size
            · rcases hv with h | h
              · exact H3.out.2.2.2.2 q (h ▸ e) hm
              · rw [h] at e
                have := hSA.lt q hm
                simp at e this
                omega
          have HFS := Lib.hid hFS
          clear ho hg hv hSA hFS H3
          go_wp2_with fail
          go_roundw
          case rel => exact ⟨i + 1, by omega, by go_num, HFS⟩
          case measure => simp [intOf]; omega
      · have hie : i = n := by omega
        have hgn : ¬ (i : Int) < n := by omega
        subst hie
        go_wp2_with fail
        go_meet
        exact HR
  case rest =>
    obtain ⟨hbr, G, hS, hF, hO, hown⟩ := hcut.out
    clear hcut HE
    by_cases h200 : n ≤ 200
    · have h2 : (n : Int) ≤ 200 := by omega
      have hmn : min n 200 = n := by omega
      rw [hmn] at hF
      have hlv := hF.live
      have HL := Lib.hid (fun (V : World) (hb : Below wc.heap.size wc V) => slive_gives (hS.keep hb))
      have HB := Lib.hid hbr
      rw [hlv] at HL
      have hz := hbr.size
      clear hbr hS hF hO hown hlv hmn h200
      go_wp2_with fail
      refine Gives.use (HKN.out _) ?_
      intro xs d
      go_wp2_with fail
      refine Gives.use (HL.out _ (by repeat (first | exact below_of_grow _ _ | exact Below.refl _ _ | exact below_more _ _ _ _ | (simp only [← Array.append_assoc]; first | exact below_more _ _ _ _ | exact below_same _ _ _ | exact Below.refl _ _) | exact below_same _ _ _ | (refine Below.alloc ?_ (by first | (simp; done) | (simp; omega)) _) | (refine Below.grow ?_ (by first | (simp; done) | (simp; omega)) _ _) | refine Below.drew ?_ | refine Below.drewN ?_ _ | (refine Below.putF ?_ (by first | (simp; done) | omega | (simp; omega)) _) | (refine Below.setCell ?_ (by first | (simp; done) | (simp; omega)) _)))) ?_
      intro ys e
      go_wp2_with fail
      go_ret
      exact ⟨rfl, HB.out.trans ((show Below wc.heap.size wc _ from (by repeat (first | exact below_of_grow _ _ | exact Below.refl _ _ | exact below_more _ _ _ _ | (simp only [← Array.append_assoc]; first | exact below_more _ _ _ _ | exact below_same _ _ _ | exact Below.refl _ _) | exact below_same _ _ _ | (refine Below.alloc ?_ (by first | (simp; done) | (simp; omega)) _) | (refine Below.grow ?_ (by first | (simp; done) | (simp; omega)) _ _) | refine Below.drew ?_ | refine Below.drewN ?_ _ | (refine Below.putF ?_ (by first | (simp; done) | omega | (simp; omega)) _) | (refine Below.setCell ?_ (by first | (simp; done) | (simp; omega)) _)))).mono hz)⟩
    · have h2 : ¬ (n : Int) ≤ 200 := by omega
      have hmn : min n 200 = 200 := by omega
      rw [hmn] at hF
      have hz := hbr.size
      have hn2 : 200 < n := by omega
      obtain ⟨a, cap, rfl, hcm, hcl⟩ := hO.form
      obtain ⟨j1, a', cap', he, j2, j3, hcc⟩ := hO.sl
      simp only [Value.slice.injEq, List.length_map, List.length_range, true_and] at he hcl hcm ⊢
      obtain ⟨rfl, rfl⟩ := he
      obtain ⟨g, o, rfl, hlb, hcut2⟩ := hcc (by simp; omega)
      have c0 := hcut2 0 (row8 (kF 0).val) (by rw [List.getElem?_map, List.getElem?_range (by omega)]; rfl)
      have c2 := hcut2 200 (row8 (kF 200).val) (by rw [List.getElem?_map, List.getElem?_range (by omega)]; rfl)
      rw [Nat.zero_mul, Nat.add_zero] at c0
      have hnI : (200 : Int) < n := by omega
      have hnI0 : (0 : Int) < n := by omega
      have HP := Lib.hid (fun (V : World) (hb : Below wc.heap.size wc V) (lb : Nat) (hl : SlA V V.heap.size 35 (.slice (some ⟨lb, 0, none⟩) 2 2) (lastW.map wrtA)) (hge : wc.heap.size ≤ lb) =>
        last_calls (hS.keep hb) hF lb hl (fun hm => by have := hS.lt lb hm; omega))
      have HB := Lib.hid (And.intro hbr hS)
      obtain ⟨q0, hq0⟩ : ∃ q0, q0 = kF 0 := ⟨_, rfl⟩
      obtain ⟨q2, hq2⟩ : ∃ q2, q2 = kF 200 := ⟨_, rfl⟩
      have hlw : lastW = [⟨q0, true, Rec.zero⟩, ⟨q2, false, recS⟩] := by rw [hq0, hq2]; rfl
      rw [hlw] at HP
      rw [← hq0] at c0
      rw [← hq2] at c2
      clear hbr hS hF hO hown hmn h200 hcc hcut2 hq0 hq2 hlw j1 j2 j3
      unfold maxLen at hcm
      go_upto_region 16 with fail
      clear h2
      apply wp_region_specsT (by rfl) [.val _, .val _, .val _, .val _, .val _, .val _, .val _, .val _, .val _, .val _, .rel (TwoAt wc.heap.size (wrtA ⟨q0, true, Rec.zero⟩) (wrtA ⟨q2, false, recS⟩))] 11 (by rfl) [84, 85, 86, 87, 88, 89, 90, 91, 92, 93, 94] [] [] (by rfl) (by rfl) (by decide) (by decide +kernel) (fun _ _ _ _ _ h => h)
      case hF => intro x; simp only [over, List.foldl_cons, List.foldl_nil, List.setIfInBounds_toArray, List.set_cons_succ, List.set_cons_zero]; exact rfl
      case hops =>
        refine ⟨?o0, ?o1, ?o2, ?o3, ?o4, ?o5, ?o6, ?o7, ?o8, ?o9, ?o10, trivial⟩
        case o0 =>
          intro x w1 hH K hK
          obtain ⟨xs, d, rfl⟩ := grow_of_below hH.below
          clear hH
          try simp only [World.grow_drew] at hK ⊢
          try simp only [World.grow_grow] at hK ⊢
          go_simp
          go_wp2_with fail
          exact ⟨_, rfl, rfl, (by repeat (first | exact below_of_grow _ _ | exact Below.refl _ _ | exact below_more _ _ _ _ | (simp only [← Array.append_assoc]; first | exact below_more _ _ _ _ | exact below_same _ _ _ | exact Below.refl _ _) | exact below_same _ _ _ | (refine Below.alloc ?_ (by first | (simp; done) | (simp; omega)) _) | (refine Below.grow ?_ (by first | (simp; done) | (simp; omega)) _ _) | refine Below.drew ?_ | refine Below.drewN ?_ _ | (refine Below.putF ?_ (by first | (simp; done) | omega | (simp; omega)) _) | (refine Below.setCell ?_ (by first | (simp; done) | (simp; omega)) _))), fun h => by cases h⟩
        case o1 =>
          intro x w1 hH K hK
          obtain ⟨xs, d, rfl⟩ := grow_of_below hH.below
          clear hH
          try simp only [World.grow_drew] at hK ⊢
          try simp only [World.grow_grow] at hK ⊢
          go_simp
          go_wp2_with fail
          exact ⟨_, rfl, rfl, (by repeat (first | exact below_of_grow _ _ | exact Below.refl _ _ | exact below_more _ _ _ _ | (simp only [← Array.append_assoc]; first | exact below_more _ _ _ _ | exact below_same _ _ _ | exact Below.refl _ _) | exact below_same _ _ _ | (refine Below.alloc ?_ (by first | (simp; done) | (simp; omega)) _) | (refine Below.grow ?_ (by first | (simp; done) | (simp; omega)) _ _) | refine Below.drew ?_ | refine Below.drewN ?_ _ | (refine Below.putF ?_ (by first | (simp; done) | omega | (simp; omega)) _) | (refine Below.setCell ?_ (by first | (simp; done) | (simp; omega)) _))), fun h => by cases h⟩
        case o2 =>
          intro x w1 hH K hK
          have e85 : x 85 = _ := hH.holds 1 (by decide) (by decide +kernel) 85 rfl
          obtain ⟨xs, d, rfl⟩ := grow_of_below hH.below
          clear hH
          try simp only [World.grow_drew] at hK ⊢
          try simp only [World.grow_grow] at hK ⊢
          simp only [e85] at hK ⊢
          clear e85
          go_simp
          go_wp2_with fail
          exact ⟨_, rfl, rfl, (by repeat (first | exact below_of_grow _ _ | exact Below.refl _ _ | exact below_more _ _ _ _ | (simp only [← Array.append_assoc]; first | exact below_more _ _ _ _ | exact below_same _ _ _ | exact Below.refl _ _) | exact below_same _ _ _ | (refine Below.alloc ?_ (by first | (simp; done) | (simp; omega)) _) | (refine Below.grow ?_ (by first | (simp; done) | (simp; omega)) _ _) | refine Below.drew ?_ | refine Below.drewN ?_ _ | (refine Below.putF ?_ (by first | (simp; done) | omega | (simp; omega)) _) | (refine Below.setCell ?_ (by first | (simp; done) | (simp; omega)) _))), fun h => by cases h⟩
        case o3 =>
          intro x w1 hH K hK
          have e86 : x 86 = _ := hH.holds 2 (by decide) (by decide +kernel) 86 rfl
          obtain ⟨xs, d, rfl⟩ := grow_of_below hH.below
          clear hH
          try simp only [World.grow_drew] at hK ⊢
          try simp only [World.grow_grow] at hK ⊢
          simp only [e86] at hK ⊢
          clear e86
          go_simp
          go_wp2_with fail
          exact ⟨_, rfl, rfl, (by repeat (first | exact below_of_grow _ _ | exact Below.refl _ _ | exact below_more _ _ _ _ | (simp only [← Array.append_assoc]; first | exact below_more _ _ _ _ | exact below_same _ _ _ | exact Below.refl _ _) | exact below_same _ _ _ | (refine Below.alloc ?_ (by first | (simp; done) | (simp; omega)) _) | (refine Below.grow ?_ (by first | (simp; done) | (simp; omega)) _ _) | refine Below.drew ?_ | refine Below.drewN ?_ _ | (refine Below.putF ?_ (by first | (simp; done) | omega | (simp; omega)) _) | (refine Below.setCell ?_ (by first | (simp; done) | (simp; omega)) _))), fun h => by cases h⟩
        case o4 =>
          intro x w1 hH K hK
          have e87 : x 87 = _ := hH.holds 3 (by decide) (by decide +kernel) 87 rfl
          obtain ⟨xs, d, rfl⟩ := grow_of_below hH.below
          clear hH
          try simp only [World.grow_drew] at hK ⊢
          try simp only [World.grow_grow] at hK ⊢
          simp only [e87] at hK ⊢
          clear e87
          go_simp
          go_wp2_with fail
          exact ⟨_, rfl, rfl, (by repeat (first | exact below_of_grow _ _ | exact Below.refl _ _ | exact below_more _ _ _ _ | (simp only [← Array.append_assoc]; first | exact below_more _ _ _ _ | exact below_same _ _ _ | exact Below.refl _ _) | exact below_same _ _ _ | (refine Below.alloc ?_ (by first | (simp; done) | (simp; omega)) _) | (refine Below.grow ?_ (by first | (simp; done) | (simp; omega)) _ _) | refine Below.drew ?_ | refine Below.drewN ?_ _ | (refine Below.putF ?_ (by first | (simp; done) | omega | (simp; omega)) _) | (refine Below.setCell ?_ (by first | (simp; done) | (simp; omega)) _))), fun h => by cases h⟩
        case o5 =>
          intro x w1 hH K hK
          obtain ⟨xs, d, rfl⟩ := grow_of_below hH.below
          clear hH
          try simp only [World.grow_drew] at hK ⊢
          try simp only [World.grow_grow] at hK ⊢
          go_simp
          go_wp2_with fail
          exact ⟨_, rfl, rfl, (by repeat (first | exact below_of_grow _ _ | exact Below.refl _ _ | exact below_more _ _ _ _ | (simp only [← Array.append_assoc]; first | exact below_more _ _ _ _ | exact below_same _ _ _ | exact Below.refl _ _) | exact below_same _ _ _ | (refine Below.alloc ?_ (by first | (simp; done) | (simp; omega)) _) | (refine Below.grow ?_ (by first | (simp; done) | (simp; omega)) _ _) | refine Below.drew ?_ | refine Below.drewN ?_ _ | (refine Below.putF ?_ (by first | (simp; done) | omega | (simp; omega)) _) | (refine Below.setCell ?_ (by first | (simp; done) | (simp; omega)) _))), fun h => by cases h⟩
        case o6 =>
          intro x w1 hH K hK
          have e89 : x 89 = _ := hH.holds 5 (by decide) (by decide +kernel) 89 rfl
          obtain ⟨xs, d, rfl⟩ := grow_of_below hH.below
          clear hH
          try simp only [World.grow_drew] at hK ⊢
          try simp only [World.grow_grow] at hK ⊢
          simp only [e89] at hK ⊢
          clear e89
          go_simp
          go_wp2_with fail
          exact ⟨_, rfl, rfl, (by repeat (first | exact below_of_grow _ _ | exact Below.refl _ _ | exact below_more _ _ _ _ | (simp only [← Array.append_assoc]; first | exact below_more _ _ _ _ | exact below_same _ _ _ | exact Below.refl _ _) | exact below_same _ _ _ | (refine Below.alloc ?_ (by first | (simp; done) | (simp; omega)) _) | (refine Below.grow ?_ (by first | (simp; done) | (simp; omega)) _ _) | refine Below.drew ?_ | refine Below.drewN ?_ _ | (refine Below.putF ?_ (by first | (simp; done) | omega | (simp; omega)) _) | (refine Below.setCell ?_ (by first | (simp; done) | (simp; omega)) _))), fun h => by cases h⟩
        case o7 =>
          intro x w1 hH K hK
          have e90 : x 90 = _ := hH.holds 6 (by decide) (by decide +kernel) 90 rfl
          obtain ⟨xs, d, rfl⟩ := grow_of_below hH.below
          clear hH
          try simp only [World.grow_drew] at hK ⊢
          try simp only [World.grow_grow] at hK ⊢
          simp only [e90] at hK ⊢
          clear e90
          go_simp
          go_wp2_with fail
          exact ⟨_, rfl, rfl, (by repeat (first | exact below_of_grow _ _ | exact Below.refl _ _ | exact below_more _ _ _ _ | (simp only [← Array.append_assoc]; first | exact below_more _ _ _ _ | exact below_same _ _ _ | exact Below.refl _ _) | exact below_same _ _ _ | (refine Below.alloc ?_ (by first | (simp; done) | (simp; omega)) _) | (refine Below.grow ?_ (by first | (simp; done) | (simp; omega)) _ _) | refine Below.drew ?_ | refine Below.drewN ?_ _ | (refine Below.putF ?_ (by first | (simp; done) | omega | (simp; omega)) _) | (refine Below.setCell ?_ (by first | (simp; done) | (simp; omega)) _))), fun h => by cases h⟩
        case o8 =>
          intro x w1 hH K hK
          obtain ⟨xs, d, rfl⟩ := grow_of_below hH.below
          clear hH
          try simp only [World.grow_drew] at hK ⊢
          try simp only [World.grow_grow] at hK ⊢
          go_simp
          go_wp2_with fail
          exact ⟨_, rfl, rfl, (by repeat (first | exact below_of_grow _ _ | exact Below.refl _ _ | exact below_more _ _ _ _ | (simp only [← Array.append_assoc]; first | exact below_more _ _ _ _ | exact below_same _ _ _ | exact Below.refl _ _) | exact below_same _ _ _ | (refine Below.alloc ?_ (by first | (simp; done) | (simp; omega)) _) | (refine Below.grow ?_ (by first | (simp; done) | (simp; omega)) _ _) | refine Below.drew ?_ | refine Below.drewN ?_ _ | (refine Below.putF ?_ (by first | (simp; done) | omega | (simp; omega)) _) | (refine Below.setCell ?_ (by first | (simp; done) | (simp; omega)) _))), fun h => by cases h⟩
        case o9 =>
          intro x w1 hH K hK
          have e91 : x 91 = _ := hH.holds 7 (by decide) (by decide +kernel) 91 rfl
          have e92 : x 92 = _ := hH.holds 8 (by decide) (by decide +kernel) 92 rfl
          obtain ⟨xs, d, rfl⟩ := grow_of_below hH.below
          clear hH
          try simp only [World.grow_drew] at hK ⊢
          try simp only [World.grow_grow] at hK ⊢
          simp only [e91, e92] at hK ⊢
          clear e91 e92
          go_simp
          go_wp2_with fail
          exact ⟨_, rfl, rfl, (by repeat (first | exact below_of_grow _ _ | exact Below.refl _ _ | exact below_more _ _ _ _ | (simp only [← Array.append_assoc]; first | exact below_more _ _ _ _ | exact below_same _ _ _ | exact Below.refl _ _) | exact below_same _ _ _ | (refine Below.alloc ?_ (by first | (simp; done) | (simp; omega)) _) | (refine Below.grow ?_ (by first | (simp; done) | (simp; omega)) _ _) | refine Below.drew ?_ | refine Below.drewN ?_ _ | (refine Below.putF ?_ (by first | (simp; done) | omega | (simp; omega)) _) | (refine Below.setCell ?_ (by first | (simp; done) | (simp; omega)) _))), fun h => by cases h⟩
        case o10 =>
          intro x w1 hH K hK
          have e88 : x 88 = _ := hH.holds 4 (by decide) (by decide +kernel) 88 rfl
          have e93 : x 93 = _ := hH.holds 9 (by decide) (by decide +kernel) 93 rfl
          obtain ⟨xs, d, rfl⟩ := grow_of_below hH.below
          clear hH
          try simp only [World.grow_drew] at hK ⊢
          try simp only [World.grow_grow] at hK ⊢
          simp only [e88, e93] at hK ⊢
          clear e88 e93
          go_simp
          go_wp2_with fail
          exact ⟨_, rfl, fun w3 h3 => TwoAt.keep ⟨_, rfl, by simp, by rw [heap_al, if_pos (by simp)]⟩ h3, (by repeat (first | exact below_of_grow _ _ | exact Below.refl _ _ | exact below_more _ _ _ _ | (simp only [← Array.append_assoc]; first | exact below_more _ _ _ _ | exact below_same _ _ _ | exact Below.refl _ _) | exact below_same _ _ _ | (refine Below.alloc ?_ (by first | (simp; done) | (simp; omega)) _) | (refine Below.grow ?_ (by first | (simp; done) | (simp; omega)) _ _) | refine Below.drew ?_ | refine Below.drewN ?_ _ | (refine Below.putF ?_ (by first | (simp; done) | omega | (simp; omega)) _) | (refine Below.setCell ?_ (by first | (simp; done) | (simp; omega)) _))), fun h => by cases h⟩
      case hend =>
        intro x w1 hH
        have e84 : x 84 = _ := hH.holds 0 (by decide) trivial 84 rfl
        have e85 : x 85 = _ := hH.holds 1 (by decide) trivial 85 rfl
        have e86 : x 86 = _ := hH.holds 2 (by decide) trivial 86 rfl
        have e87 : x 87 = _ := hH.holds 3 (by decide) trivial 87 rfl
        have e88 : x 88 = _ := hH.holds 4 (by decide) trivial 88 rfl
        have e89 : x 89 = _ := hH.holds 5 (by decide) trivial 89 rfl
        have e90 : x 90 = _ := hH.holds 6 (by decide) trivial 90 rfl
        have e91 : x 91 = _ := hH.holds 7 (by decide) trivial 91 rfl
        have e92 : x 92 = _ := hH.holds 8 (by decide) trivial 92 rfl
        have e93 : x 93 = _ := hH.holds 9 (by decide) trivial 93 rfl
        have r94 := hH.holds 10 (by decide) trivial 94 rfl (_) (Below.refl _ _)
        obtain ⟨xs, d, rfl⟩ := grow_of_below hH.below
        clear hH
        simp only [e84, e85, e86, e87, e88, e89, e90, e91, e92, e93]; clear e84 e85 e86 e87 e88 e89 e90 e91 e92 e93
        obtain ⟨l94, h94, hge, hh94⟩ := r94
        show wpAny _ .any _ _ (5 + 1) _ _ _
        refine step_one 11 rfl (by decide +kernel) ?_
        intro K' hK'
        simp only [h94] at hK' ⊢
        clear h94
        go_simp
        go_wp2_with fail
        refine (HP.out _ (below_of_grow _ _) l94 ((sl_parts2F hh94 (wrtA_size _) (wrtA_size _)).more (Array.getElem?_eq_some_iff.1 hh94).1) hge).mono ?_
        rintro e w3 ⟨r, rfl, G', g1, g2, g3⟩
        have hb3 : Below w.heap.size w w3 := (HB.out.1.trans ((below_of_grow xs d).mono hz)).trans (g2.below (HB.out.2.keep (below_of_grow xs d)))
        refine hK' _ _ ?_
        clear hK' K'
        show wpAny _ .any _ _ (4 + 1) _ _ _
        refine step_one 12 rfl (by decide +kernel) ?_
        intro K' hK'
        go_simp
        refine hK' _ _ ?_
        clear hK' K'
        have HL := Lib.hid (fun (V : World) (hb : Below w3.heap.size w3 V) => slive_gives (g1.keep hb))
        rw [g3] at HL
        have hz3 := hb3.size
        have HB3 := Lib.hid hb3
        clear g1 g2 g3 hb3 hh94 hge HP c0 c2 HB
        show wpAny _ .any _ _ (3 + 1) _ _ _
        refine wpAny_take (i := 13) (v := ?v13) rfl (by kernel_rfl) (by kernel_rfl) (by kernel_rfl) (fun _ _ _ h => h) (Or.inl ⟨by rfl, ?y13⟩) ?_
        case y13 => intro w; go_simp; try with_reducible rfl
        show wpAny _ .any _ _ (2 + 1) _ _ _
        refine wpAny_take (i := 14) (v := ?v14) rfl (by kernel_rfl) (by kernel_rfl) (by kernel_rfl) (fun _ _ _ h => h) (Or.inl ⟨by rfl, ?y14⟩) ?_
        case y14 => intro w; go_simp; try with_reducible rfl
        show wpAny _ .any _ _ (1 + 1) _ _ _
        refine step_one 15 rfl (by decide +kernel) ?_
        intro K' hK'
        go_simp
        refine hK' _ _ ?_
        clear hK' K'
        show wpAny _ .any _ _ (0 + 1) _ _ _
        refine step_one 16 rfl (by decide +kernel) ?_
        intro K' hK'
        go_simp
        refine hK' _ _ ?_
        clear hK' K'
        refine wpAny_done (by decide +kernel) ?_ _
        go_wp2_with fail
        refine Gives.use (HKN.out _) ?_
        intro xs d
        go_wp2_with fail
        refine Gives.use (HL.out _ (by repeat (first | exact below_of_grow _ _ | exact Below.refl _ _ | exact below_more _ _ _ _ | (simp only [← Array.append_assoc]; first | exact below_more _ _ _ _ | exact below_same _ _ _ | exact Below.refl _ _) | exact below_same _ _ _ | (refine Below.alloc ?_ (by first | (simp; done) | (simp; omega)) _) | (refine Below.grow ?_ (by first | (simp; done) | (simp; omega)) _ _) | refine Below.drew ?_ | refine Below.drewN ?_ _ | (refine Below.putF ?_ (by first | (simp; done) | omega | (simp; omega)) _) | (refine Below.setCell ?_ (by first | (simp; done) | (simp; omega)) _)))) ?_
        intro ys e
        go_wp2_with fail
        go_ret
        exact ⟨rfl, HB3.out.trans ((show Below w3.heap.size w3 _ from (by repeat (first | exact below_of_grow _ _ | exact Below.refl _ _ | exact below_more _ _ _ _ | (simp only [← Array.append_assoc]; first | exact below_more _ _ _ _ | exact below_same _ _ _ | exact Below.refl _ _) | exact below_same _ _ _ | (refine Below.alloc ?_ (by first | (simp; done) | (simp; omega)) _) | (refine Below.grow ?_ (by first | (simp; done) | (simp; omega)) _ _) | refine Below.drew ?_ | refine Below.drewN ?_ _ | (refine Below.putF ?_ (by first | (simp; done) | omega | (simp; omega)) _) | (refine Below.setCell ?_ (by first | (simp; done) | (simp; omega)) _)))).mono hz3)⟩
end Go.Proofs.YtdfjflakilmjjaaGreatDoor.Dn
namespace Go.Proofs.YtdfjflakilmjjaaGreatDoor
set_option maxRecDepth 100000
open Go.RowKit

theorem storeFull_law (w : World) (v0 : Value) (h0 : Reads Tryz.prog w 3 v0) : Gives Tryz.prog 8 #[v0] w (.bool true) := by
  obtain ⟨p, rfl, _⟩ := h0.int Tryz.underlying3
  exact Dn.full_walk p w

namespace storeFull
open Go.ChangeShapes Go.WideShapes Go.ChangeAt Go.RowKit
open Go.ChangeMaps (open_string shut_string)
theorem own : ownKnob Tryz.prog.godebug = none := by kernel_rfl
theorem laidOut : laidOutB Tryz.prog = true := by kernel_rfl
/-- a world in which the listed variables hold what the row says -/
noncomputable def laidW (os : Os) : World := World.laidAll Tryz.prog os Rows.storeFullRow.laid
set_option maxRecDepth 100000 in
theorem door_met (os : Os) (args : Array Value) : laidMetH Tryz.prog Rows.storeFullRow.laid ((laidW os).forCall (fun _ _ => 0) ⟨#[], args, []⟩).memory := by
  rw [MakeChecks.laidMetH_plain _ _ _ (by kernel_rfl)]
  exact laidMet_laidAll args (by kernel_rfl) (by kernel_rfl)
set_option maxRecDepth 100000 in
theorem lifted (os : Os) (started : os.Started) (H : Type) (enc : TypeId × Value → H) :
    ReturnsInHanded {} Tryz.checked os 8 .any (fun w args => (Rows.storeFullSpec.pre enc Tryz.prog Tryz.f8 Rows.storeFullRow.domain false w args ∧ laidMetH Tryz.prog Rows.storeFullRow.laid w) ∧ sizedMet enc Tryz.prog Tryz.f8 (OpenSpec.ofChange Rows.storeFullSpec) false w args) (Rows.storeFullSpec.post enc Tryz.prog Tryz.f8 false true false false) := by
  refine returnsInHanded_of_change_and (C := Tryz.checked) (X := fun w _ => laidMetH Tryz.prog Rows.storeFullRow.laid w) (fun _ _ _ hh h => h.of_heap hh) own started (by kernel_rfl) Tryz.func8
    (ChangeSpec.witness_shaped (enc := enc) (C := Tryz.checked) (os := os) (X := fun w _ => laidMetH Tryz.prog Rows.storeFullRow.laid w) false (laidW os) #[.int .i64 0] 8 (World.laidAll_os _ _ _) (World.shaped_of_ZipB (by kernel_rfl) (by kernel_rfl)) (by kernel_rfl) (by kernel_rfl) (by kernel_rfl) (door_met os _)) ?_
  intro W base args ds gs before hval0 hW _ _ _ _
  have hval : ∀ (j : Nat) t v, Tryz.f8.params[j]? = some t → args[j]? = some v → Value.okWide Tryz.prog W .any base t v := hval0
  have hW' := hW
  obtain ⟨p, q, hA0, hV, rfl, hfz, hnd⟩ := hW
  have hA : DataW.TrodAll enc Tryz.prog W 0 (fun _ => true) true Tryz.f8.params.toList args.toList ds p := hA0
  rw [Tryz.params8] at hA hval
  obtain ⟨v0, vs0, d0, ds0, p0, q0, hargs, rfl, rfl, h0, r0⟩ := trodAll_cons hA
  obtain ⟨rfl, rfl, rfl⟩ := trodAll_nil r0
  obtain rfl : args = #[v0] := by cases args; simp_all
  obtain ⟨rfl, rfl⟩ := trodVars_none hV
  have lt0 : ∀ x ∈ p0, x.block < W.heap.size := by obtain ⟨m, hm⟩ := h0; exact DataW.trod_lt m _ _ _ hm
  clear hA0 hval0
  refine Calls.mono (storeFull_law W v0 ⟨⟨_, hval 0 3 v0 rfl rfl⟩, H, enc, _, _, h0⟩) fun e W' ⟨he, bel⟩ => ?_
  subst he
  exact ⟨_, rfl, _, _, _, [], _, [], hW', trodAll_mk1 (shut_bool Tryz.underlying4 _), (trodAll_cons_mk (Below.trod laidOut (by kernel_rfl) (of_decide_eq_true (by kernel_rfl)) h0 bel lt0) trodAll_mk0), rfl, bel.frame _, fun h => by cases h⟩
theorem fact0 : (Rows.storeFullRow.inPlace == Program.inPlace Tryz.pinned.checked.prog 8) = true := by kernel_rfl
theorem fact1 : (Rows.storeFullRow.unfollowed == Program.unfollowed Tryz.pinned.checked.prog 8) = true := by kernel_rfl
theorem fact2 : (Rows.storeFullRow.recurses == Program.recurses Tryz.pinned.checked.prog 8) = true := by kernel_rfl
theorem fact3 : (Rows.storeFullRow.named == Program.varsNamed Tryz.pinned.checked.prog 8) = true := by kernel_rfl
theorem closed : joinedFacts Tryz.pinned.checked.prog 8 Tryz.f8 Rows.storeFullSpec Rows.storeFullRow = true := by
  unfold joinedFacts
  rw [fact0, fact1, fact2, fact3]
  refine Eq.trans (b := true) ?_ rfl
  kernel_rfl
theorem said : Rows.StoreFullSaid :=
  OpenClaim.holds_of_wide 8 Tryz.f8 rfl rfl rfl rfl rfl rfl rfl ⟨rfl, rfl, rfl, rfl, rfl⟩ rfl rfl rfl rfl rfl (by kernel_rfl) Tryz.func8 closed
    (of_decide_eq_true (by kernel_rfl)) (by unfold Func.isWrapper; first | (rw [if_pos (by decide +kernel)]; kernel_rfl) | (rw [if_neg (by decide +kernel)]; exact ⟨rfl, rfl⟩))
    (fun os started H enc _ => lifted os started H enc)
/-- no parameter wants a stand-in; the program's own looks are off -/
theorem plain (f : FuncId) (fn : Func) (hf : Tryz.pinned.checked.prog.funcNamed "vulgate/vulgatelaw14.StoreFull" = some f) (hfn : Tryz.pinned.checked.prog.funcs[f]? = some fn) :
    true = Tryz.pinned.checked.prog.looks [] ∧ ∀ (j : Nat) t, fn.params[j]? = some t → Tryz.pinned.checked.prog.wantsStandIn t = false := by
  obtain rfl : f = 8 := Option.some.inj ((show Tryz.prog.funcNamed "vulgate/vulgatelaw14.StoreFull" = some 8 by kernel_rfl).symm.trans hf) |>.symm
  obtain rfl : fn = Tryz.f8 := (Option.some.inj (Tryz.func8.symm.trans hfn)).symm
  refine ⟨by kernel_rfl, fun j t ht => ?_⟩
  rw [Tryz.params8] at ht
  have hm : t ∈ [3] := by simpa using Array.mem_of_getElem? ht
  have hall : ([3].all fun u => !Tryz.prog.wantsStandIn u) = true := by kernel_rfl
  exact (show Tryz.prog.wantsStandIn t = false by simpa using List.all_eq_true.1 hall t hm)
theorem proved : Rows.StoreFullCardSaid :=
  Claim7.holds_tied_plain_at .later [] _ _ _ _ said (fun _ h => by cases h) (by kernel_rfl) (fun _ h => by cases h) storeFull_row_tie rfl ⟨rfl, rfl⟩ (by kernel_rfl) rfl plain (by kernel_rfl)
#print axioms proved
end storeFull
end Go.Proofs.YtdfjflakilmjjaaGreatDoor
