/- strings.Split at a separator of one byte. -/
import Derived.Test.YtjdccgmoldmlmaaDoorName
import Derived.Test.YtjdccgmoldmlmaaDoorShelf
import Derived.Shelf.Strings.SplitCore
import Derived.Lib.IndexBytes
import Derived.Lib.SplitLaws
namespace Go.Proofs.YtjdccgmoldmlmaaDoor
set_option maxRecDepth 100000
open Go.RowKit

theorem splitOn_hit (c : UInt8) (l : List UInt8) : splitOn c (c :: l) = [] :: splitOn c l := by rw [splitOn]; exact if_pos rfl
theorem splitOn_miss {c b : UInt8} {l p : List UInt8} {r : List (List UInt8)} (h : b ≠ c) (hs : splitOn c l = p :: r) : splitOn c (b :: l) = (b :: p) :: r := by
  rw [splitOn, if_neg h, hs]
theorem splitOn_cut (c : UInt8) : ∀ s : List UInt8, (Lib.indexByte s c = -1 ∧ s.count c = 0 ∧ splitOn c s = [s]) ∨
    ∃ k : Nat, k < s.length ∧ Lib.indexByte s c = k ∧ s.count c = 1 + (s.drop (k + 1)).count c ∧ splitOn c s = s.take k :: splitOn c (s.drop (k + 1))
  | [] => .inl ⟨rfl, rfl, rfl⟩
  | b :: l => by
    rw [Lib.indexByte]
    by_cases h : b = c
    · right
      subst h
      refine ⟨0, by simp, by simp, by simp; omega, ?_⟩
      rw [splitOn_hit]; rfl
    · have h1 : (b == c) = false := by simpa using h
      rw [h1]
      rcases splitOn_cut c l with ⟨e1, e2, e3⟩ | ⟨k, hk, e1, e2, e3⟩
      · left
        rw [e1, splitOn_miss h e3]
        refine ⟨rfl, ?_, rfl⟩
        rw [List.count_cons, e2, h1]; rfl
      · right
        refine ⟨k + 1, by simp; omega, ?_, ?_, ?_⟩
        · rw [e1]
          have : ((k : Int) == -1) = false := by simp
          rw [this]; rfl
        · rw [List.count_cons, e2, h1]; rfl
        · rw [splitOn_miss h e3]; rfl
theorem splitK_on (c : UInt8) : ∀ (k : Nat) (s : List UInt8), s.count c ≤ k → Lib.splitK [c] 0 k s = splitOn c s
  | 0, s, h => by
    rcases splitOn_cut c s with ⟨_, _, e3⟩ | ⟨k, hk, _, e2, _⟩
    · rw [e3]; rfl
    · omega
  | n + 1, s, h => by
    unfold Lib.splitK
    rw [Lib.index_one]
    rcases splitOn_cut c s with ⟨e1, _, e3⟩ | ⟨k, hk, e1, e2, e3⟩
    · rw [e1, e3]; rfl
    · rw [e1, e3]
      have : ((k : Int) == -1) = false := by simp
      rw [this]
      simp only [Bool.false_eq_true, if_false, Int.toNat_natCast, Nat.add_zero, List.length_cons, List.length_nil]
      rw [splitK_on c n (s.drop (k + 1)) (by omega)]
theorem splitOn_len (c : UInt8) (s : List UInt8) : (splitOn c s).length = s.count c + 1 := by
  induction s with
  | nil => rfl
  | cons b l ih =>
    by_cases h : b = c
    · subst h; rw [splitOn_hit]; simp [ih]
    · rw [splitOn, if_neg h]
      have h1 : (b == c) = false := by simpa using h
      cases hs : splitOn c l with
      | nil => rw [hs] at ih; simp at ih
      | cons p r => rw [hs] at ih; simp only [List.length_cons] at ih ⊢; rw [List.count_cons, h1]; simpa using ih

/-- strings in a row of memory, from place o on -/
def StrsC (ps : List (List UInt8)) (C : Array Value) (o : Nat) : Prop := ∀ (i : Nat) (p : List UInt8), ps[i]? = some p → C[o + i]? = some (.string (bs p))
theorem StrsC.tail {p : List UInt8} {ps : List (List UInt8)} {C : Array Value} {o : Nat} (h : StrsC (p :: ps) C o) : StrsC ps C (o + 1) :=
  fun i q hi => by have := h (i + 1) q (by simpa using hi); rw [show o + 1 + i = o + (i + 1) by omega]; exact this

theorem split_calls (c : UInt8) (s : List UInt8) (hs : s.length ≤ 1000000) (w : World) :
    Calls Tryd.prog 57 #[.string (bs s), .string ⟨#[c]⟩] w fun e w' => ∃ cap C, e = .returned (.slice (some ⟨w.heap.size, 0, none⟩) (splitOn c s).length cap) ∧ (splitOn c s).length ≤ cap ∧ cap ≤ 1000001 ∧ StrsC (splitOn c s) C 0 ∧ w' = w.alloc (.cells C 9) := by
  have hcnt : Lib.countB (bs s) ⟨#[c]⟩ = s.count c := by
    show Lib.count (bs s).data.toList [c] = _
    rw [Lib.count_one]
    simp [bs]
  have hi : ∀ x : ByteArray, Lib.indexB x ⟨#[c]⟩ = Lib.indexByte x.data.toList c := fun x => Lib.index_one _ c
  have hle : s.count c ≤ s.length := List.count_le_length
  have hcore := Any.strings_genSplit_core (P := Tryd.prog) Tryd.lays221 (by kernel_rfl) (bs s) ⟨#[c]⟩ 0 (-1) (s.count c + 1) w (by rw [bs_size]; omega) (Nat.le_refl 1) (Nat.zero_le _)
    (fun x cs _ => by
      have := Tryd.strings_Index_one x c (w.alloc (.cells cs (Tryd.lays221_ren.t 9)))
      rw [hi x]
      exact this)
    (by
      have := Tryd.strings_Count_one (bs s) c w
      rw [hcnt]
      have e : Lib.countByte (bs s).data.toList c = s.count c := by simp [Lib.countByte, bs]
      rw [e] at this
      exact this)
    (by decide) (by decide) (by rw [hcnt, bs_size]; simp; omega)
  have hB : (Lib.splitB ⟨#[c]⟩ 0 (s.count c) (bs s)).map (·.data.toList) = splitOn c s := by
    rw [Lib.splitB_data]
    have := splitK_on c (s.count c) s (Nat.le_refl _)
    simpa [bs] using this
  have hBl : (Lib.splitB ⟨#[c]⟩ 0 (s.count c) (bs s)).length = (splitOn c s).length := by rw [← hB, List.length_map]
  simp only [Nat.add_sub_cancel] at hcore
  rw [hBl] at hcore
  have HC := Lib.hid hcore
  have HBB := Lib.hid hB
  clear hcore hcnt hi hB hBl
  go_enter Tryd.func57, Tryd.ntmps57
  go_wp2_with (go_at_call 65; refine HC.out.mono ?_; rintro e w' ⟨rfl, rfl⟩)
  go_ret
  have hlen := splitOn_len c s
  refine ⟨s.count c + 1, _, rfl, by omega, by omega, ?_, rfl⟩
  intro i p hp
  rw [← HBB.out, List.getElem?_map, Option.map_eq_some_iff] at hp
  obtain ⟨q, hq, rfl⟩ := hp
  have hc : (Lib.cellsOf (Lib.splitB ⟨#[c]⟩ 0 (s.count c) (bs s)) (s.count c + 1))[i]? = some (.string q) := by
    unfold Lib.cellsOf
    have hi := (List.getElem?_eq_some_iff.1 hq).1
    rw [List.getElem?_toArray, List.getElem?_append_left (by simpa using hi), List.getElem?_map, hq]
    rfl
  rw [← bs_of q, Nat.zero_add]
  exact hc
end Go.Proofs.YtjdccgmoldmlmaaDoor
