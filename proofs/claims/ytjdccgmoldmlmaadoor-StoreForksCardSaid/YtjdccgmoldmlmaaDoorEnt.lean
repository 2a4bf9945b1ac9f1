/- Keys, records, cells, entries and writes: how they lie in memory; when two are the same. -/
import Derived.Test.YtjdccgmoldmlmaaDoorSlice
import Derived.Test.YtjdccgmoldmlmaaDoorKinds
namespace Go.Proofs.YtjdccgmoldmlmaaDoor
open Go.RowKit

/-- a key: 25 bytes -/
def K25 := { l : List UInt8 // l.length = 25 }
instance : DecidableEq K25 := inferInstanceAs (DecidableEq { l : List UInt8 // l.length = 25 })
@[go_sem, simp] theorem K25.len (k : K25) : k.val.length = 25 := k.property
/-- a text that may be -/
def Txt := { l : List UInt8 // l.length ≤ maxLen }
instance : DecidableEq Txt := inferInstanceAs (DecidableEq { l : List UInt8 // l.length ≤ maxLen })
def Txt.nil : Txt := ⟨[], Nat.zero_le _⟩
structure Rec where
  kind : UInt8
  state : UInt8
  user : UInt8
  parent : UInt8
  mask : UInt8
  gone : Bool
  rev : UInt32
  at_ : UInt64
  text : Txt
instance : DecidableEq Rec := fun a b =>
  if h : a.kind = b.kind ∧ a.state = b.state ∧ a.user = b.user ∧ a.parent = b.parent ∧ a.mask = b.mask ∧ a.gone = b.gone ∧ a.rev = b.rev ∧ a.at_ = b.at_ ∧ a.text = b.text then
    .isTrue (by obtain ⟨h0, h1, h2, h3, h4, h5, h6, h7, h8⟩ := h; cases a; cases b; simp only at *; subst h0 h1 h2 h3 h4 h5 h6 h7 h8; rfl)
  else .isFalse (by rintro rfl; exact h ⟨rfl, rfl, rfl, rfl, rfl, rfl, rfl, rfl, rfl⟩)
def Rec.zero : Rec := ⟨0, 0, 0, 0, 0, false, 0, 0, Txt.nil⟩
structure Cell where
  is_ : Bool
  r : Rec
instance : DecidableEq Cell := fun a b =>
  if h : a.is_ = b.is_ ∧ a.r = b.r then .isTrue (by obtain ⟨h0, h1⟩ := h; cases a; cases b; simp only at *; subst h0 h1; rfl)
  else .isFalse (by rintro rfl; exact h ⟨rfl, rfl⟩)
def Cell.zero : Cell := ⟨false, Rec.zero⟩
structure Ent where
  k : K25
  r : Rec
instance : DecidableEq Ent := fun a b =>
  if h : a.k = b.k ∧ a.r = b.r then .isTrue (by obtain ⟨h0, h1⟩ := h; cases a; cases b; simp only at *; subst h0 h1; rfl)
  else .isFalse (by rintro rfl; exact h ⟨rfl, rfl⟩)
structure Wr where
  k : K25
  dead : Bool
  r : Rec
instance : DecidableEq Wr := fun a b =>
  if h : a.k = b.k ∧ a.dead = b.dead ∧ a.r = b.r then .isTrue (by obtain ⟨h0, h1, h2⟩ := h; cases a; cases b; simp only at *; subst h0 h1 h2; rfl)
  else .isFalse (by rintro rfl; exact h ⟨rfl, rfl, rfl⟩)

/-! the cells: of the program, of the document -/
def recL (r : Rec) : List Value := [.int .u8 r.kind.toNat, .int .u8 r.state.toNat, .int .u8 r.user.toNat, .int .u8 r.parent.toNat, .int .u8 r.mask.toNat, .bool r.gone, .int .u32 r.rev.toNat, .int .u64 r.at_.toNat, .string (bs r.text.val)]
def recDL (r : Rec) : List Value := [.int .i64 r.kind.toNat, .int .i64 r.state.toNat, .int .i64 r.user.toNat, .int .i64 r.parent.toNat, .int .i64 r.mask.toNat, .bool r.gone, .int .u64 r.rev.toNat, .int .u64 r.at_.toNat, .string (bs r.text.val)]
def keyL (k : K25) : List Value := k.val.map fun b => .int .u8 (b.toNat : Int)
def keyDL (k : K25) : List Value := .int .i64 ((byt k.val 0).toNat) :: .int .i64 ((byt k.val 1).toNat) :: .int .i64 ((byt k.val 2).toNat) :: (k.val.drop 3).map fun b => .int .u8 (b.toNat : Int)
def recA (r : Rec) : Array Value := (recL r).toArray
def recD (r : Rec) : Array Value := (recDL r).toArray
def cellA (c : Cell) : Array Value := (.bool c.is_ :: recL c.r).toArray
def cellD (c : Cell) : Array Value := (.bool c.is_ :: recDL c.r).toArray
def entA (e : Ent) : Array Value := (keyL e.k ++ recL e.r).toArray
def entD (e : Ent) : Array Value := (keyDL e.k ++ recDL e.r).toArray
def wrtA (x : Wr) : Array Value := (keyL x.k ++ .bool x.dead :: recL x.r).toArray
def wrtD (x : Wr) : Array Value := (keyDL x.k ++ .bool x.dead :: recDL x.r).toArray
theorem keyL_len (k : K25) : (keyL k).length = 25 := by simp [keyL]
theorem keyDL_len (k : K25) : (keyDL k).length = 25 := by simp [keyDL]
theorem recL_len (r : Rec) : (recL r).length = 9 := rfl
theorem recDL_len (r : Rec) : (recDL r).length = 9 := rfl
@[go_sem, simp] theorem recA_size (r : Rec) : (recA r).size = 9 := id rfl
@[go_sem, simp] theorem recD_size (r : Rec) : (recD r).size = 9 := id rfl
@[go_sem, simp] theorem cellA_size (c : Cell) : (cellA c).size = 10 := id rfl
@[go_sem, simp] theorem cellD_size (c : Cell) : (cellD c).size = 10 := id rfl
@[go_sem, simp] theorem entA_size (e : Ent) : (entA e).size = 34 := by simp [entA, keyL_len, recL_len]
@[go_sem, simp] theorem entD_size (e : Ent) : (entD e).size = 34 := by simp [entD, keyDL_len, recDL_len]
@[go_sem, simp] theorem wrtA_size (x : Wr) : (wrtA x).size = 35 := by simp [wrtA, keyL_len, recL_len]
@[go_sem, simp] theorem wrtD_size (x : Wr) : (wrtD x).size = 35 := by simp [wrtD, keyDL_len, recDL_len]

/-! every value takes one cell -/
theorem one_keyL (k : K25) : ∀ v ∈ keyL k, v.oneCell' = true := by intro v hv; unfold keyL at hv; obtain ⟨b, _, rfl⟩ := List.mem_map.1 hv; rfl
theorem one_keyDL (k : K25) : ∀ v ∈ keyDL k, v.oneCell' = true := by
  intro v hv
  unfold keyDL at hv
  simp only [List.mem_cons] at hv
  rcases hv with rfl | rfl | rfl | hv
  · rfl
  · rfl
  · rfl
  · obtain ⟨b, _, rfl⟩ := List.mem_map.1 hv; rfl
theorem one_recL (r : Rec) : ∀ v ∈ recL r, v.oneCell' = true := by
  intro v hv
  simp only [recL, List.mem_cons, List.not_mem_nil, or_false] at hv
  rcases hv with rfl | rfl | rfl | rfl | rfl | rfl | rfl | rfl | rfl <;> rfl
theorem one_recDL (r : Rec) : ∀ v ∈ recDL r, v.oneCell' = true := by
  intro v hv
  simp only [recDL, List.mem_cons, List.not_mem_nil, or_false] at hv
  rcases hv with rfl | rfl | rfl | rfl | rfl | rfl | rfl | rfl | rfl <;> rfl
theorem allOne_list {l : List Value} (h : ∀ v ∈ l, v.oneCell' = true) : allOne l.toArray = true := by
  unfold allOne; rw [Array.all_eq_true_iff_forall_mem]; intro v hv; exact h v (by simpa using hv)
@[go_sem] theorem one_recA (r : Rec) : allOne (recA r) = true := allOne_list (one_recL r)
@[go_sem] theorem one_recD (r : Rec) : allOne (recD r) = true := allOne_list (one_recDL r)
@[go_sem] theorem one_cellA (c : Cell) : allOne (cellA c) = true := allOne_list (by intro v hv; rcases List.mem_cons.1 hv with rfl | hv; rfl; exact one_recL _ v hv)
@[go_sem] theorem one_cellD (c : Cell) : allOne (cellD c) = true := allOne_list (by intro v hv; rcases List.mem_cons.1 hv with rfl | hv; rfl; exact one_recDL _ v hv)
@[go_sem] theorem one_entA (e : Ent) : allOne (entA e) = true := allOne_list (by intro v hv; rcases List.mem_append.1 hv with hv | hv; exact one_keyL _ v hv; exact one_recL _ v hv)
@[go_sem] theorem one_entD (e : Ent) : allOne (entD e) = true := allOne_list (by intro v hv; rcases List.mem_append.1 hv with hv | hv; exact one_keyDL _ v hv; exact one_recDL _ v hv)
@[go_sem] theorem one_wrtA (x : Wr) : allOne (wrtA x) = true := allOne_list (by intro v hv; rcases List.mem_append.1 hv with hv | hv; exact one_keyL _ v hv; rcases List.mem_cons.1 hv with rfl | hv; rfl; exact one_recL _ v hv)
@[go_sem] theorem one_wrtD (x : Wr) : allOne (wrtD x) = true := allOne_list (by intro v hv; rcases List.mem_append.1 hv with hv | hv; exact one_keyDL _ v hv; rcases List.mem_cons.1 hv with rfl | hv; rfl; exact one_recDL _ v hv)
/-- a store of a whole row whose values take one cell each -/
@[go_sem] theorem run_rowStore_one {P : Program} {w : World} {t : TypeId} {n o : Nat} {vs : Array Value} (h1 : allOne vs = true) (ht : P.aggSize t = some vs.size) (hc : w.there? n o vs.size = true) :
    (rowStore t ⟨n, o, none⟩ (.agg vs)).run P w = .ok () (w.lay n o vs) := run_rowStore ht hc h1

/-! parts -/
theorem ext_list (l m : List Value) (n : Nat) (h : m.length = n) : ((m ++ l).toArray).extract n (n + l.length) = l.toArray := by
  apply Array.ext'
  simp [List.extract_eq_take_drop, ← h]
theorem ext_front (l m : List Value) (n : Nat) (h : m.length = n) : ((m ++ l).toArray).extract 0 n = m.toArray := by
  apply Array.ext'
  simp [List.extract_eq_take_drop, ← h]
theorem ext_mid (l m x : List Value) (n : Nat) (h : m.length = n) : ((m ++ x ++ l).toArray).extract n (n + x.length) = x.toArray := by
  apply Array.ext'
  simp [List.extract_eq_take_drop, ← h]
theorem keyL_row (k : K25) : (keyL k).toArray = row8 k.val := rfl
@[go_sem] theorem entA_key (e : Ent) : (entA e).extract 0 25 = row8 e.k.val := ext_front _ _ 25 (keyL_len _)
@[go_sem] theorem entA_rec (e : Ent) : (entA e).extract 25 34 = recA e.r := ext_list _ _ 25 (keyL_len _)
@[go_sem] theorem entA_all (e : Ent) : (entA e).extract 0 34 = entA e := by apply Array.extract_eq_self_of_le; simp
@[go_sem] theorem recA_all (r : Rec) : (recA r).extract 0 9 = recA r := by apply Array.extract_eq_self_of_le; simp
@[go_sem] theorem cellA_all (c : Cell) : (cellA c).extract 0 10 = cellA c := by apply Array.extract_eq_self_of_le; simp
@[go_sem] theorem cellA_rec (c : Cell) : (cellA c).extract 1 10 = recA c.r := ext_list (recL c.r) [.bool c.is_] 1 rfl
@[go_sem] theorem cellA_0 (c : Cell) : (cellA c)[0]? = some (.bool c.is_) := id rfl
@[go_sem, simp] theorem cellA_0E (c : Cell) (h : 0 < (cellA c).size) : (cellA c)[0]'h = .bool c.is_ := id rfl
@[go_sem] theorem wrtA_all (x : Wr) : (wrtA x).extract 0 35 = wrtA x := by apply Array.extract_eq_self_of_le; simp
@[go_sem] theorem wrtA_key (x : Wr) : (wrtA x).extract 0 25 = row8 x.k.val := ext_front _ _ 25 (keyL_len _)
@[go_sem] theorem wrtA_rec (x : Wr) : (wrtA x).extract 26 35 = recA x.r := by
  have := ext_list (recL x.r) (keyL x.k ++ [.bool x.dead]) 26 (by simp [keyL_len])
  rw [List.append_assoc] at this; exact this
@[go_sem] theorem wrtA_25 (x : Wr) : (wrtA x)[25]? = some (.bool x.dead) := by
  unfold wrtA
  rw [List.getElem?_toArray, List.getElem?_append_right (by simp [keyL_len])]; simp [keyL_len]
@[go_sem, simp] theorem wrtA_25E (x : Wr) (h : 25 < (wrtA x).size) : (wrtA x)[25]'h = .bool x.dead := by
  have := wrtA_25 x
  rw [Array.getElem?_eq_getElem h] at this
  exact Option.some.inj this
@[go_sem] theorem entA_33 (e : Ent) : (entA e)[33]? = some (.string (bs e.r.text.val)) := by
  unfold entA
  rw [List.getElem?_toArray, List.getElem?_append_right (by simp [keyL_len])]; simp [keyL_len, recL]
@[go_sem, simp] theorem entA_33E (e : Ent) (h : 33 < (entA e).size) : (entA e)[33]'h = .string (bs e.r.text.val) := by
  have := entA_33 e
  rw [Array.getElem?_eq_getElem h] at this
  exact Option.some.inj this
theorem entA_set33 (e : Ent) (t : Txt) : (entA e).setIfInBounds 33 (.string (bs t.val)) = entA ⟨e.k, { e.r with text := t }⟩ := by
  unfold entA
  rw [List.setIfInBounds_toArray]
  congr 1
  rw [List.set_append_right _ _ (by simp [keyL_len])]
  simp [keyL_len, recL]

/-! equality -/
theorem FitAll.cons {k : TypeDesc} {v : Value} {l : Lit} {ks : List TypeDesc} {vs : List Value} {ls : List Lit} (h : fits k v l) (hs : FitAll ks vs ls) : FitAll (k :: ks) (v :: vs) (l :: ls) := by
  refine ⟨by simp [hs.c], by simp [hs.l], fun i q u m h1 h2 h3 => ?_⟩
  cases i with
  | zero => simp at h1 h2 h3; subst h1 h2 h3; exact h
  | succ i => exact hs.at_ i q u m (by simpa using h1) (by simpa using h2) (by simpa using h3)
theorem FitAll.nil : FitAll [] [] [] := ⟨rfl, rfl, fun i _ _ _ h => by simp at h⟩
theorem FitAll.append {ks ks' : List TypeDesc} {vs vs' : List Value} {ls ls' : List Lit} (h : FitAll ks vs ls) (h' : FitAll ks' vs' ls') : FitAll (ks ++ ks') (vs ++ vs') (ls ++ ls') := by
  refine ⟨by simp [h.c, h'.c], by simp [h.l, h'.l], fun i q u m h1 h2 h3 => ?_⟩
  by_cases hi : i < ks.length
  · rw [List.getElem?_append_left hi] at h1
    rw [List.getElem?_append_left (by rw [h.c]; exact hi)] at h2
    rw [List.getElem?_append_left (by rw [h.l]; exact hi)] at h3
    exact h.at_ i q u m h1 h2 h3
  · rw [List.getElem?_append_right (by omega)] at h1
    rw [List.getElem?_append_right (by rw [h.c]; omega), h.c] at h2
    rw [List.getElem?_append_right (by rw [h.l]; omega), h.l] at h3
    exact h'.at_ _ q u m h1 h2 h3
theorem fit_u8 (b : UInt8) : fits (.int .u8) (.int .u8 b.toNat) (.int .u8 b.toNat) := by
  refine ⟨rfl, rfl, rfl, ?_⟩
  have := b.toNat_lt
  have e1 : IntKind.u8.min = 0 := rfl
  have e2 : IntKind.u8.max = 255 := rfl
  simp only [Lit.wf, e1, e2, Bool.and_eq_true, decide_eq_true_eq]
  omega
theorem fit_u8i (b : UInt8) : fits (.int .i64) (.int .i64 b.toNat) (.int .i64 b.toNat) := by
  refine ⟨rfl, rfl, rfl, ?_⟩
  have := b.toNat_lt
  have e1 : IntKind.i64.min = -9223372036854775808 := rfl
  have e2 : IntKind.i64.max = 9223372036854775807 := rfl
  simp only [Lit.wf, e1, e2, Bool.and_eq_true, decide_eq_true_eq]
  omega
theorem fit_u32 (b : UInt32) : fits (.int .u32) (.int .u32 b.toNat) (.int .u32 b.toNat) := by
  refine ⟨rfl, rfl, rfl, ?_⟩
  have := b.toNat_lt
  have e1 : IntKind.u32.min = 0 := rfl
  have e2 : IntKind.u32.max = 4294967295 := rfl
  simp only [Lit.wf, e1, e2, Bool.and_eq_true, decide_eq_true_eq]
  omega
theorem fit_u32L (b : UInt32) : fits (.int .u64) (.int .u64 b.toNat) (.int .u64 b.toNat) := by
  refine ⟨rfl, rfl, rfl, ?_⟩
  have := b.toNat_lt
  have e1 : IntKind.u64.min = 0 := rfl
  have e2 : IntKind.u64.max = 18446744073709551615 := rfl
  simp only [Lit.wf, e1, e2, Bool.and_eq_true, decide_eq_true_eq]
  omega
theorem fit_u64 (b : UInt64) : fits (.int .u64) (.int .u64 b.toNat) (.int .u64 b.toNat) := by
  refine ⟨rfl, rfl, rfl, ?_⟩
  have := b.toNat_lt
  have e1 : IntKind.u64.min = 0 := rfl
  have e2 : IntKind.u64.max = 18446744073709551615 := rfl
  simp only [Lit.wf, e1, e2, Bool.and_eq_true, decide_eq_true_eq]
  omega
theorem fit_str (t : Txt) : fits .string (.string (bs t.val)) (.string t.val) := by
  refine ⟨by simp [bs], ?_⟩
  rw [bs_size]; exact t.property
def recKs : List TypeDesc := [.int .u8, .int .u8, .int .u8, .int .u8, .int .u8, .bool, .int .u32, .int .u64, .string]
def recLs (r : Rec) : List Lit := [.int .u8 r.kind.toNat, .int .u8 r.state.toNat, .int .u8 r.user.toNat, .int .u8 r.parent.toNat, .int .u8 r.mask.toNat, .bool r.gone, .int .u32 r.rev.toNat, .int .u64 r.at_.toNat, .string r.text.val]
def recDKs : List TypeDesc := [.int .i64, .int .i64, .int .i64, .int .i64, .int .i64, .bool, .int .u64, .int .u64, .string]
def recDLs (r : Rec) : List Lit := [.int .i64 r.kind.toNat, .int .i64 r.state.toNat, .int .i64 r.user.toNat, .int .i64 r.parent.toNat, .int .i64 r.mask.toNat, .bool r.gone, .int .u64 r.rev.toNat, .int .u64 r.at_.toNat, .string r.text.val]
theorem rec_fit (r : Rec) : FitAll recKs (recL r) (recLs r) :=
  .cons (fit_u8 _) (.cons (fit_u8 _) (.cons (fit_u8 _) (.cons (fit_u8 _) (.cons (fit_u8 _) (.cons (show fits .bool _ _ from rfl) (.cons (fit_u32 _) (.cons (fit_u64 _) (.cons (fit_str _) .nil))))))))
theorem recD_fit (r : Rec) : FitAll recDKs (recDL r) (recDLs r) :=
  .cons (fit_u8i _) (.cons (fit_u8i _) (.cons (fit_u8i _) (.cons (fit_u8i _) (.cons (fit_u8i _) (.cons (show fits .bool _ _ from rfl) (.cons (fit_u32L _) (.cons (fit_u64 _) (.cons (fit_str _) .nil))))))))
def keyLs (k : K25) : List Lit := byteLits k.val
def keyDKs : List TypeDesc := .int .i64 :: .int .i64 :: .int .i64 :: byteKinds 22
def keyDLs (k : K25) : List Lit := .int .i64 (byt k.val 0).toNat :: .int .i64 (byt k.val 1).toNat :: .int .i64 (byt k.val 2).toNat :: byteLits (k.val.drop 3)
theorem key_fit (k : K25) : FitAll (byteKinds 25) (keyL k) (keyLs k) := by
  have := row8_fit k.val
  rw [K25.len] at this
  exact this
theorem keyD_fit (k : K25) : FitAll keyDKs (keyDL k) (keyDLs k) := by
  have := row8_fit (k.val.drop 3)
  rw [List.length_drop, K25.len] at this
  exact .cons (fit_u8i _) (.cons (fit_u8i _) (.cons (fit_u8i _) this))
theorem u8_inj {a b : UInt8} (h : (a.toNat : Int) = b.toNat) : a = b := UInt8.toNat_inj.1 (by omega)
theorem rec_inj {a b : Rec} (h : recLs a = recLs b) : a = b := by
  obtain ⟨a0, a1, a2, a3, a4, a5, a6, a7, ⟨a8, _⟩⟩ := a
  obtain ⟨b0, b1, b2, b3, b4, b5, b6, b7, ⟨b8, _⟩⟩ := b
  simp only [recLs, List.cons.injEq, Lit.int.injEq, Lit.bool.injEq, Lit.string.injEq, true_and, and_true] at h
  obtain ⟨h0, h1, h2, h3, h4, h5, h6, h7, h8⟩ := h
  obtain rfl := u8_inj h0; obtain rfl := u8_inj h1; obtain rfl := u8_inj h2; obtain rfl := u8_inj h3; obtain rfl := u8_inj h4
  obtain rfl : a6 = b6 := UInt32.toNat_inj.1 (by omega)
  obtain rfl : a7 = b7 := UInt64.toNat_inj.1 (by omega)
  subst h5 h8; rfl
theorem recD_inj {a b : Rec} (h : recDLs a = recDLs b) : a = b := by
  obtain ⟨a0, a1, a2, a3, a4, a5, a6, a7, ⟨a8, _⟩⟩ := a
  obtain ⟨b0, b1, b2, b3, b4, b5, b6, b7, ⟨b8, _⟩⟩ := b
  simp only [recDLs, List.cons.injEq, Lit.int.injEq, Lit.bool.injEq, Lit.string.injEq, true_and, and_true] at h
  obtain ⟨h0, h1, h2, h3, h4, h5, h6, h7, h8⟩ := h
  obtain rfl := u8_inj h0; obtain rfl := u8_inj h1; obtain rfl := u8_inj h2; obtain rfl := u8_inj h3; obtain rfl := u8_inj h4
  obtain rfl : a6 = b6 := UInt32.toNat_inj.1 (by omega)
  obtain rfl : a7 = b7 := UInt64.toNat_inj.1 (by omega)
  subst h5 h8; rfl
theorem key_inj {a b : K25} (h : keyLs a = keyLs b) : a = b := Subtype.ext (byteLits_inj h)
theorem K25.split (k : K25) : k.val = byt k.val 0 :: byt k.val 1 :: byt k.val 2 :: k.val.drop 3 := by
  obtain ⟨l, hl⟩ := k
  match l, hl with
  | a :: b :: c :: r, _ => rfl
theorem keyD_inj {a b : K25} (h : keyDLs a = keyDLs b) : a = b := by
  simp only [keyDLs, List.cons.injEq, Lit.int.injEq, true_and] at h
  obtain ⟨h0, h1, h2, h3⟩ := h
  apply Subtype.ext
  rw [K25.split a, K25.split b, u8_inj h0, u8_inj h1, u8_inj h2, byteLits_inj h3]
theorem eq_of_flat {P : Program} {t : TypeId} {ks : List TypeDesc} {α : Type} [DecidableEq α] {f : α → List Value} {g : α → List Lit} (ht : FlatType P t ks) (hf : ∀ a, FitAll ks (f a) (g a)) (hi : ∀ a b, g a = g b → a = b) (a b : α) (w : World) :
    (Op.equalIn 10000 t (.agg (f a).toArray) (.agg (f b).toArray)).run P w = .ok (decide (a = b)) w := by
  obtain ⟨r, h1, h2⟩ := flat_eq ht w (a := (f a).toArray) (b := (f b).toArray) (by simpa using hf a) (by simpa using hf b)
  rw [h1]
  congr 1
  rw [Bool.eq_iff_iff, h2, decide_eq_true_eq]
  exact ⟨hi a b, fun h => by rw [h]⟩
end Go.Proofs.YtjdccgmoldmlmaaDoor
