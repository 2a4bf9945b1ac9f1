/- Layer 16's law: the calls that it is handed. -/
import Derived.Test.YtbflpnkodpeggaaDoorKnown16
import Derived.Test.YtbflpnkodpeggaaDoorReadS
namespace Go.Proofs.YtbflpnkodpeggaaDoor
open Go.RowKit

structure Act16 where
  out : Bool
  owner : Int
  a : K25
  b : K25
def actL (x : Act16) : List Value := .bool x.out :: .int .i64 x.owner :: (keyL x.a ++ keyL x.b)
def actA (x : Act16) : Array Value := (actL x).toArray
@[go_sem, simp] theorem actA_size (x : Act16) : (actA x).size = 52 := by simp [actA, actL, keyL_len]
@[go_sem] theorem actA_all (x : Act16) : (actA x).extract 0 52 = actA x := by apply Array.extract_eq_self_of_le; simp
@[go_sem] theorem actA_0 (x : Act16) : (actA x)[0]? = some (.bool x.out) := rfl
@[go_sem] theorem actA_1 (x : Act16) : (actA x)[1]? = some (.int .i64 x.owner) := rfl
@[go_sem, simp] theorem actA_0E (x : Act16) (h : 0 < (actA x).size) : (actA x)[0]'h = .bool x.out := rfl
@[go_sem, simp] theorem actA_1E (x : Act16) (h : 1 < (actA x).size) : (actA x)[1]'h = .int .i64 x.owner := rfl
@[go_sem] theorem actA_a (x : Act16) : (actA x).extract 2 27 = row8 x.a.val := by
  have := ext_mid (keyL x.b) [.bool x.out, .int .i64 x.owner] (keyL x.a) 2 rfl
  rw [keyL_len] at this
  exact this
@[go_sem] theorem actA_b (x : Act16) : (actA x).extract 27 52 = row8 x.b.val := by
  have := ext_list (keyL x.b) (.bool x.out :: .int .i64 x.owner :: keyL x.a) 27 (by simp [keyL_len])
  rw [keyL_len] at this
  exact this
@[go_sem] theorem one_actA (x : Act16) : allOne (actA x) = true := allOne_list (by
  intro v hv
  rcases List.mem_cons.1 hv with rfl | hv
  · rfl
  rcases List.mem_cons.1 hv with rfl | hv
  · rfl
  rcases List.mem_append.1 hv with hv | hv <;> exact one_keyL _ v hv)
@[go_sem] theorem agg_act : Tryd.prog.aggSize 36 = some 52 := by kernel_rfl
@[go_sem ↓ high] theorem ld_act (a : Addr) : loadVar 36 a = rowLoad 36 a := rfl
@[go_sem ↓ high] theorem st_act (a : Addr) (v : Value) : storeVar 36 a v = rowStore 36 a v := rfl
def actKs : List CK := [CK.b] ++ ([CK.i .i64] ++ (List.replicate 25 (CK.i .u8) ++ List.replicate 25 (CK.i .u8)))
theorem act_fit (x : Array Value) (h : FitsAll actKs x.toList) : ∃ a, x = actA a := by
  obtain ⟨l1, r1, e1, h1, q1⟩ := FitsAll.split h
  obtain ⟨l2, r2, e2, h2, q2⟩ := FitsAll.split q1
  obtain ⟨l3, r3, e3, h3, q3⟩ := FitsAll.split q2
  obtain ⟨o, rfl⟩ := h1.bool
  obtain ⟨n, rfl, _⟩ := h2.int
  obtain ⟨a, rfl⟩ := h3.key
  obtain ⟨b, rfl⟩ := q3.key
  refine ⟨⟨o, n, a, b⟩, ?_⟩
  apply Array.ext'
  rw [e1, e2, e3]
  rfl
theorem acts_read {w : World} {v : Value} (h : Reads Tryd.prog w 22 v) : ∃ l : List Act16, SlA w w.heap.size 52 v (l.map actA) := by
  obtain ⟨xs, h1, h2⟩ := h.rows Tryd.underlying22 5 (ks := actKs) (by kernel_rfl) (by kernel_rfl) (by decide)
  obtain ⟨l, rfl⟩ := models (p := fun x => FitsAll actKs x.toList) act_fit xs h2
  exact ⟨l, h1⟩
theorem key_read {w : World} {v : Value} (h : Reads Tryd.prog w 30 v) : ∃ k : K25, v = .agg (row8 k.val) := by
  have hf := h.flat 5 (ks := List.replicate 25 (CK.i .u8)) (by kernel_rfl)
  obtain ⟨cs, rfl⟩ := h.agg Tryd.underlying30
  obtain ⟨k, hk⟩ := FitsAll.key hf
  refine ⟨k, congrArg Value.agg (Array.ext' ?_)⟩
  exact hk
end Go.Proofs.YtbflpnkodpeggaaDoor
