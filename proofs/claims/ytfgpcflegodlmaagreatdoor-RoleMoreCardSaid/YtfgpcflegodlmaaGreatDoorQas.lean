/- Layer 22: what a user may, in a store at a time. -/
import Derived.Test.YtfgpcflegodlmaaGreatDoorQal
import Derived.Test.YtfgpcflegodlmaaGreatDoorQah
import Derived.Test.YtfgpcflegodlmaaGreatDoorQar
import Derived.Handy
namespace Go.Proofs.YtfgpcflegodlmaaGreatDoor
set_option maxRecDepth 100000
open Go.RowKit

/-- a store at a time, as a reader -/
def snapI (s : Nat) (t : UInt64) : Value := .iface 63 (.agg #[.pointer (some ⟨s, 0, none⟩), .int .u64 t.toNat])
def roleOf (f : K25 → List Ver) (t : UInt64) (p u : UInt8) : Int × Bool :=
  if (atV (f (keyK 1 p 0)) t).2 = true then
    (if (atV (f (keyK 1 p 0)) t).1.user = u then (63, true) else ((atV (f (keyK 2 p u)) t).1.mask.toNat, true))
  else (0, false)
def roleChk (f : K25 → List Ver) (t : UInt64) (p u : UInt8) (a : Int) : Int :=
  if 1 ≤ a ∧ a ≤ 16 then (if a = 1 then 0 else if (roleOf f t p u).2 = true then (if mayB (roleOf f t p u).1 a = true then 0 else 10) else 7) else 16
theorem keyOf_p (p : UInt8) (hp : p.toNat < 4) : keyOf 1 p.toNat 0 (zeros 12) (zeros 10) = (keyK 1 p 0).val ∧ keyErr 1 p.toNat 0 (zeros 12) (zeros 10) = 0 := by
  have h : ∀ p < 4, keyOf 1 ((UInt8.ofNat p).toNat : Int) 0 (zeros 12) (zeros 10) = (keyK 1 (UInt8.ofNat p) 0).val ∧ keyErr 1 ((UInt8.ofNat p).toNat : Int) 0 (zeros 12) (zeros 10) = 0 := by decide +kernel
  have := h p.toNat hp
  rwa [UInt8.ofNat_toNat] at this
theorem keyOf_g (p u : UInt8) (hp : p.toNat < 4) (hu : u.toNat < 16) : keyOf 2 p.toNat u.toNat (zeros 12) (zeros 10) = (keyK 2 p u).val ∧ keyErr 2 p.toNat u.toNat (zeros 12) (zeros 10) = 0 := by
  have h : ∀ p < 4, ∀ u < 16, keyOf 2 ((UInt8.ofNat p).toNat : Int) ((UInt8.ofNat u).toNat : Int) (zeros 12) (zeros 10) = (keyK 2 (UInt8.ofNat p) (UInt8.ofNat u)).val ∧ keyErr 2 ((UInt8.ofNat p).toNat : Int) ((UInt8.ofNat u).toNat : Int) (zeros 12) (zeros 10) = 0 := by decide +kernel
  have := h p.toNat hp u.toNat hu
  rwa [UInt8.ofNat_toNat, UInt8.ofNat_toNat] at this
theorem wrap_u8 (x : UInt8) : wrap64 (x.toNat : Int) = x.toNat := by
  have h : ∀ n < 256, wrap64 ((n : Nat) : Int) = n := by decide +kernel
  exact h _ x.toNat_lt
section
variable {w : World} {B s : Nat} {G : SG}
theorem snapRead_gives (h : StoreAt w B s G) (hs : Short G 100000) (k : K25) (t : UInt64) : Gives Tryz.prog 215 #[.agg #[.pointer (some ⟨s, 0, none⟩), .int .u64 t.toNat], .agg (row8 k.val)] w (.tuple #[.agg (recA (atV (versG G k) t).1), .bool (atV (versG G k) t).2]) := by
  have HN := Lib.hid (fun (W : World) (hb : Below w.heap.size w W) => sread_gives (h.keep hb) hs k t)
  clear h hs
  generalize (atV (versG G k) t).1 = r at *
  generalize (atV (versG G k) t).2 = b at *
  generalize t.toNat = tn at *
  unfold Gives
  go_enter Tryz.func215, Tryz.ntmps215
  go_wp2_with fail
  refine Gives.use (HN.out _ (by repeat (first | exact below_of_grow _ _ | exact Below.refl _ _ | exact below_more _ _ _ _ | (simp only [← Array.append_assoc]; first | exact below_more _ _ _ _ | exact below_same _ _ _ | exact Below.refl _ _) | exact below_same _ _ _ | (refine Below.alloc ?_ (by first | (simp; done) | (simp; omega)) _) | (refine Below.grow ?_ (by first | (simp; done) | (simp; omega)) _ _) | refine Below.drew ?_ | refine Below.drewN ?_ _ | (refine Below.putF ?_ (by first | (simp; done) | omega | (simp; omega)) _) | (refine Below.setCell ?_ (by first | (simp; done) | (simp; omega)) _)))) ?_
  intro xs1 d1
  go_wp2_with fail
  exact bodyPost_ret (v := .tuple #[.agg (recA r), .bool b]) (results_two Tryz.results215 (ResIs.row rfl agg_rec (by simp [go_sem])) (by simp [ResIs])) rfl ⟨rfl, (by repeat (first | exact below_of_grow _ _ | exact Below.refl _ _ | exact below_more _ _ _ _ | (simp only [← Array.append_assoc]; first | exact below_more _ _ _ _ | exact below_same _ _ _ | exact Below.refl _ _) | exact below_same _ _ _ | (refine Below.alloc ?_ (by first | (simp; done) | (simp; omega)) _) | (refine Below.grow ?_ (by first | (simp; done) | (simp; omega)) _ _) | refine Below.drew ?_ | refine Below.drewN ?_ _ | (refine Below.putF ?_ (by first | (simp; done) | omega | (simp; omega)) _) | (refine Below.setCell ?_ (by first | (simp; done) | (simp; omega)) _)))⟩
set_option maxHeartbeats 8000000 in
theorem roleOf_gives (h : StoreAt w B s G) (hs : Short G 100000) (t : UInt64) (p u : UInt8) (hp : p.toNat < 4) (hu : u.toNat < 16) :
    Gives Tryz.prog 32 #[snapI s t, .int .i64 p.toNat, .int .i64 u.toNat] w (.tuple #[.int .i64 (roleOf (versG G) t p u).1, .bool (roleOf (versG G) t p u).2]) := by
  have hk1 := keyOf_gives 1 p.toNat 0 (zeros 12) (zeros 10) (by simp [zeros]) (by simp [zeros])
  have hk2 := keyOf_gives 2 p.toNat u.toNat (zeros 12) (zeros 10) (by simp [zeros]) (by simp [zeros])
  rw [(keyOf_p p hp).1, (keyOf_p p hp).2] at hk1
  rw [(keyOf_g p u hp hu).1, (keyOf_g p u hp hu).2] at hk2
  have HK1 := Lib.hid hk1
  have HK2 := Lib.hid hk2
  have hr1 := fun (W : World) (hb : Below w.heap.size w W) => snapRead_gives (h.keep hb) hs (keyK 1 p 0) t
  have hr2 := fun (W : World) (hb : Below w.heap.size w W) => snapRead_gives (h.keep hb) hs (keyK 2 p u) t
  have hro : roleOf (versG G) t p u = if (atV (versG G (keyK 1 p 0)) t).2 = true then (if (atV (versG G (keyK 1 p 0)) t).1.user = u then ((63 : Int), true) else (((atV (versG G (keyK 2 p u)) t).1.mask.toNat : Int), true)) else ((0 : Int), false) := rfl
  generalize roleOf (versG G) t p u = ro at *
  generalize (atV (versG G (keyK 1 p 0)) t).2 = b1 at *
  generalize (atV (versG G (keyK 1 p 0)) t).1 = r1 at *
  generalize (atV (versG G (keyK 2 p u)) t).1 = r2 at *
  generalize (atV (versG G (keyK 2 p u)) t).2 = b2 at *
  have HR1 := Lib.hid hr1
  have HR2 := Lib.hid hr2
  have p0 : ¬ ((p.toNat : Int) < 0) := by omega
  have p4 : ¬ (4 ≤ (p.toNat : Int)) := by omega
  have u0 : ¬ ((u.toNat : Int) < 0) := by omega
  have u16 : ¬ (16 ≤ (u.toNat : Int)) := by omega
  unfold snapI
  clear hk1 hk2 hr1 hr2 h hs hp hu
  generalize t.toNat = tn at *
  cases b1 with
  | false =>
    rw [if_neg (by decide)] at hro
    subst hro
    unfold Gives
    go_enter Tryz.func32, Tryz.ntmps32
    go_wp2_with fail
    refine Gives.use (HK1.out _) ?_
    intro xs0 d0
    go_wp2_with fail
    refine Gives.use (HR1.out _ (by repeat (first | exact below_of_grow _ _ | exact Below.refl _ _ | exact below_more _ _ _ _ | (simp only [← Array.append_assoc]; first | exact below_more _ _ _ _ | exact below_same _ _ _ | exact Below.refl _ _) | exact below_same _ _ _ | (refine Below.alloc ?_ (by first | (simp; done) | (simp; omega)) _) | (refine Below.grow ?_ (by first | (simp; done) | (simp; omega)) _ _) | refine Below.drew ?_ | refine Below.drewN ?_ _ | (refine Below.putF ?_ (by first | (simp; done) | omega | (simp; omega)) _) | (refine Below.setCell ?_ (by first | (simp; done) | (simp; omega)) _)))) ?_
    intro xs1 d1
    go_wp2_with fail
    exact bodyPost_ret (v := .tuple #[.int .i64 0, .bool false]) (by simp [results, Tryz.results32, go_sem]) rfl ⟨rfl, (by repeat (first | exact below_of_grow _ _ | exact Below.refl _ _ | exact below_more _ _ _ _ | (simp only [← Array.append_assoc]; first | exact below_more _ _ _ _ | exact below_same _ _ _ | exact Below.refl _ _) | exact below_same _ _ _ | (refine Below.alloc ?_ (by first | (simp; done) | (simp; omega)) _) | (refine Below.grow ?_ (by first | (simp; done) | (simp; omega)) _ _) | refine Below.drew ?_ | refine Below.drewN ?_ _ | (refine Below.putF ?_ (by first | (simp; done) | omega | (simp; omega)) _) | (refine Below.setCell ?_ (by first | (simp; done) | (simp; omega)) _)))⟩
  | true =>
    rw [if_pos rfl] at hro
    by_cases hu2 : r1.user = u
    · rw [if_pos hu2] at hro
      subst hro
      have hq : ((r1.user.toNat : Int) == (u.toNat : Int)) = true := by rw [hu2]; simp
      have hw1 := wrap_u8 r1.user
      clear hu2
      unfold Gives
      go_enter Tryz.func32, Tryz.ntmps32
      go_wp2_with fail
      refine Gives.use (HK1.out _) ?_
      intro xs0 d0
      go_wp2_with fail
      refine Gives.use (HR1.out _ (by repeat (first | exact below_of_grow _ _ | exact Below.refl _ _ | exact below_more _ _ _ _ | (simp only [← Array.append_assoc]; first | exact below_more _ _ _ _ | exact below_same _ _ _ | exact Below.refl _ _) | exact below_same _ _ _ | (refine Below.alloc ?_ (by first | (simp; done) | (simp; omega)) _) | (refine Below.grow ?_ (by first | (simp; done) | (simp; omega)) _ _) | refine Below.drew ?_ | refine Below.drewN ?_ _ | (refine Below.putF ?_ (by first | (simp; done) | omega | (simp; omega)) _) | (refine Below.setCell ?_ (by first | (simp; done) | (simp; omega)) _)))) ?_
      intro xs1 d1
      go_wp2_with fail
      exact bodyPost_ret (v := .tuple #[.int .i64 63, .bool true]) (by simp [results, Tryz.results32, go_sem]) rfl ⟨rfl, (by repeat (first | exact below_of_grow _ _ | exact Below.refl _ _ | exact below_more _ _ _ _ | (simp only [← Array.append_assoc]; first | exact below_more _ _ _ _ | exact below_same _ _ _ | exact Below.refl _ _) | exact below_same _ _ _ | (refine Below.alloc ?_ (by first | (simp; done) | (simp; omega)) _) | (refine Below.grow ?_ (by first | (simp; done) | (simp; omega)) _ _) | refine Below.drew ?_ | refine Below.drewN ?_ _ | (refine Below.putF ?_ (by first | (simp; done) | omega | (simp; omega)) _) | (refine Below.setCell ?_ (by first | (simp; done) | (simp; omega)) _)))⟩
    · rw [if_neg hu2] at hro
      subst hro
      have hq : ((r1.user.toNat : Int) == (u.toNat : Int)) = false := by
        rw [beq_eq_false_iff_ne]
        exact fun e => hu2 (UInt8.toNat_inj.1 (by omega))
      have hw1 := wrap_u8 r1.user
      have hw2 := wrap_u8 r2.mask
      clear hu2
      unfold Gives
      go_enter Tryz.func32, Tryz.ntmps32
      go_wp2_with fail
      refine Gives.use (HK1.out _) ?_
      intro xs0 d0
      go_wp2_with fail
      refine Gives.use (HR1.out _ (by repeat (first | exact below_of_grow _ _ | exact Below.refl _ _ | exact below_more _ _ _ _ | (simp only [← Array.append_assoc]; first | exact below_more _ _ _ _ | exact below_same _ _ _ | exact Below.refl _ _) | exact below_same _ _ _ | (refine Below.alloc ?_ (by first | (simp; done) | (simp; omega)) _) | (refine Below.grow ?_ (by first | (simp; done) | (simp; omega)) _ _) | refine Below.drew ?_ | refine Below.drewN ?_ _ | (refine Below.putF ?_ (by first | (simp; done) | omega | (simp; omega)) _) | (refine Below.setCell ?_ (by first | (simp; done) | (simp; omega)) _)))) ?_
      intro xs1 d1
      go_wp2_with fail
      refine Gives.use (HK2.out _) ?_
      intro xs2 d2
      go_wp2_with fail
      refine Gives.use (HR2.out _ (by repeat (first | exact below_of_grow _ _ | exact Below.refl _ _ | exact below_more _ _ _ _ | (simp only [← Array.append_assoc]; first | exact below_more _ _ _ _ | exact below_same _ _ _ | exact Below.refl _ _) | exact below_same _ _ _ | (refine Below.alloc ?_ (by first | (simp; done) | (simp; omega)) _) | (refine Below.grow ?_ (by first | (simp; done) | (simp; omega)) _ _) | refine Below.drew ?_ | refine Below.drewN ?_ _ | (refine Below.putF ?_ (by first | (simp; done) | omega | (simp; omega)) _) | (refine Below.setCell ?_ (by first | (simp; done) | (simp; omega)) _)))) ?_
      intro xs3 d3
      go_wp2_with fail
      exact bodyPost_ret (v := .tuple #[.int .i64 r2.mask.toNat, .bool true]) (by simp [results, Tryz.results32, go_sem, hw2]) rfl ⟨rfl, (by repeat (first | exact below_of_grow _ _ | exact Below.refl _ _ | exact below_more _ _ _ _ | (simp only [← Array.append_assoc]; first | exact below_more _ _ _ _ | exact below_same _ _ _ | exact Below.refl _ _) | exact below_same _ _ _ | (refine Below.alloc ?_ (by first | (simp; done) | (simp; omega)) _) | (refine Below.grow ?_ (by first | (simp; done) | (simp; omega)) _ _) | refine Below.drew ?_ | refine Below.drewN ?_ _ | (refine Below.putF ?_ (by first | (simp; done) | omega | (simp; omega)) _) | (refine Below.setCell ?_ (by first | (simp; done) | (simp; omega)) _)))⟩
set_option maxHeartbeats 8000000 in
theorem roleChk_gives (h : StoreAt w B s G) (hs : Short G 100000) (t : UInt64) (p u : UInt8) (hp : p.toNat < 4) (hu : u.toNat < 16) (a : Int) (ha : 1 ≤ a ∧ a ≤ 16) :
    Gives Tryz.prog 21 #[snapI s t, .int .i64 p.toNat, .int .i64 u.toNat, .int .i64 a] w (.int .i64 (roleChk (versG G) t p u a)) := by
  have HI := Lib.hid (is_yes a ha)
  have hof := fun (W : World) (hb : Below w.heap.size w W) => roleOf_gives (h.keep hb) hs t p u hp hu
  have HM := Lib.hid (may_gives (roleOf (versG G) t p u).1 a)
  have hc : roleChk (versG G) t p u a = (if a = 1 then 0 else if (roleOf (versG G) t p u).2 = true then (if mayB (roleOf (versG G) t p u).1 a = true then 0 else 10) else 7) := by unfold roleChk; rw [if_pos ha]
  generalize roleChk (versG G) t p u a = e at *
  generalize (roleOf (versG G) t p u).1 = m at *
  generalize (roleOf (versG G) t p u).2 = b at *
  generalize mayB m a = mb at *
  have HOF := Lib.hid hof
  have p0 : ¬ ((p.toNat : Int) < 0) := by omega
  have p4 : ¬ (4 ≤ (p.toNat : Int)) := by omega
  have u0 : ¬ ((u.toNat : Int) < 0) := by omega
  have u16 : ¬ (16 ≤ (u.toNat : Int)) := by omega
  unfold snapI at *
  clear hof h hs hp hu
  generalize t.toNat = tn at *
  by_cases h1 : a = 1
  · rw [if_pos h1] at hc
    subst hc
    subst h1
    unfold Gives
    go_enter Tryz.func21, Tryz.ntmps21
    go_wp2_with fail
    refine Gives.use (HI.out _) ?_
    intro xs0 d0
    go_wp2_with fail
    go_ret
    exact ⟨rfl, (by repeat (first | exact below_of_grow _ _ | exact Below.refl _ _ | exact below_more _ _ _ _ | (simp only [← Array.append_assoc]; first | exact below_more _ _ _ _ | exact below_same _ _ _ | exact Below.refl _ _) | exact below_same _ _ _ | (refine Below.alloc ?_ (by first | (simp; done) | (simp; omega)) _) | (refine Below.grow ?_ (by first | (simp; done) | (simp; omega)) _ _) | refine Below.drew ?_ | refine Below.drewN ?_ _ | (refine Below.putF ?_ (by first | (simp; done) | omega | (simp; omega)) _) | (refine Below.setCell ?_ (by first | (simp; done) | (simp; omega)) _)))⟩
  · rw [if_neg h1] at hc
    cases b
    all_goals
      cases mb
      all_goals
        simp only [if_true, if_false, Bool.false_eq_true] at hc
        subst hc
        unfold Gives
        go_enter Tryz.func21, Tryz.ntmps21
        go_wp2_with fail
        refine Gives.use (HI.out _) ?_
        intro xs0 d0
        go_wp2_with fail
        refine Gives.use (HOF.out _ (by repeat (first | exact below_of_grow _ _ | exact Below.refl _ _ | exact below_more _ _ _ _ | (simp only [← Array.append_assoc]; first | exact below_more _ _ _ _ | exact below_same _ _ _ | exact Below.refl _ _) | exact below_same _ _ _ | (refine Below.alloc ?_ (by first | (simp; done) | (simp; omega)) _) | (refine Below.grow ?_ (by first | (simp; done) | (simp; omega)) _ _) | refine Below.drew ?_ | refine Below.drewN ?_ _ | (refine Below.putF ?_ (by first | (simp; done) | omega | (simp; omega)) _) | (refine Below.setCell ?_ (by first | (simp; done) | (simp; omega)) _)))) ?_
        intro xs1 d1
        go_wp2_with fail
        all_goals first
          | (go_ret; exact ⟨rfl, (by repeat (first | exact below_of_grow _ _ | exact Below.refl _ _ | exact below_more _ _ _ _ | (simp only [← Array.append_assoc]; first | exact below_more _ _ _ _ | exact below_same _ _ _ | exact Below.refl _ _) | exact below_same _ _ _ | (refine Below.alloc ?_ (by first | (simp; done) | (simp; omega)) _) | (refine Below.grow ?_ (by first | (simp; done) | (simp; omega)) _ _) | refine Below.drew ?_ | refine Below.drewN ?_ _ | (refine Below.putF ?_ (by first | (simp; done) | omega | (simp; omega)) _) | (refine Below.setCell ?_ (by first | (simp; done) | (simp; omega)) _)))⟩)
          | (refine Gives.use (HM.out _) ?_; intro xs2 d2; go_wp2_with fail; go_ret; exact ⟨rfl, (by repeat (first | exact below_of_grow _ _ | exact Below.refl _ _ | exact below_more _ _ _ _ | (simp only [← Array.append_assoc]; first | exact below_more _ _ _ _ | exact below_same _ _ _ | exact Below.refl _ _) | exact below_same _ _ _ | (refine Below.alloc ?_ (by first | (simp; done) | (simp; omega)) _) | (refine Below.grow ?_ (by first | (simp; done) | (simp; omega)) _ _) | refine Below.drew ?_ | refine Below.drewN ?_ _ | (refine Below.putF ?_ (by first | (simp; done) | omega | (simp; omega)) _) | (refine Below.setCell ?_ (by first | (simp; done) | (simp; omega)) _)))⟩)
end
end Go.Proofs.YtfgpcflegodlmaaGreatDoor
namespace Go.Proofs.YtfgpcflegodlmaaGreatDoor
set_option maxRecDepth 100000
open Go.RowKit

def recP (a : UInt8) : Rec := { Rec.zero with kind := 1, user := a }
def recG (m : UInt8) : Rec := { Rec.zero with kind := 2, mask := m }
def wP (p a : UInt8) : Wr := ⟨keyK 1 p 0, false, recP a⟩
def wG (p b m : UInt8) : Wr := ⟨keyK 2 p b, false, recG m⟩
theorem byte_all {P : UInt8 → Prop} {n : Nat} (h : ∀ k < n, P (UInt8.ofNat k)) (x : UInt8) (hx : x.toNat < n) : P x := by
  have := h x.toNat hx
  rwa [UInt8.ofNat_toNat] at this
theorem keyP_right : ∀ p : UInt8, p.toNat < 4 → keyRight (keyK 1 p 0).val = true := byte_all (by decide +kernel)
theorem keyG_right : ∀ p b : UInt8, p.toNat < 4 → b.toNat < 16 → keyRight (keyK 2 p b).val = true := by
  have h : ∀ p < 4, ∀ b < 16, keyRight (keyK 2 (UInt8.ofNat p) (UInt8.ofNat b)).val = true := by decide +kernel
  intro p b hp hb
  have := h p.toNat hp b.toNat hb
  rwa [UInt8.ofNat_toNat, UInt8.ofNat_toNat] at this
theorem recP_e : ∀ a : UInt8, a.toNat < 16 → recE (recP a) = 0 := byte_all (by decide +kernel)
theorem recG_e : ∀ m : UInt8, m.toNat < 64 → m ≠ 0 → recE (recG m) = 0 := by
  have h : ∀ k < 64, UInt8.ofNat k ≠ 0 → recE (recG (UInt8.ofNat k)) = 0 := by decide +kernel
  exact byte_all h
theorem check_one (x : Wr) (h : rightE x = 0) : checkE [x] = 0 := by
  unfold checkE chkL
  simp [h, chkL]
theorem checkP (p a : UInt8) (hp : p.toNat < 4) (ha : a.toNat < 16) : checkE [wP p a] = 0 := by
  refine check_one _ ?_
  unfold rightE wP
  simp only
  rw [if_pos (keyP_right p hp), if_neg (by decide), if_pos (recP_e a ha), if_pos]
  rfl
theorem checkG (p b m : UInt8) (hp : p.toNat < 4) (hb : b.toNat < 16) (hm : m.toNat < 64) (h0 : m ≠ 0) : checkE [wG p b m] = 0 := by
  refine check_one _ ?_
  unfold rightE wG
  simp only
  rw [if_pos (keyG_right p b hp hb), if_neg (by decide), if_pos (recG_e m hm h0), if_pos]
  rfl
theorem pub_ok (f : K25 → List Ver) (live : Int) (x : Wr) (h : checkE [x] = 0) (hl : live ≤ 100) : pubE f live [x] = 0 := by
  unfold pubE
  have := moreI_bound f [x] 0
  rw [if_pos h, if_neg]
  unfold moreI
  simp at this ⊢
  omega
theorem at_new (a t : UInt64) (f : K25 → List Ver) (x : Wr) (h : a ≤ t) (hd : x.dead = false) (hk : x.r.kind ≠ 4) : atV (applyL a f [x] x.k) t = (x.r, true) := by
  rw [applyL_one a [x] f (by simp) x List.mem_cons_self, atV_last _ _ _ (show (verOf a x).at_ ≤ t from h)]
  have e1 : (verOf a x).dead = false := hd
  have e2 : (verOf a x).r = x.r := by
    show fixR a x = x.r
    unfold fixR
    rw [if_neg (fun h => hk h.1)]
  rw [e1, e2]; rfl
theorem at_old (a t : UInt64) (f : K25 → List Ver) (x : Wr) (k : K25) (h : x.k ≠ k) : atV (applyL a f [x] k) t = atV (f k) t := by
  rw [applyL_other a [x] f k (fun y hy => by rw [List.mem_singleton.1 hy]; exact h)]
theorem keys_ne (p b : UInt8) : keyK 2 p b ≠ keyK 1 p 0 := by
  intro h
  have := congrArg (fun k : K25 => byt k.val 0) h
  have h2 : (2 : UInt8) = 1 := this
  exact absurd h2 (by decide)
def fA (p a : UInt8) : K25 → List Ver := applyL 1 f0 [wP p a]
def fB (p a b m : UInt8) : K25 → List Ver := applyL 2 (fA p a) [wG p b m]
def fC (p a b m n : UInt8) : K25 → List Ver := applyL 3 (fB p a b m) [wG p b n]
theorem le9 : (1 : UInt64) ≤ 9 ∧ (2 : UInt64) ≤ 9 ∧ (3 : UInt64) ≤ 9 := by decide
theorem atA (p a : UInt8) : atV (fA p a (keyK 1 p 0)) 9 = (recP a, true) := at_new 1 9 f0 (wP p a) le9.1 rfl (by show (1 : UInt8) ≠ 4; decide)
theorem atA0 (p a b : UInt8) : atV (fA p a (keyK 2 p b)) 9 = (Rec.zero, false) := at_old 1 9 f0 (wP p a) (keyK 2 p b) (keys_ne p b).symm
theorem atB (p a b m : UInt8) : atV (fB p a b m (keyK 1 p 0)) 9 = (recP a, true) := (at_old 2 9 (fA p a) (wG p b m) (keyK 1 p 0) (keys_ne p b)).trans (atA p a)
theorem atBg (p a b m : UInt8) : atV (fB p a b m (keyK 2 p b)) 9 = (recG m, true) := at_new 2 9 (fA p a) (wG p b m) le9.2.1 rfl (by show (2 : UInt8) ≠ 4; decide)
theorem atC (p a b m n : UInt8) : atV (fC p a b m n (keyK 1 p 0)) 9 = (recP a, true) := (at_old 3 9 (fB p a b m) (wG p b n) (keyK 1 p 0) (keys_ne p b)).trans (atB p a b m)
theorem atCg (p a b m n : UInt8) : atV (fC p a b m n (keyK 2 p b)) 9 = (recG n, true) := at_new 3 9 (fB p a b m) (wG p b n) le9.2.2 rfl (by show (2 : UInt8) ≠ 4; decide)
theorem ofMk {f : K25 → List Ver} {t : UInt64} {p a u : UInt8} {r : Rec} {q : Bool} (h1 : atV (f (keyK 1 p 0)) t = (recP a, true)) (h2 : atV (f (keyK 2 p u)) t = (r, q)) : roleOf f t p u = if a = u then (63, true) else ((r.mask.toNat : Int), true) := by
  unfold roleOf
  rw [h1, h2]
  rw [if_pos rfl]
  rfl
/-- an act may be done -/
def mayA (a b m : UInt8) (act : Int) : Bool := if a = b then true else mayB m.toNat act
theorem may63 (act : Int) (h : 1 ≤ act ∧ act ≤ 16) : mayB 63 act = true := by
  have : ∀ k < 17, 1 ≤ k → mayB 63 ((k : Nat) : Int) = true := by decide +kernel
  have := this act.toNat (by omega) (by omega)
  rwa [show ((act.toNat : Nat) : Int) = act by omega] at this
theorem may0 (act : Int) (h : 1 ≤ act ∧ act ≤ 16) : mayB 0 act = decide (need act = 0) := by
  have : ∀ k < 17, 1 ≤ k → mayB 0 ((k : Nat) : Int) = decide (need ((k : Nat) : Int) = 0) := by decide +kernel
  have := this act.toNat (by omega) (by omega)
  rwa [show ((act.toNat : Nat) : Int) = act by omega] at this
theorem may1 (m : UInt8) (h : m.toNat < 64) : mayB m.toNat 1 = true := by
  have : ∀ k < 64, mayB ((k : Nat) : Int) 1 = true := by decide +kernel
  exact this _ h
theorem need1 : need 1 = 0 := by decide
theorem chk_of {f : K25 → List Ver} {t : UInt64} {p a u : UInt8} {r : Rec} {q : Bool} (h1 : atV (f (keyK 1 p 0)) t = (recP a, true)) (h2 : atV (f (keyK 2 p u)) t = (r, q)) (hm : r.mask.toNat < 64) (act : Int) (h : 1 ≤ act ∧ act ≤ 16) :
    roleChk f t p u act = if mayA a u r.mask act = true then 0 else 10 := by
  unfold roleChk
  rw [if_pos h, ofMk h1 h2]
  unfold mayA
  by_cases h1 : act = 1
  · subst h1
    rw [if_pos rfl]
    rw [may1 _ hm]
    by_cases hau : a = u
    · rw [if_pos hau, if_pos rfl]
    · rw [if_neg hau, if_pos rfl]
  · rw [if_neg h1]
    by_cases hau : a = u
    · rw [if_pos hau, if_pos hau, if_pos rfl, may63 act h, if_pos rfl]
    · rw [if_neg hau, if_neg hau, if_pos rfl]
theorem or_and_keep (m k d : Nat) (h : m &&& d = d) : (m ||| k) &&& d = d := by
  apply Nat.eq_of_testBit_eq
  intro i
  have := congrArg (fun x => x.testBit i) h
  simp only [Nat.testBit_and, Nat.testBit_or] at this ⊢
  cases hm : m.testBit i <;> cases hd : d.testBit i <;> simp_all
theorem mayA_more (a b m n : UInt8) (k : Nat) (act : Int) (hn : n.toNat = m.toNat ||| k) (hn64 : n.toNat < 64) (h : mayA a b m act = true) : mayA a b n act = true := by
  unfold mayA at *
  by_cases hab : a = b
  · rw [if_pos hab]
  · rw [if_neg hab] at h ⊢
    unfold mayB at h ⊢
    simp only [decide_eq_true_eq] at h ⊢
    refine ⟨h.1, h.2.1, by omega, by omega, ?_⟩
    have := h.2.2.2.2
    simp only [Int.toNat_natCast] at this ⊢
    rw [hn]
    exact or_and_keep _ _ _ this
end Go.Proofs.YtfgpcflegodlmaaGreatDoor
