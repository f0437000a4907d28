/- Classes: Parse. -/
import Derived.Test.YtglknnncpaggpaaDoorClsF
import Derived.Deep.LoopGhost
import Derived.Deep.RegionHeld3
namespace Go.Proofs.YtglknnncpaggpaaDoor
open Go.RowKit

def shiftR {α : Type} (i : Nat) : R α → R α
  | .ok a n => .ok a (i + n)
  | .bad n => .bad (i + n)
def ParsePost (s : ByteArray) (r : R Cls) (w : World) (e : Ending) (w' : World) : Prop :=
  Fr [] w w' ∧ match r with
  | .ok c n => e = .returned (.tuple #[c.val, .int .i64 n, .nilIface])
  | .bad n => ∃ v, e = .returned (.tuple #[cls0.val, .int .i64 0, v]) ∧ FaultAt w.heap.size w' v (codeAt s n) (n : Int)
theorem spanW_lt (lo hi i : Int) : spanW lo hi i < 18446744073709551616 := by
  unfold spanW
  simp only
  split
  · exact Nat.mod_lt _ (by decide)
  · decide
theorem span_wf (lo hi : Int) : (spanC lo hi).wf := ⟨spanW_lt _ _ _, spanW_lt _ _ _, spanW_lt _ _ _, spanW_lt _ _ _⟩
theorem either_wf {x y : Cls} (hx : x.wf) (hy : y.wf) : (eitherC x y).wf := by
  obtain ⟨a, b, c, d⟩ := hx
  obtain ⟨a', b', c', d'⟩ := hy
  exact ⟨Nat.or_lt_two_pow (n := 64) a a', Nat.or_lt_two_pow (n := 64) b b', Nat.or_lt_two_pow (n := 64) c c', Nat.or_lt_two_pow (n := 64) d d'⟩

def PInv (s : ByteArray) (w : World) (g0 g1 g2 : Nat) (fin : R Cls) (k : Nat) (wr : World) : Prop :=
  ∃ (acc : Cls) (i : Nat), i ≤ s.size ∧ acc.wf ∧ Fr [] w wr ∧ Blk wr g0 cls0.cells 38 ∧ Blk wr g1 acc.cells 38 ∧ Rd wr g2 s i ∧
    s.size - i < k ∧ shiftR i (membersC k acc (s.data.toList.drop i)) = fin

theorem start3 (s : ByteArray) (w : World) : ∃ W, W = (((w.alloc (.cells #[.int .u64 0, .int .u64 0, .int .u64 0, .int .u64 0] 38)).alloc (.cells #[.int .u64 0, .int .u64 0, .int .u64 0, .int .u64 0] 38)).alloc (.cells #[.string s, .int .i64 0] 167)) ∧
    Fr [] w W ∧ Blk W w.heap.size cls0.cells 38 ∧ Blk W (w.heap.size + 1) cls0.cells 38 ∧ Rd W (w.heap.size + 1 + 1) s 0 := by
  refine ⟨_, rfl, (((Fr.refl [] w).alloc _).alloc _).alloc _, ((Blk.new _ _ _).alloc _).alloc _, ?_, ?_⟩
  · have := (Blk.new (w.alloc (.cells #[.int .u64 0, .int .u64 0, .int .u64 0, .int .u64 0] 38)) #[.int .u64 0, .int .u64 0, .int .u64 0, .int .u64 0] 38).alloc (.cells #[.string s, .int .i64 0] 167)
    simp at this
    exact this
  · have := Blk.new ((w.alloc (.cells #[.int .u64 0, .int .u64 0, .int .u64 0, .int .u64 0] 38)).alloc (.cells #[.int .u64 0, .int .u64 0, .int .u64 0, .int .u64 0] 38)) #[.string s, .int .i64 0] 167
    simp at this
    exact this

/-- Class g holds these words, at a world. -/
def Holds4 (g : Nat) (c : Cls) (w : World) : Prop :=
  w.cell? ⟨g, 0, none⟩ = some (.int .u64 c.a) ∧ w.cell? ⟨g, 1, none⟩ = some (.int .u64 c.b) ∧ w.cell? ⟨g, 2, none⟩ = some (.int .u64 c.c) ∧ w.cell? ⟨g, 3, none⟩ = some (.int .u64 c.d)

set_option maxHeartbeats 4000000 in
theorem parse_no (s : ByteArray) (w : World) (hs : s.size ≤ 100000) (hn : Hid (pickAt [91] s.data.toList < 0)) :
    Calls Tryd.prog 92 #[.string s] w (ParsePost s (.bad 0) w) := by
  obtain ⟨p, hp⟩ : ∃ p, pickAt [91] (s.data.toList.drop 0) = p := ⟨_, rfl⟩
  have P1 := Lib.hid (fun w1 b (H1 : Rd w1 b s 0) => pick_named b s ⟨#[91]⟩ 0 w1 H1 hs p (Lib.hid hp))
  have hp0 : p < 0 := by rw [← hp]; exact hn.out
  clear hn hp
  obtain ⟨W1, hW, F1, B0, B1, H1⟩ := start3 s w
  have HW := Lib.hid hW
  clear hW
  have hz1 := H1.lt
  go_enter Tryd.func92, Tryd.ntmps92
  go_wp2_with fail
  rw [← HW.out]
  clear HW
  obtain ⟨g0, e0⟩ : ∃ g, g = w.heap.size := ⟨_, rfl⟩
  obtain ⟨g1, e1⟩ : ∃ g, g = w.heap.size + 1 := ⟨_, rfl⟩
  obtain ⟨g2, e2⟩ : ∃ g, g = w.heap.size + 1 + 1 := ⟨_, rfl⟩
  rw [← e2] at H1 hz1 ⊢
  rw [← e1] at B1 ⊢
  have l0 : w.heap.size ≤ g0 := by omega
  have l1 : g0 < g1 := by omega
  have l2 : g1 < g2 := by omega
  rw [← e0] at B0 ⊢
  clear e0 e1 e2
  refine (P1.out W1 g2 H1).mono ?_
  rintro e w2 ⟨rfl, F2, H2⟩
  rw [if_neg (by omega)] at H2
  have B0 := B0.fr F2 (by simp; omega)
  have B1 := B1.fr F2 (by simp; omega)
  have F2 := F1.trans F2 (by simp; omega)
  clear F1 H1
  go_wp2_with fail
  have CB : ∀ w3, Fr [] w2.drew w3 → (w3.cell? ⟨g1, 0, none⟩ = some (.int .u64 0) ∧ w3.cell? ⟨g1, 1, none⟩ = some (.int .u64 0) ∧ w3.cell? ⟨g1, 2, none⟩ = some (.int .u64 0) ∧ w3.cell? ⟨g1, 3, none⟩ = some (.int .u64 0)) ∧
      (w3.cell? ⟨g0, 0, none⟩ = some (.int .u64 0) ∧ w3.cell? ⟨g0, 1, none⟩ = some (.int .u64 0) ∧ w3.cell? ⟨g0, 2, none⟩ = some (.int .u64 0) ∧ w3.cell? ⟨g0, 3, none⟩ = some (.int .u64 0)) ∧
      (w3.frozen? ⟨g0, 0, none⟩ = false ∧ w3.frozen? ⟨g0, 1, none⟩ = false ∧ w3.frozen? ⟨g0, 2, none⟩ = false ∧ w3.frozen? ⟨g0, 3, none⟩ = false) := fun w3 F => by
    have C := (Blk.drew B1).fr F (by simp)
    have D := (Blk.drew B0).fr F (by simp)
    exact ⟨⟨Blk.cell C 0 rfl, Blk.cell C 1 rfl, Blk.cell C 2 rfl, Blk.cell C 3 rfl⟩, ⟨Blk.cell D 0 rfl, Blk.cell D 1 rfl, Blk.cell D 2 rfl, Blk.cell D 3 rfl⟩, Blk.free D 0, Blk.free D 1, Blk.free D 2, Blk.free D 3⟩
  have CB := Lib.hid CB
  obtain ⟨⟨c0, c1, c2, c3⟩, _⟩ := CB.out w2.drew (Fr.refl _ _)
  have W1 := Lib.hid (fun w1 (H1 : Rd w1 g2 s 0) => wrong_any g2 s 0 w1 H1 (Nat.zero_le _) hs)
  go_region_with (go_at_call 101; refine (W1.out w2.drew H2).mono ?_; rintro e w3 ⟨v, rfl, ⟨a, rfl, ha, HA⟩, F3⟩; obtain ⟨⟨e0, e1, e2, e3⟩, ⟨h0, h1, h2, h3⟩, f0, f1, f2, f3⟩ := CB.out w3 F3; skip)
  all_goals
    have D := (Blk.drew B0).fr F3 (by simp)
    have F4 := (F2.drew).trans F3 (by simp)
    go_wp2_with fail
    have BB' := D.put_all [.int .u64 0, .int .u64 0, .int .u64 0, .int .u64 0] rfl
    have FF := F4.put (g := g0) (.inr l0) [.int .u64 0, .int .u64 0, .int .u64 0, .int .u64 0] 0
    have HA'' := HA.put_other (g := g0) (by have : a ≠ g0 := by (have := (Blk.drew B0).lt; omega)
                                            exact this) [.int .u64 0, .int .u64 0, .int .u64 0, .int .u64 0] 0
    change bodyPost _ _ _ _ _ (put w3 g0 0 [.int .u64 0, .int .u64 0, .int .u64 0, .int .u64 0])
    generalize put w3 g0 0 [.int .u64 0, .int .u64 0, .int .u64 0, .int .u64 0] = w9 at *
    have k0 := Blk.cell BB' 0 (v := .int .u64 0) rfl
    have k1 := Blk.cell BB' 1 (v := .int .u64 0) rfl
    have k2 := Blk.cell BB' 2 (v := .int .u64 0) rfl
    have k3 := Blk.cell BB' 3 (v := .int .u64 0) rfl
    exact bodyPost_ret (v := .tuple #[cls0.val, .int .i64 0, _]) (by simp [results, Tryd.results92, go_sem, k0, k1, k2, k3]; rfl) rfl ⟨FF, _, rfl, a, rfl, by have := F2.size; have e : w2.drew.heap.size = w2.heap.size := rfl; omega, HA''⟩
end Go.Proofs.YtglknnncpaggpaaDoor
