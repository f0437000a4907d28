/- Classes: span, Either, Not. -/
import Derived.Test.YtglknnncpaggpaaDoorClsC
namespace Go.Proofs.YtglknnncpaggpaaDoor
open Go.RowKit

def Cls.val (c : Cls) : Value := .agg #[.int .u64 c.a, .int .u64 c.b, .int .u64 c.c, .int .u64 c.d]
def ClsPost (c : Cls) (w : World) (e : Ending) (w' : World) : Prop := e = .returned c.val ∧ Fr [] w w'

def spanUp (lo hi : Int) (k : Nat) : Array Value :=
  #[.int .u64 (if 0 < k then spanW lo hi 0 else 0), .int .u64 (if 1 < k then spanW lo hi 1 else 0), .int .u64 (if 2 < k then spanW lo hi 2 else 0), .int .u64 (if 3 < k then spanW lo hi 3 else 0)]

theorem u64_span (a b : Nat) : IntKind.u64.wrap (18446744073709551615 / 2 ^ a * 2 ^ b) = ((18446744073709551615 / 2 ^ a * 2 ^ b % 18446744073709551616 : Nat) : Int) := by
  rw [IntKind.wrap_u64]
  have : ((18446744073709551615 / 2 ^ a * 2 ^ b : Nat) : Int) = (18446744073709551615 : Int) / 2 ^ a * 2 ^ b := by
    rw [Int.natCast_mul, Int.natCast_ediv, Int.natCast_pow, Int.natCast_pow]; rfl
  rw [Int.natCast_emod, this]; rfl
theorem span_pos (lo hi i : Int) (h : max (lo - 64 * i) 0 ≤ min (hi - 64 * i) 63) :
    IntKind.u64.wrap (18446744073709551615 / 2 ^ (63 - min (hi - 64 * i) 63 + max (lo - 64 * i) 0).toNat * 2 ^ (max (lo - 64 * i) 0).toNat) = (spanW lo hi i : Int) := by
  rw [u64_span, spanW, if_pos h]
theorem span_neg (lo hi i : Int) (h : min (hi - 64 * i) 63 < max (lo - 64 * i) 0) : spanW lo hi i = 0 := by
  rw [spanW, if_neg (by omega)]

theorem spanUp_set (lo hi : Int) (k : Nat) (hk : k < 4) : (spanUp lo hi k).setIfInBounds k (.int .u64 (spanW lo hi k)) = spanUp lo hi (k + 1) := by
  have hk' : k = 0 ∨ k = 1 ∨ k = 2 ∨ k = 3 := by omega
  rcases hk' with rfl | rfl | rfl | rfl <;> simp [spanUp]
theorem spanUp_zero (lo hi : Int) (k : Nat) (hk : k < 4) (h : spanW lo hi k = 0) : spanUp lo hi k = spanUp lo hi (k + 1) := by
  have hk' : k = 0 ∨ k = 1 ∨ k = 2 ∨ k = 3 := by omega
  rcases hk' with rfl | rfl | rfl | rfl <;> simp [spanUp] <;> simpa using congrArg (fun n : Nat => (n : Int)) h.symm
set_option maxHeartbeats 4000000 in
theorem span_any (lo hi : Int) (w : World) (h0 : 0 ≤ lo) (h1 : lo ≤ hi) (h2 : hi ≤ 255) :
    Calls Tryd.prog 109 #[.int .i64 lo, .int .i64 hi] w (ClsPost (spanC lo hi) w) := by
  have B0 : Blk (w.alloc (.cells #[.int .u64 0, .int .u64 0, .int .u64 0, .int .u64 0] 38)) w.heap.size #[.int .u64 0, .int .u64 0, .int .u64 0, .int .u64 0] 38 := Blk.new _ _ _
  have F0 : Fr [] w (w.alloc (.cells #[.int .u64 0, .int .u64 0, .int .u64 0, .int .u64 0] 38)) := (Fr.refl [] w).alloc _
  have P0 := span_pos lo hi 0
  have P1 := span_pos lo hi 1
  have P2 := span_pos lo hi 2
  have P3 := span_pos lo hi 3
  have N0 := span_neg lo hi 0
  have N1 := span_neg lo hi 1
  have N2 := span_neg lo hi 2
  have N3 := span_neg lo hi 3
  simp only [Int.mul_zero, Int.sub_zero, Int.reduceMul] at P0 P1 P2 P3 N0 N1 N2 N3
  have HP0 := Lib.hid P0
  have HN0 := Lib.hid N0
  have HP1 := Lib.hid P1
  have HN1 := Lib.hid N1
  have HP2 := Lib.hid P2
  have HN2 := Lib.hid N2
  have HP3 := Lib.hid P3
  have HN3 := Lib.hid N3
  clear P0 P1 P2 P3 N0 N1 N2 N3
  go_enter Tryd.func109, Tryd.ntmps109
  go_wp2_with fail
  go_loopw [8] (fun i wr => ∃ k : Nat, k ≤ 4 ∧ i = .int .i64 k ∧ Fr [] w wr ∧ Blk wr w.heap.size (spanUp lo hi k) 38) (fun i _ => (4 - intOf i).toNat)
  case atStart => exact ⟨0, by omega, rfl, F0, B0⟩
  case round =>
    obtain ⟨k, hk, rfl, F, B⟩ := hrel
    have hk' : k = 0 ∨ k = 1 ∨ k = 2 ∨ k = 3 ∨ k = 4 := by omega
    rcases hk' with rfl | rfl | rfl | rfl | rfl
    · have c0 : wr.cell? ⟨w.heap.size, 0, none⟩ = some (.int .u64 0) := Blk.cell B 0 rfl
      have f0 : wr.frozen? ⟨w.heap.size, 0, none⟩ = false := Blk.free B 0
      go_wp2_with fail
      · rw [HP0.out (by assumption)]
        exact ⟨⟨1, by omega, rfl, F.setCell (.inr (Nat.le_refl _)) _, spanUp_set lo hi 0 (by omega) ▸ Blk.set B 0 _⟩, by simp [intOf]⟩
      · exact ⟨⟨1, by omega, rfl, F, spanUp_zero lo hi 0 (by omega) (HN0.out (by assumption)) ▸ B⟩, by simp [intOf]⟩
    · have c0 : wr.cell? ⟨w.heap.size, 1, none⟩ = some (.int .u64 0) := Blk.cell B 1 rfl
      have f0 : wr.frozen? ⟨w.heap.size, 1, none⟩ = false := Blk.free B 1
      go_wp2_with fail
      · rw [HP1.out (by assumption)]
        exact ⟨⟨2, by omega, rfl, F.setCell (.inr (Nat.le_refl _)) _, spanUp_set lo hi 1 (by omega) ▸ Blk.set B 1 _⟩, by simp [intOf]⟩
      · exact ⟨⟨2, by omega, rfl, F, spanUp_zero lo hi 1 (by omega) (HN1.out (by assumption)) ▸ B⟩, by simp [intOf]⟩
    · have c0 : wr.cell? ⟨w.heap.size, 2, none⟩ = some (.int .u64 0) := Blk.cell B 2 rfl
      have f0 : wr.frozen? ⟨w.heap.size, 2, none⟩ = false := Blk.free B 2
      go_wp2_with fail
      · rw [HP2.out (by assumption)]
        exact ⟨⟨3, by omega, rfl, F.setCell (.inr (Nat.le_refl _)) _, spanUp_set lo hi 2 (by omega) ▸ Blk.set B 2 _⟩, by simp [intOf]⟩
      · exact ⟨⟨3, by omega, rfl, F, spanUp_zero lo hi 2 (by omega) (HN2.out (by assumption)) ▸ B⟩, by simp [intOf]⟩
    · have c0 : wr.cell? ⟨w.heap.size, 3, none⟩ = some (.int .u64 0) := Blk.cell B 3 rfl
      have f0 : wr.frozen? ⟨w.heap.size, 3, none⟩ = false := Blk.free B 3
      go_wp2_with fail
      · rw [HP3.out (by assumption)]
        exact ⟨⟨4, by omega, rfl, F.setCell (.inr (Nat.le_refl _)) _, spanUp_set lo hi 3 (by omega) ▸ Blk.set B 3 _⟩, by simp [intOf]⟩
      · exact ⟨⟨4, by omega, rfl, F, spanUp_zero lo hi 3 (by omega) (HN3.out (by assumption)) ▸ B⟩, by simp [intOf]⟩
    · have c0 : wr.cell? ⟨w.heap.size, 0, none⟩ = some (.int .u64 (spanW lo hi 0)) := Blk.cell B 0 rfl
      have c1 : wr.cell? ⟨w.heap.size, 1, none⟩ = some (.int .u64 (spanW lo hi 1)) := Blk.cell B 1 rfl
      have c2 : wr.cell? ⟨w.heap.size, 2, none⟩ = some (.int .u64 (spanW lo hi 2)) := Blk.cell B 2 rfl
      have c3 : wr.cell? ⟨w.heap.size, 3, none⟩ = some (.int .u64 (spanW lo hi 3)) := Blk.cell B 3 rfl
      have f0 : wr.frozen? ⟨w.heap.size, 0, none⟩ = false := Blk.free B 0
      have f1 : wr.frozen? ⟨w.heap.size, 1, none⟩ = false := Blk.free B 1
      have f2 : wr.frozen? ⟨w.heap.size, 2, none⟩ = false := Blk.free B 2
      have f3 : wr.frozen? ⟨w.heap.size, 3, none⟩ = false := Blk.free B 3
      go_wp2_with fail
      have B4 := Blk.set (Blk.set (Blk.set (Blk.set B 0 (.int .u64 (spanW lo hi 0))) 1 (.int .u64 (spanW lo hi 1))) 2 (.int .u64 (spanW lo hi 2))) 3 (.int .u64 (spanW lo hi 3))
      have F4 := (((F.setCell (p := ⟨w.heap.size, 0, none⟩) (.inr (Nat.le_refl _)) (.int .u64 (spanW lo hi 0))).setCell (p := ⟨w.heap.size, 1, none⟩) (.inr (Nat.le_refl _)) (.int .u64 (spanW lo hi 1))).setCell (p := ⟨w.heap.size, 2, none⟩) (.inr (Nat.le_refl _)) (.int .u64 (spanW lo hi 2))).setCell (p := ⟨w.heap.size, 3, none⟩) (.inr (Nat.le_refl _)) (.int .u64 (spanW lo hi 3))
      have k0 := Blk.cell B4 0 (v := .int .u64 (spanW lo hi 0)) rfl
      have k1 := Blk.cell B4 1 (v := .int .u64 (spanW lo hi 1)) rfl
      have k2 := Blk.cell B4 2 (v := .int .u64 (spanW lo hi 2)) rfl
      have k3 := Blk.cell B4 3 (v := .int .u64 (spanW lo hi 3)) rfl
      exact bodyPost_ret (v := (spanC lo hi).val) (by simp [results, Tryd.results109, go_sem, k0, k1, k2, k3]; rfl) rfl ⟨rfl, F4⟩
end Go.Proofs.YtglknnncpaggpaaDoor
