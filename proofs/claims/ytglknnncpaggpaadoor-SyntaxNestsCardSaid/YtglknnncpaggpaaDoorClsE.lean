/- Classes: Either, Not. -/
import Derived.Test.YtglknnncpaggpaaDoorClsD
import Derived.RegionTactic
import Derived.ChangeAlike
namespace Go.Proofs.YtglknnncpaggpaaDoor
open Go.RowKit

def Cls.cells (c : Cls) : Array Value := #[.int .u64 c.a, .int .u64 c.b, .int .u64 c.c, .int .u64 c.d]
def Cls.wf (c : Cls) : Prop := c.a < 18446744073709551616 ∧ c.b < 18446744073709551616 ∧ c.c < 18446744073709551616 ∧ c.d < 18446744073709551616
theorem u64_or (a b : Nat) (ha : a < 18446744073709551616) (hb : b < 18446744073709551616) : bits .or .u64 (a : Int) (b : Int) = ((a ||| b : Nat) : Int) := by
  have hx : a ||| b < 2 ^ 64 := Nat.or_lt_two_pow (by omega) (by omega)
  have e : ∀ n : Nat, n < 18446744073709551616 → (BitVec.ofInt 64 (n : Int)).toNat = n := fun n hn => by
    rw [BitVec.ofInt_natCast, BitVec.toNat_ofNat]; exact Nat.mod_eq_of_lt (by omega)
  show IntKind.u64.wrap ((BitVec.ofInt 64 (a : Int) ||| BitVec.ofInt 64 (b : Int)).toNat : Int) = _
  rw [BitVec.toNat_or, e a ha, e b hb, IntKind.wrap_u64]
  omega

def eiUp (x y : Cls) (k : Nat) : Array Value :=
  #[.int .u64 (if 0 < k then (x.a ||| y.a : Nat) else x.a), .int .u64 (if 1 < k then (x.b ||| y.b : Nat) else x.b), .int .u64 (if 2 < k then (x.c ||| y.c : Nat) else x.c), .int .u64 (if 3 < k then (x.d ||| y.d : Nat) else x.d)]

set_option maxHeartbeats 4000000 in
theorem either_any (x y : Cls) (w : World) (hx : x.wf) (hy : y.wf) :
    Calls Tryd.prog 103 #[x.val, y.val] w (ClsPost (eitherC x y) w) := by
  show Calls Tryd.prog 103 #[.agg #[.int .u64 x.a, .int .u64 x.b, .int .u64 x.c, .int .u64 x.d], .agg #[.int .u64 y.a, .int .u64 y.b, .int .u64 y.c, .int .u64 y.d]] w (ClsPost (eitherC x y) w)
  have B0 : Blk (((w.alloc (.cells #[.int .u64 x.a, .int .u64 x.b, .int .u64 x.c, .int .u64 x.d] 38)).alloc (.cells #[.int .u64 y.a, .int .u64 y.b, .int .u64 y.c, .int .u64 y.d] 38)).alloc (.cells #[.int .u64 0, .int .u64 0, .int .u64 0, .int .u64 0] 38)) w.heap.size #[.int .u64 x.a, .int .u64 x.b, .int .u64 x.c, .int .u64 x.d] 38 := ((Blk.new _ _ _).alloc _).alloc _
  have B1 : Blk (((w.alloc (.cells #[.int .u64 x.a, .int .u64 x.b, .int .u64 x.c, .int .u64 x.d] 38)).alloc (.cells #[.int .u64 y.a, .int .u64 y.b, .int .u64 y.c, .int .u64 y.d] 38)).alloc (.cells #[.int .u64 0, .int .u64 0, .int .u64 0, .int .u64 0] 38)) (w.heap.size + 1) #[.int .u64 y.a, .int .u64 y.b, .int .u64 y.c, .int .u64 y.d] 38 := by
    have := (Blk.new (w.alloc (.cells #[.int .u64 x.a, .int .u64 x.b, .int .u64 x.c, .int .u64 x.d] 38)) #[.int .u64 y.a, .int .u64 y.b, .int .u64 y.c, .int .u64 y.d] 38).alloc (.cells #[.int .u64 0, .int .u64 0, .int .u64 0, .int .u64 0] 38)
    simpa using this
  have B2 : Blk (((w.alloc (.cells #[.int .u64 x.a, .int .u64 x.b, .int .u64 x.c, .int .u64 x.d] 38)).alloc (.cells #[.int .u64 y.a, .int .u64 y.b, .int .u64 y.c, .int .u64 y.d] 38)).alloc (.cells #[.int .u64 0, .int .u64 0, .int .u64 0, .int .u64 0] 38)) (w.heap.size + 1 + 1) #[.int .u64 0, .int .u64 0, .int .u64 0, .int .u64 0] 38 := by
    have := Blk.new ((w.alloc (.cells #[.int .u64 x.a, .int .u64 x.b, .int .u64 x.c, .int .u64 x.d] 38)).alloc (.cells #[.int .u64 y.a, .int .u64 y.b, .int .u64 y.c, .int .u64 y.d] 38)) #[.int .u64 0, .int .u64 0, .int .u64 0, .int .u64 0] 38
    simpa using this
  have F0 : Fr [] w (((w.alloc (.cells #[.int .u64 x.a, .int .u64 x.b, .int .u64 x.c, .int .u64 x.d] 38)).alloc (.cells #[.int .u64 y.a, .int .u64 y.b, .int .u64 y.c, .int .u64 y.d] 38)).alloc (.cells #[.int .u64 0, .int .u64 0, .int .u64 0, .int .u64 0] 38)) := (((Fr.refl [] w).alloc _).alloc _).alloc _
  have O0 := Lib.hid (u64_or x.a y.a hx.1 hy.1)
  have O1 := Lib.hid (u64_or x.b y.b hx.2.1 hy.2.1)
  have O2 := Lib.hid (u64_or x.c y.c hx.2.2.1 hy.2.2.1)
  have O3 := Lib.hid (u64_or x.d y.d hx.2.2.2 hy.2.2.2)
  clear hx hy
  go_enter Tryd.func103, Tryd.ntmps103
  go_wp2_with fail
  go_loopw [6] (fun i wr => ∃ k : Nat, k ≤ 4 ∧ i = .int .i64 k ∧ Fr [] w wr ∧ Blk wr w.heap.size (eiUp x y k) 38 ∧ Blk wr (w.heap.size + 1) y.cells 38 ∧ Blk wr (w.heap.size + 1 + 1) cls0.cells 38) (fun i _ => (4 - intOf i).toNat)
  case atStart => exact ⟨0, by omega, rfl, F0, B0, B1, B2⟩
  case round =>
    clear F0 B0 B1 B2
    obtain ⟨k, hk, rfl, F, B, C, D⟩ := hrel
    have hk' : k = 0 ∨ k = 1 ∨ k = 2 ∨ k = 3 ∨ k = 4 := by omega
    rcases hk' with rfl | rfl | rfl | rfl | rfl
    · have c0 : wr.cell? ⟨w.heap.size, 0, none⟩ = some (.int .u64 x.a) := Blk.cell B 0 rfl
      have c1 : wr.cell? ⟨w.heap.size + 1, 0, none⟩ = some (.int .u64 y.a) := Blk.cell C 0 rfl
      have f0 : wr.frozen? ⟨w.heap.size, 0, none⟩ = false := Blk.free B 0
      go_wp2_with fail
      go_region
      go_wp2_with fail
      rw [O0.out]
      exact ⟨⟨1, by omega, rfl, (F.setCell (.inr (Nat.le_refl _)) _).drew, (by have := Blk.set B 0 (.int .u64 ((x.a ||| y.a : Nat) : Int)); exact this), C.set_other (by simp) _, D.set_other (by show w.heap.size + 1 + 1 ≠ w.heap.size; omega) _⟩, by simp [intOf]⟩
    · have c0 : wr.cell? ⟨w.heap.size, 1, none⟩ = some (.int .u64 x.b) := Blk.cell B 1 rfl
      have c1 : wr.cell? ⟨w.heap.size + 1, 1, none⟩ = some (.int .u64 y.b) := Blk.cell C 1 rfl
      have f0 : wr.frozen? ⟨w.heap.size, 1, none⟩ = false := Blk.free B 1
      go_wp2_with fail
      go_region
      go_wp2_with fail
      rw [O1.out]
      exact ⟨⟨2, by omega, rfl, (F.setCell (.inr (Nat.le_refl _)) _).drew, (by have := Blk.set B 1 (.int .u64 ((x.b ||| y.b : Nat) : Int)); exact this), C.set_other (by simp) _, D.set_other (by show w.heap.size + 1 + 1 ≠ w.heap.size; omega) _⟩, by simp [intOf]⟩
    · have c0 : wr.cell? ⟨w.heap.size, 2, none⟩ = some (.int .u64 x.c) := Blk.cell B 2 rfl
      have c1 : wr.cell? ⟨w.heap.size + 1, 2, none⟩ = some (.int .u64 y.c) := Blk.cell C 2 rfl
      have f0 : wr.frozen? ⟨w.heap.size, 2, none⟩ = false := Blk.free B 2
      go_wp2_with fail
      go_region
      go_wp2_with fail
      rw [O2.out]
      exact ⟨⟨3, by omega, rfl, (F.setCell (.inr (Nat.le_refl _)) _).drew, (by have := Blk.set B 2 (.int .u64 ((x.c ||| y.c : Nat) : Int)); exact this), C.set_other (by simp) _, D.set_other (by show w.heap.size + 1 + 1 ≠ w.heap.size; omega) _⟩, by simp [intOf]⟩
    · have c0 : wr.cell? ⟨w.heap.size, 3, none⟩ = some (.int .u64 x.d) := Blk.cell B 3 rfl
      have c1 : wr.cell? ⟨w.heap.size + 1, 3, none⟩ = some (.int .u64 y.d) := Blk.cell C 3 rfl
      have f0 : wr.frozen? ⟨w.heap.size, 3, none⟩ = false := Blk.free B 3
      go_wp2_with fail
      go_region
      go_wp2_with fail
      rw [O3.out]
      exact ⟨⟨4, by omega, rfl, (F.setCell (.inr (Nat.le_refl _)) _).drew, (by have := Blk.set B 3 (.int .u64 ((x.d ||| y.d : Nat) : Int)); exact this), C.set_other (by simp) _, D.set_other (by show w.heap.size + 1 + 1 ≠ w.heap.size; omega) _⟩, by simp [intOf]⟩
    · have c0 : wr.cell? ⟨w.heap.size, 0, none⟩ = some (.int .u64 ((x.a ||| y.a : Nat) : Int)) := Blk.cell B 0 rfl
      have c1 : wr.cell? ⟨w.heap.size, 1, none⟩ = some (.int .u64 ((x.b ||| y.b : Nat) : Int)) := Blk.cell B 1 rfl
      have c2 : wr.cell? ⟨w.heap.size, 2, none⟩ = some (.int .u64 ((x.c ||| y.c : Nat) : Int)) := Blk.cell B 2 rfl
      have c3 : wr.cell? ⟨w.heap.size, 3, none⟩ = some (.int .u64 ((x.d ||| y.d : Nat) : Int)) := Blk.cell B 3 rfl
      have d0 : wr.cell? ⟨w.heap.size + 1 + 1, 0, none⟩ = some (.int .u64 0) := Blk.cell D 0 rfl
      have f0 : wr.frozen? ⟨w.heap.size + 1 + 1, 0, none⟩ = false := Blk.free D 0
      have d1 : wr.cell? ⟨w.heap.size + 1 + 1, 1, none⟩ = some (.int .u64 0) := Blk.cell D 1 rfl
      have f1 : wr.frozen? ⟨w.heap.size + 1 + 1, 1, none⟩ = false := Blk.free D 1
      have d2 : wr.cell? ⟨w.heap.size + 1 + 1, 2, none⟩ = some (.int .u64 0) := Blk.cell D 2 rfl
      have f2 : wr.frozen? ⟨w.heap.size + 1 + 1, 2, none⟩ = false := Blk.free D 2
      have d3 : wr.cell? ⟨w.heap.size + 1 + 1, 3, none⟩ = some (.int .u64 0) := Blk.cell D 3 rfl
      have f3 : wr.frozen? ⟨w.heap.size + 1 + 1, 3, none⟩ = false := Blk.free D 3
      go_wp2_with fail
      have B4 := Blk.set (Blk.set (Blk.set (Blk.set D 0 (.int .u64 ((x.a ||| y.a : Nat) : Int))) 1 (.int .u64 ((x.b ||| y.b : Nat) : Int))) 2 (.int .u64 ((x.c ||| y.c : Nat) : Int))) 3 (.int .u64 ((x.d ||| y.d : Nat) : Int))
      have hle : w.heap.size ≤ w.heap.size + 1 + 1 := by omega
      have F4 := (((F.setCell (p := ⟨w.heap.size + 1 + 1, 0, none⟩) (.inr hle) (.int .u64 ((x.a ||| y.a : Nat) : Int))).setCell (p := ⟨w.heap.size + 1 + 1, 1, none⟩) (.inr hle) (.int .u64 ((x.b ||| y.b : Nat) : Int))).setCell (p := ⟨w.heap.size + 1 + 1, 2, none⟩) (.inr hle) (.int .u64 ((x.c ||| y.c : Nat) : Int))).setCell (p := ⟨w.heap.size + 1 + 1, 3, none⟩) (.inr hle) (.int .u64 ((x.d ||| y.d : Nat) : Int))
      have k0 := Blk.cell B4 0 (v := (.int .u64 ((x.a ||| y.a : Nat) : Int))) rfl
      have k1 := Blk.cell B4 1 (v := (.int .u64 ((x.b ||| y.b : Nat) : Int))) rfl
      have k2 := Blk.cell B4 2 (v := (.int .u64 ((x.c ||| y.c : Nat) : Int))) rfl
      have k3 := Blk.cell B4 3 (v := (.int .u64 ((x.d ||| y.d : Nat) : Int))) rfl
      exact bodyPost_ret (v := (eitherC x y).val) (by simp [results, Tryd.results103, go_sem, k0, k1, k2, k3]; rfl) rfl ⟨rfl, F4⟩

theorem u64_not (a : Nat) (ha : a < 18446744073709551616) : bits .xor .u64 (if IntKind.u64.signed = true then -1 else IntKind.u64.max) (a : Int) = ((18446744073709551615 - a : Nat) : Int) := by
  have e : (if IntKind.u64.signed = true then (-1 : Int) else IntKind.u64.max) = ((18446744073709551615 : Nat) : Int) := rfl
  rw [e]
  have eo : (BitVec.ofInt 64 ((18446744073709551615 : Nat) : Int)) = BitVec.allOnes 64 := by decide
  have ea : (BitVec.ofInt 64 (a : Int)).toNat = a := by
    rw [BitVec.ofInt_natCast, BitVec.toNat_ofNat]; exact Nat.mod_eq_of_lt (by omega)
  show IntKind.u64.wrap ((BitVec.ofInt 64 ((18446744073709551615 : Nat) : Int) ^^^ BitVec.ofInt 64 (a : Int)).toNat : Int) = _
  rw [eo, BitVec.allOnes_xor, BitVec.toNat_not, ea, IntKind.wrap_u64]
  omega

def notUp (x : Cls) (k : Nat) : Array Value :=
  #[.int .u64 (if 0 < k then (18446744073709551615 - x.a : Nat) else x.a), .int .u64 (if 1 < k then (18446744073709551615 - x.b : Nat) else x.b), .int .u64 (if 2 < k then (18446744073709551615 - x.c : Nat) else x.c), .int .u64 (if 3 < k then (18446744073709551615 - x.d : Nat) else x.d)]
set_option maxHeartbeats 4000000 in
theorem not_any (x : Cls) (w : World) (hx : x.wf) :
    Calls Tryd.prog 104 #[x.val] w (ClsPost (notC x) w) := by
  have O0 := Lib.hid (u64_not x.a hx.1)
  have O1 := Lib.hid (u64_not x.b hx.2.1)
  have O2 := Lib.hid (u64_not x.c hx.2.2.1)
  have O3 := Lib.hid (u64_not x.d hx.2.2.2)
  clear hx
  show Calls Tryd.prog 104 #[.agg #[.int .u64 x.a, .int .u64 x.b, .int .u64 x.c, .int .u64 x.d]] w (ClsPost (notC x) w)
  go_enter Tryd.func104, Tryd.ntmps104
  go_wp2_with fail
  have B0 := (Blk.new w #[.int .u64 x.a, .int .u64 x.b, .int .u64 x.c, .int .u64 x.d] 38).alloc (.cells #[.int .u64 0, .int .u64 0, .int .u64 0, .int .u64 0] 38)
  have B1 : Blk ((w.alloc (.cells #[.int .u64 x.a, .int .u64 x.b, .int .u64 x.c, .int .u64 x.d] 38)).alloc (.cells #[.int .u64 0, .int .u64 0, .int .u64 0, .int .u64 0] 38)) (w.heap.size + 1) cls0.cells 38 := by
    have := Blk.new (w.alloc (.cells #[.int .u64 x.a, .int .u64 x.b, .int .u64 x.c, .int .u64 x.d] 38)) #[.int .u64 0, .int .u64 0, .int .u64 0, .int .u64 0] 38
    simp at this
    exact this
  have F0 := ((Fr.refl [] w).alloc (.cells #[.int .u64 x.a, .int .u64 x.b, .int .u64 x.c, .int .u64 x.d] 38)).alloc (.cells #[.int .u64 0, .int .u64 0, .int .u64 0, .int .u64 0] 38)
  go_loopw [4] (fun i wr => ∃ k : Nat, k ≤ 4 ∧ i = .int .i64 k ∧ Fr [] w wr ∧ Blk wr w.heap.size (notUp x k) 38 ∧ Blk wr (w.heap.size + 1) cls0.cells 38) (fun i _ => (4 - intOf i).toNat)
  case atStart => exact ⟨0, by omega, rfl, F0, B0, B1⟩
  case round =>
    clear F0 B0 B1
    obtain ⟨k, hk, rfl, F, B, C⟩ := hrel
    have hk' : k = 0 ∨ k = 1 ∨ k = 2 ∨ k = 3 ∨ k = 4 := by omega
    rcases hk' with rfl | rfl | rfl | rfl | rfl
    · have c0 : wr.cell? ⟨w.heap.size, 0, none⟩ = some (.int .u64 x.a) := Blk.cell B 0 rfl
      have f0 : wr.frozen? ⟨w.heap.size, 0, none⟩ = false := Blk.free B 0
      go_wp2_with fail
      rw [O0.out]
      exact ⟨⟨1, by omega, rfl, F.setCell (.inr (Nat.le_refl _)) _, (by have := Blk.set B 0 (.int .u64 ((18446744073709551615 - x.a : Nat) : Int)); exact this), C.set_other (by simp) _⟩, by simp [intOf]⟩
    · have c0 : wr.cell? ⟨w.heap.size, 1, none⟩ = some (.int .u64 x.b) := Blk.cell B 1 rfl
      have f0 : wr.frozen? ⟨w.heap.size, 1, none⟩ = false := Blk.free B 1
      go_wp2_with fail
      rw [O1.out]
      exact ⟨⟨2, by omega, rfl, F.setCell (.inr (Nat.le_refl _)) _, (by have := Blk.set B 1 (.int .u64 ((18446744073709551615 - x.b : Nat) : Int)); exact this), C.set_other (by simp) _⟩, by simp [intOf]⟩
    · have c0 : wr.cell? ⟨w.heap.size, 2, none⟩ = some (.int .u64 x.c) := Blk.cell B 2 rfl
      have f0 : wr.frozen? ⟨w.heap.size, 2, none⟩ = false := Blk.free B 2
      go_wp2_with fail
      rw [O2.out]
      exact ⟨⟨3, by omega, rfl, F.setCell (.inr (Nat.le_refl _)) _, (by have := Blk.set B 2 (.int .u64 ((18446744073709551615 - x.c : Nat) : Int)); exact this), C.set_other (by simp) _⟩, by simp [intOf]⟩
    · have c0 : wr.cell? ⟨w.heap.size, 3, none⟩ = some (.int .u64 x.d) := Blk.cell B 3 rfl
      have f0 : wr.frozen? ⟨w.heap.size, 3, none⟩ = false := Blk.free B 3
      go_wp2_with fail
      rw [O3.out]
      exact ⟨⟨4, by omega, rfl, F.setCell (.inr (Nat.le_refl _)) _, (by have := Blk.set B 3 (.int .u64 ((18446744073709551615 - x.d : Nat) : Int)); exact this), C.set_other (by simp) _⟩, by simp [intOf]⟩
    · have c0 : wr.cell? ⟨w.heap.size, 0, none⟩ = some (.int .u64 ((18446744073709551615 - x.a : Nat) : Int)) := Blk.cell B 0 rfl
      have c1 : wr.cell? ⟨w.heap.size, 1, none⟩ = some (.int .u64 ((18446744073709551615 - x.b : Nat) : Int)) := Blk.cell B 1 rfl
      have c2 : wr.cell? ⟨w.heap.size, 2, none⟩ = some (.int .u64 ((18446744073709551615 - x.c : Nat) : Int)) := Blk.cell B 2 rfl
      have c3 : wr.cell? ⟨w.heap.size, 3, none⟩ = some (.int .u64 ((18446744073709551615 - x.d : Nat) : Int)) := Blk.cell B 3 rfl
      have d0 : wr.cell? ⟨w.heap.size + 1, 0, none⟩ = some (.int .u64 0) := Blk.cell C 0 rfl
      have f0 : wr.frozen? ⟨w.heap.size + 1, 0, none⟩ = false := Blk.free C 0
      have d1 : wr.cell? ⟨w.heap.size + 1, 1, none⟩ = some (.int .u64 0) := Blk.cell C 1 rfl
      have f1 : wr.frozen? ⟨w.heap.size + 1, 1, none⟩ = false := Blk.free C 1
      have d2 : wr.cell? ⟨w.heap.size + 1, 2, none⟩ = some (.int .u64 0) := Blk.cell C 2 rfl
      have f2 : wr.frozen? ⟨w.heap.size + 1, 2, none⟩ = false := Blk.free C 2
      have d3 : wr.cell? ⟨w.heap.size + 1, 3, none⟩ = some (.int .u64 0) := Blk.cell C 3 rfl
      have f3 : wr.frozen? ⟨w.heap.size + 1, 3, none⟩ = false := Blk.free C 3
      go_wp2_with fail
      have B4 := Blk.set (Blk.set (Blk.set (Blk.set C 0 (.int .u64 ((18446744073709551615 - x.a : Nat) : Int))) 1 (.int .u64 ((18446744073709551615 - x.b : Nat) : Int))) 2 (.int .u64 ((18446744073709551615 - x.c : Nat) : Int))) 3 (.int .u64 ((18446744073709551615 - x.d : Nat) : Int))
      have hle : w.heap.size ≤ w.heap.size + 1 := by omega
      have F4 := (((F.setCell (p := ⟨w.heap.size + 1, 0, none⟩) (.inr hle) (.int .u64 ((18446744073709551615 - x.a : Nat) : Int))).setCell (p := ⟨w.heap.size + 1, 1, none⟩) (.inr hle) (.int .u64 ((18446744073709551615 - x.b : Nat) : Int))).setCell (p := ⟨w.heap.size + 1, 2, none⟩) (.inr hle) (.int .u64 ((18446744073709551615 - x.c : Nat) : Int))).setCell (p := ⟨w.heap.size + 1, 3, none⟩) (.inr hle) (.int .u64 ((18446744073709551615 - x.d : Nat) : Int))
      have k0 := Blk.cell B4 0 (v := (.int .u64 ((18446744073709551615 - x.a : Nat) : Int))) rfl
      have k1 := Blk.cell B4 1 (v := (.int .u64 ((18446744073709551615 - x.b : Nat) : Int))) rfl
      have k2 := Blk.cell B4 2 (v := (.int .u64 ((18446744073709551615 - x.c : Nat) : Int))) rfl
      have k3 := Blk.cell B4 3 (v := (.int .u64 ((18446744073709551615 - x.d : Nat) : Int))) rfl
      exact bodyPost_ret (v := (notC x).val) (by simp [results, Tryd.results104, go_sem, k0, k1, k2, k3]; rfl) rfl ⟨rfl, F4⟩
end Go.Proofs.YtglknnncpaggpaaDoor
