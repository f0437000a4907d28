/- errors.As in the frames' words; the cutter: class. -/
import Derived.Test.YtglknnncpaggpaaDoorLexD
import Derived.Test.YtglknnncpaggpaaDoorAs
namespace Go.Proofs.YtglknnncpaggpaaDoor
open Go.RowKit

def AsPost (b : Nat) (v : Value) (T : TypeId) (w : World) (e : Ending) (w' : World) : Prop := e = .returned (.bool true) ∧ Fr [b] w w' ∧ Blk w' b #[v] T
theorem asF_any (a : Addr) (b : Nat) (T : TypeId) (old : Value) (w : World) (hg : Lg w) (hb : Blk w b #[old] T) :
    Calls Tryd.prog 28 #[.iface 62 (.pointer (some a)), .iface 74 (.pointer (some ⟨b, 0, none⟩))] w (AsPost b (.pointer (some a)) T w) := by
  refine (as_F a ⟨b, 0, none⟩ old w hg (hb.cell 0 rfl) (hb.free 0)).mono ?_
  rintro e w' ⟨rfl, rfl⟩
  unfold W4_F
  exact ⟨rfl, (((((Fr.refl [b] w).alloc _).alloc _).alloc _).alloc _).setCell (.inl (by simp)) _, ((((hb.alloc _).alloc _).alloc _).alloc _).set 0 _⟩
theorem asN_any (a : Addr) (c : Int) (b : Nat) (T : TypeId) (old : Value) (w : World) (hg : Lg w) (ha : w.cell? a = some (.int .i64 c)) (hb : Blk w b #[old] T) :
    Calls Tryd.prog 28 #[.iface 62 (.pointer (some a)), .iface 73 (.pointer (some ⟨b, 0, none⟩))] w (AsPost b (.int .i64 c) T w) := by
  refine (as_N a c ⟨b, 0, none⟩ old w hg ha (hb.cell 0 rfl) (hb.free 0)).mono ?_
  rintro e w' ⟨rfl, rfl⟩
  unfold W4_N
  exact ⟨rfl, (((((Fr.refl [b] w).alloc _).alloc _).alloc _).alloc _).setCell (.inl (by simp)) _, ((((hb.alloc _).alloc _).alloc _).alloc _).set 0 _⟩

/-! ### api.Code and api.At, of a fault -/
def IntPost (c : Int) (w : World) (e : Ending) (w' : World) : Prop := e = .returned (.int .i64 c) ∧ Fr [] w w'
set_option maxHeartbeats 1000000 in
theorem code_fault (lo : Nat) (v : Value) (c at_ : Int) (w : World) (hg : Lg w) (hv : FaultAt lo w v c at_) :
    Calls Tryd.prog 16 #[v] w (IntPost c w) := by
  obtain ⟨b, rfl, _, hb⟩ := hv
  have hb0 := hb.lt
  have B1 := Blk.new w #[.int .i64 0] 33
  have G1 : Lg (w.alloc (.cells #[.int .i64 0] 33)) := hg.fr ((Fr.refl [] w).alloc _) (by simp)
  have C1 : (w.alloc (.cells #[.int .i64 0] 33)).cell? ⟨b, 0, none⟩ = some (.int .i64 c) := (hb.alloc _).cell 0 rfl
  have F1 := (Fr.refl [] w).alloc (.cells #[.int .i64 0] 33)
  go_enter Tryd.func16, Tryd.ntmps16
  go_wp2_with fail
  generalize w.alloc (.cells #[.int .i64 0] 33) = w1 at *
  with_reducible refine (asN_any ⟨b, 0, none⟩ c w.heap.size _ _ w1 G1 C1 B1).mono ?_
  rintro e w2 ⟨rfl, F2, B2⟩
  have k0 := B2.cell 0 rfl
  go_wp2_with fail
  go_ret
  exact ⟨rfl, F1.trans F2 (by simp)⟩
set_option maxHeartbeats 1000000 in
theorem code_nil (w : World) : Calls Tryd.prog 16 #[.nilIface] w (IntPost 0 w) := by
  go_enter Tryd.func16, Tryd.ntmps16
  go_wp2_with fail
  go_ret
  exact ⟨rfl, Fr.refl _ _⟩
set_option maxHeartbeats 1000000 in
theorem at_fault (lo : Nat) (v : Value) (c at_ : Int) (w : World) (hg : Lg w) (hv : FaultAt lo w v c at_) :
    Calls Tryd.prog 17 #[v] w (IntPost at_ w) := by
  obtain ⟨b, rfl, _, hb⟩ := hv
  have hb0 := hb.lt
  have B1 := Blk.new w #[.pointer none] 62
  have G1 : Lg (w.alloc (.cells #[.pointer none] 62)) := hg.fr ((Fr.refl [] w).alloc _) (by simp)
  have C1 := hb.alloc (.cells #[.pointer none] 62)
  have F1 := (Fr.refl [] w).alloc (.cells #[.pointer none] 62)
  go_enter Tryd.func17, Tryd.ntmps17
  go_wp2_with fail
  generalize w.alloc (.cells #[.pointer none] 62) = w1 at *
  with_reducible refine (asF_any ⟨b, 0, none⟩ w.heap.size _ _ w1 G1 B1).mono ?_
  rintro e w2 ⟨rfl, F2, B2⟩
  have k0 := B2.cell 0 rfl
  have C2 := C1.fr F2 (by simp; omega)
  have k1 := C2.cell 1 rfl
  go_wp2_with fail
  go_ret
  exact ⟨rfl, F1.trans F2 (by simp)⟩
set_option maxHeartbeats 1000000 in
theorem at_nil (w : World) : Calls Tryd.prog 17 #[.nilIface] w (IntPost (-1) w) := by
  have F1 := (Fr.refl [] w).alloc (.cells #[.pointer none] 62)
  go_enter Tryd.func17, Tryd.ntmps17
  go_wp2_with fail
  generalize w.alloc (.cells #[.pointer none] 62) = w1 at *
  with_reducible refine (as_nil _ w1).mono ?_
  rintro e w2 ⟨rfl, rfl⟩
  go_wp2_with fail
  go_ret
  exact ⟨rfl, F1⟩
end Go.Proofs.YtglknnncpaggpaaDoor
