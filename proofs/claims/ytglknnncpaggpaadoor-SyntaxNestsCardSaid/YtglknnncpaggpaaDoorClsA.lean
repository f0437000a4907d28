/- The reader of classes: pick, is, wrong. -/
import Derived.Test.YtglknnncpaggpaaDoorBase
import Derived.Test.YtglknnncpaggpaaDoorRows
import Derived.Test.YtglknnncpaggpaaDoorShelf
import Derived.Deep.QuietTactic
import Derived.BigQuiet
namespace Go.Proofs.YtglknnncpaggpaaDoor
open Go.RowKit

theorem drop_nil {s : ByteArray} {i : Nat} (h : s.data.toList.drop i = []) : s.size ≤ i := by
  have := congrArg List.length h
  simp at this
  have e : s.size = s.data.size := rfl
  omega
theorem drop_cons {s : ByteArray} {i : Nat} {c : UInt8} {l : List UInt8} (h : s.data.toList.drop i = c :: l) :
    i < s.size ∧ (∀ hi : i < s.size, s[i] = c) ∧ s.data.toList.drop (i + 1) = l := by
  have hlt : i < s.data.toList.length := by
    have := congrArg List.length h
    simp at this ⊢
    omega
  have hc := List.drop_eq_getElem_cons hlt
  rw [h] at hc
  simp only [List.cons.injEq] at hc
  refine ⟨by simpa using hlt, fun hi => ?_, hc.2.symm⟩
  rw [hc.1]
  rfl

theorem byte_back (c : UInt8) : (((c.toNat : Nat) : Int).toNat).toUInt8 = c := by simp

/-- The class reader: the text s, at the place i. -/
def Rd (w : World) (b : Nat) (s : ByteArray) (i : Nat) : Prop := Blk w b #[.string s, .int .i64 i] 167

def pickP (of : List UInt8) : List UInt8 → Int
  | [] => -1
  | c :: _ => Lib.indexByte of c

def PickPost (b : Nat) (s : ByteArray) (i : Nat) (p : Int) (w : World) (e : Ending) (w' : World) : Prop :=
  e = .returned (.int .i64 p) ∧ Fr [b] w w' ∧ Rd w' b s (if 0 ≤ p then i + 1 else i)

set_option maxHeartbeats 400000 in
theorem pick_nil (b : Nat) (s of : ByteArray) (i : Nat) (w : World) (H : Rd w b s i) (hi : s.size ≤ i) :
    Calls Tryd.prog 100 #[.pointer (some ⟨b, 0, none⟩), .string of] w (PickPost b s i (-1) w) := by
  have h0 := Blk.cell H 0 rfl
  have h1 := Blk.cell H 1 rfl
  go_enter Tryd.func100, Tryd.ntmps100
  go_wp2
  go_quiet (fail)
  go_wp2
  go_ret
  exact ⟨rfl, fr_drewN w _ |>.mono (by simp), H⟩

set_option maxHeartbeats 400000 in
theorem pick_cons (b : Nat) (s of : ByteArray) (i : Nat) (w : World) (H : Rd w b s i) (hi : i < s.size) (hs : s.size ≤ 100000) (p : Int) (HP : Hid (Lib.indexByte of.data.toList s[i] = p)) :
    Calls Tryd.prog 100 #[.pointer (some ⟨b, 0, none⟩), .string of] w (PickPost b s i p w) := by
  have h0 : w.cell? ⟨b, 0, none⟩ = some (.string s) := Blk.cell H 0 rfl
  have h1 : w.cell? ⟨b, 1, none⟩ = some (.int .i64 i) := Blk.cell H 1 rfl
  have hi0 : (0 : Int) ≤ (i : Int) := by omega
  have hi1 : (i : Int) < (s.size : Int) := by omega
  go_enter Tryd.func100, Tryd.ntmps100
  go_wp2
  go_quiet (fail)
  have F1 := fr_drewN w nq
  have H1 : Rd (w.drewN nq) b s i := H
  have k0 : (w.drewN nq).cell? ⟨b, 0, none⟩ = some (.string s) := h0
  have k1 : (w.drewN nq).cell? ⟨b, 1, none⟩ = some (.int .i64 i) := h1
  clear h0 h1 H
  generalize w.drewN nq = w1 at *
  go_wp2
  go_quiet ((go_at_call 38; exact Calls.quiet_of_same (Tryd.strings_IndexByte _ _ _)))
  rw [byte_back, HP.out]
  have F2 := F1.trans (fr_drewN w1 nq) (by simp)
  have H2 : Rd (w1.drewN nq) b s i := H1
  have k0 : (w1.drewN nq).cell? ⟨b, 0, none⟩ = some (.string s) := k0
  have k1 : (w1.drewN nq).cell? ⟨b, 1, none⟩ = some (.int .i64 i) := k1
  have kf : (w1.drewN nq).frozen? ⟨b, 1, none⟩ = false := Blk.free H2 1
  clear F1 H1
  generalize w1.drewN nq = w2 at *
  by_cases hp : 0 ≤ p
  · go_wp2
    go_ret
    refine ⟨rfl, (F2.mono (by simp)).setCell (.inl (by simp)) _, ?_⟩
    rw [if_pos hp]
    exact Blk.set H2 1 _
  · go_wp2
    go_ret
    refine ⟨rfl, F2.mono (by simp), ?_⟩
    rw [if_neg (by omega)]
    exact H2

def pickAt (of : List UInt8) (l : List UInt8) : Int := match l with | [] => -1 | c :: _ => Lib.indexByte of c
theorem pick_any (b : Nat) (s of : ByteArray) (i : Nat) (w : World) (H : Rd w b s i) (hs : s.size ≤ 100000) :
    Calls Tryd.prog 100 #[.pointer (some ⟨b, 0, none⟩), .string of] w (PickPost b s i (pickAt of.data.toList (s.data.toList.drop i)) w) := by
  cases hl : s.data.toList.drop i with
  | nil => exact pick_nil b s of i w H (drop_nil hl)
  | cons c l =>
    obtain ⟨h1, h2, _⟩ := drop_cons hl
    exact pick_cons b s of i w H h1 hs _ (Lib.hid (by rw [h2 h1]; rfl))

/-- An error at a place: a new block. -/
def FaultAt (lo : Nat) (w : World) (v : Value) (code at_ : Int) : Prop :=
  ∃ a, v = .iface 62 (.pointer (some ⟨a, 0, none⟩)) ∧ lo ≤ a ∧ Blk w a #[.int .i64 code, .int .i64 at_] 76
theorem FaultAt.mono {lo lo' : Nat} {w : World} {v : Value} {c p : Int} (h : FaultAt lo w v c p) (hl : lo' ≤ lo) : FaultAt lo' w v c p :=
  let ⟨a, h1, h2, h3⟩ := h; ⟨a, h1, Nat.le_trans hl h2, h3⟩
theorem FaultAt.fr {lo : Nat} {S : List Nat} {w w' : World} {v : Value} {c p : Int} (h : FaultAt lo w v c p) (hf : Fr S w w') (hS : ∀ k ∈ S, k < lo) : FaultAt lo w' v c p :=
  let ⟨a, h1, h2, h3⟩ := h; ⟨a, h1, h2, h3.fr hf (fun hm => by have := hS a hm; omega)⟩
def codeAt (s : ByteArray) (i : Nat) : Int := if i < s.size then 4 else 3
def WrongPost (w : World) (code at_ : Int) (e : Ending) (w' : World) : Prop :=
  ∃ v, e = .returned v ∧ FaultAt w.heap.size w' v code at_ ∧ Fr [] w w'
set_option maxHeartbeats 400000 in
theorem wrong_any (b : Nat) (s : ByteArray) (i : Nat) (w : World) (H : Rd w b s i) (hi : i ≤ s.size) (_hs : s.size ≤ 100000) :
    Calls Tryd.prog 101 #[.pointer (some ⟨b, 0, none⟩)] w (WrongPost w (codeAt s i) i) := by
  have h0 : w.cell? ⟨b, 0, none⟩ = some (.string s) := Blk.cell H 0 rfl
  have h1 : w.cell? ⟨b, 1, none⟩ = some (.int .i64 i) := Blk.cell H 1 rfl
  by_cases hlt : i < s.size
  all_goals
    go_enter Tryd.func101, Tryd.ntmps101
    go_wp2
    go_quiet (fail)
    have F1 := fr_drewN w nq
    have k0 : (w.drewN nq).cell? ⟨b, 0, none⟩ = some (.string s) := h0
    have k1 : (w.drewN nq).cell? ⟨b, 1, none⟩ = some (.int .i64 i) := h1
    clear h0 h1 H
    generalize w.drewN nq = w1 at *
    go_wp2
    go_ret
  · refine ⟨_, rfl, ⟨w1.heap.size, rfl, F1.size, ?_⟩, F1.alloc _⟩
    rw [codeAt, if_pos hlt]
    exact Blk.new _ _ _
  · obtain rfl : i = s.size := by omega
    refine ⟨_, rfl, ⟨w1.heap.size, rfl, F1.size, ?_⟩, F1.alloc _⟩
    rw [codeAt, if_neg hlt]
    exact Blk.new _ _ _

theorem byte_beq (a c : UInt8) : (((a.toNat : Nat) : Int) == ((c.toNat : Nat) : Int)) = (a == c) := by
  rw [Bool.eq_iff_iff]; simp [← UInt8.toNat_inj]; omega
def IsPost (r : Bool) (w : World) (e : Ending) (w' : World) : Prop := e = .returned (.bool r) ∧ Fr [] w w'
set_option maxHeartbeats 400000 in
theorem is_end (b : Nat) (s : ByteArray) (i : Nat) (c : UInt8) (w : World) (H : Rd w b s i) (hi : s.size ≤ i) :
    Calls Tryd.prog 108 #[.pointer (some ⟨b, 0, none⟩), .int .u8 c.toNat] w (IsPost false w) := by
  have h0 : w.cell? ⟨b, 0, none⟩ = some (.string s) := Blk.cell H 0 rfl
  have h1 : w.cell? ⟨b, 1, none⟩ = some (.int .i64 i) := Blk.cell H 1 rfl
  have hd : decide (i < s.size) = false := by simp; omega
  go_enter Tryd.func108, Tryd.ntmps108
  go_wp2
  go_quiet (fail)
  go_wp2
  go_ret
  exact ⟨rfl, fr_drewN w _⟩
set_option maxHeartbeats 400000 in
theorem is_in (b : Nat) (s : ByteArray) (i : Nat) (c : UInt8) (w : World) (H : Rd w b s i) (hi : i < s.size) :
    Calls Tryd.prog 108 #[.pointer (some ⟨b, 0, none⟩), .int .u8 c.toNat] w (IsPost (s[i] == c) w) := by
  have h0 : w.cell? ⟨b, 0, none⟩ = some (.string s) := Blk.cell H 0 rfl
  have h1 : w.cell? ⟨b, 1, none⟩ = some (.int .i64 i) := Blk.cell H 1 rfl
  have hi0 : (0 : Int) ≤ (i : Int) := by omega
  have hi1 : (i : Int) < (s.size : Int) := by omega
  have hd : decide (i < s.size) = true := by simp; omega
  go_enter Tryd.func108, Tryd.ntmps108
  go_wp2
  go_quiet (fail)
  go_wp2
  go_ret
  exact ⟨by rw [← byte_beq]; rfl, fr_drewN w _⟩
end Go.Proofs.YtglknnncpaggpaaDoor
