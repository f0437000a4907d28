/- The reader of classes: sign. -/
import Derived.Test.YtglknnncpaggpaaDoorClsA
import Derived.Test.YtglknnncpaggpaaDoorPureA
namespace Go.Proofs.YtglknnncpaggpaaDoor
open Go.RowKit

theorem is_any (b : Nat) (s : ByteArray) (i : Nat) (c : UInt8) (w : World) (H : Rd w b s i) (r : Bool) (hr : Hid (decide ((s.data.toList.drop i).head? = some c) = r)) :
    Calls Tryd.prog 108 #[.pointer (some ⟨b, 0, none⟩), .int .u8 c.toNat] w (IsPost r w) := by
  have hr := hr.out
  cases hl : s.data.toList.drop i with
  | nil =>
    rw [hl] at hr
    obtain rfl : false = r := by simpa using hr
    exact is_end b s i c w H (drop_nil hl)
  | cons x l =>
    obtain ⟨h1, h2, _⟩ := drop_cons hl
    rw [hl] at hr
    have := is_in b s i c w H h1
    rw [h2 h1] at this
    have e : r = (x == c) := by rw [← hr]; simp; rfl
    rw [e]; exact this

/-- IndexByte, its answer named. -/
theorem idx_byte (s : ByteArray) (c : UInt8) (p : Int) (hp : Lib.indexByte s.data.toList c = p) (w : World) :
    Calls Tryd.prog 38 #[.string s, .int .u8 c.toNat] w fun e w' => e = .returned (.int .i64 p) ∧ w' = w := by
  have := Tryd.strings_IndexByte s c.toNat w
  rw [byte_back, hp] at this
  exact this

def SignPost (b : Nat) (s : ByteArray) (i : Nat) (r : R Int) (w : World) (e : Ending) (w' : World) : Prop :=
  Fr [b] w w' ∧ match r with
  | .ok v n => e = .returned (.tuple #[.int .i64 v, .nilIface]) ∧ Rd w' b s (i + n)
  | .bad n => ∃ v, e = .returned (.tuple #[.int .i64 0, v]) ∧ FaultAt w.heap.size w' v (codeAt s (i + n)) ((i + n : Nat) : Int)

set_option maxHeartbeats 1000000 in
theorem sign_end (b : Nat) (s : ByteArray) (i : Nat) (w : World) (H : Rd w b s i) (hi : i = s.size) (hs : s.size ≤ 100000) :
    Calls Tryd.prog 107 #[.pointer (some ⟨b, 0, none⟩)] w (SignPost b s i (.bad 0) w) := by
  have hd : s.data.toList.drop i = [] := List.drop_eq_nil_of_le (by rw [hi]; simp)
  have C1 := is_any b s i 92 w H false (Lib.hid (by rw [hd]; rfl))
  have hle : s.size ≤ i := by omega
  have hle' : i ≤ s.size := by omega
  have hd1 : decide (s.size ≤ i) = true := by simpa using hle
  clear hd hi
  go_enter Tryd.func107, Tryd.ntmps107
  go_wp2_with fail
  refine C1.mono ?_
  rintro e w1 ⟨rfl, F1⟩
  have H1 : Rd w1 b s i := Blk.fr H F1 (by simp)
  have h0 : w1.cell? ⟨b, 0, none⟩ = some (.string s) := Blk.cell H1 0 rfl
  have h1 : w1.cell? ⟨b, 1, none⟩ = some (.int .i64 i) := Blk.cell H1 1 rfl
  go_wp2_with fail
  go_quiet (fail)
  have F2 := F1.trans (fr_drewN w1 nq) (by simp)
  have H2 : Rd (w1.drewN nq) b s i := H1
  clear h0 h1 F1 H1
  generalize w1.drewN nq = w2 at *
  go_wp2_with fail
  refine (wrong_any b s i w2 H2 hle' hs).mono ?_
  rintro e w3 ⟨v, rfl, HF, F3⟩
  go_wp2_with fail
  go_ret2
  exact ⟨(F2.trans F3 (by simp)).mono (by simp), v, rfl, HF.mono F2.size⟩

set_option maxHeartbeats 4000000 in
theorem sign_wrong (b : Nat) (s : ByteArray) (i : Nat) (w : World) (H : Rd w b s i) (hi : i < s.size) (hs : s.size ≤ 100000) (h92 : Hid (s[i] ≠ 92))
    (hc : ((s[i].toNat : Nat) : Int) < 32 ∨ (¬ ((s[i].toNat : Nat) : Int) < 32 ∧ (126 : Int) < ((s[i].toNat : Nat) : Int)) ∨
      (¬ ((s[i].toNat : Nat) : Int) < 32 ∧ ¬ (126 : Int) < ((s[i].toNat : Nat) : Int) ∧ 0 ≤ Lib.indexByte marked s[i])) :
    Calls Tryd.prog 107 #[.pointer (some ⟨b, 0, none⟩)] w (SignPost b s i (.bad 0) w) := by
  have C1 := is_any b s i 92 w H false (Lib.hid (by
    have h := List.drop_eq_getElem_cons (l := s.data.toList) (i := i) (by simpa using hi)
    rw [h]; simp only [List.head?_cons, Option.some.injEq, decide_eq_false_iff_not]; exact h92.out))
  clear h92
  have hle' : i ≤ s.size := by omega
  have hi0 : (0 : Int) ≤ (i : Int) := by omega
  have hi1 : (i : Int) < (s.size : Int) := by omega
  have hd1 : decide (s.size ≤ i) = false := by simpa using hi
  rcases hc with hlow | ⟨hlow, hhigh⟩ | ⟨hlow, hhigh, hmark⟩
  case inl => 
    have e1 : decide (((s[i].toNat : Nat) : Int) < 32) = true := by simpa using hlow
    go_enter Tryd.func107, Tryd.ntmps107
    go_wp2_with fail
    refine C1.mono ?_
    rintro e w1 ⟨rfl, F1⟩
    have H1 : Rd w1 b s i := Blk.fr H F1 (by simp)
    have h0 : w1.cell? ⟨b, 0, none⟩ = some (.string s) := Blk.cell H1 0 rfl
    have h1 : w1.cell? ⟨b, 1, none⟩ = some (.int .i64 i) := Blk.cell H1 1 rfl
    go_wp2_with fail
    go_quiet (fail)
    have F2 := F1.trans (fr_drewN w1 nq) (by simp)
    have H2 : Rd (w1.drewN nq) b s i := H1
    clear h0 h1 F1 H1
    generalize w1.drewN nq = w2 at *
    go_wp2_with fail
    refine (wrong_any b s i w2 H2 hle' hs).mono ?_
    rintro e w3 ⟨v, rfl, HF, F3⟩
    go_wp2_with fail
    go_ret2
    exact ⟨(F2.trans F3 (by simp)).mono (by simp), v, rfl, HF.mono F2.size⟩
  case inr.inl =>
    have e1 : decide (((s[i].toNat : Nat) : Int) < 32) = false := by simpa using hlow
    have e2 : decide ((126 : Int) < ((s[i].toNat : Nat) : Int)) = true := by simpa using hhigh
    go_enter Tryd.func107, Tryd.ntmps107
    go_wp2_with fail
    refine C1.mono ?_
    rintro e w1 ⟨rfl, F1⟩
    have H1 : Rd w1 b s i := Blk.fr H F1 (by simp)
    have h0 : w1.cell? ⟨b, 0, none⟩ = some (.string s) := Blk.cell H1 0 rfl
    have h1 : w1.cell? ⟨b, 1, none⟩ = some (.int .i64 i) := Blk.cell H1 1 rfl
    go_wp2_with fail
    go_quiet (fail)
    have F2 := F1.trans (fr_drewN w1 nq) (by simp)
    have H2 : Rd (w1.drewN nq) b s i := H1
    clear h0 h1 F1 H1
    generalize w1.drewN nq = w2 at *
    go_wp2_with fail
    refine (wrong_any b s i w2 H2 hle' hs).mono ?_
    rintro e w3 ⟨v, rfl, HF, F3⟩
    go_wp2_with fail
    go_ret2
    exact ⟨(F2.trans F3 (by simp)).mono (by simp), v, rfl, HF.mono F2.size⟩
  case inr.inr =>
    have e1 : decide (((s[i].toNat : Nat) : Int) < 32) = false := by simpa using hlow
    have e2 : decide ((126 : Int) < ((s[i].toNat : Nat) : Int)) = false := by simpa using hhigh
    obtain ⟨p, hp⟩ : ∃ p, p = Lib.indexByte marked s[i] := ⟨_, rfl⟩
    rw [← hp] at hmark
    have CI := Lib.hid (fun W => idx_byte ⟨#[91, 93, 92, 45, 94]⟩ s[i] p hp.symm W)
    clear hp
    go_enter Tryd.func107, Tryd.ntmps107
    go_wp2_with fail
    refine C1.mono ?_
    rintro e w1 ⟨rfl, F1⟩
    have H1 : Rd w1 b s i := Blk.fr H F1 (by simp)
    have h0 : w1.cell? ⟨b, 0, none⟩ = some (.string s) := Blk.cell H1 0 rfl
    have h1 : w1.cell? ⟨b, 1, none⟩ = some (.int .i64 i) := Blk.cell H1 1 rfl
    go_wp2_with fail
    go_quiet ((go_at_call 38; exact Calls.quiet_of_same (CI.out _)))
    have F2 := F1.trans (fr_drewN w1 nq) (by simp)
    have H2 : Rd (w1.drewN nq) b s i := H1
    clear h0 h1 F1 H1
    generalize w1.drewN nq = w2 at *
    go_wp2_with fail
    refine (wrong_any b s i w2 H2 hle' hs).mono ?_
    rintro e w3 ⟨v, rfl, HF, F3⟩
    go_wp2_with fail
    go_ret2
    exact ⟨(F2.trans F3 (by simp)).mono (by simp), v, rfl, HF.mono F2.size⟩
end Go.Proofs.YtglknnncpaggpaaDoor
