/- The cutter: letter, digit, name, fault, wrong. -/
import Derived.Test.YtglknnncpaggpaaDoorClsH
import Derived.Test.YtglknnncpaggpaaDoorBldB
import Derived.Test.YtglknnncpaggpaaDoorPureB
namespace Go.Proofs.YtglknnncpaggpaaDoor
open Go.RowKit

theorem ret_bool {a b : Bool} (h : a = b) : Ending.returned (.bool a) = .returned (.bool b) := by rw [h]
theorem u8_or (a b : Nat) (ha : a < 256) (hb : b < 256) : bits .or .u8 (a : Int) (b : Int) = ((a ||| b : Nat) : Int) := by
  have hx : a ||| b < 2 ^ 8 := Nat.or_lt_two_pow (by omega) (by omega)
  have e : ∀ n : Nat, n < 256 → (BitVec.ofInt 8 (n : Int)).toNat = n := fun n hn => by
    rw [BitVec.ofInt_natCast, BitVec.toNat_ofNat]; exact Nat.mod_eq_of_lt (by omega)
  show IntKind.u8.wrap ((BitVec.ofInt 8 (a : Int) ||| BitVec.ofInt 8 (b : Int)).toNat : Int) = _
  rw [BitVec.toNat_or, e a ha, e b hb, IntKind.wrap_u8]
  omega

set_option maxHeartbeats 400000 in
theorem letter_any (c : UInt8) (w : World) :
    Calls Tryd.prog 86 #[.int .u8 c.toNat] w fun e w' => e = .returned (.bool (isLetter c)) ∧ w' = w := by
  have hc := c.toNat_lt
  have e1 := u8_or c.toNat 32 (by omega) (by omega)
  obtain ⟨m, hm⟩ : ∃ m, m = c.toNat ||| 32 := ⟨_, rfl⟩
  have e1 : bits .or .u8 (c.toNat : Int) 32 = (m : Int) := by rw [hm]; exact e1
  have hL : isLetter c = (decide (97 ≤ m) && decide (m ≤ 122) || decide (c.toNat = 95)) := by rw [hm]; rfl
  rw [hL]
  clear hm hL hc
  go_enter Tryd.func86, Tryd.ntmps86
  go_wp2
  all_goals
    go_ret
    refine ⟨ret_bool ?_, rfl⟩
    rw [Bool.eq_iff_iff]
    simp
    omega

set_option maxHeartbeats 400000 in
theorem digit_any (c : UInt8) (w : World) :
    Calls Tryd.prog 87 #[.int .u8 c.toNat] w fun e w' => e = .returned (.bool (isDigit c)) ∧ w' = w := by
  have hc := c.toNat_lt
  obtain ⟨m, hm⟩ : ∃ m, m = c.toNat := ⟨_, rfl⟩
  have hL : isDigit c = (decide (48 ≤ m) && decide (m ≤ 57)) := by rw [hm]; rfl
  rw [hL, ← hm]
  clear hm hL
  go_enter Tryd.func87, Tryd.ntmps87
  go_wp2
  all_goals
    go_ret
    refine ⟨ret_bool ?_, rfl⟩
    rw [Bool.eq_iff_iff]
    simp
    omega

/-- A string's suffix from a place on. -/
theorem nameFrom_step {s : ByteArray} {k : Nat} (hk : k < s.size) : nameFrom k (s.data.toList.drop k) = if nameOk k s[k] then nameFrom (k + 1) (s.data.toList.drop (k + 1)) else k := by
  have h := List.drop_eq_getElem_cons (l := s.data.toList) (i := k) (by simpa using hk)
  rw [h]
  rfl

def NamePost (n : Nat) (w : World) (e : Ending) (w' : World) : Prop := e = .returned (.int .i64 n) ∧ w = w'
set_option maxHeartbeats 4000000 in
theorem name_any (s : ByteArray) (w : World) (hs : s.size ≤ 100000) :
    Calls Tryd.prog 64 #[.string s] w (NamePost (nameLen s.data.toList) w) := by
  obtain ⟨n, hn⟩ : ∃ n, nameLen s.data.toList = n := ⟨_, rfl⟩
  rw [hn]
  have HN : nameFrom 0 (s.data.toList.drop 0) = n := hn
  clear hn
  go_enter Tryd.func64, Tryd.ntmps64
  go_wp2_with fail
  go_loopw [6] (fun i wr => ∃ k : Nat, k ≤ s.size ∧ i = .int .i64 k ∧ nameFrom k (s.data.toList.drop k) = n ∧ wr = w) (fun i _ => s.size - (intOf i).toNat)
  case atStart => exact ⟨0, by omega, rfl, HN, rfl⟩
  case round =>
    clear HN
    obtain ⟨k, hk, rfl, HK, rfl⟩ := hrel
    have HK' := Lib.hid HK
    clear HK
    by_cases hlt : k < s.size
    · have HS := HK'.out
      rw [nameFrom_step hlt] at HS
      have hi0 : (0 : Int) ≤ (k : Int) := by omega
      have hi1 : (k : Int) < (s.size : Int) := by omega
      obtain ⟨x, hx⟩ : ∃ x, x = isLetter s[k] := ⟨_, rfl⟩
      obtain ⟨y, hy⟩ : ∃ y, y = isDigit s[k] := ⟨_, rfl⟩
      have CL := Lib.hid (fun W => by have := letter_any s[k] W; rw [← hx] at this; exact this)
      have CD := Lib.hid (fun W => by have := digit_any s[k] W; rw [← hy] at this; exact this)
      have hok : nameOk k s[k] = (x || (k != 0 && y)) := by rw [hx, hy]; rfl
      rw [hok] at HS
      clear hx hy hok HK'
      cases x with
      | true =>
        have HT := Lib.hid (show nameFrom (k + 1) (s.data.toList.drop (k + 1)) = n from HS)
        clear HS
        go_wp2_with (first | (go_at_call 86; refine (CL.out _).mono ?_; rintro e w' ⟨rfl, rfl⟩) | (go_at_call 87; refine (CD.out _).mono ?_; rintro e w' ⟨rfl, rfl⟩))
        go_roundw
        case rel => exact ⟨k + 1, by omega, by go_num, HT.out, (by first | rfl | trivial)⟩
        case measure => simp [intOf]; omega
      | false =>
        by_cases hk0 : k = 0
        · have e : k = n := by
            have h2 := HS
            rw [show (k != 0) = false from by simp [hk0]] at h2
            exact h2
          clear HS
          subst e
          have hb : ((k : Int) == 0) = true := by simp [hk0]
          clear hk0
          go_wp2_with (first | (go_at_call 86; refine (CL.out _).mono ?_; rintro e w' ⟨rfl, rfl⟩) | (go_at_call 87; refine (CD.out _).mono ?_; rintro e w' ⟨rfl, rfl⟩))
          go_ret
          exact ⟨rfl, rfl⟩
        · have hb : ((k : Int) == 0) = false := by simp [hk0]
          have hb' : (k != 0) = true := by simp [hk0]
          rw [hb'] at HS
          clear hb'
          cases y with
          | true =>
            have HT := Lib.hid (show nameFrom (k + 1) (s.data.toList.drop (k + 1)) = n from HS)
            clear HS
            go_wp2_with (first | (go_at_call 86; refine (CL.out _).mono ?_; rintro e w' ⟨rfl, rfl⟩) | (go_at_call 87; refine (CD.out _).mono ?_; rintro e w' ⟨rfl, rfl⟩))
            go_roundw
            case rel => exact ⟨k + 1, by omega, by go_num, HT.out, (by first | rfl | trivial)⟩
            case measure => simp [intOf]; omega
          | false =>
            have e : k = n := HS
            clear HS
            subst e
            go_wp2_with (first | (go_at_call 86; refine (CL.out _).mono ?_; rintro e w' ⟨rfl, rfl⟩) | (go_at_call 87; refine (CD.out _).mono ?_; rintro e w' ⟨rfl, rfl⟩))
            go_ret
            exact ⟨rfl, rfl⟩
    · have hks : k = s.size := by omega
      have HE : n = s.size := by
        rw [← HK'.out, hks, List.drop_eq_nil_of_le (by simp)]
        rfl
      subst HE
      clear HK' hks
      go_wp2_with fail
      go_ret
      exact ⟨rfl, rfl⟩
end Go.Proofs.YtglknnncpaggpaaDoor
