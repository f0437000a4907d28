/- The cutter: escape. -/
import Derived.Test.YtglknnncpaggpaaDoorLexB
namespace Go.Proofs.YtglknnncpaggpaaDoor
open Go.RowKit

def EscPost (s : ByteArray) (p : Nat) (r : R UInt8) (w : World) (e : Ending) (w' : World) : Prop :=
  Fr [] w w' ∧ match r with
  | .ok y n => e = .returned (.tuple #[.int .u8 y.toNat, .int .i64 ((p + n : Nat) : Int), .nilIface])
  | .bad n => ∃ v, e = .returned (.tuple #[.int .u8 0, .int .i64 0, v]) ∧ FaultAt w.heap.size w' v (codeAt s (p + n)) ((p + n : Nat) : Int)

set_option maxHeartbeats 4000000 in
theorem escape_end (B bc : Nat) (s : ByteArray) (p0 : Nat) (ts : List Tok) (p : Nat) (w : World) (H : Ct B bc s p0 ts w) (hp : p + 1 = s.size) (hs : s.size ≤ 100000) :
    Calls Tryd.prog 91 #[.pointer (some ⟨bc, 0, none⟩), .int .i64 p] w (EscPost s p (.bad 1) w) := by
  obtain ⟨h0, _, _⟩ := H.cells
  have hle : (s.size : Int) ≤ (p : Int) + 1 := by omega
  have hp1 : p + 1 ≤ s.size := by omega
  have W1 := Lib.hid (cwrong_any B bc s p0 ts (p + 1) w H hp1)
  clear hp
  go_enter Tryd.func91, Tryd.ntmps91
  go_wp2_with fail
  refine W1.out.mono ?_
  rintro e w1 ⟨v, rfl, HF, F1⟩
  go_wp2_with fail
  go_ret3
  exact ⟨F1, v, rfl, HF⟩

theorem byte_eq {c : UInt8} {k : Int} (u : UInt8) (hu : (u.toNat : Int) = k) (h : (((c.toNat : Nat) : Int) == k) = true) : c = u := by
  have h2 := eq_of_beq h
  exact UInt8.toNat_inj.1 (by omega)
theorem byte_ne {c : UInt8} {k : Int} (u : UInt8) (hu : (u.toNat : Int) = k) (h : (((c.toNat : Nat) : Int) == k) = false) : c ≠ u := by
  rintro rfl
  rw [hu] at h
  simp at h
theorem ret_esc {a b : Int} {n m : Int} {v : Value} (h : a = b) (k : n = m) : Ending.returned (.tuple #[.int .u8 a, .int .i64 n, v]) = .returned (.tuple #[.int .u8 b, .int .i64 m, v]) := by rw [h, k]

/-- The two digits, one at a time. -/
def hexRest : Nat → Nat → List UInt8 → R UInt8
  | 0, _, [] => .bad 2
  | 0, m, h :: l => if Lib.indexByte hexes h < 0 then .bad 2 else
    match l with
    | [] => .bad 3
    | g :: _ => if Lib.indexByte hexes g < 0 then .bad 3 else .ok (16 * (16 * m + (Lib.indexByte hexes h).toNat) + (Lib.indexByte hexes g).toNat).toUInt8 4
  | 1, _, [] => .bad 3
  | 1, m, g :: _ => if Lib.indexByte hexes g < 0 then .bad 3 else .ok (16 * m + (Lib.indexByte hexes g).toNat).toUInt8 4
  | _ + 2, m, _ => .ok m.toUInt8 4
theorem hexL_rest (l : List UInt8) : hexL l = hexRest 0 0 l := by
  match l with
  | [] => rfl
  | [h] => rfl
  | h :: g :: l =>
    simp only [hexL, hexRest]
    by_cases h1 : Lib.indexByte hexes h < 0
    · rw [if_pos h1, if_pos h1]
    · rw [if_neg h1, if_neg h1]
      by_cases h2 : Lib.indexByte hexes g < 0
      · rw [if_pos h2, if_pos h2]
      · rw [if_neg h2, if_neg h2, show (16 * Lib.indexByte hexes h + Lib.indexByte hexes g).toNat = 16 * (16 * 0 + (Lib.indexByte hexes h).toNat) + (Lib.indexByte hexes g).toNat from by omega]

theorem hexRest_step {k m : Nat} (hk : k < 2) {h : UInt8} {l : List UInt8} :
    hexRest k m (h :: l) = if Lib.indexByte hexes h < 0 then .bad (2 + k) else hexRest (k + 1) (16 * m + (Lib.indexByte hexes h).toNat) l := by
  have hk' : k = 0 ∨ k = 1 := by omega
  rcases hk' with rfl | rfl
  · simp only [hexRest]
    split
    · rfl
    · cases l <;> rfl
  · simp only [hexRest]
theorem u8_of_nat (m : Nat) (hm : m < 256) : (m : Int) = ((m.toUInt8.toNat : Nat) : Int) := by
  simp
  omega
theorem i64_hex (m y : Nat) (hm : m < 16) (hy : y < 16) : bits .or .i64 ((m : Int) * 16) (y : Int) = ((16 * m + y : Nat) : Int) := by
  have h : ∀ m : Fin 16, ∀ y : Fin 16, m.val * 16 ||| y.val = 16 * m.val + y.val := by decide
  have h2 := h ⟨m, hm⟩ ⟨y, hy⟩
  simp only at h2
  have e : ∀ n : Nat, n < 9223372036854775808 → (BitVec.ofInt 64 (n : Int)).toNat = n := fun n hn => by
    rw [BitVec.ofInt_natCast, BitVec.toNat_ofNat]; exact Nat.mod_eq_of_lt (by omega)
  have hc : (m : Int) * 16 = ((m * 16 : Nat) : Int) := by omega
  rw [hc]
  show IntKind.i64.wrap ((BitVec.ofInt 64 ((m * 16 : Nat) : Int) ||| BitVec.ofInt 64 (y : Int)).toNat : Int) = _
  rw [BitVec.toNat_or, e _ (by omega), e _ (by omega), h2, IntKind.wrap_i64]
  omega

set_option maxHeartbeats 4000000 in
theorem escape_in (B bc : Nat) (s : ByteArray) (p0 : Nat) (ts : List Tok) (p : Nat) (w : World) (H : Ct B bc s p0 ts w) (hp : p + 1 < s.size) (hs : s.size ≤ 100000) (c : UInt8) (l : List UInt8) (hc : Hid (s[p + 1] = c)) (hl : Hid (s.data.toList.drop (p + 1 + 1) = l)) :
    Calls Tryd.prog 91 #[.pointer (some ⟨bc, 0, none⟩), .int .i64 p] w (EscPost s p (escL (c :: l)) w) := by
  have HC := hc
  obtain ⟨h0, _, _⟩ := H.cells
  have hi0 : (0 : Int) ≤ (p : Int) + 1 := by omega
  have hi1 : (p : Int) + 1 < (s.size : Int) := by omega
  have W1 := Lib.hid (cwrong_any B bc s p0 ts (p + 1) w H (by omega))
  go_enter Tryd.func91, Tryd.ntmps91
  go_wp2_with fail
  · have e1 : escL (c :: l) = .ok 10 2 := by
      have e : c = 110 := byte_eq 110 rfl (by rw [← HC.out]; assumption)
      subst e
      rfl
    rw [e1]
    go_ret3
    exact ⟨Fr.refl _ _, ret_esc rfl rfl⟩
  · have e1 : escL (c :: l) = .ok 13 2 := by
      have n110 : c ≠ 110 := byte_ne 110 rfl (by rw [← HC.out]; assumption)
      have e : c = 114 := byte_eq 114 rfl (by rw [← HC.out]; assumption)
      subst e
      rfl
    rw [e1]
    go_ret3
    exact ⟨Fr.refl _ _, ret_esc rfl rfl⟩
  · have e1 : escL (c :: l) = .ok 9 2 := by
      have n110 : c ≠ 110 := byte_ne 110 rfl (by rw [← HC.out]; assumption)
      have n114 : c ≠ 114 := byte_ne 114 rfl (by rw [← HC.out]; assumption)
      have e : c = 116 := byte_eq 116 rfl (by rw [← HC.out]; assumption)
      subst e
      rfl
    rw [e1]
    go_ret3
    exact ⟨Fr.refl _ _, ret_esc rfl rfl⟩
  · have e1 : escL (c :: l) = .ok c 2 := by
      have e : c = 92 := byte_eq 92 rfl (by rw [← HC.out]; assumption)
      subst e
      rfl
    rw [e1]
    go_ret3
    exact ⟨Fr.refl _ _, ret_esc (by rw [HC.out]) rfl⟩
  · have e1 : escL (c :: l) = .ok c 2 := by
      have e : c = 34 := byte_eq 34 rfl (by rw [← HC.out]; assumption)
      subst e
      rfl
    rw [e1]
    go_ret3
    exact ⟨Fr.refl _ _, ret_esc (by rw [HC.out]) rfl⟩
  · have e1 : escL (c :: l) = .ok c 2 := by
      have e : c = 39 := byte_eq 39 rfl (by rw [← HC.out]; assumption)
      subst e
      rfl
    rw [e1]
    go_ret3
    exact ⟨Fr.refl _ _, ret_esc (by rw [HC.out]) rfl⟩
  · have e1 : escL (c :: l) = hexL l := by
      have e : c = 120 := byte_eq 120 rfl (by rw [← HC.out]; assumption)
      subst e
      rfl
    have E1 := Lib.hid e1
    clear e1 W1
    have f110 : (((s[p + 1].toNat : Nat) : Int) == 110) = false := by assumption
    have f114 : (((s[p + 1].toNat : Nat) : Int) == 114) = false := by assumption
    have f116 : (((s[p + 1].toNat : Nat) : Int) == 116) = false := by assumption
    have f92 : (((s[p + 1].toNat : Nat) : Int) == 92) = false := by assumption
    have f34 : (((s[p + 1].toNat : Nat) : Int) == 34) = false := by assumption
    have f39 : (((s[p + 1].toNat : Nat) : Int) == 39) = false := by assumption
    have f120 : (((s[p + 1].toNat : Nat) : Int) == 120) = true := by assumption
    simp only [f110, f114, f116, f92, f34, f39, f120]
    have HX := Lib.hid (hexL_rest l)
    have HL := hl.out
    have hs2 : p + 2 ≤ s.size := by omega
    go_loopg [8, 9] 2 (fun g n i wr => ∃ (k : Nat) (m : Nat), k + g = 2 ∧ i = .int .i64 ((p : Int) + 2 + k) ∧ n = .int .i64 m ∧ p + 2 + k ≤ s.size ∧ m < 16 ^ k ∧ hexRest k m (s.data.toList.drop (p + 2 + k)) = hexL l ∧ wr = w)
    case atStart => exact ⟨0, 0, by omega, by simp, by simp, by omega, by decide, (by rw [show p + 2 + 0 = p + 1 + 1 from by omega, HL]; exact HX.out.symm), rfl⟩
    case round =>
      clear HL
      obtain ⟨k, m, hk, rfl, rfl, hks, hm, hr, rfl⟩ := hrel
      have HR := Lib.hid hr
      clear hr
      by_cases hk2 : k = 2
      · subst hk2
        have e2 : hexL l = .ok m.toUInt8 4 := HR.out.symm
        have E2 := Lib.hid e2
        clear e2
        go_wp2_with fail
        go_ret3
        rw [E1.out, E2.out]
        exact ⟨Fr.refl _ _, ret_esc (u8_of_nat m (by have h : m < 16 ^ 2 := hm; omega)) rfl⟩
      · have hk1 : k < 2 := by omega
        have hmm : m < 16 := by
          have : 16 ^ k ≤ 16 ^ 1 := Nat.pow_le_pow_right (by decide) (by omega)
          omega
        obtain ⟨j, hj⟩ : ∃ j, j = p + 2 + k := ⟨_, rfl⟩
        have hjz : (p : Int) + 2 + (k : Int) = (j : Int) := by omega
        rw [hjz]
        rw [← hj] at hks
        have HR' := HR.out
        rw [← hj] at HR'
        have W2 := Lib.hid (cwrong_any B bc s p0 ts j wr H hks)
        have hlt4 : (j : Int) < (p : Int) + 4 := by omega
        have HJ := Lib.hid hj
        clear HR hjz hj
        by_cases hjs : j < s.size
        · have hstep := List.drop_eq_getElem_cons (l := s.data.toList) (i := j) (by simpa using hjs)
          have hbyte : s.data.toList[j]'(by simpa using hjs) = s[j] := rfl
          rw [hbyte] at hstep
          rw [hstep, hexRest_step hk1] at HR'
          have g0 : (0 : Int) ≤ (j : Int) := by omega
          have g1 : (j : Int) < (s.size : Int) := by omega
          have hd1 : decide (s.size ≤ j) = false := by simpa using hjs
          obtain ⟨x, hx⟩ : ∃ x, Lib.indexByte hexes s[j] = x := ⟨_, rfl⟩
          rw [hx] at HR'
          have CI := Lib.hid (fun W => idx_byte ⟨#[48, 49, 50, 51, 52, 53, 54, 55, 56, 57, 97, 98, 99, 100, 101, 102]⟩ s[j] x hx W)
          have hxb : 0 ≤ x → x < 16 := fun h => by rw [← hx] at h ⊢; exact (index_bound hexes s[j] h).1
          clear hx hstep hbyte
          by_cases hx0 : x < 0
          · rw [if_pos hx0] at HR'
            have HR'' := Lib.hid HR'
            clear HR' hxb
            go_wp2_with (first | (go_at_call 38; refine (CI.out _).mono ?_; rintro e w' ⟨rfl, rfl⟩) | fail)
            refine W2.out.mono ?_
            rintro e w1 ⟨v, rfl, HF, F1⟩
            go_wp2_with fail
            go_ret3
            rw [E1.out, ← HR''.out]
            have hj := HJ.out
            subst hj
            exact ⟨F1, v, rfl, by rw [show p + (2 + k) = p + 2 + k from by omega]; exact HF⟩
          · rw [if_neg hx0] at HR'
            have hx16 := hxb (by omega)
            have HR'' := Lib.hid HR'
            have hx00 : 0 ≤ x := by omega
            obtain ⟨y, rfl⟩ := Int.eq_ofNat_of_zero_le hx00
            have OR := i64_hex m y hmm (by omega)
            clear HR' hxb hx0
            go_wp2_with (first | (go_at_call 38; refine (CI.out _).mono ?_; rintro e w' ⟨rfl, rfl⟩) | fail)
            go_roundg (2 - (k + 1))
            case rel =>
              have hj := HJ.out
              subst hj
              refine ⟨k + 1, 16 * m + y, by omega, by go_num, by go_num, by omega, by rw [Nat.pow_succ]; omega, ?_, rfl⟩
              have h9 := HR''.out
              rw [show p + 2 + (k + 1) = p + 2 + k + 1 from by omega]
              simpa using h9
            case measure => omega
        · have hl0 : s.data.toList.drop j = [] := List.drop_eq_nil_of_le (by simp; omega)
          have hb : hexRest k m [] = .bad (2 + k) := by
            have hk' : k = 0 ∨ k = 1 := by omega
            rcases hk' with rfl | rfl <;> rfl
          rw [hl0, hb] at HR'
          have HR'' := Lib.hid HR'
          have hd1 : decide (s.size ≤ j) = true := by simpa using hjs
          clear HR' hb hl0
          go_wp2_with fail
          refine W2.out.mono ?_
          rintro e w1 ⟨v, rfl, HF, F1⟩
          go_wp2_with fail
          go_ret3
          rw [E1.out, ← HR''.out]
          have hj := HJ.out
          subst hj
          exact ⟨F1, v, rfl, by rw [show p + (2 + k) = p + 2 + k from by omega]; exact HF⟩
  · have e1 : escL (c :: l) = .bad 1 := by
      have n110 : c ≠ 110 := byte_ne 110 rfl (by rw [← HC.out]; assumption)
      have n114 : c ≠ 114 := byte_ne 114 rfl (by rw [← HC.out]; assumption)
      have n116 : c ≠ 116 := byte_ne 116 rfl (by rw [← HC.out]; assumption)
      have n92 : c ≠ 92 := byte_ne 92 rfl (by rw [← HC.out]; assumption)
      have n34 : c ≠ 34 := byte_ne 34 rfl (by rw [← HC.out]; assumption)
      have n39 : c ≠ 39 := byte_ne 39 rfl (by rw [← HC.out]; assumption)
      have n120 : c ≠ 120 := byte_ne 120 rfl (by rw [← HC.out]; assumption)
      simp only [escL]
      rw [if_neg n110, if_neg n114, if_neg n116, if_neg (by rintro (h | h | h); exact n92 h; exact n34 h; exact n39 h), if_neg n120]
    refine W1.out.mono ?_
    rintro e w1 ⟨v, rfl, HF, F1⟩
    go_wp2_with fail
    go_ret3
    rw [e1]
    exact ⟨F1, v, rfl, HF⟩
end Go.Proofs.YtglknnncpaggpaaDoor
