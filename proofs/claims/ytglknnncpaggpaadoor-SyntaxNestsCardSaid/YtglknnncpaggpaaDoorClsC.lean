/- The reader of classes: sign, the rest. -/
import Derived.Test.YtglknnncpaggpaaDoorClsB
namespace Go.Proofs.YtglknnncpaggpaaDoor
open Go.RowKit

set_option maxHeartbeats 4000000 in
theorem sign_plain (b : Nat) (s : ByteArray) (i : Nat) (w : World) (H : Rd w b s i) (hi : i < s.size) (hs : s.size ≤ 100000) (h92 : Hid (s[i] ≠ 92))
    (hlow : ¬ ((s[i].toNat : Nat) : Int) < 32) (hhigh : ¬ (126 : Int) < ((s[i].toNat : Nat) : Int)) (hmark : ¬ 0 ≤ Lib.indexByte marked s[i]) :
    Calls Tryd.prog 107 #[.pointer (some ⟨b, 0, none⟩)] w (SignPost b s i (.ok s[i].toNat 1) w) := by
  have C1 := is_any b s i 92 w H false (Lib.hid (by
    have h := List.drop_eq_getElem_cons (l := s.data.toList) (i := i) (by simpa using hi)
    rw [h]; simp only [List.head?_cons, Option.some.injEq, decide_eq_false_iff_not]; exact h92.out))
  clear h92
  have hi0 : (0 : Int) ≤ (i : Int) := by omega
  have hi1 : (i : Int) < (s.size : Int) := by omega
  have hd1 : decide (s.size ≤ i) = false := by simpa using hi
  have e1 : decide (((s[i].toNat : Nat) : Int) < 32) = false := by simpa using hlow
  have e2 : decide ((126 : Int) < ((s[i].toNat : Nat) : Int)) = false := by simpa using hhigh
  obtain ⟨p, hp⟩ : ∃ p, p = Lib.indexByte marked s[i] := ⟨_, rfl⟩
  rw [← hp] at hmark
  have CI := Lib.hid (fun W => idx_byte ⟨#[91, 93, 92, 45, 94]⟩ s[i] p hp.symm W)
  clear hp
  have hp0 : p < 0 := by omega
  clear hmark
  go_enter Tryd.func107, Tryd.ntmps107
  go_wp2_with fail
  refine C1.mono ?_
  rintro e w1 ⟨rfl, F1⟩
  have H1 : Rd w1 b s i := Blk.fr H F1 (by simp)
  have h0 : w1.cell? ⟨b, 0, none⟩ = some (.string s) := Blk.cell H1 0 rfl
  have h1 : w1.cell? ⟨b, 1, none⟩ = some (.int .i64 i) := Blk.cell H1 1 rfl
  go_wp2_with fail
  go_quiet ((go_at_call 38; exact Calls.quiet_of_same (CI.out _)))
  have F2 := F1.trans (fr_drewN w1 nq) (by simp)
  have H2 : Rd (w1.drewN nq) b s i := H1
  have k0 : (w1.drewN nq).cell? ⟨b, 0, none⟩ = some (.string s) := h0
  have k1 : (w1.drewN nq).cell? ⟨b, 1, none⟩ = some (.int .i64 i) := h1
  have kf : (w1.drewN nq).frozen? ⟨b, 1, none⟩ = false := Blk.free H2 1
  clear h0 h1 F1 H1
  generalize w1.drewN nq = w2 at *
  go_wp2_with fail
  have F3 : Fr [b] w (w2.setCell ⟨b, 1, none⟩ (.int .i64 ((i : Int) + 1))) := (F2.mono (by simp)).setCell (.inl (by simp)) _
  have H3 : Rd (w2.setCell ⟨b, 1, none⟩ (.int .i64 ((i : Int) + 1))) b s (i + 1) := Blk.set H2 1 _
  have l0 : (w2.setCell ⟨b, 1, none⟩ (.int .i64 ((i : Int) + 1))).cell? ⟨b, 0, none⟩ = some (.string s) := Blk.cell H3 0 rfl
  have l1 : (w2.setCell ⟨b, 1, none⟩ (.int .i64 ((i : Int) + 1))).cell? ⟨b, 1, none⟩ = some (.int .i64 ((i : Int) + 1)) := Blk.cell H3 1 rfl
  clear k0 k1 kf F2 H2
  generalize w2.setCell ⟨b, 1, none⟩ (.int .i64 ((i : Int) + 1)) = w3 at *
  go_quiet (fail)
  go_wp2_with fail
  go_ret2
  exact ⟨F3.drewN _, rfl, H3⟩

theorem pick_named (b : Nat) (s of : ByteArray) (i : Nat) (w : World) (H : Rd w b s i) (hs : s.size ≤ 100000) (p : Int) (hp : Hid (pickAt of.data.toList (s.data.toList.drop i) = p)) :
    Calls Tryd.prog 100 #[.pointer (some ⟨b, 0, none⟩), .string of] w (PickPost b s i p w) := by
  rw [← hp.out]; exact pick_any b s of i w H hs

/-- Behind a backslash, by picks. -/
def escP (l : List UInt8) : R Int :=
  if 0 ≤ pickAt letters l then .ok (standing.getD (pickAt letters l).toNat 0).toNat 2
  else if 0 ≤ pickAt marked l then .ok (marked.getD (pickAt marked l).toNat 0).toNat 2
  else if pickAt [120] l < 0 then .bad 1
  else if pickAt hexes l.tail < 0 then .bad 2
  else if pickAt hexes l.tail.tail < 0 then .bad 3
  else .ok (16 * pickAt hexes l.tail + pickAt hexes l.tail.tail) 4
theorem pickAt_cons (of : List UInt8) (c : UInt8) (l : List UInt8) : pickAt of (c :: l) = Lib.indexByte of c := rfl
theorem escC_eq (l : List UInt8) : escC l = escP l := by
  match l with
  | [] => rfl
  | c :: l =>
    unfold escP
    rw [pickAt_cons, pickAt_cons, pickAt_cons, List.tail_cons]
    simp only [escC]
    by_cases h1 : 0 ≤ Lib.indexByte letters c
    · rw [if_pos h1, if_pos h1]
    · rw [if_neg h1, if_neg h1]
      by_cases h2 : 0 ≤ Lib.indexByte marked c
      · rw [if_pos h2, if_pos h2, List.getD_eq_getElem?_getD, (index_bound marked c h2).2]; rfl
      · rw [if_neg h2, if_neg h2]
        by_cases hc : c = 120
        · rw [if_neg (by simp [hc]), if_neg (by have := (index_one 120 c).2 hc; omega)]
          match l with
          | [] => rfl
          | [x] =>
            rw [pickAt_cons]
            simp only [hexC, List.tail_cons]
            by_cases h3 : Lib.indexByte hexes x < 0
            · rw [if_pos h3, if_pos h3]
            · rw [if_neg h3, if_neg h3]; rfl
          | x :: y :: l =>
            rw [pickAt_cons, List.tail_cons, pickAt_cons]
            simp only [hexC]
        · rw [if_pos hc, if_pos (by
            by_cases h : 0 ≤ Lib.indexByte [120] c
            · exact absurd ((index_one 120 c).1 h) hc
            · omega)]
theorem pickAt_in {of l : List UInt8} (h : 0 ≤ pickAt of l) : pickAt of l < of.length ∧ 1 ≤ l.length := by
  match l with
  | [] => exact absurd h (by show ¬ (0 : Int) ≤ -1; decide)
  | c :: l => exact ⟨(index_bound of c h).1, by simp⟩

theorem ret_int_nil {a b : Int} {v : Value} (h : a = b) : Ending.returned (.tuple #[.int .i64 a, v]) = .returned (.tuple #[.int .i64 b, v]) := by rw [h]
set_option maxHeartbeats 4000000 in
theorem sign_esc (b : Nat) (s : ByteArray) (i : Nat) (w : World) (H : Rd w b s i) (hi : i < s.size) (hs : s.size ≤ 100000) (h92 : Hid (s[i] = 92))
    (l : List UInt8) (hl : Hid (s.data.toList.drop (i + 1) = l)) :
    Calls Tryd.prog 107 #[.pointer (some ⟨b, 0, none⟩)] w (SignPost b s i (escC l) w) := by
  rw [escC_eq]
  have C1 := is_any b s i 92 w H true (Lib.hid (by
    have h := List.drop_eq_getElem_cons (l := s.data.toList) (i := i) (by simpa using hi)
    rw [h]; simp only [List.head?_cons, Option.some.injEq, decide_eq_true_eq]; exact h92.out))
  clear h92
  have hi0 : (0 : Int) ≤ (i : Int) := by omega
  have hi1 : (i : Int) < (s.size : Int) := by omega
  have hlen : l.length = s.size - (i + 1) := by
    rw [← hl.out, List.length_drop]; rfl
  have HL := Lib.hid hlen
  clear hlen
  have hl1 : Hid (s.data.toList.drop (i + 1 + 1) = l.tail) := Lib.hid (by rw [← hl.out, List.tail_drop])
  have hl2 : Hid (s.data.toList.drop (i + 1 + 1 + 1) = l.tail.tail) := Lib.hid (by rw [← hl1.out, List.tail_drop])
  obtain ⟨p1, hp1⟩ : ∃ p, pickAt letters l = p := ⟨_, rfl⟩
  obtain ⟨p2, hp2⟩ : ∃ p, pickAt marked l = p := ⟨_, rfl⟩
  obtain ⟨p3, hp3⟩ : ∃ p, pickAt [120] l = p := ⟨_, rfl⟩
  obtain ⟨p4, hp4⟩ : ∃ p, pickAt hexes l.tail = p := ⟨_, rfl⟩
  obtain ⟨p5, hp5⟩ : ∃ p, pickAt hexes l.tail.tail = p := ⟨_, rfl⟩
  have E := Lib.hid (show escP l = _ from by unfold escP; rw [hp1, hp2, hp3, hp4, hp5])
  have B1 : 0 ≤ p1 → p1 < 3 ∧ 1 ≤ l.length := fun h => by rw [← hp1] at h ⊢; exact pickAt_in h
  have B2 : 0 ≤ p2 → p2 < 5 ∧ 1 ≤ l.length := fun h => by rw [← hp2] at h ⊢; exact pickAt_in h
  have B3 : 0 ≤ p3 → p3 < 1 ∧ 1 ≤ l.length := fun h => by rw [← hp3] at h ⊢; exact pickAt_in h
  have B4 : 0 ≤ p4 → p4 < 16 ∧ 1 ≤ l.tail.length := fun h => by rw [← hp4] at h ⊢; exact pickAt_in h
  have B5 : 0 ≤ p5 → p5 < 16 ∧ 1 ≤ l.tail.tail.length := fun h => by rw [← hp5] at h ⊢; exact pickAt_in h
  have P1 := fun (w : World) (H : Rd w b s (i + 1)) => pick_named b s ⟨#[110, 114, 116]⟩ (i + 1) w H hs p1 (Lib.hid (by rw [hl.out]; exact hp1))
  have P2 := fun (w : World) (H : Rd w b s (i + 1)) => pick_named b s ⟨#[91, 93, 92, 45, 94]⟩ (i + 1) w H hs p2 (Lib.hid (by rw [hl.out]; exact hp2))
  have P3 := fun (w : World) (H : Rd w b s (i + 1)) => pick_named b s ⟨#[120]⟩ (i + 1) w H hs p3 (Lib.hid (by rw [hl.out]; exact hp3))
  have P4 := fun (w : World) (H : Rd w b s (i + 1 + 1)) => pick_named b s ⟨#[48, 49, 50, 51, 52, 53, 54, 55, 56, 57, 97, 98, 99, 100, 101, 102]⟩ (i + 1 + 1) w H hs p4 (Lib.hid (by rw [hl1.out]; exact hp4))
  have P5 := fun (w : World) (H : Rd w b s (i + 1 + 1 + 1)) => pick_named b s ⟨#[48, 49, 50, 51, 52, 53, 54, 55, 56, 57, 97, 98, 99, 100, 101, 102]⟩ (i + 1 + 1 + 1) w H hs p5 (Lib.hid (by rw [hl2.out]; exact hp5))
  have Q1 := Lib.hid P1
  clear P1
  have Q2 := Lib.hid P2
  clear P2
  have Q3 := Lib.hid P3
  clear P3
  have Q4 := Lib.hid P4
  clear P4
  have Q5 := Lib.hid P5
  clear P5
  have D1 := Lib.hid B1
  clear B1
  have D2 := Lib.hid B2
  clear B2
  have D3 := Lib.hid B3
  clear B3
  have D4 := Lib.hid B4
  clear B4
  have D5 := Lib.hid B5
  clear B5
  clear hp1 hp2 hp3 hp4 hp5
  go_enter Tryd.func107, Tryd.ntmps107
  go_wp2_with fail
  refine C1.mono ?_
  rintro e w1 ⟨rfl, F1⟩
  have H1 : Rd w1 b s i := Blk.fr H F1 (by simp)
  have h0 : w1.cell? ⟨b, 0, none⟩ = some (.string s) := Blk.cell H1 0 rfl
  have h1 : w1.cell? ⟨b, 1, none⟩ = some (.int .i64 i) := Blk.cell H1 1 rfl
  have hf : w1.frozen? ⟨b, 1, none⟩ = false := Blk.free H1 1
  go_wp2_with fail
  have F2 : Fr [b] w (w1.setCell ⟨b, 1, none⟩ (.int .i64 ((i : Int) + 1))) := (F1.mono (by simp)).setCell (.inl (by simp)) _
  have H2 : Rd (w1.setCell ⟨b, 1, none⟩ (.int .i64 ((i : Int) + 1))) b s (i + 1) := Blk.set H1 1 _
  clear h0 h1 hf F1 H1
  generalize w1.setCell ⟨b, 1, none⟩ (.int .i64 ((i : Int) + 1)) = w2 at *
  refine (Q1.out w2 H2).mono ?_
  rintro e w3 ⟨rfl, F3, H3⟩
  have F3 := F2.trans F3 (by simp)
  clear F2 H2
  by_cases c1 : 0 ≤ p1
  · rw [if_pos c1] at H3
    obtain ⟨u1, u2⟩ := D1.out c1
    go_wp2_with fail
    go_ret2
    rw [E.out, if_pos c1]
    refine ⟨F3, ret_int_nil ?_, H3⟩
    have hh : p1 = 0 ∨ p1 = 1 ∨ p1 = 2 := by omega
    rcases hh with rfl | rfl | rfl <;> (rw [wrap64_byte]; rfl)
  · rw [if_neg (by omega)] at H3
    go_wp2_with fail
    refine (Q2.out w3 H3).mono ?_
    rintro e w4 ⟨rfl, F4, H4⟩
    have F4 := F3.trans F4 (by simp)
    clear F3 H3
    by_cases c2 : 0 ≤ p2
    · rw [if_pos c2] at H4
      obtain ⟨u1, u2⟩ := D2.out c2
      go_wp2_with fail
      go_ret2
      rw [E.out, if_neg (by omega), if_pos c2]
      refine ⟨F4, ret_int_nil ?_, H4⟩
      have hh : p2 = 0 ∨ p2 = 1 ∨ p2 = 2 ∨ p2 = 3 ∨ p2 = 4 := by omega
      rcases hh with rfl | rfl | rfl | rfl | rfl <;> (rw [wrap64_byte]; rfl)
    · rw [if_neg (by omega)] at H4
      go_wp2_with fail
      refine (Q3.out w4 H4).mono ?_
      rintro e w5 ⟨rfl, F5, H5⟩
      have F5 := F4.trans F5 (by simp)
      clear F4 H4
      by_cases c3 : p3 < 0
      · rw [if_neg (by omega)] at H5
        go_wp2_with fail
        refine (wrong_any b s (i + 1) w5 H5 (by omega) hs).mono ?_
        rintro e w6 ⟨v, rfl, HF, F6⟩
        go_wp2_with fail
        go_ret2
        rw [E.out, if_neg (by omega), if_neg (by omega), if_pos c3]
        exact ⟨F5.trans F6 (by simp), v, rfl, HF.mono F5.size⟩
      · rw [if_pos (by omega)] at H5
        obtain ⟨u1, u2⟩ := D3.out (by omega)
        have hlen := HL.out
        have hi2 : i + 1 + 1 ≤ s.size := by omega
        clear hlen
        go_wp2_with fail
        refine (Q4.out w5 H5).mono ?_
        rintro e w6 ⟨rfl, F6, H6⟩
        have F6 := F5.trans F6 (by simp)
        clear F5 H5
        by_cases c4 : p4 < 0
        · rw [if_neg (by omega)] at H6
          go_wp2_with fail
          refine (wrong_any b s (i + 1 + 1) w6 H6 hi2 hs).mono ?_
          rintro e w7 ⟨v, rfl, HF, F7⟩
          go_wp2_with fail
          go_ret2
          rw [E.out, if_neg (by omega), if_neg (by omega), if_neg (by omega), if_pos c4]
          exact ⟨F6.trans F7 (by simp), v, rfl, HF.mono F6.size⟩
        · rw [if_pos (by omega)] at H6
          obtain ⟨u3, u4⟩ := D4.out (by omega)
          have hlen := HL.out
          have htl : l.tail.length = l.length - 1 := List.length_tail
          have hi3 : i + 1 + 1 + 1 ≤ s.size := by omega
          clear hlen htl
          go_wp2_with fail
          refine (Q5.out w6 H6).mono ?_
          rintro e w7 ⟨rfl, F7, H7⟩
          have F7 := F6.trans F7 (by simp)
          clear F6 H6
          by_cases c5 : p5 < 0
          · rw [if_neg (by omega)] at H7
            go_wp2_with fail
            refine (wrong_any b s (i + 1 + 1 + 1) w7 H7 hi3 hs).mono ?_
            rintro e w8 ⟨v, rfl, HF, F8⟩
            go_wp2_with fail
            go_ret2
            rw [E.out, if_neg (by omega), if_neg (by omega), if_neg (by omega), if_neg (by omega), if_pos c5]
            exact ⟨F7.trans F8 (by simp), v, rfl, HF.mono F7.size⟩
          · rw [if_pos (by omega)] at H7
            obtain ⟨u5, u6⟩ := D5.out (by omega)
            have v4 : 0 ≤ p4 := by omega
            have v5 : 0 ≤ p5 := by omega
            go_wp2_with fail
            go_ret2
            rw [E.out, if_neg (by omega), if_neg (by omega), if_neg (by omega), if_neg (by omega), if_neg (by omega)]
            exact ⟨F7, ret_int_nil rfl, H7⟩

theorem sign_any (b : Nat) (s : ByteArray) (i : Nat) (w : World) (H : Rd w b s i) (hi : i ≤ s.size) (hs : s.size ≤ 100000) (r : R Int) (hr : Hid (signC (s.data.toList.drop i) = r)) :
    Calls Tryd.prog 107 #[.pointer (some ⟨b, 0, none⟩)] w (SignPost b s i r w) := by
  rw [← hr.out]
  cases hl : s.data.toList.drop i with
  | nil => exact sign_end b s i w H (by have := drop_nil hl; omega) hs
  | cons c l =>
    obtain ⟨h1, h2, h3⟩ := drop_cons hl
    have h2 := h2 h1
    simp only [signC]
    by_cases hc : c = 92
    · rw [if_pos hc]
      exact sign_esc b s i w H h1 hs (Lib.hid (by rw [h2]; exact hc)) l (Lib.hid h3)
    · rw [if_neg hc]
      have hn : Hid (s[i] ≠ 92) := Lib.hid (by rw [h2]; exact hc)
      by_cases hbad : c < 32 ∨ 126 < c ∨ 0 ≤ Lib.indexByte marked c
      · rw [if_pos hbad]
        refine sign_wrong b s i w H h1 hs hn ?_
        rw [h2]
        by_cases k1 : ((c.toNat : Nat) : Int) < 32
        · exact .inl k1
        · by_cases k2 : (126 : Int) < ((c.toNat : Nat) : Int)
          · exact .inr (.inl ⟨k1, k2⟩)
          · refine .inr (.inr ⟨k1, k2, ?_⟩)
            rcases hbad with k | k | k
            · exact absurd (show ((c.toNat : Nat) : Int) < 32 from by have := UInt8.lt_iff_toNat_lt.1 k; simp at this; omega) k1
            · exact absurd (show (126 : Int) < ((c.toNat : Nat) : Int) from by have := UInt8.lt_iff_toNat_lt.1 k; simp at this; omega) k2
            · exact k
      · rw [if_neg hbad]
        have k1 : ¬ c < 32 := fun h => hbad (.inl h)
        have k2 : ¬ 126 < c := fun h => hbad (.inr (.inl h))
        have k3 : ¬ 0 ≤ Lib.indexByte marked c := fun h => hbad (.inr (.inr h))
        have := sign_plain b s i w H h1 hs hn
          (by rw [h2]; intro h; exact k1 (UInt8.lt_iff_toNat_lt.2 (by simp; omega)))
          (by rw [h2]; intro h; exact k2 (UInt8.lt_iff_toNat_lt.2 (by simp; omega)))
          (by rw [h2]; exact k3)
        rw [h2] at this
        exact this
end Go.Proofs.YtglknnncpaggpaaDoor
