/- SyntaxNests: the walk. -/
import Derived.Test.YtglknnncpaggpaaDoorGram
namespace Go.Proofs.YtglknnncpaggpaaDoor
open Go.RowKit

def nestS (n m : Nat) : List UInt8 := [97, 32, 60, 45, 32] ++ List.replicate n 40 ++ [39, 120, 39] ++ List.replicate m 41
def nestB (n : Nat) : Bool := match parseP (nestS n n) with
  | .ok [r] => decide (n ≤ 24) && r.body.kind == 2 && r.body.at_ == 5 + n
  | .err c a => decide (24 < n) && c == 2 && a == 29
  | _ => false
def opens (k : Nat) : List UInt8 := [97, 32, 60, 45, 32] ++ List.replicate k 40
def opensX (n k : Nat) : List UInt8 := opens n ++ [39, 120, 39] ++ List.replicate k 41
theorem append_list (a b : ByteArray) : (a ++ b).data.toList = a.data.toList ++ b.data.toList := by simp [ByteArray.data_append]
theorem opens_succ (k : Nat) : opens (k + 1) = opens k ++ [40] := by unfold opens; rw [List.replicate_succ']; simp
theorem opensX_succ (n k : Nat) : opensX n (k + 1) = opensX n k ++ [41] := by unfold opensX; rw [List.replicate_succ']; simp
theorem opens_len (k : Nat) : (opens k).length = 5 + k := by simp [opens]; omega
theorem opensX_len (n k : Nat) : (opensX n k).length = 8 + n + k := by simp [opensX, opens_len]; omega
theorem nestB_true : (List.range 32).all nestB = true := by kernel_rfl
theorem nest_parse (n : Nat) (hn : n < 32) : (n ≤ 24 ∧ ∃ r, parseP (nestS n n) = .ok [r] ∧ r.body.kind = 2 ∧ r.body.at_ = 5 + n) ∨ (24 < n ∧ parseP (nestS n n) = .err 2 29) := by
  have h := List.all_eq_true.1 nestB_true n (List.mem_range.2 hn)
  unfold nestB at h
  split at h
  · rename_i r e
    simp only [Bool.and_eq_true, beq_iff_eq, decide_eq_true_eq] at h
    exact .inl ⟨h.1.1, r, e, h.1.2, h.2⟩
  · rename_i c a e
    simp only [Bool.and_eq_true, beq_iff_eq, decide_eq_true_eq] at h
    obtain ⟨⟨h1, rfl⟩, rfl⟩ := h
    exact .inr ⟨h1, e⟩
  · cases h
theorem and31 (m : Int) : ∃ k : Nat, k < 32 ∧ bits .and .i64 m 31 = (k : Int) := by
  refine ⟨(BitVec.ofInt 64 m).toNat &&& 31, ?_, ?_⟩
  · have : (BitVec.ofInt 64 m).toNat &&& 31 ≤ 31 := Nat.and_le_right
    omega
  · have h : (BitVec.ofInt 64 m).toNat &&& 31 ≤ 31 := Nat.and_le_right
    show IntKind.i64.wrap ((BitVec.ofInt 64 m &&& BitVec.ofInt 64 31).toNat : Int) = _
    rw [BitVec.toNat_and, show (BitVec.ofInt 64 31).toNat = 31 from rfl, IntKind.wrap_i64]
    omega

set_option maxHeartbeats 8000000 in
set_option maxRecDepth 100000 in
theorem nests_any (m : Int) (w : World) (hg : Lg w) : Calls Tryd.prog 7 #[.int .i64 m] w fun e w' => e = .returned (.bool true) ∧ Fr [] w w' := by
  have CS := Lib.hid (small_any w hg)
  go_enter Tryd.func7, Tryd.ntmps7
  go_wp2_with fail
  with_reducible refine CS.out.mono ?_
  rintro e w1 ⟨rfl, F1⟩
  have G1 := hg.fr F1 (by simp)
  go_wp2_with fail
  obtain ⟨n, hn, hb⟩ := and31 m
  rw [hb]
  have HN := Lib.hid hn
  clear hb CS
  go_loopg [5, 6] n (fun g s i wr => ∃ (k : Nat) (sb : ByteArray), k + g = n ∧ s = .string sb ∧ sb.data.toList = opens k ∧ i = .int .i64 k ∧ w1 = wr)
  case atStart => exact ⟨0, _, by omega, rfl, rfl, rfl, rfl⟩
  case round =>
    obtain ⟨k, sb, hk, rfl, hsb, rfl, rfl⟩ := hrel
    have hsz : sb.size = 5 + k := by rw [← opens_len, ← hsb]; rfl
    have hsz2 : sb.size ≤ 100 := by omega
    have HK := Lib.hid hk
    have HS := Lib.hid hsb
    by_cases hkn : k < n
    · have hlt : decide ((k : Int) < (n : Int)) = true := by simp; omega
      clear hk hsz hsb
      go_wp2_with fail
      go_roundg (gk - 1)
      case measure => have := HK.out; omega
      case rel => exact ⟨k + 1, _, by have := HK.out; omega, rfl, by rw [append_list, HS.out, opens_succ], by go_num, rfl⟩
    · have hlt : decide ((k : Int) < (n : Int)) = false := by simp; omega
      obtain rfl : k = n := by omega
      clear hk hsz hsb
      go_wp2_with fail
      go_loopg [5, 7] k (fun g s i wr => ∃ (j : Nat) (sc : ByteArray), j + g = k ∧ s = .string sc ∧ sc.data.toList = opensX k j ∧ i = .int .i64 j ∧ w1 = wr)
      case atStart => exact ⟨0, _, by omega, rfl, by rw [append_list, HS.out]; simp [opensX], rfl, rfl⟩
      case round =>
        obtain ⟨j, sc, hj, rfl, hsc, rfl, rfl⟩ := hrel
        have hsz : sc.size = 8 + k + j := by rw [← opensX_len, ← hsc]; rfl
        have hsz2 : sc.size ≤ 100 := by omega
        have HJ := Lib.hid hj
        have HC := Lib.hid hsc
        by_cases hjn : j < k
        · have hlt : decide ((j : Int) < (k : Int)) = true := by simp; omega
          clear hj hsz hsc
          go_wp2_with fail
          go_roundg (gk - 1)
          case measure => have := HJ.out; omega
          case rel => exact ⟨j + 1, _, by have := HJ.out; omega, rfl, by rw [append_list, HC.out, opensX_succ], by go_num, rfl⟩
        · have hlt : decide ((j : Int) < (k : Int)) = false := by simp; omega
          obtain rfl : j = k := by omega
          have CP := Lib.hid (sparse_any sc w1 G1 (by omega))
          rw [hsc, show opensX j j = nestS j j from by simp [opensX, opens, nestS]] at CP
          have HP := Lib.hid (nest_parse j HN.out)
          clear hj hsz hsc HS HC HJ HK
          go_wp2_with fail
          with_reducible refine CP.out.mono ?_
          rintro e w2 ⟨F2, h2⟩
          clear CP
          rcases HP.out with ⟨h24, r, hr, hk2, ha⟩ | ⟨h24, hr⟩
          · rw [hr] at h2
            obtain ⟨v, he, GV⟩ := h2
            subst he
            obtain ⟨g, cap, rfl, hBg, hg1⟩ := GV.ptr (by simp)
            obtain ⟨_, _, _, ⟨a0, a1, a2, a3, a4, a5, a6, a7, a8, a9⟩, _⟩ := GV.at 0 (by simp)
            simp only [List.getElem_cons_zero] at a1 a8
            rw [hk2] at a1
            rw [ha] at a8
            have hgt : decide ((24 : Int) < (j : Int)) = false := by simp; omega
            simp only [List.length_cons, List.length_nil]
            go_upto_region 14 with fail
            have F3 := (F1.trans F2 (by simp)).alloc (.cells #[.slice (some ⟨g, 0, none⟩) (0 + 1) cap] 25)
            have ka : ∀ (o : Nat) (u : Value), w2.cell? ⟨g, o, none⟩ = some u → (w2.alloc (.cells #[.slice (some ⟨g, 0, none⟩) (0 + 1) cap] 25)).cell? ⟨g, o, none⟩ = some u := fun o u h => (World.cell?_alloc_lt _ _ ⟨g, o, none⟩ hg1).trans h
            have a1' := ka _ _ a1
            have a8' := ka _ _ a8
            have hj100 : j ≤ 100 := by omega
            have q5 : (((5 + j : Nat) : Int) == 5 + (j : Int)) = true := by simp
            clear ka a0 a1 a2 a3 a4 a5 a6 a7 a8 a9 hk2 ha hr GV HP
            go_wp2_with fail
            go_ret
            exact ⟨rfl, F3⟩
          · rw [hr] at h2
            obtain ⟨v, he, HF⟩ := h2
            subst he
            have hgt : decide ((24 : Int) < (j : Int)) = true := by simp; omega
            go_upto_region 14 with fail
            obtain ⟨w3, b3, e3, e4, F3, B3, S3⟩ := alloc_new w2 #[.slice none 0 0] 25
            rw [e3, e4.out]
            have G3 := (G1.fr F2 (by simp)).fr F3 (by simp)
            have HF3 := HF.fr F3 (by simp)
            have F13 := (F1.trans F2 (by simp)).trans F3 (by simp)
            have CC := Lib.hid (code_fault _ v _ _ w3 G3 HF3)
            clear e3 hr HP G1 F1 F2 HF
            go_wp2_with fail
            with_reducible refine CC.out.mono ?_
            rintro e w4 ⟨rfl, F4⟩
            have CA := Lib.hid (at_fault _ v _ _ w4 (G3.fr F4 (by simp)) (HF3.fr F4 (by simp)))
            have B4 := B3.fr F4 (by simp)
            have F14 := F13.trans F4 (by simp)
            clear CC F13 B3 F4 HF3 G3
            go_wp2_with fail
            with_reducible refine CA.out.mono ?_
            rintro e w5 ⟨rfl, F5⟩
            have B5 := B4.fr F5 (by simp)
            have cb := B5.cell 0 rfl
            go_wp2_with fail
            go_ret
            exact ⟨rfl, F14.trans F5 (by simp)⟩
end Go.Proofs.YtglknnncpaggpaaDoor
