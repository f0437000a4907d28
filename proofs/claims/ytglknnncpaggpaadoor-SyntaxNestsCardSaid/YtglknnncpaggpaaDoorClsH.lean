/- Classes: Parse, the way that reads on. -/
import Derived.Test.YtglknnncpaggpaaDoorClsG
namespace Go.Proofs.YtglknnncpaggpaaDoor
open Go.RowKit

theorem pick_head (a : UInt8) (l : List UInt8) : (pickAt [a] l < 0 → ¬ l.head? = some a) ∧ (¬ pickAt [a] l < 0 → l.head? = some a) := by
  cases l with
  | nil => exact ⟨fun _ h => (by cases h), fun h => absurd (show (-1 : Int) < 0 by decide) h⟩
  | cons c l =>
    rw [pickAt_cons, List.head?_cons]
    constructor
    · intro h e
      have := (index_one a c).2 (by simpa using e)
      omega
    · intro h
      have := (index_one a c).1 (by omega)
      rw [this]

def withNot (no : Bool) : R Cls → R Cls
  | .ok x n => .ok (if no then notC x else x) n
  | .bad n => .bad n

set_option maxHeartbeats 8000000 in
theorem parse_yes (s : ByteArray) (w : World) (hs : s.size ≤ 100000) (hn : Hid (¬ pickAt [91] s.data.toList < 0)) (q : Int) (hq : Hid (pickAt [94] (s.data.toList.drop 1) = q)) (nb : Bool) (hnb : Hid (decide (0 ≤ q) = nb)) (fin : R Cls)
    (hf : Hid (shiftR (if q < 0 then 1 else 2) (membersC s.size cls0 (s.data.toList.drop (if q < 0 then 1 else 2))) = fin)) :
    Calls Tryd.prog 92 #[.string s] w (ParsePost s (withNot nb fin) w) := by
  obtain ⟨p, hp⟩ : ∃ p, pickAt [91] (s.data.toList.drop 0) = p := ⟨_, rfl⟩
  have P1 := Lib.hid (fun w1 b (H1 : Rd w1 b s 0) => pick_named b s ⟨#[91]⟩ 0 w1 H1 hs p (Lib.hid hp))
  have P2 := Lib.hid (fun w1 b (H1 : Rd w1 b s 1) => pick_named b s ⟨#[94]⟩ 1 w1 H1 hs q hq)
  have hp0 : 0 ≤ p := by have := hn.out; rw [← hp]; exact Int.not_lt.1 this
  have hz : 1 ≤ s.size := by have := (pickAt_in (of := [91]) (l := s.data.toList.drop 0) (by rw [hp]; exact hp0)).2; rw [List.length_drop] at this; have e : s.data.toList.length = s.size := rfl; omega
  have hz2 : 0 ≤ q → 2 ≤ s.size := fun h => by
    have := (pickAt_in (of := [94]) (l := s.data.toList.drop 1) (by rw [hq.out]; exact h)).2; rw [List.length_drop] at this; have e : s.data.toList.length = s.size := rfl; omega
  clear hn hp
  obtain ⟨W1, hW, F1, B0, B1, H1⟩ := start3 s w
  have HW := Lib.hid hW
  clear hW
  have hz1 := H1.lt
  go_enter Tryd.func92, Tryd.ntmps92
  go_wp2_with fail
  rw [← HW.out]
  clear HW
  obtain ⟨g0, e0⟩ : ∃ g, g = w.heap.size := ⟨_, rfl⟩
  obtain ⟨g1, e1⟩ : ∃ g, g = w.heap.size + 1 := ⟨_, rfl⟩
  obtain ⟨g2, e2⟩ : ∃ g, g = w.heap.size + 1 + 1 := ⟨_, rfl⟩
  rw [← e2] at H1 hz1 ⊢
  rw [← e1] at B1 ⊢
  have l0 : w.heap.size ≤ g0 := by omega
  have l1 : g0 < g1 := by omega
  have l2 : g1 < g2 := by omega
  rw [← e0] at B0 ⊢
  clear e0 e1 e2
  refine (P1.out W1 g2 H1).mono ?_
  rintro e w2 ⟨rfl, F2, H2⟩
  rw [if_pos hp0] at H2
  have B0 := B0.fr F2 (by simp; omega)
  have B1 := B1.fr F2 (by simp; omega)
  have F2 := F1.trans F2 (by simp; omega)
  clear F1 H1
  go_wp2_with fail
  refine (P2.out w2 g2 H2).mono ?_
  rintro e w3 ⟨rfl, F3, H3⟩
  have B0 := B0.fr F3 (by simp; omega)
  have B1 := B1.fr F3 (by simp; omega)
  have F3 := F2.trans F3 (by simp; omega)
  clear F2 H2
  obtain ⟨k0, hk0⟩ : ∃ k, k = if q < 0 then 1 else 2 := ⟨_, rfl⟩
  have hk1 : 1 ≤ k0 ∧ k0 ≤ s.size := by rw [hk0]; split <;> omega
  have H3 : Rd w3 g2 s k0 := by
    by_cases c : 0 ≤ q
    · rw [if_pos c] at H3; rw [hk0, if_neg (by omega)]; exact H3
    · rw [if_neg c] at H3; rw [hk0, if_pos (by omega)]; exact H3
  rw [← hk0] at hf
  clear hk0 hz2
  have INV : PInv s w g0 g1 g2 fin s.size w3 := ⟨cls0, k0, hk1.2, ⟨by decide, by decide, by decide, by decide⟩, F3, B0, B1, H3, by omega, hf.out⟩
  clear hf B0 B1 H3 F3
  go_wp2_with fail
  rw [hnb.out]
  go_loopg [9] s.size (fun k _ wr => PInv s w g0 g1 g2 fin k wr)
  case atStart => exact INV
  case round =>
    clear INV
    obtain ⟨acc, i, hi, hacc, F, B0, B1, H, hk, hm⟩ := hrel
    obtain ⟨k, rfl⟩ : ∃ k, gk = k + 1 := ⟨gk - 1, by omega⟩
    obtain ⟨r, hr⟩ : ∃ r, pickAt [93] (s.data.toList.drop i) = r := ⟨_, rfl⟩
    have P3 := Lib.hid (pick_named g2 s ⟨#[93]⟩ i wr H hs r (Lib.hid hr))
    have HH := Lib.hid (pick_head 93 (s.data.toList.drop i))
    rw [hr] at HH
    have HM := Lib.hid hm
    clear hm hr
    go_wp2_with fail
    refine P3.out.mono ?_
    rintro e w4 ⟨rfl, F4, H4⟩
    have B0 := B0.fr F4 (by simp; omega)
    have B1 := B1.fr F4 (by simp; omega)
    have F4 := F.trans F4 (by simp; omega)
    clear F H P3
    by_cases hr0 : r < 0
    · rw [if_neg (by omega)] at H4
      have HM' := HM.out
      simp only [membersC] at HM'
      rw [if_neg (HH.out.1 hr0)] at HM'
      obtain ⟨r2, hr2⟩ : ∃ r, memberC (s.data.toList.drop i) = r := ⟨_, rfl⟩
      rw [hr2] at HM'
      have HR2 := Lib.hid hr2
      have HM2 := Lib.hid HM'
      have P4 := Lib.hid (member_any g2 s i w4 H4 hi hs r2 (Lib.hid hr2))
      clear HM HM' hr2 HH
      go_wp2_with fail
      refine P4.out.mono ?_
      rintro e w5 ⟨F5, h5⟩
      have z4 := H4.lt
      have z4' := F4.size
      have z5 := Nat.lt_of_lt_of_le H4.lt F5.size
      have B0 := B0.fr F5 (by simp; omega)
      have B1 := B1.fr F5 (by simp; omega)
      have F5 := F4.trans F5 (by simp; omega)
      clear F4 H4 P4
      match r2, HR2, HM2, h5 with
      | .bad n, HR2, HM2, h5 =>
        obtain ⟨v, rfl, a, rfl, ha, HA⟩ := h5
        have HM' := HM2.out
        simp only [shiftR] at HM'
        subst HM'
        clear HM2 HR2
        have c30 : ∀ o, (w5.alloc o).cell? ⟨g0, 0, none⟩ = some (.int .u64 0) := fun o => Blk.cell (B0.alloc o) 0 rfl
        have c31 : ∀ o, (w5.alloc o).cell? ⟨g0, 1, none⟩ = some (.int .u64 0) := fun o => Blk.cell (B0.alloc o) 1 rfl
        have c32 : ∀ o, (w5.alloc o).cell? ⟨g0, 2, none⟩ = some (.int .u64 0) := fun o => Blk.cell (B0.alloc o) 2 rfl
        have c33 : ∀ o, (w5.alloc o).cell? ⟨g0, 3, none⟩ = some (.int .u64 0) := fun o => Blk.cell (B0.alloc o) 3 rfl
        have f30 : ∀ o, (w5.alloc o).frozen? ⟨g0, 0, none⟩ = false := fun o => Blk.free (B0.alloc o) 0
        have f31 : ∀ o, (w5.alloc o).frozen? ⟨g0, 1, none⟩ = false := fun o => Blk.free (B0.alloc o) 1
        have f32 : ∀ o, (w5.alloc o).frozen? ⟨g0, 2, none⟩ = false := fun o => Blk.free (B0.alloc o) 2
        have f33 : ∀ o, (w5.alloc o).frozen? ⟨g0, 3, none⟩ = false := fun o => Blk.free (B0.alloc o) 3
        simp only [Cls.val]
        go_wp2_with fail
        have B0 := (B0.alloc (.cells #[.int .u64 (cls0.a : Nat), .int .u64 (cls0.b : Nat), .int .u64 (cls0.c : Nat), .int .u64 (cls0.d : Nat)] 38)).put_all [.int .u64 0, .int .u64 0, .int .u64 0, .int .u64 0] rfl
        have HA := (HA.alloc (.cells #[.int .u64 (cls0.a : Nat), .int .u64 (cls0.b : Nat), .int .u64 (cls0.c : Nat), .int .u64 (cls0.d : Nat)] 38)).put_other (g := g0) (by omega) [.int .u64 0, .int .u64 0, .int .u64 0, .int .u64 0] 0
        have F9 := (F5.alloc (.cells #[.int .u64 (cls0.a : Nat), .int .u64 (cls0.b : Nat), .int .u64 (cls0.c : Nat), .int .u64 (cls0.d : Nat)] 38)).put (g := g0) (.inr l0) [.int .u64 0, .int .u64 0, .int .u64 0, .int .u64 0] 0
        change bodyPost _ _ _ _ _ (put (w5.alloc (.cells #[.int .u64 (cls0.a : Nat), .int .u64 (cls0.b : Nat), .int .u64 (cls0.c : Nat), .int .u64 (cls0.d : Nat)] 38)) g0 0 [.int .u64 0, .int .u64 0, .int .u64 0, .int .u64 0])
        generalize put (w5.alloc (.cells #[.int .u64 (cls0.a : Nat), .int .u64 (cls0.b : Nat), .int .u64 (cls0.c : Nat), .int .u64 (cls0.d : Nat)] 38)) g0 0 [.int .u64 0, .int .u64 0, .int .u64 0, .int .u64 0] = w9 at *
        have k0 := Blk.cell B0 0 (v := .int .u64 0) rfl
        have k1 := Blk.cell B0 1 (v := .int .u64 0) rfl
        have k2 := Blk.cell B0 2 (v := .int .u64 0) rfl
        have k3 := Blk.cell B0 3 (v := .int .u64 0) rfl
        exact bodyPost_ret (v := .tuple #[cls0.val, .int .i64 0, _]) (by simp [results, Tryd.results92, go_sem, k0, k1, k2, k3]; rfl) rfl ⟨F9, _, rfl, a, rfl, by omega, HA⟩
      | .ok (lo, hi') n, HR2, HM2, h5 =>
        obtain ⟨rfl, H5⟩ := h5
        obtain ⟨n1, n2, v0, v1, v2⟩ := memberC_ok HR2.out
        rw [List.length_drop] at n2
        have n3 : i + n ≤ s.size := by have e : s.data.toList.length = s.size := rfl; omega
        have HM' := HM2.out
        have B1' := B1.alloc (.cells #[.int .u64 ((spanC lo hi').a : Nat), .int .u64 ((spanC lo hi').b : Nat), .int .u64 ((spanC lo hi').c : Nat), .int .u64 ((spanC lo hi').d : Nat)] 38)
        have B2' := Blk.new w5 #[.int .u64 ((spanC lo hi').a : Nat), .int .u64 ((spanC lo hi').b : Nat), .int .u64 ((spanC lo hi').c : Nat), .int .u64 ((spanC lo hi').d : Nat)] 38
        have H5 : Rd (w5.alloc (.cells #[.int .u64 ((spanC lo hi').a : Nat), .int .u64 ((spanC lo hi').b : Nat), .int .u64 ((spanC lo hi').c : Nat), .int .u64 ((spanC lo hi').d : Nat)] 38)) g2 s (i + n) := Blk.alloc H5 _
        have B0 := B0.alloc (.cells #[.int .u64 ((spanC lo hi').a : Nat), .int .u64 ((spanC lo hi').b : Nat), .int .u64 ((spanC lo hi').c : Nat), .int .u64 ((spanC lo hi').d : Nat)] 38)
        have F6 := F5.alloc (.cells #[.int .u64 ((spanC lo hi').a : Nat), .int .u64 ((spanC lo hi').b : Nat), .int .u64 ((spanC lo hi').c : Nat), .int .u64 ((spanC lo hi').d : Nat)] 38)
        have c20 : (w5.alloc (.cells #[.int .u64 ((spanC lo hi').a : Nat), .int .u64 ((spanC lo hi').b : Nat), .int .u64 ((spanC lo hi').c : Nat), .int .u64 ((spanC lo hi').d : Nat)] 38)).cell? ⟨g1, 0, none⟩ = some (.int .u64 acc.a) := Blk.cell B1' 0 rfl
        have c21 : (w5.alloc (.cells #[.int .u64 ((spanC lo hi').a : Nat), .int .u64 ((spanC lo hi').b : Nat), .int .u64 ((spanC lo hi').c : Nat), .int .u64 ((spanC lo hi').d : Nat)] 38)).cell? ⟨g1, 1, none⟩ = some (.int .u64 acc.b) := Blk.cell B1' 1 rfl
        have c22 : (w5.alloc (.cells #[.int .u64 ((spanC lo hi').a : Nat), .int .u64 ((spanC lo hi').b : Nat), .int .u64 ((spanC lo hi').c : Nat), .int .u64 ((spanC lo hi').d : Nat)] 38)).cell? ⟨g1, 2, none⟩ = some (.int .u64 acc.c) := Blk.cell B1' 2 rfl
        have c23 : (w5.alloc (.cells #[.int .u64 ((spanC lo hi').a : Nat), .int .u64 ((spanC lo hi').b : Nat), .int .u64 ((spanC lo hi').c : Nat), .int .u64 ((spanC lo hi').d : Nat)] 38)).cell? ⟨g1, 3, none⟩ = some (.int .u64 acc.d) := Blk.cell B1' 3 rfl
        have c30 : (w5.alloc (.cells #[.int .u64 ((spanC lo hi').a : Nat), .int .u64 ((spanC lo hi').b : Nat), .int .u64 ((spanC lo hi').c : Nat), .int .u64 ((spanC lo hi').d : Nat)] 38)).cell? ⟨w5.heap.size, 0, none⟩ = some (.int .u64 ((spanC lo hi').a : Nat)) := Blk.cell B2' 0 rfl
        have c31 : (w5.alloc (.cells #[.int .u64 ((spanC lo hi').a : Nat), .int .u64 ((spanC lo hi').b : Nat), .int .u64 ((spanC lo hi').c : Nat), .int .u64 ((spanC lo hi').d : Nat)] 38)).cell? ⟨w5.heap.size, 1, none⟩ = some (.int .u64 ((spanC lo hi').b : Nat)) := Blk.cell B2' 1 rfl
        have c32 : (w5.alloc (.cells #[.int .u64 ((spanC lo hi').a : Nat), .int .u64 ((spanC lo hi').b : Nat), .int .u64 ((spanC lo hi').c : Nat), .int .u64 ((spanC lo hi').d : Nat)] 38)).cell? ⟨w5.heap.size, 2, none⟩ = some (.int .u64 ((spanC lo hi').c : Nat)) := Blk.cell B2' 2 rfl
        have c33 : (w5.alloc (.cells #[.int .u64 ((spanC lo hi').a : Nat), .int .u64 ((spanC lo hi').b : Nat), .int .u64 ((spanC lo hi').c : Nat), .int .u64 ((spanC lo hi').d : Nat)] 38)).cell? ⟨w5.heap.size, 3, none⟩ = some (.int .u64 ((spanC lo hi').d : Nat)) := Blk.cell B2' 3 rfl
        simp only [Cls.val]
        go_wp2_with fail
        refine (either_any acc (spanC lo hi') _ hacc (span_wf _ _)).mono ?_
        rintro e w7 ⟨rfl, F7⟩
        have B0 := B0.fr F7 (by simp)
        have B1' := B1'.fr F7 (by simp)
        have H5 : Rd w7 g2 s (i + n) := Blk.fr H5 F7 (by simp)
        have F7 := F6.trans F7 (by simp)
        clear B2' F6 F5 c20 c30 c21 c31 c22 c32 c23 c33
        have c20 : w7.cell? ⟨g1, 0, none⟩ = some (.int .u64 acc.a) := Blk.cell B1' 0 rfl
        have c21 : w7.cell? ⟨g1, 1, none⟩ = some (.int .u64 acc.b) := Blk.cell B1' 1 rfl
        have c22 : w7.cell? ⟨g1, 2, none⟩ = some (.int .u64 acc.c) := Blk.cell B1' 2 rfl
        have c23 : w7.cell? ⟨g1, 3, none⟩ = some (.int .u64 acc.d) := Blk.cell B1' 3 rfl
        have f20 : w7.frozen? ⟨g1, 0, none⟩ = false := Blk.free B1' 0
        have f21 : w7.frozen? ⟨g1, 1, none⟩ = false := Blk.free B1' 1
        have f22 : w7.frozen? ⟨g1, 2, none⟩ = false := Blk.free B1' 2
        have f23 : w7.frozen? ⟨g1, 3, none⟩ = false := Blk.free B1' 3
        simp only [Cls.val]
        go_wp2_with fail
        have B1' := B1'.put_all [.int .u64 ((eitherC acc (spanC lo hi')).a : Nat), .int .u64 ((eitherC acc (spanC lo hi')).b : Nat), .int .u64 ((eitherC acc (spanC lo hi')).c : Nat), .int .u64 ((eitherC acc (spanC lo hi')).d : Nat)] rfl
        have B0 := B0.put_other (g := g1) (by omega) [.int .u64 ((eitherC acc (spanC lo hi')).a : Nat), .int .u64 ((eitherC acc (spanC lo hi')).b : Nat), .int .u64 ((eitherC acc (spanC lo hi')).c : Nat), .int .u64 ((eitherC acc (spanC lo hi')).d : Nat)] 0
        have H5 : Rd (put w7 g1 0 [.int .u64 ((eitherC acc (spanC lo hi')).a : Nat), .int .u64 ((eitherC acc (spanC lo hi')).b : Nat), .int .u64 ((eitherC acc (spanC lo hi')).c : Nat), .int .u64 ((eitherC acc (spanC lo hi')).d : Nat)]) g2 s (i + n) := Blk.put_other (g := g1) (by omega) [.int .u64 ((eitherC acc (spanC lo hi')).a : Nat), .int .u64 ((eitherC acc (spanC lo hi')).b : Nat), .int .u64 ((eitherC acc (spanC lo hi')).c : Nat), .int .u64 ((eitherC acc (spanC lo hi')).d : Nat)] 0 H5
        have F7 := F7.put (g := g1) (.inr (by omega)) [.int .u64 ((eitherC acc (spanC lo hi')).a : Nat), .int .u64 ((eitherC acc (spanC lo hi')).b : Nat), .int .u64 ((eitherC acc (spanC lo hi')).c : Nat), .int .u64 ((eitherC acc (spanC lo hi')).d : Nat)] 0
        go_roundg k
        case measure => omega
        case rel =>
          refine ⟨eitherC acc (spanC lo hi'), i + n, n3, either_wf hacc (span_wf _ _), F7, B0, B1', H5, by omega, ?_⟩
          rw [← HM']
          simp only [List.drop_drop]
          cases membersC k (eitherC acc (spanC lo hi')) (List.drop (i + n) s.data.toList) <;> simp [shiftR, Nat.add_assoc]
    · rw [if_pos (by omega)] at H4
      have HM' := HM.out
      simp only [membersC] at HM'
      rw [if_pos (HH.out.2 (by omega))] at HM'
      simp only [shiftR] at HM'
      subst HM'
      clear HM HH
      cases nb with
      | false =>
        have c20 : w4.cell? ⟨g1, 0, none⟩ = some (.int .u64 acc.a) := Blk.cell B1 0 rfl
        have c21 : w4.cell? ⟨g1, 1, none⟩ = some (.int .u64 acc.b) := Blk.cell B1 1 rfl
        have c22 : w4.cell? ⟨g1, 2, none⟩ = some (.int .u64 acc.c) := Blk.cell B1 2 rfl
        have c23 : w4.cell? ⟨g1, 3, none⟩ = some (.int .u64 acc.d) := Blk.cell B1 3 rfl
        have c30 : w4.cell? ⟨g0, 0, none⟩ = some (.int .u64 0) := Blk.cell B0 0 rfl
        have c31 : w4.cell? ⟨g0, 1, none⟩ = some (.int .u64 0) := Blk.cell B0 1 rfl
        have c32 : w4.cell? ⟨g0, 2, none⟩ = some (.int .u64 0) := Blk.cell B0 2 rfl
        have c33 : w4.cell? ⟨g0, 3, none⟩ = some (.int .u64 0) := Blk.cell B0 3 rfl
        have f30 : w4.frozen? ⟨g0, 0, none⟩ = false := Blk.free B0 0
        have f31 : w4.frozen? ⟨g0, 1, none⟩ = false := Blk.free B0 1
        have f32 : w4.frozen? ⟨g0, 2, none⟩ = false := Blk.free B0 2
        have f33 : w4.frozen? ⟨g0, 3, none⟩ = false := Blk.free B0 3
        have c1 : w4.cell? ⟨g2, 1, none⟩ = some (.int .i64 ((i + 1 : Nat) : Int)) := Blk.cell H4 1 rfl
        clear B1 H4
        go_wp2_with fail
        go_region
        go_wp2_with fail
        have B0 := B0.put_all [.int .u64 acc.a, .int .u64 acc.b, .int .u64 acc.c, .int .u64 acc.d] rfl
        have F9 := F4.put (g := g0) (.inr l0) [.int .u64 acc.a, .int .u64 acc.b, .int .u64 acc.c, .int .u64 acc.d] 0
        change bodyPost _ _ _ _ _ (put w4 g0 0 [.int .u64 acc.a, .int .u64 acc.b, .int .u64 acc.c, .int .u64 acc.d]).drew
        have B0 := Blk.drew B0
        have F9 := F9.drew
        generalize (put w4 g0 0 [.int .u64 acc.a, .int .u64 acc.b, .int .u64 acc.c, .int .u64 acc.d]).drew = w9 at *
        have k0 := Blk.cell B0 0 (v := (.int .u64 acc.a)) rfl
        have k1 := Blk.cell B0 1 (v := (.int .u64 acc.b)) rfl
        have k2 := Blk.cell B0 2 (v := (.int .u64 acc.c)) rfl
        have k3 := Blk.cell B0 3 (v := (.int .u64 acc.d)) rfl
        exact bodyPost_ret (v := .tuple #[acc.val, .int .i64 ((i + 1 : Nat) : Int), .nilIface]) (by simp [results, Tryd.results92, go_sem, k0, k1, k2, k3]; rfl) rfl ⟨F9, rfl⟩
      | true =>
        have c20 : w4.cell? ⟨g1, 0, none⟩ = some (.int .u64 acc.a) := Blk.cell B1 0 rfl
        have c21 : w4.cell? ⟨g1, 1, none⟩ = some (.int .u64 acc.b) := Blk.cell B1 1 rfl
        have c22 : w4.cell? ⟨g1, 2, none⟩ = some (.int .u64 acc.c) := Blk.cell B1 2 rfl
        have c23 : w4.cell? ⟨g1, 3, none⟩ = some (.int .u64 acc.d) := Blk.cell B1 3 rfl
        have f20 : w4.frozen? ⟨g1, 0, none⟩ = false := Blk.free B1 0
        have f21 : w4.frozen? ⟨g1, 1, none⟩ = false := Blk.free B1 1
        have f22 : w4.frozen? ⟨g1, 2, none⟩ = false := Blk.free B1 2
        have f23 : w4.frozen? ⟨g1, 3, none⟩ = false := Blk.free B1 3
        go_wp2_with fail
        refine (not_any acc w4 hacc).mono ?_
        rintro e w5 ⟨rfl, F5⟩
        have B0 := B0.fr F5 (by simp)
        have B1 := B1.fr F5 (by simp)
        have H5 : Rd w5 g2 s (i + 1) := Blk.fr H4 F5 (by simp)
        have F5 := F4.trans F5 (by simp)
        clear c20 f20 c21 f21 c22 f22 c23 f23 H4 F4
        have c20 : w5.cell? ⟨g1, 0, none⟩ = some (.int .u64 acc.a) := Blk.cell B1 0 rfl
        have c21 : w5.cell? ⟨g1, 1, none⟩ = some (.int .u64 acc.b) := Blk.cell B1 1 rfl
        have c22 : w5.cell? ⟨g1, 2, none⟩ = some (.int .u64 acc.c) := Blk.cell B1 2 rfl
        have c23 : w5.cell? ⟨g1, 3, none⟩ = some (.int .u64 acc.d) := Blk.cell B1 3 rfl
        have f20 : w5.frozen? ⟨g1, 0, none⟩ = false := Blk.free B1 0
        have f21 : w5.frozen? ⟨g1, 1, none⟩ = false := Blk.free B1 1
        have f22 : w5.frozen? ⟨g1, 2, none⟩ = false := Blk.free B1 2
        have f23 : w5.frozen? ⟨g1, 3, none⟩ = false := Blk.free B1 3
        simp only [Cls.val]
        go_wp2_with fail
        have B1 := B1.put_all [.int .u64 ((notC acc).a : Nat), .int .u64 ((notC acc).b : Nat), .int .u64 ((notC acc).c : Nat), .int .u64 ((notC acc).d : Nat)] rfl
        have B0 := B0.put_other (g := g1) (by omega) [.int .u64 ((notC acc).a : Nat), .int .u64 ((notC acc).b : Nat), .int .u64 ((notC acc).c : Nat), .int .u64 ((notC acc).d : Nat)] 0
        have H5 : Rd (put w5 g1 0 [.int .u64 ((notC acc).a : Nat), .int .u64 ((notC acc).b : Nat), .int .u64 ((notC acc).c : Nat), .int .u64 ((notC acc).d : Nat)]) g2 s (i + 1) := Blk.put_other (g := g1) (by omega) [.int .u64 ((notC acc).a : Nat), .int .u64 ((notC acc).b : Nat), .int .u64 ((notC acc).c : Nat), .int .u64 ((notC acc).d : Nat)] 0 H5
        have F5 := F5.put (g := g1) (.inr (by omega)) [.int .u64 ((notC acc).a : Nat), .int .u64 ((notC acc).b : Nat), .int .u64 ((notC acc).c : Nat), .int .u64 ((notC acc).d : Nat)] 0
        clear c20 f20 c21 f21 c22 f22 c23 f23
        show (Code.region _ _ _).wp _ _ _ (put w5 g1 0 [.int .u64 ((notC acc).a : Nat), .int .u64 ((notC acc).b : Nat), .int .u64 ((notC acc).c : Nat), .int .u64 ((notC acc).d : Nat)])
        generalize put w5 g1 0 [.int .u64 ((notC acc).a : Nat), .int .u64 ((notC acc).b : Nat), .int .u64 ((notC acc).c : Nat), .int .u64 ((notC acc).d : Nat)] = w6 at *
        have c20 : w6.cell? ⟨g1, 0, none⟩ = some (.int .u64 ((notC acc).a : Nat)) := Blk.cell B1 0 rfl
        have c21 : w6.cell? ⟨g1, 1, none⟩ = some (.int .u64 ((notC acc).b : Nat)) := Blk.cell B1 1 rfl
        have c22 : w6.cell? ⟨g1, 2, none⟩ = some (.int .u64 ((notC acc).c : Nat)) := Blk.cell B1 2 rfl
        have c23 : w6.cell? ⟨g1, 3, none⟩ = some (.int .u64 ((notC acc).d : Nat)) := Blk.cell B1 3 rfl
        have c30 : w6.cell? ⟨g0, 0, none⟩ = some (.int .u64 0) := Blk.cell B0 0 rfl
        have c31 : w6.cell? ⟨g0, 1, none⟩ = some (.int .u64 0) := Blk.cell B0 1 rfl
        have c32 : w6.cell? ⟨g0, 2, none⟩ = some (.int .u64 0) := Blk.cell B0 2 rfl
        have c33 : w6.cell? ⟨g0, 3, none⟩ = some (.int .u64 0) := Blk.cell B0 3 rfl
        have f30 : w6.frozen? ⟨g0, 0, none⟩ = false := Blk.free B0 0
        have f31 : w6.frozen? ⟨g0, 1, none⟩ = false := Blk.free B0 1
        have f32 : w6.frozen? ⟨g0, 2, none⟩ = false := Blk.free B0 2
        have f33 : w6.frozen? ⟨g0, 3, none⟩ = false := Blk.free B0 3
        have c1 : w6.cell? ⟨g2, 1, none⟩ = some (.int .i64 ((i + 1 : Nat) : Int)) := Blk.cell H5 1 rfl
        clear B1 H5
        go_wp2_with fail
        go_region
        go_wp2_with fail
        have B0 := B0.put_all [.int .u64 ((notC acc).a : Nat), .int .u64 ((notC acc).b : Nat), .int .u64 ((notC acc).c : Nat), .int .u64 ((notC acc).d : Nat)] rfl
        have F9 := F5.put (g := g0) (.inr l0) [.int .u64 ((notC acc).a : Nat), .int .u64 ((notC acc).b : Nat), .int .u64 ((notC acc).c : Nat), .int .u64 ((notC acc).d : Nat)] 0
        change bodyPost _ _ _ _ _ (put w6 g0 0 [.int .u64 ((notC acc).a : Nat), .int .u64 ((notC acc).b : Nat), .int .u64 ((notC acc).c : Nat), .int .u64 ((notC acc).d : Nat)]).drew
        have B0 := Blk.drew B0
        have F9 := F9.drew
        generalize (put w6 g0 0 [.int .u64 ((notC acc).a : Nat), .int .u64 ((notC acc).b : Nat), .int .u64 ((notC acc).c : Nat), .int .u64 ((notC acc).d : Nat)]).drew = w9 at *
        have k0 := Blk.cell B0 0 (v := (.int .u64 ((notC acc).a : Nat))) rfl
        have k1 := Blk.cell B0 1 (v := (.int .u64 ((notC acc).b : Nat))) rfl
        have k2 := Blk.cell B0 2 (v := (.int .u64 ((notC acc).c : Nat))) rfl
        have k3 := Blk.cell B0 3 (v := (.int .u64 ((notC acc).d : Nat))) rfl
        exact bodyPost_ret (v := .tuple #[(notC acc).val, .int .i64 ((i + 1 : Nat) : Int), .nilIface]) (by simp [results, Tryd.results92, go_sem, k0, k1, k2, k3]; rfl) rfl ⟨F9, rfl⟩

theorem parse_any (s : ByteArray) (w : World) (hs : s.size ≤ 100000) :
    Calls Tryd.prog 92 #[.string s] w (ParsePost s (parseC s.data.toList) w) := by
  have hlen : s.data.toList.length = s.size := rfl
  cases hl : s.data.toList with
  | nil => exact parse_no s w hs (Lib.hid (by rw [hl]; decide))
  | cons c l =>
    simp only [parseC]
    by_cases hc : c = 91
    · rw [if_neg (by simp [hc])]
      have hp : Hid (¬ pickAt [91] s.data.toList < 0) := Lib.hid (by
        rw [hl, pickAt_cons]
        have := (index_one 91 c).2 hc
        omega)
      have h1 : s.data.toList.drop 1 = l := by rw [hl]; rfl
      have h2 : s.data.toList.drop 2 = l.tail := by rw [hl]; simp
      have hz : s.size = l.length + 1 := by rw [← hlen, hl]; rfl
      have hh := pick_head 94 l
      by_cases hq : l.head? = some 94
      · have hq0 : ¬ pickAt [94] l < 0 := fun h => hh.1 h hq
        have := parse_yes s w hs hp (pickAt [94] l) (Lib.hid (by rw [h1])) true (Lib.hid (decide_eq_true (by omega))) _ (Lib.hid rfl)
        rw [if_neg hq0, h2, hz] at this
        rw [if_pos hq]
        cases hm : membersC (l.length + 1) cls0 l.tail with
        | ok x n => rw [hm] at this; exact this
        | bad n => rw [hm] at this; exact this
      · have hq0 : pickAt [94] l < 0 := by
          rcases Int.lt_or_le (pickAt [94] l) 0 with h | h
          · exact h
          · exact absurd (hh.2 (by omega)) hq
        have := parse_yes s w hs hp (pickAt [94] l) (Lib.hid (by rw [h1])) false (Lib.hid (decide_eq_false (by omega))) _ (Lib.hid rfl)
        rw [if_pos hq0, h1, hz] at this
        rw [if_neg hq]
        cases hm : membersC (l.length + 1) cls0 l with
        | ok x n => rw [hm] at this; exact this
        | bad n => rw [hm] at this; exact this
    · rw [if_pos hc]
      exact parse_no s w hs (Lib.hid (by
        rw [hl, pickAt_cons]
        rcases Int.lt_or_le (Lib.indexByte [91] c) 0 with h | h
        · exact h
        · exact absurd ((index_one 91 c).1 h) hc))
end Go.Proofs.YtglknnncpaggpaaDoor
