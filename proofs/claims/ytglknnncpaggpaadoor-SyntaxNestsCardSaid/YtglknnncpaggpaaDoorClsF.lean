/- The reader of classes: member. -/
import Derived.Test.YtglknnncpaggpaaDoorClsE
namespace Go.Proofs.YtglknnncpaggpaaDoor
open Go.RowKit

def MemberPost (b : Nat) (s : ByteArray) (i : Nat) (r : R (Int × Int)) (w : World) (e : Ending) (w' : World) : Prop :=
  Fr [b] w w' ∧ match r with
  | .ok p n => e = .returned (.tuple #[(spanC p.1 p.2).val, .nilIface]) ∧ Rd w' b s (i + n)
  | .bad n => ∃ v, e = .returned (.tuple #[cls0.val, v]) ∧ FaultAt w.heap.size w' v (codeAt s (i + n)) ((i + n : Nat) : Int)
theorem MemberPost.ok {b : Nat} {s : ByteArray} {i : Nat} {p : Int × Int} {n : Nat} {w : World} {e : Ending} {w' : World} (F : Fr [b] w w') (he : e = .returned (.tuple #[(spanC p.1 p.2).val, .nilIface])) (h : Rd w' b s (i + n)) : MemberPost b s i (.ok p n) w e w' := ⟨F, he, h⟩

set_option maxHeartbeats 4000000 in
theorem member_any (b : Nat) (s : ByteArray) (i : Nat) (w : World) (H : Rd w b s i) (hi : i ≤ s.size) (hs : s.size ≤ 100000) (r : R (Int × Int)) (hr : Hid (memberC (s.data.toList.drop i) = r)) :
    Calls Tryd.prog 102 #[.pointer (some ⟨b, 0, none⟩)] w (MemberPost b s i r w) := by
  have h1 : w.cell? ⟨b, 1, none⟩ = some (.int .i64 i) := Blk.cell H 1 rfl
  have hb := Blk.lt H
  obtain ⟨r1, hr1⟩ : ∃ r, signC (s.data.toList.drop i) = r := ⟨_, rfl⟩
  have hr := hr.out
  simp only [memberC, hr1] at hr
  have S1 := Lib.hid (fun w1 (H1 : Rd w1 b s i) => sign_any b s i w1 H1 hi hs r1 (Lib.hid hr1))
  go_enter Tryd.func102, Tryd.ntmps102
  have HR1 := Lib.hid hr1
  have HR := Lib.hid hr
  clear hr hr1
  go_wp2_with fail
  have H1 : Rd (w.alloc (.cells #[.int .u64 0, .int .u64 0, .int .u64 0, .int .u64 0] 38)) b s i := Blk.alloc H _
  have B1 : Blk (w.alloc (.cells #[.int .u64 0, .int .u64 0, .int .u64 0, .int .u64 0] 38)) w.heap.size cls0.cells 38 := Blk.new _ _ _
  have F1 := (Fr.refl [b] w).alloc (.cells #[.int .u64 0, .int .u64 0, .int .u64 0, .int .u64 0] 38)
  generalize w.alloc (.cells #[.int .u64 0, .int .u64 0, .int .u64 0, .int .u64 0] 38) = w1 at *
  refine (S1.out w1 H1).mono ?_
  rintro e w2 ⟨F2, h2⟩
  have BB := B1.fr F2 (by simp; omega)
  have hsz := B1.lt
  have hsz : w.heap.size < w2.heap.size := Nat.lt_of_lt_of_le hsz F2.size
  have hsz1 := B1.lt
  have F3 := F1.trans F2 (by simp)
  clear B1 H1 h1 H
  have d0 : w2.cell? ⟨w.heap.size, 0, none⟩ = some (.int .u64 0) := Blk.cell BB 0 rfl
  have f0 : w2.frozen? ⟨w.heap.size, 0, none⟩ = false := Blk.free BB 0
  have d1 : w2.cell? ⟨w.heap.size, 1, none⟩ = some (.int .u64 0) := Blk.cell BB 1 rfl
  have f1 : w2.frozen? ⟨w.heap.size, 1, none⟩ = false := Blk.free BB 1
  have d2 : w2.cell? ⟨w.heap.size, 2, none⟩ = some (.int .u64 0) := Blk.cell BB 2 rfl
  have f2 : w2.frozen? ⟨w.heap.size, 2, none⟩ = false := Blk.free BB 2
  have d3 : w2.cell? ⟨w.heap.size, 3, none⟩ = some (.int .u64 0) := Blk.cell BB 3 rfl
  have f3 : w2.frozen? ⟨w.heap.size, 3, none⟩ = false := Blk.free BB 3
  match r1, HR1, HR, h2 with
  | .bad n, HR1, HR, h2 =>
    obtain ⟨v, rfl, a, rfl, ha, HA⟩ := h2
    obtain rfl := HR.out
    have HA' : a ≠ w.heap.size := by omega
    go_wp2_with fail
    have BB' := BB.put_all [.int .u64 0, .int .u64 0, .int .u64 0, .int .u64 0] rfl
    have FF := F3.put (g := w.heap.size) (.inr (Nat.le_refl _)) [.int .u64 0, .int .u64 0, .int .u64 0, .int .u64 0] 0
    have HA'' := HA.put_other (g := w.heap.size) HA' [.int .u64 0, .int .u64 0, .int .u64 0, .int .u64 0] 0
    change bodyPost _ _ _ _ _ (put w2 w.heap.size 0 [.int .u64 0, .int .u64 0, .int .u64 0, .int .u64 0])
    generalize put w2 w.heap.size 0 [.int .u64 0, .int .u64 0, .int .u64 0, .int .u64 0] = w4 at *
    have k0 := Blk.cell BB' 0 (v := .int .u64 0) rfl
    have k1 := Blk.cell BB' 1 (v := .int .u64 0) rfl
    have k2 := Blk.cell BB' 2 (v := .int .u64 0) rfl
    have k3 := Blk.cell BB' 3 (v := .int .u64 0) rfl
    exact bodyPost_ret (v := .tuple #[cls0.val, _]) (by simp [results, Tryd.results102, go_sem, k0, k1, k2, k3]; rfl) rfl ⟨FF, _, rfl, a, rfl, by have := F1.size; omega, HA''⟩
  | .ok lo n, HR1, HR, h2 =>
    obtain ⟨rfl, H2⟩ := h2
    obtain ⟨n1, n2, v0, v255⟩ := signC_ok HR1.out
    rw [List.length_drop] at n2
    have n2' : i + n ≤ s.size := by have e : s.data.toList.length = s.size := rfl; omega
    clear n2
    have HR' := HR.out
    simp only [List.drop_drop] at HR'
    have hj : ∃ j, j = i + n := ⟨_, rfl⟩
    by_cases hd : (s.data.toList.drop (i + n)).head? = some 45
    · rw [if_pos hd] at HR'
      obtain ⟨j, hj⟩ := hj
      have hr2'' : s.data.toList.drop (i + (n + 1)) = s.data.toList.drop (j + 1) := by rw [hj]; rfl
      rw [← hj] at hd H2 n2'
      have HI := Lib.hid (fun w1 (H1 : Rd w1 b s j) => is_any b s j 45 w1 H1 true (Lib.hid (by simpa using hd)))
      obtain ⟨r2, hr2⟩ : ∃ r, signC (s.data.toList.drop (j + 1)) = r := ⟨_, rfl⟩
      have hr2' : signC (s.data.toList.drop (i + (n + 1))) = r2 := by rw [hr2'']; exact hr2
      have hlt : j + 1 ≤ s.size := by
        rcases Nat.lt_or_ge j s.size with h | h
        · omega
        · rw [List.drop_eq_nil_of_le (by simpa using h)] at hd; cases hd
      have S2 := Lib.hid (fun w1 (H1 : Rd w1 b s (j + 1)) => sign_any b s (j + 1) w1 H1 hlt hs r2 (Lib.hid hr2))
      simp only [hr2'] at HR'
      have HR2 := Lib.hid hr2
      have HRR := Lib.hid HR'
      have HJ := Lib.hid hj
      clear hr2 hr2' hr2'' HR' HR HR1 S1 hd hj
      go_wp2_with fail
      refine (HI.out w2 H2).mono ?_
      rintro e w3 ⟨rfl, F4⟩
      have H3 : Rd w3 b s j := Blk.fr H2 F4 (by simp)
      have BB := BB.fr F4 (by simp)
      have hsz : w.heap.size < w3.heap.size := Nat.lt_of_lt_of_le hsz F4.size
      have F4 := F3.trans F4 (by simp)
      have c1 : w3.cell? ⟨b, 1, none⟩ = some (.int .i64 (j : Int)) := Blk.cell H3 1 rfl
      have cf : w3.frozen? ⟨b, 1, none⟩ = false := Blk.free H3 1
      clear d0 d1 d2 d3 f0 f1 f2 f3 H2
      go_wp2_with fail
      have F5 : Fr [b] w (w3.setCell ⟨b, 1, none⟩ (.int .i64 ((j : Int) + 1))) := F4.setCell (.inl (by simp)) _
      have H5 : Rd (w3.setCell ⟨b, 1, none⟩ (.int .i64 ((j : Int) + 1))) b s (j + 1) := Blk.set H3 1 _
      have BB := BB.set_other (p := ⟨b, 1, none⟩) (by show w.heap.size ≠ b; omega) (.int .i64 ((j : Int) + 1))
      have hz5 : (w3.setCell ⟨b, 1, none⟩ (.int .i64 ((j : Int) + 1))).heap.size = w3.heap.size := by simp [World.setCell]
      clear c1 cf H3 F4
      generalize w3.setCell ⟨b, 1, none⟩ (.int .i64 ((j : Int) + 1)) = w4 at *
      refine (S2.out w4 H5).mono ?_
      rintro e w5 ⟨F6, h6⟩
      have BB := BB.fr F6 (by simp; omega)
      have hsz6 := F5.size
      have F6 := F5.trans F6 (by simp)
      match r2, HR2, HRR, h6 with
      | .bad m, HR2, HRR, h6 =>
        obtain ⟨v, rfl, a, rfl, ha, HA⟩ := h6
        obtain rfl := HRR.out
        have HA' : a ≠ w.heap.size := by omega
        rw [show j + 1 + m = i + (n + 1 + m) from by have := HJ.out; omega] at HA
        have d0 : w5.cell? ⟨w.heap.size, 0, none⟩ = some (.int .u64 0) := Blk.cell BB 0 rfl
        have f0 : w5.frozen? ⟨w.heap.size, 0, none⟩ = false := Blk.free BB 0
        have d1 : w5.cell? ⟨w.heap.size, 1, none⟩ = some (.int .u64 0) := Blk.cell BB 1 rfl
        have f1 : w5.frozen? ⟨w.heap.size, 1, none⟩ = false := Blk.free BB 1
        have d2 : w5.cell? ⟨w.heap.size, 2, none⟩ = some (.int .u64 0) := Blk.cell BB 2 rfl
        have f2 : w5.frozen? ⟨w.heap.size, 2, none⟩ = false := Blk.free BB 2
        have d3 : w5.cell? ⟨w.heap.size, 3, none⟩ = some (.int .u64 0) := Blk.cell BB 3 rfl
        have f3 : w5.frozen? ⟨w.heap.size, 3, none⟩ = false := Blk.free BB 3
        go_wp2_with fail
        have BB' := BB.put_all [.int .u64 0, .int .u64 0, .int .u64 0, .int .u64 0] rfl
        have FF := F6.put (g := w.heap.size) (.inr (Nat.le_refl _)) [.int .u64 0, .int .u64 0, .int .u64 0, .int .u64 0] 0
        have HA'' := HA.put_other (g := w.heap.size) HA' [.int .u64 0, .int .u64 0, .int .u64 0, .int .u64 0] 0
        change bodyPost _ _ _ _ _ (put w5 w.heap.size 0 [.int .u64 0, .int .u64 0, .int .u64 0, .int .u64 0])
        generalize put w5 w.heap.size 0 [.int .u64 0, .int .u64 0, .int .u64 0, .int .u64 0] = w9 at *
        have k0 := Blk.cell BB' 0 (v := .int .u64 0) rfl
        have k1 := Blk.cell BB' 1 (v := .int .u64 0) rfl
        have k2 := Blk.cell BB' 2 (v := .int .u64 0) rfl
        have k3 := Blk.cell BB' 3 (v := .int .u64 0) rfl
        exact bodyPost_ret (v := .tuple #[cls0.val, _]) (by simp [results, Tryd.results102, go_sem, k0, k1, k2, k3]; rfl) rfl ⟨FF, _, rfl, a, rfl, by omega, HA''⟩
        
      | .ok u m, HR2, HRR, h6 =>
        obtain ⟨rfl, H6⟩ := h6
        obtain ⟨m1, m2, u0, u255⟩ := signC_ok HR2.out
        rw [List.length_drop] at m2
        have HRR' := HRR.out
        simp only at HRR'
        have d0 : w5.cell? ⟨w.heap.size, 0, none⟩ = some (.int .u64 0) := Blk.cell BB 0 rfl
        have f0 : w5.frozen? ⟨w.heap.size, 0, none⟩ = false := Blk.free BB 0
        have d1 : w5.cell? ⟨w.heap.size, 1, none⟩ = some (.int .u64 0) := Blk.cell BB 1 rfl
        have f1 : w5.frozen? ⟨w.heap.size, 1, none⟩ = false := Blk.free BB 1
        have d2 : w5.cell? ⟨w.heap.size, 2, none⟩ = some (.int .u64 0) := Blk.cell BB 2 rfl
        have f2 : w5.frozen? ⟨w.heap.size, 2, none⟩ = false := Blk.free BB 2
        have d3 : w5.cell? ⟨w.heap.size, 3, none⟩ = some (.int .u64 0) := Blk.cell BB 3 rfl
        have f3 : w5.frozen? ⟨w.heap.size, 3, none⟩ = false := Blk.free BB 3
        by_cases hlu : u < lo
        · rw [if_pos hlu] at HRR'
          obtain rfl := HRR'
          clear HRR HR2
          have BB8 := fun o => BB.alloc o
          have F8 := F6.alloc (.cells #[.int .i64 4, .int .i64 (i : Int)] 76)
          have HA := Blk.new w5 #[.int .i64 4, .int .i64 (i : Int)] 76
          have HA' : w5.heap.size ≠ w.heap.size := by have := BB.lt; omega
          have g0 : ∀ o, (w5.alloc o).frozen? ⟨w.heap.size, 0, none⟩ = false := fun o => Blk.free (BB8 o) 0
          have e0 : ∀ o, (w5.alloc o).cell? ⟨w.heap.size, 0, none⟩ = some (.int .u64 0) := fun o => Blk.cell (BB8 o) 0 rfl
          have g1 : ∀ o, (w5.alloc o).frozen? ⟨w.heap.size, 1, none⟩ = false := fun o => Blk.free (BB8 o) 1
          have e1 : ∀ o, (w5.alloc o).cell? ⟨w.heap.size, 1, none⟩ = some (.int .u64 0) := fun o => Blk.cell (BB8 o) 1 rfl
          have g2 : ∀ o, (w5.alloc o).frozen? ⟨w.heap.size, 2, none⟩ = false := fun o => Blk.free (BB8 o) 2
          have e2 : ∀ o, (w5.alloc o).cell? ⟨w.heap.size, 2, none⟩ = some (.int .u64 0) := fun o => Blk.cell (BB8 o) 2 rfl
          have g3 : ∀ o, (w5.alloc o).frozen? ⟨w.heap.size, 3, none⟩ = false := fun o => Blk.free (BB8 o) 3
          have e3 : ∀ o, (w5.alloc o).cell? ⟨w.heap.size, 3, none⟩ = some (.int .u64 0) := fun o => Blk.cell (BB8 o) 3 rfl
          go_wp2_with fail
          have BB' := (BB8 (.cells #[.int .i64 4, .int .i64 (i : Int)] 76)).put_all [.int .u64 0, .int .u64 0, .int .u64 0, .int .u64 0] rfl
          have FF := F8.put (g := w.heap.size) (.inr (Nat.le_refl _)) [.int .u64 0, .int .u64 0, .int .u64 0, .int .u64 0] 0
          have HA'' := HA.put_other (g := w.heap.size) HA' [.int .u64 0, .int .u64 0, .int .u64 0, .int .u64 0] 0
          change bodyPost _ _ _ _ _ (put (w5.alloc (.cells #[.int .i64 4, .int .i64 (i : Int)] 76)) w.heap.size 0 [.int .u64 0, .int .u64 0, .int .u64 0, .int .u64 0])
          generalize put (w5.alloc (.cells #[.int .i64 4, .int .i64 (i : Int)] 76)) w.heap.size 0 [.int .u64 0, .int .u64 0, .int .u64 0, .int .u64 0] = w9 at *
          have k0 := Blk.cell BB' 0 (v := .int .u64 0) rfl
          have k1 := Blk.cell BB' 1 (v := .int .u64 0) rfl
          have k2 := Blk.cell BB' 2 (v := .int .u64 0) rfl
          have k3 := Blk.cell BB' 3 (v := .int .u64 0) rfl
          refine bodyPost_ret (v := .tuple #[cls0.val, _]) (by simp [results, Tryd.results102, go_sem, k0, k1, k2, k3]; rfl) rfl ⟨FF, _, rfl, w5.heap.size, rfl, F6.size, ?_⟩
          rw [codeAt, if_pos (by have := HJ.out; omega)]
          exact HA''
        · rw [if_neg hlu] at HRR'
          obtain rfl := HRR'
          clear HRR HR2
          go_wp2_with fail
          refine (span_any lo u w5 v0 (by omega) u255).mono ?_
          rintro e w7 ⟨rfl, F7⟩
          have BB7 := BB.fr F7 (by simp)
          have H7 : Rd w7 b s (i + (n + 1 + m)) := by
            have := Blk.fr H6 F7 (by simp)
            rw [show i + (n + 1 + m) = j + 1 + m from by have := HJ.out; omega]
            exact this
          have F8 := F6.trans F7 (by simp)
          clear d0 d1 d2 d3 f0 f1 f2 f3
          have g0 : w7.frozen? ⟨w.heap.size, 0, none⟩ = false := Blk.free BB7 0
          have e0 : w7.cell? ⟨w.heap.size, 0, none⟩ = some (.int .u64 0) := Blk.cell BB7 0 rfl
          have g1 : w7.frozen? ⟨w.heap.size, 1, none⟩ = false := Blk.free BB7 1
          have e1 : w7.cell? ⟨w.heap.size, 1, none⟩ = some (.int .u64 0) := Blk.cell BB7 1 rfl
          have g2 : w7.frozen? ⟨w.heap.size, 2, none⟩ = false := Blk.free BB7 2
          have e2 : w7.cell? ⟨w.heap.size, 2, none⟩ = some (.int .u64 0) := Blk.cell BB7 2 rfl
          have g3 : w7.frozen? ⟨w.heap.size, 3, none⟩ = false := Blk.free BB7 3
          have e3 : w7.cell? ⟨w.heap.size, 3, none⟩ = some (.int .u64 0) := Blk.cell BB7 3 rfl
          simp only [Cls.val]
          go_wp2_with fail
          have BB' := BB7.put_all [.int .u64 ((spanC lo u).a : Int), .int .u64 ((spanC lo u).b : Int), .int .u64 ((spanC lo u).c : Int), .int .u64 ((spanC lo u).d : Int)] rfl
          have FF := F8.put (g := w.heap.size) (.inr (Nat.le_refl _)) [.int .u64 ((spanC lo u).a : Int), .int .u64 ((spanC lo u).b : Int), .int .u64 ((spanC lo u).c : Int), .int .u64 ((spanC lo u).d : Int)] 0
          have HH' := Blk.put_other (g := w.heap.size) (by omega) [.int .u64 ((spanC lo u).a : Int), .int .u64 ((spanC lo u).b : Int), .int .u64 ((spanC lo u).c : Int), .int .u64 ((spanC lo u).d : Int)] 0 H7
          change bodyPost _ _ _ _ _ (put w7 w.heap.size 0 [.int .u64 ((spanC lo u).a : Int), .int .u64 ((spanC lo u).b : Int), .int .u64 ((spanC lo u).c : Int), .int .u64 ((spanC lo u).d : Int)])
          generalize put w7 w.heap.size 0 [.int .u64 ((spanC lo u).a : Int), .int .u64 ((spanC lo u).b : Int), .int .u64 ((spanC lo u).c : Int), .int .u64 ((spanC lo u).d : Int)] = w9 at *
          have k0 := Blk.cell BB' 0 (v := .int .u64 ((spanC lo u).a : Int)) rfl
          have k1 := Blk.cell BB' 1 (v := .int .u64 ((spanC lo u).b : Int)) rfl
          have k2 := Blk.cell BB' 2 (v := .int .u64 ((spanC lo u).c : Int)) rfl
          have k3 := Blk.cell BB' 3 (v := .int .u64 ((spanC lo u).d : Int)) rfl
          exact bodyPost_ret (v := .tuple #[(spanC lo u).val, .nilIface]) (by simp [results, Tryd.results102, go_sem, k0, k1, k2, k3]; rfl) rfl ⟨FF, rfl, HH'⟩
    · rw [if_neg hd] at HR'
      have HI := Lib.hid (fun w1 (H1 : Rd w1 b s (i + n)) => is_any b s (i + n) 45 w1 H1 false (Lib.hid (by simpa using hd)))
      have HRR := Lib.hid HR'
      clear HR' HR HR1 S1 hd
      obtain rfl := HRR.out
      go_wp2_with fail
      refine (HI.out w2 H2).mono ?_
      rintro e w3 ⟨rfl, F4⟩
      have H3 : Rd w3 b s (i + n) := Blk.fr H2 F4 (by simp)
      have BB := BB.fr F4 (by simp)
      have F4 := F3.trans F4 (by simp)
      clear d0 d1 d2 d3 f0 f1 f2 f3 H2
      have d0 : w3.cell? ⟨w.heap.size, 0, none⟩ = some (.int .u64 0) := Blk.cell BB 0 rfl
      have f0 : w3.frozen? ⟨w.heap.size, 0, none⟩ = false := Blk.free BB 0
      have d1 : w3.cell? ⟨w.heap.size, 1, none⟩ = some (.int .u64 0) := Blk.cell BB 1 rfl
      have f1 : w3.frozen? ⟨w.heap.size, 1, none⟩ = false := Blk.free BB 1
      have d2 : w3.cell? ⟨w.heap.size, 2, none⟩ = some (.int .u64 0) := Blk.cell BB 2 rfl
      have f2 : w3.frozen? ⟨w.heap.size, 2, none⟩ = false := Blk.free BB 2
      have d3 : w3.cell? ⟨w.heap.size, 3, none⟩ = some (.int .u64 0) := Blk.cell BB 3 rfl
      have f3 : w3.frozen? ⟨w.heap.size, 3, none⟩ = false := Blk.free BB 3
      have hll : ¬ lo < lo := by omega
      go_wp2_with fail
      refine (span_any lo lo w3 v0 (by omega) v255).mono ?_
      rintro e w7 ⟨rfl, F7⟩
      have BB7 := BB.fr F7 (by simp)
      have H7 : Rd w7 b s (i + n) := Blk.fr H3 F7 (by simp)
      have F8 := F4.trans F7 (by simp)
      clear d0 d1 d2 d3 f0 f1 f2 f3
      have g0 : w7.frozen? ⟨w.heap.size, 0, none⟩ = false := Blk.free BB7 0
      have g1 : w7.frozen? ⟨w.heap.size, 1, none⟩ = false := Blk.free BB7 1
      have g2 : w7.frozen? ⟨w.heap.size, 2, none⟩ = false := Blk.free BB7 2
      have g3 : w7.frozen? ⟨w.heap.size, 3, none⟩ = false := Blk.free BB7 3
      have e0 : w7.cell? ⟨w.heap.size, 0, none⟩ = some (.int .u64 0) := Blk.cell BB7 0 rfl
      have e1 : w7.cell? ⟨w.heap.size, 1, none⟩ = some (.int .u64 0) := Blk.cell BB7 1 rfl
      have e2 : w7.cell? ⟨w.heap.size, 2, none⟩ = some (.int .u64 0) := Blk.cell BB7 2 rfl
      have e3 : w7.cell? ⟨w.heap.size, 3, none⟩ = some (.int .u64 0) := Blk.cell BB7 3 rfl
      simp only [Cls.val]
      go_wp2_with fail
      have BB' := BB7.put_all [.int .u64 ((spanC lo lo).a : Int), .int .u64 ((spanC lo lo).b : Int), .int .u64 ((spanC lo lo).c : Int), .int .u64 ((spanC lo lo).d : Int)] rfl
      have FF := F8.put (g := w.heap.size) (.inr (Nat.le_refl _)) [.int .u64 ((spanC lo lo).a : Int), .int .u64 ((spanC lo lo).b : Int), .int .u64 ((spanC lo lo).c : Int), .int .u64 ((spanC lo lo).d : Int)] 0
      have HH' := Blk.put_other (g := w.heap.size) (by omega) [.int .u64 ((spanC lo lo).a : Int), .int .u64 ((spanC lo lo).b : Int), .int .u64 ((spanC lo lo).c : Int), .int .u64 ((spanC lo lo).d : Int)] 0 H7
      change bodyPost _ _ _ _ _ (put w7 w.heap.size 0 [.int .u64 ((spanC lo lo).a : Int), .int .u64 ((spanC lo lo).b : Int), .int .u64 ((spanC lo lo).c : Int), .int .u64 ((spanC lo lo).d : Int)])
      generalize put w7 w.heap.size 0 [.int .u64 ((spanC lo lo).a : Int), .int .u64 ((spanC lo lo).b : Int), .int .u64 ((spanC lo lo).c : Int), .int .u64 ((spanC lo lo).d : Int)] = w9 at *
      have k0 := Blk.cell BB' 0 (v := .int .u64 ((spanC lo lo).a : Int)) rfl
      have k1 := Blk.cell BB' 1 (v := .int .u64 ((spanC lo lo).b : Int)) rfl
      have k2 := Blk.cell BB' 2 (v := .int .u64 ((spanC lo lo).c : Int)) rfl
      have k3 := Blk.cell BB' 3 (v := .int .u64 ((spanC lo lo).d : Int)) rfl
      exact bodyPost_ret (v := .tuple #[(spanC lo lo).val, .nilIface]) (by simp [results, Tryd.results102, go_sem, k0, k1, k2, k3]; rfl) rfl ⟨FF, rfl, HH'⟩
      
end Go.Proofs.YtglknnncpaggpaaDoor
