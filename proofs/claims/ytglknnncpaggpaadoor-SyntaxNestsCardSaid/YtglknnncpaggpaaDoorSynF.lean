/- The reader: part. -/
import Derived.Test.YtglknnncpaggpaaDoorSynE
namespace Go.Proofs.YtglknnncpaggpaaDoor
open Go.RowKit

set_option maxHeartbeats 16000000 in
set_option maxRecDepth 100000 in
theorem part_step (f : Nat) (hO : OneOK f) : PartOK (f + 1) := by
  intro br g l d w r B bl acc H hl hlen hd24 HG hBl hbrB hgB hacc hr hne
  obtain ⟨hbr, hg⟩ := H.lt
  have hi0 : (0 : Int) < (l.length : Int) := by have := hl.len; omega
  simp only [partP] at hr
  obtain ⟨o, cap, HA⟩ := H
  obtain ⟨c0, c1, c2, c3, c4, c5, c6⟩ := HA.head hl.len
  have r0 := Blk.cell HA.1 0 rfl
  go_enter Tryd.func69, Tryd.ntmps69
  go_upto_block 0 with fail
  clear c0 c1 c2 c3 c4 c5 c6 r0
  obtain ⟨w1, b1, e1, e2, F1, T1, S1⟩ := alloc_new w #[.int .i64 (hd l).kind, .string ⟨(hd l).text.toArray⟩, .int .u64 (hd l).cls.a, .int .u64 (hd l).cls.b, .int .u64 (hd l).cls.c, .int .u64 (hd l).cls.d, .int .i64 (hd l).at_] 40
  rw [e1, e2.out]
  have H1 : Rdr w1 br g l d := ⟨o, cap, HA.fr F1 (by simp) (by simp)⟩
  have G1 := HG.fr F1 (by simp) hBl
  have FB1 := F1.mono (T := [br]) (by simp)
  have h1r : b1 ≠ br := by have := e2.out; omega
  have h1g : b1 ≠ g := by have := e2.out; omega
  have h1w : w.heap.size ≤ b1 := by have := e2.out; omega
  have hblw : bl < w.heap.size := by obtain ⟨_, _, h, _⟩ := HG; exact h.lt
  have h1l : b1 ≠ bl := by omega
  have HRR := Lib.hid hr
  clear e1 HA HG F1 hr
  have CG := Lib.hid (ssign_any br g l d w1 H1 hl)
  obtain ⟨k, hk⟩ : ∃ k, aheadOf (signOf l) = k := ⟨_, rfl⟩
  have HK := Lib.hid hk
  clear hk
  with_reducible refine CG.out.mono ?_
  rintro e w' ⟨rfl, rfl⟩
  go_upto_block 0 with fail
  go_cut [6] from 18 to 21 (fun a wx => a = .int .i64 (k : Int) ∧ w1 = wx)
  case first =>
    by_cases h38 : signOf l = [38]
    · have hb1 : (signOf l == [38]) = true := by simpa using h38
      have hk2 : Hid (k = 11) := Lib.hid (by rw [← HK.out, h38]; rfl)
      clear h38 HRR
      go_wp2_with fail
      go_meet
      case rel => rw [hk2.out]; exact ⟨rfl, rfl⟩
    · have hb1 : (signOf l == [38]) = false := by simpa using h38
      by_cases h33 : signOf l = [33]
      · have hb2 : (signOf l == [33]) = true := by simpa using h33
        have hk2 : Hid (k = 12) := Lib.hid (by rw [← HK.out, h33]; rfl)
        clear h38 h33 HRR
        go_wp2_with fail
        go_meet
        case rel => rw [hk2.out]; exact ⟨rfl, rfl⟩
      · have hb2 : (signOf l == [33]) = false := by simpa using h33
        have hk2 : Hid (k = 0) := Lib.hid (by rw [← HK.out]; unfold aheadOf; rw [if_neg h38, if_neg h33])
        clear h38 h33 HRR
        go_wp2_with fail
        go_meet
        case rel => rw [hk2.out]; exact ⟨rfl, rfl⟩
  case rest =>
    obtain ⟨rfl, rfl⟩ := hcut
    clear CG
    go_upto_if 23 with fail
    obtain ⟨l2, hl2⟩ : ∃ l2, (if k = 0 then l else l.tail) = l2 := ⟨_, rfl⟩
    have HRF := HRR.out
    rw [HK.out, hl2] at HRF
    have HL2 := Lib.hid hl2
    have HR2 := Lib.hid HRF
    clear hl2 HRF HRR
    have hends : Ends l2 ∧ l2.length ≤ l.length := by
      rw [← HL2.out]
      split
      · exact ⟨hl, Nat.le_refl _⟩
      · rename_i h
        exact ⟨hl.tail (kind_ne (ahead_kind (by rw [HK.out]; exact h)) (by decide)), Nat.le_of_lt hl.tail_lt⟩
    go_cut [6] from 23 to 25 (fun a wx => a = .int .i64 (k : Int) ∧ Rdr wx br g l2 d ∧ Blk wx b1 #[.int .i64 (hd l).kind, .string ⟨(hd l).text.toArray⟩, .int .u64 (hd l).cls.a, .int .u64 (hd l).cls.b, .int .u64 (hd l).cls.c, .int .u64 (hd l).cls.d, .int .i64 (hd l).at_] 40 ∧ Grow wx B bl acc ∧ Fr [br] w wx)
    case first =>
      by_cases h0 : k = 0
      · have hb0 : ((k : Int) != 0) = false := by rw [h0]; rfl
        have hl3 := HL2.out
        rw [if_pos h0] at hl3
        have HL3 := Lib.hid hl3
        clear h0 hl3
        go_wp2_with fail
        go_meet
        case rel => exact ⟨rfl, by rw [← HL3.out]; exact H1, T1, G1, FB1⟩
      · have hb0 : ((k : Int) != 0) = true := by simp; omega
        have hl3 := HL2.out
        rw [if_neg h0] at hl3
        have HL3 := Lib.hid hl3
        have CX := Lib.hid (snext_any br g l d w1 H1 hl (kind_ne (ahead_kind (by rw [HK.out]; exact h0)) (by decide)))
        clear h0 hl3
        go_wp2_with fail
        with_reducible refine CX.out.mono ?_
        rintro e w2 ⟨rfl, F2, H2⟩
        go_wp2_with fail
        go_meet
        case rel => exact ⟨rfl, by rw [← HL3.out]; exact H2, T1.fr F2 (by simpa using h1r), G1.fr F2 (by simpa using hbrB) hBl, FB1.trans F2 (by simp)⟩
    case rest =>
      clear H1 T1 G1 FB1
      obtain ⟨rfl, H1, T1, G1, FB1⟩ := hcut
      obtain ⟨wm, hwm⟩ : ∃ wm, wm = wc := ⟨_, rfl⟩
      subst hwm
      have CO := hO br g l2 d wm
      obtain ⟨r2, hr2⟩ : ∃ r2, oneP f d l2 = r2 := ⟨_, rfl⟩
      have HRF := HR2.out
      rw [hr2] at HRF
      have hne2 : r2 ≠ .out := by rintro rfl; exact hne HRF.symm
      have CC := Lib.hid (CO r2 H1 hends.1 (by omega) hd24 hr2 hne2)
      have HGG : Hid (∀ t l1, r2 = .ok (some t) l1 → Ends l1 ∧ l1.length < l2.length) := Lib.hid (fun t l1 e => (good f).one _ _ _ _ hends.1 (hr2.trans e))
      have HGN : Hid (∀ l1, r2 = .ok none l1 → l1 = l2) := Lib.hid (fun l1 e => (good f).oneN _ _ _ hends.1 (hr2.trans e))
      have HR3 := Lib.hid HRF
      clear HRF hr2 hne2 CO HR2 H1
      go_wp2_with fail
      with_reducible refine CC.out.mono ?_
      rintro e w3 h3
      clear CC
      match r2, HGG, HGN, HR3, h3 with
      | .stop c a, HGG, HGN, HR3, h3 =>
        obtain ⟨F2, b, rfl, h2, h3⟩ := StopB.pre h3 FB1
        go_wp2_with fail
        rw [← HR3.out]
        exact ⟨rfl, F2, b, rfl, h2, h3⟩
      | .ok none l1, HGG, HGN, HR3, ⟨he, F3, H3⟩ =>
        subst he
        obtain rfl := HGN.out _ rfl
        have G3 := G1.fr F3 (by simpa using hbrB) hBl
        have FB3 := FB1.trans F3 (by simp)
        simp only [nodeZ]
        have A4 : ∀ o, Rdr (w3.alloc o) br g l1 d := fun o => H3.fr0 ((Fr.refl [] w3).alloc o)
        have FA4 : ∀ o, Fr [br] w (w3.alloc o) := fun o => FB3.alloc o
        by_cases h0 : k = 0
        · have hb0 : ((k : Int) != 0) = false := by rw [h0]; rfl
          have HRF := HR3.out
          simp only [if_pos h0] at HRF
          have HR4 := Lib.hid HRF
          clear h0 HRF HR3
          go_wp2_with fail
          refine bodyPost_ret (v := .bool false) (by simp [results, Tryd.results69, go_sem]) rfl ?_
          rw [← HR4.out]
          exact ⟨rfl, FA4 _, A4 _⟩
        · have hb0 : ((k : Int) != 0) = true := by simp; omega
          have HRF := HR3.out
          simp only [if_neg h0] at HRF
          rw [wrongAt_eq] at HRF
          have HR4 := Lib.hid HRF
          clear h0 HRF HR3
          have CW := Lib.hid (fun o => swrong_any br g l1 d (w3.alloc o) (A4 o) hends.1)
          go_wp2_with fail
          with_reducible refine (CW.out _).mono ?_
          rintro e w4 HS
          obtain ⟨F2, b, rfl, h2, h3⟩ := HS.toB (FA4 _)
          go_wp2_with fail
          rw [← HR4.out]
          exact ⟨rfl, F2, b, rfl, h2, h3⟩
      | .ok (some n) l1, HGG, HGN, HR3, ⟨cs, he, F3, N3, H3⟩ =>
        subst he
        obtain ⟨hl1, hll⟩ := HGG.out _ _ rfl
        obtain ⟨sp, sn, sc, rfl⟩ := N3.shape
        have T3 := T1.fr F3 (by simpa using h1r)
        have FM3 : Fr [br] wm w3 := F3
        have N3' := NodeAt.mono (ok' := fun b => wm.heap.size ≤ b) (fun b hb => hb) _ _ N3
        clear h3 N3 F3
        go_upto_region 14 with fail
        obtain ⟨w4, b7, e7, e8, F4, K4, S4⟩ := alloc_new w3 #[.int .i64 n.kind, .string ⟨n.text.toArray⟩, .int .u64 n.cls.a, .int .u64 n.cls.b, .int .u64 n.cls.c, .int .u64 n.cls.d, .slice sp sn sc, .int .i64 n.at_] 43
        rw [e7, e8.out]
        have H4 := H3.fr0 F4
        have T4 := T3.fr F4 (by simp)
        have FM4 := FM3.trans F4 (by simp)
        have N4 := (NodeAt.mono (ok' := fun b => wm.heap.size ≤ b ∧ b ≠ b7) (fun b hb => by have := e8.out; exact ⟨hb.1, by omega⟩) _ _ (NodeAt.lt _ _ N3')).fr F4 (by simp)
        have h7m : wm.heap.size ≤ b7 := by have := e8.out; have := FM3.size; omega
        have hbrM : br < wm.heap.size := by have := FB1.size; omega
        have h7r : b7 ≠ br := by have := FB1.size; omega
        have h7g : b7 ≠ g := by have := FB1.size; omega
        have h71 : b1 ≠ b7 := by have := T1.lt; omega
        clear e7 H3 T3 FM3 N3' F4
        have CS := Lib.hid (ssign_any br g l1 d w4 H4 hl1)
        obtain ⟨m, hm⟩ : ∃ m, behindOf (signOf l1) = m := ⟨_, rfl⟩
        have HM := Lib.hid hm
        clear hm
        go_upto_block 1 with fail
        with_reducible refine CS.out.mono ?_
        rintro e w' ⟨rfl, rfl⟩
        go_upto_block 1 with fail
        obtain ⟨l3, hl3⟩ : ∃ l3, (if m = 0 then l1 else l1.tail) = l3 := ⟨_, rfl⟩
        obtain ⟨n1, hn1⟩ : ∃ n1, (if m = 0 then n else .node m [] cls0 [n] n.at_) = n1 := ⟨_, rfl⟩
        have HL3 := Lib.hid hl3
        have HN1 := Lib.hid hn1
        clear hl3 hn1
        go_cut [9] from 39 to 57 (fun _ wx => ∃ cs, cs.length = 8 ∧ Blk wx b7 cs.toArray 43 ∧ NodeAt wx (fun b => wm.heap.size ≤ b ∧ b ≠ b7) n1 cs ∧ Rdr wx br g l3 d ∧ Fr [br] wm wx ∧ Blk wx b1 #[.int .i64 (hd l).kind, .string ⟨(hd l).text.toArray⟩, .int .u64 (hd l).cls.a, .int .u64 (hd l).cls.b, .int .u64 (hd l).cls.c, .int .u64 (hd l).cls.d, .int .i64 (hd l).at_] 40 ∧ True)
        case first =>
          by_cases h43 : signOf l1 = [43]
          · have hb43 : (signOf l1 == [43]) = true := by rw [h43]; rfl
            have hm : Hid (m = 10) := Lib.hid (by rw [← HM.out, h43]; rfl)
            have CX := Lib.hid (snext_any br g l1 d w4 H4 hl1 (kind_ne (sign_kind h43) (by decide)))
            clear h43 HR3 CS
            go_wp2_with fail
            with_reducible refine CX.out.mono ?_
            rintro e w5 ⟨rfl, F5, H5⟩
            have N5 := N4.fr F5 (by intro b hb h; simp at hb; omega)
            have K5 := K4.fr F5 (by simpa using h7r)
            have T5 := T4.fr F5 (by simpa using h1r)
            have FM5 := FM4.trans F5 (by simp)
            clear CX H4 N4 K4 T4 FM4 F5
            obtain ⟨q0, q1, q2, q3, q4, q5, q6, q7⟩ := K5.c8
            have qf := K5.free
            have hc0 : ∀ o, (w5.alloc o).cell? ⟨b7, 0, none⟩ = some (.int .i64 n.kind) := fun o => (K5.alloc o).cell 0 rfl
            have hc1 : ∀ o, (w5.alloc o).cell? ⟨b7, 1, none⟩ = some (.string ⟨n.text.toArray⟩) := fun o => (K5.alloc o).cell 1 rfl
            have hc2 : ∀ o, (w5.alloc o).cell? ⟨b7, 2, none⟩ = some (.int .u64 n.cls.a) := fun o => (K5.alloc o).cell 2 rfl
            have hc3 : ∀ o, (w5.alloc o).cell? ⟨b7, 3, none⟩ = some (.int .u64 n.cls.b) := fun o => (K5.alloc o).cell 3 rfl
            have hc4 : ∀ o, (w5.alloc o).cell? ⟨b7, 4, none⟩ = some (.int .u64 n.cls.c) := fun o => (K5.alloc o).cell 4 rfl
            have hc5 : ∀ o, (w5.alloc o).cell? ⟨b7, 5, none⟩ = some (.int .u64 n.cls.d) := fun o => (K5.alloc o).cell 5 rfl
            have hc6 : ∀ o, (w5.alloc o).cell? ⟨b7, 6, none⟩ = some (.slice sp sn sc) := fun o => (K5.alloc o).cell 6 rfl
            have hc7 : ∀ o, (w5.alloc o).cell? ⟨b7, 7, none⟩ = some (.int .i64 n.at_) := fun o => (K5.alloc o).cell 7 rfl
            have hqf : ∀ o j, (w5.alloc o).frozen? ⟨b7, j, none⟩ = false := fun o j => (K5.alloc o).free j
            go_wp2_with fail
            clear q0 q1 q2 q3 q4 q5 q6 q7 qf hc0 hc1 hc2 hc3 hc4 hc5 hc6 hc7 hqf
            go_meet
            case rel =>
              obtain ⟨w6, rfl, F6, K6, N6⟩ := wrap_new K5 rfl N5 FM5.size 10 n.at_
              have hl3 := HL3.out
              have hn1 := HN1.out
              rw [hm.out] at hl3 hn1
              subst hl3
              subst hn1
              exact ⟨_, rfl, K6, N6, H5.fr F6 (by simpa using Ne.symm h7r) (by simpa using Ne.symm h7g), FM5.trans F6 (by simp; omega), T5.fr F6 (by simpa using h71), trivial⟩
          · by_cases h42 : signOf l1 = [42]
            · have hb43 : (signOf l1 == [43]) = false := by rw [h42]; rfl
              have hb42 : (signOf l1 == [42]) = true := by rw [h42]; rfl
              have hm : Hid (m = 9) := Lib.hid (by rw [← HM.out, h42]; rfl)
              have CX := Lib.hid (snext_any br g l1 d w4 H4 hl1 (kind_ne (sign_kind h42) (by decide)))
              clear h42 HR3 CS
              go_wp2_with fail
              with_reducible refine CX.out.mono ?_
              rintro e w5 ⟨rfl, F5, H5⟩
              have N5 := N4.fr F5 (by intro b hb h; simp at hb; omega)
              have K5 := K4.fr F5 (by simpa using h7r)
              have T5 := T4.fr F5 (by simpa using h1r)
              have FM5 := FM4.trans F5 (by simp)
              clear CX H4 N4 K4 T4 FM4 F5
              obtain ⟨q0, q1, q2, q3, q4, q5, q6, q7⟩ := K5.c8
              have qf := K5.free
              have hc0 : ∀ o, (w5.alloc o).cell? ⟨b7, 0, none⟩ = some (.int .i64 n.kind) := fun o => (K5.alloc o).cell 0 rfl
              have hc1 : ∀ o, (w5.alloc o).cell? ⟨b7, 1, none⟩ = some (.string ⟨n.text.toArray⟩) := fun o => (K5.alloc o).cell 1 rfl
              have hc2 : ∀ o, (w5.alloc o).cell? ⟨b7, 2, none⟩ = some (.int .u64 n.cls.a) := fun o => (K5.alloc o).cell 2 rfl
              have hc3 : ∀ o, (w5.alloc o).cell? ⟨b7, 3, none⟩ = some (.int .u64 n.cls.b) := fun o => (K5.alloc o).cell 3 rfl
              have hc4 : ∀ o, (w5.alloc o).cell? ⟨b7, 4, none⟩ = some (.int .u64 n.cls.c) := fun o => (K5.alloc o).cell 4 rfl
              have hc5 : ∀ o, (w5.alloc o).cell? ⟨b7, 5, none⟩ = some (.int .u64 n.cls.d) := fun o => (K5.alloc o).cell 5 rfl
              have hc6 : ∀ o, (w5.alloc o).cell? ⟨b7, 6, none⟩ = some (.slice sp sn sc) := fun o => (K5.alloc o).cell 6 rfl
              have hc7 : ∀ o, (w5.alloc o).cell? ⟨b7, 7, none⟩ = some (.int .i64 n.at_) := fun o => (K5.alloc o).cell 7 rfl
              have hqf : ∀ o j, (w5.alloc o).frozen? ⟨b7, j, none⟩ = false := fun o j => (K5.alloc o).free j
              go_wp2_with fail
              clear q0 q1 q2 q3 q4 q5 q6 q7 qf hc0 hc1 hc2 hc3 hc4 hc5 hc6 hc7 hqf
              go_meet
              case rel =>
                obtain ⟨w6, rfl, F6, K6, N6⟩ := wrap_new K5 rfl N5 FM5.size 9 n.at_
                have hl3 := HL3.out
                have hn1 := HN1.out
                rw [hm.out] at hl3 hn1
                subst hl3
                subst hn1
                exact ⟨_, rfl, K6, N6, H5.fr F6 (by simpa using Ne.symm h7r) (by simpa using Ne.symm h7g), FM5.trans F6 (by simp; omega), T5.fr F6 (by simpa using h71), trivial⟩
            · by_cases h63 : signOf l1 = [63]
              · have hb43 : (signOf l1 == [43]) = false := by rw [h63]; rfl
                have hb42 : (signOf l1 == [42]) = false := by rw [h63]; rfl
                have hb63 : (signOf l1 == [63]) = true := by rw [h63]; rfl
                have hm : Hid (m = 8) := Lib.hid (by rw [← HM.out, h63]; rfl)
                have CX := Lib.hid (snext_any br g l1 d w4 H4 hl1 (kind_ne (sign_kind h63) (by decide)))
                clear h63 HR3 CS
                go_wp2_with fail
                with_reducible refine CX.out.mono ?_
                rintro e w5 ⟨rfl, F5, H5⟩
                have N5 := N4.fr F5 (by intro b hb h; simp at hb; omega)
                have K5 := K4.fr F5 (by simpa using h7r)
                have T5 := T4.fr F5 (by simpa using h1r)
                have FM5 := FM4.trans F5 (by simp)
                clear CX H4 N4 K4 T4 FM4 F5
                obtain ⟨q0, q1, q2, q3, q4, q5, q6, q7⟩ := K5.c8
                have qf := K5.free
                have hc0 : ∀ o, (w5.alloc o).cell? ⟨b7, 0, none⟩ = some (.int .i64 n.kind) := fun o => (K5.alloc o).cell 0 rfl
                have hc1 : ∀ o, (w5.alloc o).cell? ⟨b7, 1, none⟩ = some (.string ⟨n.text.toArray⟩) := fun o => (K5.alloc o).cell 1 rfl
                have hc2 : ∀ o, (w5.alloc o).cell? ⟨b7, 2, none⟩ = some (.int .u64 n.cls.a) := fun o => (K5.alloc o).cell 2 rfl
                have hc3 : ∀ o, (w5.alloc o).cell? ⟨b7, 3, none⟩ = some (.int .u64 n.cls.b) := fun o => (K5.alloc o).cell 3 rfl
                have hc4 : ∀ o, (w5.alloc o).cell? ⟨b7, 4, none⟩ = some (.int .u64 n.cls.c) := fun o => (K5.alloc o).cell 4 rfl
                have hc5 : ∀ o, (w5.alloc o).cell? ⟨b7, 5, none⟩ = some (.int .u64 n.cls.d) := fun o => (K5.alloc o).cell 5 rfl
                have hc6 : ∀ o, (w5.alloc o).cell? ⟨b7, 6, none⟩ = some (.slice sp sn sc) := fun o => (K5.alloc o).cell 6 rfl
                have hc7 : ∀ o, (w5.alloc o).cell? ⟨b7, 7, none⟩ = some (.int .i64 n.at_) := fun o => (K5.alloc o).cell 7 rfl
                have hqf : ∀ o j, (w5.alloc o).frozen? ⟨b7, j, none⟩ = false := fun o j => (K5.alloc o).free j
                go_wp2_with fail
                clear q0 q1 q2 q3 q4 q5 q6 q7 qf hc0 hc1 hc2 hc3 hc4 hc5 hc6 hc7 hqf
                go_meet
                case rel =>
                  obtain ⟨w6, rfl, F6, K6, N6⟩ := wrap_new K5 rfl N5 FM5.size 8 n.at_
                  have hl3 := HL3.out
                  have hn1 := HN1.out
                  rw [hm.out] at hl3 hn1
                  subst hl3
                  subst hn1
                  exact ⟨_, rfl, K6, N6, H5.fr F6 (by simpa using Ne.symm h7r) (by simpa using Ne.symm h7g), FM5.trans F6 (by simp; omega), T5.fr F6 (by simpa using h71), trivial⟩
              · have hb43 : (signOf l1 == [43]) = false := by simpa using h43
                have hb42 : (signOf l1 == [42]) = false := by simpa using h42
                have hb63 : (signOf l1 == [63]) = false := by simpa using h63
                have hm : Hid (m = 0) := Lib.hid (by rw [← HM.out]; unfold behindOf; rw [if_neg h43, if_neg h42, if_neg h63])
                clear h43 h42 h63 HR3 CS
                go_wp2_with fail
                go_meet
                case rel =>
                  have hl3 := HL3.out
                  have hn1 := HN1.out
                  rw [hm.out] at hl3 hn1
                  subst hl3
                  subst hn1
                  exact ⟨_, rfl, K4, N4, H4, FM4, T4, trivial⟩
        case rest =>
          clear H4 N4 K4 T4 FM4 CS
          obtain ⟨cs, hcs, K5, N5, H5, FM5, T5, _⟩ := hcut
          obtain ⟨vp, vn, vc, hsh⟩ := N5.shape
          subst hsh
          obtain ⟨n2, hn2⟩ : ∃ n2, (if k = 0 then n1 else .node k [] cls0 [n1] (hd l).at_) = n2 := ⟨_, rfl⟩
          have HN2 := Lib.hid hn2
          clear hn2
          go_upto_if 59 with fail
          go_cut [9] from 59 to 65 (fun _ wx => ∃ cs, cs.length = 8 ∧ Blk wx b7 cs.toArray 43 ∧ NodeAt wx (fun b => wm.heap.size ≤ b ∧ b ≠ b7) n2 cs ∧ Rdr wx br g l3 d ∧ Fr [br] wm wx ∧ True)
          case first =>
            by_cases h0 : k = 0
            · have hb0 : ((k : Int) != 0) = false := by rw [h0]; rfl
              have hn2 := HN2.out
              rw [if_pos h0] at hn2
              have HN3 := Lib.hid hn2
              clear h0 hn2 HR3
              go_wp2_with fail
              go_meet
              case rel => exact ⟨_, rfl, K5, by rw [← HN3.out]; exact N5, H5, FM5, trivial⟩
            · have hb0 : ((k : Int) != 0) = true := by simp; omega
              have hn2 := HN2.out
              rw [if_neg h0] at hn2
              have HN3 := Lib.hid hn2
              clear h0 hn2 HR3
              obtain ⟨q0, q1, q2, q3, q4, q5, q6, q7⟩ := Blk.c8 K5
              have qf := K5.free
              have hc0 : ∀ o, (wc.alloc o).cell? ⟨b7, 0, none⟩ = some (.int .i64 n1.kind) := fun o => (K5.alloc o).cell 0 rfl
              have hc1 : ∀ o, (wc.alloc o).cell? ⟨b7, 1, none⟩ = some (.string ⟨n1.text.toArray⟩) := fun o => (K5.alloc o).cell 1 rfl
              have hc2 : ∀ o, (wc.alloc o).cell? ⟨b7, 2, none⟩ = some (.int .u64 n1.cls.a) := fun o => (K5.alloc o).cell 2 rfl
              have hc3 : ∀ o, (wc.alloc o).cell? ⟨b7, 3, none⟩ = some (.int .u64 n1.cls.b) := fun o => (K5.alloc o).cell 3 rfl
              have hc4 : ∀ o, (wc.alloc o).cell? ⟨b7, 4, none⟩ = some (.int .u64 n1.cls.c) := fun o => (K5.alloc o).cell 4 rfl
              have hc5 : ∀ o, (wc.alloc o).cell? ⟨b7, 5, none⟩ = some (.int .u64 n1.cls.d) := fun o => (K5.alloc o).cell 5 rfl
              have hc6 : ∀ o, (wc.alloc o).cell? ⟨b7, 6, none⟩ = some (.slice vp vn vc) := fun o => (K5.alloc o).cell 6 rfl
              have hc7 : ∀ o, (wc.alloc o).cell? ⟨b7, 7, none⟩ = some (.int .i64 n1.at_) := fun o => (K5.alloc o).cell 7 rfl
              have hqf : ∀ o j, (wc.alloc o).frozen? ⟨b7, j, none⟩ = false := fun o j => (K5.alloc o).free j
              have ht6 : ∀ o, (wc.alloc o).cell? ⟨b1, 6, none⟩ = some (.int .i64 (hd l).at_) := fun o => (T5.alloc o).cell 6 rfl
              go_wp2_with fail
              clear q0 q1 q2 q3 q4 q5 q6 q7 qf hc0 hc1 hc2 hc3 hc4 hc5 hc6 hc7 hqf ht6
              go_meet
              case rel =>
                obtain ⟨w6, rfl, F6, K6, N6⟩ := wrap_new K5 rfl N5 FM5.size k (hd l).at_
                have hn2 := HN3.out
                subst hn2
                exact ⟨_, rfl, K6, N6, H5.fr F6 (by simpa using Ne.symm h7r) (by simpa using Ne.symm h7g), FM5.trans F6 (by simp; omega), trivial⟩
          case rest =>
            clear H5 N5 K5 FM5 T5
            obtain ⟨cs, hcs, K6, N6, H6, FM6, _⟩ := hcut
            obtain ⟨xp, xn, xc, hsh⟩ := N6.shape
            subst hsh
            have hblM : bl < wm.heap.size := by have := FB1.size; omega
            have h7l : b7 ≠ bl := by omega
            have hwBM : B ≤ wm.heap.size := by omega
            obtain ⟨G7, hown7⟩ : Grow wc B bl acc ∧ ∀ lv, wc.cell? ⟨bl, 0, none⟩ = some lv → ∀ k, lv.ownBlock = some k → B ≤ k ∧ k < wm.heap.size := grow_at G1 FM6 (by simpa using hbrB) hBl
            obtain ⟨lp, lc, xs, GB, hown, GR, hownl⟩ := G7.form
            have hownM := hown7 _ (GB.cell 0 rfl)
            have hown77 : (Value.slice lp acc.length lc).ownBlock ≠ some b7 := fun e => by have := (hownM _ e).2; omega
            have hwcM := FM6.size
            have hblc := GB.lt
            have hb7c := K6.lt
            clear G7 hown7 hcs G1
            obtain ⟨i0, hi, hz0, hz1, hz2⟩ := info_parts Tryd.info_node
            have hl0 : wc.cell? ⟨bl, 0, none⟩ = some (.slice lp acc.length lc) := GB.cell 0 rfl
            have hlA : ∀ o, (wc.alloc o).cell? ⟨bl, 0, none⟩ = some (.slice lp acc.length lc) := fun o => (GB.alloc o).cell 0 rfl
            obtain ⟨q0, q1, q2, q3, q4, q5, q6, q7⟩ := Blk.c8 K6
            have hc0 : ∀ o, (wc.alloc o).cell? ⟨b7, 0, none⟩ = some (.int .i64 n2.kind) := fun o => (K6.alloc o).cell 0 rfl
            have hc1 : ∀ o, (wc.alloc o).cell? ⟨b7, 1, none⟩ = some (.string ⟨n2.text.toArray⟩) := fun o => (K6.alloc o).cell 1 rfl
            have hc2 : ∀ o, (wc.alloc o).cell? ⟨b7, 2, none⟩ = some (.int .u64 n2.cls.a) := fun o => (K6.alloc o).cell 2 rfl
            have hc3 : ∀ o, (wc.alloc o).cell? ⟨b7, 3, none⟩ = some (.int .u64 n2.cls.b) := fun o => (K6.alloc o).cell 3 rfl
            have hc4 : ∀ o, (wc.alloc o).cell? ⟨b7, 4, none⟩ = some (.int .u64 n2.cls.c) := fun o => (K6.alloc o).cell 4 rfl
            have hc5 : ∀ o, (wc.alloc o).cell? ⟨b7, 5, none⟩ = some (.int .u64 n2.cls.d) := fun o => (K6.alloc o).cell 5 rfl
            have hc6 : ∀ o, (wc.alloc o).cell? ⟨b7, 6, none⟩ = some (.slice xp xn xc) := fun o => (K6.alloc o).cell 6 rfl
            have hc7 : ∀ o, (wc.alloc o).cell? ⟨b7, 7, none⟩ = some (.int .i64 n2.at_) := fun o => (K6.alloc o).cell 7 rfl
            have hn0 : (0 : Int) ≤ (acc.length : Int) := by omega
            have hn1 : (acc.length : Int) < (acc.length : Int) + 1 := by omega
            go_wp2_with fail
            go_region_law
              ((refine step_append_lies _ (by rfl) _ _ _ (by rfl) B 43 i0 _ 8 88 Tryd.underlying41 hi hz0 hz1 hz2 rfl (by omega) (.slice lp acc.length lc) acc.length xs (by rfl) ((hown.alloc _).drew)
                  ⟨wc.heap.size, 0, none⟩ 1 1 [.int .i64 0, .string ⟨#[]⟩, .int .u64 0, .int .u64 0, .int .u64 0, .int .u64 0, .slice none 0 0, .int .i64 0] (by rfl) (by rfl) (World.news_of_block (cs := #[.int .i64 0, .string ⟨#[]⟩, .int .u64 0, .int .u64 0, .int .u64 0, .int .u64 0, .slice none 0 0, .int .i64 0]) (t := 43) (fr := (0, 0)) (heap_alloc_new wc _)) (by simp [Value.oneCell'])
                  (by omega) (by unfold maxLen; omega) (by omega) (by simp; omega) (wc.heap.size + 1) (by simp) ?_; intro gg cap w2 hown2 hgrow hat hlt
                have GB2 : Blk w2 bl #[.slice lp acc.length lc] 41 := (hgrow.block bl (by simp; omega) (fun e => hownl e.symm)).trans (GB.alloc _)
                have K2 : Blk w2 b7 #[.int .i64 n2.kind, .string ⟨n2.text.toArray⟩, .int .u64 n2.cls.a, .int .u64 n2.cls.b, .int .u64 n2.cls.c, .int .u64 n2.cls.d, .slice xp xn xc, .int .i64 n2.at_] 43 := (hgrow.block b7 (by simp; omega) (fun e => hown77 e.symm)).trans (K6.alloc _)
                obtain ⟨p0, p1, p2, p3, p4, p5, p6, p7⟩ := Blk.c8 K2
                have d2 : w2.cell? ⟨bl, 0, none⟩ = some (.slice lp acc.length lc) := GB2.cell 0 rfl
                have f2 : w2.frozen? ⟨bl, 0, none⟩ = false := GB2.free 0
                have hgl : gg ≠ bl := by rcases hat with h | h; exact (fun e => hownl (by rw [h, e])); omega
                have hgl' : ¬ bl = gg := fun e => hgl e.symm
                obtain ⟨y0, y1, y2, y3, y4, y5, y6, y7, yf⟩ := own_last hown2 hown.1))
            all_goals
              clear hlA q0 q1 q2 q3 q4 q5 q6 q7 hc0 hc1 hc2 hc3 hc4 hc5 hc6 hc7 hl0 hn0 hn1 p0 p1 p2 p3 p4 p5 p6 p7 d2 f2 y0 y1 y2 y3 y4 y5 y6 y7 yf hgl' GB2 K2
              obtain ⟨FX, GX⟩ := grow_done hBl hblM GB hown hownM hownl GR N6 hown2 rfl hgrow hat
              have RX := H6.frB FX hbrB hgB (by simp) (by simp)
              clear hgrow hat hlt hown2 hown GR GB N6 K6 hown77 hownM hownl hi hz0 hz1 hz2
              rw [put8]
              rw [put_comm hgl] at FX GX RX
              try rw [put_comm hgl]
              generalize put (w2.setCell ⟨bl, 0, none⟩ (.slice (some ⟨gg, 0, none⟩) (acc.length + 1) cap)) gg (acc.length * 8) [.int .i64 n2.kind, .string ⟨n2.text.toArray⟩, .int .u64 n2.cls.a, .int .u64 n2.cls.b, .int .u64 n2.cls.c, .int .u64 n2.cls.d, .slice xp xn xc, .int .i64 n2.at_] = W at *
              clear hgl
              go_wp2_with fail
              refine bodyPost_ret (v := .bool true) (by simp [results, Tryd.results69, go_sem]) rfl ?_
              exact part_post HR3.out HM.out HL3.out HN1.out HN2.out ((FB1.toB B).trans (FM6.toB B)) FX GX RX
end Go.Proofs.YtglknnncpaggpaaDoor
