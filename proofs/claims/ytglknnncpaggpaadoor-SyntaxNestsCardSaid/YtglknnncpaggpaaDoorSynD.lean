/- The reader: one. -/
import Derived.Test.YtglknnncpaggpaaDoorSynC
namespace Go.Proofs.YtglknnncpaggpaaDoor
open Go.RowKit

set_option maxHeartbeats 16000000 in
set_option maxRecDepth 100000 in
theorem one_step (f : Nat) (hW : WithinOK f) : OneOK (f + 1) := by
  intro br g l d w r H hl hlen hd24 hr hne
  obtain ⟨hbr, hg⟩ := H.lt
  have hi0 : (0 : Int) < (l.length : Int) := by have := hl.len; omega
  simp only [oneP] at hr
  go_enter Tryd.func93, Tryd.ntmps93
  go_upto_region 1 with fail
  obtain ⟨w1, b1, e1, e2, F1, R1, S1⟩ := alloc_new w #[.int .i64 0, .string ⟨#[]⟩, .int .u64 0, .int .u64 0, .int .u64 0, .int .u64 0, .slice none 0 0, .int .i64 0] 43
  rw [e1, e2.out]
  have H1 := H.fr0 F1
  have FB1 := F1.mono (T := [br]) (by simp)
  have h1r : b1 ≠ br := by have := e2.out; omega
  have h1g : b1 ≠ g := by have := e2.out; omega
  have h1w : w.heap.size ≤ b1 := by have := e2.out; omega
  clear e1 H F1
  obtain ⟨o, cap, HA⟩ := H1
  obtain ⟨c0, c1, c2, c3, c4, c5, c6⟩ := HA.head hl.len
  have r0 := Blk.cell HA.1 0 rfl
  go_upto_region 2 with fail
  clear c0 c1 c2 c3 c4 c5 c6 r0
  obtain ⟨w2, b2, e3, e4, F2, T2, S2⟩ := alloc_new w1 #[.int .i64 (hd l).kind, .string ⟨(hd l).text.toArray⟩, .int .u64 (hd l).cls.a, .int .u64 (hd l).cls.b, .int .u64 (hd l).cls.c, .int .u64 (hd l).cls.d, .int .i64 (hd l).at_] 40
  rw [e3, e4.out]
  have HA2 := HA.fr F2 (by simp) (by simp)
  have R2 := R1.fr F2 (by simp)
  have FB2 := FB1.trans F2 (by simp)
  have h21 : b2 ≠ b1 := by have := e4.out; have := R1.lt; omega
  have h2w : w.heap.size ≤ b2 := by have := e4.out; have := FB1.size; omega
  clear e3 HA F2 R1 FB1
  obtain ⟨t0, t1, t2, t3, t4, t5, t6⟩ := T2.c7
  go_upto_region 3 with fail
  clear t0 t1 t2 t3 t4 t5 t6
  obtain ⟨w3, b3, e5, e6, F3, N3, S3⟩ := alloc_new w2 #[.int .i64 0, .string ⟨(hd l).text.toArray⟩, .int .u64 (hd l).cls.a, .int .u64 (hd l).cls.b, .int .u64 (hd l).cls.c, .int .u64 (hd l).cls.d, .slice none 0 0, .int .i64 (hd l).at_] 43
  rw [e5, e6.out]
  have HA3 := HA2.fr F3 (by simp) (by simp)
  have R3 := R2.fr F3 (by simp)
  have T3 := T2.fr F3 (by simp)
  have FB3 := FB2.trans F3 (by simp)
  have h13 : b1 ≠ b3 := by have := e6.out; have := R2.lt; omega
  have h23 : b2 ≠ b3 := by have := e6.out; have := T2.lt; omega
  have h3w : w.heap.size ≤ b3 := by have := e6.out; have := FB2.size; omega
  have h3r : b3 ≠ br := by omega
  have h3g : b3 ≠ g := by omega
  clear e5 HA2 F3 R2 FB2 T2
  have H3 : Rdr w3 br g l d := ⟨o, cap, HA3⟩
  obtain ⟨t0, t1, t2, t3, t4, t5, t6⟩ := T3.c7
  obtain ⟨n0, n1, n2, n3, n4, n5, n6, n7⟩ := N3.c8
  have nf := N3.free
  obtain ⟨z0, z1, z2, z3, z4, z5, z6, z7⟩ := R3.c8
  have zf := R3.free
  have r0 := Blk.cell HA3.1 0 rfl
  by_cases k1 : (hd l).kind = 1
  · have hk6 : (hd l).kind ≠ 6 := by omega
    have hl2 := hl.two hk6
    have hi1 : (1 : Int) < (l.length : Int) := by omega
    have c7 := HA3.second hl2
    rw [if_pos k1] at hr
    have g1 : (((hd l).kind : Int) == 1) = true := by rw [beq_iff_eq]; omega
    by_cases k2 : (hd l.tail).kind = 2
    · have g2 : (((hd l.tail).kind : Int) == 2) = true := by rw [beq_iff_eq]; omega
      rw [if_pos k2] at hr
      have HR := Lib.hid hr
      clear hr k1 k2
      go_wp2_with fail
      clear t0 t1 t2 t3 t4 t5 t6 n0 n1 n2 n3 n4 n5 n6 n7 nf r0 c7 z0 z1 z2 z3 z4 z5 z6 z7 zf
      change bodyPost _ _ _ _ _ (put w3 b1 0 [.int .i64 0, .string ⟨#[]⟩, .int .u64 0, .int .u64 0, .int .u64 0, .int .u64 0, .slice none 0 0, .int .i64 0])
      obtain ⟨w6, e11, F6, R6, S6⟩ := put_new R3 [.int .i64 0, .string ⟨#[]⟩, .int .u64 0, .int .u64 0, .int .u64 0, .int .u64 0, .slice none 0 0, .int .i64 0] rfl
      rw [e11]
      obtain ⟨k0, k1, k2, k3, k4, k5, k6, k7⟩ := R6.c8
      have FB6 := FB3.trans F6 (by simp; omega)
      have H6 := H3.fr F6 (by simpa using Ne.symm h1r) (by simpa using Ne.symm h1g)
      refine bodyPost_ret (v := .tuple #[nodeZ, .bool false]) (by simp [results, Tryd.results93, go_sem, k0, k1, k2, k3, k4, k5, k6, k7]; rfl) rfl ?_
      rw [← HR.out]
      exact ⟨rfl, FB6, H6⟩
    · have g2 : (((hd l.tail).kind : Int) == 2) = false := by rw [beq_eq_false_iff_ne]; omega
      rw [if_neg k2] at hr
      have HR := Lib.hid hr
      have HK := Lib.hid k1
      clear hr k1 k2
      go_upto_region 21 with fail
      clear t0 t1 t2 t3 t4 t5 t6 n0 n1 n2 n3 n4 n5 n6 n7 nf r0 c7
      obtain ⟨w4, e9, F4, B4, S4⟩ := set_new N3 0 (.int .i64 5)
      rw [e9]
      have H4 := H3.fr F4 (by simpa using Ne.symm h3r) (by simpa using Ne.symm h3g)
      have R4 := R3.fr F4 (by simpa using h13)
      have FB4 := FB3.trans F4 (by simp; omega)
      clear e9
      have CX := Lib.hid (snext_any br g l d w4 H4 hl hk6)
      go_wp2_with fail
      with_reducible refine CX.out.mono ?_
      rintro e w5 ⟨rfl, F5, H5⟩
      have B5 := B4.fr F5 (by simpa using h3r)
      have R5 := R4.fr F5 (by simpa using h1r)
      have FB5 := FB4.trans F5 (by simp)
      clear CX H4 B4 R4 FB4 F5
      obtain ⟨c0, c1, c2, c3, c4, c5, c6, c7⟩ := B5.c8
      obtain ⟨z0, z1, z2, z3, z4, z5, z6, z7⟩ := R5.c8
      have f0 := R5.free
      go_wp2_with fail
      clear c0 c1 c2 c3 c4 c5 c6 c7 z0 z1 z2 z3 z4 z5 z6 z7 f0
      change bodyPost _ _ _ _ _ (put w5 b1 0 [.int .i64 5, .string ⟨(hd l).text.toArray⟩, .int .u64 (hd l).cls.a, .int .u64 (hd l).cls.b, .int .u64 (hd l).cls.c, .int .u64 (hd l).cls.d, .slice none 0 0, .int .i64 (hd l).at_])
      obtain ⟨w6, e11, F6, R6, S6⟩ := put_new R5 [.int .i64 5, .string ⟨(hd l).text.toArray⟩, .int .u64 (hd l).cls.a, .int .u64 (hd l).cls.b, .int .u64 (hd l).cls.c, .int .u64 (hd l).cls.d, .slice none 0 0, .int .i64 (hd l).at_] rfl
      rw [e11]
      obtain ⟨k0, k1, k2, k3, k4, k5, k6, k7⟩ := R6.c8
      have FB6 := FB5.trans F6 (by simp; omega)
      have H6 := H5.fr F6 (by simpa using Ne.symm h1r) (by simpa using Ne.symm h1g)
      refine bodyPost_ret (v := .tuple #[.agg [.int .i64 5, .string ⟨(hd l).text.toArray⟩, .int .u64 (hd l).cls.a, .int .u64 (hd l).cls.b, .int .u64 (hd l).cls.c, .int .u64 (hd l).cls.d, .slice none 0 0, .int .i64 (hd l).at_].toArray, .bool true]) (by simp [results, Tryd.results93, go_sem, k0, k1, k2, k3, k4, k5, k6, k7]) rfl ?_
      rw [← HR.out]
      refine ⟨_, rfl, FB6, ?_, H6⟩
      unfold NodeAt
      exact ⟨_, [], rfl, ⟨rfl, .inl ⟨rfl, rfl⟩⟩, by unfold RowAt; trivial⟩
  · have c7 : True := trivial
    rw [if_neg k1] at hr
    have g1 : (((hd l).kind : Int) == 1) = false := by rw [beq_eq_false_iff_ne]; omega
    by_cases k3 : (hd l).kind = 3
    · have hk6 : (hd l).kind ≠ 6 := by omega
      rw [if_pos k3] at hr
      have g3 : (((hd l).kind : Int) == 3) = true := by rw [beq_iff_eq]; omega
      have HR := Lib.hid hr
      clear hr k1 k3
      go_upto_region 21 with fail
      clear t0 t1 t2 t3 t4 t5 t6 n0 n1 n2 n3 n4 n5 n6 n7 nf r0 c7
      obtain ⟨w4, e9, F4, B4, S4⟩ := set_new N3 0 (.int .i64 2)
      rw [e9]
      have H4 := H3.fr F4 (by simpa using Ne.symm h3r) (by simpa using Ne.symm h3g)
      have R4 := R3.fr F4 (by simpa using h13)
      have FB4 := FB3.trans F4 (by simp; omega)
      clear e9
      have CX := Lib.hid (snext_any br g l d w4 H4 hl hk6)
      go_wp2_with fail
      with_reducible refine CX.out.mono ?_
      rintro e w5 ⟨rfl, F5, H5⟩
      have B5 := B4.fr F5 (by simpa using h3r)
      have R5 := R4.fr F5 (by simpa using h1r)
      have FB5 := FB4.trans F5 (by simp)
      clear CX H4 B4 R4 FB4 F5
      obtain ⟨c0, c1, c2, c3, c4, c5, c6, c7⟩ := B5.c8
      obtain ⟨z0, z1, z2, z3, z4, z5, z6, z7⟩ := R5.c8
      have f0 := R5.free
      go_wp2_with fail
      clear c0 c1 c2 c3 c4 c5 c6 c7 z0 z1 z2 z3 z4 z5 z6 z7 f0
      change bodyPost _ _ _ _ _ (put w5 b1 0 [.int .i64 2, .string ⟨(hd l).text.toArray⟩, .int .u64 (hd l).cls.a, .int .u64 (hd l).cls.b, .int .u64 (hd l).cls.c, .int .u64 (hd l).cls.d, .slice none 0 0, .int .i64 (hd l).at_])
      obtain ⟨w6, e11, F6, R6, S6⟩ := put_new R5 [.int .i64 2, .string ⟨(hd l).text.toArray⟩, .int .u64 (hd l).cls.a, .int .u64 (hd l).cls.b, .int .u64 (hd l).cls.c, .int .u64 (hd l).cls.d, .slice none 0 0, .int .i64 (hd l).at_] rfl
      rw [e11]
      obtain ⟨k0, k1, k2, k3, k4, k5, k6, k7⟩ := R6.c8
      have FB6 := FB5.trans F6 (by simp; omega)
      have H6 := H5.fr F6 (by simpa using Ne.symm h1r) (by simpa using Ne.symm h1g)
      refine bodyPost_ret (v := .tuple #[.agg [.int .i64 2, .string ⟨(hd l).text.toArray⟩, .int .u64 (hd l).cls.a, .int .u64 (hd l).cls.b, .int .u64 (hd l).cls.c, .int .u64 (hd l).cls.d, .slice none 0 0, .int .i64 (hd l).at_].toArray, .bool true]) (by simp [results, Tryd.results93, go_sem, k0, k1, k2, k3, k4, k5, k6, k7]) rfl ?_
      rw [← HR.out]
      refine ⟨_, rfl, FB6, ?_, H6⟩
      unfold NodeAt
      exact ⟨_, [], rfl, ⟨rfl, .inl ⟨rfl, rfl⟩⟩, by unfold RowAt; trivial⟩
    · rw [if_neg k3] at hr
      have g3 : (((hd l).kind : Int) == 3) = false := by rw [beq_eq_false_iff_ne]; omega
      by_cases k4 : (hd l).kind = 4
      · have hk6 : (hd l).kind ≠ 6 := by omega
        rw [if_pos k4] at hr
        have g4 : (((hd l).kind : Int) == 4) = true := by rw [beq_iff_eq]; omega
        have HR := Lib.hid hr
        clear hr k1 k3 k4
        go_upto_region 21 with fail
        clear t0 t1 t2 t3 t4 t5 t6 n0 n1 n2 n3 n4 n5 n6 n7 nf r0 c7
        obtain ⟨w4, e9, F4, B4, S4⟩ := set_new N3 0 (.int .i64 3)
        rw [e9]
        have H4 := H3.fr F4 (by simpa using Ne.symm h3r) (by simpa using Ne.symm h3g)
        have R4 := R3.fr F4 (by simpa using h13)
        have FB4 := FB3.trans F4 (by simp; omega)
        clear e9
        have CX := Lib.hid (snext_any br g l d w4 H4 hl hk6)
        go_wp2_with fail
        with_reducible refine CX.out.mono ?_
        rintro e w5 ⟨rfl, F5, H5⟩
        have B5 := B4.fr F5 (by simpa using h3r)
        have R5 := R4.fr F5 (by simpa using h1r)
        have FB5 := FB4.trans F5 (by simp)
        clear CX H4 B4 R4 FB4 F5
        obtain ⟨c0, c1, c2, c3, c4, c5, c6, c7⟩ := B5.c8
        obtain ⟨z0, z1, z2, z3, z4, z5, z6, z7⟩ := R5.c8
        have f0 := R5.free
        go_wp2_with fail
        clear c0 c1 c2 c3 c4 c5 c6 c7 z0 z1 z2 z3 z4 z5 z6 z7 f0
        change bodyPost _ _ _ _ _ (put w5 b1 0 [.int .i64 3, .string ⟨(hd l).text.toArray⟩, .int .u64 (hd l).cls.a, .int .u64 (hd l).cls.b, .int .u64 (hd l).cls.c, .int .u64 (hd l).cls.d, .slice none 0 0, .int .i64 (hd l).at_])
        obtain ⟨w6, e11, F6, R6, S6⟩ := put_new R5 [.int .i64 3, .string ⟨(hd l).text.toArray⟩, .int .u64 (hd l).cls.a, .int .u64 (hd l).cls.b, .int .u64 (hd l).cls.c, .int .u64 (hd l).cls.d, .slice none 0 0, .int .i64 (hd l).at_] rfl
        rw [e11]
        obtain ⟨k0, k1, k2, k3, k4, k5, k6, k7⟩ := R6.c8
        have FB6 := FB5.trans F6 (by simp; omega)
        have H6 := H5.fr F6 (by simpa using Ne.symm h1r) (by simpa using Ne.symm h1g)
        refine bodyPost_ret (v := .tuple #[.agg [.int .i64 3, .string ⟨(hd l).text.toArray⟩, .int .u64 (hd l).cls.a, .int .u64 (hd l).cls.b, .int .u64 (hd l).cls.c, .int .u64 (hd l).cls.d, .slice none 0 0, .int .i64 (hd l).at_].toArray, .bool true]) (by simp [results, Tryd.results93, go_sem, k0, k1, k2, k3, k4, k5, k6, k7]) rfl ?_
        rw [← HR.out]
        refine ⟨_, rfl, FB6, ?_, H6⟩
        unfold NodeAt
        exact ⟨_, [], rfl, ⟨rfl, .inl ⟨rfl, rfl⟩⟩, by unfold RowAt; trivial⟩
      · rw [if_neg k4] at hr
        have g4 : (((hd l).kind : Int) == 4) = false := by rw [beq_eq_false_iff_ne]; omega
        by_cases k5 : (hd l).kind = 5
        · have hk6 : (hd l).kind ≠ 6 := by omega
          rw [if_pos k5] at hr
          have g5 : (((hd l).kind : Int) == 5) = true := by rw [beq_iff_eq]; omega
          by_cases kd : (hd l).text = [46]
          · have gd : ((hd l).text == [46]) = true := by simpa using kd
            rw [if_pos kd] at hr
            have HR := Lib.hid hr
            clear hr k1 k3 k4 k5 kd
            go_upto_region 15 with fail
            clear t0 t1 t2 t3 t4 t5 t6 n0 n1 n2 n3 n4 n5 n6 n7 nf r0 c7 z0 z1 z2 z3 z4 z5 z6 z7 zf
            obtain ⟨w8, e8, F8, B8, S8⟩ := set_new N3 1 (.string ⟨#[]⟩)
            rw [e8]
            clear e8
            have H8 := H3.fr F8 (by simpa using Ne.symm h3r) (by simpa using Ne.symm h3g)
            have R8 := R3.fr F8 (by simpa using h13)
            have T8 := T3.fr F8 (by simpa using h23)
            have FB8 := FB3.trans F8 (by simp; omega)
            clear H3 HA3 R3 T3 N3 FB3 F8
            obtain ⟨t0, t1, t2, t3, t4, t5, t6⟩ := T8.c7
            obtain ⟨n0, n1, n2, n3, n4, n5, n6, n7⟩ := B8.c8
            have nf := B8.free
            go_upto_region 21 with fail
            clear t0 t1 t2 t3 t4 t5 t6 n0 n1 n2 n3 n4 n5 n6 n7 nf
            obtain ⟨w4, e9, F4, B4, S4⟩ := set_new B8 0 (.int .i64 4)
            rw [e9]
            have H4 := H8.fr F4 (by simpa using Ne.symm h3r) (by simpa using Ne.symm h3g)
            have R4 := R8.fr F4 (by simpa using h13)
            have FB4 := FB8.trans F4 (by simp; omega)
            clear e9
            have CX := Lib.hid (snext_any br g l d w4 H4 hl hk6)
            go_wp2_with fail
            with_reducible refine CX.out.mono ?_
            rintro e w5 ⟨rfl, F5, H5⟩
            have B5 := B4.fr F5 (by simpa using h3r)
            have R5 := R4.fr F5 (by simpa using h1r)
            have FB5 := FB4.trans F5 (by simp)
            clear CX H4 B4 R4 FB4 F5
            obtain ⟨c0, c1, c2, c3, c4, c5, c6, c7⟩ := B5.c8
            obtain ⟨z0, z1, z2, z3, z4, z5, z6, z7⟩ := R5.c8
            have f0 := R5.free
            go_wp2_with fail
            clear c0 c1 c2 c3 c4 c5 c6 c7 z0 z1 z2 z3 z4 z5 z6 z7 f0
            change bodyPost _ _ _ _ _ (put w5 b1 0 [.int .i64 4, .string ⟨#[]⟩, .int .u64 (hd l).cls.a, .int .u64 (hd l).cls.b, .int .u64 (hd l).cls.c, .int .u64 (hd l).cls.d, .slice none 0 0, .int .i64 (hd l).at_])
            obtain ⟨w6, e11, F6, R6, S6⟩ := put_new R5 [.int .i64 4, .string ⟨#[]⟩, .int .u64 (hd l).cls.a, .int .u64 (hd l).cls.b, .int .u64 (hd l).cls.c, .int .u64 (hd l).cls.d, .slice none 0 0, .int .i64 (hd l).at_] rfl
            rw [e11]
            obtain ⟨k0, k1, k2, k3, k4, k5, k6, k7⟩ := R6.c8
            have FB6 := FB5.trans F6 (by simp; omega)
            have H6 := H5.fr F6 (by simpa using Ne.symm h1r) (by simpa using Ne.symm h1g)
            refine bodyPost_ret (v := .tuple #[.agg [.int .i64 4, .string ⟨#[]⟩, .int .u64 (hd l).cls.a, .int .u64 (hd l).cls.b, .int .u64 (hd l).cls.c, .int .u64 (hd l).cls.d, .slice none 0 0, .int .i64 (hd l).at_].toArray, .bool true]) (by simp [results, Tryd.results93, go_sem, k0, k1, k2, k3, k4, k5, k6, k7]) rfl ?_
            rw [← HR.out]
            refine ⟨_, rfl, FB6, ?_, H6⟩
            unfold NodeAt
            exact ⟨_, [], rfl, ⟨rfl, .inl ⟨rfl, rfl⟩⟩, by unfold RowAt; trivial⟩
          · have gd : ((hd l).text == [46]) = false := by simpa using kd
            rw [if_neg kd] at hr
            by_cases kp : (hd l).text = [40]
            · have gp : ((hd l).text == [40]) = true := by simpa using kp
              rw [if_pos kp] at hr
              clear k1 k3 k4 k5 kd kp
              go_upto_region 15 with fail
              clear t0 t1 t2 t3 t4 t5 t6 n0 n1 n2 n3 n4 n5 n6 n7 nf r0 c7 z0 z1 z2 z3 z4 z5 z6 z7 zf
              obtain ⟨w8, e8, F8, B8, S8⟩ := set_new N3 1 (.string ⟨#[]⟩)
              rw [e8]
              clear e8
              have H8 := H3.fr F8 (by simpa using Ne.symm h3r) (by simpa using Ne.symm h3g)
              have R8 := R3.fr F8 (by simpa using h13)
              have T8 := T3.fr F8 (by simpa using h23)
              have FB8 := FB3.trans F8 (by simp; omega)
              clear H3 HA3 R3 T3 N3 FB3 F8
              obtain ⟨t0, t1, t2, t3, t4, t5, t6⟩ := T8.c7
              have CW := hW br g l d w8
              obtain ⟨r2, hr2⟩ : ∃ r2, withinP f d l = r2 := ⟨_, rfl⟩
              rw [hr2] at hr
              have hne2 : r2 ≠ .out := by rintro rfl; exact hne hr.symm
              have CC := Lib.hid (CW r2 H8 hl hlen hd24 hk6 hr2 hne2)
              have HR := Lib.hid hr
              clear hr hr2 CW hne2
              go_wp2_with fail
              with_reducible refine CC.out.mono ?_
              rintro e w9 h4
              clear CC H8 t0 t1 t2 t3 t4 t5 t6
              match r2, HR, h4 with
              | .stop c a, HR, h4 =>
                obtain ⟨F2, b, rfl, h2, h3⟩ := StopB.pre h4 FB8
                go_wp2_with fail
                rw [← HR.out]
                exact ⟨rfl, F2, b, rfl, h2, h3⟩
              | .ok t l1, HR, ⟨cs, he, F4, N4, H4⟩ =>
                subst he
                obtain ⟨sp, sn, sc, rfl⟩ := N4.shape
                have R9 := R8.fr F4 (by simpa using h1r)
                have FB9 := FB8.trans F4 (by simp)
                have N4' := NodeAt.mono (ok' := fun b => w.heap.size ≤ b ∧ b ≠ b1) (fun b hb => by
                  have h9 := FB8.size
                  have h8 := R8.lt
                  exact ⟨by omega, by omega⟩) _ _ N4
                clear h4
                obtain ⟨z0, z1, z2, z3, z4, z5, z6, z7⟩ := R9.c8
                have zf := R9.free
                go_wp2_with fail
                clear z0 z1 z2 z3 z4 z5 z6 z7 zf
                change bodyPost _ _ _ _ _ (put w9 b1 0 [.int .i64 t.kind, .string ⟨t.text.toArray⟩, .int .u64 t.cls.a, .int .u64 t.cls.b, .int .u64 t.cls.c, .int .u64 t.cls.d, .slice sp sn sc, .int .i64 t.at_])
                obtain ⟨w6, e11, F6, R6, S6⟩ := put_new R9 [.int .i64 t.kind, .string ⟨t.text.toArray⟩, .int .u64 t.cls.a, .int .u64 t.cls.b, .int .u64 t.cls.c, .int .u64 t.cls.d, .slice sp sn sc, .int .i64 t.at_] rfl
                rw [e11]
                obtain ⟨k0, k1, k2, k3, k4, k5, k6, k7⟩ := R6.c8
                have FB6 := FB9.trans F6 (by simp; omega)
                have H6 := H4.fr F6 (by simpa using Ne.symm h1r) (by simpa using Ne.symm h1g)
                have N6 := N4'.fr F6 (by simp)
                refine bodyPost_ret (v := .tuple #[.agg [.int .i64 t.kind, .string ⟨t.text.toArray⟩, .int .u64 t.cls.a, .int .u64 t.cls.b, .int .u64 t.cls.c, .int .u64 t.cls.d, .slice sp sn sc, .int .i64 t.at_].toArray, .bool true]) (by simp [results, Tryd.results93, go_sem, k0, k1, k2, k3, k4, k5, k6, k7]) rfl ?_
                rw [← HR.out]
                exact ⟨_, rfl, FB6, NodeAt.mono (fun b hb => hb.1) _ _ N6, H6⟩
            · have gp : ((hd l).text == [40]) = false := by simpa using kp
              rw [if_neg kp] at hr
              have HR := Lib.hid hr
              clear hr k1 k3 k4 k5 kd kp
              go_upto_region 15 with fail
              clear t0 t1 t2 t3 t4 t5 t6 n0 n1 n2 n3 n4 n5 n6 n7 nf r0 c7 z0 z1 z2 z3 z4 z5 z6 z7 zf
              obtain ⟨w8, e8, F8, B8, S8⟩ := set_new N3 1 (.string ⟨#[]⟩)
              rw [e8]
              clear e8
              have H8 := H3.fr F8 (by simpa using Ne.symm h3r) (by simpa using Ne.symm h3g)
              have R8 := R3.fr F8 (by simpa using h13)
              have T8 := T3.fr F8 (by simpa using h23)
              have FB8 := FB3.trans F8 (by simp; omega)
              clear H3 HA3 R3 T3 N3 FB3 F8
              obtain ⟨t0, t1, t2, t3, t4, t5, t6⟩ := T8.c7
              obtain ⟨z0, z1, z2, z3, z4, z5, z6, z7⟩ := R8.c8
              have zf := R8.free
              go_wp2_with fail
              clear t0 t1 t2 t3 t4 t5 t6 z0 z1 z2 z3 z4 z5 z6 z7 zf
              change bodyPost _ _ _ _ _ (put w8 b1 0 [.int .i64 0, .string ⟨#[]⟩, .int .u64 0, .int .u64 0, .int .u64 0, .int .u64 0, .slice none 0 0, .int .i64 0])
              obtain ⟨w6, e11, F6, R6, S6⟩ := put_new R8 [.int .i64 0, .string ⟨#[]⟩, .int .u64 0, .int .u64 0, .int .u64 0, .int .u64 0, .slice none 0 0, .int .i64 0] rfl
              rw [e11]
              obtain ⟨k0, k1, k2, k3, k4, k5, k6, k7⟩ := R6.c8
              have FB6 := FB8.trans F6 (by simp; omega)
              have H6 := H8.fr F6 (by simpa using Ne.symm h1r) (by simpa using Ne.symm h1g)
              refine bodyPost_ret (v := .tuple #[nodeZ, .bool false]) (by simp [results, Tryd.results93, go_sem, k0, k1, k2, k3, k4, k5, k6, k7]; rfl) rfl ?_
              rw [← HR.out]
              exact ⟨rfl, FB6, H6⟩
        · rw [if_neg k5] at hr
          have g5 : (((hd l).kind : Int) == 5) = false := by rw [beq_eq_false_iff_ne]; omega
          have HR := Lib.hid hr
          clear hr k1 k3 k4 k5
          go_wp2_with fail
          clear t0 t1 t2 t3 t4 t5 t6 n0 n1 n2 n3 n4 n5 n6 n7 nf r0 c7 z0 z1 z2 z3 z4 z5 z6 z7 zf
          change bodyPost _ _ _ _ _ (put w3 b1 0 [.int .i64 0, .string ⟨#[]⟩, .int .u64 0, .int .u64 0, .int .u64 0, .int .u64 0, .slice none 0 0, .int .i64 0])
          obtain ⟨w6, e11, F6, R6, S6⟩ := put_new R3 [.int .i64 0, .string ⟨#[]⟩, .int .u64 0, .int .u64 0, .int .u64 0, .int .u64 0, .slice none 0 0, .int .i64 0] rfl
          rw [e11]
          obtain ⟨k0, k1, k2, k3, k4, k5, k6, k7⟩ := R6.c8
          have FB6 := FB3.trans F6 (by simp; omega)
          have H6 := H3.fr F6 (by simpa using Ne.symm h1r) (by simpa using Ne.symm h1g)
          refine bodyPost_ret (v := .tuple #[nodeZ, .bool false]) (by simp [results, Tryd.results93, go_sem, k0, k1, k2, k3, k4, k5, k6, k7]; rfl) rfl ?_
          rw [← HR.out]
          exact ⟨rfl, FB6, H6⟩
end Go.Proofs.YtglknnncpaggpaaDoor
