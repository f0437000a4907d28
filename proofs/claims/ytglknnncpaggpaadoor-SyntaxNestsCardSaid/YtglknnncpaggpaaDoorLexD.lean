/- The cutter: literal. -/
import Derived.Test.YtglknnncpaggpaaDoorLexC
namespace Go.Proofs.YtglknnncpaggpaaDoor
open Go.RowKit

theorem escape_any (B bc : Nat) (s : ByteArray) (p0 : Nat) (ts : List Tok) (p : Nat) (w : World) (H : Ct B bc s p0 ts w) (hp : p < s.size) (hs : s.size ≤ 100000) (r : R UInt8) (hr : Hid (escL (s.data.toList.drop (p + 1)) = r)) :
    Calls Tryd.prog 91 #[.pointer (some ⟨bc, 0, none⟩), .int .i64 p] w (EscPost s p r w) := by
  rw [← hr.out]
  cases hl : s.data.toList.drop (p + 1) with
  | nil =>
    have := drop_nil hl
    exact escape_end B bc s p0 ts p w H (by omega) hs
  | cons c l =>
    obtain ⟨h1, h2, h3⟩ := drop_cons hl
    exact escape_in B bc s p0 ts p w H h1 hs c l (Lib.hid (h2 h1)) (Lib.hid h3)

theorem add_zero (B bc : Nat) (s : ByteArray) (p : Nat) (ts : List Tok) (qi : Int) (q : Nat) (hq : qi = q) (kind : Int) (n : Nat) (hn : kind = n) (text : List UInt8) (w : World) (H : Ct B bc s p ts w) (hl : ts.length ≤ 1000000) :
    Calls Tryd.prog 40 #[.pointer (some ⟨bc, 0, none⟩), .agg #[.int .i64 kind, .string ⟨text.toArray⟩, .int .u64 0, .int .u64 0, .int .u64 0, .int .u64 0, .int .i64 0], .int .i64 qi] w
      (AddPost B bc s q (ts ++ [⟨n, text, cls0, p⟩]) w) := by
  subst hn
  subst hq
  exact add_any B bc s p ts q n text cls0 w H hl

theorem Ct.bf {B bc B' b T : Nat} {s : ByteArray} {p : Nat} {ts : List Tok} {l : List UInt8} {w w' : World} (h : Ct B bc s p ts w) (d : Bd T B' b l w) (hT : T ≠ 93) (hT2 : T ≠ 40) (hf : BF B' b w w') : Ct B bc s p ts w' := by
  obtain ⟨h1, h2, lv, hk, ho⟩ := h
  obtain ⟨_, _, pp, vv, _, hd, _⟩ := d
  have hd' : w.heap[b]? = some (.cells #[pp, vv] T (0, 0)) := hd
  have hne : bc ≠ b := by
    rintro rfl
    have h' : w.heap[bc]? = some (.cells #[.string s, .int .i64 p, lv] 93 (0, 0)) := hk
    rw [h'] at hd'
    injection hd' with hd'
    injection hd' with _ hd' _
    exact hT hd'.symm
  refine ⟨h1, Nat.le_trans h2 hf.size, lv, Blk.bf hk hf hne (.inl (by decide)), ho.1, ?_⟩
  rcases ho.2 with h3 | ⟨g, cap, cur, hv, hg, hh, r⟩
  · exact .inl h3
  · refine .inr ⟨g, cap, cur, hv, hg, ?_, r⟩
    have hg2 : Blk w g cur 40 := hh
    refine Blk.bf hg2 hf ?_ (.inl (by decide))
    rintro rfl
    rw [hd'] at hh
    injection hh with hh
    injection hh with _ hh _
    exact hT2 hh

/-- What reading a piece at the cutter's place leaves: one token more; or an error. -/
def PiecePost (B bc : Nat) (s : ByteArray) (p : Nat) (ts : List Tok) (r : L (Nat × List UInt8 × Cls)) (w : World) (e : Ending) (w' : World) : Prop :=
  Below B w w' ∧ match r with
  | .ok t n => e = .returned .nilIface ∧ Ct B bc s (p + n) (ts ++ [⟨t.1, t.2.1, t.2.2, p⟩]) w'
  | .err code n => ∃ v, e = .returned v ∧ FaultAt B w' v (code : Int) ((p + n : Nat) : Int)
def litTok : L (List UInt8) → L (Nat × List UInt8 × Cls)
  | .ok t n => .ok (3, t, cls0) n
  | .err code n => .err code n

set_option maxHeartbeats 8000000 in
set_option maxRecDepth 100000 in
theorem literal_any (B bc : Nat) (s : ByteArray) (p : Nat) (ts : List Tok) (w : World) (H : Ct B bc s p ts w) (hp : p < s.size) (hs : s.size ≤ 100000) (hts : ts.length ≤ 1000000) (q : UInt8) (hq : Hid (s[p] = q)) (r : L (List UInt8))
    (hr : Hid (litL q (s.size - p) (s.size - p) 1 [] (s.data.toList.drop (p + 1)) = r)) :
    Calls Tryd.prog 67 #[.pointer (some ⟨bc, 0, none⟩)] w (PiecePost B bc s p ts (litTok r) w) := by
  have hBw := H.2.1
  have D0 := Bd.new 82 w
  have H0 : Ct B bc s p ts (w.alloc (.cells #[.pointer none, .slice none 0 0] 82)) := H.fr ((Fr.refl [] w).alloc _)
  have F0 := (Below.refl B w).alloc hBw (.cells #[.pointer none, .slice none 0 0] 82)
  obtain ⟨h0, h1, _⟩ := H0.cells
  have hi0 : (0 : Int) ≤ (p : Int) := by omega
  have hi1 : (p : Int) < (s.size : Int) := by omega
  go_enter Tryd.func67, Tryd.ntmps67
  go_wp2_with fail
  go_quiet (fail)
  have H1 : Ct B bc s p ts ((w.alloc (.cells #[.pointer none, .slice none 0 0] 82)).drewN nq) := H0
  have D1 : Bd 82 w.heap.size w.heap.size [] ((w.alloc (.cells #[.pointer none, .slice none 0 0] 82)).drewN nq) := D0
  have F1 : Below B w ((w.alloc (.cells #[.pointer none, .slice none 0 0] 82)).drewN nq) := ⟨F0.os, F0.tape, F0.output, F0.size, F0.block⟩
  clear h0 h1 H0 D0 F0
  generalize (w.alloc (.cells #[.pointer none, .slice none 0 0] 82)).drewN nq = w1 at *
  obtain ⟨b1, eb1⟩ : ∃ b, b = w.heap.size := ⟨_, rfl⟩
  rw [← eb1] at D1 ⊢
  have hB1 : B ≤ b1 := by omega
  clear eb1
  obtain ⟨h0, h1, _⟩ := H1.cells
  rw [hq.out]
  go_wp2_with fail
  clear h0 h1
  go_loopg [5] (s.size - p) (fun k a wr => ∃ (o : Nat) (acc : List UInt8), a = .int .i64 ((p + o : Nat) : Int) ∧ 1 ≤ o ∧ p + o ≤ s.size ∧ acc.length ≤ 255 ∧ Ct B bc s p ts wr ∧ Bd 82 b1 b1 acc wr ∧ Below B w wr ∧
    s.size - (p + o) < k ∧ litL q (s.size - p) k o acc (s.data.toList.drop (p + o)) = r)
  case atStart => exact ⟨1, [], by go_num, by omega, by omega, by decide, H1, D1, F1, by omega, hr.out⟩
  case round =>
    obtain ⟨o, acc, rfl, ho1, hos, hacc, H2, D2, F2, hk, hl⟩ := hrel
    obtain ⟨k, rfl⟩ : ∃ k, gk = k + 1 := ⟨gk - 1, by omega⟩
    clear H1 D1 F1 hr
    obtain ⟨j, hj⟩ : ∃ j, j = p + o := ⟨_, rfl⟩
    rw [← hj] at hos hl hk ⊢
    have HJ := Lib.hid hj
    clear hj
    obtain ⟨h0, h1, _⟩ := H2.cells
    have W1 := Lib.hid (cwrong_any B bc s p ts j wr H2 hos)
    by_cases hjs : j < s.size
    · have hstep := List.drop_eq_getElem_cons (l := s.data.toList) (i := j) (by simpa using hjs)
      have hbyte : s.data.toList[j]'(by simpa using hjs) = s[j] := rfl
      rw [hbyte] at hstep
      have HS := Lib.hid hstep
      rw [hstep] at hl
      have HL := Lib.hid hl
      clear hl hstep hbyte
      have hi0' : (0 : Int) ≤ (j : Int) := by omega
      have hi1' : (j : Int) < (s.size : Int) := by omega
      by_cases hxq : s[j] = q
      · have hb1 : (((s[j].toNat : Nat) : Int) == ((q.toNat : Nat) : Int)) = true := by rw [byte_beq, hxq]; simp
        have HL' := HL.out
        simp only [litL] at HL'
        rw [if_pos hxq] at HL'
        have HLL := Lib.hid HL'
        clear HL HL' hxq
        go_wp2_with fail
        with_reducible refine (string_any 82 Tryd.bt_builder b1 b1 acc wr D2.read (Nat.le_refl _)).mono ?_
        rintro e w2 ⟨rfl, _, BF3⟩
        have H3 := H2.bf D2 (by decide) (by decide) BF3
        have F3 := F2.trans ((BF3.below (Nat.le_refl _) D2.2.1).mono hB1)
        go_wp2_with fail
        with_reducible refine (add_zero B bc s p ts ((j : Int) + 1) (j + 1) (by omega) 3 3 rfl acc w2 H3 hts).mono ?_
        rintro e w3 ⟨rfl, H4, F4⟩
        go_wp2_with fail
        go_ret
        rw [← HLL.out]
        have hj := HJ.out
        refine ⟨F3.trans F4, rfl, ?_⟩
        rw [hj] at H4
        exact H4
      · have hb1 : (((s[j].toNat : Nat) : Int) == ((q.toNat : Nat) : Int)) = false := by rw [byte_beq]; simpa using hxq
        have HL' := HL.out
        simp only [litL] at HL'
        rw [if_neg hxq] at HL'
        clear HL hxq
        by_cases h92 : s[j] = 92
        · have hb2 : (((s[j].toNat : Nat) : Int) == 92) = true := by rw [h92]; rfl
          have hb3 : decide (((s[j].toNat : Nat) : Int) < 32) = false := by rw [h92]; rfl
          have hb4 : decide ((126 : Int) < ((s[j].toNat : Nat) : Int)) = false := by rw [h92]; rfl
          rw [if_pos h92] at HL'
          obtain ⟨r2, hr2⟩ : ∃ r, escL (s.data.toList.drop (j + 1)) = r := ⟨_, rfl⟩
          rw [hr2] at HL'
          have E1 := Lib.hid (escape_any B bc s p ts j wr H2 hjs hs r2 (Lib.hid hr2))
          have HR2 := Lib.hid hr2
          have HL2 := Lib.hid HL'
          clear hr2 HL' h92
          go_wp2_with fail
          with_reducible refine E1.out.mono ?_
          rintro e w2 ⟨F3, h3⟩
          have H3 := H2.fr F3
          have D3 := D2.fr F3 (by simp)
          have F3 := F2.trans (F3.below.mono H2.2.1)
          obtain ⟨k0, k1, _⟩ := H3.cells
          match r2, HR2, HL2, h3 with
          | .bad n, HR2, HL2, h3 =>
            obtain ⟨v, rfl, HF⟩ := h3
            obtain ⟨a, rfl, ha, HA⟩ := HF
            have HL3 := Lib.hid HL2.out
            clear HL2
            go_wp2_with fail
            go_ret
            have hnb := escL_bad HR2.out
            rw [List.length_drop] at hnb
            have hj := HJ.out
            have e0 : s.data.toList.length = s.size := rfl
            have e1 : codeAt s (j + n) = (codeOf (o + n) (s.size - p) : Nat) := by
              unfold codeAt codeOf
              split <;> split <;> omega
            rw [← HL3.out]
            refine ⟨F3, _, rfl, a, rfl, Nat.le_trans H2.2.1 ha, ?_⟩
            rw [e1, show j + n = p + (o + n) from by omega] at HA
            exact HA
          | .ok y n, HR2, HL2, h3 =>
            subst h3
            have hnb := escL_ok HR2.out
            rw [List.length_drop] at hnb
            have e0 : s.data.toList.length = s.size := rfl
            have hnb1 : 2 ≤ n := hnb.1
            have hnb2 : j + n ≤ s.size := by omega
            have HL3 := HL2.out
            clear HL2 HR2 hnb e0
            go_wp2_with fail
            with_reducible refine (len_any 82 b1 b1 acc w2 D3).mono ?_
            rintro e w' ⟨rfl, rfl⟩
            by_cases h255 : acc.length = 255
            · have hb5 : ((acc.length : Int) == 255) = true := by rw [h255]; rfl
              rw [if_pos h255] at HL3
              have HLL := Lib.hid HL3
              clear HL3 h255
              go_wp2_with fail
              with_reducible refine (fault_any 2 p w2).mono ?_
              rintro e w5 ⟨v, rfl, HF, F5⟩
              go_wp2_with fail
              go_ret
              rw [← HLL.out]
              refine ⟨F3.trans (F5.below.mono H3.2.1), v, rfl, ?_⟩
              rw [show p + 0 = p from rfl]
              exact HF.mono H3.2.1
            · have hb5 : ((acc.length : Int) == 255) = false := by rw [beq_eq_false_iff_ne]; omega
              have hacc' : acc.length < 255 := by omega
              rw [if_neg h255] at HL3
              have HLL := Lib.hid HL3
              clear HL3 h255
              go_wp2_with fail
              with_reducible refine (writeByte_any 82 Tryd.bt_builder b1 b1 acc y w2 D3 (by omega)).mono ?_
              rintro e w5 ⟨rfl, D5, BF5⟩
              have H5 := H3.bf D3 (by decide) (by decide) BF5
              have F5 := F3.trans ((BF5.below (Nat.le_refl _) D3.2.1).mono hB1)
              go_wp2_with fail
              go_roundg k
              case measure => omega
              case rel =>
                have hj := HJ.out
                have h9 := HLL.out
                refine ⟨o + n, acc ++ [y], by subst hj; go_num, by omega, by omega, by simp; omega, H5, D5, F5, by omega, ?_⟩
                rw [← h9, show p + (o + n) = j + n from by omega, ← HS.out, List.drop_drop]
        · have hb2 : (((s[j].toNat : Nat) : Int) == 92) = false := by rw [beq_eq_false_iff_ne]; intro h; exact h92 (UInt8.toNat_inj.1 (by simp; omega))
          rw [if_neg h92] at HL'
          clear h92
          by_cases hlow : s[j] < 32
          · have hb3 : ((s[j].toNat : Nat) : Int) < 32 := by have := UInt8.lt_iff_toNat_lt.1 hlow; simp at this; omega
            have hb3' : decide (((s[j].toNat : Nat) : Int) < 32) = true := by simpa using hb3
            rw [if_pos (.inl hlow)] at HL'
            clear hlow
            have HLL := Lib.hid HL'
            clear HL'
            go_wp2_with fail
            with_reducible refine W1.out.mono ?_
            rintro e w2 ⟨v, rfl, HF, F3⟩
            go_wp2_with fail
            go_ret
            rw [← HLL.out]
            have hj := HJ.out
            refine ⟨F2.trans (F3.below.mono H2.2.1), v, rfl, ?_⟩
            have e1 : codeAt s j = (codeOf o (s.size - p) : Nat) := by
              unfold codeAt codeOf
              split <;> split <;> omega
            rw [e1, hj] at HF
            exact HF.mono H2.2.1
          · have hb3 : ¬ ((s[j].toNat : Nat) : Int) < 32 := fun h => hlow (UInt8.lt_iff_toNat_lt.2 (by simp; omega))
            have hb3' : decide (((s[j].toNat : Nat) : Int) < 32) = false := by simpa using hb3
            by_cases hhigh : 126 < s[j]
            · have hb4 : (126 : Int) < ((s[j].toNat : Nat) : Int) := by have := UInt8.lt_iff_toNat_lt.1 hhigh; simp at this; omega
              have hb4' : decide ((126 : Int) < ((s[j].toNat : Nat) : Int)) = true := by simpa using hb4
              rw [if_pos (.inr hhigh)] at HL'
              clear hlow hhigh
              have HLL := Lib.hid HL'
              clear HL'
              go_wp2_with fail
              with_reducible refine W1.out.mono ?_
              rintro e w2 ⟨v, rfl, HF, F3⟩
              go_wp2_with fail
              go_ret
              rw [← HLL.out]
              have hj := HJ.out
              refine ⟨F2.trans (F3.below.mono H2.2.1), v, rfl, ?_⟩
              have e1 : codeAt s j = (codeOf o (s.size - p) : Nat) := by
                unfold codeAt codeOf
                split <;> split <;> omega
              rw [e1, hj] at HF
              exact HF.mono H2.2.1
            · have hb4 : ¬ (126 : Int) < ((s[j].toNat : Nat) : Int) := fun h => hhigh (UInt8.lt_iff_toNat_lt.2 (by simp; omega))
              have hb4' : decide ((126 : Int) < ((s[j].toNat : Nat) : Int)) = false := by simpa using hb4
              rw [if_neg (by rintro (h | h); exact hlow h; exact hhigh h)] at HL'
              clear hlow hhigh
              go_wp2_with fail
              with_reducible refine (len_any 82 b1 b1 acc wr D2).mono ?_
              rintro e w' ⟨rfl, rfl⟩
              by_cases h255 : acc.length = 255
              · have hb5 : ((acc.length : Int) == 255) = true := by rw [h255]; rfl
                rw [if_pos h255] at HL'
                have HLL := Lib.hid HL'
                clear HL' h255
                go_wp2_with fail
                with_reducible refine (fault_any 2 p wr).mono ?_
                rintro e w5 ⟨v, rfl, HF, F5⟩
                go_wp2_with fail
                go_ret
                rw [← HLL.out]
                refine ⟨F2.trans (F5.below.mono H2.2.1), v, rfl, ?_⟩
                rw [show p + 0 = p from rfl]
                exact HF.mono H2.2.1
              · have hb5 : ((acc.length : Int) == 255) = false := by rw [beq_eq_false_iff_ne]; omega
                have hacc' : acc.length < 255 := by omega
                rw [if_neg h255] at HL'
                have HLL := Lib.hid HL'
                clear HL' h255
                go_wp2_with fail
                with_reducible refine (writeByte_any 82 Tryd.bt_builder b1 b1 acc s[j] wr D2 (by omega)).mono ?_
                rintro e w5 ⟨rfl, D5, BF5⟩
                have H5 := H2.bf D2 (by decide) (by decide) BF5
                have F5 := F2.trans ((BF5.below (Nat.le_refl _) D2.2.1).mono hB1)
                go_wp2_with fail
                go_roundg k
                case measure => omega
                case rel =>
                  have hj := HJ.out
                  have h9 := HLL.out
                  refine ⟨o + 1, acc ++ [s[j]], by subst hj; go_num, by omega, by omega, by simp; omega, H5, D5, F5, by omega, ?_⟩
                  rw [← h9, show p + (o + 1) = j + 1 from by omega]
    · have hl0 : s.data.toList.drop j = [] := List.drop_eq_nil_of_le (by simp; omega)
      rw [hl0] at hl
      have HL := Lib.hid hl
      clear hl hl0
      go_wp2_with fail
      refine W1.out.mono ?_
      rintro e w2 ⟨v, rfl, HF, F3⟩
      go_wp2_with fail
      go_ret
      rw [← HL.out]
      have hj := HJ.out
      refine ⟨F2.trans (F3.below.mono H2.2.1), v, rfl, ?_⟩
      have e1 : codeAt s j = (codeOf o (s.size - p) : Nat) := by
        unfold codeAt codeOf
        split <;> split <;> omega
      rw [e1, hj] at HF
      exact HF.mono (Nat.le_trans H.2.1 F2.size)
end Go.Proofs.YtglknnncpaggpaaDoor
