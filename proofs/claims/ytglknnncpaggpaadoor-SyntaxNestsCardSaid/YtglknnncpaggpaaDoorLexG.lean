/- The cutter: token. -/
import Derived.Test.YtglknnncpaggpaaDoorLexF
namespace Go.Proofs.YtglknnncpaggpaaDoor
open Go.RowKit

def StrPost (s : ByteArray) (w : World) (e : Ending) (w' : World) : Prop := e = .returned (.string s) ∧ Fr [] w w'
theorem clone_any (s : ByteArray) (w : World) (hs : s.size ≤ 100000) : Calls Tryd.prog 65 #[.string s] w (StrPost s w) := by
  go_enter Tryd.func65, Tryd.ntmps65
  go_wp2_with fail
  refine (Tryd.stringslite_Clone s w (by omega)).mono ?_
  rintro e w' ⟨rfl, F⟩
  go_wp2_with fail
  go_ret
  exact ⟨rfl, Fr.of_below F []⟩

theorem signs_mem {c : UInt8} (hc : 0 ≤ Lib.indexByte signsL c) : c = 47 ∨ c = 38 ∨ c = 33 ∨ c = 63 ∨ c = 42 ∨ c = 43 ∨ c = 40 ∨ c = 41 ∨ c = 46 := by
  have h := List.mem_of_getElem? (index_bound signsL c hc).2
  simpa [signsL] using h
theorem utf8_sign {c : UInt8} (hc : 0 ≤ Lib.indexByte signsL c) : Utf8.encode (wrap32 (c.toNat : Int)) = ⟨#[c]⟩ := by
  rcases signs_mem hc with rfl | rfl | rfl | rfl | rfl | rfl | rfl | rfl | rfl <;> kernel_rfl

theorem tokL_long {l : List UInt8} (h : 32 < nameLen l) : tokL l = .err 2 0 := by unfold tokL; rw [if_pos h]
theorem tokL_name {l : List UInt8} (h : ¬ 32 < nameLen l) (h2 : 0 < nameLen l) : tokL l = .ok (1, l.take (nameLen l), cls0) (nameLen l) := by unfold tokL; rw [if_neg h, if_pos h2]
theorem tokL_sign {c : UInt8} {l : List UInt8} (h : nameLen (c :: l) = 0) (h2 : 0 ≤ Lib.indexByte signsL c) : tokL (c :: l) = .ok (5, [c], cls0) 1 := by
  unfold tokL; rw [h, if_neg (by decide), if_neg (by decide)]; simp only; rw [if_pos h2]
theorem tokL_arrow {c : UInt8} {l : List UInt8} (h : nameLen (c :: l) = 0) (h2 : ¬ 0 ≤ Lib.indexByte signsL c) (h3 : c = 60 ∧ l.head? = some 45) : tokL (c :: l) = .ok (2, [], cls0) 2 := by
  unfold tokL; rw [h, if_neg (by decide), if_neg (by decide)]; simp only; rw [if_neg h2, if_pos h3]
theorem tokL_lit {c : UInt8} {l : List UInt8} (h : nameLen (c :: l) = 0) (h2 : ¬ 0 ≤ Lib.indexByte signsL c) (h3 : ¬ (c = 60 ∧ l.head? = some 45)) (h4 : c = 39 ∨ c = 34) :
    tokL (c :: l) = litTok (litL c (l.length + 1) (l.length + 1) 1 [] l) := by
  unfold tokL; rw [h, if_neg (by decide), if_neg (by decide)]; simp only; rw [if_neg h2, if_neg h3, if_pos h4]
  rw [List.length_cons]
  cases litL c (l.length + 1) (l.length + 1) 1 [] l <;> rfl
theorem tokL_cls {c : UInt8} {l : List UInt8} (h : nameLen (c :: l) = 0) (h2 : ¬ 0 ≤ Lib.indexByte signsL c) (h3 : ¬ (c = 60 ∧ l.head? = some 45)) (h4 : ¬ (c = 39 ∨ c = 34)) (h5 : c = 91) :
    tokL (c :: l) = clsTok (l.length + 1) (parseC (c :: l)) := by
  unfold tokL; rw [h, if_neg (by decide), if_neg (by decide)]; simp only; rw [if_neg h2, if_neg h3, if_neg h4, if_pos h5]
  rw [List.length_cons]
  cases parseC (c :: l) <;> rfl
theorem tokL_else {c : UInt8} {l : List UInt8} (h : nameLen (c :: l) = 0) (h2 : ¬ 0 ≤ Lib.indexByte signsL c) (h3 : ¬ (c = 60 ∧ l.head? = some 45)) (h4 : ¬ (c = 39 ∨ c = 34)) (h5 : ¬ c = 91) :
    tokL (c :: l) = .err 4 0 := by
  unfold tokL; rw [h, if_neg (by decide), if_neg (by decide)]; simp only; rw [if_neg h2, if_neg h3, if_neg h4, if_neg h5]
theorem prefix_arrow (c : UInt8) (l : List UInt8) : (Lib.hasPrefix (c :: l) [60, 45] = true) ↔ (c = 60 ∧ l.head? = some 45) := by
  unfold Lib.hasPrefix
  cases l with
  | nil => simp [List.isPrefixOf]
  | cons d l => simp [List.isPrefixOf]; exact ⟨fun h => ⟨h.1.symm, h.2.symm⟩, fun h => ⟨h.1.symm, h.2.symm⟩⟩
theorem take_list (x : ByteArray) (n : Nat) : (⟨(x.data.toList.take n).toArray⟩ : ByteArray) = x.extract 0 n := by
  have h : (List.take n x.data.toList).toArray = x.data.extract 0 n := by
    apply Array.ext'
    simp
  have h2 : x.extract 0 n = ⟨x.data.extract 0 n⟩ := by apply ByteArray.ext; simp
  rw [h2, ← h]
theorem add_str (B bc : Nat) (s : ByteArray) (p : Nat) (ts : List Tok) (qi : Int) (q : Nat) (hq : qi = q) (kind : Int) (n : Nat) (hn : kind = n) (text : ByteArray) (w : World) (H : Ct B bc s p ts w) (hl : ts.length ≤ 1000000) :
    Calls Tryd.prog 40 #[.pointer (some ⟨bc, 0, none⟩), .agg #[.int .i64 kind, .string text, .int .u64 0, .int .u64 0, .int .u64 0, .int .u64 0, .int .i64 0], .int .i64 qi] w
      (AddPost B bc s q (ts ++ [⟨n, text.data.toList, cls0, p⟩]) w) :=
  add_zero B bc s p ts qi q hq kind n hn text.data.toList w H hl

theorem PiecePost.mono0 {B bc : Nat} {s : ByteArray} {p : Nat} {ts : List Tok} {r : L (Nat × List UInt8 × Cls)} {w w1 : World} {e : Ending} {w' : World} (F : Below B w w1) (h : PiecePost B bc s p ts r w1 e w') : PiecePost B bc s p ts r w e w' :=
  ⟨F.trans h.1, h.2⟩

set_option maxHeartbeats 8000000 in
set_option maxRecDepth 100000 in
theorem token_any (B bc : Nat) (s : ByteArray) (p : Nat) (ts : List Tok) (w : World) (H : Ct B bc s p ts w) (hg : Lg w) (hp : p < s.size) (hs : s.size ≤ 100000) (hts : ts.length ≤ 1000000) :
    Calls Tryd.prog 39 #[.pointer (some ⟨bc, 0, none⟩)] w (PiecePost B bc s p ts (tokL (s.data.toList.drop p)) w) := by
  have hBw := H.2.1
  obtain ⟨h0, h1, _⟩ := H.cells
  have hi0 : (0 : Int) ≤ (p : Int) := by omega
  have hi1 : (p : Int) ≤ (s.size : Int) := by omega
  obtain ⟨x, hx⟩ : ∃ x, s.extract p s.size = x := ⟨_, rfl⟩
  have hxs : x.size = s.size - p := by rw [← hx]; simp
  have hxl : x.data.toList = s.data.toList.drop p := by rw [← hx]; exact extract_list s p
  have hdl := List.drop_eq_getElem_cons (l := s.data.toList) (i := p) (by simpa using hp)
  have hbyte : s.data.toList[p]'(by simpa using hp) = s[p] := rfl
  rw [hbyte] at hdl
  obtain ⟨c, hc⟩ : ∃ c, s[p] = c := ⟨_, rfl⟩
  rw [hc] at hdl
  have hx1 : 0 < x.size := by omega
  have hxc : x[0] = c := by
    have h9 : x.data.toList[0]'(by simpa using hx1) = c := by simp only [hxl, hdl]; rfl
    exact h9
  obtain ⟨n, hn⟩ : ∃ n, nameLen (s.data.toList.drop p) = n := ⟨_, rfl⟩
  have hnl : n ≤ s.size - p := by
    have := nameLen_le (s.data.toList.drop p)
    rw [List.length_drop] at this
    have e0 : s.data.toList.length = s.size := rfl
    omega
  have hn2 : nameLen x.data.toList = n := by rw [hxl]; exact hn
  obtain ⟨l, hl⟩ : ∃ l, s.data.toList.drop (p + 1) = l := ⟨_, rfl⟩
  have hll : l.length + 1 = s.size - p := by
    rw [← hl, List.length_drop]
    have e0 : s.data.toList.length = s.size := rfl
    omega
  have HLL := Lib.hid hll
  have HL := Lib.hid hl
  rw [hl] at hdl
  have HN := Lib.hid hn
  have HN2 := Lib.hid hn2
  have HC := Lib.hid hc
  have HXC := Lib.hid hxc
  have HX := Lib.hid hx
  have HXL := Lib.hid hxl
  have HXS := Lib.hid hxs
  have HDL := Lib.hid hdl
  have hxs2 : x.size ≤ 100000 := by omega
  have hx2 : (0 : Int) < (x.size : Int) := by omega
  have hxn : (n : Int) ≤ (x.size : Int) := by omega
  have hx3 : ¬ x.size = 0 := by omega
  clear hn hc hxc hx hxl hxs hdl hbyte hn2 hl hll
  go_enter Tryd.func39, Tryd.ntmps39
  go_wp2_with fail
  go_quiet (fail)
  rw [HX.out]
  have H1 : Ct B bc s p ts (w.drewN nq) := H
  have G1 : Lg (w.drewN nq) := hg
  have F1 : Below B w (w.drewN nq) := (fr_drewN w nq).below.mono hBw
  clear h0 h1 H hg
  generalize w.drewN nq = w1 at *
  go_wp2_with fail
  with_reducible refine (name_any x w1 hxs2).mono ?_
  rintro e w' ⟨rfl, rfl⟩
  rw [HN2.out]
  have hB1 := H1.2.1
  obtain ⟨h0, h1, _⟩ := H1.cells
  by_cases hlong : 32 < n
  · have hb : decide ((32 : Int) < (n : Int)) = true := by simp; omega
    go_wp2_with fail
    with_reducible refine (fault_any 2 p w1).mono ?_
    rintro e w2 ⟨v, rfl, HF, F2⟩
    go_wp2_with fail
    go_ret
    rw [tokL_long (by rw [HN.out]; exact hlong)]
    refine ⟨F1.trans (F2.below.mono hB1), v, rfl, ?_⟩
    exact HF.mono hB1
  · have hb : decide ((32 : Int) < (n : Int)) = false := by simp; omega
    by_cases hname : 0 < n
    · have hb2 : decide ((0 : Int) < (n : Int)) = true := by simp; omega
      have hw : IntKind.i64.wrap ((p : Int) + (n : Int)) = ((p + n : Nat) : Int) := by
        rw [IntKind.wrap_i64]
        omega
      go_wp2_with fail
      go_region_with (first
        | (go_at_call 65; refine (clone_any (x.extract 0 n) w1.drew (by simp; omega)).mono ?_; rintro e w2 ⟨rfl, F2⟩
           have H2 := Ct.fr (w := w1.drew) H1 F2
           have h2 := H2.cells.2.1)
        | (go_at_call 40; refine (add_str B bc s p ts _ (p + n) (by omega) 1 1 rfl (x.extract 0 n) w2 H2 hts).mono ?_; rintro e w3 ⟨rfl, H3, F3⟩))
      all_goals (go_wp2_with fail; go_ret)
      all_goals
        (have FC2 : Below B w1 w2 := (show Fr [] w1 w2 from ⟨F2.os, F2.tape, F2.output, F2.size, F2.block⟩).below.mono hB1
         rw [tokL_name (by rw [HN.out]; exact hlong) (by rw [HN.out]; exact hname), HN.out, ← HXL.out]
         refine ⟨(F1.trans FC2).trans F3, rfl, ?_⟩
         rw [← take_list] at H3
         exact H3)
    · have hn0 : n = 0 := by omega
      have hb2 : decide ((0 : Int) < (n : Int)) = false := by simp; omega
      have hb2' : (n : Int) ≤ 0 := by omega
      have CI := Lib.hid (fun W => idx_byte ⟨#[47, 38, 33, 63, 42, 43, 40, 41, 46]⟩ c (Lib.indexByte signsL c) rfl W)
      have HNN : Hid (nameLen (c :: l) = 0) := Lib.hid (by rw [← HDL.out, HN.out]; exact hn0)
      clear hn0
      go_wp2_with fail
      rw [HXC.out]
      with_reducible refine (CI.out w1).mono ?_
      rintro e w1 ⟨rfl, rfl⟩
      by_cases hsign : 0 ≤ Lib.indexByte signsL c
      · have RS := utf8_sign hsign
        have HT := Lib.hid (tokL_sign HNN.out hsign)
        have hb3 : decide (0 ≤ Lib.indexByte signsL c) = true := by simpa using hsign
        clear hsign
        go_wp2_with fail

        with_reducible refine (add_str B bc s p ts _ (p + 1) (by omega) 5 5 rfl ⟨#[c]⟩ w1 H1 hts).mono ?_
        rintro e w3 ⟨rfl, H3, F3⟩
        go_wp2_with fail
        go_ret
        rw [HDL.out, HT.out]
        exact ⟨F1.trans F3, rfl, H3⟩
      · have hb3 : decide (0 ≤ Lib.indexByte signsL c) = false := by simpa using hsign
        have hb3' : Lib.indexByte signsL c < 0 := by omega
        have HSF : Hid (Lib.indexByte signsL c < 0) := Lib.hid hb3'
        clear hsign
        have HP := Lib.hid (Tryd.strings_HasPrefix x ⟨#[60, 45]⟩ w1)
        obtain ⟨bp, hbp⟩ : ∃ bp, Lib.hasPrefix x.data.toList [60, 45] = bp := ⟨_, rfl⟩
        have hbp2 := hbp
        rw [HXL.out, HDL.out] at hbp2
        have HBP := Lib.hid hbp
        have HBP2 := Lib.hid hbp2
        clear hbp hbp2
        go_wp2_with fail
        with_reducible refine HP.out.mono ?_
        rintro e w2 ⟨rfl, hww⟩
        rw [show Lib.hasPrefix x.data.toList (⟨#[60, 45]⟩ : ByteArray).data.toList = bp from HBP.out]
        cases hww
        cases bp with
        | true =>
          have HT := Lib.hid (tokL_arrow HNN.out (Int.not_le.2 HSF.out) ((prefix_arrow c l).1 HBP2.out))
          go_wp2_with fail
          with_reducible refine (add_zero B bc s p ts _ (p + 2) (by omega) 2 2 rfl [] w1 H1 hts).mono ?_
          rintro e w3 ⟨rfl, H3, F3⟩
          go_wp2_with fail
          go_ret
          rw [HDL.out, HT.out]
          exact ⟨F1.trans F3, rfl, H3⟩
        | false =>
          have HA : Hid (¬ (c = 60 ∧ l.head? = some 45)) := Lib.hid (fun h => by have := (prefix_arrow c l).2 h; rw [HBP2.out] at this; cases this)
          have LI := Lib.hid (fun W (HW : Ct B bc s p ts W) r hr => literal_any B bc s p ts W HW hp hs hts c HC r hr)
          by_cases h39 : c = 39
          · have hb4 : (((c.toNat : Nat) : Int) == 39) = true := by rw [h39]; rfl
            have HT := Lib.hid (tokL_lit HNN.out (Int.not_le.2 HSF.out) HA.out (.inl h39))
            clear h39
            go_wp2_with fail
            with_reducible refine (LI.out w1 H1 _ (Lib.hid rfl)).mono ?_
            rintro e w3 ⟨F3, h3⟩
            rw [HL.out, ← HLL.out] at h3
            obtain ⟨r, hr⟩ : ∃ r, litTok (litL c (l.length + 1) (l.length + 1) 1 [] l) = r := ⟨_, rfl⟩
            rw [hr] at h3
            have HR := Lib.hid (HT.out.trans hr)
            clear hr
            match r, HR, h3 with
            | .ok t n, HR, ⟨he, h5⟩ =>
              subst he
              go_wp2_with fail
              go_ret
              rw [HDL.out, HR.out]
              exact ⟨F1.trans F3, rfl, h5⟩
            | .err code n, HR, ⟨v, he, h5⟩ =>
              subst he
              go_wp2_with fail
              go_ret
              rw [HDL.out, HR.out]
              exact ⟨F1.trans F3, v, rfl, h5⟩
          · have hb4 : (((c.toNat : Nat) : Int) == 39) = false := by rw [beq_eq_false_iff_ne]; intro h; exact h39 (UInt8.toNat_inj.1 (by simp; omega))
            by_cases h34 : c = 34
            · have hb5 : (((c.toNat : Nat) : Int) == 34) = true := by rw [h34]; rfl
              have HT := Lib.hid (tokL_lit HNN.out (Int.not_le.2 HSF.out) HA.out (.inr h34))
              clear h39 h34
              go_wp2_with fail
              with_reducible refine (LI.out w1 H1 _ (Lib.hid rfl)).mono ?_
              rintro e w3 ⟨F3, h3⟩
              rw [HL.out, ← HLL.out] at h3
              obtain ⟨r, hr⟩ : ∃ r, litTok (litL c (l.length + 1) (l.length + 1) 1 [] l) = r := ⟨_, rfl⟩
              rw [hr] at h3
              have HR := Lib.hid (HT.out.trans hr)
              clear hr
              match r, HR, h3 with
              | .ok t n, HR, ⟨he, h5⟩ =>
                subst he
                go_wp2_with fail
                go_ret
                rw [HDL.out, HR.out]
                exact ⟨F1.trans F3, rfl, h5⟩
              | .err code n, HR, ⟨v, he, h5⟩ =>
                subst he
                go_wp2_with fail
                go_ret
                rw [HDL.out, HR.out]
                exact ⟨F1.trans F3, v, rfl, h5⟩
            · have hb5 : (((c.toNat : Nat) : Int) == 34) = false := by rw [beq_eq_false_iff_ne]; intro h; exact h34 (UInt8.toNat_inj.1 (by simp; omega))
              have HQ : Hid (¬ (c = 39 ∨ c = 34)) := Lib.hid (by rintro (h | h); exact h39 h; exact h34 h)
              have CL := Lib.hid (fun W (HW : Ct B bc s p ts W) (GW : Lg W) => cclass_any B bc s p ts W HW GW hp hs hts _ (Lib.hid rfl))
              by_cases h91 : c = 91
              · have hb6 : (((c.toNat : Nat) : Int) == 91) = true := by rw [h91]; rfl
                have HT := Lib.hid (tokL_cls HNN.out (Int.not_le.2 HSF.out) HA.out HQ.out h91)
                clear h39 h34 h91
                go_wp2_with fail
                with_reducible refine (CL.out w1 H1 G1).mono ?_
                rintro e w3 ⟨F3, h3⟩
                rw [HDL.out, ← HLL.out] at h3
                obtain ⟨r, hr⟩ : ∃ r, clsTok (l.length + 1) (parseC (c :: l)) = r := ⟨_, rfl⟩
                rw [hr] at h3
                have HR := Lib.hid (HT.out.trans hr)
                clear hr
                match r, HR, h3 with
                | .ok t n, HR, ⟨he, h5⟩ =>
                  subst he
                  go_wp2_with fail
                  go_ret
                  rw [HDL.out, HR.out]
                  exact ⟨F1.trans F3, rfl, h5⟩
                | .err code n, HR, ⟨v, he, h5⟩ =>
                  subst he
                  go_wp2_with fail
                  go_ret
                  rw [HDL.out, HR.out]
                  exact ⟨F1.trans F3, v, rfl, h5⟩
              · have hb6 : (((c.toNat : Nat) : Int) == 91) = false := by rw [beq_eq_false_iff_ne]; intro h; exact h91 (UInt8.toNat_inj.1 (by simp; omega))
                have HT := Lib.hid (tokL_else HNN.out (Int.not_le.2 HSF.out) HA.out HQ.out h91)
                clear h39 h34 h91
                go_wp2_with fail
                with_reducible refine (fault_any 4 p w1).mono ?_
                rintro e w3 ⟨v, rfl, HF, F3⟩
                go_wp2_with fail
                go_ret
                rw [HDL.out, HT.out]
                exact ⟨F1.trans (F3.below.mono hB1), v, rfl, HF.mono hB1⟩
end Go.Proofs.YtglknnncpaggpaaDoor
