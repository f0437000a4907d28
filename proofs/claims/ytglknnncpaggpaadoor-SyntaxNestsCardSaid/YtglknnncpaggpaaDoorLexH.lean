/- The cutter: Tokens. -/
import Derived.Test.YtglknnncpaggpaaDoorLexG
namespace Go.Proofs.YtglknnncpaggpaaDoor
open Go.RowKit

theorem index_takeWhile : ∀ (l : List UInt8) (c : UInt8), Lib.indexByte l c = if (l.takeWhile (· != c)).length < l.length then ((l.takeWhile (· != c)).length : Int) else -1
  | [], c => by simp [Lib.indexByte]
  | x :: l, c => by
    have ih := index_takeWhile l c
    by_cases h : x = c
    · subst h
      simp [Lib.indexByte]
    · have e : (x :: l).takeWhile (fun y => y != c) = x :: l.takeWhile (fun y => y != c) := List.takeWhile_cons_of_pos (p := fun y => y != c) (by simpa using h)
      rw [e]
      have h1 : (x == c) = false := by simpa using h
      simp only [Lib.indexByte, h1, List.length_cons]
      rw [ih]
      have h2 : ∀ n : Nat, ¬ ((n : Int) == -1) = true := fun n => by rw [beq_iff_eq]; omega
      by_cases hl : (l.takeWhile (fun y => y != c)).length < l.length
      · have h3 : (l.takeWhile (fun y => y != c)).length + 1 < l.length + 1 := by omega
        rw [if_pos hl, if_pos h3, if_neg (h2 _)]
        simp
      · have h3 : ¬ (l.takeWhile (fun y => y != c)).length + 1 < l.length + 1 := by omega
        rw [if_neg hl, if_neg h3]
        rfl
theorem drop_takeWhile : ∀ (l : List UInt8) (q : UInt8 → Bool), l.drop (l.takeWhile q).length = l.dropWhile q
  | [], q => rfl
  | x :: l, q => by
    cases h : q x
    · simp [h]
    · simp [h, drop_takeWhile l q]
theorem takeWhile_le (l : List UInt8) (q : UInt8 → Bool) : (l.takeWhile q).length ≤ l.length := (List.takeWhile_sublist q).length_le

/-- What lex.Tokens leaves: the tokens in an own slice; or an error. -/
def ToksAt (B : Nat) (w : World) (v : Value) (ts : List Tok) : Prop := w.ownsRow B 40 7 v ts.length (flat ts)
def TokensPost (r : A) (w : World) (e : Ending) (w' : World) : Prop :=
  Fr [] w w' ∧ match r with
  | .ok ts => ∃ v, e = .returned (.tuple #[v, .nilIface]) ∧ ToksAt w.heap.size w' v ts
  | .err code at_ => ∃ v, e = .returned (.tuple #[.slice none 0 0, v]) ∧ FaultAt w.heap.size w' v (code : Int) at_

theorem Ct.new (s : ByteArray) (w : World) : Ct w.heap.size w.heap.size s 0 [] (w.alloc (.cells #[.string s, .int .i64 0, .slice none 0 0] 93)) :=
  ⟨Nat.le_refl _, by simp, .slice none 0 0, Blk.new _ _ _, rfl, .inl ⟨rfl, rfl⟩⟩
theorem Ct.out {B bc : Nat} {s : ByteArray} {p : Nat} {ts : List Tok} {w : World} (h : Ct B bc s p ts w) : ∃ lv, w.cell? ⟨bc, 2, none⟩ = some lv ∧ ToksAt B w lv ts := by
  obtain ⟨_, _, lv, hk, ho⟩ := h
  exact ⟨lv, Blk.cell hk 2 rfl, ho⟩
theorem takeWhile_bne (l : List UInt8) (c : UInt8) : l.takeWhile (fun y => y != c) = l.takeWhile (· != c) := rfl

set_option maxHeartbeats 8000000 in
set_option maxRecDepth 100000 in
theorem tokens_any (s : ByteArray) (w : World) (hg : Lg w) (hs : s.size ≤ 100000000) :
    Calls Tryd.prog 21 #[.string s] w (TokensPost (lexAll s.data.toList) w) := by
  have e0 : s.data.toList.length = s.size := rfl
  by_cases hbig : 8192 < s.size
  · have hb : decide ((8192 : Int) < (s.size : Int)) = true := by simp; omega
    have HR : Hid (lexAll s.data.toList = .err 2 (-1)) := Lib.hid (by unfold lexAll; rw [e0, if_pos hbig])
    clear e0
    go_enter Tryd.func21, Tryd.ntmps21
    go_wp2_with fail
    with_reducible refine (fault_any 2 (-1) w).mono ?_
    rintro e w2 ⟨v, rfl, HF, F2⟩
    go_wp2_with fail
    refine bodyPost_ret (v := .tuple #[.slice none 0 0, v]) (by simp [results, Tryd.results21, go_sem]) rfl ?_
    rw [HR.out]
    exact ⟨F2, v, rfl, HF⟩
  · have hb : decide ((8192 : Int) < (s.size : Int)) = false := by simp; omega
    have hb' : ¬ (8192 : Int) < (s.size : Int) := by omega
    obtain ⟨r, hr⟩ : ∃ r, lexL (s.size + 1) 0 [] s.data.toList = r := ⟨_, rfl⟩
    have HR : Hid (lexAll s.data.toList = r) := Lib.hid (by unfold lexAll; rw [e0, if_neg hbig, hr])
    have HR2 := Lib.hid hr
    clear hr
    have H0 := Ct.new s w
    have G0 := hg.fr ((Fr.refl [] w).alloc (.cells #[.string s, .int .i64 0, .slice none 0 0] 93)) (by simp)
    have F0 : Below w.heap.size w _ := ((Fr.refl [] w).alloc (.cells #[.string s, .int .i64 0, .slice none 0 0] 93)).below
    have hB0 := hg.lt
    go_enter Tryd.func21, Tryd.ntmps21
    go_wp2_with fail
    obtain ⟨w1, hw1⟩ : ∃ w1, w.alloc (.cells #[.string s, .int .i64 0, .slice none 0 0] 93) = w1 := ⟨_, rfl⟩
    rw [hw1] at H0 G0 F0 ⊢
    clear hw1
    obtain ⟨B, hB⟩ : ∃ B, B = w.heap.size := ⟨_, rfl⟩
    rw [← hB] at H0 F0 hB0 ⊢
    have HB := Lib.hid hB
    clear hB
    go_loopg [5] (s.size) (fun k a wr => ∃ (p : Nat) (ts : List Tok) (fu : Nat), p ≤ s.size ∧ s.size - p ≤ k ∧ s.size - p < fu ∧ ts.length ≤ p ∧ Ct B B s p ts wr ∧ Lg wr ∧ Below B w wr ∧ lexL fu p ts (s.data.toList.drop p) = r)
    case atStart => exact ⟨0, [], s.size + 1, by omega, by omega, by omega, by simp, H0, G0, F0, HR2.out⟩
    case round =>
      obtain ⟨p, ts, fu, hps, hk, hfu, hts, H1, G1, F1, hl⟩ := hrel
      clear H0 G0 F0 HR2
      have hBw1 := H1.2.1
      obtain ⟨h0, h1, h2⟩ := H1.cells
      have hi0 : (0 : Int) ≤ (p : Int) := by omega
      by_cases hp : p < s.size
      · have hbp : decide ((p : Int) < (s.size : Int)) = true := by simp; omega
        have hi1 : (p : Int) < (s.size : Int) := by omega
        have hi2 : (p : Int) ≤ (s.size : Int) := by omega
        have hdl := List.drop_eq_getElem_cons (l := s.data.toList) (i := p) (by simpa using hp)
        have hbyte : s.data.toList[p]'(by simpa using hp) = s[p] := rfl
        rw [hbyte] at hdl
        obtain ⟨c, hc⟩ : ∃ c, s[p] = c := ⟨_, rfl⟩
        rw [hc] at hdl
        obtain ⟨l, hll⟩ : ∃ l, s.data.toList.drop (p + 1) = l := ⟨_, rfl⟩
        rw [hll] at hdl
        obtain ⟨fu, rfl⟩ : ∃ f, fu = f + 1 := ⟨fu - 1, by omega⟩
        obtain ⟨k, rfl⟩ : ∃ k, gk = k + 1 := ⟨gk - 1, by omega⟩
        have HC := Lib.hid hc
        have HD := Lib.hid hdl
        have HLL := Lib.hid hll
        have HL := Lib.hid hl
        clear hc hdl hbyte hll hl
        by_cases h35 : c = 35
        · have hb1 : (((s[p].toNat : Nat) : Int) == 35) = true := by rw [HC.out, h35]; rfl
          obtain ⟨m, hm⟩ : ∃ m, ((c :: l).takeWhile (· != 10)).length = m := ⟨_, rfl⟩
          have hml : m ≤ (c :: l).length := by rw [← hm]; exact takeWhile_le _ _
          have hm1 : 1 ≤ m := by
            rw [← hm, h35, List.takeWhile_cons_of_pos (by decide)]
            simp
          have hcl : (c :: l).length = s.size - p := by rw [← HD.out, List.length_drop]; rfl
          obtain ⟨q, hq⟩ : ∃ q, Lib.indexByte (s.extract p s.size).data.toList 10 = q := ⟨_, rfl⟩
          have CI : Hid (∀ W, Calls Tryd.prog 38 #[.string (s.extract p s.size), .int .u8 10] W (fun e w' => e = .returned (.int .i64 q) ∧ W = w')) := Lib.hid (fun W =>
            (Tryd.strings_IndexByte (s.extract p s.size) 10 W).mono (fun e w' h => ⟨h.1.trans (by rw [← hq]; rfl), h.2.symm⟩))
          have hq2 := hq
          rw [extract_list, HD.out, index_takeWhile, hm, hcl] at hq2
          have HL2 := HL.out
          rw [HD.out] at HL2
          simp only [lexL] at HL2
          rw [if_pos h35, hm, ← drop_takeWhile, hm, ← HD.out, List.drop_drop] at HL2
          have HL3 := Lib.hid HL2
          have hmp : p + m ≤ s.size := by omega
          clear hq HL HL2 h35 hm hml
          by_cases hlt : m < s.size - p
          · rw [if_pos hlt] at hq2
            subst hq2
            have hb2 : decide ((0 : Int) ≤ (m : Int)) = true := by simp
            clear hcl
            go_wp2_with fail
            with_reducible refine (CI.out wr).mono ?_
            rintro e w2 ⟨rfl, rfl⟩
            go_wp2_with fail
            obtain ⟨H2, F2⟩ := H1.move (p + m)
            go_roundg k
            case measure => omega
            case rel =>
              refine ⟨p + m, ts, fu, hmp, by omega, by omega, by omega, ?_, G1.below F2 hB0, F1.trans F2, HL3.out⟩
              simpa using H2
          · have hlt' : p + m = s.size := by omega
            rw [if_neg hlt] at hq2
            subst hq2
            have hb2 : decide ((0 : Int) ≤ (-1 : Int)) = false := by decide
            have HE := Lib.hid hlt'
            clear hcl hlt hlt'
            go_wp2_with fail
            with_reducible refine (CI.out wr).mono ?_
            rintro e w2 ⟨rfl, rfl⟩
            go_wp2_with fail
            obtain ⟨H2, F2⟩ := H1.move s.size
            have hlt' := HE.out
            go_roundg k
            case measure => omega
            case rel =>
              refine ⟨p + m, ts, fu, hmp, by omega, by omega, by omega, ?_, G1.below F2 hB0, F1.trans F2, HL3.out⟩
              rw [hlt']
              exact H2
        · by_cases hbl : isBlank c = true
          · have HL2 := HL.out
            rw [HD.out] at HL2
            simp only [lexL] at HL2
            rw [if_neg h35, if_pos hbl, ← HLL.out] at HL2
            have HL3 := Lib.hid HL2
            clear HL2 HL h35
            obtain ⟨H2, F2⟩ := H1.move (p + 1)
            have hcs : c = 9 ∨ c = 10 ∨ c = 13 ∨ c = 32 := by
              unfold isBlank at hbl
              simpa [or_assoc] using hbl
            clear hbl
            rcases hcs with rfl | rfl | rfl | rfl
            · have b35 : (((s[p].toNat : Nat) : Int) == 35) = false := by rw [HC.out]; rfl
              have b9 : (((s[p].toNat : Nat) : Int) == 9) = true := by rw [HC.out]; rfl
              go_wp2_with fail
              go_roundg k
              case measure => omega
              case rel => exact ⟨p + 1, ts, fu, by omega, by omega, by omega, by omega, H2, G1.below F2 hB0, F1.trans F2, HL3.out⟩
            · have b35 : (((s[p].toNat : Nat) : Int) == 35) = false := by rw [HC.out]; rfl
              have b9 : (((s[p].toNat : Nat) : Int) == 9) = false := by rw [HC.out]; rfl
              have b10 : (((s[p].toNat : Nat) : Int) == 10) = true := by rw [HC.out]; rfl
              go_wp2_with fail
              go_roundg k
              case measure => omega
              case rel => exact ⟨p + 1, ts, fu, by omega, by omega, by omega, by omega, H2, G1.below F2 hB0, F1.trans F2, HL3.out⟩
            · have b35 : (((s[p].toNat : Nat) : Int) == 35) = false := by rw [HC.out]; rfl
              have b9 : (((s[p].toNat : Nat) : Int) == 9) = false := by rw [HC.out]; rfl
              have b10 : (((s[p].toNat : Nat) : Int) == 10) = false := by rw [HC.out]; rfl
              have b13 : (((s[p].toNat : Nat) : Int) == 13) = true := by rw [HC.out]; rfl
              go_wp2_with fail
              go_roundg k
              case measure => omega
              case rel => exact ⟨p + 1, ts, fu, by omega, by omega, by omega, by omega, H2, G1.below F2 hB0, F1.trans F2, HL3.out⟩
            · have b35 : (((s[p].toNat : Nat) : Int) == 35) = false := by rw [HC.out]; rfl
              have b9 : (((s[p].toNat : Nat) : Int) == 9) = false := by rw [HC.out]; rfl
              have b10 : (((s[p].toNat : Nat) : Int) == 10) = false := by rw [HC.out]; rfl
              have b13 : (((s[p].toNat : Nat) : Int) == 13) = false := by rw [HC.out]; rfl
              have b32 : (((s[p].toNat : Nat) : Int) == 32) = true := by rw [HC.out]; rfl
              go_wp2_with fail
              go_roundg k
              case measure => omega
              case rel => exact ⟨p + 1, ts, fu, by omega, by omega, by omega, by omega, H2, G1.below F2 hB0, F1.trans F2, HL3.out⟩
          · have HL2 := HL.out
            rw [HD.out] at HL2
            simp only [lexL] at HL2
            rw [if_neg h35, if_neg hbl, ← HD.out] at HL2
            have HL3 := Lib.hid HL2
            clear HL2 HL
            have hnb : c ≠ 9 ∧ c ≠ 10 ∧ c ≠ 13 ∧ c ≠ 32 := by
              unfold isBlank at hbl
              simpa [not_or, and_assoc] using hbl
            have hne : ∀ k : UInt8, c ≠ k → (((s[p].toNat : Nat) : Int) == ((k.toNat : Nat) : Int)) = false := fun k hk => by rw [HC.out, byte_beq]; simpa using hk
            have b35 : (((s[p].toNat : Nat) : Int) == 35) = false := hne 35 h35
            have b9 : (((s[p].toNat : Nat) : Int) == 9) = false := hne 9 hnb.1
            have b10 : (((s[p].toNat : Nat) : Int) == 10) = false := hne 10 hnb.2.1
            have b13 : (((s[p].toNat : Nat) : Int) == 13) = false := hne 13 hnb.2.2.1
            have b32 : (((s[p].toNat : Nat) : Int) == 32) = false := hne 32 hnb.2.2.2
            have CT := Lib.hid (token_any B B s p ts wr H1 G1 hp (by omega) (by omega))
            clear hne hnb hbl h35
            go_wp2_with fail
            with_reducible refine CT.out.mono ?_
            rintro e w2 ⟨F2, h3⟩
            obtain ⟨r2, hr2⟩ : ∃ r2, tokL (s.data.toList.drop p) = r2 := ⟨_, rfl⟩
            have hok : ∀ t n, r2 = .ok t n → 1 ≤ n ∧ n ≤ (s.data.toList.drop p).length := fun t n e => tokL_ok (hr2.trans e)
            rw [List.length_drop] at hok
            rw [hr2] at h3
            have HL4 := HL3.out
            rw [hr2] at HL4
            have HL5 := Lib.hid HL4
            have HOK := Lib.hid hok
            clear HL4 HL3 hr2 hok CT
            have G2 := G1.below F2 hB0
            have F3 := F1.trans F2
            match r2, HL5, HOK, h3 with
            | .ok t n, HL5, HOK, ⟨he, h5⟩ =>
              subst he
              have hn := HOK.out _ _ rfl
              rw [e0] at hn
              go_wp2_with fail
              go_roundg k
              case measure => omega
              case rel =>
                have h9 := HL5.out
                simp only [List.drop_drop] at h9
                exact ⟨p + n, ts ++ [⟨t.1, t.2.1, t.2.2, p⟩], fu, by omega, by omega, by omega, by simp; omega, h5, G2, F3, h9⟩
            | .err code n, HL5, HOK, ⟨v, he, h5⟩ =>
              subst he
              obtain ⟨a, rfl, ha, KA⟩ := h5
              go_wp2_with fail
              refine bodyPost_ret (v := .tuple #[.slice none 0 0, .iface 62 (.pointer (some ⟨a, 0, none⟩))]) (by simp [results, Tryd.results21, go_sem]) rfl ?_
              rw [HR.out, ← HL5.out]
              rw [HB.out] at F3 ha
              exact ⟨Fr.of_below F3 [], _, rfl, a, rfl, ha, KA⟩
      · have hbp : decide ((p : Int) < (s.size : Int)) = false := by simp; omega
        have hpe : p = s.size := by omega
        subst hpe
        have HL2 := hl
        obtain ⟨fu, rfl⟩ : ∃ f, fu = f + 1 := ⟨fu - 1, by omega⟩
        rw [List.drop_eq_nil_of_le (by rw [e0]; exact Nat.le_refl _)] at HL2
        simp only [lexL] at HL2
        have HL3 := Lib.hid HL2
        clear hl HL2
        have CA := Lib.hid (add_zero B B s s.size ts (s.size : Int) s.size rfl 6 6 rfl [] wr H1 (by omega))
        go_wp2_with fail
        with_reducible refine CA.out.mono ?_
        rintro e w3 ⟨rfl, H3, F3⟩
        obtain ⟨lv, k0, TK⟩ := H3.out
        go_wp2_with fail
        refine bodyPost_ret (v := .tuple #[lv, .nilIface]) (by simp [results, Tryd.results21, go_sem]) rfl ?_
        rw [HR.out, ← HL3.out]
        have F4 := F1.trans F3
        rw [HB.out] at F4 TK
        exact ⟨Fr.of_below F4 [], lv, rfl, TK⟩
end Go.Proofs.YtglknnncpaggpaaDoor
