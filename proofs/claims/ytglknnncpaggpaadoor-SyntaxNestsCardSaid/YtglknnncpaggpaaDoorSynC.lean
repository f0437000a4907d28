/- The reader: within. -/
import Derived.Test.YtglknnncpaggpaaDoorSynB
import Derived.Test.YtglknnncpaggpaaDoorPureD
namespace Go.Proofs.YtglknnncpaggpaaDoor
open Go.RowKit

def StopB (br code at_ : Nat) (w : World) (e : Ending) (w' : World) : Prop :=
  Fr [br] w w' ∧ ∃ b, e = .panicked [{ v := .iface 62 (.pointer (some ⟨b, 0, none⟩)), recovered := false }] ∧ w.heap.size ≤ b ∧ Blk w' b #[.int .i64 code, .int .i64 at_] 76
theorem StopPost.toB {code at_ br : Nat} {w w1 : World} {e : Ending} {w' : World} (h : StopPost code at_ w1 e w') (F : Fr [br] w w1) : StopB br code at_ w e w' := by
  obtain ⟨F2, b, h1, h2, h3⟩ := h
  exact ⟨F.trans F2 (by simp), b, h1, Nat.le_trans F.size h2, h3⟩
theorem StopB.pre {code at_ br : Nat} {w w1 : World} {e : Ending} {w' : World} (h : StopB br code at_ w1 e w') (F : Fr [br] w w1) : StopB br code at_ w e w' := by
  obtain ⟨F2, b, h1, h2, h3⟩ := h
  exact ⟨F.trans F2 (by simp), b, h1, Nat.le_trans F.size h2, h3⟩
def TreePost (br g d : Nat) (r : Res Tree) (w : World) (e : Ending) (w' : World) : Prop :=
  match r with
  | .ok t l1 => ∃ cs, e = .returned (.agg cs.toArray) ∧ Fr [br] w w' ∧ NodeAt w' (fun b => w.heap.size ≤ b) t cs ∧ Rdr w' br g l1 d
  | .stop c a => StopB br c a w e w'
  | .out => False
def nodeZ : Value := .agg #[.int .i64 0, .string ⟨#[]⟩, .int .u64 0, .int .u64 0, .int .u64 0, .int .u64 0, .slice none 0 0, .int .i64 0]
def OptPost (br g d : Nat) (r : Res (Option Tree)) (w : World) (e : Ending) (w' : World) : Prop :=
  match r with
  | .ok (some t) l1 => ∃ cs, e = .returned (.tuple #[.agg cs.toArray, .bool true]) ∧ Fr [br] w w' ∧ NodeAt w' (fun b => w.heap.size ≤ b) t cs ∧ Rdr w' br g l1 d
  | .ok none l1 => e = .returned (.tuple #[nodeZ, .bool false]) ∧ Fr [br] w w' ∧ Rdr w' br g l1 d
  | .stop c a => StopB br c a w e w'
  | .out => False
def ChoiceOK (f : Nat) : Prop := ∀ (br g : Nat) (l : List Tok) (d : Nat) (w : World) (r : Res Tree), Rdr w br g l d → Ends l → l.length ≤ 100000 → d ≤ 24 → choiceP f d l = r → r ≠ .out →
  Calls Tryd.prog 25 #[.pointer (some ⟨br, 0, none⟩)] w (TreePost br g d r w)
def RowOK (f : Nat) : Prop := ∀ (br g : Nat) (l : List Tok) (d : Nat) (w : World) (r : Res Tree), Rdr w br g l d → Ends l → l.length ≤ 100000 → d ≤ 24 → rowP f d l = r → r ≠ .out →
  Calls Tryd.prog 43 #[.pointer (some ⟨br, 0, none⟩)] w (TreePost br g d r w)
def WithinOK (f : Nat) : Prop := ∀ (br g : Nat) (l : List Tok) (d : Nat) (w : World) (r : Res Tree), Rdr w br g l d → Ends l → l.length ≤ 100000 → d ≤ 24 → (hd l).kind ≠ 6 → withinP f d l = r → r ≠ .out →
  Calls Tryd.prog 105 #[.pointer (some ⟨br, 0, none⟩)] w (TreePost br g d r w)
def OneOK (f : Nat) : Prop := ∀ (br g : Nat) (l : List Tok) (d : Nat) (w : World) (r : Res (Option Tree)), Rdr w br g l d → Ends l → l.length ≤ 100000 → d ≤ 24 → oneP f d l = r → r ≠ .out →
  Calls Tryd.prog 93 #[.pointer (some ⟨br, 0, none⟩)] w (OptPost br g d r w)

theorem Rdr.deep {w : World} {br g : Nat} {l : List Tok} {d : Nat} (h : Rdr w br g l d) : w.cell? ⟨br, 1, none⟩ = some (.int .i64 d) ∧ w.frozen? ⟨br, 1, none⟩ = false := by
  obtain ⟨o, cap, h1, _⟩ := h
  exact ⟨h1.cell 1 rfl, h1.free 1⟩
theorem Rdr.setDeep {w : World} {br g : Nat} {l : List Tok} {d : Nat} (h : Rdr w br g l d) (d' : Nat) : ∃ w1, w.setCell ⟨br, 1, none⟩ (.int .i64 d') = w1 ∧ Fr [br] w w1 ∧ Rdr w1 br g l d' ∧ Hid (w1.heap.size = w.heap.size) := by
  obtain ⟨o, cap, h⟩ := h
  have hne := h.ne
  obtain ⟨h1, h2, h3, cur, h4, h5⟩ := h
  obtain ⟨w1, e, F, B, S⟩ := set_new h1 1 (.int .i64 d')
  exact ⟨w1, e, F, ⟨o, cap, B, h2, h3, cur, (F.block g (Array.getElem?_eq_some_iff.1 h4).1 (by simpa using hne)).trans h4, h5⟩, S⟩

set_option maxHeartbeats 8000000 in
set_option maxRecDepth 100000 in
theorem within_step (f : Nat) (hC : ChoiceOK f) : WithinOK (f + 1) := by
  intro br g l d w r H hl hlen hd24 hk hr hne
  obtain ⟨hbr, hg⟩ := H.lt
  simp only [withinP] at hr
  go_enter Tryd.func105, Tryd.ntmps105
  go_upto_region 1 with fail
  obtain ⟨w1, b1, e1, e2, F1, B1, S1⟩ := alloc_new w #[.int .i64 0, .string ⟨#[]⟩, .int .u64 0, .int .u64 0, .int .u64 0, .int .u64 0, .slice none 0 0, .int .i64 0] 43
  rw [e1, e2.out]
  clear e1
  have H1 := H.fr0 F1
  have FB := F1.mono (T := [br]) (by simp)
  obtain ⟨r1, rf⟩ := H1.deep
  by_cases h24 : d = 24
  · have hb : ((d : Int) == 24) = true := by rw [h24]; rfl
    rw [if_pos h24] at hr
    have CS := Lib.hid (stop_any br g l d 2 2 rfl w1 H1 hl)
    have HR := Lib.hid hr
    clear hr h24
    go_wp2_with fail
    with_reducible refine CS.out.mono ?_
    rintro e w2 HS
    obtain ⟨F2, b, rfl, h2, h3⟩ := HS.toB FB
    go_wp2_with fail
    rw [← HR.out]
    exact ⟨rfl, F2, b, rfl, h2, h3⟩
  · have hb : ((d : Int) == 24) = false := by rw [beq_eq_false_iff_ne]; omega
    have hd2 : d + 1 ≤ 24 := by omega
    rw [if_neg h24] at hr
    have HR := Lib.hid hr
    clear hr h24
    go_upto_region 4 with fail
    obtain ⟨w2, e3, F2, H2, S2⟩ := H1.setDeep (d + 1)
    have e3' : w1.setCell ⟨br, 1, none⟩ (.int .i64 ((d : Int) + 1)) = w2 := by simpa using e3
    rw [e3']
    clear e3 e3' r1 rf
    have B2 := B1.fr F2 (by have := e2.out; simp; omega)
    have hb1 : b1 ≠ br := by have := e2.out; omega
    have hb1g : b1 ≠ g := by have := e2.out; omega
    have hb1w : w.heap.size ≤ b1 := by have := e2.out; omega
    have CN := Lib.hid (snext_any br g l (d + 1) w2 H2 hl hk)
    have hlt := hl.tail hk
    have hlt2 : l.tail.length ≤ 100000 := by have := hl.tail_lt; omega
    go_wp2_with fail
    with_reducible refine CN.out.mono ?_
    rintro e w3 ⟨rfl, F3, H3⟩
    clear CN
    have B3 := B2.fr F3 (by simpa using hb1)
    have FB3 := (FB.trans F2 (by simp)).trans F3 (by simp)
    clear H1 H2 B1 B2 F1 F2 F3 FB
    have hC2 := hC br g l.tail (d + 1) w3
    obtain ⟨r2, hr2⟩ : ∃ r2, choiceP f (d + 1) l.tail = r2 := ⟨_, rfl⟩
    have HR2 := HR.out
    rw [hr2] at HR2
    have hne2 : r2 ≠ .out := by rintro rfl; exact hne HR2.symm
    have CC := Lib.hid (hC2 r2 H3 hlt hlt2 hd2 hr2 hne2)
    have HG : Hid (∀ t l1, r2 = .ok t l1 → Ends l1 ∧ l1.length ≤ l.tail.length) := Lib.hid (fun t l1 e => (good f).choice _ _ _ _ hlt (hr2.trans e))
    have HRR := Lib.hid HR2
    clear HR HR2 hr2 hC2 hne2 hC
    go_wp2_with fail
    with_reducible refine CC.out.mono ?_
    rintro e w4 h4
    clear CC H3
    match r2, HG, HRR, h4 with
    | .stop c a, HG, HRR, h4 =>
      obtain ⟨F2, b, rfl, h2, h3⟩ := StopB.pre h4 FB3
      go_wp2_with fail
      rw [← HRR.out]
      exact ⟨rfl, F2, b, rfl, h2, h3⟩
    | .ok t l1, HG, HRR, ⟨cs, he, F4, N4, H4⟩ =>
      subst he
      obtain ⟨hl1, hll⟩ := HG.out _ _ rfl
      obtain ⟨sp, sn, sc, rfl⟩ := N4.shape
      have B4 := B3.fr F4 (by simpa using hb1)
      have FB4 := FB3.trans F4 (by simp)
      have N4' := NodeAt.mono (ok' := fun b => w.heap.size ≤ b ∧ b ≠ b1 ∧ b ≠ br) (fun b hb => by
        have h9 := FB3.size
        have h8 := B3.lt
        refine ⟨by omega, by omega, ?_⟩
        have := hbr
        omega) _ _ N4
      clear FB3 F4 N4 B3 HG
      go_upto_region 6 with fail
      clear h4
      obtain ⟨w5, b5, e5, e6, F5, B5, S5⟩ := alloc_new w4 #[.int .i64 t.kind, .string ⟨t.text.toArray⟩, .int .u64 t.cls.a, .int .u64 t.cls.b, .int .u64 t.cls.c, .int .u64 t.cls.d, .slice sp sn sc, .int .i64 t.at_] 43
      rw [e5, e6.out]
      clear e5
      have H5 := H4.fr0 F5
      have N5 := N4'.fr F5 (by simp)
      have B4' := B4.fr F5 (by simp)
      have FB5 := FB4.trans F5 (by simp)
      have hb51 : b5 ≠ b1 := by have := e6.out; have := B4.lt; omega
      have hb5r : b5 ≠ br := by have := e6.out; have := H4.lt.1; omega
      have hb5g : b5 ≠ g := by have := e6.out; have := H4.lt.2; omega
      have hb5w : w.heap.size ≤ b5 := by have := e6.out; have := FB4.size; omega
      clear H4 N4' B4 FB4 F5
      have CG := Lib.hid (ssign_any br g l1 (d + 1) w5 H5 hl1)
      go_wp2_with fail
      with_reducible refine CG.out.mono ?_
      rintro e w' ⟨rfl, rfl⟩
      by_cases hs : signOf l1 = [41]
      · have hb3 : (signOf l1 == [41]) = true := by simpa using hs
        have hk1 := kind_ne (sign_kind hs) (by decide : 5 ≠ 6)
        have HR1 := HRR.out
        rw [if_pos hs] at HR1
        have HRF := Lib.hid HR1
        have CX := Lib.hid (snext_any br g l1 (d + 1) w5 H5 hl1 hk1)
        clear hs HR1 HRR H5 CG
        go_wp2_with fail
        with_reducible refine CX.out.mono ?_
        rintro e w6 ⟨rfl, F6, H6⟩
        clear CX
        have N6 := N5.fr F6 (by simp)
        have B6 := B4'.fr F6 (by simpa using hb1)
        have B7 := B5.fr F6 (by simpa using hb5r)
        have FB6 := FB5.trans F6 (by simp)
        clear N5 B4' B5 FB5 F6
        obtain ⟨r1, rf⟩ := H6.deep
        go_upto_region 10 with fail
        obtain ⟨w7, e7, F7, H7, S7⟩ := H6.setDeep d
        rw [e7]
        clear e7 r1 rf
        have N7 := N6.fr F7 (by simp)
        have B8 := B6.fr F7 (by simpa using hb1)
        have B9 := B7.fr F7 (by simpa using hb5r)
        have FB7 := FB6.trans F7 (by simp)
        clear H6 N6 B6 B7 FB6 F7
        obtain ⟨c0, c1, c2, c3, c4, c5, c6, c7⟩ := B9.c8
        obtain ⟨z0, z1, z2, z3, z4, z5, z6, z7⟩ := B8.c8
        have f0 := B8.free
        go_wp2_with fail
        clear c0 c1 c2 c3 c4 c5 c6 c7 z0 z1 z2 z3 z4 z5 z6 z7 f0
        change bodyPost _ _ _ _ _ (put w7 b1 0 [.int .i64 t.kind, .string ⟨t.text.toArray⟩, .int .u64 t.cls.a, .int .u64 t.cls.b, .int .u64 t.cls.c, .int .u64 t.cls.d, .slice sp sn sc, .int .i64 t.at_])
        obtain ⟨w8, e8, F8, B10, S8⟩ := put_new B8 [.int .i64 t.kind, .string ⟨t.text.toArray⟩, .int .u64 t.cls.a, .int .u64 t.cls.b, .int .u64 t.cls.c, .int .u64 t.cls.d, .slice sp sn sc, .int .i64 t.at_] rfl
        rw [e8]
        obtain ⟨k0, k1, k2, k3, k4, k5, k6, k7⟩ := B10.c8
        have FB8 := FB7.trans F8 (by simp; omega)
        have N8 := N7.fr F8 (by simp)
        have H8 := H7.fr F8 (by simpa using Ne.symm hb1) (by simpa using Ne.symm hb1g)
        refine bodyPost_ret (v := .agg [.int .i64 t.kind, .string ⟨t.text.toArray⟩, .int .u64 t.cls.a, .int .u64 t.cls.b, .int .u64 t.cls.c, .int .u64 t.cls.d, .slice sp sn sc, .int .i64 t.at_].toArray) (by simp [results, Tryd.results105, go_sem, k0, k1, k2, k3, k4, k5, k6, k7]) rfl ?_
        rw [← HRF.out]
        exact ⟨_, rfl, FB8, NodeAt.mono (fun b hb => hb.1) _ _ N8, H8⟩
      · have hb3 : (signOf l1 == [41]) = false := by simpa using hs
        have HR1 := HRR.out
        rw [if_neg hs, wrongAt_eq] at HR1
        have HRF := Lib.hid HR1
        have CX := Lib.hid (swrong_any br g l1 (d + 1) w5 H5 hl1)
        clear hs HR1 HRR H5 CG
        go_wp2_with fail
        with_reducible refine CX.out.mono ?_
        rintro e w6 HS
        obtain ⟨F2, b, rfl, h2, h3⟩ := HS.toB FB5
        go_wp2_with fail
        rw [← HRF.out]
        exact ⟨rfl, F2, b, rfl, h2, h3⟩
end Go.Proofs.YtglknnncpaggpaaDoor
