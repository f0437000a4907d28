/- The reader: choice; all functions of the reader, by induction on the fuel. -/
import Derived.Test.YtglknnncpaggpaaDoorSynG
namespace Go.Proofs.YtglknnncpaggpaaDoor
open Go.RowKit

/-- A slice value that holds a row of trees which grows. -/
def GrowV (w : World) (B : Nat) (lv : Value) (acc : List Tree) : Prop :=
  ∃ xs, w.ownsRow B 43 8 lv acc.length xs ∧ RowAt w (fun b => B ≤ b ∧ lv.ownBlock ≠ some b) acc xs
theorem GrowV.fr {S : List Nat} {w w' : World} {B : Nat} {lv : Value} {acc : List Tree} (h : GrowV w B lv acc) (hf : Fr S w w') (hS : ∀ b ∈ S, b < B) : GrowV w' B lv acc := by
  obtain ⟨xs, h2, h3⟩ := h
  exact ⟨xs, ownsRow.fr h2 hf hS, h3.fr hf (fun b hb h => by have := hS b hb; omega)⟩
theorem growV_one {w : World} {B : Nat} {n : Tree} {cs : List Value} (N : NodeAt w (fun b => B ≤ b) n cs) (hB : B ≤ w.heap.size) :
    GrowV (w.alloc (.cells cs.toArray 43)) B (.slice (some ⟨w.heap.size, 0, none⟩) 1 1) [n] := by
  refine ⟨cs, ⟨by rw [N.len]; rfl, .inr ⟨_, 1, cs.toArray, rfl, hB, Blk.new _ _ _, Nat.le_refl _, by unfold maxLen; omega, by simp [N.len], by simp [List.take_of_length_le, N.len]⟩⟩, ?_⟩
  unfold RowAt
  rw [List.take_of_length_le (by rw [N.len]; exact Nat.le_refl _)]
  refine ⟨?_, by unfold RowAt; trivial⟩
  have N2 := NodeAt.mono (ok' := fun b => B ≤ b ∧ (Value.slice (some ⟨w.heap.size, 0, none⟩) 1 1).ownBlock ≠ some b) (fun b hb => ⟨hb.1, fun e => by
    have : w.heap.size = b := by simpa [Value.ownBlock] using e
    omega⟩) _ _ (NodeAt.lt _ _ N)
  exact N2.fr ((Fr.refl [] w).alloc _) (by simp)
/-- A tree appended to a slice value: what append leaves. -/
theorem growV_done {wc w2 : World} {B M gg cap n : Nat} {acc : List Tree} {lv : Value} {xs cs : List Value} {n2 : Tree} {o : Obj} (hn : acc.length = n) (hBM : B ≤ M)
    (hownM : ∀ k, lv.ownBlock = some k → B ≤ k ∧ k < M)
    (GR : RowAt wc (fun b => B ≤ b ∧ lv.ownBlock ≠ some b) acc xs) (hxs : xs.length = n * 8) (N6 : NodeAt wc (fun b => M ≤ b) n2 cs)
    (hown2 : w2.ownsRow B 43 8 (.slice (some ⟨gg, 0, none⟩) (n + 1) cap) (n + 1) (xs ++ cs))
    (hgrow : (wc.alloc o).grownBy w2 lv.ownBlock) (hat : lv.ownBlock = some gg ∨ gg = wc.heap.size + 1) :
    FrB B [] wc w2 ∧ GrowV w2 B (.slice (some ⟨gg, 0, none⟩) (n + 1) cap) (acc ++ [n2]) := by
  subst hn
  have hsz : wc.heap.size + 1 ≤ w2.heap.size := by have := hgrow.size; simpa using this
  have hb : ∀ b, b < wc.heap.size → lv.ownBlock ≠ some b → b ≠ gg ∧ w2.heap[b]? = wc.heap[b]? := by
    intro b h1 h3
    refine ⟨?_, (hgrow.block b (by simp; omega) (fun e => h3 e.symm)).trans (Below.heap_alloc wc o b h1)⟩
    rcases hat with h | h
    · rintro rfl; exact h3 h
    · omega
  have ho : ∀ b, M ≤ b → lv.ownBlock ≠ some b := fun b h e => by have := (hownM b e).2; omega
  refine ⟨⟨hgrow.os, hgrow.tape, hgrow.output, by omega, fun k hk hk2 _ => (hb k hk2 (fun e => by have := (hownM k e).1; omega)).2⟩, xs ++ cs, by rw [List.length_append, List.length_singleton]; exact hown2, ?_⟩
  have ga := RowAt.keep (w' := w2) (fun b hb1 hb2 => (hb b hb2 hb1.1.2).2) _ _ (RowAt.lt _ _ GR)
  have ga' := RowAt.mono (ok' := fun b => B ≤ b ∧ (Value.slice (some ⟨gg, 0, none⟩) (acc.length + 1) cap).ownBlock ≠ some b) (fun b hb1 => ⟨hb1.1.1, fun e => by
    have e' : gg = b := by simpa [Value.ownBlock] using e
    exact (hb b hb1.2 hb1.1.2).1 e'.symm⟩) _ _ ga
  have gn := NodeAt.keep (w' := w2) (fun b hb1 hb2 => (hb b hb2 (ho b hb1.1)).2) _ _ (NodeAt.lt _ _ N6)
  have gn' := NodeAt.mono (ok' := fun b => B ≤ b ∧ (Value.slice (some ⟨gg, 0, none⟩) (acc.length + 1) cap).ownBlock ≠ some b) (fun b hb1 => ⟨by have := hb1.1; omega, fun e => by
    have e' : gg = b := by simpa [Value.ownBlock] using e
    exact (hb b hb1.2 (ho b hb1.1)).1 e'.symm⟩) _ _ gn
  exact RowAt.snoc gn' _ _ hxs ga'

set_option maxHeartbeats 16000000 in
set_option maxRecDepth 100000 in
theorem choice_step (f : Nat) (hP : ∀ k, k ≤ f → RowOK k) : ChoiceOK (f + 1) := by
  intro br g l d w r H hl hlen hd24 hr hne
  obtain ⟨hbr, hg⟩ := H.lt
  simp only [choiceP] at hr
  go_enter Tryd.func25, Tryd.ntmps25
  go_upto_region 1 with fail
  obtain ⟨w1, b1, e1, e2, F1, R1, S1⟩ := alloc_new w #[.int .i64 0, .string ⟨#[]⟩, .int .u64 0, .int .u64 0, .int .u64 0, .int .u64 0, .slice none 0 0, .int .i64 0] 43
  rw [e1, e2.out]
  have H1 := H.fr0 F1
  obtain ⟨B, hB⟩ : ∃ B, w1.heap.size = B := ⟨_, rfl⟩
  have HB := Lib.hid hB
  have h1B : b1 < B := by have := S1.out; omega
  have h1w : w.heap.size ≤ b1 := by have := e2.out; omega
  have h1r : b1 ≠ br := by omega
  have h1g : b1 ≠ g := by omega
  have hbrB : br < B := by omega
  have hgB : g < B := by omega
  have hwB : w.heap.size ≤ B := by omega
  clear e1 H hB
  have CP := hP f (Nat.le_refl _) br g l d w1
  obtain ⟨r2, hr2⟩ : ∃ r2, rowP f d l = r2 := ⟨_, rfl⟩
  rw [hr2] at hr
  have hne2 : r2 ≠ .out := by rintro rfl; exact hne hr.symm
  have CC := Lib.hid (CP r2 H1 hl hlen hd24 hr2 hne2)
  have HGG : Hid (∀ t l1, r2 = .ok t l1 → Ends l1 ∧ l1.length ≤ l.length) := Lib.hid (fun t l1 e => (good f).row _ _ _ _ hl (hr2.trans e))
  have HR := Lib.hid hr
  clear hr hr2 hne2 CP
  go_wp2_with fail
  with_reducible refine CC.out.mono ?_
  rintro e w3 h3
  clear CC H1
  match r2, HGG, HR, h3 with
  | .stop c a, HGG, HR, h3 =>
    obtain ⟨F2, b, rfl, h2, h3⟩ := StopB.pre h3 (F1.mono (T := [br]) (by simp))
    go_wp2_with fail
    rw [← HR.out]
    exact ⟨rfl, F2, b, rfl, h2, h3⟩
  | .ok t l1, HGG, HR, ⟨cs, he, F4, N4, H4⟩ =>
    subst he
    obtain ⟨hl1, hll1⟩ := HGG.out _ _ rfl
    obtain ⟨sp, sn, sc, rfl⟩ := N4.shape
    have FB4 : FrB B [br] w1 w3 := F4.toB B
    rw [HB.out] at N4
    have hB3 : B ≤ w3.heap.size := by have := F4.size; have := HB.out; omega
    have G5 := growV_one N4 hB3
    have FB5 : FrB B [br] w1 _ := FB4.trans ((((Fr.refl [] w3).alloc (.cells [.int .i64 t.kind, .string ⟨t.text.toArray⟩, .int .u64 t.cls.a, .int .u64 t.cls.b, .int .u64 t.cls.c, .int .u64 t.cls.d, .slice sp sn sc, .int .i64 t.at_].toArray 43)).toB' (T := [br]) B (by simp)))
    have H5 := H4.fr0 ((Fr.refl [] w3).alloc (.cells [.int .i64 t.kind, .string ⟨t.text.toArray⟩, .int .u64 t.cls.a, .int .u64 t.cls.b, .int .u64 t.cls.c, .int .u64 t.cls.d, .slice sp sn sc, .int .i64 t.at_].toArray 43))
    clear h3 HGG F4 N4 H4 FB4
    go_upto_region 2 with fail
    change Code.wp _ _ _ _ (w3.alloc (.cells [.int .i64 t.kind, .string ⟨t.text.toArray⟩, .int .u64 t.cls.a, .int .u64 t.cls.b, .int .u64 t.cls.c, .int .u64 t.cls.d, .slice sp sn sc, .int .i64 t.at_].toArray 43))
    obtain ⟨lv0, hlv0⟩ : ∃ lv0, Value.slice (some ⟨w3.heap.size, 0, none⟩) 1 1 = lv0 := ⟨_, rfl⟩
    rw [hlv0] at G5 ⊢
    generalize w3.alloc (.cells [.int .i64 t.kind, .string ⟨t.text.toArray⟩, .int .u64 t.cls.a, .int .u64 t.cls.b, .int .u64 t.cls.c, .int .u64 t.cls.d, .slice sp sn sc, .int .i64 t.at_].toArray 43) = w5 at *
    clear hlv0 hB3
    obtain ⟨i0, hi, hz0, hz1, hz2⟩ := info_parts Tryd.info_node
    go_loopg [3] f (fun k lv wr => k ≤ f ∧ ∃ acc ll, Rdr wr br g ll d ∧ Ends ll ∧ acc.length + ll.length ≤ l.length + 1 ∧ 0 < acc.length ∧ GrowV wr B lv acc ∧ FrB B [br] w1 wr ∧ choiceLoop k d acc ll = r)
    case atStart => exact ⟨Nat.le_refl _, [t], l1, H5, hl1, by simp; omega, by simp, G5, FB5, HR.out⟩
    case round =>
      obtain ⟨hkf, acc, ll, H6, hll, hlen6, hpos, G6, FB6, hr6⟩ := hrel
      clear H5 G5 FB5 HR
      obtain ⟨k, rfl⟩ : ∃ k, gk = k + 1 := by
        cases gk with
        | zero => simp only [choiceLoop] at hr6; exact absurd hr6.symm hne
        | succ k => exact ⟨k, rfl⟩
      have R6 := R1.frB FB6 h1B (by simpa using h1r)
      have FW := FB6.after F1 hwB
      simp only [choiceLoop] at hr6
      have CS := Lib.hid (ssign_any br g ll d wr H6 hll)
      have HR6 := Lib.hid hr6
      clear hr6
      go_wp2_with fail
      with_reducible refine CS.out.mono ?_
      rintro e w' ⟨rfl, rfl⟩
      by_cases h47 : signOf ll = [47]
      · have hb : (signOf ll == [47]) = true := by simpa using h47
        have hr7 := HR6.out
        rw [if_pos h47] at hr7
        have hk6 := kind_ne (sign_kind h47) (by decide : 5 ≠ 6)
        have hlt := hll.tail hk6
        have hlt2 := hll.tail_lt
        have CX := Lib.hid (snext_any br g ll d wr H6 hll hk6)
        have CP := hP k (by omega) br g ll.tail d
        obtain ⟨r2, hr2⟩ : ∃ r2, rowP k d ll.tail = r2 := ⟨_, rfl⟩
        rw [hr2] at hr7
        have hne2 : r2 ≠ .out := by rintro rfl; exact hne hr7.symm
        have CC := Lib.hid (fun w7 H7 => CP w7 r2 H7 hlt (by omega) hd24 hr2 hne2)
        have HGG : Hid (∀ t l1, r2 = .ok t l1 → Ends l1 ∧ l1.length ≤ ll.tail.length) := Lib.hid (fun t l1 e => (good k).row _ _ _ _ hlt (hr2.trans e))
        have HR7 := Lib.hid hr7
        clear CS hr7 hr2 hne2 CP HR6 h47
        go_wp2_with fail
        with_reducible refine CX.out.mono ?_
        rintro e w7 ⟨rfl, F7, H7⟩
        have G7 := G6.fr F7 (by simpa using hbrB)
        have FB7 := FB6.trans (F7.toB B)
        have R7 := R6.fr F7 (by simpa using h1r)
        have FW7 := FW.trans F7 (by simp)
        clear H6 G6 FB6 R6 FW F7 CX
        have CC7 := Lib.hid (CC.out w7 H7)
        clear CC H7
        go_wp2_with fail
        with_reducible refine CC7.out.mono ?_
        rintro e w8 h8
        clear CC7
        match r2, HGG, HR7, h8 with
        | .stop c a, HGG, HR7, h8 =>
          obtain ⟨F2, b, rfl, h2, h3⟩ := StopB.pre h8 FW7
          go_wp2_with fail
          rw [← HR7.out]
          exact ⟨rfl, F2, b, rfl, h2, h3⟩
        | .ok n l4, HGG, HR7, ⟨cs, he, F8, N8, H8⟩ =>
          subst he
          obtain ⟨hl4, hll4⟩ := HGG.out _ _ rfl
          obtain ⟨ep, en, ec, rfl⟩ := N8.shape
          obtain ⟨hownM, hBM⟩ : (∀ k, u3.ownBlock = some k → B ≤ k ∧ k < w7.heap.size) ∧ B ≤ w7.heap.size := by
            obtain ⟨xs, h1, _⟩ := G7
            refine ⟨fun k hk => h1.lt k hk, ?_⟩
            have := FB7.size
            have := HB.out
            omega
          obtain ⟨xs, hown, GR⟩ := G7.fr F8 (by simpa using hbrB)
          have FB8 := FB7.trans (F8.toB B)
          have h78 := F8.size
          clear h8 HGG G7 FB7 R7 FW7 F8
          go_wp2_with (at_builtin; (refine wpList_append_lies _ rfl _ _ _ rfl B 43 i0 _ 8 88 Tryd.underlying41 hi hz0 hz1 hz2 rfl (by omega) u3 acc.length xs rfl (hown.alloc _) ⟨w8.heap.size, 0, none⟩ 1 1 [.int .i64 n.kind, .string ⟨n.text.toArray⟩, .int .u64 n.cls.a, .int .u64 n.cls.b, .int .u64 n.cls.c, .int .u64 n.cls.d, .slice ep en ec, .int .i64 n.at_] rfl rfl (World.news_of_block (cs := #[.int .i64 n.kind, .string ⟨n.text.toArray⟩, .int .u64 n.cls.a, .int .u64 n.cls.b, .int .u64 n.cls.c, .int .u64 n.cls.d, .slice ep en ec, .int .i64 n.at_]) (t := 43) (fr := (0, 0)) (heap_alloc_new w8 _)) (by simp [Value.oneCell']) (by omega) (by unfold maxLen; omega) (by omega) (by simp; omega) (w8.heap.size + 1) (by simp) ?_; intro gg cap w9 hown9 hgrow hat hlt9))
          obtain ⟨FX, GX⟩ := growV_done rfl hBM hownM GR hown.1 N8 hown9 hgrow hat
          have H9 := H8.frB FX hbrB hgB (by simp) (by simp)
          have FB9 := FB8.trans (⟨FX.os, FX.tape, FX.output, FX.size, fun i h1 h2 _ => FX.block i h1 h2 (by simp)⟩ : FrB B [br] w8 w9)
          clear hown9 hgrow hat hlt9 hown GR N8 H8 FB8 FX hownM
          go_wp2_with fail
          go_roundg k
          case measure => omega
          case rel => exact ⟨by omega, acc ++ [n], l4, H9, hl4, by simp; omega, by simp, GX, FB9, HR7.out⟩
      · have hb : (signOf ll == [47]) = false := by simpa using h47
        have hr7 := HR6.out
        rw [if_neg h47] at hr7
        obtain ⟨t1, ts, rfl⟩ : ∃ t1 ts, acc = t1 :: ts := by
          cases acc with
          | nil => simp at hpos
          | cons t1 ts => exact ⟨t1, ts, rfl⟩
        obtain ⟨n, hn⟩ : ∃ n, joinedP 7 (t1 :: ts) = n := ⟨_, rfl⟩
        rw [hn] at hr7
        obtain ⟨xs, hown, GR⟩ := G6
        have CJ := Lib.hid (joined_any 7 7 rfl t1 ts u3 xs (fun b => B ≤ b) wr (Slc.of_owns hown) (RowAt.mono (fun b hb => hb.1) _ _ GR))
        rw [hn] at CJ
        have HR7 := Lib.hid hr7
        clear hr7 HR6 CS h47 hn hown GR
        go_wp2_with fail
        with_reducible refine CJ.out.mono ?_
        rintro e w5 ⟨cs, rfl, F5, N5⟩
        obtain ⟨ep, en, ec, hsh⟩ := N5.shape
        subst hsh
        have R5 := R6.fr F5 (by simp)
        have H5 := H6.fr0 F5
        have FW5 := FW.trans F5 (by simp)
        clear CJ R6 H6 FW F5 FB6
        obtain ⟨z0, z1, z2, z3, z4, z5, z6, z7⟩ := R5.c8
        have zf := R5.free
        go_wp2_with fail
        clear z0 z1 z2 z3 z4 z5 z6 z7 zf
        change bodyPost _ _ _ _ _ (put w5 b1 0 [.int .i64 n.kind, .string ⟨n.text.toArray⟩, .int .u64 n.cls.a, .int .u64 n.cls.b, .int .u64 n.cls.c, .int .u64 n.cls.d, .slice ep en ec, .int .i64 n.at_])
        obtain ⟨w6, e11, F6, R6, S6⟩ := put_new R5 [.int .i64 n.kind, .string ⟨n.text.toArray⟩, .int .u64 n.cls.a, .int .u64 n.cls.b, .int .u64 n.cls.c, .int .u64 n.cls.d, .slice ep en ec, .int .i64 n.at_] rfl
        rw [e11]
        obtain ⟨k0, k1, k2, k3, k4, k5, k6, k7⟩ := R6.c8
        have FB6 := FW5.trans F6 (by simp; omega)
        have H6 := H5.fr F6 (by simpa using Ne.symm h1r) (by simpa using Ne.symm h1g)
        have N6 := N5.fr F6 (by simp; omega)
        refine bodyPost_ret (v := .agg [.int .i64 n.kind, .string ⟨n.text.toArray⟩, .int .u64 n.cls.a, .int .u64 n.cls.b, .int .u64 n.cls.c, .int .u64 n.cls.d, .slice ep en ec, .int .i64 n.at_].toArray) (by simp [results, Tryd.results25, go_sem, k0, k1, k2, k3, k4, k5, k6, k7]) rfl ?_
        rw [← HR7.out]
        exact ⟨_, rfl, FB6, NodeAt.mono (fun b hb => Nat.le_trans hwB hb) _ _ N6, H6⟩

/-- THE READER, whole: by induction on the fuel. -/
structure AllOK (f : Nat) : Prop where
  choice : ChoiceOK f
  row : RowOK f
  part : PartOK f
  one : OneOK f
  within : WithinOK f
theorem allOK (f : Nat) : ∀ k, k ≤ f → AllOK k := by
  induction f with
  | zero =>
    intro k hk
    obtain rfl : k = 0 := by omega
    exact ⟨fun _ _ _ _ _ r _ _ _ _ h hn => absurd h.symm hn, fun _ _ _ _ _ r _ _ _ _ h hn => absurd h.symm hn, fun _ _ _ _ _ r _ _ _ _ _ _ _ _ _ _ _ _ h hn => absurd h.symm hn,
      fun _ _ _ _ _ r _ _ _ _ h hn => absurd h.symm hn, fun _ _ _ _ _ r _ _ _ _ _ h hn => absurd h.symm hn⟩
  | succ f ih =>
    intro k hk
    rcases Nat.lt_or_ge k (f + 1) with h | h
    · exact ih k (by omega)
    · obtain rfl : k = f + 1 := by omega
      exact ⟨choice_step f (fun k hk => (ih k hk).row), row_step f (fun k hk => (ih k hk).part), part_step f (ih f (Nat.le_refl _)).one, one_step f (ih f (Nat.le_refl _)).within, within_step f (ih f (Nat.le_refl _)).choice⟩
theorem choice_ok (f : Nat) : ChoiceOK f := (allOK f f (Nat.le_refl _)).choice
end Go.Proofs.YtglknnncpaggpaaDoor
