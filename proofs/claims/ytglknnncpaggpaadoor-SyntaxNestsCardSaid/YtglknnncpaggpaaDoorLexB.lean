/- The cutter: fault, wrong, add. -/
import Derived.Test.YtglknnncpaggpaaDoorLexA
import Derived.Deep.AppendLies
namespace Go.Proofs.YtglknnncpaggpaaDoor
open Go.RowKit

def Tok.cells (t : Tok) : List Value := [.int .i64 t.kind, .string ⟨t.text.toArray⟩, .int .u64 t.cls.a, .int .u64 t.cls.b, .int .u64 t.cls.c, .int .u64 t.cls.d, .int .i64 t.at_]
def flat (ts : List Tok) : List Value := ts.flatMap Tok.cells
theorem flat_length (ts : List Tok) : (flat ts).length = ts.length * 7 := by
  induction ts with
  | nil => rfl
  | cons t ts ih => simp [flat, Tok.cells] at ih ⊢; omega
theorem flat_snoc (ts : List Tok) (t : Tok) : flat (ts ++ [t]) = flat ts ++ t.cells := by simp [flat]

/-- The cutter: the text s, at a place, the tokens so far. All of it lies from block B on. -/
def Ct (B bc : Nat) (s : ByteArray) (p : Nat) (ts : List Tok) (w : World) : Prop :=
  B ≤ bc ∧ B ≤ w.heap.size ∧ ∃ lv, Blk w bc #[.string s, .int .i64 p, lv] 93 ∧ w.ownsRow B 40 7 lv ts.length (flat ts)
theorem Ct.below {B bc : Nat} {s : ByteArray} {p : Nat} {ts : List Tok} {w w' : World} (h : Ct B bc s p ts w) (hb : Below w.heap.size w w') : Ct B bc s p ts w' := by
  obtain ⟨h1, h2, lv, hk, ho⟩ := h
  refine ⟨h1, Nat.le_trans h2 hb.size, lv, (hb.block bc hk.lt).trans hk, ho.1, ?_⟩
  rcases ho.2 with h3 | ⟨g, cap, cur, hv, hg, hh, r⟩
  · exact .inl h3
  · exact .inr ⟨g, cap, cur, hv, hg, (hb.block g (Array.getElem?_eq_some_iff.1 hh).1).trans hh, r⟩
theorem Ct.fr {B bc : Nat} {s : ByteArray} {p : Nat} {ts : List Tok} {w w' : World} (h : Ct B bc s p ts w) (hf : Fr [] w w') : Ct B bc s p ts w' := h.below hf.below
theorem Ct.cells {B bc : Nat} {s : ByteArray} {p : Nat} {ts : List Tok} {w : World} (h : Ct B bc s p ts w) :
    w.cell? ⟨bc, 0, none⟩ = some (.string s) ∧ w.cell? ⟨bc, 1, none⟩ = some (.int .i64 p) ∧ w.frozen? ⟨bc, 1, none⟩ = false := by
  obtain ⟨_, _, lv, hk, _⟩ := h
  exact ⟨Blk.cell hk 0 rfl, Blk.cell hk 1 rfl, Blk.free hk 1⟩
theorem Ct.drewN {B bc : Nat} {s : ByteArray} {p : Nat} {ts : List Tok} {w : World} (h : Ct B bc s p ts w) (n : Nat) : Ct B bc s p ts (w.drewN n) := h
/-- The place is moved. -/
theorem Ct.move {B bc : Nat} {s : ByteArray} {p : Nat} {ts : List Tok} {w : World} (h : Ct B bc s p ts w) (q : Nat) : Ct B bc s q ts (w.setCell ⟨bc, 1, none⟩ (.int .i64 q)) ∧ Below B w (w.setCell ⟨bc, 1, none⟩ (.int .i64 q)) := by
  obtain ⟨h1, h2, lv, hk, ho⟩ := h
  refine ⟨⟨h1, by simpa [World.setCell] using h2, lv, Blk.set hk 1 _, ?_⟩, (Below.refl B w).setCell (p := ⟨bc, 1, none⟩) h1 _⟩
  refine ⟨ho.1, ?_⟩
  rcases ho.2 with h3 | ⟨g, cap, cur, hv, hg, hh, r⟩
  · exact .inl h3
  · refine .inr ⟨g, cap, cur, hv, hg, ?_, r⟩
    have hne : g ≠ bc := by
      intro e
      rw [e] at hh
      have h' : w.heap[bc]? = some (.cells #[.string s, .int .i64 p, lv] 93 (0, 0)) := hk
      rw [h'] at hh
      injection hh with hh
      injection hh with _ hh _
      cases hh
    rw [Below.heap_setCell _ _ _ _ (by exact hne)]
    exact hh
theorem World.size_setCell' (w : World) (a : Addr) (v : Value) : (w.setCell a v).heap.size = w.heap.size := by simp [World.setCell]

def FaultPost (w : World) (code at_ : Int) (e : Ending) (w' : World) : Prop := ∃ v, e = .returned v ∧ FaultAt w.heap.size w' v code at_ ∧ Fr [] w w'
set_option maxHeartbeats 400000 in
theorem fault_any (code at_ : Int) (w : World) : Calls Tryd.prog 37 #[.int .i64 code, .int .i64 at_] w (FaultPost w code at_) := by
  go_enter Tryd.func37, Tryd.ntmps37
  go_wp2
  go_ret
  exact ⟨_, rfl, ⟨w.heap.size, rfl, Nat.le_refl _, Blk.new _ _ _⟩, (Fr.refl [] w).alloc _⟩

set_option maxHeartbeats 400000 in
theorem cwrong_any (B bc : Nat) (s : ByteArray) (p : Nat) (ts : List Tok) (q : Nat) (w : World) (H : Ct B bc s p ts w) (hq : q ≤ s.size) :
    Calls Tryd.prog 90 #[.pointer (some ⟨bc, 0, none⟩), .int .i64 q] w (FaultPost w (codeAt s q) q) := by
  obtain ⟨h0, _, _⟩ := H.cells
  by_cases hlt : q < s.size
  · rw [codeAt, if_pos hlt]
    go_enter Tryd.func90, Tryd.ntmps90
    go_wp2_with (go_at_call 37; refine (fault_any 4 q w).mono ?_; rintro e w' ⟨v, rfl, hF, hfr⟩)
    go_ret
    exact ⟨v, rfl, hF, hfr⟩
  · obtain rfl : q = s.size := by omega
    rw [codeAt, if_neg hlt]
    go_enter Tryd.func90, Tryd.ntmps90
    go_wp2_with (go_at_call 37; refine (fault_any 3 s.size w).mono ?_; rintro e w' ⟨v, rfl, hF, hfr⟩)
    go_ret
    exact ⟨v, rfl, hF, hfr⟩

theorem Tryd.info_tok : (Tryd.prog.info? 40).map (fun i => (i.zero, i.size, i.bytes)) = some (some (.agg #[.int .i64 0, .string ⟨#[]⟩, .int .u64 0, .int .u64 0, .int .u64 0, .int .u64 0, .int .i64 0]), 7, 64) := by kernel_rfl
def AddPost (B bc : Nat) (s : ByteArray) (q : Nat) (ts : List Tok) (w : World) (e : Ending) (w' : World) : Prop := e = .returned (.tuple #[]) ∧ Ct B bc s q ts w' ∧ Below B w w'
set_option maxHeartbeats 4000000 in
theorem add_any (B bc : Nat) (s : ByteArray) (p : Nat) (ts : List Tok) (q : Nat) (kind : Nat) (text : List UInt8) (cls : Cls) (w : World) (H : Ct B bc s p ts w) (hn : ts.length ≤ 1000000) :
    Calls Tryd.prog 40 #[.pointer (some ⟨bc, 0, none⟩), .agg #[.int .i64 kind, .string ⟨text.toArray⟩, .int .u64 cls.a, .int .u64 cls.b, .int .u64 cls.c, .int .u64 cls.d, .int .i64 0], .int .i64 q] w
      (AddPost B bc s q (ts ++ [⟨kind, text, cls, p⟩]) w) := by
  obtain ⟨i0, hi, hz0, hz1, hz2⟩ := info_parts Tryd.info_tok
  obtain ⟨hB, hBw, lv, hk, hown⟩ := H
  have h1 : w.cell? ⟨bc, 1, none⟩ = some (.int .i64 p) := Blk.cell hk 1 rfl
  have h1' : ∀ o, (w.alloc o).cell? ⟨bc, 1, none⟩ = some (.int .i64 p) := fun o => Blk.cell (hk.alloc o) 1 rfl
  go_enter Tryd.func40, Tryd.ntmps40
  go_wp2_with fail
  have F1 := (Below.refl B w).alloc hBw (.cells #[.int .i64 kind, .string ⟨text.toArray⟩, .int .u64 cls.a, .int .u64 cls.b, .int .u64 cls.c, .int .u64 cls.d, .int .i64 p] 40)
  have BT := Blk.new w #[.int .i64 kind, .string ⟨text.toArray⟩, .int .u64 cls.a, .int .u64 cls.b, .int .u64 cls.c, .int .u64 cls.d, .int .i64 p] 40
  have hk1 := hk.alloc (.cells #[.int .i64 kind, .string ⟨text.toArray⟩, .int .u64 cls.a, .int .u64 cls.b, .int .u64 cls.c, .int .u64 cls.d, .int .i64 p] 40)
  have hown1 := hown.alloc (.cells #[.int .i64 kind, .string ⟨text.toArray⟩, .int .u64 cls.a, .int .u64 cls.b, .int .u64 cls.c, .int .u64 cls.d, .int .i64 p] 40)
  have hbt := hk.lt
  obtain ⟨bt, ebt⟩ : ∃ b, b = w.heap.size := ⟨_, rfl⟩
  rw [← ebt] at BT hbt ⊢
  have hBt : B ≤ bt := by omega
  have hbne : bc ≠ bt := by omega
  have hnown : lv.ownBlock ≠ some bt := fun e => by
    have := (hown.lt bt e).2
    omega
  have hncut : lv.ownBlock ≠ some bc := fun e => by
    rcases hown.2 with ⟨h0, _⟩ | ⟨g', cap', cur, hv, _, hh, _⟩
    · rw [h0] at e; simp [Value.ownBlock] at e
    · rw [hv] at e
      simp only [Value.ownBlock, Option.some.injEq] at e
      subst e
      have h' : w.heap[g']? = some (.cells #[.string s, .int .i64 p, lv] 93 (0, 0)) := hk
      rw [h'] at hh
      injection hh with hh
      injection hh with _ hh _
      cases hh
  clear h1 h1' hk hown
  generalize w.alloc (.cells #[.int .i64 kind, .string ⟨text.toArray⟩, .int .u64 cls.a, .int .u64 cls.b, .int .u64 cls.c, .int .u64 cls.d, .int .i64 p] 40) = w1 at *
  clear ebt
  have hbt1 := BT.lt
  have hbc1 := hk1.lt
  have c2 : w1.cell? ⟨bc, 2, none⟩ = some lv := Blk.cell hk1 2 rfl
  have cf : w1.frozen? ⟨bc, 2, none⟩ = false := Blk.free hk1 2
  have t0 : w1.cell? ⟨bt, 0, none⟩ = some (.int .i64 kind) := Blk.cell BT 0 rfl
  have t1 : w1.cell? ⟨bt, 1, none⟩ = some (.string ⟨text.toArray⟩) := Blk.cell BT 1 rfl
  have t2 : w1.cell? ⟨bt, 2, none⟩ = some (.int .u64 cls.a) := Blk.cell BT 2 rfl
  have t3 : w1.cell? ⟨bt, 3, none⟩ = some (.int .u64 cls.b) := Blk.cell BT 3 rfl
  have t4 : w1.cell? ⟨bt, 4, none⟩ = some (.int .u64 cls.c) := Blk.cell BT 4 rfl
  have t5 : w1.cell? ⟨bt, 5, none⟩ = some (.int .u64 cls.d) := Blk.cell BT 5 rfl
  have t6 : w1.cell? ⟨bt, 6, none⟩ = some (.int .i64 p) := Blk.cell BT 6 rfl
  have cfa : ∀ o, (w1.alloc o).frozen? ⟨bc, 2, none⟩ = false := fun o => Blk.free (hk1.alloc o) 2
  go_region_law
    ((refine step_append_lies _ (by rfl) _ _ _ (by rfl) B 40 i0 _ 7 64 Tryd.underlying32 hi hz0 hz1 hz2 rfl (by omega) lv ts.length (flat ts) (by rfl) ((hown1.alloc _).drew)
        ⟨w1.heap.size, 0, none⟩ 1 1 [.int .i64 kind, .string ⟨text.toArray⟩, .int .u64 cls.a, .int .u64 cls.b, .int .u64 cls.c, .int .u64 cls.d, .int .i64 p] (by rfl) (by rfl) (World.news_of_block (cs := #[.int .i64 kind, .string ⟨text.toArray⟩, .int .u64 cls.a, .int .u64 cls.b, .int .u64 cls.c, .int .u64 cls.d, .int .i64 p]) (t := 40) (fr := (0, 0)) (heap_alloc_new w1 _)) (by simp [Value.oneCell'])
        (by omega) (by unfold maxLen; omega) (by omega) (by simp; have := F1.size; omega) (w1.heap.size + 1) (by simp) ?_; intro gg cap w2 hown2 hgrow hat hlt
      have hk2 : Blk w2 bc #[.string s, .int .i64 p, lv] 93 := (hgrow.block bc (by simp; omega) (fun e => hncut e.symm)).trans (hk1.alloc (.cells #[.int .i64 kind, .string ⟨text.toArray⟩, .int .u64 cls.a, .int .u64 cls.b, .int .u64 cls.c, .int .u64 cls.d, .int .i64 p] 40))
      have d2 : w2.cell? ⟨bc, 2, none⟩ = some lv := Blk.cell hk2 2 rfl
      have f2 : w2.frozen? ⟨bc, 2, none⟩ = false := Blk.free hk2 2))
  all_goals
    have hk3 := Blk.set hk2 2 (.slice (some ⟨gg, 0, none⟩) (ts.length + 1) cap)
    have F2 : Below B w (w2.setCell ⟨bc, 2, none⟩ (.slice (some ⟨gg, 0, none⟩) (ts.length + 1) cap)) := by
      refine Below.setCell (p := ⟨bc, 2, none⟩) ?_ hB _
      exact (((F1.alloc (by have := F1.size; omega) (.cells #[.int .i64 kind, .string ⟨text.toArray⟩, .int .u64 cls.a, .int .u64 cls.b, .int .u64 cls.c, .int .u64 cls.d, .int .i64 p] 40)).drew).grown hgrow (by simp; have := F1.size; omega) (fun k hk => (hown1.lt k hk).1))
    have hne3 : (Value.slice (some ⟨gg, 0, none⟩) (ts.length + 1) cap).ownBlock ≠ some bc := by
      intro e
      simp only [Value.ownBlock, Option.some.injEq] at e
      subst e
      rcases hat with h | h
      · exact hncut h
      · omega
    have hown3 : (w2.setCell ⟨bc, 2, none⟩ (.slice (some ⟨gg, 0, none⟩) (ts.length + 1) cap)).ownsRow B 40 7 (.slice (some ⟨gg, 0, none⟩) (ts.length + 1) cap) (ts.length + 1) (flat ts ++ [.int .i64 kind, .string ⟨text.toArray⟩, .int .u64 cls.a, .int .u64 cls.b, .int .u64 cls.c, .int .u64 cls.d, .int .i64 p]) :=
      hown2.kept (row := some bc) ⟨rfl, rfl, rfl, by simp [World.setCell], fun k _ hk => Below.heap_setCell _ _ _ _ (fun e => hk (by simp [e]))⟩ (Or.inr hne3)
    clear hown2 hgrow hk2 d2 f2
    generalize w2.setCell ⟨bc, 2, none⟩ (.slice (some ⟨gg, 0, none⟩) (ts.length + 1) cap) = w3 at *
    have e1 : w3.cell? ⟨bc, 1, none⟩ = some (.int .i64 p) := Blk.cell hk3 1 rfl
    have ef : w3.frozen? ⟨bc, 1, none⟩ = false := Blk.free hk3 1
    go_wp2_with fail
    go_end0
    have F3 := F2.setCell (p := ⟨bc, 1, none⟩) hB (.int .i64 (q : Int))
    refine ⟨rfl, ⟨hB, ?_, _, Blk.set hk3 1 _, ?_⟩, F3⟩
    · have := F3.size; omega
    · rw [List.length_append, flat_snoc]
      exact hown3.kept (row := some bc) ⟨rfl, rfl, rfl, by simp [World.setCell], fun k _ hk => Below.heap_setCell _ _ _ _ (fun e => hk (by simp [e]))⟩ (Or.inr hne3)
end Go.Proofs.YtglknnncpaggpaaDoor
