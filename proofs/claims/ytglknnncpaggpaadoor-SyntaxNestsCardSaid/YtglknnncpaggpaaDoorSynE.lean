/- The reader: part: rows of trees that grow. -/
import Derived.Test.YtglknnncpaggpaaDoorSynD
import Derived.Deep.AppendLies
import Derived.Deep.CutBlock
namespace Go.Proofs.YtglknnncpaggpaaDoor
open Go.RowKit

/-- The blocks below B but those in S are as they were. -/
structure FrB (B : Nat) (S : List Nat) (w w' : World) : Prop where
  os : w'.os = w.os
  tape : w'.tape = w.tape
  output : w'.output = w.output
  size : w.heap.size ≤ w'.heap.size
  block : ∀ k, k < B → k < w.heap.size → k ∉ S → w'.heap[k]? = w.heap[k]?
theorem Fr.toB {S : List Nat} {w w' : World} (h : Fr S w w') (B : Nat) : FrB B S w w' := ⟨h.os, h.tape, h.output, h.size, fun k _ hk hn => h.block k hk hn⟩
theorem FrB.toFr {B : Nat} {S : List Nat} {w w' : World} (h : FrB B S w w') (hB : w.heap.size ≤ B) : Fr S w w' := ⟨h.os, h.tape, h.output, h.size, fun k hk hn => h.block k (Nat.lt_of_lt_of_le hk hB) hk hn⟩
theorem FrB.trans {B : Nat} {S : List Nat} {a b c : World} (h : FrB B S a b) (k : FrB B S b c) : FrB B S a c :=
  ⟨k.os.trans h.os, k.tape.trans h.tape, k.output.trans h.output, Nat.le_trans h.size k.size, fun i hB hi hn => (k.block i hB (Nat.lt_of_lt_of_le hi h.size) hn).trans (h.block i hB hi hn)⟩
theorem FrB.refl (B : Nat) (S : List Nat) (w : World) : FrB B S w w := (Fr.refl S w).toB B
theorem Fr.toB' {S T : List Nat} {w w' : World} (h : Fr S w w') (B : Nat) (hS : ∀ k ∈ S, k ∈ T ∨ B ≤ k) : FrB B T w w' :=
  ⟨h.os, h.tape, h.output, h.size, fun k hB hk hn => h.block k hk (fun hm => (hS k hm).elim hn (fun h1 => by omega))⟩

/-- A variable at block bl that holds a row of trees which grows. -/
def Grow (w : World) (B bl : Nat) (acc : List Tree) : Prop :=
  ∃ lv xs, Blk w bl #[lv] 41 ∧ w.ownsRow B 43 8 lv acc.length xs ∧ RowAt w (fun b => B ≤ b ∧ b ≠ bl ∧ lv.ownBlock ≠ some b) acc xs ∧ (acc = [] → lv = .slice none 0 0)
theorem ownsRow.fr {S : List Nat} {w w' : World} {B : Nat} {e : TypeId} {size : Nat} {v : Value} {n : Nat} {xs : List Value} (h : w.ownsRow B e size v n xs) (hf : Fr S w w') (hS : ∀ b ∈ S, b < B) : w'.ownsRow B e size v n xs :=
  Slc.fr (ok := fun b => B ≤ b) h hf (fun b hb h1 => by have := hS b hb; omega)
theorem Grow.fr {S : List Nat} {w w' : World} {B bl : Nat} {acc : List Tree} (h : Grow w B bl acc) (hf : Fr S w w') (hS : ∀ b ∈ S, b < B) (hB : B ≤ bl) : Grow w' B bl acc := by
  obtain ⟨lv, xs, h1, h2, h3, h4⟩ := h
  exact ⟨lv, xs, h1.fr hf (fun hm => by have := hS _ hm; omega), ownsRow.fr h2 hf hS, h3.fr hf (fun b hb h => by have := hS b hb; omega), h4⟩

def PartPost (br g d B bl : Nat) (acc : List Tree) (r : Res (Option Tree)) (w : World) (e : Ending) (w' : World) : Prop :=
  match r with
  | .ok (some t) l1 => e = .returned (.bool true) ∧ FrB B [br] w w' ∧ Rdr w' br g l1 d ∧ Grow w' B bl (acc ++ [t])
  | .ok none l1 => e = .returned (.bool false) ∧ Fr [br] w w' ∧ Rdr w' br g l1 d
  | .stop c a => StopB br c a w e w'
  | .out => False
def PartOK (f : Nat) : Prop := ∀ (br g : Nat) (l : List Tok) (d : Nat) (w : World) (r : Res (Option Tree)) (B bl : Nat) (acc : List Tree), Rdr w br g l d → Ends l → l.length ≤ 100000 → d ≤ 24 →
  Grow w B bl acc → B ≤ bl → br < B → g < B → acc.length ≤ 1000000 → partP f d l = r → r ≠ .out →
  Calls Tryd.prog 69 #[.pointer (some ⟨br, 0, none⟩), .pointer (some ⟨bl, 0, none⟩)] w (PartPost br g d B bl acc r w)

/-- A tree is set into another: what is written, and that the other lies there. -/
theorem wrap_new {w : World} {b7 M : Nat} {old : Array Value} {n : Tree} {cs : List Value} (K : Blk w b7 old 43) (ho : old.size = 8) (N : NodeAt w (fun b => M ≤ b ∧ b ≠ b7) n cs) (hM2 : M ≤ w.heap.size) (m p : Nat) :
    ∃ w1, put (w.alloc (.cells cs.toArray 43)) b7 0 [.int .i64 m, .string ⟨#[]⟩, .int .u64 0, .int .u64 0, .int .u64 0, .int .u64 0, .slice (some ⟨w.heap.size, 0, none⟩) 1 1, .int .i64 p] = w1 ∧ Fr [b7] w w1 ∧
      Blk w1 b7 #[.int .i64 m, .string ⟨#[]⟩, .int .u64 0, .int .u64 0, .int .u64 0, .int .u64 0, .slice (some ⟨w.heap.size, 0, none⟩) 1 1, .int .i64 p] 43 ∧
      NodeAt w1 (fun b => M ≤ b ∧ b ≠ b7) (.node m [] cls0 [n] p) [.int .i64 m, .string ⟨#[]⟩, .int .u64 0, .int .u64 0, .int .u64 0, .int .u64 0, .slice (some ⟨w.heap.size, 0, none⟩) 1 1, .int .i64 p] := by
  have hlt := K.lt
  obtain ⟨w1, e, F, B, _⟩ := put_new (K.alloc (.cells cs.toArray 43)) [.int .i64 m, .string ⟨#[]⟩, .int .u64 0, .int .u64 0, .int .u64 0, .int .u64 0, .slice (some ⟨w.heap.size, 0, none⟩) 1 1, .int .i64 p] ho
  have F1 : Fr [b7] w w1 := ((Fr.refl [b7] w).alloc (.cells cs.toArray 43)).trans F (by simp)
  have BG : Blk w1 w.heap.size cs.toArray 43 := (Blk.new w cs.toArray 43).fr F (by simp; omega)
  refine ⟨w1, e, F1, B, ?_⟩
  unfold NodeAt
  refine ⟨_, cs, rfl, ⟨by rw [N.len]; rfl, .inr ⟨w.heap.size, 1, cs.toArray, rfl, ⟨hM2, by omega⟩, BG, Nat.le_refl _, by unfold maxLen; omega, by simp [N.len], by simp [N.len, List.take_of_length_le]⟩⟩, ?_⟩
  unfold RowAt
  rw [List.take_of_length_le (by rw [N.len]; exact Nat.le_refl _)]
  exact ⟨N.fr F1 (by simp), by unfold RowAt; trivial⟩
theorem Tryd.info_node : (Tryd.prog.info? 43).map (fun i => (i.zero, i.size, i.bytes)) = some (some (.agg #[.int .i64 0, .string ⟨#[]⟩, .int .u64 0, .int .u64 0, .int .u64 0, .int .u64 0, .slice none 0 0, .int .i64 0]), 8, 88) := by kernel_rfl
theorem Grow.form {w : World} {B bl : Nat} {acc : List Tree} (h : Grow w B bl acc) : ∃ lp lc xs, Blk w bl #[.slice lp acc.length lc] 41 ∧ w.ownsRow B 43 8 (.slice lp acc.length lc) acc.length xs ∧
    RowAt w (fun b => B ≤ b ∧ b ≠ bl ∧ (Value.slice lp acc.length lc).ownBlock ≠ some b) acc xs ∧ (Value.slice lp acc.length lc).ownBlock ≠ some bl := by
  obtain ⟨lv, xs, h1, h2, h3, _⟩ := h
  obtain ⟨lp, lc, rfl⟩ : ∃ lp lc, lv = .slice lp acc.length lc := by
    rcases h2.2 with ⟨h0, h00⟩ | ⟨g', cap', cur, hv, _⟩
    · exact ⟨none, 0, by rw [h0, h00]⟩
    · exact ⟨_, _, hv⟩
  refine ⟨lp, lc, xs, h1, h2, h3, fun e => ?_⟩
  rcases h2.2 with ⟨h0, _⟩ | ⟨g', cap', cur, hv, _, hh, _⟩
  · rw [h0] at e; simp [Value.ownBlock] at e
  · rw [hv] at e
    simp only [Value.ownBlock, Option.some.injEq] at e
    subst e
    have h' : w.heap[g']? = some (.cells #[.slice lp acc.length lc] 41 (0, 0)) := h1
    rw [h'] at hh
    injection hh with hh
    injection hh with _ hh _
    cases hh
theorem grow_at {w w' : World} {B bl br : Nat} {acc : List Tree} (h : Grow w B bl acc) (hf : Fr [br] w w') (hS : ∀ b ∈ [br], b < B) (hB : B ≤ bl) :
    Grow w' B bl acc ∧ ∀ lv, w'.cell? ⟨bl, 0, none⟩ = some lv → ∀ k, lv.ownBlock = some k → B ≤ k ∧ k < w.heap.size := by
  refine ⟨h.fr hf hS hB, fun lv hlv k hk => ?_⟩
  obtain ⟨lv', xs, h1, h2, _⟩ := h
  have h3 := (h1.fr hf (fun hm => by have := hS _ hm; omega)).cell 0 rfl
  rw [h3] at hlv
  injection hlv with hlv
  subst hlv
  exact h2.lt k hk
/-- The cells of the last element of an own row. -/
theorem own_last {w : World} {B n cap gg : Nat} {xs : List Value} {v0 v1 v2 v3 v4 v5 v6 v7 : Value} (h : w.ownsRow B 43 8 (.slice (some ⟨gg, 0, none⟩) (n + 1) cap) (n + 1) (xs ++ [v0, v1, v2, v3, v4, v5, v6, v7])) (hx : xs.length = n * 8) :
    w.cell? ⟨gg, n * 8, none⟩ = some v0 ∧ w.cell? ⟨gg, n * 8 + 1, none⟩ = some v1 ∧ w.cell? ⟨gg, n * 8 + 2, none⟩ = some v2 ∧ w.cell? ⟨gg, n * 8 + 3, none⟩ = some v3 ∧
    w.cell? ⟨gg, n * 8 + 4, none⟩ = some v4 ∧ w.cell? ⟨gg, n * 8 + 5, none⟩ = some v5 ∧ w.cell? ⟨gg, n * 8 + 6, none⟩ = some v6 ∧ w.cell? ⟨gg, n * 8 + 7, none⟩ = some v7 ∧ ∀ j, w.frozen? ⟨gg, j, none⟩ = false := by
  have hc := h.cells (g := gg) rfl
  have e : ∀ j : Nat, (⟨gg, 0, none⟩ : Addr).add j = ⟨gg, j, none⟩ := fun j => by unfold Addr.add; split <;> simp_all
  have c : ∀ (i : Nat) (u : Value), [v0, v1, v2, v3, v4, v5, v6, v7][i]? = some u → w.cell? ⟨gg, n * 8 + i, none⟩ = some u := fun i u hu => by
    rw [← e]
    exact hc _ _ (by rw [List.getElem?_append_right (by omega), show n * 8 + i - xs.length = i from by omega]; exact hu)
  refine ⟨c 0 _ rfl, c 1 _ rfl, c 2 _ rfl, c 3 _ rfl, c 4 _ rfl, c 5 _ rfl, c 6 _ rfl, c 7 _ rfl, fun j => ?_⟩
  rcases h.2 with ⟨h0, _⟩ | ⟨g', cap', cur, hv, _, hh, _⟩
  · cases h0
  · injection hv with hv
    injection hv with hv
    injection hv with hv
    subst hv
    simp [World.frozen?, hh]
theorem Rdr.frB {w w' : World} {B br g : Nat} {S : List Nat} {l : List Tok} {d : Nat} (h : Rdr w br g l d) (hf : FrB B S w w') (hb : br < B) (hg : g < B) (hbS : br ∉ S) (hgS : g ∉ S) : Rdr w' br g l d := by
  obtain ⟨o, cap, h1, h2, h3, cur, h4, h5⟩ := h
  exact ⟨o, cap, (hf.block br hb h1.lt hbS).trans h1, h2, h3, cur, (hf.block g hg (Array.getElem?_eq_some_iff.1 h4).1 hgS).trans h4, h5⟩
/-- A tree appended to a row that grows: what append and the stores leave. -/
theorem grow_done {wc w2 : World} {B bl M gg cap : Nat} {acc : List Tree} {lp : Option Addr} {lc : Nat} {xs cs zs : List Value} {n2 : Tree} {P : Nat → Prop} {o : Obj} (hBl : B ≤ bl) (hblM : bl < M)
    (GB : Blk wc bl #[.slice lp acc.length lc] 41) (hown : wc.ownsRow B 43 8 (.slice lp acc.length lc) acc.length xs)
    (hownM : ∀ k, (Value.slice lp acc.length lc).ownBlock = some k → B ≤ k ∧ k < M) (hownl : (Value.slice lp acc.length lc).ownBlock ≠ some bl)
    (GR : RowAt wc (fun b => B ≤ b ∧ b ≠ bl ∧ (Value.slice lp acc.length lc).ownBlock ≠ some b) acc xs) (N6 : NodeAt wc (fun b => M ≤ b ∧ P b) n2 cs)
    (hown2 : w2.ownsRow B 43 8 (.slice (some ⟨gg, 0, none⟩) (acc.length + 1) cap) (acc.length + 1) (xs ++ zs)) (hz : zs.length = 8)
    (hgrow : (wc.alloc o).drew.grownBy w2 (Value.slice lp acc.length lc).ownBlock) (hat : (Value.slice lp acc.length lc).ownBlock = some gg ∨ gg = wc.heap.size + 1) :
    FrB B [] wc ((put w2 gg (acc.length * 8) cs).setCell ⟨bl, 0, none⟩ (.slice (some ⟨gg, 0, none⟩) (acc.length + 1) cap)) ∧
    Grow ((put w2 gg (acc.length * 8) cs).setCell ⟨bl, 0, none⟩ (.slice (some ⟨gg, 0, none⟩) (acc.length + 1) cap)) B bl (acc ++ [n2]) := by
  have hlt := GB.lt
  have hsz : wc.heap.size + 1 ≤ w2.heap.size := by have := hgrow.size; simpa using this
  have hgl : bl ≠ gg := by
    rcases hat with h | h
    · rintro rfl; exact hownl h
    · omega
  have hBg : B ≤ gg := (hown2.lt gg rfl).1
  have hb : ∀ b, b < wc.heap.size → b ≠ bl → (Value.slice lp acc.length lc).ownBlock ≠ some b → b ≠ gg ∧ ((put w2 gg (acc.length * 8) cs).setCell ⟨bl, 0, none⟩ (.slice (some ⟨gg, 0, none⟩) (acc.length + 1) cap)).heap[b]? = wc.heap[b]? := by
    intro b h1 h2 h3
    have hbg : b ≠ gg := by
      rcases hat with h | h
      · rintro rfl; exact h3 h
      · omega
    refine ⟨hbg, ?_⟩
    have e1 := Below.heap_setCell (put w2 gg (acc.length * 8) cs) ⟨bl, 0, none⟩ (.slice (some ⟨gg, 0, none⟩) (acc.length + 1) cap) b h2
    have e2 := (Fr.put (S := [gg]) (a := w2) (g := gg) (.inl (by simp)) cs (acc.length * 8) (Fr.refl _ _)).block b (by omega) (by simpa using hbg)
    have e3 := hgrow.block b (by simp; omega) (fun e => h3 e.symm)
    have e4 : (wc.alloc o).drew.heap[b]? = wc.heap[b]? := Below.heap_alloc wc o b h1
    exact e1.trans (e2.trans (e3.trans e4))
  have hsz2 : wc.heap.size ≤ ((put w2 gg (acc.length * 8) cs).setCell ⟨bl, 0, none⟩ (.slice (some ⟨gg, 0, none⟩) (acc.length + 1) cap)).heap.size := by
    have := put_size gg cs (acc.length * 8) w2
    simp [World.setCell]
    omega
  have hf2 := Fr.put (S := [gg]) (a := w2) (g := gg) (.inl (by simp)) cs (acc.length * 8) (Fr.refl _ _)
  refine ⟨⟨hf2.os.trans hgrow.os, hf2.tape.trans hgrow.tape, hf2.output.trans hgrow.output, hsz2, fun k hk hk2 _ => (hb k hk2 (by omega) (fun e => by have := (hownM k e).1; omega)).2⟩, ?_⟩
  have GB2 : Blk w2 bl #[.slice lp acc.length lc] 41 := (hgrow.block bl (by simp; omega) (fun e => hownl e.symm)).trans (GB.alloc _)
  have GB3 := (Blk.put_other hgl cs (acc.length * 8) GB2).set 0 (.slice (some ⟨gg, 0, none⟩) (acc.length + 1) cap)
  have hcl : cs.length = 8 := N6.len
  have hxl : xs.length = acc.length * 8 := hown.1
  refine ⟨_, xs ++ cs, GB3, ?_, ?_, fun h => by simp at h⟩
  · rw [List.length_append, List.length_singleton]
    refine ⟨by rw [List.length_append]; omega, .inr ?_⟩
    rcases hown2.2 with ⟨h0, _⟩ | ⟨g', cap', cur, hv, hBg', hh, h1, h2, h3, h4⟩
    · cases h0
    · obtain ⟨rfl, rfl⟩ : gg = g' ∧ cap = cap' := by injection hv with e1 e2 e3; injection e1 with e1; injection e1 with e1; exact ⟨e1, e3⟩
      have ecur : cur = (xs ++ zs ++ cur.toList.drop ((acc.length + 1) * 8)).toArray := by
        rw [← h4, List.take_append_drop]
      have hh' : Blk w2 gg (xs ++ zs ++ cur.toList.drop ((acc.length + 1) * 8)).toArray 43 := by rw [← ecur]; exact hh
      have hp := (Blk.put_at cs xs zs _ (by omega) hh').set_other (p := ⟨bl, 0, none⟩) (Ne.symm hgl) (.slice (some ⟨gg, 0, none⟩) (acc.length + 1) cap)
      rw [hxl] at hp
      refine ⟨gg, cap, _, rfl, hBg, hp, h1, h2, ?_, ?_⟩
      · simp only [List.size_toArray, List.length_append, List.length_drop, Array.length_toList]
        have := Nat.mul_le_mul_right 8 h1
        omega
      · simp only []
        rw [List.take_append_of_le_length (by rw [List.length_append]; omega), List.take_of_length_le (by rw [List.length_append]; omega)]
  · have ga := RowAt.keep (w' := (put w2 gg (acc.length * 8) cs).setCell ⟨bl, 0, none⟩ (.slice (some ⟨gg, 0, none⟩) (acc.length + 1) cap)) (fun b hb1 hb2 => (hb b hb2 hb1.1.2.1 hb1.1.2.2).2) _ _ (RowAt.lt _ _ GR)
    have ga' := RowAt.mono (ok' := fun b => B ≤ b ∧ b ≠ bl ∧ (Value.slice (some ⟨gg, 0, none⟩) (acc.length + 1) cap).ownBlock ≠ some b) (fun b hb1 => ⟨hb1.1.1, hb1.1.2.1, fun e => by
      have e' : gg = b := by simpa [Value.ownBlock] using e
      exact (hb b hb1.2 hb1.1.2.1 hb1.1.2.2).1 e'.symm⟩) _ _ ga
    have ho : ∀ b, M ≤ b → (Value.slice lp acc.length lc).ownBlock ≠ some b := fun b h e => by have := (hownM b e).2; omega
    have gn := NodeAt.keep (w' := (put w2 gg (acc.length * 8) cs).setCell ⟨bl, 0, none⟩ (.slice (some ⟨gg, 0, none⟩) (acc.length + 1) cap)) (fun b hb1 hb2 => (hb b hb2 (by have := hb1.1.1; omega) (ho b hb1.1.1)).2) _ _ (NodeAt.lt _ _ N6)
    have gn' := NodeAt.mono (ok' := fun b => B ≤ b ∧ b ≠ bl ∧ (Value.slice (some ⟨gg, 0, none⟩) (acc.length + 1) cap).ownBlock ≠ some b) (fun b hb1 => ⟨by have := hb1.1.1; omega, by have := hb1.1.1; omega, fun e => by
      have e' : gg = b := by simpa [Value.ownBlock] using e
      exact (hb b hb1.2 (by have := hb1.1.1; omega) (ho b hb1.1.1)).1 e'.symm⟩) _ _ gn
    exact RowAt.snoc gn' _ _ hxl ga'
theorem part_post {br g d B bl k m p : Nat} {acc : List Tree} {l1 l3 : List Tok} {n n1 n2 : Tree} {r : Res (Option Tree)} {w wc W : World}
    (h1 : (Res.ok (some (dress k (behindOf (signOf l1)) p n)) (if behindOf (signOf l1) = 0 then l1 else l1.tail) : Res (Option Tree)) = r) (hm : behindOf (signOf l1) = m) (h3 : (if m = 0 then l1 else l1.tail) = l3)
    (hn1 : (if m = 0 then n else .node m [] cls0 [n] n.at_) = n1) (hn2 : (if k = 0 then n1 else .node k [] cls0 [n1] p) = n2)
    (F : FrB B [br] w wc) (FX : FrB B [] wc W) (GX : Grow W B bl (acc ++ [n2])) (RX : Rdr W br g l3 d) : PartPost br g d B bl acc r w (.returned (.bool true)) W := by
  rw [hm, h3] at h1
  have e : dress k m p n = n2 := by unfold dress; rw [hn1]; exact hn2
  rw [e] at h1
  subst h1
  exact ⟨rfl, F.trans ⟨FX.os, FX.tape, FX.output, FX.size, fun i h1 h2 _ => FX.block i h1 h2 (by simp)⟩, RX, GX⟩
theorem put8 (w : World) (g o : Nat) (v0 v1 v2 v3 v4 v5 v6 v7 : Value) :
    (((((((w.setCell ⟨g, o, none⟩ v0).setCell ⟨g, o + 1, none⟩ v1).setCell ⟨g, o + 2, none⟩ v2).setCell ⟨g, o + 3, none⟩ v3).setCell ⟨g, o + 4, none⟩ v4).setCell ⟨g, o + 5, none⟩ v5).setCell ⟨g, o + 6, none⟩ v6).setCell ⟨g, o + 7, none⟩ v7 = put w g o [v0, v1, v2, v3, v4, v5, v6, v7] := rfl
theorem setCell_comm (w : World) (p q : Addr) (u v : Value) (h : p.block ≠ q.block) : (w.setCell p u).setCell q v = (w.setCell q v).setCell p u := by
  unfold World.setCell
  congr 1
  apply Array.ext_getElem?
  intro i
  simp only [Array.getElem?_modify]
  by_cases h1 : q.block = i
  · subst h1
    simp [h]
  · by_cases h2 : p.block = i <;> simp [h1, h2]
theorem put_comm {g b : Nat} (h : g ≠ b) (u : Value) : ∀ (vs : List Value) (w : World) (o : Nat), (put w g o vs).setCell ⟨b, 0, none⟩ u = put (w.setCell ⟨b, 0, none⟩ u) g o vs
  | [], _, _ => rfl
  | v :: vs, w, o => by
    show (put (w.setCell ⟨g, o, none⟩ v) g (o + 1) vs).setCell ⟨b, 0, none⟩ u = put ((w.setCell ⟨b, 0, none⟩ u).setCell ⟨g, o, none⟩ v) g (o + 1) vs
    rw [put_comm h u vs, setCell_comm _ _ _ _ _ h]
end Go.Proofs.YtglknnncpaggpaaDoor
