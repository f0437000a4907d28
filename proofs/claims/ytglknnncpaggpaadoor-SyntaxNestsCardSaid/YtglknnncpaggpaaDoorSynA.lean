/- Trees in memory; the reader of tokens. -/
import Derived.Test.YtglknnncpaggpaaDoorLexH
import Derived.Test.YtglknnncpaggpaaDoorPureC
import Derived.Deep.CutRange
namespace Go.Proofs.YtglknnncpaggpaaDoor
open Go.RowKit

/-! ### A slice that lies whole in blocks of a kind -/
def Slc (w : World) (ok : Nat → Prop) (e : TypeId) (size : Nat) (v : Value) (n : Nat) (xs : List Value) : Prop :=
  xs.length = n * size ∧
  ((v = .slice none 0 0 ∧ n = 0) ∨
   ∃ g cap cur, v = .slice (some ⟨g, 0, none⟩) n cap ∧ ok g ∧ w.heap[g]? = some (.cells cur e (0, 0)) ∧ n ≤ cap ∧ cap ≤ maxLen ∧ cur.size = cap * size ∧ cur.toList.take (n * size) = xs)
theorem Slc.mono {w : World} {ok ok' : Nat → Prop} {e : TypeId} {size : Nat} {v : Value} {n : Nat} {xs : List Value} (h : Slc w ok e size v n xs) (hk : ∀ b, ok b → ok' b) : Slc w ok' e size v n xs := by
  refine ⟨h.1, ?_⟩
  rcases h.2 with h0 | ⟨g, cap, cur, a, b, c⟩
  · exact .inl h0
  · exact .inr ⟨g, cap, cur, a, hk _ b, c⟩
theorem Slc.keep {w w' : World} {ok : Nat → Prop} {e : TypeId} {size : Nat} {v : Value} {n : Nat} {xs : List Value} (h : Slc w ok e size v n xs) (hk : ∀ b, ok b → b < w.heap.size → w'.heap[b]? = w.heap[b]?) : Slc w' ok e size v n xs := by
  refine ⟨h.1, ?_⟩
  rcases h.2 with h0 | ⟨g, cap, cur, a, b, c, d⟩
  · exact .inl h0
  · exact .inr ⟨g, cap, cur, a, b, (hk g b (Array.getElem?_eq_some_iff.1 c).1).trans c, d⟩
theorem Slc.lt {w : World} {ok : Nat → Prop} {e : TypeId} {size : Nat} {v : Value} {n : Nat} {xs : List Value} (h : Slc w ok e size v n xs) : Slc w (fun b => ok b ∧ b < w.heap.size) e size v n xs := by
  refine ⟨h.1, ?_⟩
  rcases h.2 with h0 | ⟨g, cap, cur, a, b, c, d⟩
  · exact .inl h0
  · exact .inr ⟨g, cap, cur, a, ⟨b, (Array.getElem?_eq_some_iff.1 c).1⟩, c, d⟩
theorem Slc.of_owns {w : World} {base : Nat} {e : TypeId} {size : Nat} {v : Value} {n : Nat} {xs : List Value} (h : w.ownsRow base e size v n xs) : Slc w (fun b => base ≤ b) e size v n xs := h

/-! ### Trees in memory -/
mutual
def NodeAt (w : World) (ok : Nat → Prop) : Tree → List Value → Prop
  | .node k x c subs p, cs => ∃ lv xs, cs = [.int .i64 k, .string ⟨x.toArray⟩, .int .u64 c.a, .int .u64 c.b, .int .u64 c.c, .int .u64 c.d, lv, .int .i64 p] ∧
      Slc w ok 43 8 lv subs.length xs ∧ RowAt w ok subs xs
def RowAt (w : World) (ok : Nat → Prop) : List Tree → List Value → Prop
  | [], _ => True
  | t :: ts, xs => NodeAt w ok t (xs.take 8) ∧ RowAt w ok ts (xs.drop 8)
end
mutual
theorem NodeAt.mono {w : World} {ok ok' : Nat → Prop} (hk : ∀ b, ok b → ok' b) : ∀ (t : Tree) (cs : List Value), NodeAt w ok t cs → NodeAt w ok' t cs
  | .node k x c subs p, cs, h => by
    unfold NodeAt at h ⊢
    obtain ⟨lv, xs, h1, h2, h3⟩ := h
    exact ⟨lv, xs, h1, h2.mono hk, RowAt.mono hk subs xs h3⟩
theorem RowAt.mono {w : World} {ok ok' : Nat → Prop} (hk : ∀ b, ok b → ok' b) : ∀ (ts : List Tree) (xs : List Value), RowAt w ok ts xs → RowAt w ok' ts xs
  | [], _, _ => by unfold RowAt; trivial
  | t :: ts, xs, h => by
    unfold RowAt at h ⊢
    exact ⟨NodeAt.mono hk t _ h.1, RowAt.mono hk ts _ h.2⟩
end
mutual
theorem NodeAt.keep {w w' : World} {ok : Nat → Prop} (hk : ∀ b, ok b → b < w.heap.size → w'.heap[b]? = w.heap[b]?) : ∀ (t : Tree) (cs : List Value), NodeAt w ok t cs → NodeAt w' ok t cs
  | .node k x c subs p, cs, h => by
    unfold NodeAt at h ⊢
    obtain ⟨lv, xs, h1, h2, h3⟩ := h
    exact ⟨lv, xs, h1, h2.keep hk, RowAt.keep hk subs xs h3⟩
theorem RowAt.keep {w w' : World} {ok : Nat → Prop} (hk : ∀ b, ok b → b < w.heap.size → w'.heap[b]? = w.heap[b]?) : ∀ (ts : List Tree) (xs : List Value), RowAt w ok ts xs → RowAt w' ok ts xs
  | [], _, _ => by unfold RowAt; trivial
  | t :: ts, xs, h => by
    unfold RowAt at h ⊢
    exact ⟨NodeAt.keep hk t _ h.1, RowAt.keep hk ts _ h.2⟩
end
mutual
theorem NodeAt.lt {w : World} {ok : Nat → Prop} : ∀ (t : Tree) (cs : List Value), NodeAt w ok t cs → NodeAt w (fun b => ok b ∧ b < w.heap.size) t cs
  | .node k x c subs p, cs, h => by
    unfold NodeAt at h ⊢
    obtain ⟨lv, xs, h1, h2, h3⟩ := h
    exact ⟨lv, xs, h1, h2.lt, RowAt.lt subs xs h3⟩
theorem RowAt.lt {w : World} {ok : Nat → Prop} : ∀ (ts : List Tree) (xs : List Value), RowAt w ok ts xs → RowAt w (fun b => ok b ∧ b < w.heap.size) ts xs
  | [], _, _ => by unfold RowAt; trivial
  | t :: ts, xs, h => by
    unfold RowAt at h ⊢
    exact ⟨NodeAt.lt t _ h.1, RowAt.lt ts _ h.2⟩
end
theorem NodeAt.len {w : World} {ok : Nat → Prop} {t : Tree} {cs : List Value} (h : NodeAt w ok t cs) : cs.length = 8 := by
  cases t
  unfold NodeAt at h
  obtain ⟨lv, xs, rfl, _⟩ := h
  rfl
theorem RowAt.snoc {w : World} {ok : Nat → Prop} {t : Tree} {cs : List Value} (h : NodeAt w ok t cs) : ∀ (ts : List Tree) (xs : List Value), xs.length = ts.length * 8 → RowAt w ok ts xs → RowAt w ok (ts ++ [t]) (xs ++ cs)
  | [], xs, hl, _ => by
    have : xs = [] := List.eq_nil_of_length_eq_zero (by simpa using hl)
    subst this
    unfold RowAt
    refine ⟨?_, by unfold RowAt; trivial⟩
    rw [List.nil_append, List.take_of_length_le (by rw [h.len]; exact Nat.le_refl _)]
    exact h
  | u :: ts, xs, hl, hr => by
    simp only [List.length_cons] at hl
    unfold RowAt at hr
    rw [List.cons_append]
    unfold RowAt
    rw [List.take_append_of_le_length (by omega), List.drop_append_of_le_length (by omega)]
    exact ⟨hr.1, RowAt.snoc h ts _ (by rw [List.length_drop]; omega) hr.2⟩

/-! ### The reader -/
/-- The reader at block br: the tokens l are left, so many parentheses are open. -/
def RdAt (w : World) (br g o cap : Nat) (l : List Tok) (d : Nat) : Prop :=
  Blk w br #[.slice (some ⟨g, o, none⟩) l.length cap, .int .i64 d] 65 ∧ l.length ≤ cap ∧ cap ≤ maxLen ∧ ∃ cur, w.heap[g]? = some (.cells cur 40 (0, 0)) ∧
    (cur.toList.drop o).take (l.length * 7) = flat l ∧ o + cap * 7 ≤ cur.size
def Rdr (w : World) (br g : Nat) (l : List Tok) (d : Nat) : Prop := ∃ o cap, RdAt w br g o cap l d
theorem RdAt.ne {w : World} {br g o cap : Nat} {l : List Tok} {d : Nat} (h : RdAt w br g o cap l d) : g ≠ br := by
  rintro rfl
  obtain ⟨h1, _, _, cur, h2, _⟩ := h
  have h1' : w.heap[g]? = some (.cells #[.slice (some ⟨g, o, none⟩) l.length cap, .int .i64 d] 65 (0, 0)) := h1
  rw [h1'] at h2
  injection h2 with h2
  injection h2 with _ h2 _
  cases h2
theorem RdAt.fr {S : List Nat} {w w' : World} {br g o cap : Nat} {l : List Tok} {d : Nat} (h : RdAt w br g o cap l d) (hf : Fr S w w') (hb : br ∉ S) (hg : g ∉ S) : RdAt w' br g o cap l d := by
  obtain ⟨h1, h2, h3, cur, h4, h5⟩ := h
  exact ⟨h1.fr hf hb, h2, h3, cur, (hf.block g (Array.getElem?_eq_some_iff.1 h4).1 hg).trans h4, h5⟩
theorem Rdr.fr {S : List Nat} {w w' : World} {br g : Nat} {l : List Tok} {d : Nat} (h : Rdr w br g l d) (hf : Fr S w w') (hb : br ∉ S) (hg : g ∉ S) : Rdr w' br g l d := by
  obtain ⟨o, cap, h⟩ := h
  exact ⟨o, cap, h.fr hf hb hg⟩
theorem Rdr.fr0 {w w' : World} {br g : Nat} {l : List Tok} {d : Nat} (h : Rdr w br g l d) (hf : Fr [] w w') : Rdr w' br g l d := h.fr hf (by simp) (by simp)
theorem Rdr.lt {w : World} {br g : Nat} {l : List Tok} {d : Nat} (h : Rdr w br g l d) : br < w.heap.size ∧ g < w.heap.size := by
  obtain ⟨o, cap, h1, _, _, cur, h4, _⟩ := h
  exact ⟨h1.lt, (Array.getElem?_eq_some_iff.1 h4).1⟩
theorem flat_get : ∀ (l : List Tok) (i j : Nat) (hi : i < l.length) (_hj : j < 7), (flat l)[i * 7 + j]? = (l[i]).cells[j]?
  | t :: l, 0, j, _, hj => by
    have h : flat (t :: l) = t.cells ++ flat l := rfl
    rw [h, List.getElem?_append_left (by simp [Tok.cells]; omega)]
    simp
  | t :: l, i + 1, j, hi, hj => by
    have h : flat (t :: l) = t.cells ++ flat l := rfl
    have hl : t.cells.length = 7 := rfl
    rw [h, List.getElem?_append_right (by omega), hl, show (i + 1) * 7 + j - 7 = i * 7 + j from by omega]
    exact flat_get l i j (by simpa using hi) hj
theorem RdAt.cell {w : World} {br g o cap : Nat} {l : List Tok} {d : Nat} (h : RdAt w br g o cap l d) (i j : Nat) (hi : i < l.length) (hj : j < 7) : w.cell? ⟨g, o + (i * 7 + j), none⟩ = (l[i]).cells[j]? := by
  obtain ⟨_, _, _, cur, h4, h5, _⟩ := h
  have h6 : (flat l)[i * 7 + j]? = cur.toList[o + (i * 7 + j)]? := by
    rw [← h5, List.getElem?_take_of_lt (by omega), List.getElem?_drop]
  rw [← flat_get l i j hi hj, h6]
  simp [World.cell?, h4]
theorem hd_get {l : List Tok} (h : 0 < l.length) : l[0] = hd l := by
  cases l with
  | nil => cases h
  | cons t l => rfl
theorem hd_get1 {l : List Tok} (h : 1 < l.length) : l[1] = hd l.tail := by
  match l, h with
  | t :: u :: l, _ => rfl
theorem RdAt.head {w : World} {br g o cap : Nat} {l : List Tok} {d : Nat} (h : RdAt w br g o cap l d) (hl : 0 < l.length) :
    w.cell? ⟨g, o, none⟩ = some (.int .i64 (hd l).kind) ∧ w.cell? ⟨g, o + 1, none⟩ = some (.string ⟨(hd l).text.toArray⟩) ∧ w.cell? ⟨g, o + 2, none⟩ = some (.int .u64 (hd l).cls.a) ∧ w.cell? ⟨g, o + 3, none⟩ = some (.int .u64 (hd l).cls.b) ∧
    w.cell? ⟨g, o + 4, none⟩ = some (.int .u64 (hd l).cls.c) ∧ w.cell? ⟨g, o + 5, none⟩ = some (.int .u64 (hd l).cls.d) ∧ w.cell? ⟨g, o + 6, none⟩ = some (.int .i64 (hd l).at_) := by
  have e := hd_get hl
  have c := fun j hj => h.cell 0 j hl hj
  refine ⟨?_, ?_, ?_, ?_, ?_, ?_, ?_⟩
  · have := c 0 (by decide); rw [e] at this; simpa [Tok.cells] using this
  · have := c 1 (by decide); rw [e] at this; simpa [Tok.cells] using this
  · have := c 2 (by decide); rw [e] at this; simpa [Tok.cells] using this
  · have := c 3 (by decide); rw [e] at this; simpa [Tok.cells] using this
  · have := c 4 (by decide); rw [e] at this; simpa [Tok.cells] using this
  · have := c 5 (by decide); rw [e] at this; simpa [Tok.cells] using this
  · have := c 6 (by decide); rw [e] at this; simpa [Tok.cells] using this
theorem RdAt.second {w : World} {br g o cap : Nat} {l : List Tok} {d : Nat} (h : RdAt w br g o cap l d) (hl : 1 < l.length) : w.cell? ⟨g, o + 7, none⟩ = some (.int .i64 (hd l.tail).kind) := by
  have := h.cell 1 0 hl (by decide)
  rw [hd_get1 hl] at this
  simpa [Tok.cells] using this

/-- A new block, by name. -/
theorem alloc_new (w : World) (cs : Array Value) (T : TypeId) : ∃ w1 b, w.alloc (.cells cs T) = w1 ∧ Hid (w.heap.size = b) ∧ Fr [] w w1 ∧ Blk w1 b cs T ∧ Hid (w1.heap.size = b + 1) :=
  ⟨_, _, rfl, Lib.hid rfl, (Fr.refl [] w).alloc _, Blk.new _ _ _, Lib.hid (by simp)⟩
/-- A cell written, by name. -/
theorem set_new {w : World} {b : Nat} {cs : Array Value} {T : TypeId} (h : Blk w b cs T) (o : Nat) (v : Value) : ∃ w1, w.setCell ⟨b, o, none⟩ v = w1 ∧ Fr [b] w w1 ∧ Blk w1 b (cs.setIfInBounds o v) T ∧ Hid (w1.heap.size = w.heap.size) :=
  ⟨_, rfl, (Fr.refl [b] w).setCell (.inl (by simp)) v, h.set o v, Lib.hid (by simp [World.setCell])⟩

/-- Cells written one behind another, by name. -/
theorem put_new {w : World} {b : Nat} {cs : Array Value} {T : TypeId} (h : Blk w b cs T) (vs : List Value) (hl : cs.size = vs.length) : ∃ w1, put w b 0 vs = w1 ∧ Fr [b] w w1 ∧ Blk w1 b vs.toArray T ∧ Hid (w1.heap.size = w.heap.size) :=
  ⟨_, rfl, Fr.put (.inl (by simp)) vs 0 (Fr.refl [b] w), h.put_all vs hl, Lib.hid (put_size b vs 0 w)⟩
theorem Blk.c7 {w : World} {b : Nat} {T : TypeId} {v0 v1 v2 v3 v4 v5 v6 : Value} (h : Blk w b #[v0, v1, v2, v3, v4, v5, v6] T) : w.cell? ⟨b, 0, none⟩ = some v0 ∧ w.cell? ⟨b, 1, none⟩ = some v1 ∧ w.cell? ⟨b, 2, none⟩ = some v2 ∧ w.cell? ⟨b, 3, none⟩ = some v3 ∧ w.cell? ⟨b, 4, none⟩ = some v4 ∧ w.cell? ⟨b, 5, none⟩ = some v5 ∧ w.cell? ⟨b, 6, none⟩ = some v6 :=
  ⟨h.cell 0 rfl, h.cell 1 rfl, h.cell 2 rfl, h.cell 3 rfl, h.cell 4 rfl, h.cell 5 rfl, h.cell 6 rfl⟩
theorem Blk.c8 {w : World} {b : Nat} {T : TypeId} {v0 v1 v2 v3 v4 v5 v6 v7 : Value} (h : Blk w b #[v0, v1, v2, v3, v4, v5, v6, v7] T) : w.cell? ⟨b, 0, none⟩ = some v0 ∧ w.cell? ⟨b, 1, none⟩ = some v1 ∧ w.cell? ⟨b, 2, none⟩ = some v2 ∧ w.cell? ⟨b, 3, none⟩ = some v3 ∧ w.cell? ⟨b, 4, none⟩ = some v4 ∧ w.cell? ⟨b, 5, none⟩ = some v5 ∧ w.cell? ⟨b, 6, none⟩ = some v6 ∧ w.cell? ⟨b, 7, none⟩ = some v7 :=
  ⟨h.cell 0 rfl, h.cell 1 rfl, h.cell 2 rfl, h.cell 3 rfl, h.cell 4 rfl, h.cell 5 rfl, h.cell 6 rfl, h.cell 7 rfl⟩
theorem Blk.c10 {w : World} {b : Nat} {T : TypeId} {v0 v1 v2 v3 v4 v5 v6 v7 v8 v9 : Value} (h : Blk w b #[v0, v1, v2, v3, v4, v5, v6, v7, v8, v9] T) : w.cell? ⟨b, 0, none⟩ = some v0 ∧ w.cell? ⟨b, 1, none⟩ = some v1 ∧ w.cell? ⟨b, 2, none⟩ = some v2 ∧ w.cell? ⟨b, 3, none⟩ = some v3 ∧ w.cell? ⟨b, 4, none⟩ = some v4 ∧ w.cell? ⟨b, 5, none⟩ = some v5 ∧ w.cell? ⟨b, 6, none⟩ = some v6 ∧ w.cell? ⟨b, 7, none⟩ = some v7 ∧ w.cell? ⟨b, 8, none⟩ = some v8 ∧ w.cell? ⟨b, 9, none⟩ = some v9 :=
  ⟨h.cell 0 rfl, h.cell 1 rfl, h.cell 2 rfl, h.cell 3 rfl, h.cell 4 rfl, h.cell 5 rfl, h.cell 6 rfl, h.cell 7 rfl, h.cell 8 rfl, h.cell 9 rfl⟩


/-! ### stop, wrong, sign, next, must -/
def StopPost (code at_ : Nat) (w : World) (e : Ending) (w' : World) : Prop :=
  Fr [] w w' ∧ ∃ b, e = .panicked [{ v := .iface 62 (.pointer (some ⟨b, 0, none⟩)), recovered := false }] ∧ w.heap.size ≤ b ∧ Blk w' b #[.int .i64 code, .int .i64 at_] 76
set_option maxHeartbeats 4000000 in
theorem stop_any (br g : Nat) (l : List Tok) (d : Nat) (code : Int) (cn : Nat) (hc : code = cn) (w : World) (H : Rdr w br g l d) (hl : Ends l) :
    Calls Tryd.prog 23 #[.pointer (some ⟨br, 0, none⟩), .int .i64 code] w (StopPost cn (hd l).at_ w) := by
  obtain ⟨o, cap, H⟩ := H
  obtain ⟨c0, c1, c2, c3, c4, c5, c6⟩ := H.head hl.len
  have r0 := Blk.cell H.1 0 rfl
  have hi0 : (0 : Int) < (l.length : Int) := by have := hl.len; omega
  go_enter Tryd.func23, Tryd.ntmps23
  go_wp2_with fail
  exact ⟨rfl, (Fr.refl [] w).alloc _, w.heap.size, rfl, Nat.le_refl _, Blk.new _ _ _⟩

theorem StopPost.pre {code at_ : Nat} {w w1 : World} {e : Ending} {w' : World} (h : StopPost code at_ w1 e w') (F : Fr [] w w1) : StopPost code at_ w e w' := by
  obtain ⟨F2, b, h1, h2, h3⟩ := h
  exact ⟨F.trans F2 (by simp), b, h1, Nat.le_trans F.size h2, h3⟩
def wrongCode (l : List Tok) : Nat := if (hd l).kind = 6 then 3 else 4
theorem wrongAt_eq {α : Type} (l : List Tok) : (wrongAt l : Res α) = .stop (wrongCode l) (hd l).at_ := by
  unfold wrongAt wrongCode
  split <;> rfl
set_option maxHeartbeats 4000000 in
theorem swrong_any (br g : Nat) (l : List Tok) (d : Nat) (w : World) (H : Rdr w br g l d) (hl : Ends l) :
    Calls Tryd.prog 41 #[.pointer (some ⟨br, 0, none⟩)] w (StopPost (wrongCode l) (hd l).at_ w) := by
  have S3 := Lib.hid (stop_any br g l d 3 3 rfl w H hl)
  have S4 := Lib.hid (stop_any br g l d 4 4 rfl w H hl)
  obtain ⟨o, cap, H⟩ := H
  obtain ⟨c0, c1, c2, c3, c4, c5, c6⟩ := H.head hl.len
  have r0 := Blk.cell H.1 0 rfl
  have hi0 : (0 : Int) < (l.length : Int) := by have := hl.len; omega
  by_cases hk : (hd l).kind = 6
  · have hb : (((hd l).kind : Int) == 6) = true := by rw [hk]; rfl
    have HC : Hid (wrongCode l = 3) := Lib.hid (by unfold wrongCode; rw [if_pos hk])
    clear hk
    go_enter Tryd.func41, Tryd.ntmps41
    go_wp2_with fail
    with_reducible refine S3.out.mono ?_
    rintro e w' ⟨F, b, rfl, h2, h3⟩
    go_wp2_with fail
    rw [HC.out]
    exact ⟨rfl, F, b, rfl, h2, h3⟩
  · have hb : (((hd l).kind : Int) == 6) = false := by rw [beq_eq_false_iff_ne]; omega
    have HC : Hid (wrongCode l = 4) := Lib.hid (by unfold wrongCode; rw [if_neg hk])
    clear hk
    go_enter Tryd.func41, Tryd.ntmps41
    go_wp2_with fail
    with_reducible refine S4.out.mono ?_
    rintro e w' ⟨F, b, rfl, h2, h3⟩
    go_wp2_with fail
    rw [HC.out]
    exact ⟨rfl, F, b, rfl, h2, h3⟩

def SgnPost (l : List Tok) (w : World) (e : Ending) (w' : World) : Prop := e = .returned (.string ⟨(signOf l).toArray⟩) ∧ w = w'
set_option maxHeartbeats 4000000 in
theorem ssign_any (br g : Nat) (l : List Tok) (d : Nat) (w : World) (H : Rdr w br g l d) (hl : Ends l) :
    Calls Tryd.prog 44 #[.pointer (some ⟨br, 0, none⟩)] w (SgnPost l w) := by
  obtain ⟨o, cap, H⟩ := H
  obtain ⟨c0, c1, c2, c3, c4, c5, c6⟩ := H.head hl.len
  have r0 := Blk.cell H.1 0 rfl
  have hi0 : (0 : Int) < (l.length : Int) := by have := hl.len; omega
  by_cases hk : (hd l).kind = 5
  · have hb : (((hd l).kind : Int) == 5) = true := by rw [hk]; rfl
    have hb' : ((hd l).kind : Int) = 5 := by omega
    have HC : Hid (signOf l = (hd l).text) := Lib.hid (by unfold signOf; rw [if_pos hk])
    clear hk
    go_enter Tryd.func44, Tryd.ntmps44
    go_wp2_with fail
    go_ret
    rw [SgnPost, HC.out]
    exact ⟨rfl, rfl⟩
  · have hb : (((hd l).kind : Int) == 5) = false := by rw [beq_eq_false_iff_ne]; omega
    have HC : Hid (signOf l = []) := Lib.hid (by unfold signOf; rw [if_neg hk])
    clear hk
    go_enter Tryd.func44, Tryd.ntmps44
    go_wp2_with fail
    go_ret
    rw [SgnPost, HC.out]
    exact ⟨rfl, rfl⟩

/-- A token as the walk hands it back. -/
def Tok.val (t : Tok) : Value := .agg #[.int .i64 t.kind, .string ⟨t.text.toArray⟩, .int .u64 t.cls.a, .int .u64 t.cls.b, .int .u64 t.cls.c, .int .u64 t.cls.d, .int .i64 t.at_]
theorem Ends.two {l : List Tok} (h : Ends l) (hk : (hd l).kind ≠ 6) : 2 ≤ l.length := by
  have := (h.tail hk).len
  cases l with
  | nil => exact absurd rfl h.ne
  | cons t l => simpa using this
theorem RdAt.next {w w' : World} {br g o cap : Nat} {l : List Tok} {d : Nat} (h : RdAt w br g o cap l d) (hl : 2 ≤ l.length) (hf : Fr [br] w w') (hb : Blk w' br #[.slice (some ⟨g, o + 7, none⟩) ((l.length - 1 : Nat)) ((cap - 1 : Nat)), .int .i64 d] 65) :
    RdAt w' br g (o + 7) (cap - 1) l.tail d := by
  have hne := h.ne
  obtain ⟨h1, h2, h3, cur, h4, h5, h6⟩ := h
  refine ⟨by rw [List.length_tail]; exact hb, by rw [List.length_tail]; omega, by omega, cur, (hf.block g (Array.getElem?_eq_some_iff.1 h4).1 (by simpa using hne)).trans h4, ?_, by omega⟩
  cases l with
  | nil => simp at hl
  | cons t l =>
    have hf : flat (t :: l) = t.cells ++ flat l := rfl
    have hl7 : t.cells.length = 7 := rfl
    rw [hf] at h5
    have h7 : ((cur.toList.drop o).take ((t :: l).length * 7)).drop 7 = flat l := by rw [h5]; exact List.drop_left' hl7
    rw [List.drop_take, List.drop_drop] at h7
    rw [List.tail_cons, ← h7]
    congr 1
    simp only [List.length_cons]
    omega
def NextPost (br g : Nat) (l : List Tok) (d : Nat) (w : World) (e : Ending) (w' : World) : Prop := e = .returned (hd l).val ∧ Fr [br] w w' ∧ Rdr w' br g l.tail d
set_option maxHeartbeats 4000000 in
theorem snext_any (br g : Nat) (l : List Tok) (d : Nat) (w : World) (H : Rdr w br g l d) (hl : Ends l) (hk : (hd l).kind ≠ 6) :
    Calls Tryd.prog 42 #[.pointer (some ⟨br, 0, none⟩)] w (NextPost br g l d w) := by
  obtain ⟨o, cap, H⟩ := H
  have hi0 : (0 : Int) < (l.length : Int) := by have := hl.len; omega
  have hi1 : (1 : Int) ≤ (l.length : Int) := by omega
  have hcap := H.2.1
  have hl2 := hl.two hk
  have hcne : ¬ cap = 1 := by omega
  have hcap2 := H.2.2.1
  go_enter Tryd.func42, Tryd.ntmps42
  go_upto_region 1 with fail
  obtain ⟨w1, b1, e1, e2, F1, B1, S1⟩ := alloc_new w #[.int .i64 0, .string ⟨#[]⟩, .int .u64 0, .int .u64 0, .int .u64 0, .int .u64 0, .int .i64 0] 40
  have H1 := H.fr F1 (by simp) (by simp)
  have hbr := H.1.lt
  rw [e1, e2.out]
  clear e1
  obtain ⟨c0, c1, c2, c3, c4, c5, c6⟩ := H1.head hl.len
  have r0 := Blk.cell H1.1 0 rfl
  go_upto_region 2 with fail
  clear c0 c1 c2 c3 c4 c5 c6 r0
  obtain ⟨w2, b2, e3, e4, F2, B2, S2⟩ := alloc_new w1 #[.int .i64 (hd l).kind, .string ⟨(hd l).text.toArray⟩, .int .u64 (hd l).cls.a, .int .u64 (hd l).cls.b, .int .u64 (hd l).cls.c, .int .u64 (hd l).cls.d, .int .i64 (hd l).at_] 40
  have H2 := H1.fr F2 (by simp) (by simp)
  have B1' := B1.fr F2 (by simp)
  rw [e3, e4.out]
  clear e3 H1 B1
  have r0 := Blk.cell H2.1 0 rfl
  have rf := Blk.free H2.1 0
  go_upto_region 3 with fail
  clear r0 rf
  obtain ⟨w3, e5, F3, B3, S3⟩ := set_new H2.1 0 (.slice (some ⟨g, o + 7, none⟩) (l.length - 1) (cap - 1))
  have H3 := H2.next hl2 F3 (by simpa using B3)
  rw [e5]
  have hb2 : b2 ≠ br := by have := e4.out; have := S1.out; have := e2.out; omega
  have hb1 : b1 ≠ br := by have := e2.out; omega
  have B1'' := B1'.fr F3 (by simpa using hb1)
  have B2' := B2.fr F3 (by simpa using hb2)
  have hb12 : b1 ≠ b2 := by have := e4.out; have := S1.out; omega
  clear e5 H2 B1' B2 B3
  obtain ⟨k0, k1, k2, k3, k4, k5, k6⟩ := B2'.c7
  obtain ⟨z0, z1, z2, z3, z4, z5, z6⟩ := B1''.c7
  have f0 := B1''.free
  go_wp2_with fail
  clear k0 k1 k2 k3 k4 k5 k6 z0 z1 z2 z3 z4 z5 z6 f0
  change bodyPost _ _ _ _ _ (put w3 b1 0 [.int .i64 (hd l).kind, .string ⟨(hd l).text.toArray⟩, .int .u64 (hd l).cls.a, .int .u64 (hd l).cls.b, .int .u64 (hd l).cls.c, .int .u64 (hd l).cls.d, .int .i64 (hd l).at_])
  obtain ⟨w4, e7, F4, B4, S4⟩ := put_new B1'' [.int .i64 (hd l).kind, .string ⟨(hd l).text.toArray⟩, .int .u64 (hd l).cls.a, .int .u64 (hd l).cls.b, .int .u64 (hd l).cls.c, .int .u64 (hd l).cls.d, .int .i64 (hd l).at_] rfl
  have hgb : g ≠ b1 := by
    obtain ⟨_, _, _, cur, h4, _⟩ := H
    have := (Array.getElem?_eq_some_iff.1 h4).1
    have := e2.out
    omega
  have H4 := H3.fr F4 (by simpa using Ne.symm hb1) (by simpa using hgb)
  rw [e7]
  obtain ⟨k0, k1, k2, k3, k4, k5, k6⟩ := B4.c7
  have FF : Fr [br] w w4 := (((F1.mono (T := [br]) (by simp)).trans F2 (by simp)).trans F3 (by simp)).trans F4 (by have := e2.out; simp; omega)
  exact bodyPost_ret (v := (hd l).val) (by simp [results, Tryd.results42, go_sem, k0, k1, k2, k3, k4, k5, k6, Tok.val]) rfl ⟨rfl, FF, o + 7, cap - 1, H4⟩
end Go.Proofs.YtglknnncpaggpaaDoor
