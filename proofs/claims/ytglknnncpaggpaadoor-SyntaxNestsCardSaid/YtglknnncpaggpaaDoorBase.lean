/- The frames of the walks: what a call leaves of memory, said by a list of blocks; a block of cells known whole. -/
import Derived.WalkKit
import Derived.WalkSpells
import Derived.WalkLawsBesides
import Derived.Lib.Hide
namespace Go.Proofs.YtglknnncpaggpaaDoor
open Go.RowKit

/-- The world w' is w but for the blocks in S, and for new blocks. -/
structure Fr (S : List Nat) (w w' : World) : Prop where
  os : w'.os = w.os
  tape : w'.tape = w.tape
  output : w'.output = w.output
  size : w.heap.size ≤ w'.heap.size
  block : ∀ k, k < w.heap.size → k ∉ S → w'.heap[k]? = w.heap[k]?

theorem Fr.refl (S : List Nat) (w : World) : Fr S w w := ⟨rfl, rfl, rfl, Nat.le_refl _, fun _ _ _ => rfl⟩
theorem Fr.trans {S T : List Nat} {a b c : World} (h : Fr S a b) (k : Fr T b c) (hT : ∀ i ∈ T, i ∈ S ∨ a.heap.size ≤ i) : Fr S a c :=
  ⟨k.os.trans h.os, k.tape.trans h.tape, k.output.trans h.output, Nat.le_trans h.size k.size, fun i hi hn =>
    (k.block i (Nat.lt_of_lt_of_le hi h.size) (fun hm => (hT i hm).elim hn (fun h1 => absurd hi (by omega)))).trans (h.block i hi hn)⟩
theorem Fr.mono {S T : List Nat} {a b : World} (h : Fr S a b) (hT : ∀ i ∈ S, i ∈ T ∨ a.heap.size ≤ i) : Fr T a b :=
  ⟨h.os, h.tape, h.output, h.size, fun i hi hn => h.block i hi (fun hm => (hT i hm).elim hn (fun h1 => absurd hi (by omega)))⟩
theorem Fr.drew {S : List Nat} {a w : World} (h : Fr S a w) : Fr S a w.drew := ⟨h.os, h.tape, h.output, h.size, h.block⟩
theorem Fr.drewN {S : List Nat} {a w : World} (h : Fr S a w) (n : Nat) : Fr S a (w.drewN n) := ⟨h.os, h.tape, h.output, h.size, h.block⟩
theorem Fr.alloc {S : List Nat} {a w : World} (h : Fr S a w) (o : Obj) : Fr S a (w.alloc o) :=
  ⟨h.os, h.tape, h.output, Nat.le_trans h.size (by simp), fun k hk hn => (Below.heap_alloc _ _ _ (Nat.lt_of_lt_of_le hk h.size)).trans (h.block k hk hn)⟩
theorem Fr.setCell {S : List Nat} {a w : World} (h : Fr S a w) {p : Addr} (hp : p.block ∈ S ∨ a.heap.size ≤ p.block) (u : Value) : Fr S a (w.setCell p u) :=
  ⟨h.os, h.tape, h.output, Nat.le_trans h.size (by simp [World.setCell]), fun k hk hn => (Below.heap_setCell _ _ _ _ (by
    rintro rfl
    rcases hp with hp | hp
    · exact hn hp
    · omega)).trans (h.block k hk hn)⟩
theorem Fr.grown {S : List Nat} {a w w' : World} {row : Option Nat} (h : Fr S a w) (hg : w.grownBy w' row) (hr : ∀ k, row = some k → k ∈ S ∨ a.heap.size ≤ k) : Fr S a w' :=
  ⟨hg.os.trans h.os, hg.tape.trans h.tape, hg.output.trans h.output, Nat.le_trans h.size hg.size, fun k hk hn =>
    (hg.block k (Nat.lt_of_lt_of_le hk h.size) (fun e => (hr k e.symm).elim hn (fun h1 => absurd hk (by omega)))).trans (h.block k hk hn)⟩
theorem Fr.below {a w : World} (h : Fr [] a w) : Below a.heap.size a w := ⟨h.os, h.tape, h.output, h.size, fun k hk => h.block k hk (by simp)⟩
theorem Fr.of_below {a w : World} (h : Below a.heap.size a w) (S : List Nat) : Fr S a w := ⟨h.os, h.tape, h.output, h.size, fun k hk _ => h.block k hk⟩

/-- Block b holds just these cells, none of them frozen. -/
def Blk (w : World) (b : Nat) (cs : Array Value) (T : TypeId) : Prop := w.heap[b]? = some (.cells cs T (0, 0))
theorem Blk.lt {w : World} {b : Nat} {cs : Array Value} {T : TypeId} (h : Blk w b cs T) : b < w.heap.size := (Array.getElem?_eq_some_iff.1 h).1
theorem Blk.cell {w : World} {b : Nat} {cs : Array Value} {T : TypeId} (h : Blk w b cs T) (o : Nat) {v : Value} (hv : cs[o]? = some v) : w.cell? ⟨b, o, none⟩ = some v := by
  have h' : w.heap[b]? = some (.cells cs T (0, 0)) := h
  simp [World.cell?, h', hv]
theorem Blk.free {w : World} {b : Nat} {cs : Array Value} {T : TypeId} (h : Blk w b cs T) (o : Nat) : w.frozen? ⟨b, o, none⟩ = false := by
  have h' : w.heap[b]? = some (.cells cs T (0, 0)) := h
  simp [World.frozen?, h']
theorem Blk.fr {S : List Nat} {w w' : World} {b : Nat} {cs : Array Value} {T : TypeId} (h : Blk w b cs T) (hf : Fr S w w') (hb : b ∉ S) : Blk w' b cs T :=
  (hf.block b h.lt hb).trans h
theorem Blk.new (w : World) (cs : Array Value) (T : TypeId) : Blk (w.alloc (.cells cs T)) w.heap.size cs T := heap_alloc_new w _
theorem Blk.alloc {w : World} {b : Nat} {cs : Array Value} {T : TypeId} (h : Blk w b cs T) (o : Obj) : Blk (w.alloc o) b cs T :=
  (Below.heap_alloc w o b h.lt).trans h
theorem Blk.drew {w : World} {b : Nat} {cs : Array Value} {T : TypeId} (h : Blk w b cs T) : Blk w.drew b cs T := h
theorem Blk.drewN {w : World} {b : Nat} {cs : Array Value} {T : TypeId} (h : Blk w b cs T) (n : Nat) : Blk (w.drewN n) b cs T := h
theorem Blk.set {w : World} {b : Nat} {cs : Array Value} {T : TypeId} (h : Blk w b cs T) (o : Nat) (v : Value) : Blk (w.setCell ⟨b, o, none⟩ v) b (cs.setIfInBounds o v) T := by
  have h' : w.heap[b]? = some (.cells cs T (0, 0)) := h
  show (w.heap.modify b _)[b]? = _
  rw [Array.getElem?_modify, if_pos rfl, h']
  rfl
theorem Blk.set_other {w : World} {b : Nat} {cs : Array Value} {T : TypeId} (h : Blk w b cs T) {p : Addr} (hp : b ≠ p.block) (v : Value) : Blk (w.setCell p v) b cs T :=
  (Below.heap_setCell w p v b hp).trans h

/-- Cells written one behind another. -/
def put (w : World) (g : Nat) : Nat → List Value → World
  | _, [] => w
  | o, v :: vs => put (w.setCell ⟨g, o, none⟩ v) g (o + 1) vs
theorem Fr.put {S : List Nat} {a : World} {g : Nat} (hg : g ∈ S ∨ a.heap.size ≤ g) : ∀ (vs : List Value) (o : Nat) {w : World}, Fr S a w → Fr S a (put w g o vs)
  | [], _, _, h => h
  | v :: vs, o, _, h => Fr.put hg vs (o + 1) (h.setCell (p := ⟨g, o, none⟩) hg v)
theorem Blk.put_other {b g : Nat} {cs : Array Value} {T : TypeId} (hb : b ≠ g) : ∀ (vs : List Value) (o : Nat) {w : World}, Blk w b cs T → Blk (put w g o vs) b cs T
  | [], _, _, h => h
  | v :: vs, o, _, h => Blk.put_other hb vs (o + 1) (h.set_other (p := ⟨g, o, none⟩) hb v)
theorem Blk.put_at {g : Nat} {T : TypeId} : ∀ (vs : List Value) (pre old post : List Value) {w : World}, old.length = vs.length →
    Blk w g (pre ++ old ++ post).toArray T → Blk (put w g pre.length vs) g (pre ++ vs ++ post).toArray T
  | [], pre, old, post, w, hl, h => by
    have : old = [] := List.eq_nil_of_length_eq_zero (by simpa using hl)
    subst this
    exact h
  | v :: vs, pre, o :: old, post, w, hl, h => by
    have h1 := Blk.set h pre.length v
    have e : (pre ++ o :: old ++ post).toArray.setIfInBounds pre.length v = ((pre ++ [v]) ++ old ++ post).toArray := by
      simp
    rw [e] at h1
    have h2 := Blk.put_at vs (pre ++ [v]) old post (by simpa using hl) h1
    simp only [List.length_append, List.length_cons, List.length_nil, Nat.zero_add, List.append_assoc, List.cons_append] at h2 ⊢
    exact h2
theorem Blk.put_all {w : World} {g : Nat} {cs : Array Value} {T : TypeId} (h : Blk w g cs T) (vs : List Value) (hl : cs.size = vs.length) : Blk (put w g 0 vs) g vs.toArray T := by
  have := Blk.put_at (T := T) vs [] cs.toList [] (w := w) (by simpa using hl) (by simpa using h)
  simpa using this
theorem put_size (g : Nat) : ∀ (vs : List Value) (o : Nat) (w : World), (put w g o vs).heap.size = w.heap.size
  | [], _, _ => rfl
  | v :: vs, o, w => (put_size g vs (o + 1) _).trans (by simp [World.setCell])

theorem wrap64_byte (c : UInt8) : wrap64 (c.toNat : Int) = (c.toNat : Int) := by
  have := c.toNat_lt
  unfold wrap64
  omega

/-- The world behind draws is another world of which the same is known: the name of the world is given up. -/
theorem fr_drewN (w : World) (n : Nat) : Fr [] w (w.drewN n) := (Fr.refl [] w).drewN n
end Go.Proofs.YtglknnncpaggpaaDoor
