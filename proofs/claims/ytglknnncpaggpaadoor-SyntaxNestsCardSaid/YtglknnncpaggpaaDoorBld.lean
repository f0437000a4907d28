/- strings.Builder: copyCheck, Len, WriteByte, WriteString, String; in a block of its own or as the only field of a struct. -/
import Derived.Test.YtglknnncpaggpaaDoorBase
import Derived.Test.YtglknnncpaggpaaDoorRows
import Derived.Test.YtglknnncpaggpaaDoorShelf
import Derived.Deep.QuietTactic
import Derived.BigQuiet
import Derived.Lib.Builder
import Derived.Lib.UnsafeStr
import Derived.Lib.AppendStr
import Derived.RegionTactic
namespace Go.Proofs.YtglknnncpaggpaaDoor
open Go.RowKit

/-- Block k is a row of bytes. -/
def U8 (w : World) (k : Nat) : Prop := ∃ cs fz, w.heap[k]? = some (.cells cs 5 fz)
/-- All is as it was but for block b, rows of bytes from B on, and new blocks. -/
structure BF (B b : Nat) (w w' : World) : Prop where
  os : w'.os = w.os
  tape : w'.tape = w.tape
  output : w'.output = w.output
  size : w.heap.size ≤ w'.heap.size
  block : ∀ k, k < w.heap.size → k ≠ b → (B ≤ k → ¬ U8 w k) → w'.heap[k]? = w.heap[k]?
theorem BF.refl (B b : Nat) (w : World) : BF B b w w := ⟨rfl, rfl, rfl, Nat.le_refl _, fun _ _ _ _ => rfl⟩
theorem BF.trans {B b : Nat} {a c d : World} (h : BF B b a c) (k : BF B b c d) : BF B b a d :=
  ⟨k.os.trans h.os, k.tape.trans h.tape, k.output.trans h.output, Nat.le_trans h.size k.size, fun i hi hn hu => by
    have e := h.block i hi hn hu
    exact (k.block i (Nat.lt_of_lt_of_le hi h.size) hn (fun hB ⟨cs, fz, hx⟩ => hu hB ⟨cs, fz, e ▸ hx⟩)).trans e⟩
theorem BF.of_fr {B b : Nat} {w w' : World} (h : Fr [] w w') : BF B b w w' := ⟨h.os, h.tape, h.output, h.size, fun k hk _ _ => h.block k hk (by simp)⟩
theorem BF.of_fr1 {B b : Nat} {w w' : World} (h : Fr [b] w w') : BF B b w w' := ⟨h.os, h.tape, h.output, h.size, fun k hk hn _ => h.block k hk (by simpa using hn)⟩
theorem BF.below {B b : Nat} {w w' : World} (h : BF B b w w') (hb : B ≤ b) (hB : B ≤ w.heap.size) : Below B w w' :=
  ⟨h.os, h.tape, h.output, h.size, fun k hk => h.block k (by omega) (by omega) (fun hx => absurd hx (by omega))⟩
theorem BF.fr {B b : Nat} {w w' : World} (h : BF B b w w') {S : List Nat} {w0 : World} (h0 : Fr S w0 w) (hB : w0.heap.size ≤ B) (hb : B ≤ b) : Fr S w0 w' :=
  ⟨h.os.trans h0.os, h.tape.trans h0.tape, h.output.trans h0.output, Nat.le_trans h0.size h.size, fun k hk hn =>
    (h.block k (Nat.lt_of_lt_of_le hk h0.size) (by omega) (fun hx => absurd hx (by omega))).trans (h0.block k hk hn)⟩
theorem Blk.bf {B b k : Nat} {cs : Array Value} {T : TypeId} {w w' : World} (h : Blk w k cs T) (hf : BF B b w w') (hk : k ≠ b) (hT : T ≠ 5 ∨ k < B) : Blk w' k cs T :=
  (hf.block k h.lt hk (fun hB ⟨cs', fz, hx⟩ => by
    rcases hT with hT | hT
    · have h' : w.heap[k]? = some (.cells cs T (0, 0)) := h
      rw [h'] at hx
      injection hx with hx
      injection hx with _ hx _
      exact hT hx
    · omega)).trans h

/-- What the type of the block must be. -/
structure BT (T : TypeId) : Prop where
  lies : liesAt Tryd.prog Tryd.prog.depth T (2 / Tryd.prog.cellsOf T) 0 82 1 = true
  ne : T ≠ 5
theorem Tryd.bt_builder : BT 82 := ⟨by kernel_rfl, by decide⟩
theorem Tryd.bt_page : BT 84 := ⟨by kernel_rfl, by decide⟩
theorem Tryd.size_builder : (Tryd.prog.info? 82).map (·.size) = some 2 := by kernel_rfl
theorem Tryd.info_byte : (Tryd.prog.info? 5).map (fun i => (i.zero, i.size, i.bytes)) = some (some (.int .u8 0), 1, 1) := by kernel_rfl
theorem Tryd.cells_byte : Tryd.prog.cellsOf 5 = 1 := by kernel_rfl

set_option maxHeartbeats 1000000 in
set_option maxRecDepth 100000 in
theorem copyCheck_used (b : Nat) (w : World) (h0 : w.cell? ⟨b, 0, none⟩ = some (.pointer (some ⟨b, 0, none⟩))) :
    Calls Tryd.prog 57 #[.pointer (some ⟨b, 0, none⟩)] w fun e w' => e = .returned (.tuple #[]) ∧ w' = w := by
  obtain ⟨j, hj, _⟩ := Option.map_eq_some_iff.1 Tryd.size_builder
  go_enter Tryd.func57, Tryd.ntmps57
  go_wp2
  rw [Lib.run_neq_ptr_same w _ Tryd.underlying79 hj]
  go_wp2
  go_end0
  exact ⟨rfl, rfl⟩

set_option maxHeartbeats 1000000 in
set_option maxRecDepth 100000 in
theorem copyCheck_fresh (T : TypeId) (hT : BT T) (b : Nat) (w : World) (h0 : w.cell? ⟨b, 0, none⟩ = some (.pointer none)) (hsh : w.shape? b = some (T, 2)) (hfz : w.frozen? ⟨b, 0, none⟩ = false) :
    Calls Tryd.prog 57 #[.pointer (some ⟨b, 0, none⟩)] w fun e w' => e = .returned (.tuple #[]) ∧ w' = w.setCell ⟨b, 0, none⟩ (.pointer (some ⟨b, 0, none⟩)) := by
  obtain ⟨j, hj, hjs⟩ := Option.map_eq_some_iff.1 Tryd.size_builder
  go_enter Tryd.func57, Tryd.ntmps57
  go_wp2
  rw [Lib.run_to_unsafe w ⟨b, 0, none⟩ Tryd.underlying79 Tryd.underlying104 hj (by rw [hjs]; decide) hsh (Nat.zero_lt_succ 1)]
  simp only [Result.andThen]
  rw [Oper.upon_value]
  go_wp2
  rw [run_callFunc_extern Tryd.func81 (by kernel_rfl) (by kernel_rfl) (by kernel_rfl) (e := Extern.AbiNoEscape.same) (by kernel_rfl)]
  rw [Lib.run_noEscape]
  simp only [Result.andThen]
  rw [Oper.upon_value]
  go_wp2
  rw [Lib.run_from_unsafe w ⟨b, 0, none⟩ Tryd.underlying104 Tryd.underlying79 hj hsh hT.lies]
  simp only [Result.andThen]
  rw [Oper.upon_value]
  go_wp2
  go_end0
  exact ⟨rfl, rfl⟩

/-- A builder in block b, from B on, that holds these bytes. -/
def Bd (T B b : Nat) (l : List UInt8) (w : World) : Prop :=
  B ≤ b ∧ B ≤ w.heap.size ∧ ∃ p v, (p = .pointer none ∨ p = .pointer (some ⟨b, 0, none⟩)) ∧ Blk w b #[p, v] T ∧ w.ownsRow B 5 1 v l.length (Lib.byteCells l) ∧ v.ownBlock ≠ some b
theorem Bd.new (T : TypeId) (w : World) : Bd T w.heap.size w.heap.size [] (w.alloc (.cells #[.pointer none, .slice none 0 0] T)) :=
  ⟨Nat.le_refl _, by simp, _, _, .inl rfl, Blk.new _ _ _, World.ownsRow_nil _ _ _ _, by simp [Value.ownBlock]⟩
theorem Bd.lt {T B b : Nat} {l : List UInt8} {w : World} (h : Bd T B b l w) : b < w.heap.size := by
  obtain ⟨_, _, _, _, _, h, _⟩ := h; exact h.lt
/-- A builder stands where neither its block nor a row of bytes has turned. -/
theorem Bd.kept {T B b : Nat} {l : List UInt8} {w w' : World} (h : Bd T B b l w) (hs : w.heap.size ≤ w'.heap.size) (hb : ∀ k, k < w.heap.size → (k = b ∨ B ≤ k ∧ U8 w k) → w'.heap[k]? = w.heap[k]?) : Bd T B b l w' := by
  obtain ⟨h1, h2, p, v, hp, hk, ho, hn⟩ := h
  refine ⟨h1, Nat.le_trans h2 hs, p, v, hp, (hb b hk.lt (.inl rfl)).trans hk, ⟨ho.1, ?_⟩, hn⟩
  rcases ho.2 with h3 | ⟨g, cap, cur, hv, hg, hh, r⟩
  · exact .inl h3
  · refine .inr ⟨g, cap, cur, hv, hg, ?_, r⟩
    rw [hb g (Array.getElem?_eq_some_iff.1 hh).1 (.inr ⟨hg, cur, _, hh⟩)]
    exact hh
theorem Bd.fr {T B b : Nat} {l : List UInt8} {w w' : World} {S : List Nat} (h : Bd T B b l w) (hf : Fr S w w') (hS : ∀ k ∈ S, k ≠ b ∧ (B ≤ k → ¬ U8 w k)) : Bd T B b l w' :=
  h.kept hf.size fun k hk hu => hf.block k hk fun hm => by
    obtain ⟨h1, h2⟩ := hS k hm
    rcases hu with hu | ⟨hu1, hu2⟩
    · exact h1 hu
    · exact h2 hu1 hu2
theorem Bd.drew {T B b : Nat} {l : List UInt8} {w : World} (h : Bd T B b l w) : Bd T B b l w.drew := h
theorem Blk.not_u8 {w : World} {k : Nat} {cs : Array Value} {T : TypeId} (h : Blk w k cs T) (hT : T ≠ 5) : ¬ U8 w k := fun ⟨cs', fz, hx⟩ => by
  have h' : w.heap[k]? = some (.cells cs T (0, 0)) := h
  rw [h'] at hx
  injection hx with hx
  injection hx with _ hx _
  exact hT hx

theorem copyCheck_any (T : TypeId) (hT : BT T) (B b : Nat) (l : List UInt8) (w : World) (h : Bd T B b l w) :
    Calls Tryd.prog 57 #[.pointer (some ⟨b, 0, none⟩)] w fun e w' => e = .returned (.tuple #[]) ∧ Fr [b] w w' ∧
      (B ≤ w'.heap.size ∧ ∃ v, Blk w' b #[.pointer (some ⟨b, 0, none⟩), v] T ∧ w'.ownsRow B 5 1 v l.length (Lib.byteCells l) ∧ v.ownBlock ≠ some b) := by
  obtain ⟨h1, h2, p, v, hp, hk, ho, hn⟩ := h
  rcases hp with rfl | rfl
  · have hsh : w.shape? b = some (T, 2) := by
      have h' : w.heap[b]? = some (.cells #[.pointer none, v] T (0, 0)) := hk
      simp [World.shape?, h']
    refine (copyCheck_fresh T hT b w (Blk.cell hk 0 rfl) hsh (Blk.free hk 0)).mono ?_
    rintro e w' ⟨rfl, rfl⟩
    refine ⟨rfl, (Fr.refl _ _).setCell (.inl (by simp)) _, by simpa [World.setCell] using h2, v, Blk.set hk 0 _, ?_, hn⟩
    exact ho.kept (row := some b) ⟨rfl, rfl, rfl, by simp [World.setCell], fun k _ hk => Below.heap_setCell _ _ _ _ (fun e => hk (by simp [e]))⟩ (Or.inr hn)
  · refine (copyCheck_used b w (Blk.cell hk 0 rfl)).mono ?_
    rintro e w' ⟨rfl, rfl⟩
    exact ⟨rfl, Fr.refl _ _, h2, v, hk, ho, hn⟩

def WriteByPost (T B b : Nat) (l : List UInt8) (w : World) (e : Ending) (w' : World) : Prop := e = .returned .nilIface ∧ Bd T B b l w' ∧ BF B b w w'
set_option maxHeartbeats 2000000 in
set_option maxRecDepth 100000 in
theorem writeByte_any (T : TypeId) (hT : BT T) (B b : Nat) (l : List UInt8) (x : UInt8) (w : World) (h : Bd T B b l w) (hlen : l.length ≤ 1000000000) :
    Calls Tryd.prog 34 #[.pointer (some ⟨b, 0, none⟩), .int .u8 x.toNat] w (WriteByPost T B b (l ++ [x]) w) := by
  obtain ⟨i0, hi, hz0, hz1, hz2⟩ := info_parts Tryd.info_byte
  have hB := h.1
  have CC := Lib.hid (copyCheck_any T hT B b l w h)
  obtain ⟨c, hc⟩ : ∃ c : Int, c = x.toNat := ⟨_, rfl⟩
  rw [← hc]
  have HC := Lib.hid hc
  clear hc
  go_enter Tryd.func34, Tryd.ntmps34
  go_wp2_with fail
  refine CC.out.mono ?_
  rintro e w1 ⟨rfl, F1, hBw, v, hbk, hown, hne⟩
  have c1 : w1.cell? ⟨b, 1, none⟩ = some v := Blk.cell hbk 1 rfl
  go_wp2_with (at_builtin; refine wpList_append_own _ rfl _ _ 80 rfl B 5 i0 (.int .u8 0) 1 1 Tryd.underlying80 hi hz0 hz1 hz2 rfl (by decide) _ _ _ rfl (hown.alloc _) ⟨w1.heap.size, 0, none⟩ 1 1 [.int .u8 c] rfl rfl ?c1 ?c2 ?c3 ?c4 ?c5 ?_)
  case c1 =>
    intro j u hj
    match j, hj with
    | 0, hj => simp at hj; subst hj; simp [Addr.add]
  case c2 => intro u hu; simp at hu; subst hu; rfl
  case c3 => unfold maxLen; omega
  case c4 => omega
  case c5 => simp; omega
  intro v' w2 hown' hgrow _
  have hb2 : Blk w2 b #[.pointer (some ⟨b, 0, none⟩), v] T := (hgrow.block b (by have := hbk.lt; simp; omega) (fun e => hne e.symm)).trans (hbk.alloc _)
  have d1 : w2.cell? ⟨b, 1, none⟩ = some v := Blk.cell hb2 1 rfl
  have f1 : w2.frozen? ⟨b, 1, none⟩ = false := Blk.free hb2 1
  obtain ⟨g, cap, rfl⟩ : ∃ g cap, v' = .slice (some ⟨g, 0, none⟩) (l.length + 1) cap := by
    rcases hown'.2 with ⟨_, h0⟩ | ⟨g, cap, cur, hv, _⟩
    · omega
    · exact ⟨g, cap, hv⟩
  go_wp2
  go_ret
  have hc := HC.out
  subst hc
  have hne' : (Value.slice (some ⟨g, 0, none⟩) (l.length + 1) cap).ownBlock ≠ some b := by
    rcases hown'.2 with ⟨h0, _⟩ | ⟨g', cap', cur, hv, _, hh, _⟩
    · cases h0
    · injection hv with hv1 hv2 hv3
      injection hv1 with hv1
      injection hv1 with hv1
      subst hv1
      intro e
      simp only [Value.ownBlock, Option.some.injEq] at e
      subst e
      exact hb2.not_u8 hT.ne ⟨cur, _, hh⟩
  refine ⟨rfl, ⟨hB, ?_, _, _, .inr rfl, Blk.set hb2 1 _, ?_, hne'⟩, ?_⟩
  · have := hgrow.size; simp [World.setCell] at this ⊢; omega
  · have hk : (w2.setCell ⟨b, 1, none⟩ (.slice (some ⟨g, 0, none⟩) (l.length + 1) cap)).ownsRow B 5 1 (.slice (some ⟨g, 0, none⟩) (l.length + 1) cap) (l.length + 1) (Lib.byteCells l ++ [.int .u8 (x.toNat : Int)]) :=
      hown'.kept (row := some b) ⟨rfl, rfl, rfl, by simp [World.setCell], fun k _ hk => Below.heap_setCell _ _ _ _ (fun e => hk (by simp [e]))⟩ (Or.inr hne')
    have e1 : Lib.byteCells (l ++ [x]) = Lib.byteCells l ++ [.int .u8 (x.toNat : Int)] := by simp [Lib.byteCells]
    rw [e1, List.length_append]
    exact hk
  · have h3 : BF B b w1 w2 := ⟨hgrow.os, hgrow.tape, hgrow.output, by have := hgrow.size; simp at this; omega, fun k hk hn hu => by
      have e1 := hgrow.block k (by simp; omega) (fun e => by
        rcases hown.2 with ⟨h0, _⟩ | ⟨g', cap', cur, hv, hg', hh, _⟩
        · rw [h0] at e; simp [Value.ownBlock] at e
        · rw [hv] at e
          simp only [Value.ownBlock, Option.some.injEq] at e
          subst e
          exact hu hg' ⟨cur, _, hh⟩)
      exact e1.trans (Below.heap_alloc _ _ _ hk)⟩
    exact ((BF.of_fr1 F1).trans h3).trans (BF.of_fr1 ((Fr.refl [b] w2).setCell (p := ⟨b, 1, none⟩) (.inl (by simp)) _))
end Go.Proofs.YtglknnncpaggpaaDoor
