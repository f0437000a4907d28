/- strings.Builder: WriteString, Len, String. -/
import Derived.Test.YtglknnncpaggpaaDoorBld
import Derived.RegionTactic
namespace Go.Proofs.YtglknnncpaggpaaDoor
open Go.RowKit

def WriteStPost (T B b : Nat) (l : List UInt8) (n : Nat) (w : World) (e : Ending) (w' : World) : Prop := e = .returned (.tuple #[.int .i64 n, .nilIface]) ∧ Bd T B b l w' ∧ BF B b w w'
set_option maxHeartbeats 2000000 in
set_option maxRecDepth 100000 in
theorem writeString_any (T : TypeId) (hT : BT T) (B b : Nat) (l : List UInt8) (s : ByteArray) (w : World) (h : Bd T B b l w) (hlen : l.length ≤ 1000000000) (hs : s.size ≤ 1000000000) :
    Calls Tryd.prog 32 #[.pointer (some ⟨b, 0, none⟩), .string s] w (WriteStPost T B b (l ++ s.data.toList) s.size w) := by
  obtain ⟨i0, hi, hz0, hz1, hz2⟩ := info_parts Tryd.info_byte
  have hB := h.1
  have CC := Lib.hid (copyCheck_any T hT B b l w h)
  go_enter Tryd.func32, Tryd.ntmps32
  go_wp2_with fail
  refine CC.out.mono ?_
  rintro e w1 ⟨rfl, F1, hBw, v, hbk, hown, hne⟩
  have c1 : w1.cell? ⟨b, 1, none⟩ = some v := Blk.cell hbk 1 rfl
  go_wp2_with (at_builtin; refine Lib.wpList_append_own_string _ rfl _ _ 80 9 rfl B 5 i0 Tryd.underlying80 Tryd.underlying9 hi hz0 hz1 hz2 _ _ _ rfl hown s rfl ?c3 ?c4 ?c5 ?_)
  case c3 => unfold maxLen; omega
  case c4 => omega
  case c5 => omega
  intro v' w2 hown' hgrow _
  have hb2 : Blk w2 b #[.pointer (some ⟨b, 0, none⟩), v] T := (hgrow.block b hbk.lt (fun e => hne e.symm)).trans hbk
  have d1 : w2.cell? ⟨b, 1, none⟩ = some v := Blk.cell hb2 1 rfl
  have f1 : w2.frozen? ⟨b, 1, none⟩ = false := Blk.free hb2 1
  obtain ⟨ao, n', cap, rfl⟩ : ∃ ao n' cap, v' = .slice ao n' cap := by
    rcases hown'.2 with ⟨hv, _⟩ | ⟨g, cap, cur, hv, _⟩
    · exact ⟨_, _, _, hv⟩
    · exact ⟨_, _, _, hv⟩
  go_wp2
  go_ret2
  have hne' : (Value.slice ao n' cap).ownBlock ≠ some b := by
    rcases hown'.2 with ⟨h0, _⟩ | ⟨g', cap', cur, hv, _, hh, _⟩
    · rw [h0]; simp [Value.ownBlock]
    · rw [hv]
      intro e
      simp only [Value.ownBlock, Option.some.injEq] at e
      subst e
      exact hb2.not_u8 hT.ne ⟨cur, _, hh⟩
  refine ⟨rfl, ⟨hB, ?_, _, _, .inr rfl, Blk.set hb2 1 _, ?_, hne'⟩, ?_⟩
  · have := hgrow.size; simp [World.setCell] at this ⊢; omega
  · have hk : (w2.setCell ⟨b, 1, none⟩ (.slice ao n' cap)).ownsRow B 5 1 (.slice ao n' cap) (l.length + s.size) (Lib.byteCells l ++ Lib.strCells s) :=
      hown'.kept (row := some b) ⟨rfl, rfl, rfl, by simp [World.setCell], fun k _ hk => Below.heap_setCell _ _ _ _ (fun e => hk (by simp [e]))⟩ (Or.inr hne')
    have e1 : Lib.byteCells (l ++ s.data.toList) = Lib.byteCells l ++ Lib.strCells s := by simp [Lib.byteCells, Lib.strCells]
    have e2 : s.data.toList.length = s.size := rfl
    rw [e1, List.length_append, e2]
    exact hk
  · have h3 : BF B b w1 w2 := ⟨hgrow.os, hgrow.tape, hgrow.output, hgrow.size, fun k hk hn hu => hgrow.block k hk (fun e => by
        rcases hown.2 with ⟨h0, _⟩ | ⟨g', cap', cur, hv, hg', hh, _⟩
        · rw [h0] at e; simp [Value.ownBlock] at e
        · rw [hv] at e
          simp only [Value.ownBlock, Option.some.injEq] at e
          subst e
          exact hu hg' ⟨cur, _, hh⟩)⟩
    exact ((BF.of_fr1 F1).trans h3).trans (BF.of_fr1 ((Fr.refl [b] w2).setCell (p := ⟨b, 1, none⟩) (.inl (by simp)) _))

theorem Bd.buf {T B b : Nat} {l : List UInt8} {w : World} (h : Bd T B b l w) : ∃ p ao cap, Blk w b #[p, .slice ao l.length cap] T := by
  obtain ⟨_, _, p, v, _, hk, ho, _⟩ := h
  rcases ho.2 with ⟨rfl, h0⟩ | ⟨g, cap, cur, rfl, _⟩
  · exact ⟨p, none, 0, by rw [h0]; exact hk⟩
  · exact ⟨p, _, cap, hk⟩
set_option maxHeartbeats 1000000 in
theorem len_any (T B b : Nat) (l : List UInt8) (w : World) (h : Bd T B b l w) :
    Calls Tryd.prog 62 #[.pointer (some ⟨b, 0, none⟩)] w fun e w' => e = .returned (.int .i64 l.length) ∧ w = w' := by
  obtain ⟨p, ao, cap, hk⟩ := h.buf
  have c1 : w.cell? ⟨b, 1, none⟩ = some (.slice ao l.length cap) := Blk.cell hk 1 rfl
  go_enter Tryd.func62, Tryd.ntmps62
  go_wp2
  go_ret
  exact ⟨rfl, rfl⟩

/-- A builder that is read, its bytes frozen or not. -/
def BdR (T B b : Nat) (l : List UInt8) (w : World) : Prop :=
  ∃ p v, Blk w b #[p, v] T ∧ ((v = .slice none 0 0 ∧ l = []) ∨
    ∃ g cap cur fz, v = .slice (some ⟨g, 0, none⟩) l.length cap ∧ B ≤ g ∧ w.heap[g]? = some (.cells cur 5 fz) ∧ l.length ≤ cap ∧ cap ≤ maxLen ∧ cur.size = cap ∧ cur.toList.take l.length = Lib.byteCells l)
theorem Bd.read {T B b : Nat} {l : List UInt8} {w : World} (h : Bd T B b l w) : BdR T B b l w := by
  obtain ⟨_, _, p, v, _, hk, ho, _⟩ := h
  refine ⟨p, v, hk, ?_⟩
  rcases ho.2 with ⟨h1, h2⟩ | ⟨g, cap, cur, h1, h2, h3, h4, h5, h6, h7⟩
  · exact .inl ⟨h1, List.eq_nil_of_length_eq_zero h2⟩
  · exact .inr ⟨g, cap, cur, _, h1, h2, h3, h4, h5, by simpa using h6, by simpa using h7⟩
theorem BdR.fr {T B b : Nat} {l : List UInt8} {w w' : World} {S : List Nat} (h : BdR T B b l w) (hf : Fr S w w') (hS : ∀ k ∈ S, k ≠ b ∧ (B ≤ k → ¬ U8 w k)) : BdR T B b l w' := by
  obtain ⟨p, v, hk, ho⟩ := h
  refine ⟨p, v, hk.fr hf (fun hm => (hS b hm).1 rfl), ?_⟩
  rcases ho with h1 | ⟨g, cap, cur, fz, h1, h2, h3, r⟩
  · exact .inl h1
  · exact .inr ⟨g, cap, cur, fz, h1, h2, (hf.block g (Array.getElem?_eq_some_iff.1 h3).1 (fun hm => (hS g hm).2 h2 ⟨cur, fz, h3⟩)).trans h3, r⟩

def StringPost (T B b : Nat) (l : List UInt8) (w : World) (e : Ending) (w' : World) : Prop := e = .returned (.string ⟨l.toArray⟩) ∧ BdR T B b l w' ∧ BF B b w w'
theorem freeze_bf {B b g n : Nat} {w : World} (hg : B ≤ g) (hu : U8 w g) : BF B b w (w.freeze ⟨g, 0, none⟩ n) := by
  unfold World.freeze
  split
  · exact BF.refl _ _ _
  · exact ⟨rfl, rfl, rfl, by simp, fun k hk hn hu' => by
      simp only [Array.getElem?_modify]
      rw [if_neg (by rintro rfl; exact hu' hg hu)]⟩

set_option maxHeartbeats 2000000 in
set_option maxRecDepth 100000 in
theorem string_any (T : TypeId) (hT : BT T) (B b : Nat) (l : List UInt8) (w : World) (h : BdR T B b l w) (hBb : B ≤ b) :
    Calls Tryd.prog 36 #[.pointer (some ⟨b, 0, none⟩)] w (StringPost T B b l w) := by
  have hr := h
  obtain ⟨p, v, hbk, ho⟩ := h
  have hUN : ∀ (W : World) (q : Option Addr), (Builtin.unsafeString_ #[123, 3] 9 #[.pointer q, .int .i64 0]).run Tryd.prog W = .ok (.string .empty) W := fun W q => Lib.run_unsafeString_none W _ _ _ q
  rcases ho with ⟨rfl, rfl⟩ | ⟨g, cap, cur, fz, rfl, hg, hh, h4, h5, h6, h7⟩
  · have c1 : w.drew.cell? ⟨b, 1, none⟩ = some (.slice none 0 0) := Blk.cell hbk.drew 1 rfl
    have hSD : (Builtin.unsafeSliceData_ #[80] 123 #[.slice none 0 0]).run Tryd.prog w.drew = .ok (.pointer none) w.drew := rfl
    go_enter Tryd.func36, Tryd.ntmps36
    go_wp2
    go_region
    all_goals (go_wp2; go_ret; exact ⟨rfl, hr, BF.of_fr ((Fr.refl [] w).drew)⟩)
  · cases l with
    | nil =>
      by_cases hc : cap = 0
      · subst hc
        have c1 : w.drew.cell? ⟨b, 1, none⟩ = some (.slice (some ⟨g, 0, none⟩) 0 0) := Blk.cell hbk.drew 1 rfl
        have hSD : (Builtin.unsafeSliceData_ #[80] 123 #[.slice (some ⟨g, 0, none⟩) 0 0]).run Tryd.prog w.drew = .ok (.pointer (some ⟨w.drew.heap.size, 0, none⟩)) (w.drew.alloc (.view ⟨g, 0, none⟩ 5)) :=
          Lib.run_unsafeSliceData_zero w.drew _ _ 5 Tryd.underlying123 ⟨g, 0, none⟩ 0 (5, cur.size) (by have hg' : w.drew.heap[g]? = some (.cells cur 5 fz) := hh; simp [World.shape?, hg'])
        have c3 : (w.alloc (.view ⟨g, 0, none⟩ 5)).drew.cell? ⟨b, 1, none⟩ = some (.slice (some ⟨g, 0, none⟩) 0 0) := Blk.cell (hbk.alloc _).drew 1 rfl
        have c0 : w.cell? ⟨b, 1, none⟩ = some (.slice (some ⟨g, 0, none⟩) 0 0) := c1
        have hr' : BdR T B b [] (w.alloc (.view ⟨g, 0, none⟩ 5)).drew := hr.fr (((Fr.refl [] w).alloc _).drew) (by simp)
        go_enter Tryd.func36, Tryd.ntmps36
        go_wp2
        go_region
        all_goals (go_wp2; go_ret; exact ⟨rfl, hr', BF.of_fr (((Fr.refl [] w).alloc _).drew)⟩)
      · have c1 : w.drew.cell? ⟨b, 1, none⟩ = some (.slice (some ⟨g, 0, none⟩) 0 cap) := Blk.cell hbk.drew 1 rfl
        have hSD : (Builtin.unsafeSliceData_ #[80] 123 #[.slice (some ⟨g, 0, none⟩) 0 cap]).run Tryd.prog w.drew = .ok (.pointer (some ⟨g, 0, none⟩)) w.drew :=
          Lib.run_unsafeSliceData_row _ _ _ _ _ _ hc
        clear hc
        go_enter Tryd.func36, Tryd.ntmps36
        go_wp2
        go_region
        all_goals (go_wp2; go_ret; exact ⟨rfl, hr, BF.of_fr ((Fr.refl [] w).drew)⟩)
    | cons x l =>
      have c1 : w.drew.cell? ⟨b, 1, none⟩ = some (.slice (some ⟨g, 0, none⟩) (x :: l).length cap) := Blk.cell hbk.drew 1 rfl
      generalize hL : x :: l = L at *
      have hne : L ≠ [] := by rw [← hL]; simp
      clear hL
      have hne1 : L.length ≠ 0 := by simpa using hne
      have hSD : (Builtin.unsafeSliceData_ #[80] 123 #[.slice (some ⟨g, 0, none⟩) L.length cap]).run Tryd.prog w.drew = .ok (.pointer (some ⟨g, 0, none⟩)) w.drew :=
        Lib.run_unsafeSliceData_row _ _ _ _ _ _ (by omega)
      clear hne1
      have hUS : (Builtin.unsafeString_ #[123, 3] 9 #[.pointer (some ⟨g, 0, none⟩), .int .i64 L.length]).run Tryd.prog w.drew = .ok (.string ⟨L.toArray⟩) (w.drew.freeze ⟨g, 0, none⟩ L.length) := by
        refine Lib.run_unsafeString_row w.drew 123 3 9 5 Tryd.underlying123 Tryd.cells_byte g cur.size (by have hg' : w.drew.heap[g]? = some (.cells cur 5 fz) := hh; simp [World.shape?, hg']) L hne (by omega) (by unfold maxLen at h5; omega) ?_
        intro j y hy
        have hadd : (⟨g, 0, none⟩ : Addr).add j = ⟨g, j, none⟩ := by unfold Addr.add; split <;> simp_all
        rw [hadd]
        show w.cell? _ = _
        have hy' : cur[j]? = some (.int .u8 (y.toNat : Int)) := by
          have h8 : (cur.toList.take L.length)[j]? = some (.int .u8 (y.toNat : Int)) := by rw [h7]; simp [Lib.byteCells, hy]
          rw [List.getElem?_take] at h8
          split at h8
          · simpa using h8
          · cases h8
        simp [World.cell?, hh, hy']
      clear hUN
      have hr' : BdR T B b L (w.drew.freeze ⟨g, 0, none⟩ L.length) := by
        have hbf : BF B b w (w.drew.freeze ⟨g, 0, none⟩ L.length) := (BF.of_fr ((Fr.refl [] w).drew)).trans (freeze_bf hg ⟨cur, fz, hh⟩)
        have hgb : g ≠ b := by rintro rfl; exact hbk.not_u8 hT.ne ⟨cur, fz, hh⟩
        refine ⟨p, .slice (some ⟨g, 0, none⟩) L.length cap, ?_, .inr ⟨g, cap, cur, ?_⟩⟩
        · have e1 : (w.drew.freeze ⟨g, 0, none⟩ L.length).heap[b]? = w.heap[b]? := by
            unfold World.freeze
            split
            · rfl
            · simp only [Array.getElem?_modify]
              rw [if_neg hgb]; rfl
          exact e1.trans hbk
        · have e2 : ∃ fz', (w.drew.freeze ⟨g, 0, none⟩ L.length).heap[g]? = some (.cells cur 5 fz') := by
            unfold World.freeze
            split
            · exact ⟨fz, hh⟩
            · have hh' : w.drew.heap[g]? = some (.cells cur 5 fz) := hh
              simp only [Array.getElem?_modify, if_true, hh']
              exact ⟨_, rfl⟩
          obtain ⟨fz', e2⟩ := e2
          exact ⟨fz', rfl, hg, e2, h4, h5, h6, h7⟩
      have hbf : BF B b w (w.drew.freeze ⟨g, 0, none⟩ L.length) := (BF.of_fr ((Fr.refl [] w).drew)).trans (freeze_bf hg ⟨cur, fz, hh⟩)
      clear hr h7 hbk
      go_enter Tryd.func36, Tryd.ntmps36
      go_wp2
      go_region
      all_goals (go_wp2; go_ret; exact ⟨rfl, hr', hbf⟩)
end Go.Proofs.YtglknnncpaggpaaDoor
