/- Rules in memory. -/
import Derived.Test.YtglknnncpaggpaaDoorSynI
import Derived.Test.YtglknnncpaggpaaDoorPureE
namespace Go.Proofs.YtglknnncpaggpaaDoor
open Go.RowKit

def RuleAt (w : World) (ok : Nat → Prop) (r : Rule) (cs : List Value) : Prop := ∃ ns, cs = .string ⟨r.name.toArray⟩ :: (ns ++ [.int .i64 r.at_]) ∧ NodeAt w ok r.body ns
def RulesAt (w : World) (ok : Nat → Prop) : List Rule → List Value → Prop
  | [], _ => True
  | r :: rs, xs => RuleAt w ok r (xs.take 10) ∧ RulesAt w ok rs (xs.drop 10)
theorem RuleAt.len {w : World} {ok : Nat → Prop} {r : Rule} {cs : List Value} (h : RuleAt w ok r cs) : cs.length = 10 := by
  obtain ⟨ns, rfl, hn⟩ := h
  simp [hn.len]
theorem RuleAt.mono {w : World} {ok ok' : Nat → Prop} {r : Rule} {cs : List Value} (hk : ∀ b, ok b → ok' b) (h : RuleAt w ok r cs) : RuleAt w ok' r cs := by
  obtain ⟨ns, e, hn⟩ := h
  exact ⟨ns, e, NodeAt.mono hk _ _ hn⟩
theorem RuleAt.keep {w w' : World} {ok : Nat → Prop} {r : Rule} {cs : List Value} (hk : ∀ b, ok b → b < w.heap.size → w'.heap[b]? = w.heap[b]?) (h : RuleAt w ok r cs) : RuleAt w' ok r cs := by
  obtain ⟨ns, e, hn⟩ := h
  exact ⟨ns, e, NodeAt.keep hk _ _ hn⟩
theorem RuleAt.lt {w : World} {ok : Nat → Prop} {r : Rule} {cs : List Value} (h : RuleAt w ok r cs) : RuleAt w (fun b => ok b ∧ b < w.heap.size) r cs := by
  obtain ⟨ns, e, hn⟩ := h
  exact ⟨ns, e, NodeAt.lt _ _ hn⟩
theorem RulesAt.mono {w : World} {ok ok' : Nat → Prop} (hk : ∀ b, ok b → ok' b) : ∀ (rs : List Rule) (xs : List Value), RulesAt w ok rs xs → RulesAt w ok' rs xs
  | [], _, _ => trivial
  | _ :: rs, _, h => ⟨h.1.mono hk, RulesAt.mono hk rs _ h.2⟩
theorem RulesAt.keep {w w' : World} {ok : Nat → Prop} (hk : ∀ b, ok b → b < w.heap.size → w'.heap[b]? = w.heap[b]?) : ∀ (rs : List Rule) (xs : List Value), RulesAt w ok rs xs → RulesAt w' ok rs xs
  | [], _, _ => trivial
  | _ :: rs, _, h => ⟨h.1.keep hk, RulesAt.keep hk rs _ h.2⟩
theorem RulesAt.lt {w : World} {ok : Nat → Prop} : ∀ (rs : List Rule) (xs : List Value), RulesAt w ok rs xs → RulesAt w (fun b => ok b ∧ b < w.heap.size) rs xs
  | [], _, _ => trivial
  | _ :: rs, _, h => ⟨h.1.lt, RulesAt.lt rs _ h.2⟩
theorem RulesAt.fr {S : List Nat} {w w' : World} {ok : Nat → Prop} {rs : List Rule} {xs : List Value} (h : RulesAt w ok rs xs) (hf : Fr S w w') (hS : ∀ b ∈ S, ¬ ok b) : RulesAt w' ok rs xs :=
  RulesAt.keep (fun b hb hlt => hf.block b hlt (fun hm => hS b hm hb)) rs xs h
theorem RulesAt.snoc {w : World} {ok : Nat → Prop} {r : Rule} {cs : List Value} (h : RuleAt w ok r cs) : ∀ (rs : List Rule) (xs : List Value), xs.length = rs.length * 10 → RulesAt w ok rs xs → RulesAt w ok (rs ++ [r]) (xs ++ cs)
  | [], xs, hl, _ => by
    have : xs = [] := List.eq_nil_of_length_eq_zero (by simpa using hl)
    subst this
    refine ⟨?_, trivial⟩
    rw [List.nil_append, List.take_of_length_le (by rw [h.len]; exact Nat.le_refl _)]
    exact h
  | u :: rs, xs, hl, hr => by
    simp only [List.length_cons] at hl
    show RuleAt w ok u ((xs ++ cs).take 10) ∧ RulesAt w ok (rs ++ [r]) ((xs ++ cs).drop 10)
    rw [List.take_append_of_le_length (by omega), List.drop_append_of_le_length (by omega)]
    exact ⟨hr.1, RulesAt.snoc h rs _ (by rw [List.length_drop]; omega) hr.2⟩

/-- A slice value that holds rules. -/
def GramV (w : World) (B : Nat) (lv : Value) (rs : List Rule) : Prop :=
  ∃ xs, w.ownsRow B 45 10 lv rs.length xs ∧ RulesAt w (fun b => B ≤ b ∧ lv.ownBlock ≠ some b) rs xs
theorem GramV.nil (w : World) (B : Nat) : GramV w B (.slice none 0 0) [] := ⟨[], World.ownsRow_nil _ _ _ _, trivial⟩
theorem GramV.fr {S : List Nat} {w w' : World} {B : Nat} {lv : Value} {rs : List Rule} (h : GramV w B lv rs) (hf : Fr S w w') (hS : ∀ b ∈ S, b < B) : GramV w' B lv rs := by
  obtain ⟨xs, h2, h3⟩ := h
  exact ⟨xs, ownsRow.fr h2 hf hS, h3.fr hf (fun b hb h => by have := hS b hb; omega)⟩
theorem GramV.mono {w : World} {B B' : Nat} {lv : Value} {rs : List Rule} (h : GramV w B lv rs) (hB : B' ≤ B) : GramV w B' lv rs := by
  obtain ⟨xs, h2, h3⟩ := h
  exact ⟨xs, Slc.mono (ok := fun b => B ≤ b) (ok' := fun b => B' ≤ b) h2 (fun b hb => Nat.le_trans hB hb), h3.mono (fun b hb => ⟨Nat.le_trans hB hb.1, hb.2⟩)⟩
theorem GramV.form {w : World} {B : Nat} {lv : Value} {rs : List Rule} (h : GramV w B lv rs) : ∃ lp lc, lv = .slice lp rs.length lc := by
  obtain ⟨xs, h2, _⟩ := h
  rcases h2.2 with ⟨h0, h00⟩ | ⟨g', cap', cur, hv, _⟩
  · exact ⟨none, 0, by rw [h0, h00]⟩
  · exact ⟨_, _, hv⟩
/-- A rule appended to a slice value: what append leaves. -/
theorem gramV_done {wc w2 : World} {B M gg cap n : Nat} {acc : List Rule} {lv : Value} {xs cs : List Value} {n2 : Rule} {o : Obj} (hn : acc.length = n) (hBM : B ≤ M)
    (hownM : ∀ k, lv.ownBlock = some k → B ≤ k ∧ k < M)
    (GR : RulesAt wc (fun b => B ≤ b ∧ lv.ownBlock ≠ some b) acc xs) (hxs : xs.length = n * 10) (N6 : RuleAt wc (fun b => M ≤ b) n2 cs)
    (hown2 : w2.ownsRow B 45 10 (.slice (some ⟨gg, 0, none⟩) (n + 1) cap) (n + 1) (xs ++ cs))
    (hgrow : (wc.alloc o).grownBy w2 lv.ownBlock) (hat : lv.ownBlock = some gg ∨ gg = wc.heap.size + 1) :
    FrB B [] wc w2 ∧ GramV w2 B (.slice (some ⟨gg, 0, none⟩) (n + 1) cap) (acc ++ [n2]) := by
  subst hn
  have hsz : wc.heap.size + 1 ≤ w2.heap.size := by have := hgrow.size; simpa using this
  have hb : ∀ b, b < wc.heap.size → lv.ownBlock ≠ some b → b ≠ gg ∧ w2.heap[b]? = wc.heap[b]? := by
    intro b h1 h3
    refine ⟨?_, (hgrow.block b (by simp; omega) (fun e => h3 e.symm)).trans (Below.heap_alloc wc o b h1)⟩
    rcases hat with h | h
    · rintro rfl; exact h3 h
    · omega
  have ho : ∀ b, M ≤ b → lv.ownBlock ≠ some b := fun b h e => by have := (hownM b e).2; omega
  refine ⟨⟨hgrow.os, hgrow.tape, hgrow.output, by omega, fun k hk hk2 _ => (hb k hk2 (fun e => by have := (hownM k e).1; omega)).2⟩, xs ++ cs, by rw [List.length_append, List.length_singleton]; exact hown2, ?_⟩
  have ga := RulesAt.keep (w' := w2) (fun b hb1 hb2 => (hb b hb2 hb1.1.2).2) _ _ (RulesAt.lt _ _ GR)
  have ga' := RulesAt.mono (ok' := fun b => B ≤ b ∧ (Value.slice (some ⟨gg, 0, none⟩) (acc.length + 1) cap).ownBlock ≠ some b) (fun b hb1 => ⟨hb1.1.1, fun e => by
    have e' : gg = b := by simpa [Value.ownBlock] using e
    exact (hb b hb1.2 hb1.1.2).1 e'.symm⟩) _ _ ga
  have gn := RuleAt.keep (w' := w2) (fun b hb1 hb2 => (hb b hb2 (ho b hb1.1)).2) (RuleAt.lt N6)
  have gn' := RuleAt.mono (ok' := fun b => B ≤ b ∧ (Value.slice (some ⟨gg, 0, none⟩) (acc.length + 1) cap).ownBlock ≠ some b) (fun b hb1 => ⟨by have := hb1.1; omega, fun e => by
    have e' : gg = b := by simpa [Value.ownBlock] using e
    exact (hb b hb1.2 (ho b hb1.1)).1 e'.symm⟩) gn
  exact RulesAt.snoc gn' _ _ hxs ga'

/-- What Parse leaves. -/
def GParsePost (r : G) (w : World) (e : Ending) (w' : World) : Prop :=
  Fr [] w w' ∧ match r with
  | .ok rs => ∃ v, e = .returned (.tuple #[.agg #[v], .nilIface]) ∧ GramV w' w.heap.size v rs
  | .err code at_ => ∃ v, e = .returned (.tuple #[.agg #[.slice none 0 0], v]) ∧ FaultAt w.heap.size w' v (code : Int) at_
theorem Tryd.info_rule : (Tryd.prog.info? 45).map (fun i => (i.zero, i.size, i.bytes)) = some (some (.agg #[.string ⟨#[]⟩, .int .i64 0, .string ⟨#[]⟩, .int .u64 0, .int .u64 0, .int .u64 0, .int .u64 0, .slice none 0 0, .int .i64 0, .int .i64 0]), 10, 112) := by kernel_rfl
/-- The reader at the start. -/
theorem Rdr.start {w : World} {B br : Nat} {v : Value} {ts : List Tok} (h : ToksAt B w v ts) (hn : 0 < ts.length) (hb : Blk w br #[v, .int .i64 0] 65) : ∃ g, Rdr w br g ts 0 ∧ B ≤ g := by
  rcases h.2 with ⟨_, h0⟩ | ⟨g, cap, cur, rfl, hBg, hh, h1, h2, h3, h4⟩
  · omega
  · exact ⟨g, ⟨0, cap, hb, h1, h2, cur, hh, by simpa using h4, by omega⟩, hBg⟩
theorem ToksAt.start' {w : World} {B br : Nat} {v : Value} {ts : List Tok} (h : ToksAt B w v ts) (hn : 1 ≤ ts.length) (hb : Blk w br #[v, .int .i64 0] 65) : ∃ g, Rdr w br g ts 0 ∧ B ≤ g := Rdr.start h (by omega) hb
end Go.Proofs.YtglknnncpaggpaaDoor
