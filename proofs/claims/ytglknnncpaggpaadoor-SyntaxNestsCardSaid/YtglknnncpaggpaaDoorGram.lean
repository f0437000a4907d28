/- The cells of rules and of trees. -/
import Derived.Test.YtglknnncpaggpaaDoorSynK
namespace Go.Proofs.YtglknnncpaggpaaDoor
open Go.RowKit

theorem RulesAt.get {w : World} {ok : Nat → Prop} : ∀ (rs : List Rule) (xs : List Value) (i : Nat) (hi : i < rs.length), RulesAt w ok rs xs → RuleAt w ok rs[i] ((xs.drop (i * 10)).take 10)
  | r :: rs, xs, 0, _, h => by simpa using h.1
  | r :: rs, xs, i + 1, hi, h => by
    have := RulesAt.get rs (xs.drop 10) i (by simpa using hi) h.2
    rw [List.drop_drop] at this
    rw [show (i + 1) * 10 = 10 + i * 10 from by omega]
    exact this
theorem RowAt.get {w : World} {ok : Nat → Prop} : ∀ (ts : List Tree) (xs : List Value) (i : Nat) (hi : i < ts.length), RowAt w ok ts xs → NodeAt w ok ts[i] ((xs.drop (i * 8)).take 8)
  | t :: ts, xs, 0, _, h => by unfold RowAt at h; simpa using h.1
  | t :: ts, xs, i + 1, hi, h => by
    unfold RowAt at h
    have := RowAt.get ts (xs.drop 8) i (by simpa using hi) h.2
    rw [List.drop_drop] at this
    rw [show (i + 1) * 8 = 8 + i * 8 from by omega]
    exact this
theorem add_at (g j : Nat) : (⟨g, 0, none⟩ : Addr).add j = ⟨g, j, none⟩ := by unfold Addr.add; split <;> simp_all
theorem GramV.ptr {w : World} {B : Nat} {lv : Value} {rs : List Rule} (h : GramV w B lv rs) (hn : 0 < rs.length) : ∃ g cap, lv = .slice (some ⟨g, 0, none⟩) rs.length cap ∧ B ≤ g ∧ g < w.heap.size := by
  obtain ⟨xs, h2, _⟩ := h
  exact h2.form hn
/-- The cells of a rule. -/
def RuleCells (w : World) (g o : Nat) (r : Rule) (sp : Option Addr) (sn sc : Nat) : Prop :=
  w.cell? ⟨g, o, none⟩ = some (.string ⟨r.name.toArray⟩) ∧ w.cell? ⟨g, o + 1, none⟩ = some (.int .i64 r.body.kind) ∧ w.cell? ⟨g, o + 2, none⟩ = some (.string ⟨r.body.text.toArray⟩) ∧
  w.cell? ⟨g, o + 3, none⟩ = some (.int .u64 r.body.cls.a) ∧ w.cell? ⟨g, o + 4, none⟩ = some (.int .u64 r.body.cls.b) ∧ w.cell? ⟨g, o + 5, none⟩ = some (.int .u64 r.body.cls.c) ∧ w.cell? ⟨g, o + 6, none⟩ = some (.int .u64 r.body.cls.d) ∧
  w.cell? ⟨g, o + 7, none⟩ = some (.slice sp sn sc) ∧ w.cell? ⟨g, o + 8, none⟩ = some (.int .i64 r.body.at_) ∧ w.cell? ⟨g, o + 9, none⟩ = some (.int .i64 r.at_)
theorem GramV.at {w : World} {B g n cap : Nat} {rs : List Rule} (h : GramV w B (.slice (some ⟨g, 0, none⟩) n cap) rs) (i : Nat) (hi : i < rs.length) :
    ∃ sp sn sc, RuleCells w g (i * 10) rs[i] sp sn sc ∧ NodeAt w (fun b => B ≤ b) rs[i].body [.int .i64 rs[i].body.kind, .string ⟨rs[i].body.text.toArray⟩, .int .u64 rs[i].body.cls.a, .int .u64 rs[i].body.cls.b, .int .u64 rs[i].body.cls.c, .int .u64 rs[i].body.cls.d, .slice sp sn sc, .int .i64 rs[i].body.at_] := by
  obtain ⟨xs, h2, h3⟩ := h
  obtain ⟨ns, hns, hN⟩ := RulesAt.get rs xs i hi h3
  obtain ⟨sp, sn, sc, hsh⟩ := hN.shape
  subst hsh
  have c : ∀ (j : Nat) (u : Value), j < 10 → ((xs.drop (i * 10)).take 10)[j]? = some u → w.cell? ⟨g, i * 10 + j, none⟩ = some u := fun j u hj hu => by
    rw [List.getElem?_take_of_lt hj, List.getElem?_drop] at hu
    rw [← add_at]
    exact h2.cells (g := g) rfl _ _ hu
  rw [hns] at c
  exact ⟨sp, sn, sc, ⟨c 0 _ (by decide) rfl, c 1 _ (by decide) rfl, c 2 _ (by decide) rfl, c 3 _ (by decide) rfl, c 4 _ (by decide) rfl, c 5 _ (by decide) rfl, c 6 _ (by decide) rfl, c 7 _ (by decide) rfl, c 8 _ (by decide) rfl, c 9 _ (by decide) rfl⟩,
    NodeAt.mono (fun b hb => hb.1) _ _ hN⟩

/-! ### The small case -/
def smallS : List UInt8 := [97, 32, 60, 45, 32, 39, 120, 39, 32, 98, 42, 32, 98, 32, 60, 45, 32, 91, 48, 45, 57, 93]
def smallB : Bool := match parseP smallS with
  | .ok [r0, r1] => r0.body.kind == 6 && (r1.name == [98]) && r1.at_ == 12
  | _ => false
theorem smallB_true : smallB = true := by kernel_rfl
theorem small_parse : ∃ r0 r1, parseP smallS = .ok [r0, r1] ∧ r0.body.kind = 6 ∧ r1.name = [98] ∧ r1.at_ = 12 := by
  have h := smallB_true
  unfold smallB at h
  split at h
  · rename_i r0 r1 e
    simp only [Bool.and_eq_true, beq_iff_eq] at h
    exact ⟨r0, r1, e, h.1.1, h.1.2, h.2⟩
  · cases h
set_option maxHeartbeats 4000000 in
set_option maxRecDepth 100000 in
theorem small_any (w : World) (hg : Lg w) : Calls Tryd.prog 11 #[] w fun e w' => e = .returned (.bool true) ∧ Fr [] w w' := by
  obtain ⟨r0, r1, hp, h0, h1, h2⟩ := small_parse
  have CP := Lib.hid (sparse_any ⟨#[97, 32, 60, 45, 32, 39, 120, 39, 32, 98, 42, 32, 98, 32, 60, 45, 32, 91, 48, 45, 57, 93]⟩ w hg (by decide))
  rw [show (⟨#[97, 32, 60, 45, 32, 39, 120, 39, 32, 98, 42, 32, 98, 32, 60, 45, 32, 91, 48, 45, 57, 93]⟩ : ByteArray).data.toList = smallS from rfl, hp] at CP
  go_enter Tryd.func11, Tryd.ntmps11
  go_wp2_with fail
  with_reducible refine CP.out.mono ?_
  rintro e w1 ⟨F1, v, rfl, G1⟩
  obtain ⟨g, cap, rfl, hBg, hg1⟩ := G1.ptr (by simp)
  obtain ⟨_, _, _, ⟨a0, a1, a2, a3, a4, a5, a6, a7, a8, a9⟩, _⟩ := G1.at 0 (by simp)
  obtain ⟨_, _, _, ⟨b0, b1, b2, b3, b4, b5, b6, b7, b8, b9⟩, _⟩ := G1.at 1 (by simp)
  simp only [List.getElem_cons_zero, List.getElem_cons_succ] at a0 a1 b0 b9
  rw [h0] at a1
  rw [h1] at b0
  rw [h2] at b9
  simp only [List.length_cons, List.length_nil]
  go_upto_region 2 with fail
  have F2 := F1.alloc (.cells #[.slice (some ⟨g, 0, none⟩) (0 + 1 + 1) cap] 25)
  have ka : ∀ (o : Nat) (u : Value), w1.cell? ⟨g, o, none⟩ = some u → (w1.alloc (.cells #[.slice (some ⟨g, 0, none⟩) (0 + 1 + 1) cap] 25)).cell? ⟨g, o, none⟩ = some u := fun o u h => (World.cell?_alloc_lt _ _ ⟨g, o, none⟩ hg1).trans h
  have a1' := ka _ _ a1
  have b0' := ka _ _ b0
  have b9' := ka _ _ b9
  clear ka a0 a1 a2 a3 a4 a5 a6 a7 a8 a9 b0 b1 b2 b3 b4 b5 b6 b7 b8 b9 h0 h1 h2 hp CP
  go_wp2_with fail
  go_ret
  exact ⟨rfl, F2⟩
end Go.Proofs.YtglknnncpaggpaaDoor
