/- Plain Lean: what the reader leaves is shorter and ends with the end. -/
import Derived.Test.YtglknnncpaggpaaDoorPureC
namespace Go.Proofs.YtglknnncpaggpaaDoor
open Go

structure Good (f : Nat) : Prop where
  choice : ∀ d l t l1, Ends l → choiceP f d l = .ok t l1 → Ends l1 ∧ l1.length ≤ l.length
  choiceL : ∀ d acc l t l1, Ends l → choiceLoop f d acc l = .ok t l1 → Ends l1 ∧ l1.length ≤ l.length
  row : ∀ d l t l1, Ends l → rowP f d l = .ok t l1 → Ends l1 ∧ l1.length ≤ l.length
  rowL : ∀ d acc l t l1, Ends l → rowLoop f d acc l = .ok t l1 → Ends l1 ∧ l1.length ≤ l.length
  part : ∀ d l t l1, Ends l → partP f d l = .ok (some t) l1 → Ends l1 ∧ l1.length < l.length
  partN : ∀ d l l1, Ends l → partP f d l = .ok none l1 → l1 = l
  one : ∀ d l t l1, Ends l → oneP f d l = .ok (some t) l1 → Ends l1 ∧ l1.length < l.length
  oneN : ∀ d l l1, Ends l → oneP f d l = .ok none l1 → l1 = l
  within : ∀ d l t l1, Ends l → (hd l).kind ≠ 6 → withinP f d l = .ok t l1 → Ends l1 ∧ l1.length < l.length

theorem Ends.tail_lt {l : List Tok} (h : Ends l) : l.tail.length < l.length := by
  have := h.len
  rw [List.length_tail]
  omega
theorem wrongAt_ok {α : Type} {l l1 : List Tok} {a : α} (h : wrongAt l = .ok a l1) : False := by
  unfold wrongAt at h
  split at h <;> cases h
theorem kind_ne {k n m : Nat} (h : k = n) (hn : n ≠ m) : k ≠ m := by omega

theorem good (f : Nat) : Good f := by
  induction f with
  | zero =>
    constructor
    · intro d l t l1 _ h; cases h
    · intro d acc l t l1 _ h; cases h
    · intro d l t l1 _ h; cases h
    · intro d acc l t l1 _ h; cases h
    · intro d l t l1 _ h; cases h
    · intro d l l1 _ h; cases h
    · intro d l t l1 _ h; cases h
    · intro d l l1 _ h; cases h
    · intro d l t l1 _ _ h; cases h
  | succ f ih =>
    constructor
    · intro d l t l1 he h
      simp only [choiceP] at h
      split at h
      · cases h
      · cases h
      · rename_i t2 l2 hr
        have h1 := ih.row _ _ _ _ he hr
        have h2 := ih.choiceL _ _ _ _ _ h1.1 h
        exact ⟨h2.1, by omega⟩
    · intro d acc l t l1 he h
      simp only [choiceLoop] at h
      split at h
      · rename_i hs
        have hk := kind_ne (sign_kind hs) (by decide : 5 ≠ 6)
        have h0 := he.tail hk
        have h00 := he.tail_lt
        split at h
        · cases h
        · cases h
        · rename_i t2 l2 hr
          have h1 := ih.row _ _ _ _ h0 hr
          have h2 := ih.choiceL _ _ _ _ _ h1.1 h
          exact ⟨h2.1, by omega⟩
      · cases h
        exact ⟨he, Nat.le_refl _⟩
    · intro d l t l1 he h
      simp only [rowP] at h
      exact ih.rowL _ _ _ _ _ he h
    · intro d acc l t l1 he h
      simp only [rowLoop] at h
      split at h
      · cases h
      · cases h
      · rename_i l2 hr
        have h1 := ih.partN _ _ _ he hr
        subst h1
        split at h
        · cases h
          exact ⟨he, Nat.le_refl _⟩
        · cases h
          exact ⟨he, Nat.le_refl _⟩
      · rename_i t2 l2 hr
        have h1 := ih.part _ _ _ _ he hr
        have h2 := ih.rowL _ _ _ _ _ h1.1 h
        exact ⟨h2.1, by omega⟩
    · intro d l t l1 he h
      simp only [partP] at h
      have hA : Ends (if aheadOf (signOf l) = 0 then l else l.tail) ∧ (if aheadOf (signOf l) = 0 then l else l.tail).length ≤ l.length := by
        split
        · exact ⟨he, Nat.le_refl _⟩
        · rename_i ha
          exact ⟨he.tail (kind_ne (ahead_kind ha) (by decide)), Nat.le_of_lt he.tail_lt⟩
      split at h
      · cases h
      · cases h
      · split at h
        · cases h
        · exact absurd h (fun h => wrongAt_ok h)
      · rename_i n l2 hr
        have h1 := ih.one _ _ _ _ hA.1 hr
        injection h with h3 h4
        split at h4
        · subst h4
          exact ⟨h1.1, by omega⟩
        · rename_i hb
          subst h4
          have := h1.1.tail_lt
          exact ⟨h1.1.tail (kind_ne (behind_kind hb) (by decide)), by omega⟩
    · intro d l l1 he h
      simp only [partP] at h
      split at h
      · cases h
      · cases h
      · rename_i l2 hr
        split at h
        · rename_i ha
          rw [if_pos ha] at hr
          injection h with _ h
          subst h
          exact ih.oneN _ _ _ he hr
        · exact absurd h (fun h => wrongAt_ok h)
      · cases h
    · intro d l t l1 he h
      simp only [oneP] at h
      split at h
      · split at h
        · cases h
        · injection h with _ h
          subst h
          exact ⟨he.tail (by omega), he.tail_lt⟩
      · split at h
        · injection h with _ h
          subst h
          exact ⟨he.tail (by omega), he.tail_lt⟩
        · split at h
          · injection h with _ h
            subst h
            exact ⟨he.tail (by omega), he.tail_lt⟩
          · split at h
            · split at h
              · injection h with _ h
                subst h
                exact ⟨he.tail (by omega), he.tail_lt⟩
              · split at h
                · split at h
                  · cases h
                  · cases h
                  · rename_i hr
                    injection h with _ h
                    subst h
                    exact ih.within _ _ _ _ he (by omega) hr
                · cases h
            · cases h
    · intro d l l1 he h
      simp only [oneP] at h
      split at h
      · split at h
        · injection h with _ h
          exact h.symm
        · cases h
      · split at h
        · cases h
        · split at h
          · cases h
          · split at h
            · split at h
              · cases h
              · split at h
                · split at h <;> cases h
                · injection h with _ h
                  exact h.symm
            · injection h with _ h
              exact h.symm
    · intro d l t l1 he hk h
      simp only [withinP] at h
      split at h
      · cases h
      · have h0 := he.tail hk
        have h00 := he.tail_lt
        split at h
        · cases h
        · cases h
        · rename_i t2 l2 hr
          have h1 := ih.choice _ _ _ _ h0 hr
          split at h
          · rename_i hs
            injection h with _ h
            subst h
            have := h1.1.tail_lt
            exact ⟨h1.1.tail (kind_ne (sign_kind hs) (by decide)), by omega⟩
          · exact absurd h (fun h => wrongAt_ok h)
end Go.Proofs.YtglknnncpaggpaaDoor
