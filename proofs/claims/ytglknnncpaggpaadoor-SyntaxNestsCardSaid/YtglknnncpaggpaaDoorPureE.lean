/- Plain Lean: the fuel is enough; a cut source ends with the end, and has few tokens. -/
import Derived.Test.YtglknnncpaggpaaDoorPureD
namespace Go.Proofs.YtglknnncpaggpaaDoor
open Go

structure Tot (f : Nat) : Prop where
  choice : ∀ d l, Ends l → 6 * l.length + 6 ≤ f → choiceP f d l ≠ .out
  choiceL : ∀ d acc l, Ends l → 6 * l.length + 5 ≤ f → choiceLoop f d acc l ≠ .out
  row : ∀ d l, Ends l → 6 * l.length + 5 ≤ f → rowP f d l ≠ .out
  rowL : ∀ d acc l, Ends l → 6 * l.length + 4 ≤ f → rowLoop f d acc l ≠ .out
  part : ∀ d l, Ends l → 6 * l.length + 3 ≤ f → partP f d l ≠ .out
  one : ∀ d l, Ends l → 6 * l.length + 2 ≤ f → oneP f d l ≠ .out
  within : ∀ d l, Ends l → (hd l).kind ≠ 6 → 6 * l.length + 1 ≤ f → withinP f d l ≠ .out

theorem wrongAt_ne {α : Type} (l : List Tok) : (wrongAt l : Res α) ≠ .out := by
  unfold wrongAt
  split <;> intro h <;> cases h
theorem tot (f : Nat) : Tot f := by
  induction f with
  | zero =>
    constructor
    · intro d l _ h; omega
    · intro d acc l _ h; omega
    · intro d l _ h; omega
    · intro d acc l _ h; omega
    · intro d l _ h; omega
    · intro d l _ h; omega
    · intro d l _ _ h; omega
  | succ f ih =>
    have G := good f
    constructor
    · intro d l he hf
      simp only [choiceP]
      have h1 := ih.row d l he (by omega)
      split
      · rename_i h; exact absurd h h1
      · intro h; cases h
      · rename_i t l1 hr
        have h2 := G.row _ _ _ _ he hr
        exact ih.choiceL _ _ _ h2.1 (by omega)
    · intro d acc l he hf
      simp only [choiceLoop]
      split
      · rename_i hs
        have hk := kind_ne (sign_kind hs) (by decide : 5 ≠ 6)
        have h0 := he.tail hk
        have h00 := he.tail_lt
        have h1 := ih.row d l.tail h0 (by omega)
        split
        · rename_i h; exact absurd h h1
        · intro h; cases h
        · rename_i t l1 hr
          have h2 := G.row _ _ _ _ h0 hr
          exact ih.choiceL _ _ _ h2.1 (by omega)
      · intro h; cases h
    · intro d l he hf
      simp only [rowP]
      exact ih.rowL _ _ _ he (by omega)
    · intro d acc l he hf
      simp only [rowLoop]
      have h1 := ih.part d l he (by omega)
      split
      · rename_i h; exact absurd h h1
      · intro h; cases h
      · split <;> intro h <;> cases h
      · rename_i t l1 hr
        have h2 := G.part _ _ _ _ he hr
        exact ih.rowL _ _ _ h2.1 (by omega)
    · intro d l he hf
      simp only [partP]
      have hA : Ends (if aheadOf (signOf l) = 0 then l else l.tail) ∧ (if aheadOf (signOf l) = 0 then l else l.tail).length ≤ l.length := by
        split
        · exact ⟨he, Nat.le_refl _⟩
        · rename_i ha
          exact ⟨he.tail (kind_ne (ahead_kind ha) (by decide)), Nat.le_of_lt he.tail_lt⟩
      have h1 := ih.one d _ hA.1 (by omega)
      split
      · rename_i h; exact absurd h h1
      · intro h; cases h
      · split
        · intro h; cases h
        · exact wrongAt_ne _
      · intro h; cases h
    · intro d l he hf
      simp only [oneP]
      split
      · split <;> intro h <;> cases h
      · split
        · intro h; cases h
        · split
          · intro h; cases h
          · split
            · rename_i h5
              split
              · intro h; cases h
              · split
                · have h1 := ih.within d l he (by omega) (by omega)
                  split
                  · rename_i h; exact absurd h h1
                  · intro h; cases h
                  · intro h; cases h
                · intro h; cases h
            · intro h; cases h
    · intro d l he hk hf
      simp only [withinP]
      split
      · intro h; cases h
      · have h0 := he.tail hk
        have h00 := he.tail_lt
        have h1 := ih.choice (d + 1) l.tail h0 (by omega)
        split
        · rename_i h; exact absurd h h1
        · intro h; cases h
        · split
          · intro h; cases h
          · exact wrongAt_ne _

theorem tail2 {l : List Tok} (he : Ends l) (h1 : (hd l).kind = 1) (h2 : (hd l.tail).kind = 2) : Ends l.tail ∧ Ends l.tail.tail ∧ l.tail.tail.length + 2 ≤ l.length := by
  have e1 := he.tail (by omega)
  have e2 := e1.tail (by omega)
  have := he.tail_lt
  have := e1.tail_lt
  exact ⟨e1, e2, by omega⟩
theorem rulesP_ne (f : Nat) : ∀ (acc : List Rule) (l : List Tok), Ends l → 6 * l.length + 7 ≤ f → rulesP f acc l ≠ .out := by
  induction f with
  | zero => intro acc l _ h; omega
  | succ f ih =>
    intro acc l he hf
    simp only [rulesP]
    split
    · intro h; cases h
    · split
      · intro h; cases h
      · split
        · exact wrongAt_ne _
        · split
          · exact wrongAt_ne _
          · rename_i _ _ h1 h2
            obtain ⟨_, e2, h3⟩ := tail2 he (by omega) (by omega)
            have h4 := (tot f).choice 0 l.tail.tail e2 (by omega)
            split
            · rename_i h; exact absurd h h4
            · intro h; cases h
            · rename_i b l1 hr
              have h5 := (good f).choice _ _ _ _ e2 hr
              exact ih _ _ h5.1 (by omega)
theorem fuel_ok {l : List Tok} (he : Ends l) : rulesP (fuelOf l) [] l ≠ .out := rulesP_ne _ _ _ he (by unfold fuelOf; omega)

theorem lexL_ok : ∀ (k p : Nat) (acc : List Tok) (l : List UInt8) (ts : List Tok), lexL k p acc l = .ok ts → Ends ts ∧ ts.length ≤ acc.length + l.length + 1 := by
  intro k
  induction k with
  | zero => intro p acc l ts h; cases h
  | succ k ih =>
    intro p acc l ts h
    match l, h with
    | [], h =>
      simp only [lexL] at h
      cases h
      exact ⟨⟨acc, _, rfl, rfl⟩, by simp⟩
    | c :: r, h =>
      simp only [lexL] at h
      split at h
      · have h1 := ih _ _ _ _ h
        have h2 : ((c :: r).dropWhile (fun x => x != 10)).length ≤ (c :: r).length := (List.dropWhile_sublist _).length_le
        exact ⟨h1.1, by omega⟩
      · split at h
        · have h1 := ih _ _ _ _ h
          simp only [List.length_cons]
          exact ⟨h1.1, by omega⟩
        · split at h
          · cases h
          · rename_i t n ht
            have h0 := tokL_ok ht
            have h1 := ih _ _ _ _ h
            rw [List.length_append, List.length_drop] at h1
            simp only [List.length_cons, List.length_nil] at h1 h0 ⊢
            exact ⟨h1.1, by omega⟩
theorem lexAll_ok {l : List UInt8} {ts : List Tok} (h : lexAll l = .ok ts) : Ends ts ∧ ts.length ≤ 8193 ∧ l.length ≤ 8192 := by
  unfold lexAll at h
  split at h
  · cases h
  · have h1 := lexL_ok _ _ _ _ _ h
    simp only [List.length_nil] at h1
    exact ⟨h1.1, by omega, by omega⟩
def gOf : Res (List Rule) → G
  | .ok r _ => .ok r
  | .stop c a => .err c a
  | .out => .err 0 0
theorem parseP_ok {l : List UInt8} {ts : List Tok} (h : lexAll l = .ok ts) : parseP l = gOf (rulesP (fuelOf ts) [] ts) := by
  unfold parseP
  simp only [h]
  cases rulesP (fuelOf ts) [] ts <;> rfl
theorem parseP_err {l : List UInt8} {c : Nat} {a : Int} (h : lexAll l = .err c a) : parseP l = .err c a := by
  unfold parseP
  rw [h]
end Go.Proofs.YtglknnncpaggpaaDoor
