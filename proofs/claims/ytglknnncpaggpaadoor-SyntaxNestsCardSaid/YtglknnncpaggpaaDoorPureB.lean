/- Plain Lean: what cutting a source into tokens comes to, as a function of the bytes. No program in sight. -/
import Derived.Test.YtglknnncpaggpaaDoorPureA
namespace Go.Proofs.YtglknnncpaggpaaDoor
open Go

structure Tok where
  kind : Nat
  text : List UInt8
  cls : Cls
  at_ : Nat
  deriving DecidableEq

def isLetter (c : UInt8) : Bool := decide (97 ≤ c.toNat ||| 32) && decide (c.toNat ||| 32 ≤ 122) || decide (c.toNat = 95)
def isDigit (c : UInt8) : Bool := decide (48 ≤ c.toNat) && decide (c.toNat ≤ 57)
/-- May that byte stand at that place of a name? -/
def nameOk (i : Nat) (c : UInt8) : Bool := isLetter c || (i != 0 && isDigit c)
def nameFrom : Nat → List UInt8 → Nat
  | i, [] => i
  | i, c :: l => if nameOk i c then nameFrom (i + 1) l else i
def nameLen (l : List UInt8) : Nat := nameFrom 0 l

/-- An escape of a literal: what stands behind the backslash; the count is from the backslash on. -/
def hexL : List UInt8 → R UInt8
  | [] => .bad 2
  | h :: l => if Lib.indexByte hexes h < 0 then .bad 2 else
    match l with
    | [] => .bad 3
    | g :: _ => if Lib.indexByte hexes g < 0 then .bad 3 else .ok (16 * Lib.indexByte hexes h + Lib.indexByte hexes g).toNat.toUInt8 4
def escL : List UInt8 → R UInt8
  | [] => .bad 1
  | c :: l =>
    if c = 110 then .ok 10 2
    else if c = 114 then .ok 13 2
    else if c = 116 then .ok 9 2
    else if c = 92 ∨ c = 34 ∨ c = 39 then .ok c 2
    else if c = 120 then hexL l
    else .bad 1

/-- What reading one token comes to: the token and its length; or an error's number, at an offset. -/
inductive L (α : Type) where
  | ok (a : α) (n : Nat)
  | err (code : Nat) (n : Nat)

/-- Where a reader stops: the text ends there, or that byte cannot stand there. -/
def codeOf (n len : Nat) : Nat := if n < len then 4 else 3

/-- A literal's signs and its quote: from the place p on; len: how long the text is from the literal's first byte on. -/
def litL (q : UInt8) (len : Nat) : Nat → Nat → List UInt8 → List UInt8 → L (List UInt8)
  | 0, _, _, _ => .err 0 0
  | k + 1, p, acc, l =>
    match l with
    | [] => .err (codeOf p len) p
    | x :: r =>
      if x = q then .ok acc (p + 1)
      else if x = 92 then
        match escL r with
        | .bad n => .err (codeOf (p + n) len) (p + n)
        | .ok y n => if acc.length = 255 then .err 2 0 else litL q len k (p + n) (acc ++ [y]) (l.drop n)
      else if x < 32 ∨ 126 < x then .err (codeOf p len) p
      else if acc.length = 255 then .err 2 0
      else litL q len k (p + 1) (acc ++ [x]) r

def signsL : List UInt8 := [47, 38, 33, 63, 42, 43, 40, 41, 46]

def tokL (l : List UInt8) : L (Nat × List UInt8 × Cls) :=
  if 32 < nameLen l then .err 2 0
  else if 0 < nameLen l then .ok (1, l.take (nameLen l), cls0) (nameLen l)
  else
    match l with
    | [] => .err 0 0
    | c :: r =>
      if 0 ≤ Lib.indexByte signsL c then .ok (5, [c], cls0) 1
      else if c = 60 ∧ r.head? = some 45 then .ok (2, [], cls0) 2
      else if c = 39 ∨ c = 34 then
        match litL c l.length (r.length + 1) 1 [] r with
        | .ok t n => .ok (3, t, cls0) n
        | .err code n => .err code n
      else if c = 91 then
        match parseC l with
        | .ok x n => .ok (4, [], x) n
        | .bad n => .err (codeOf n l.length) n
      else .err 4 0

inductive A where
  | ok (l : List Tok)
  | err (code : Nat) (at_ : Int)

def isBlank (c : UInt8) : Bool := c == 9 || c == 10 || c == 13 || c == 32
def lexL : Nat → Nat → List Tok → List UInt8 → A
  | 0, _, _, _ => .err 0 0
  | k + 1, p, acc, l =>
    match l with
    | [] => .ok (acc ++ [⟨6, [], cls0, p⟩])
    | c :: r =>
      if c = 35 then lexL k (p + (l.takeWhile (· != 10)).length) acc (l.dropWhile (· != 10))
      else if isBlank c then lexL k (p + 1) acc r
      else
        match tokL l with
        | .err code n => .err code ((p + n : Nat) : Int)
        | .ok t n => lexL k (p + n) (acc ++ [⟨t.1, t.2.1, t.2.2, p⟩]) (l.drop n)
def lexAll (l : List UInt8) : A := if 8192 < l.length then .err 2 (-1) else lexL (l.length + 1) 0 [] l

theorem nameFrom_le : ∀ (l : List UInt8) (i : Nat), i ≤ nameFrom i l ∧ nameFrom i l ≤ i + l.length
  | [], i => by simp [nameFrom]
  | c :: l, i => by
    simp only [nameFrom]
    split
    · have := nameFrom_le l (i + 1)
      simp only [List.length_cons]
      omega
    · simp
theorem nameLen_le (l : List UInt8) : nameLen l ≤ l.length := by have := (nameFrom_le l 0).2; unfold nameLen; omega

theorem hexL_ok {l : List UInt8} {v : UInt8} {n : Nat} (h : hexL l = .ok v n) : n = 4 ∧ 2 ≤ l.length := by
  match l, h with
  | [], h => cases h
  | [x], h => simp only [hexL] at h; split at h <;> cases h
  | x :: g :: l, h =>
    simp only [hexL] at h
    split at h
    · cases h
    · split at h
      · cases h
      · cases h; exact ⟨rfl, by simp⟩
theorem hexL_bad {l : List UInt8} {n : Nat} (h : hexL l = .bad n) : n ≤ l.length + 2 ∧ 2 ≤ n := by
  match l, h with
  | [], h => cases h; simp
  | [x], h => simp only [hexL] at h; split at h <;> cases h <;> simp
  | x :: g :: l, h =>
    simp only [hexL] at h
    split at h
    · cases h; simp
    · split at h <;> cases h
      simp
theorem escL_ok {l : List UInt8} {v : UInt8} {n : Nat} (h : escL l = .ok v n) : 2 ≤ n ∧ n ≤ l.length + 1 := by
  match l, h with
  | [], h => cases h
  | c :: l, h =>
    simp only [escL] at h
    repeat (split at h; · cases h; simp)
    split at h
    · obtain ⟨rfl, h2⟩ := hexL_ok h; simp; omega
    · cases h
theorem escL_bad {l : List UInt8} {n : Nat} (h : escL l = .bad n) : n ≤ l.length + 1 ∧ 1 ≤ n := by
  match l, h with
  | [], h => cases h; simp
  | c :: l, h =>
    simp only [escL] at h
    repeat (split at h; · cases h)
    split at h
    · have := hexL_bad h; simp; omega
    · cases h; simp
theorem litL_ok {q : UInt8} {len : Nat} : ∀ (k p : Nat) (acc l : List UInt8) (t : List UInt8) (n : Nat), litL q len k p acc l = .ok t n → p < n ∧ n ≤ p + l.length := by
  intro k
  induction k with
  | zero => intro p acc l t n h; cases h
  | succ k ih =>
    intro p acc l t n h
    match l, h with
    | [], h => simp only [litL] at h; cases h
    | x :: r, h =>
      simp only [litL] at h
      split at h
      · cases h; simp
      · split at h
        · split at h
          · cases h
          · rename_i he
            have := escL_ok he
            split at h
            · cases h
            · have := ih _ _ _ _ _ h
              simp only [List.length_drop, List.length_cons] at this ⊢
              omega
        · split at h
          · cases h
          · split at h
            · cases h
            · have := ih _ _ _ _ _ h
              simp only [List.length_cons]
              omega
theorem parseC_ok {l : List UInt8} {x : Cls} {n : Nat} (h : parseC l = .ok x n) : 1 ≤ n ∧ n ≤ l.length := by
  match l, h with
  | [], h => cases h
  | c :: l, h =>
    simp only [parseC] at h
    split at h
    · cases h
    · split at h
      · split at h
        · cases h
        · rename_i hm
          have := membersC_ok _ _ _ _ _ hm
          cases h
          rw [List.length_tail] at this
          simp only [List.length_cons]
          omega
      · split at h
        · cases h
        · rename_i hm
          have := membersC_ok _ _ _ _ _ hm
          cases h
          simp only [List.length_cons]
          omega
theorem tokL_ok {l : List UInt8} {t : Nat × List UInt8 × Cls} {n : Nat} (h : tokL l = .ok t n) : 1 ≤ n ∧ n ≤ l.length := by
  unfold tokL at h
  have hn := nameLen_le l
  split at h
  · cases h
  · split at h
    · cases h; omega
    · match l, h with
      | [], h => cases h
      | c :: r, h =>
        simp only at h
        split at h
        · cases h; simp
        · split at h
          · rename_i hc
            cases h
            match r, hc with
            | d :: r, _ => simp
          · split at h
            · split at h
              · rename_i hl
                have := litL_ok _ _ _ _ _ _ hl
                cases h
                simp only [List.length_cons]
                omega
              · cases h
            · split at h
              · split at h
                · rename_i hp
                  cases h
                  exact parseC_ok hp
                · cases h
              · cases h
end Go.Proofs.YtglknnncpaggpaaDoor
