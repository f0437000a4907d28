/- Plain Lean: what reading a class comes to, as a function of the bytes. No program in sight. -/
import Derived.Lib.IndexLaws
import Derived.Lib.IndexBytes
namespace Go.Proofs.YtglknnncpaggpaaDoor
open Go

/-- What a reader comes to: a value and how many bytes it took; or the offset at which it stopped (at the end of the text: the text has ended; else: that byte cannot stand there). -/
inductive R (α : Type) where
  | ok (a : α) (n : Nat)
  | bad (n : Nat)

/-- A class: its four words. -/
structure Cls where
  a : Nat
  b : Nat
  c : Nat
  d : Nat
  deriving DecidableEq

def cls0 : Cls := ⟨0, 0, 0, 0⟩
def marked : List UInt8 := [91, 93, 92, 45, 94]
def letters : List UInt8 := [110, 114, 116]
def standing : List UInt8 := [10, 13, 9]
def hexes : List UInt8 := [48, 49, 50, 51, 52, 53, 54, 55, 56, 57, 97, 98, 99, 100, 101, 102]

/-- Behind a backslash and an x. -/
def hexC : List UInt8 → R Int
  | [] => .bad 2
  | h :: l => if Lib.indexByte hexes h < 0 then .bad 2 else
    match l with
    | [] => .bad 3
    | g :: _ => if Lib.indexByte hexes g < 0 then .bad 3 else .ok (16 * Lib.indexByte hexes h + Lib.indexByte hexes g) 4

/-- Behind a backslash. -/
def escC : List UInt8 → R Int
  | [] => .bad 1
  | c :: l =>
    if 0 ≤ Lib.indexByte letters c then .ok (standing.getD (Lib.indexByte letters c).toNat 0).toNat 2
    else if 0 ≤ Lib.indexByte marked c then .ok c.toNat 2
    else if c ≠ 120 then .bad 1
    else hexC l

def signC : List UInt8 → R Int
  | [] => .bad 0
  | c :: l => if c = 92 then escC l else if c < 32 ∨ 126 < c ∨ 0 ≤ Lib.indexByte marked c then .bad 0 else .ok c.toNat 1

def memberC (l : List UInt8) : R (Int × Int) :=
  match signC l with
  | .bad n => .bad n
  | .ok lo n =>
    if (l.drop n).head? = some 45 then
      match signC (l.drop (n + 1)) with
      | .bad m => .bad (n + 1 + m)
      | .ok hi m => if hi < lo then .bad 0 else .ok (lo, hi) (n + 1 + m)
    else .ok (lo, lo) n

/-- One word of the bytes from lo to hi. -/
def spanW (lo hi : Int) (i : Int) : Nat :=
  let f := max (lo - 64 * i) 0
  let t := min (hi - 64 * i) 63
  if f ≤ t then (18446744073709551615 / 2 ^ (63 - t + f).toNat * 2 ^ f.toNat) % 18446744073709551616 else 0
def spanC (lo hi : Int) : Cls := ⟨spanW lo hi 0, spanW lo hi 1, spanW lo hi 2, spanW lo hi 3⟩
def eitherC (x y : Cls) : Cls := ⟨x.a ||| y.a, x.b ||| y.b, x.c ||| y.c, x.d ||| y.d⟩
def notC (x : Cls) : Cls := ⟨2 ^ 64 - 1 - x.a, 2 ^ 64 - 1 - x.b, 2 ^ 64 - 1 - x.c, 2 ^ 64 - 1 - x.d⟩

def membersC : Nat → Cls → List UInt8 → R Cls
  | 0, _, _ => .bad 0
  | k + 1, acc, l =>
    if l.head? = some 93 then .ok acc 1 else
    match memberC l with
    | .bad n => .bad n
    | .ok (lo, hi) n =>
      match membersC k (eitherC acc (spanC lo hi)) (l.drop n) with
      | .bad m => .bad (n + m)
      | .ok x m => .ok x (n + m)

def parseC : List UInt8 → R Cls
  | [] => .bad 0
  | c :: l =>
    if c ≠ 91 then .bad 0
    else if l.head? = some 94 then
      match membersC (l.length + 1) cls0 l.tail with
      | .bad n => .bad (2 + n)
      | .ok x n => .ok (notC x) (2 + n)
    else
      match membersC (l.length + 1) cls0 l with
      | .bad n => .bad (1 + n)
      | .ok x n => .ok x (1 + n)

theorem index_bound (l : List UInt8) (c : UInt8) (h : 0 ≤ Lib.indexByte l c) : Lib.indexByte l c < l.length ∧ l[(Lib.indexByte l c).toNat]? = some c := by
  obtain ⟨o, ho⟩ := Int.eq_ofNat_of_zero_le h
  have := Lib.indexByte_some ho
  have hl : o < l.length := by
    rcases Nat.lt_or_ge o l.length with h1 | h1
    · exact h1
    · rw [List.getElem?_eq_none h1] at this; cases this.1
  rw [ho]
  exact ⟨by omega, by simpa using this.1⟩
theorem index_none {l : List UInt8} {c : UInt8} (h : ¬ 0 ≤ Lib.indexByte l c) : c ∉ l := by
  have := Lib.indexByte_ge l c
  have h1 : Lib.indexByte l c = -1 := by omega
  intro hm
  obtain ⟨k, hk⟩ := List.mem_iff_getElem?.1 hm
  exact Lib.indexByte_none h1 k hk
theorem index_some {l : List UInt8} {c : UInt8} (h : 0 ≤ Lib.indexByte l c) : c ∈ l :=
  List.mem_iff_getElem?.2 ⟨_, (index_bound l c h).2⟩
theorem index_one (a c : UInt8) : 0 ≤ Lib.indexByte [a] c ↔ c = a := by
  constructor
  · intro h; have := index_some h; simpa using this
  · rintro rfl
    by_cases h : 0 ≤ Lib.indexByte [c] c
    · exact h
    · exact absurd (List.mem_singleton.2 rfl) (index_none h)

theorem hexC_ok {l : List UInt8} {v : Int} {n : Nat} (h : hexC l = .ok v n) : n = 4 ∧ 2 ≤ l.length ∧ 0 ≤ v ∧ v ≤ 255 := by
  match l, h with
  | [], h => cases h
  | [x], h => simp only [hexC] at h; split at h <;> cases h
  | x :: g :: l, h =>
    simp only [hexC] at h
    split at h
    · cases h
    · split at h
      · cases h
      · rename_i h1 h2
        have b1 := index_bound hexes x (by omega)
        have b2 := index_bound hexes g (by omega)
        have e : (hexes.length : Int) = 16 := rfl
        cases h
        exact ⟨rfl, by simp, by omega, by omega⟩
theorem escC_ok {l : List UInt8} {v : Int} {n : Nat} (h : escC l = .ok v n) : 2 ≤ n ∧ n ≤ l.length + 1 ∧ 0 ≤ v ∧ v ≤ 255 := by
  match l, h with
  | [], h => cases h
  | c :: l, h =>
    simp only [escC] at h
    split at h
    · cases h
      have := (standing.getD (Lib.indexByte letters c).toNat 0).toNat_lt
      exact ⟨by omega, by simp, by omega, by omega⟩
    · split at h
      · cases h
        have := c.toNat_lt
        exact ⟨by omega, by simp, by omega, by omega⟩
      · split at h
        · cases h
        · obtain ⟨rfl, hl, h0, h1⟩ := hexC_ok h
          exact ⟨by omega, by simp; omega, h0, h1⟩
theorem signC_ok {l : List UInt8} {v : Int} {n : Nat} (h : signC l = .ok v n) : 1 ≤ n ∧ n ≤ l.length ∧ 0 ≤ v ∧ v ≤ 255 := by
  match l, h with
  | [], h => cases h
  | c :: l, h =>
    simp only [signC] at h
    split at h
    · obtain ⟨h1, h2, h3, h4⟩ := escC_ok h
      exact ⟨by omega, by simpa using h2, h3, h4⟩
    · split at h
      · cases h
      · cases h
        have := c.toNat_lt
        exact ⟨by omega, by simp, by omega, by omega⟩
theorem hexC_bad {l : List UInt8} {n : Nat} (h : hexC l = .bad n) : n ≤ l.length + 2 := by
  match l, h with
  | [], h => cases h; simp
  | [x], h => simp only [hexC] at h; split at h <;> cases h <;> simp
  | x :: g :: l, h =>
    simp only [hexC] at h
    split at h
    · cases h; simp
    · split at h <;> cases h
      simp
theorem escC_bad {l : List UInt8} {n : Nat} (h : escC l = .bad n) : n ≤ l.length + 1 := by
  match l, h with
  | [], h => cases h; simp
  | c :: l, h =>
    simp only [escC] at h
    split at h
    · cases h
    · split at h
      · cases h
      · split at h
        · cases h; simp
        · have := hexC_bad h; simp; omega
theorem signC_bad {l : List UInt8} {n : Nat} (h : signC l = .bad n) : n ≤ l.length := by
  match l, h with
  | [], h => cases h; simp
  | c :: l, h =>
    simp only [signC] at h
    split at h
    · have := escC_bad h; simpa using this
    · split at h <;> cases h
      simp
theorem memberC_ok {l : List UInt8} {lo hi : Int} {n : Nat} (h : memberC l = .ok (lo, hi) n) : 1 ≤ n ∧ n ≤ l.length ∧ 0 ≤ lo ∧ lo ≤ hi ∧ hi ≤ 255 := by
  unfold memberC at h
  split at h
  · cases h
  · rename_i v m hs
    obtain ⟨h1, h2, h3, h4⟩ := signC_ok hs
    split at h
    · split at h
      · cases h
      · rename_i hd _ u k ht
        obtain ⟨k1, k2, k3, k4⟩ := signC_ok ht
        split at h <;> cases h
        simp only [List.length_drop] at k2
        exact ⟨by omega, by omega, h3, by omega, k4⟩
    · cases h
      exact ⟨h1, h2, h3, by omega, h4⟩
theorem memberC_bad {l : List UInt8} {n : Nat} (h : memberC l = .bad n) : n ≤ l.length := by
  unfold memberC at h
  split at h
  · cases h
    exact signC_bad (by assumption)
  · rename_i v m hs
    obtain ⟨h1, h2, h3, h4⟩ := signC_ok hs
    split at h
    · rename_i hd
      have hl : m < l.length := by
        rcases Nat.lt_or_ge m l.length with h5 | h5
        · exact h5
        · rw [List.drop_eq_nil_of_le h5] at hd; cases hd
      split at h
      · rename_i k ht
        have k1 := signC_bad ht
        simp only [List.length_drop] at k1
        cases h
        omega
      · split at h <;> cases h
        omega
    · cases h
theorem membersC_bad : ∀ (k : Nat) (acc : Cls) (l : List UInt8) (n : Nat), membersC k acc l = .bad n → n ≤ l.length := by
  intro k
  induction k with
  | zero => intro acc l n h; cases h; omega
  | succ k ih =>
    intro acc l n h
    simp only [membersC] at h
    split at h
    · cases h
    · split at h
      · cases h; exact memberC_bad (by assumption)
      · rename_i hm
        obtain ⟨h1, h2, _⟩ := memberC_ok hm
        split at h
        · rename_i hk
          have := ih _ _ _ hk
          simp only [List.length_drop] at this
          cases h
          omega
        · cases h
theorem membersC_ok : ∀ (k : Nat) (acc : Cls) (l : List UInt8) (x : Cls) (n : Nat), membersC k acc l = .ok x n → 1 ≤ n ∧ n ≤ l.length := by
  intro k
  induction k with
  | zero => intro acc l x n h; cases h
  | succ k ih =>
    intro acc l x n h
    simp only [membersC] at h
    split at h
    · rename_i hd
      cases h
      match l, hd with
      | c :: l, _ => simp
    · split at h
      · cases h
      · rename_i hm
        obtain ⟨h1, h2, _⟩ := memberC_ok hm
        split at h
        · cases h
        · rename_i hk
          have := ih _ _ _ _ hk
          simp only [List.length_drop] at this
          cases h
          omega
end Go.Proofs.YtglknnncpaggpaaDoor
