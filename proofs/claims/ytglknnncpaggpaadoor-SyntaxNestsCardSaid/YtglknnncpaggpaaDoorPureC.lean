/- Plain Lean: what reading tokens as a grammar comes to. No program in sight. -/
import Derived.Test.YtglknnncpaggpaaDoorPureB
namespace Go.Proofs.YtglknnncpaggpaaDoor
open Go

inductive Tree where
  | node (kind : Nat) (text : List UInt8) (cls : Cls) (subs : List Tree) (at_ : Nat)
def Tree.kind : Tree → Nat | .node k _ _ _ _ => k
def Tree.text : Tree → List UInt8 | .node _ x _ _ _ => x
def Tree.cls : Tree → Cls | .node _ _ c _ _ => c
def Tree.subs : Tree → List Tree | .node _ _ _ s _ => s
def Tree.at_ : Tree → Nat | .node _ _ _ _ p => p

structure Rule where
  name : List UInt8
  body : Tree
  at_ : Nat

/-- What a reader of tokens comes to: something, and the tokens left; a stop, its number and place; the fuel is spent. -/
inductive Res (α : Type) where
  | ok (a : α) (l : List Tok)
  | stop (code at_ : Nat)
  | out

def tok0 : Tok := ⟨0, [], cls0, 0⟩
def hd (l : List Tok) : Tok := l.headD tok0
def wrongAt {α : Type} (l : List Tok) : Res α := if (hd l).kind = 6 then .stop 3 (hd l).at_ else .stop 4 (hd l).at_
def signOf (l : List Tok) : List UInt8 := if (hd l).kind = 5 then (hd l).text else []
def joinedP (kind : Nat) : List Tree → Tree
  | [] => .node kind [] cls0 [] 0
  | [t] => t
  | t :: ts => .node kind [] cls0 (t :: ts) t.at_
def aheadOf (s : List UInt8) : Nat := if s = [38] then 11 else if s = [33] then 12 else 0
def behindOf (s : List UInt8) : Nat := if s = [43] then 10 else if s = [42] then 9 else if s = [63] then 8 else 0
/-- A tree with what stood behind and ahead of it. -/
def dress (k m p : Nat) (n : Tree) : Tree :=
  let n1 := if m = 0 then n else .node m [] cls0 [n] n.at_
  if k = 0 then n1 else .node k [] cls0 [n1] p

mutual
def choiceP : Nat → Nat → List Tok → Res Tree
  | 0, _, _ => .out
  | f + 1, d, l =>
    match rowP f d l with
    | .out => .out
    | .stop c a => .stop c a
    | .ok t l1 => choiceLoop f d [t] l1
termination_by structural f => f
def choiceLoop : Nat → Nat → List Tree → List Tok → Res Tree
  | 0, _, _, _ => .out
  | f + 1, d, acc, l =>
    if signOf l = [47] then
      match rowP f d l.tail with
      | .out => .out
      | .stop c a => .stop c a
      | .ok t l1 => choiceLoop f d (acc ++ [t]) l1
    else .ok (joinedP 7 acc) l
termination_by structural f => f
def rowP : Nat → Nat → List Tok → Res Tree
  | 0, _, _ => .out
  | f + 1, d, l => rowLoop f d [] l
termination_by structural f => f
def rowLoop : Nat → Nat → List Tree → List Tok → Res Tree
  | 0, _, _, _ => .out
  | f + 1, d, acc, l =>
    match partP f d l with
    | .out => .out
    | .stop c a => .stop c a
    | .ok none l1 => match acc with
      | [] => .ok (.node 1 [] cls0 [] (hd l1).at_) l1
      | t :: ts => .ok (joinedP 6 (t :: ts)) l1
    | .ok (some t) l1 => rowLoop f d (acc ++ [t]) l1
termination_by structural f => f
def partP : Nat → Nat → List Tok → Res (Option Tree)
  | 0, _, _ => .out
  | f + 1, d, l =>
    match oneP f d (if aheadOf (signOf l) = 0 then l else l.tail) with
    | .out => .out
    | .stop c a => .stop c a
    | .ok none l1 => if aheadOf (signOf l) = 0 then .ok none l1 else wrongAt l1
    | .ok (some n) l1 => .ok (some (dress (aheadOf (signOf l)) (behindOf (signOf l1)) (hd l).at_ n)) (if behindOf (signOf l1) = 0 then l1 else l1.tail)
termination_by structural f => f
def oneP : Nat → Nat → List Tok → Res (Option Tree)
  | 0, _, _ => .out
  | f + 1, d, l =>
    if (hd l).kind = 1 then
      if (hd l.tail).kind = 2 then .ok none l else .ok (some (.node 5 (hd l).text (hd l).cls [] (hd l).at_)) l.tail
    else if (hd l).kind = 3 then .ok (some (.node 2 (hd l).text (hd l).cls [] (hd l).at_)) l.tail
    else if (hd l).kind = 4 then .ok (some (.node 3 (hd l).text (hd l).cls [] (hd l).at_)) l.tail
    else if (hd l).kind = 5 then
      if (hd l).text = [46] then .ok (some (.node 4 [] (hd l).cls [] (hd l).at_)) l.tail
      else if (hd l).text = [40] then
        match withinP f d l with
        | .out => .out
        | .stop c a => .stop c a
        | .ok t l1 => .ok (some t) l1
      else .ok none l
    else .ok none l
termination_by structural f => f
def withinP : Nat → Nat → List Tok → Res Tree
  | 0, _, _ => .out
  | f + 1, d, l =>
    if d = 24 then .stop 2 (hd l).at_
    else
      match choiceP f (d + 1) l.tail with
      | .out => .out
      | .stop c a => .stop c a
      | .ok t l1 => if signOf l1 = [41] then .ok t l1.tail else wrongAt l1
termination_by structural f => f
end

def rulesP : Nat → List Rule → List Tok → Res (List Rule)
  | 0, _, _ => .out
  | f + 1, acc, l =>
    if acc.length ≠ 0 ∧ (hd l).kind = 6 then .ok acc l
    else if acc.length = 64 ∧ (hd l).kind = 1 then .stop 2 (hd l).at_
    else if (hd l).kind ≠ 1 then wrongAt l
    else if (hd l.tail).kind ≠ 2 then wrongAt l.tail
    else
      match choiceP f 0 l.tail.tail with
      | .out => .out
      | .stop c a => .stop c a
      | .ok b l1 => rulesP f (acc ++ [⟨(hd l).text, b, (hd l).at_⟩]) l1

inductive G where
  | ok (l : List Rule)
  | err (code : Nat) (at_ : Int)
def fuelOf (l : List Tok) : Nat := 7 * l.length + 9
def parseP (s : List UInt8) : G :=
  match lexAll s with
  | .err c a => .err c a
  | .ok l =>
    match rulesP (fuelOf l) [] l with
    | .ok r _ => .ok r
    | .stop c a => .err c a
    | .out => .err 0 0

/-- The tokens end with the end's token. -/
def Ends (l : List Tok) : Prop := ∃ i e, l = i ++ [e] ∧ e.kind = 6
theorem Ends.ne {l : List Tok} (h : Ends l) : l ≠ [] := by
  obtain ⟨i, e, rfl, _⟩ := h
  simp
theorem Ends.tail {l : List Tok} (h : Ends l) (hk : (hd l).kind ≠ 6) : Ends l.tail := by
  obtain ⟨i, e, rfl, he⟩ := h
  cases i with
  | nil => exact absurd he hk
  | cons t i => exact ⟨i, e, rfl, he⟩
theorem Ends.len {l : List Tok} (h : Ends l) : 1 ≤ l.length := by
  obtain ⟨i, e, rfl, _⟩ := h
  simp
theorem sign_kind {l : List Tok} {x : UInt8} {xs : List UInt8} (h : signOf l = x :: xs) : (hd l).kind = 5 := by
  unfold signOf at h
  split at h
  · assumption
  · cases h
theorem ahead_kind {l : List Tok} (h : aheadOf (signOf l) ≠ 0) : (hd l).kind = 5 := by
  unfold aheadOf at h
  split at h
  · exact sign_kind (by assumption)
  · split at h
    · exact sign_kind (by assumption)
    · exact absurd rfl h
theorem behind_kind {l : List Tok} (h : behindOf (signOf l) ≠ 0) : (hd l).kind = 5 := by
  unfold behindOf at h
  split at h
  · exact sign_kind (by assumption)
  · split at h
    · exact sign_kind (by assumption)
    · split at h
      · exact sign_kind (by assumption)
      · exact absurd rfl h
end Go.Proofs.YtglknnncpaggpaaDoor
