/- The laws' rows: what all of them share: the laid variable, a world that meets it, the last step. -/
import Derived.Test.YtglknnncpaggpaaDoorAs
import Derived.Test.YtglknnncpaggpaaDoorCards
import Derived.Test.YtglknnncpaggpaaDoorTie
import Derived.WalkKit
import Derived.ProofKit
import Derived.OpenShut
import Derived.Deep.DeepHandedRow
import Derived.ChangeSame
import Derived.LaidLaws
import Derived.LaidHandle
namespace Go.Proofs.YtglknnncpaggpaaDoor
open Go.RowKit Go.WideShapes Go.ChangeShapes

/-- The last step of every law here: it answers true, its arguments read again, no variable is told of; of old memory nothing has turned. -/
theorem law_end {H : Type} {enc : TypeId × Value → H} {f : Func} {s : ChangeSpec} {W W' : World} {args : Array Value} {ds gs : List (DataW H)} {before : List MemPlace}
    (hW : DataW.Whole enc Tryd.prog f.params.toList s.vars false W args.toList ds gs before) (hr1 : f.resultTypes = #[4]) (hv : s.vars = []) (hs : s.fn H (ds ++ gs) = { results := [.lit (.bool true)], args := ds })
    (hargs : ∀ sp : Nat → Bool, (∀ p ∈ before, sp p.block = true) → DataW.TrodAll enc Tryd.prog W' 0 sp true f.params.toList args.toList ds before) (hb : Below W.heap.size W W') :
    s.post enc Tryd.prog f false true false false W args (.bool true) W' := by
  have lt := hW.lt
  have res : ∀ (b : Nat) (sp : Nat → Bool) (hd : Bool), DataW.TrodAll enc Tryd.prog W' b sp hd f.resultTypes.toList ((Value.bool true).resultList f.resultTypes.size) (s.fn H (ds ++ gs)).results [] := fun b sp hd => by
    rw [hs, hr1]
    exact trodAll_cons_mk (shut_bool Tryd.underlying4 true) trodAll_mk0
  have again : ∀ sp : Nat → Bool, (∀ p ∈ before, sp p.block = true) → DataW.TrodAll enc Tryd.prog W' 0 sp true f.params.toList args.toList (s.fn H (ds ++ gs)).args before := fun sp hsp => by
    rw [hs]
    exact hargs sp hsp
  have vars : ∀ sp : Nat → Bool, DataW.TrodVars enc Tryd.prog W' sp s.vars (s.fn H (ds ++ gs)).vars [] := fun sp => by
    rw [hs, hv]
    rfl
  have old : ∀ p ∈ before, (fun b => decide (b < W.heap.size)) p.block = true := fun p hp => decide_eq_true (lt p hp)
  refine ⟨ds, gs, before, [], before, [], hW, res _ _ _, again _ old, vars _, World.keptBut_mono (fun p hp => ⟨hp, .inr (.inl hp)⟩) (hb.frame (· ∈ before)), fun h => by cases h⟩

theorem own : ownKnob Tryd.prog.godebug = none := by kernel_rfl
theorem et : Tryd.prog.globalNamed "errors.errorType" = some 0 := by kernel_rfl
theorem rt : (Tryd.prog.cutTypes.find? (·.1 == "internal/reflectlite.rtype")).map (·.2) = some 134 := by kernel_rfl
theorem oneRow : ((List.range Tryd.prog.types.size).filter fun t => Tryd.prog.rowNamed t [101, 114, 114, 111, 114]) = [27] := by kernel_rfl
/-- What the row's list gives: the variable's one cell. -/
theorem lg_of_laid {W : World} (h : laidMetH Tryd.prog [("errors.errorType", Rows.laid_errors_errorType)] W) : Lg W := by
  have h' : laidMet Tryd.prog [] W ∧ handlesMet Tryd.prog [("errors.errorType", Rows.laid_errors_errorType)] W := h
  obtain ⟨name, u, ty, e1, e2, e3, e4, e5⟩ := h'.2 _ (List.mem_singleton.2 rfl)
  have en : name = [101, 114, 114, 111, 114] := (Option.some.inj e1).symm
  subst en
  obtain rfl := Option.some.inj (rt.symm.trans e2)
  have hm : ty ∈ (List.range Tryd.prog.types.size).filter fun t => Tryd.prog.rowNamed t [101, 114, 114, 111, 114] := List.mem_filter.2 ⟨List.mem_range.2 e3, e4⟩
  rw [oneRow] at hm
  obtain rfl := List.mem_singleton.1 hm
  have hh : typeHandle Tryd.prog 27 = .pointer (some ⟨2, 27, none⟩) := by kernel_rfl
  rw [hh] at e5
  unfold Lg
  simpa using World.var?_cell et e5 0
/-- A world that meets the condition. -/
noncomputable def laidWorld (os : Os) : World :=
  let w0 := World.holding Tryd.prog os ⟨#[], #[], []⟩
  { w0 with heap := w0.heap.modify 0 fun
      | .cells _ t frozen => .cells #[.iface 134 (.agg #[.pointer (some ⟨2, 27, none⟩)])] t frozen
      | o => o }
end Go.Proofs.YtglknnncpaggpaaDoor
