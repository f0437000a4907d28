/- Parse's deferred closure. -/
import Derived.Test.YtglknnncpaggpaaDoorSynH
import Derived.Recover
namespace Go.Proofs.YtglknnncpaggpaaDoor
open Go.RowKit

theorem Tryd.assert_F (v : Value) (w : World) : (Instr.typeAssert (.iface 62 v) 20 62 true).run Tryd.prog w = .ok (.tuple #[v, .bool true]) w := by kernel_rfl
set_option maxHeartbeats 4000000 in
set_option maxRecDepth 100000 in
theorem catch_fault (bg be p : Nat) (gv ev : Value) (older : List PanicEntry) (w : World) (hg : w.cell? ⟨bg, 0, none⟩ = some gv) (he : w.cell? ⟨be, 0, none⟩ = some ev) (hgf : w.frozen? ⟨bg, 0, none⟩ = false) (hef : w.frozen? ⟨be, 0, none⟩ = false) (hne : bg ≠ be) :
    CallsD Tryd.prog 22 #[.pointer (some ⟨bg, 0, none⟩), .pointer (some ⟨be, 0, none⟩)] (.panicking ({ v := .iface 62 (.pointer (some ⟨p, 0, none⟩)), recovered := false } :: older)) w fun e u' w' =>
      e = .returned (.tuple #[]) ∧ u' = .panicking ({ v := .iface 62 (.pointer (some ⟨p, 0, none⟩)), recovered := true } :: older) ∧ w' = (w.setCell ⟨bg, 0, none⟩ (.slice none 0 0)).setCell ⟨be, 0, none⟩ (.iface 62 (.pointer (some ⟨p, 0, none⟩))) := by
  refine callsD_of_wpS Tryd.func22 rfl fun c₀ cs hu => ?_
  apply wpS_seq
  apply wpS_region
  simp [wpOpsS, go_sem, recoverD, hu, Tryd.ntmps22, Exit.thenS]
  refine wpS_of_wp ?_
  change Code.wp _ _ _ { tmps := #[.pointer (some ⟨bg, 0, none⟩), .pointer (some ⟨be, 0, none⟩), undef, undef, undef, .iface 62 (.pointer (some ⟨p, 0, none⟩)), undef, undef, undef, undef, undef, undef, undef, undef], defers := [] } _
  have hne' : ¬ be = bg := fun e => hne e.symm
  have hta := Tryd.assert_F
  go_wp2_with fail
  simp [bodyPostS, results, Tryd.results22]
theorem catch_idle (bg be : Nat) (w : World) :
    CallsD Tryd.prog 22 #[.pointer (some ⟨bg, 0, none⟩), .pointer (some ⟨be, 0, none⟩)] .returning w fun e u' w' => e = .returned (.tuple #[]) ∧ u' = .returning ∧ w' = w := by
  refine callsD_of_wpS Tryd.func22 rfl fun c₀ cs hu => ?_
  apply wpS_seq
  apply wpS_region
  simp [wpOpsS, go_sem, recoverD, hu, Tryd.ntmps22, Exit.thenS]
  refine wpS_of_wp ?_
  change Code.wp _ _ _ { tmps := #[.pointer (some ⟨bg, 0, none⟩), .pointer (some ⟨be, 0, none⟩), undef, undef, undef, .nilIface, undef, undef, undef, undef, undef, undef, undef, undef], defers := [] } _
  go_wp2_with fail
  cases c₀
  simp_all [bodyPostS, results, Tryd.results22]
end Go.Proofs.YtglknnncpaggpaaDoor
