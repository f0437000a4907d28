/- errors.As at two concrete targets: **api.Fault and *api.Errno. After the kit's worked example (ToyasAs). -/
import Derived.Test.YtglknnncpaggpaaDoorBase
import Derived.Test.YtglknnncpaggpaaDoorRows
import Derived.LaidEql
import Derived.Stop.Asserts
import Derived.RowKitTokens
namespace Go.Proofs.YtglknnncpaggpaaDoor
open Go.RowKit Go.Extern.Stop Go.Stop Go.Extern

/-- The variable errors.errorType as start-up laid it. -/
def Lg (w : World) : Prop := w.cell? ⟨0, 0, none⟩ = some (.iface 134 (.agg #[.pointer (some ⟨2, 27, none⟩)]))
theorem Lg.lt {w : World} (h : Lg w) : 0 < w.heap.size := World.block_lt_of_cell? w _ h
theorem Lg.fr {S : List Nat} {w w' : World} (h : Lg w) (hf : Fr S w w') (hS : 0 ∉ S) : Lg w' := (World.cell?_of_block (a := ⟨0, 0, none⟩) (hf.block 0 h.lt hS)).trans h
theorem Lg.below {B : Nat} {w w' : World} (h : Lg w) (hf : Below B w w') (hB : 0 < B) : Lg w' := (World.cell?_of_block (a := ⟨0, 0, none⟩) (hf.block 0 hB)).trans h

theorem as_nil (t : Value) (w : World) :
    Calls Tryd.prog 28 #[.nilIface, t] w fun e w' => e = .returned (.bool false) ∧ w = w' := by
  go_enter Tryd.func28, Tryd.ntmps28
  go_wp2
  go_ret
  exact ⟨rfl, rfl⟩


theorem Tryd.methodKind (h : Value) (w : World) : (Go.method 302 134 (.agg #[h]) "Kind").run Tryd.prog w = .ok (124, h) w := by kernel_rfl
theorem Tryd.methodElem (h : Value) (w : World) : (Go.method 302 134 (.agg #[h]) "Elem").run Tryd.prog w = .ok (137, .agg #[h]) w := by kernel_rfl
theorem Tryd.methodImplements (h : Value) (w : World) : (Go.method 302 134 (.agg #[h]) "Implements").run Tryd.prog w = .ok (138, .agg #[h]) w := by kernel_rfl
theorem Tryd.methodAssignableTo (h : Value) (w : World) : (Go.method 302 134 (.agg #[h]) "AssignableTo").run Tryd.prog w = .ok (135, .agg #[h]) w := by kernel_rfl

theorem rlm (z : Sem Value) (f : TypeId → Addr → Nat → Nat → Sem Value) (v : Value) :
    ReflectliteValue.method z f #[v] = (do match ← ReflectliteValue.parts v with | none => z | some (t, a, fl) => f t a fl (fl % 32)) := rfl
theorem rls (v x : Value) : ReflectliteValue.set #[v, x] = (do
    let (some (dst, a, fl), some (src, b, _)) := (← ReflectliteValue.parts v, ← ReflectliteValue.parts x)
      | unsupported (.noEntry "extern/(internal/reflectlite.Value).Set.zeroValue")
    if fl / ReflectliteValue.flagAddr % 2 == 0 then unsupported (.noEntry "extern/(internal/reflectlite.Value).Set.unaddressable")
    let val ← loadVar src b
    if ← Rtype.directlyAssignable dst src then storeVar dst a val
    else if ← Rtype.implements dst src then
      if (← Rtype.kind src) == 20 then
        match val with
        | .nilIface => unsupported (.noEntry "extern/reflectlite: a nil value of one interface type handed on as a value of another")
        | _ => storeVar dst a val
      else storeVar dst a (.iface src val)
    else panicString ("reflectlite.Set: value of type " ++ (← Rtype.spelt src) ++ " is not assignable to type " ++ (← Rtype.spelt dst))
    pure (.tuple #[])) := rfl

/-! ### Facts at F -/
theorem Tryd.valueOf_F (t : Addr) (w : World) : (ReflectliteValue.unpack (.iface 74 (.pointer (some t)))).run Tryd.prog w
    = .ok (.agg #[(.pointer (some ⟨2, 74, none⟩)), .pointer (some ⟨w.heap.size, 0, none⟩), .int .u64 150]) (w.alloc (.cells #[.pointer (some t)] 74)) := by kernel_rfl
theorem Tryd.type_F (a : Addr) (w : World) : (ReflectliteValue.methodAny (ReflectliteValue.valueError "reflectlite.Value.Type" 0) (fun t _ _ _ => ReflectliteType.toType t) #[.agg #[(.pointer (some ⟨2, 74, none⟩)), .pointer (some a), .int .u64 150]]).run Tryd.prog w
    = .ok (.iface 134 (.agg #[(.pointer (some ⟨2, 74, none⟩))])) w := by kernel_rfl
theorem Tryd.kindP_F (w : World) : ((ReflectliteType.abiMethod fun t => (fun a : Nat => Value.int IntKind.u8 (a : Int)) <$> Rtype.kind t) #[(.pointer (some ⟨2, 74, none⟩))]).run Tryd.prog w = .ok (.int .u8 22) w := by kernel_rfl
theorem Tryd.parts_F (a : Addr) (w : World) : (ReflectliteValue.parts (.agg #[(.pointer (some ⟨2, 74, none⟩)), .pointer (some a), .int .u64 150])).run Tryd.prog w = .ok (some (74, a, 150)) w := by kernel_rfl
theorem Tryd.under_F (w : World) : (underlying 74).run Tryd.prog w = .ok (.pointer 62) w := by kernel_rfl
theorem Tryd.elem_F (w : World) : (ReflectliteType.method ReflectliteType.elem #[.agg #[(.pointer (some ⟨2, 74, none⟩))]]).run Tryd.prog w = .ok (.iface 134 (.agg #[(.pointer (some ⟨2, 62, none⟩))])) w := by kernel_rfl
theorem Tryd.implements_F (w : World) : (ReflectliteType.relation "Implements" ReflectliteType.implements_ #[.agg #[(.pointer (some ⟨2, 62, none⟩))], .iface 134 (.agg #[(.pointer (some ⟨2, 27, none⟩))])]).run Tryd.prog w = .ok (.bool true) w := by kernel_rfl
theorem Tryd.typeOf_F (v : Value) (w : World) : (ReflectliteType.typeOf #[.iface 62 v]).run Tryd.prog w = .ok (.iface 134 (.agg #[(.pointer (some ⟨2, 62, none⟩))])) w := by kernel_rfl
theorem Tryd.assignable_F (w : World) : (ReflectliteType.relation "AssignableTo" ReflectliteType.assignableTo #[.agg #[(.pointer (some ⟨2, 62, none⟩))], .iface 134 (.agg #[(.pointer (some ⟨2, 62, none⟩))])]).run Tryd.prog w = .ok (.bool true) w := by kernel_rfl
theorem Tryd.elemOf_F (w : World) : (Rtype.elem? 74).run Tryd.prog w = .ok (some 62) w := by kernel_rfl
theorem Tryd.mk_F (p : Addr) (w : World) : (ReflectliteValue.mk 62 p ReflectliteValue.flagAddr).run Tryd.prog w = .ok (.agg #[(.pointer (some ⟨2, 62, none⟩)), .pointer (some p), .int .u64 406]) w := by kernel_rfl
theorem Tryd.direct_F (w : World) : (Rtype.directlyAssignable 62 62).run Tryd.prog w = .ok true w := by kernel_rfl
theorem Tryd.size_F (w : World) : (sizeOf 62).run Tryd.prog w = .ok 1 w := by kernel_rfl
theorem Tryd.valueOfE_F (e : Addr) (w : World) : (ReflectliteValue.unpack (.iface 62 (.pointer (some e)))).run Tryd.prog w
    = .ok (.agg #[(.pointer (some ⟨2, 62, none⟩)), .pointer (some ⟨w.heap.size, 0, none⟩), .int .u64 150]) (w.alloc (.cells #[.pointer (some e)] 62)) := by kernel_rfl
theorem Tryd.kindE_F (w : World) : ((ReflectliteType.abiMethod fun t => (fun a : Nat => Value.int IntKind.u8 (a : Int)) <$> Rtype.kind t) #[(.pointer (some ⟨2, 62, none⟩))]).run Tryd.prog w = .ok (.int .u8 22) w := by kernel_rfl

/-- (Value).IsNil at the Value of a pointer that is not nil. -/
theorem Tryd.isNil_F (a p : Addr) (W : World) (ha : W.cell? a = some (.pointer (some p))) :
    (ReflectliteValue.method (ReflectliteValue.valueError "reflectlite.Value.IsNil" 0) ReflectliteValue.isNil #[.agg #[(.pointer (some ⟨2, 74, none⟩)), .pointer (some a), .int .u64 150]]).run Tryd.prog W = .ok (.bool false) W := by
  rw [rlm]
  simp only [Sem.run_bind, Tryd.parts_F, Result.andThen]
  simp [ReflectliteValue.isNil, loadVar, isAgg, underlying, Tryd.underlying74, ha, Result.andThen]
/-- (Value).Elem at the Value of a pointer that is not nil: the Value of the variable that it points to, addressable. -/
theorem Tryd.elemV_F (a p : Addr) (W : World) (ha : W.cell? a = some (.pointer (some p))) :
    (ReflectliteValue.method (ReflectliteValue.valueError "reflectlite.Value.Elem" 0) ReflectliteValue.elem #[.agg #[(.pointer (some ⟨2, 74, none⟩)), .pointer (some a), .int .u64 150]]).run Tryd.prog W
      = .ok (.agg #[(.pointer (some ⟨2, 62, none⟩)), .pointer (some p), .int .u64 406]) W := by
  rw [rlm]
  simp only [Sem.run_bind, Tryd.parts_F, Result.andThen]
  simp [ReflectliteValue.elem, loadVar, isAgg, underlying, Tryd.underlying74, ha, Result.andThen, Tryd.elemOf_F, Tryd.mk_F]
theorem Tryd.partsA_F (a : Addr) (w : World) : (ReflectliteValue.parts (.agg #[(.pointer (some ⟨2, 62, none⟩)), .pointer (some a), .int .u64 406])).run Tryd.prog w = .ok (some (62, a, 406)) w := by kernel_rfl
theorem Tryd.partsB_F (a : Addr) (w : World) : (ReflectliteValue.parts (.agg #[(.pointer (some ⟨2, 62, none⟩)), .pointer (some a), .int .u64 150])).run Tryd.prog w = .ok (some (62, a, 150)) w := by kernel_rfl

/-- (Value).Set: the variable at 'ta' gets what the Value's own variable 'b' holds. -/
theorem Tryd.set_F (ta b : Addr) (e : Addr) (old : Value) (W : World) (hb : W.cell? b = some (.pointer (some e))) (ht : W.cell? ta = some old) (hf : W.frozen? ta = false) :
    (ReflectliteValue.set #[.agg #[(.pointer (some ⟨2, 62, none⟩)), .pointer (some ta), .int .u64 406], .agg #[(.pointer (some ⟨2, 62, none⟩)), .pointer (some b), .int .u64 150]]).run Tryd.prog W
      = .ok (.tuple #[]) (W.setCell ta (.pointer (some e))) := by
  rw [rls]
  simp only [Sem.run_bind, Tryd.partsA_F, Tryd.partsB_F, Result.andThen]
  simp [ReflectliteValue.flagAddr, loadVar, isAgg, underlying, Tryd.underlying62, hb, Result.andThen, Tryd.direct_F, storeVar, Value.cells, storeCells, Addr.add]
  rw [run_store Tryd.prog W ta _ _ (by rfl)]
  simp [ht, hf]

/-- The world that errors.As leaves behind at a hit, ahead of the store. -/
def W4_F (e : Addr) (t : Addr) (w : World) : World := ((((w.alloc (.cells #[.pointer (some t)] 74)).alloc (.cells #[.pointer (some ⟨2, 74, none⟩), .pointer (some ⟨w.heap.size, 0, none⟩), .int .u64 150] 107)).alloc (.cells #[.pointer (some ⟨2, 74, none⟩), .pointer (some ⟨w.heap.size, 0, none⟩), .int .u64 150] 107)).alloc (.cells #[.pointer (some e)] 62))
set_option maxRecDepth 100000 in
set_option maxHeartbeats 4000000 in
theorem as_F (e : Addr) (t : Addr) (old : Value) (w : World) (hg : Lg w) (ht0 : w.cell? t = some old) (hf0 : w.frozen? t = false) :
    Calls Tryd.prog 28 #[.iface 62 (.pointer (some e)), .iface 74 (.pointer (some t))] w fun ev w' => ev = .returned (.bool true) ∧ w' = (W4_F e t w).setCell t (.pointer (some e)) := by
  have h6 := @run_callFunc_extern Tryd.prog 50 _ (fun args => ReflectliteValue.unpack (args.getD 0 (.tuple #[]))) Tryd.func50 (by kernel_rfl) (by kernel_rfl) (by kernel_rfl) (by kernel_rfl)
  have h7 := @run_callFunc_extern Tryd.prog 51 _ (ReflectliteValue.methodAny (ReflectliteValue.valueError "reflectlite.Value.Type" 0) (fun t _ _ _ => ReflectliteType.toType t)) Tryd.func51 (by kernel_rfl) (by kernel_rfl) (by kernel_rfl) (by kernel_rfl)
  have h8 := @run_callFunc_extern Tryd.prog 52 _ (ReflectliteValue.method (ReflectliteValue.valueError "reflectlite.Value.IsNil" 0) ReflectliteValue.isNil) Tryd.func52 (by kernel_rfl) (by kernel_rfl) (by kernel_rfl) (by kernel_rfl)
  have h27 := @run_callFunc_extern Tryd.prog 124 _ (ReflectliteType.abiMethod fun t => do pure (.int .u8 (← Rtype.kind t))) Tryd.func124 (by kernel_rfl) (by kernel_rfl) (by kernel_rfl) (by kernel_rfl)
  have h37 := @run_callFunc_extern Tryd.prog 137 _ (ReflectliteType.method ReflectliteType.elem) Tryd.func137 (by kernel_rfl) (by kernel_rfl) (by kernel_rfl) (by kernel_rfl)
  have h38 := @run_callFunc_extern Tryd.prog 138 _ (ReflectliteType.relation "Implements" ReflectliteType.implements_) Tryd.func138 (by kernel_rfl) (by kernel_rfl) (by kernel_rfl) (by kernel_rfl)
  have h10 := @run_callFunc_extern Tryd.prog 76 _ ReflectliteType.typeOf Tryd.func76 (by kernel_rfl) (by kernel_rfl) (by kernel_rfl) (by kernel_rfl)
  have h35 := @run_callFunc_extern Tryd.prog 135 _ (ReflectliteType.relation "AssignableTo" ReflectliteType.assignableTo) Tryd.func135 (by kernel_rfl) (by kernel_rfl) (by kernel_rfl) (by kernel_rfl)
  have h11 := @run_callFunc_extern Tryd.prog 77 _ (ReflectliteValue.method (ReflectliteValue.valueError "reflectlite.Value.Elem" 0) ReflectliteValue.elem) Tryd.func77 (by kernel_rfl) (by kernel_rfl) (by kernel_rfl) (by kernel_rfl)
  have h12 := @run_callFunc_extern Tryd.prog 78 _ ReflectliteValue.set Tryd.func78 (by kernel_rfl) (by kernel_rfl) (by kernel_rfl) (by kernel_rfl)
  have tO := Tryd.typeOf_F
  have mA := Tryd.methodAssignableTo
  have a25 := Tryd.assignable_F
  have v25 := Tryd.valueOfE_F
  have f6 := Tryd.valueOf_F
  have f7 := Tryd.type_F
  have mK := Tryd.methodKind
  have mE := Tryd.methodElem
  have mI := Tryd.methodImplements
  have k27 := Tryd.kindP_F
  have k25 := Tryd.kindE_F
  have e27 := Tryd.elem_F
  have i25 := Tryd.implements_F
  have n8 := Tryd.isNil_F ⟨w.heap.size, 0, none⟩ t ((w.alloc (.cells #[.pointer (some t)] 74)).alloc (.cells #[.pointer (some ⟨2, 74, none⟩), .pointer (some ⟨w.heap.size, 0, none⟩), .int .u64 150] 107)) (by simp)
  have hlt : 0 < w.heap.size := hg.lt
  have hg2 : ((w.alloc (.cells #[.pointer (some t)] 74)).alloc (.cells #[.pointer (some ⟨2, 74, none⟩), .pointer (some ⟨w.heap.size, 0, none⟩), .int .u64 150] 107)).cell? ⟨0, 0, none⟩ = some (.iface 134 (.agg #[(.pointer (some ⟨2, 27, none⟩))])) := by
    rw [World.cell?_alloc_lt _ _ ⟨0, 0, none⟩ (by simp), World.cell?_alloc_lt _ _ ⟨0, 0, none⟩ hlt]; exact hg
  have htl : t.block < w.heap.size := World.block_lt_of_cell? w _ ht0
  have el := Tryd.elemV_F ⟨w.heap.size, 0, none⟩ t (((w.alloc (.cells #[.pointer (some t)] 74)).alloc (.cells #[.pointer (some ⟨2, 74, none⟩), .pointer (some ⟨w.heap.size, 0, none⟩), .int .u64 150] 107)).alloc (.cells #[.pointer (some ⟨2, 74, none⟩), .pointer (some ⟨w.heap.size, 0, none⟩), .int .u64 150] 107)) (by rw [World.cell?_alloc_lt _ _ ⟨w.heap.size, 0, none⟩ (by simp; omega)]; simp)
  have st := Tryd.set_F t ⟨w.heap.size + 1 + 1 + 1, 0, none⟩ e old ((((w.alloc (.cells #[.pointer (some t)] 74)).alloc (.cells #[.pointer (some ⟨2, 74, none⟩), .pointer (some ⟨w.heap.size, 0, none⟩), .int .u64 150] 107)).alloc (.cells #[.pointer (some ⟨2, 74, none⟩), .pointer (some ⟨w.heap.size, 0, none⟩), .int .u64 150] 107)).alloc (.cells #[.pointer (some e)] 62))
    (by rw [World.cell?_alloc_at _ _ _ _ (by simp)]; rfl)
    (by rw [World.cell?_alloc_lt _ _ t (by simp; omega), World.cell?_alloc_lt _ _ t (by simp; omega), World.cell?_alloc_lt _ _ t (by simp; omega), World.cell?_alloc_lt _ _ t htl]; exact ht0)
    (by rw [World.frozen?_alloc_old _ _ t (by simp; omega), World.frozen?_alloc_old _ _ t (by simp; omega), World.frozen?_alloc_old _ _ t (by simp; omega), World.frozen?_alloc_old _ _ t (Nat.ne_of_lt htl)]; exact hf0)
  unfold W4_F
  clear hlt htl
  go_enter Tryd.func28, Tryd.ntmps28
  go_wp2
  refine wp_loop_rounds 1 ?_
  rw [rounds_succ]
  go_wp2
  go_ret
  exact ⟨rfl, rfl⟩

/-! ### Facts at N -/
theorem Tryd.valueOf_N (t : Addr) (w : World) : (ReflectliteValue.unpack (.iface 73 (.pointer (some t)))).run Tryd.prog w
    = .ok (.agg #[(.pointer (some ⟨2, 73, none⟩)), .pointer (some ⟨w.heap.size, 0, none⟩), .int .u64 150]) (w.alloc (.cells #[.pointer (some t)] 73)) := by kernel_rfl
theorem Tryd.type_N (a : Addr) (w : World) : (ReflectliteValue.methodAny (ReflectliteValue.valueError "reflectlite.Value.Type" 0) (fun t _ _ _ => ReflectliteType.toType t) #[.agg #[(.pointer (some ⟨2, 73, none⟩)), .pointer (some a), .int .u64 150]]).run Tryd.prog w
    = .ok (.iface 134 (.agg #[(.pointer (some ⟨2, 73, none⟩))])) w := by kernel_rfl
theorem Tryd.kindP_N (w : World) : ((ReflectliteType.abiMethod fun t => (fun a : Nat => Value.int IntKind.u8 (a : Int)) <$> Rtype.kind t) #[(.pointer (some ⟨2, 73, none⟩))]).run Tryd.prog w = .ok (.int .u8 22) w := by kernel_rfl
theorem Tryd.parts_N (a : Addr) (w : World) : (ReflectliteValue.parts (.agg #[(.pointer (some ⟨2, 73, none⟩)), .pointer (some a), .int .u64 150])).run Tryd.prog w = .ok (some (73, a, 150)) w := by kernel_rfl
theorem Tryd.under_N (w : World) : (underlying 73).run Tryd.prog w = .ok (.pointer 33) w := by kernel_rfl
theorem Tryd.elem_N (w : World) : (ReflectliteType.method ReflectliteType.elem #[.agg #[(.pointer (some ⟨2, 73, none⟩))]]).run Tryd.prog w = .ok (.iface 134 (.agg #[(.pointer (some ⟨2, 33, none⟩))])) w := by kernel_rfl
theorem Tryd.implements_N (w : World) : (ReflectliteType.relation "Implements" ReflectliteType.implements_ #[.agg #[(.pointer (some ⟨2, 33, none⟩))], .iface 134 (.agg #[(.pointer (some ⟨2, 27, none⟩))])]).run Tryd.prog w = .ok (.bool true) w := by kernel_rfl
theorem Tryd.typeOf_N (v : Value) (w : World) : (ReflectliteType.typeOf #[.iface 33 v]).run Tryd.prog w = .ok (.iface 134 (.agg #[(.pointer (some ⟨2, 33, none⟩))])) w := by kernel_rfl
theorem Tryd.assignable_N (w : World) : (ReflectliteType.relation "AssignableTo" ReflectliteType.assignableTo #[.agg #[(.pointer (some ⟨2, 33, none⟩))], .iface 134 (.agg #[(.pointer (some ⟨2, 33, none⟩))])]).run Tryd.prog w = .ok (.bool true) w := by kernel_rfl
theorem Tryd.elemOf_N (w : World) : (Rtype.elem? 73).run Tryd.prog w = .ok (some 33) w := by kernel_rfl
theorem Tryd.mk_N (p : Addr) (w : World) : (ReflectliteValue.mk 33 p ReflectliteValue.flagAddr).run Tryd.prog w = .ok (.agg #[(.pointer (some ⟨2, 33, none⟩)), .pointer (some p), .int .u64 386]) w := by kernel_rfl
theorem Tryd.direct_N (w : World) : (Rtype.directlyAssignable 33 33).run Tryd.prog w = .ok true w := by kernel_rfl
theorem Tryd.size_N (w : World) : (sizeOf 33).run Tryd.prog w = .ok 1 w := by kernel_rfl
theorem Tryd.valueOfE_N (c : Int) (w : World) : (ReflectliteValue.unpack (.iface 33 (.int .i64 c))).run Tryd.prog w
    = .ok (.agg #[(.pointer (some ⟨2, 33, none⟩)), .pointer (some ⟨w.heap.size, 0, none⟩), .int .u64 130]) (w.alloc (.cells #[.int .i64 c] 33)) := by kernel_rfl
theorem Tryd.kindE_N (w : World) : ((ReflectliteType.abiMethod fun t => (fun a : Nat => Value.int IntKind.u8 (a : Int)) <$> Rtype.kind t) #[(.pointer (some ⟨2, 33, none⟩))]).run Tryd.prog w = .ok (.int .u8 2) w := by kernel_rfl

/-- (Value).IsNil at the Value of a pointer that is not nil. -/
theorem Tryd.isNil_N (a p : Addr) (W : World) (ha : W.cell? a = some (.pointer (some p))) :
    (ReflectliteValue.method (ReflectliteValue.valueError "reflectlite.Value.IsNil" 0) ReflectliteValue.isNil #[.agg #[(.pointer (some ⟨2, 73, none⟩)), .pointer (some a), .int .u64 150]]).run Tryd.prog W = .ok (.bool false) W := by
  rw [rlm]
  simp only [Sem.run_bind, Tryd.parts_N, Result.andThen]
  simp [ReflectliteValue.isNil, loadVar, isAgg, underlying, Tryd.underlying73, ha, Result.andThen]
/-- (Value).Elem at the Value of a pointer that is not nil: the Value of the variable that it points to, addressable. -/
theorem Tryd.elemV_N (a p : Addr) (W : World) (ha : W.cell? a = some (.pointer (some p))) :
    (ReflectliteValue.method (ReflectliteValue.valueError "reflectlite.Value.Elem" 0) ReflectliteValue.elem #[.agg #[(.pointer (some ⟨2, 73, none⟩)), .pointer (some a), .int .u64 150]]).run Tryd.prog W
      = .ok (.agg #[(.pointer (some ⟨2, 33, none⟩)), .pointer (some p), .int .u64 386]) W := by
  rw [rlm]
  simp only [Sem.run_bind, Tryd.parts_N, Result.andThen]
  simp [ReflectliteValue.elem, loadVar, isAgg, underlying, Tryd.underlying73, ha, Result.andThen, Tryd.elemOf_N, Tryd.mk_N]
theorem Tryd.partsA_N (a : Addr) (w : World) : (ReflectliteValue.parts (.agg #[(.pointer (some ⟨2, 33, none⟩)), .pointer (some a), .int .u64 386])).run Tryd.prog w = .ok (some (33, a, 386)) w := by kernel_rfl
theorem Tryd.partsB_N (a : Addr) (w : World) : (ReflectliteValue.parts (.agg #[(.pointer (some ⟨2, 33, none⟩)), .pointer (some a), .int .u64 130])).run Tryd.prog w = .ok (some (33, a, 130)) w := by kernel_rfl

/-- (Value).Set: the variable at 'ta' gets what the Value's own variable 'b' holds. -/
theorem Tryd.set_N (ta b : Addr) (c : Int) (old : Value) (W : World) (hb : W.cell? b = some (.int .i64 c)) (ht : W.cell? ta = some old) (hf : W.frozen? ta = false) :
    (ReflectliteValue.set #[.agg #[(.pointer (some ⟨2, 33, none⟩)), .pointer (some ta), .int .u64 386], .agg #[(.pointer (some ⟨2, 33, none⟩)), .pointer (some b), .int .u64 130]]).run Tryd.prog W
      = .ok (.tuple #[]) (W.setCell ta (.int .i64 c)) := by
  rw [rls]
  simp only [Sem.run_bind, Tryd.partsA_N, Tryd.partsB_N, Result.andThen]
  simp [ReflectliteValue.flagAddr, loadVar, isAgg, underlying, Tryd.underlying33, hb, Result.andThen, Tryd.direct_N, storeVar, Value.cells, storeCells, Addr.add]
  rw [run_store Tryd.prog W ta _ _ (by rfl)]
  simp [ht, hf]

theorem Tryd.noAs (v : Value) (w : World) : (Instr.typeAssert (.iface 62 v) 27 139 true).run Tryd.prog w = .ok (.tuple #[.nilIface, .bool false]) w := run_typeAssert_lacksB Tryd.underlying139 (by kernel_rfl) (by kernel_rfl) v _ w
theorem Tryd.hasUnwrap (v : Value) (w : World) : (Instr.typeAssert (.iface 62 v) 27 142 true).run Tryd.prog w = .ok (.tuple #[.iface 62 v, .bool true]) w := run_typeAssert_hasB Tryd.underlying142 (by kernel_rfl) v _ w
theorem Tryd.methodUnwrap (e : Addr) (w : World) : (Go.method 302 62 (.pointer (some e)) "Unwrap").run Tryd.prog w = .ok (129, .pointer (some e)) w := by kernel_rfl
theorem Tryd.notAssignable (w : World) : (ReflectliteType.relation "AssignableTo" ReflectliteType.assignableTo #[.agg #[(.pointer (some ⟨2, 62, none⟩))], .iface 134 (.agg #[(.pointer (some ⟨2, 33, none⟩))])]).run Tryd.prog w = .ok (.bool false) w := by kernel_rfl
theorem unwrap_any (e : Addr) (c : Int) (w : World) (he : w.cell? e = some (.int .i64 c)) :
    Calls Tryd.prog 129 #[.pointer (some e)] w fun ev w' => ev = .returned (.iface 33 (.int .i64 c)) ∧ w = w' := by
  go_enter Tryd.func129, Tryd.ntmps129
  have he0 : w.cell? (e.add 0) = some (.int .i64 c) := he
  go_wp2
  go_ret
  exact ⟨rfl, rfl⟩

/-- The world that errors.As leaves behind at a hit, ahead of the store. -/
def W4_N (c : Int) (t : Addr) (w : World) : World := ((((w.alloc (.cells #[.pointer (some t)] 73)).alloc (.cells #[.pointer (some ⟨2, 73, none⟩), .pointer (some ⟨w.heap.size, 0, none⟩), .int .u64 150] 107)).alloc (.cells #[.pointer (some ⟨2, 73, none⟩), .pointer (some ⟨w.heap.size, 0, none⟩), .int .u64 150] 107)).alloc (.cells #[.int .i64 c] 33))
set_option maxRecDepth 100000 in
set_option maxHeartbeats 4000000 in
theorem as_N (e : Addr) (c : Int) (t : Addr) (old : Value) (w : World) (hg : Lg w) (he : w.cell? e = some (.int .i64 c)) (ht0 : w.cell? t = some old) (hf0 : w.frozen? t = false) :
    Calls Tryd.prog 28 #[.iface 62 (.pointer (some e)), .iface 73 (.pointer (some t))] w fun ev w' => ev = .returned (.bool true) ∧ w' = (W4_N c t w).setCell t (.int .i64 c) := by
  have h6 := @run_callFunc_extern Tryd.prog 50 _ (fun args => ReflectliteValue.unpack (args.getD 0 (.tuple #[]))) Tryd.func50 (by kernel_rfl) (by kernel_rfl) (by kernel_rfl) (by kernel_rfl)
  have h7 := @run_callFunc_extern Tryd.prog 51 _ (ReflectliteValue.methodAny (ReflectliteValue.valueError "reflectlite.Value.Type" 0) (fun t _ _ _ => ReflectliteType.toType t)) Tryd.func51 (by kernel_rfl) (by kernel_rfl) (by kernel_rfl) (by kernel_rfl)
  have h8 := @run_callFunc_extern Tryd.prog 52 _ (ReflectliteValue.method (ReflectliteValue.valueError "reflectlite.Value.IsNil" 0) ReflectliteValue.isNil) Tryd.func52 (by kernel_rfl) (by kernel_rfl) (by kernel_rfl) (by kernel_rfl)
  have h27 := @run_callFunc_extern Tryd.prog 124 _ (ReflectliteType.abiMethod fun t => do pure (.int .u8 (← Rtype.kind t))) Tryd.func124 (by kernel_rfl) (by kernel_rfl) (by kernel_rfl) (by kernel_rfl)
  have h37 := @run_callFunc_extern Tryd.prog 137 _ (ReflectliteType.method ReflectliteType.elem) Tryd.func137 (by kernel_rfl) (by kernel_rfl) (by kernel_rfl) (by kernel_rfl)
  have h38 := @run_callFunc_extern Tryd.prog 138 _ (ReflectliteType.relation "Implements" ReflectliteType.implements_) Tryd.func138 (by kernel_rfl) (by kernel_rfl) (by kernel_rfl) (by kernel_rfl)
  have h10 := @run_callFunc_extern Tryd.prog 76 _ ReflectliteType.typeOf Tryd.func76 (by kernel_rfl) (by kernel_rfl) (by kernel_rfl) (by kernel_rfl)
  have h35 := @run_callFunc_extern Tryd.prog 135 _ (ReflectliteType.relation "AssignableTo" ReflectliteType.assignableTo) Tryd.func135 (by kernel_rfl) (by kernel_rfl) (by kernel_rfl) (by kernel_rfl)
  have h11 := @run_callFunc_extern Tryd.prog 77 _ (ReflectliteValue.method (ReflectliteValue.valueError "reflectlite.Value.Elem" 0) ReflectliteValue.elem) Tryd.func77 (by kernel_rfl) (by kernel_rfl) (by kernel_rfl) (by kernel_rfl)
  have h12 := @run_callFunc_extern Tryd.prog 78 _ ReflectliteValue.set Tryd.func78 (by kernel_rfl) (by kernel_rfl) (by kernel_rfl) (by kernel_rfl)
  have tO := Tryd.typeOf_N
  have mA := Tryd.methodAssignableTo
  have noAs := Tryd.noAs
  have hasU := Tryd.hasUnwrap
  have mU := Tryd.methodUnwrap
  have tF := Tryd.typeOf_F
  have nA := Tryd.notAssignable
  have a25 := Tryd.assignable_N
  have v25 := Tryd.valueOfE_N
  have f6 := Tryd.valueOf_N
  have f7 := Tryd.type_N
  have mK := Tryd.methodKind
  have mE := Tryd.methodElem
  have mI := Tryd.methodImplements
  have k27 := Tryd.kindP_N
  have k25 := Tryd.kindE_N
  have e27 := Tryd.elem_N
  have i25 := Tryd.implements_N
  have n8 := Tryd.isNil_N ⟨w.heap.size, 0, none⟩ t ((w.alloc (.cells #[.pointer (some t)] 73)).alloc (.cells #[.pointer (some ⟨2, 73, none⟩), .pointer (some ⟨w.heap.size, 0, none⟩), .int .u64 150] 107)) (by simp)
  have hlt : 0 < w.heap.size := hg.lt
  have hg2 : ((w.alloc (.cells #[.pointer (some t)] 73)).alloc (.cells #[.pointer (some ⟨2, 73, none⟩), .pointer (some ⟨w.heap.size, 0, none⟩), .int .u64 150] 107)).cell? ⟨0, 0, none⟩ = some (.iface 134 (.agg #[(.pointer (some ⟨2, 27, none⟩))])) := by
    rw [World.cell?_alloc_lt _ _ ⟨0, 0, none⟩ (by simp), World.cell?_alloc_lt _ _ ⟨0, 0, none⟩ hlt]; exact hg
  have htl : t.block < w.heap.size := World.block_lt_of_cell? w _ ht0
  have el := Tryd.elemV_N ⟨w.heap.size, 0, none⟩ t (((w.alloc (.cells #[.pointer (some t)] 73)).alloc (.cells #[.pointer (some ⟨2, 73, none⟩), .pointer (some ⟨w.heap.size, 0, none⟩), .int .u64 150] 107)).alloc (.cells #[.pointer (some ⟨2, 73, none⟩), .pointer (some ⟨w.heap.size, 0, none⟩), .int .u64 150] 107)) (by rw [World.cell?_alloc_lt _ _ ⟨w.heap.size, 0, none⟩ (by simp; omega)]; simp)
  have st := Tryd.set_N t ⟨w.heap.size + 1 + 1 + 1, 0, none⟩ c old ((((w.alloc (.cells #[.pointer (some t)] 73)).alloc (.cells #[.pointer (some ⟨2, 73, none⟩), .pointer (some ⟨w.heap.size, 0, none⟩), .int .u64 150] 107)).alloc (.cells #[.pointer (some ⟨2, 73, none⟩), .pointer (some ⟨w.heap.size, 0, none⟩), .int .u64 150] 107)).alloc (.cells #[.int .i64 c] 33))
    (by rw [World.cell?_alloc_at _ _ _ _ (by simp)]; rfl)
    (by rw [World.cell?_alloc_lt _ _ t (by simp; omega), World.cell?_alloc_lt _ _ t (by simp; omega), World.cell?_alloc_lt _ _ t (by simp; omega), World.cell?_alloc_lt _ _ t htl]; exact ht0)
    (by rw [World.frozen?_alloc_old _ _ t (by simp; omega), World.frozen?_alloc_old _ _ t (by simp; omega), World.frozen?_alloc_old _ _ t (by simp; omega), World.frozen?_alloc_old _ _ t (Nat.ne_of_lt htl)]; exact hf0)
  have hel : e.block < w.heap.size := World.block_lt_of_cell? w _ he
  have he3 := he
  rw [← World.cell?_alloc_lt w (.cells #[.pointer (some t)] 73) e hel, ← World.cell?_alloc_lt (w.alloc (.cells #[.pointer (some t)] 73)) (.cells #[.pointer (some ⟨2, 73, none⟩), .pointer (some ⟨w.heap.size, 0, none⟩), .int .u64 150] 107) e (by simp; omega),
    ← World.cell?_alloc_lt ((w.alloc (.cells #[.pointer (some t)] 73)).alloc (.cells #[.pointer (some ⟨2, 73, none⟩), .pointer (some ⟨w.heap.size, 0, none⟩), .int .u64 150] 107)) (.cells #[.pointer (some ⟨2, 73, none⟩), .pointer (some ⟨w.heap.size, 0, none⟩), .int .u64 150] 107) e (by simp; omega)] at he3
  unfold W4_N
  clear hlt htl hel
  go_enter Tryd.func28, Tryd.ntmps28
  go_wp2
  refine wp_loop_rounds 2 ?_
  rw [rounds_succ]
  go_wp2_with (go_at_call 129; refine (unwrap_any _ _ _ he3).mono ?_; rintro e1 w1 ⟨rfl, rfl⟩)
  rw [rounds_succ]
  go_wp2
  go_ret
  exact ⟨rfl, rfl⟩

end Go.Proofs.YtglknnncpaggpaaDoor
