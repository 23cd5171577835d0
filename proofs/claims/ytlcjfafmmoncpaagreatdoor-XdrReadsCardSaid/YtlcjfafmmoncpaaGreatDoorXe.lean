/- errors.As at the error of package xdr: what it finds, and where it lays it. -/
import Derived.Test.YtlcjfafmmoncpaaGreatDoorXw
import Derived.Stop.Asserts
import Derived.RowKitTokens
namespace Go.Proofs.YtlcjfafmmoncpaaGreatDoor
open Go.RowKit Go.Extern.Stop Go.Stop Go.Extern
set_option linter.unusedVariables false
set_option linter.unusedSimpArgs false

/-- errors.As of no error. -/
theorem as_nil (t : Value) (w : World) : Calls Tryz.prog 141 #[.nilIface, t] w fun e w' => e = .returned (.bool false) ∧ w = w' := by
  go_enter Tryz.func141, Tryz.ntmps141
  go_wp2
  go_ret
  exact ⟨rfl, rfl⟩

theorem Tryz.valueOfP (t : Addr) (w : World) : (ReflectliteValue.unpack (.iface 171 (.pointer (some t)))).run Tryz.prog w
    = .ok (.agg #[.pointer (some ⟨5, 171, none⟩), .pointer (some ⟨w.heap.size, 0, none⟩), .int .u64 150]) (w.alloc (.cells #[.pointer (some t)] 171)) := by kernel_rfl
theorem Tryz.typeP (a : Addr) (w : World) : (ReflectliteValue.methodAny (ReflectliteValue.valueError "reflectlite.Value.Type" 0) (fun t _ _ _ => ReflectliteType.toType t) #[.agg #[.pointer (some ⟨5, 171, none⟩), .pointer (some a), .int .u64 150]]).run Tryz.prog w
    = .ok (.iface 233 (.agg #[.pointer (some ⟨5, 171, none⟩)])) w := by kernel_rfl
theorem Tryz.methodKind (h : Value) (w : World) : (Go.method 394 233 (.agg #[h]) "Kind").run Tryz.prog w = .ok (222, h) w := by kernel_rfl
theorem Tryz.kindP (w : World) : ((ReflectliteType.abiMethod fun t => (fun a : Nat => Value.int IntKind.u8 (a : Int)) <$> Rtype.kind t) #[.pointer (some ⟨5, 171, none⟩)]).run Tryz.prog w = .ok (.int .u8 22) w := by kernel_rfl
theorem Tryz.kindT (w : World) : ((ReflectliteType.abiMethod fun t => (fun a : Nat => Value.int IntKind.u8 (a : Int)) <$> Rtype.kind t) #[.pointer (some ⟨5, 169, none⟩)]).run Tryz.prog w = .ok (.int .u8 25) w := by kernel_rfl
theorem rlm (z : Sem Value) (f : TypeId → Addr → Nat → Nat → Sem Value) (v : Value) :
    ReflectliteValue.method z f #[v] = (do match ← ReflectliteValue.parts v with | none => z | some (t, a, fl) => f t a fl (fl % 32)) := rfl
theorem Tryz.partsP (a : Addr) (w : World) : (ReflectliteValue.parts (.agg #[.pointer (some ⟨5, 171, none⟩), .pointer (some a), .int .u64 150])).run Tryz.prog w = .ok (some (171, a, 150)) w := by kernel_rfl
theorem Tryz.isNilP (a p : Addr) (W : World) (ha : W.cell? a = some (.pointer (some p))) :
    (ReflectliteValue.method (ReflectliteValue.valueError "reflectlite.Value.IsNil" 0) ReflectliteValue.isNil #[.agg #[.pointer (some ⟨5, 171, none⟩), .pointer (some a), .int .u64 150]]).run Tryz.prog W = .ok (.bool false) W := by
  rw [rlm]
  simp only [Sem.run_bind, Tryz.partsP, Result.andThen]
  simp [ReflectliteValue.isNil, loadVar, isAgg, underlying, Tryz.underlying171, ha, Result.andThen]
theorem Tryz.methodElem (h : Value) (w : World) : (Go.method 394 233 (.agg #[h]) "Elem").run Tryz.prog w = .ok (237, .agg #[h]) w := by kernel_rfl
theorem Tryz.methodImplements (h : Value) (w : World) : (Go.method 394 233 (.agg #[h]) "Implements").run Tryz.prog w = .ok (238, .agg #[h]) w := by kernel_rfl
theorem Tryz.methodAssignableTo (h : Value) (w : World) : (Go.method 394 233 (.agg #[h]) "AssignableTo").run Tryz.prog w = .ok (235, .agg #[h]) w := by kernel_rfl
theorem Tryz.elemP (w : World) : (ReflectliteType.method ReflectliteType.elem #[.agg #[.pointer (some ⟨5, 171, none⟩)]]).run Tryz.prog w = .ok (.iface 233 (.agg #[.pointer (some ⟨5, 169, none⟩)])) w := by kernel_rfl
theorem Tryz.implementsT (w : World) : (ReflectliteType.relation "Implements" ReflectliteType.implements_ #[.agg #[.pointer (some ⟨5, 169, none⟩)], .iface 233 (.agg #[.pointer (some ⟨5, 95, none⟩)])]).run Tryz.prog w = .ok (.bool true) w := by kernel_rfl
theorem Tryz.typeOfT (v : Value) (w : World) : (ReflectliteType.typeOf #[.iface 169 v]).run Tryz.prog w = .ok (.iface 233 (.agg #[.pointer (some ⟨5, 169, none⟩)])) w := by kernel_rfl
theorem Tryz.assignableT (w : World) : (ReflectliteType.relation "AssignableTo" ReflectliteType.assignableTo #[.agg #[.pointer (some ⟨5, 169, none⟩)], .iface 233 (.agg #[.pointer (some ⟨5, 169, none⟩)])]).run Tryz.prog w = .ok (.bool true) w := by kernel_rfl
theorem Tryz.valueOfT (n : Int) (w : World) : (ReflectliteValue.unpack (.iface 169 (.agg #[.int .i64 n]))).run Tryz.prog w
    = .ok (.agg #[.pointer (some ⟨5, 169, none⟩), .pointer (some ⟨w.heap.size, 0, none⟩), .int .u64 153]) (w.alloc (.cells #[.int .i64 n] 169)) := by kernel_rfl
theorem Tryz.elemOfP (w : World) : (Rtype.elem? 171).run Tryz.prog w = .ok (some 169) w := by kernel_rfl
theorem Tryz.mkT (p : Addr) (w : World) : (ReflectliteValue.mk 169 p ReflectliteValue.flagAddr).run Tryz.prog w = .ok (.agg #[.pointer (some ⟨5, 169, none⟩), .pointer (some p), .int .u64 409]) w := by kernel_rfl
theorem Tryz.elemVP (a p : Addr) (W : World) (ha : W.cell? a = some (.pointer (some p))) :
    (ReflectliteValue.method (ReflectliteValue.valueError "reflectlite.Value.Elem" 0) ReflectliteValue.elem #[.agg #[.pointer (some ⟨5, 171, none⟩), .pointer (some a), .int .u64 150]]).run Tryz.prog W
      = .ok (.agg #[.pointer (some ⟨5, 169, none⟩), .pointer (some p), .int .u64 409]) W := by
  rw [rlm]
  simp only [Sem.run_bind, Tryz.partsP, Result.andThen]
  simp [ReflectliteValue.elem, loadVar, isAgg, underlying, Tryz.underlying171, ha, Result.andThen, Tryz.elemOfP, Tryz.mkT]

theorem Tryz.partsTa (a : Addr) (w : World) : (ReflectliteValue.parts (.agg #[.pointer (some ⟨5, 169, none⟩), .pointer (some a), .int .u64 409])).run Tryz.prog w = .ok (some (169, a, 409)) w := by kernel_rfl
theorem Tryz.partsT (a : Addr) (w : World) : (ReflectliteValue.parts (.agg #[.pointer (some ⟨5, 169, none⟩), .pointer (some a), .int .u64 153])).run Tryz.prog w = .ok (some (169, a, 153)) w := by kernel_rfl
theorem Tryz.directT (w : World) : (Rtype.directlyAssignable 169 169).run Tryz.prog w = .ok true w := by kernel_rfl
theorem Tryz.sizeT (w : World) : (sizeOf 169).run Tryz.prog w = .ok 1 w := by kernel_rfl
theorem Tryz.aggT (w : World) : (isAgg 169).run Tryz.prog w = .ok true w := by kernel_rfl
theorem Tryz.setT (ta : Addr) (bb : Nat) (n : Int) (old : Value) (W : World) (hb : W.cell? ⟨bb, 0, none⟩ = some (.int .i64 n)) (ht : W.cell? ta = some old) (hf : W.frozen? ta = false) :
    (ReflectliteValue.set #[.agg #[.pointer (some ⟨5, 169, none⟩), .pointer (some ta), .int .u64 409], .agg #[.pointer (some ⟨5, 169, none⟩), .pointer (some ⟨bb, 0, none⟩), .int .u64 153]]).run Tryz.prog W
      = .ok (.tuple #[]) (W.setCell ta (.int .i64 n)) := by
  have hl : (loadCells ⟨bb, 0, none⟩ 1).run Tryz.prog W = .ok #[.int .i64 n] W := by
    have := run_loadCells_list (P := Tryz.prog) (w := W) ⟨bb, 0, none⟩ [.int .i64 n] (fun j v hj => by
      match j, hj with
      | 0, hj => simp at hj; subst hj; simpa [Addr.add] using hb)
    simpa using this
  show (ReflectliteValue.parts (.agg #[.pointer (some ⟨5, 169, none⟩), .pointer (some ta), .int .u64 409]) >>= fun _ => (ReflectliteValue.parts (.agg #[.pointer (some ⟨5, 169, none⟩), .pointer (some ⟨bb, 0, none⟩), .int .u64 153]) >>= _)).run Tryz.prog W = _
  simp only [Sem.run_bind, Tryz.partsTa, Tryz.partsT, Result.andThen]
  simp [ReflectliteValue.flagAddr, loadVar, hl, Result.andThen, Tryz.directT, storeVar, Value.cells, storeCells, Addr.add]
  rw [run_store Tryz.prog W ta _ _ (by rfl)]
  simp [ht, hf]

set_option maxHeartbeats 4000000 in
/-- errors.As where the error is of the target's own type. -/
theorem as_hit (n old : Int) (t : Nat) (w : World) (hg : w.cell? ⟨0, 0, none⟩ = some (.iface 233 (.agg #[.pointer (some ⟨5, 95, none⟩)]))) (ht0 : w.heap[t]? = some (.cells #[.int .i64 old] 169 (0, 0))) :
    Calls Tryz.prog 141 #[.iface 169 (.agg #[.int .i64 n]), .iface 171 (.pointer (some ⟨t, 0, none⟩))] w fun ev w' => ev = .returned (.bool true) ∧ Fr (fun k => k = t) w w' ∧ w'.heap[t]? = some (.cells #[.int .i64 n] 169 (0, 0)) := by
  have h6 := @run_callFunc_extern Tryz.prog 164 _ (fun args => ReflectliteValue.unpack (args.getD 0 (.tuple #[]))) Tryz.func164 (by kernel_rfl) (by kernel_rfl) (by kernel_rfl) (by kernel_rfl)
  have h7 := @run_callFunc_extern Tryz.prog 165 _ (ReflectliteValue.methodAny (ReflectliteValue.valueError "reflectlite.Value.Type" 0) (fun t _ _ _ => ReflectliteType.toType t)) Tryz.func165 (by kernel_rfl) (by kernel_rfl) (by kernel_rfl) (by kernel_rfl)
  have h8 := @run_callFunc_extern Tryz.prog 166 _ (ReflectliteValue.method (ReflectliteValue.valueError "reflectlite.Value.IsNil" 0) ReflectliteValue.isNil) Tryz.func166 (by kernel_rfl) (by kernel_rfl) (by kernel_rfl) (by kernel_rfl)
  have h27 := @run_callFunc_extern Tryz.prog 222 _ (ReflectliteType.abiMethod fun t => do pure (.int .u8 (← Rtype.kind t))) Tryz.func222 (by kernel_rfl) (by kernel_rfl) (by kernel_rfl) (by kernel_rfl)
  have h37 := @run_callFunc_extern Tryz.prog 237 _ (ReflectliteType.method ReflectliteType.elem) Tryz.func237 (by kernel_rfl) (by kernel_rfl) (by kernel_rfl) (by kernel_rfl)
  have h38 := @run_callFunc_extern Tryz.prog 238 _ (ReflectliteType.relation "Implements" ReflectliteType.implements_) Tryz.func238 (by kernel_rfl) (by kernel_rfl) (by kernel_rfl) (by kernel_rfl)
  have h10 := @run_callFunc_extern Tryz.prog 185 _ ReflectliteType.typeOf Tryz.func185 (by kernel_rfl) (by kernel_rfl) (by kernel_rfl) (by kernel_rfl)
  have h35 := @run_callFunc_extern Tryz.prog 235 _ (ReflectliteType.relation "AssignableTo" ReflectliteType.assignableTo) Tryz.func235 (by kernel_rfl) (by kernel_rfl) (by kernel_rfl) (by kernel_rfl)
  have h11 := @run_callFunc_extern Tryz.prog 186 _ (ReflectliteValue.method (ReflectliteValue.valueError "reflectlite.Value.Elem" 0) ReflectliteValue.elem) Tryz.func186 (by kernel_rfl) (by kernel_rfl) (by kernel_rfl) (by kernel_rfl)
  have h12 := @run_callFunc_extern Tryz.prog 187 _ ReflectliteValue.set Tryz.func187 (by kernel_rfl) (by kernel_rfl) (by kernel_rfl) (by kernel_rfl)
  have tO := Tryz.typeOfT
  have mA := Tryz.methodAssignableTo
  have a25 := Tryz.assignableT
  have v25 := Tryz.valueOfT
  have f6 := Tryz.valueOfP
  have f7 := Tryz.typeP
  have mK := Tryz.methodKind
  have mE := Tryz.methodElem
  have mI := Tryz.methodImplements
  have k27 := Tryz.kindP
  have k25 := Tryz.kindT
  have e27 := Tryz.elemP
  have i25 := Tryz.implementsT
  have n8 := Tryz.isNilP ⟨w.heap.size, 0, none⟩ ⟨t, 0, none⟩ ((w.alloc (.cells #[.pointer (some ⟨t, 0, none⟩)] 171)).alloc (.cells #[.pointer (some ⟨5, 171, none⟩), .pointer (some ⟨w.heap.size, 0, none⟩), .int .u64 150] 200)) (by simp)
  have hlt : 0 < w.heap.size := by
    rcases Nat.lt_or_ge 0 w.heap.size with h | h
    · exact h
    · simp [World.cell?, Array.getElem?_eq_none h] at hg
  have hg2 : ((w.alloc (.cells #[.pointer (some ⟨t, 0, none⟩)] 171)).alloc (.cells #[.pointer (some ⟨5, 171, none⟩), .pointer (some ⟨w.heap.size, 0, none⟩), .int .u64 150] 200)).cell? ⟨0, 0, none⟩ = some (.iface 233 (.agg #[.pointer (some ⟨5, 95, none⟩)])) := by
    rw [World.cell?_alloc_lt _ _ ⟨0, 0, none⟩ (by simp <;> omega), World.cell?_alloc_lt _ _ ⟨0, 0, none⟩ hlt]; exact hg
  have htl : t < w.heap.size := lt_of_block ht0
  have hT := Lib.hid ht0
  have ht1 := cellOf ht0 0
  have hf0 := freeOf ht0 0
  simp at ht1
  clear ht0
  have el := Tryz.elemVP ⟨w.heap.size, 0, none⟩ ⟨t, 0, none⟩ (((w.alloc (.cells #[.pointer (some ⟨t, 0, none⟩)] 171)).alloc (.cells #[.pointer (some ⟨5, 171, none⟩), .pointer (some ⟨w.heap.size, 0, none⟩), .int .u64 150] 200)).alloc (.cells #[.pointer (some ⟨5, 171, none⟩), .pointer (some ⟨w.heap.size, 0, none⟩), .int .u64 150] 200)) (by rw [World.cell?_alloc_lt _ _ ⟨w.heap.size, 0, none⟩ (by simp <;> omega), World.cell?_alloc_lt _ _ ⟨w.heap.size, 0, none⟩ (by simp)]; simp)
  have st := Tryz.setT ⟨t, 0, none⟩ (w.heap.size + 1 + 1 + 1) n (.int .i64 old) ((((w.alloc (.cells #[.pointer (some ⟨t, 0, none⟩)] 171)).alloc (.cells #[.pointer (some ⟨5, 171, none⟩), .pointer (some ⟨w.heap.size, 0, none⟩), .int .u64 150] 200)).alloc (.cells #[.pointer (some ⟨5, 171, none⟩), .pointer (some ⟨w.heap.size, 0, none⟩), .int .u64 150] 200)).alloc (.cells #[.int .i64 n] 169))
    (by rw [World.cell?_alloc_at _ _ _ _ (by simp)]; rfl)
    (by rw [World.cell?_alloc_lt _ _ ⟨t, 0, none⟩ (by simp <;> omega), World.cell?_alloc_lt _ _ ⟨t, 0, none⟩ (by simp <;> omega), World.cell?_alloc_lt _ _ ⟨t, 0, none⟩ (by simp <;> omega), World.cell?_alloc_lt _ _ ⟨t, 0, none⟩ htl]; exact ht1)
    (by rw [World.frozen?_alloc_old _ _ ⟨t, 0, none⟩ (by simp <;> omega), World.frozen?_alloc_old _ _ ⟨t, 0, none⟩ (by simp <;> omega), World.frozen?_alloc_old _ _ ⟨t, 0, none⟩ (by simp <;> omega), World.frozen?_alloc_old _ _ ⟨t, 0, none⟩ (Nat.ne_of_lt htl)]; exact hf0)
  go_enter Tryz.func141, Tryz.ntmps141
  go_wp2
  refine wp_loop_rounds 1 ?_
  rw [rounds_succ]
  go_wp2
  go_ret
  refine ⟨rfl, Fr.setCell (S := fun k => k = t) (p := ⟨t, 0, none⟩) (((((Fr.refl _ _).alloc _).alloc _).alloc _).alloc _) (.inl rfl) _, ?_⟩
  refine (setOf' (c := #[.int .i64 old]) ?_ 0 _).trans rfl
  rw [Below.heap_alloc _ _ _ (by simp <;> omega), Below.heap_alloc _ _ _ (by simp <;> omega), Below.heap_alloc _ _ _ (by simp <;> omega), Below.heap_alloc _ _ _ htl]
  exact hT.out

end Go.Proofs.YtlcjfafmmoncpaaGreatDoor
