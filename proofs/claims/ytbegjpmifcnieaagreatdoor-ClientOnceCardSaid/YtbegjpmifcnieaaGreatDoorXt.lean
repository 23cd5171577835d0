/- errors.As at the error of package xdr: what it finds, and where it lays it. -/
import Derived.Test.YtbegjpmifcnieaaGreatDoorXw
import Derived.Stop.Asserts
import Derived.RowKitTokens
import Derived.Maps.AppendAt
namespace Go.Proofs.YtbegjpmifcnieaaGreatDoor
open Go.RowKit Go.Extern.Stop Go.Stop Go.Extern
set_option linter.unusedVariables false
set_option linter.unusedSimpArgs false

/-- errors.As of no error. -/
theorem as_nil (t : Value) (w : World) : Calls Tryz.prog 249 #[.nilIface, t] w fun e w' => e = .returned (.bool false) ∧ w = w' := by
  go_enter Tryz.func249, Tryz.ntmps249
  go_wp2
  go_ret
  exact ⟨rfl, rfl⟩

theorem Tryz.valueOfP (t : Addr) (w : World) : (ReflectliteValue.unpack (.iface 358 (.pointer (some t)))).run Tryz.prog w
    = .ok (.agg #[.pointer (some ⟨4, 358, none⟩), .pointer (some ⟨w.heap.size, 0, none⟩), .int .u64 150]) (w.alloc (.cells #[.pointer (some t)] 358)) := by kernel_rfl
theorem Tryz.typeP (a : Addr) (w : World) : (ReflectliteValue.methodAny (ReflectliteValue.valueError "reflectlite.Value.Type" 0) (fun t _ _ _ => ReflectliteType.toType t) #[.agg #[.pointer (some ⟨4, 358, none⟩), .pointer (some a), .int .u64 150]]).run Tryz.prog w
    = .ok (.iface 394 (.agg #[.pointer (some ⟨4, 358, none⟩)])) w := by kernel_rfl
theorem Tryz.methodKind (h : Value) (w : World) : (Go.method 561 394 (.agg #[h]) "Kind").run Tryz.prog w = .ok (330, h) w := by kernel_rfl
theorem Tryz.kindP (w : World) : ((ReflectliteType.abiMethod fun t => (fun a : Nat => Value.int IntKind.u8 (a : Int)) <$> Rtype.kind t) #[.pointer (some ⟨4, 358, none⟩)]).run Tryz.prog w = .ok (.int .u8 22) w := by kernel_rfl
theorem Tryz.kindT (w : World) : ((ReflectliteType.abiMethod fun t => (fun a : Nat => Value.int IntKind.u8 (a : Int)) <$> Rtype.kind t) #[.pointer (some ⟨4, 356, none⟩)]).run Tryz.prog w = .ok (.int .u8 25) w := by kernel_rfl
theorem rlm (z : Sem Value) (f : TypeId → Addr → Nat → Nat → Sem Value) (v : Value) :
    ReflectliteValue.method z f #[v] = (do match ← ReflectliteValue.parts v with | none => z | some (t, a, fl) => f t a fl (fl % 32)) := rfl
theorem Tryz.partsP (a : Addr) (w : World) : (ReflectliteValue.parts (.agg #[.pointer (some ⟨4, 358, none⟩), .pointer (some a), .int .u64 150])).run Tryz.prog w = .ok (some (358, a, 150)) w := by kernel_rfl
theorem Tryz.isNilP (a p : Addr) (W : World) (ha : W.cell? a = some (.pointer (some p))) :
    (ReflectliteValue.method (ReflectliteValue.valueError "reflectlite.Value.IsNil" 0) ReflectliteValue.isNil #[.agg #[.pointer (some ⟨4, 358, none⟩), .pointer (some a), .int .u64 150]]).run Tryz.prog W = .ok (.bool false) W := by
  rw [rlm]
  simp only [Sem.run_bind, Tryz.partsP, Result.andThen]
  simp [ReflectliteValue.isNil, loadVar, isAgg, underlying, Tryz.underlying358, ha, Result.andThen]
theorem Tryz.methodElem (h : Value) (w : World) : (Go.method 561 394 (.agg #[h]) "Elem").run Tryz.prog w = .ok (345, .agg #[h]) w := by kernel_rfl
theorem Tryz.methodImplements (h : Value) (w : World) : (Go.method 561 394 (.agg #[h]) "Implements").run Tryz.prog w = .ok (346, .agg #[h]) w := by kernel_rfl
theorem Tryz.methodAssignableTo (h : Value) (w : World) : (Go.method 561 394 (.agg #[h]) "AssignableTo").run Tryz.prog w = .ok (343, .agg #[h]) w := by kernel_rfl
theorem Tryz.elemP (w : World) : (ReflectliteType.method ReflectliteType.elem #[.agg #[.pointer (some ⟨4, 358, none⟩)]]).run Tryz.prog w = .ok (.iface 394 (.agg #[.pointer (some ⟨4, 356, none⟩)])) w := by kernel_rfl
theorem Tryz.implementsT (w : World) : (ReflectliteType.relation "Implements" ReflectliteType.implements_ #[.agg #[.pointer (some ⟨4, 356, none⟩)], .iface 394 (.agg #[.pointer (some ⟨4, 319, none⟩)])]).run Tryz.prog w = .ok (.bool true) w := by kernel_rfl
theorem Tryz.typeOfT (v : Value) (w : World) : (ReflectliteType.typeOf #[.iface 356 v]).run Tryz.prog w = .ok (.iface 394 (.agg #[.pointer (some ⟨4, 356, none⟩)])) w := by kernel_rfl
theorem Tryz.assignableT (w : World) : (ReflectliteType.relation "AssignableTo" ReflectliteType.assignableTo #[.agg #[.pointer (some ⟨4, 356, none⟩)], .iface 394 (.agg #[.pointer (some ⟨4, 356, none⟩)])]).run Tryz.prog w = .ok (.bool true) w := by kernel_rfl
theorem Tryz.valueOfT (n : Int) (w : World) : (ReflectliteValue.unpack (.iface 356 (.agg #[.int .i64 n]))).run Tryz.prog w
    = .ok (.agg #[.pointer (some ⟨4, 356, none⟩), .pointer (some ⟨w.heap.size, 0, none⟩), .int .u64 153]) (w.alloc (.cells #[.int .i64 n] 356)) := by kernel_rfl
theorem Tryz.elemOfP (w : World) : (Rtype.elem? 358).run Tryz.prog w = .ok (some 356) w := by kernel_rfl
theorem Tryz.mkT (p : Addr) (w : World) : (ReflectliteValue.mk 356 p ReflectliteValue.flagAddr).run Tryz.prog w = .ok (.agg #[.pointer (some ⟨4, 356, none⟩), .pointer (some p), .int .u64 409]) w := by kernel_rfl
theorem Tryz.elemVP (a p : Addr) (W : World) (ha : W.cell? a = some (.pointer (some p))) :
    (ReflectliteValue.method (ReflectliteValue.valueError "reflectlite.Value.Elem" 0) ReflectliteValue.elem #[.agg #[.pointer (some ⟨4, 358, none⟩), .pointer (some a), .int .u64 150]]).run Tryz.prog W
      = .ok (.agg #[.pointer (some ⟨4, 356, none⟩), .pointer (some p), .int .u64 409]) W := by
  rw [rlm]
  simp only [Sem.run_bind, Tryz.partsP, Result.andThen]
  simp [ReflectliteValue.elem, loadVar, isAgg, underlying, Tryz.underlying358, ha, Result.andThen, Tryz.elemOfP, Tryz.mkT]

theorem Tryz.partsTa (a : Addr) (w : World) : (ReflectliteValue.parts (.agg #[.pointer (some ⟨4, 356, none⟩), .pointer (some a), .int .u64 409])).run Tryz.prog w = .ok (some (356, a, 409)) w := by kernel_rfl
theorem Tryz.partsT (a : Addr) (w : World) : (ReflectliteValue.parts (.agg #[.pointer (some ⟨4, 356, none⟩), .pointer (some a), .int .u64 153])).run Tryz.prog w = .ok (some (356, a, 153)) w := by kernel_rfl
theorem Tryz.directT (w : World) : (Rtype.directlyAssignable 356 356).run Tryz.prog w = .ok true w := by kernel_rfl
theorem Tryz.sizeT (w : World) : (sizeOf 356).run Tryz.prog w = .ok 1 w := by kernel_rfl
theorem Tryz.aggT (w : World) : (isAgg 356).run Tryz.prog w = .ok true w := by kernel_rfl
theorem Tryz.setT (ta : Addr) (bb : Nat) (n : Int) (old : Value) (W : World) (hb : W.cell? ⟨bb, 0, none⟩ = some (.int .i64 n)) (ht : W.cell? ta = some old) (hf : W.frozen? ta = false) :
    (ReflectliteValue.set #[.agg #[.pointer (some ⟨4, 356, none⟩), .pointer (some ta), .int .u64 409], .agg #[.pointer (some ⟨4, 356, none⟩), .pointer (some ⟨bb, 0, none⟩), .int .u64 153]]).run Tryz.prog W
      = .ok (.tuple #[]) (W.setCell ta (.int .i64 n)) := by
  have hl : (loadCells ⟨bb, 0, none⟩ 1).run Tryz.prog W = .ok #[.int .i64 n] W := by
    have := run_loadCells_list (P := Tryz.prog) (w := W) ⟨bb, 0, none⟩ [.int .i64 n] (fun j v hj => by
      match j, hj with
      | 0, hj => simp at hj; subst hj; simpa [Addr.add] using hb)
    simpa using this
  show (ReflectliteValue.parts (.agg #[.pointer (some ⟨4, 356, none⟩), .pointer (some ta), .int .u64 409]) >>= fun _ => (ReflectliteValue.parts (.agg #[.pointer (some ⟨4, 356, none⟩), .pointer (some ⟨bb, 0, none⟩), .int .u64 153]) >>= _)).run Tryz.prog W = _
  simp only [Sem.run_bind, Tryz.partsTa, Tryz.partsT, Result.andThen]
  simp [ReflectliteValue.flagAddr, loadVar, hl, Result.andThen, Tryz.directT, storeVar, Value.cells, storeCells, Addr.add]
  rw [run_store Tryz.prog W ta _ _ (by rfl)]
  simp [ht, hf]

set_option maxHeartbeats 4000000 in
/-- errors.As where the error is of the target's own type. -/
theorem as_hit (n old : Int) (t : Nat) (w : World) (hg : w.cell? ⟨0, 0, none⟩ = some (.iface 394 (.agg #[.pointer (some ⟨4, 319, none⟩)]))) (ht0 : w.heap[t]? = some (.cells #[.int .i64 old] 356 (0, 0))) :
    Calls Tryz.prog 249 #[.iface 356 (.agg #[.int .i64 n]), .iface 358 (.pointer (some ⟨t, 0, none⟩))] w fun ev w' => ev = .returned (.bool true) ∧ Fr (fun k => k = t) w w' ∧ w'.heap[t]? = some (.cells #[.int .i64 n] 356 (0, 0)) := by
  have h6 := @run_callFunc_extern Tryz.prog 269 _ (fun args => ReflectliteValue.unpack (args.getD 0 (.tuple #[]))) Tryz.func269 (by kernel_rfl) (by kernel_rfl) (by kernel_rfl) (by kernel_rfl)
  have h7 := @run_callFunc_extern Tryz.prog 270 _ (ReflectliteValue.methodAny (ReflectliteValue.valueError "reflectlite.Value.Type" 0) (fun t _ _ _ => ReflectliteType.toType t)) Tryz.func270 (by kernel_rfl) (by kernel_rfl) (by kernel_rfl) (by kernel_rfl)
  have h8 := @run_callFunc_extern Tryz.prog 271 _ (ReflectliteValue.method (ReflectliteValue.valueError "reflectlite.Value.IsNil" 0) ReflectliteValue.isNil) Tryz.func271 (by kernel_rfl) (by kernel_rfl) (by kernel_rfl) (by kernel_rfl)
  have h27 := @run_callFunc_extern Tryz.prog 330 _ (ReflectliteType.abiMethod fun t => do pure (.int .u8 (← Rtype.kind t))) Tryz.func330 (by kernel_rfl) (by kernel_rfl) (by kernel_rfl) (by kernel_rfl)
  have h37 := @run_callFunc_extern Tryz.prog 345 _ (ReflectliteType.method ReflectliteType.elem) Tryz.func345 (by kernel_rfl) (by kernel_rfl) (by kernel_rfl) (by kernel_rfl)
  have h38 := @run_callFunc_extern Tryz.prog 346 _ (ReflectliteType.relation "Implements" ReflectliteType.implements_) Tryz.func346 (by kernel_rfl) (by kernel_rfl) (by kernel_rfl) (by kernel_rfl)
  have h10 := @run_callFunc_extern Tryz.prog 285 _ ReflectliteType.typeOf Tryz.func285 (by kernel_rfl) (by kernel_rfl) (by kernel_rfl) (by kernel_rfl)
  have h35 := @run_callFunc_extern Tryz.prog 343 _ (ReflectliteType.relation "AssignableTo" ReflectliteType.assignableTo) Tryz.func343 (by kernel_rfl) (by kernel_rfl) (by kernel_rfl) (by kernel_rfl)
  have h11 := @run_callFunc_extern Tryz.prog 286 _ (ReflectliteValue.method (ReflectliteValue.valueError "reflectlite.Value.Elem" 0) ReflectliteValue.elem) Tryz.func286 (by kernel_rfl) (by kernel_rfl) (by kernel_rfl) (by kernel_rfl)
  have h12 := @run_callFunc_extern Tryz.prog 287 _ ReflectliteValue.set Tryz.func287 (by kernel_rfl) (by kernel_rfl) (by kernel_rfl) (by kernel_rfl)
  have tO := Tryz.typeOfT
  have mA := Tryz.methodAssignableTo
  have a25 := Tryz.assignableT
  have v25 := Tryz.valueOfT
  have f6 := Tryz.valueOfP
  have f7 := Tryz.typeP
  have mK := Tryz.methodKind
  have mE := Tryz.methodElem
  have mI := Tryz.methodImplements
  have k27 := Tryz.kindP
  have k25 := Tryz.kindT
  have e27 := Tryz.elemP
  have i25 := Tryz.implementsT
  have n8 := Tryz.isNilP ⟨w.heap.size, 0, none⟩ ⟨t, 0, none⟩ ((w.alloc (.cells #[.pointer (some ⟨t, 0, none⟩)] 358)).alloc (.cells #[.pointer (some ⟨4, 358, none⟩), .pointer (some ⟨w.heap.size, 0, none⟩), .int .u64 150] 372)) (by simp)
  have hlt : 0 < w.heap.size := by
    rcases Nat.lt_or_ge 0 w.heap.size with h | h
    · exact h
    · simp [World.cell?, Array.getElem?_eq_none h] at hg
  have hg2 : ((w.alloc (.cells #[.pointer (some ⟨t, 0, none⟩)] 358)).alloc (.cells #[.pointer (some ⟨4, 358, none⟩), .pointer (some ⟨w.heap.size, 0, none⟩), .int .u64 150] 372)).cell? ⟨0, 0, none⟩ = some (.iface 394 (.agg #[.pointer (some ⟨4, 319, none⟩)])) := by
    rw [World.cell?_alloc_lt _ _ ⟨0, 0, none⟩ (by simp <;> omega), World.cell?_alloc_lt _ _ ⟨0, 0, none⟩ hlt]; exact hg
  have htl : t < w.heap.size := lt_of_block ht0
  have hT := Lib.hid ht0
  have ht1 := cellOf ht0 0
  have hf0 := freeOf ht0 0
  simp at ht1
  clear ht0
  have el := Tryz.elemVP ⟨w.heap.size, 0, none⟩ ⟨t, 0, none⟩ (((w.alloc (.cells #[.pointer (some ⟨t, 0, none⟩)] 358)).alloc (.cells #[.pointer (some ⟨4, 358, none⟩), .pointer (some ⟨w.heap.size, 0, none⟩), .int .u64 150] 372)).alloc (.cells #[.pointer (some ⟨4, 358, none⟩), .pointer (some ⟨w.heap.size, 0, none⟩), .int .u64 150] 372)) (by rw [World.cell?_alloc_lt _ _ ⟨w.heap.size, 0, none⟩ (by simp <;> omega), World.cell?_alloc_lt _ _ ⟨w.heap.size, 0, none⟩ (by simp)]; simp)
  have st := Tryz.setT ⟨t, 0, none⟩ (w.heap.size + 1 + 1 + 1) n (.int .i64 old) ((((w.alloc (.cells #[.pointer (some ⟨t, 0, none⟩)] 358)).alloc (.cells #[.pointer (some ⟨4, 358, none⟩), .pointer (some ⟨w.heap.size, 0, none⟩), .int .u64 150] 372)).alloc (.cells #[.pointer (some ⟨4, 358, none⟩), .pointer (some ⟨w.heap.size, 0, none⟩), .int .u64 150] 372)).alloc (.cells #[.int .i64 n] 356))
    (by rw [World.cell?_alloc_at _ _ _ _ (by simp)]; rfl)
    (by rw [World.cell?_alloc_lt _ _ ⟨t, 0, none⟩ (by simp <;> omega), World.cell?_alloc_lt _ _ ⟨t, 0, none⟩ (by simp <;> omega), World.cell?_alloc_lt _ _ ⟨t, 0, none⟩ (by simp <;> omega), World.cell?_alloc_lt _ _ ⟨t, 0, none⟩ htl]; exact ht1)
    (by rw [World.frozen?_alloc_old _ _ ⟨t, 0, none⟩ (by simp <;> omega), World.frozen?_alloc_old _ _ ⟨t, 0, none⟩ (by simp <;> omega), World.frozen?_alloc_old _ _ ⟨t, 0, none⟩ (by simp <;> omega), World.frozen?_alloc_old _ _ ⟨t, 0, none⟩ (Nat.ne_of_lt htl)]; exact hf0)
  go_enter Tryz.func249, Tryz.ntmps249
  go_wp2
  refine wp_loop_rounds 1 ?_
  rw [rounds_succ]
  go_wp2
  go_ret
  refine ⟨rfl, Fr.setCell (S := fun k => k = t) (p := ⟨t, 0, none⟩) (((((Fr.refl _ _).alloc _).alloc _).alloc _).alloc _) (.inl rfl) _, ?_⟩
  refine (setOf' (c := #[.int .i64 old]) ?_ 0 _).trans rfl
  rw [Below.heap_alloc _ _ _ (by simp <;> omega), Below.heap_alloc _ _ _ (by simp <;> omega), Below.heap_alloc _ _ _ (by simp <;> omega), Below.heap_alloc _ _ _ htl]
  exact hT.out

end Go.Proofs.YtbegjpmifcnieaaGreatDoor

/- The Writer of package xdr: a number's low bytes, the highest first. -/
namespace Go.Proofs.YtbegjpmifcnieaaGreatDoor
open Go.RowKit
set_option linter.unusedVariables false
set_option linter.unusedSimpArgs false

/-- the byte of a number that stands so many bits up. -/
def byteUp (n : Int) (sh : Nat) : Int := n / 2 ^ sh % 256
/-- the first k of B bytes of a number. -/
def numInts (n : Int) (B k : Nat) : List Int := (List.range k).map fun i : Nat => byteUp n (8 * (B - 1 - i))
def numStr (n : Int) (B : Nat) : ByteArray := (numInts n B B).foldl (fun r n => r.push (UInt8.ofNat n.toNat)) ByteArray.empty

theorem numInts_succ (n : Int) (B k : Nat) : numInts n B (k + 1) = numInts n B k ++ [byteUp n (8 * (B - 1 - k))] := by
  simp [numInts, List.range_succ]
theorem numInts_length (n : Int) (B k : Nat) : (numInts n B k).length = k := by simp [numInts]
theorem push_size (l : List Int) : ∀ r : ByteArray, (l.foldl (fun r n => r.push (UInt8.ofNat n.toNat)) r).size = r.size + l.length := by
  induction l with
  | nil => simp
  | cons a l ih => intro r; simp [ih, ByteArray.size_push]; omega
theorem numStr_size (n : Int) (B : Nat) : (numStr n B).size = B := by unfold numStr; rw [push_size, numInts_length]; simp

/-- a slice of bytes that is owned, as a string. -/
theorem run_ownBytes {P : Program} {w : World} {base e : Nat} {v : Value} {ns : List Int} (src dst : TypeId) (hs : P.underlying src = some (.slice e)) (he : P.underlying e = some (.int .u8)) (hd : P.underlying dst = some .string)
    (h : w.ownsRow base e 1 v ns.length (ns.map (Value.int .u8))) :
    (convert src dst v).run P w = .ok (.string (ns.foldl (fun r n => r.push (UInt8.ofNat n.toNat)) ByteArray.empty)) w := by
  rcases h.2 with ⟨rfl, h0⟩ | ⟨g, cap, cur, rfl, _⟩
  · have : ns = [] := List.eq_nil_of_length_eq_zero h0
    subst this
    rw [run_convert_bytes_string w src dst e none 0 0 hs he hd]
    simp [Conv.bytesToString]
  · rw [run_convert_bytes_string w src dst e _ _ _ hs he hd]
    refine run_bytesToString w _ _ _ ns ?_
    have := run_loadCells_list (P := P) (w := w) ⟨g, 0, none⟩ (ns.map (Value.int .u8)) (h.cells (g := g) rfl)
    rwa [List.length_map] at this

theorem foldl_bytes (l : List UInt8) : ∀ r : ByteArray, (l.map fun b => ((b.toNat : Nat) : Int)).foldl (fun r n => r.push (UInt8.ofNat n.toNat)) r = r ++ ⟨l.toArray⟩ := by
  induction l with
  | nil => intro r; apply ByteArray.ext; simp
  | cons a l ih =>
    intro r
    rw [List.map_cons, List.foldl_cons, ih]
    apply ByteArray.ext
    apply Array.ext'
    simp
theorem run_ownStr {P : Program} {w : World} {base e : Nat} {v : Value} {s : ByteArray} (src dst : TypeId) (hs : P.underlying src = some (.slice e)) (he : P.underlying e = some (.int .u8)) (hd : P.underlying dst = some .string)
    (h : w.ownsRow base e 1 v s.size (Lib.strCells s)) : (convert src dst v).run P w = .ok (.string s) w := by
  have h1 := run_ownBytes (P := P) (ns := s.data.toList.map fun b => ((b.toNat : Nat) : Int)) src dst hs he hd (by
    have e1 : (s.data.toList.map fun b => ((b.toNat : Nat) : Int)).length = s.size := by simp
    rw [e1, List.map_map]; exact h)
  rw [h1, foldl_bytes]
  simp

set_option maxRecDepth 100000 in
set_option maxHeartbeats 1000000 in
/-- (*Writer).number -/
theorem Wnumber_any {F : Nat → Prop} {b : Nat} {st : WSt} (n : Int) (B : Nat) (w : World) (h : Wr w F b st) (hs : st.out.size + B ≤ 140737488355328) (hB : 1 ≤ B ∧ B ≤ 8) (hn : 0 ≤ n) :
    Calls Tryz.prog 246 #[.pointer (some ⟨b, 0, none⟩), .int .u64 n, .int .i64 B] w fun r w' => r = .returned (.tuple #[]) ∧ Fr F w w' ∧ Wr w' (Gw F w w') b (st.lays (numStr n B)) := by
  obtain ⟨i0, hi, hz0, hz1, hz2⟩ := info_parts Tryz.infoU8
  obtain ⟨hB1, hB8⟩ := hB
  have Hs := Lib.hid hs
  clear hs
  go_enter Tryz.func246, Tryz.ntmps246
  go_wp2
  go_loopw [6, 7] (fun v i wr => ∃ k : Nat, k ≤ B ∧ i = .int .i64 (8 * ((B : Int) - 1 - k)) ∧ wr.ownsRow w.heap.size 5 1 v k ((numInts n B k).map (Value.int .u8)) ∧ Below w.heap.size w wr) (fun _ i _ => (intOf i + 8).toNat)
  case atStart => exact ⟨0, Nat.zero_le _, by simp, World.ownsRow_nil _ _ _ _, Below.refl _ _⟩
  case round =>
    obtain ⟨k, hk, rfl, hown, hbel⟩ := hrel
    by_cases hlt : k < B
    · have hge : (0 : Int) ≤ 8 * ((B : Int) - 1 - k) := by omega
      have Ho := Lib.hid hown
      have Hb := Lib.hid hbel
      clear hown hbel
      go_wp2_with (at_builtin; refine wpList_append_own_at _ rfl _ _ 284 rfl w.heap.size 5 i0 (.int .u8 0) 1 1 Tryz.underlying284 hi hz0 hz1 hz2 rfl (by decide) _ _ _ rfl (Ho.out.alloc _) ⟨wr.heap.size, 0, none⟩ 1 1 [.int .u8 (byteUp n (8 * (B - 1 - k)))] rfl rfl ?c1 ?c2 ?c3 ?c4 ?c5 ?_)
      case c1 => intro j u hj; match j, hj with | 0, hj => simp at hj; subst hj; simp [Addr.add, byteUp]
      case c2 => intro u hu; simp at hu; subst hu; rfl
      case c3 => unfold maxLen; omega
      case c4 => omega
      case c5 => have := Hb.out.size; simp; omega
      intro v' w' hown' hgrow _ _
      have hbel' : Below w.heap.size w w' := (Hb.out.alloc (by have := Hb.out.size; omega) _).grown hgrow (by have := Hb.out.size; simp; omega) (fun k e => (Ho.out.lt k e).1)
      have Ho' := Lib.hid hown'
      have Hb' := Lib.hid hbel'
      clear hown' hgrow hbel'
      go_wp2
      go_roundw
      case rel => exact ⟨k + 1, by omega, by go_num, by rw [numInts_succ, List.map_append]; exact Ho'.out, Hb'.out⟩
      case measure => simp [intOf]; omega
    · obtain rfl : B = k := by omega
      have hlt2 : ¬ ((0 : Int) ≤ 8 * ((B : Int) - 1 - B)) := by omega
      have hcv := run_ownBytes (P := Tryz.prog) (w := wr) (v := u6) (ns := numInts n B B) 284 9 Tryz.underlying284 Tryz.underlying5 Tryz.underlying9 (by rw [numInts_length]; exact hown)
      have Ho := Lib.hid hown
      have Hb := Lib.hid hbel
      clear hown hbel hlt
      have hw : Wr wr F b st := h.below Hb.out
      have hsz : st.out.size + (numStr n B).size ≤ 140737488355328 := by rw [numStr_size]; exact Hs.out
      have HS := Lib.hid hsz
      clear hsz
      go_wp2_with (go_at_call 219; refine (Wlays_any _ _ hw (.inl HS.out)).mono ?_; rintro e w' ⟨rfl, hfr, hw'⟩)
      go_end0
      exact ⟨rfl, (Fr.ofBelow Hb.out).trans hfr, hw'.late Hb.out.size h.low hfr.size⟩

end Go.Proofs.YtbegjpmifcnieaaGreatDoor

/- The Writer of package xdr: its making, and its methods for numbers, counts and raw bytes. -/
namespace Go.Proofs.YtbegjpmifcnieaaGreatDoor
open Go.RowKit
set_option linter.unusedVariables false
set_option linter.unusedSimpArgs false

def isWordB (n : Int) : Bool := decide (0 ≤ n) && decide (n ≤ 4294967295)
theorem isWordB_of {n : Int} (h : 0 ≤ n ∧ n ≤ 4294967295) : isWordB n = true := by simp [isWordB, h.1, h.2]
theorem isWordB_no {n : Int} (h : ¬ (0 ≤ n ∧ n ≤ 4294967295)) : isWordB n = false := by
  rw [← Bool.not_eq_true]; intro h2; simp [isWordB] at h2; exact h h2

theorem isWord_any (n : Int) (w : World) : Calls Tryz.prog 247 #[.int .i64 n] w fun r w' => r = .returned (.bool (isWordB n)) ∧ w = w' := by
  by_cases h : 0 ≤ n
  · by_cases h2 : n ≤ 4294967295
    · rw [isWordB_of ⟨h, h2⟩]
      go_enter Tryz.func247, Tryz.ntmps247
      go_wp2
      go_ret
      exact ⟨rfl, rfl⟩
    · rw [isWordB_no (fun h => h2 h.2)]
      go_enter Tryz.func247, Tryz.ntmps247
      go_wp2
      go_ret
      exact ⟨rfl, rfl⟩
  · rw [isWordB_no (fun h2 => h h2.1)]
    go_enter Tryz.func247, Tryz.ntmps247
    go_wp2
    go_ret
    exact ⟨rfl, rfl⟩

/-- a number's bits, as one without a sign. -/
def U64 (n : Int) : Int := IntKind.u64.wrap n
theorem U64_nonneg (n : Int) : 0 ≤ U64 n := wrap_u64_nonneg n

def WSt.uint (st : WSt) (n : Int) : WSt := (if isWordB n then st else st.fail 22).lays (numStr (U64 n) 4)
theorem fail_out (st : WSt) (e : Int) : (st.fail e).out = st.out := by unfold WSt.fail; split <;> rfl

theorem numStr_le (n : Int) (B : Nat) {st : WSt} {c : Nat} (h : st.out.size + B ≤ c) : st.out.size + (numStr n B).size ≤ c := by rw [numStr_size]; exact h

set_option maxRecDepth 100000 in
theorem WUint_any {F : Nat → Prop} {b : Nat} {st : WSt} (n : Int) (w : World) (h : Wr w F b st) (hs : st.out.size + 4 ≤ 140737488355328) :
    Calls Tryz.prog 213 #[.pointer (some ⟨b, 0, none⟩), .int .i64 n] w fun r w' => r = .returned (.tuple #[]) ∧ Fr F w w' ∧ Wr w' (Gw F w w') b (st.uint n) := by
  have Hs := Lib.hid hs
  have hz := U64_nonneg n
  unfold WSt.uint
  clear hs
  by_cases hi : isWordB n = true
  · simp only [hi, if_true]
    go_enter Tryz.func213, Tryz.ntmps213
    go_wp2_with (first | (go_at_call 247; refine (isWord_any _ _).mono ?_; rintro e w' ⟨rfl, rfl⟩) | (go_at_call 246; refine (Wnumber_any (U64 n) 4 _ h Hs.out (by decide) hz).mono ?_; rintro e w' ⟨rfl, hfr, hw'⟩))
    go_end0
    exact ⟨rfl, hfr, hw'⟩
  · rw [Bool.not_eq_true] at hi
    simp only [hi, if_false, Bool.false_eq_true]
    go_enter Tryz.func213, Tryz.ntmps213
    go_wp2_with (first | (go_at_call 247; refine (isWord_any _ _).mono ?_; rintro e w' ⟨rfl, rfl⟩) | (go_at_call 218; refine (Wfail_any _ _ h).mono ?_; rintro e w1 ⟨rfl, hfr1, hs1, hw1⟩) | (go_at_call 246; refine (Wnumber_any (U64 n) 4 _ hw1 (by rw [fail_out]; exact Hs.out) (by decide) hz).mono ?_; rintro e w' ⟨rfl, hfr, hw'⟩))
    go_end0
    exact ⟨rfl, hfr1.trans hfr, hw'.late hfr1.size h.low hfr.size⟩


/-- a new Writer. -/
theorem WNew_any (m : Int) (w : World) (hm : m ≤ 9223372036854775807) :
    Calls Tryz.prog 144 #[.int .i64 m] w fun r w' => r = .returned (.pointer (some ⟨w.heap.size, 0, none⟩)) ∧ Fr (fun _ => False) w w' ∧ Wr w' (fun k => k = w.heap.size) w.heap.size ⟨ByteArray.empty, max m 0, 0⟩ := by
  have hmx : (0 : Int) ≤ max m 0 ∧ max m 0 ≤ 9223372036854775807 := by omega
  have HM := Lib.hid hmx
  clear hmx
  have fin : Wr (w.alloc (.cells #[.slice none 0 0, .int .i64 (max m 0), .nilIface] 321)) (fun k => k = w.heap.size) w.heap.size ⟨ByteArray.empty, max m 0, 0⟩ := by
    refine ⟨rfl, fun k hk => by rw [hk]; simp, HM.out, .slice none 0 0, ?_, World.ownsRow_nil _ _ _ _, fun g e => by cases e⟩
    exact heap_alloc_new w _
  by_cases h : m < 0
  · have e : max m 0 = 0 := by omega
    rw [e] at fin ⊢
    go_enter Tryz.func144, Tryz.ntmps144
    go_wp2
    go_ret
    exact ⟨rfl, (Fr.refl _ _).alloc _, fin⟩
  · have e : max m 0 = m := by omega
    rw [e] at fin ⊢
    go_enter Tryz.func144, Tryz.ntmps144
    go_wp2
    go_ret
    exact ⟨rfl, (Fr.refl _ _).alloc _, fin⟩

def WSt.hyper (st : WSt) (n : Int) : WSt := st.lays (numStr (U64 n) 8)

set_option maxRecDepth 100000 in
theorem WHyper_any {F : Nat → Prop} {b : Nat} {st : WSt} (n : Int) (w : World) (h : Wr w F b st) (hs : st.out.size + 8 ≤ 140737488355328) :
    Calls Tryz.prog 203 #[.pointer (some ⟨b, 0, none⟩), .int .i64 n] w fun r w' => r = .returned (.tuple #[]) ∧ Fr F w w' ∧ Wr w' (Gw F w w') b (st.hyper n) := by
  have Hs := Lib.hid hs
  have hz := U64_nonneg n
  clear hs
  go_enter Tryz.func203, Tryz.ntmps203
  go_wp2_with (go_at_call 246; refine (Wnumber_any (U64 n) 8 _ h Hs.out (by decide) hz).mono ?_; rintro e w' ⟨rfl, hfr, hw'⟩)
  go_end0
  exact ⟨rfl, hfr, hw'⟩

def WSt.raw (st : WSt) (s : ByteArray) : WSt := (if s.size % 4 = 0 then st else st.fail 1).lays s

set_option maxRecDepth 100000 in
theorem fail_most {st : WSt} {e : Int} : (st.fail e).most = st.most := by unfold WSt.fail; split <;> rfl
theorem WRaw_any {F : Nat → Prop} {b : Nat} {st : WSt} (s : ByteArray) (w : World) (h : Wr w F b st) (hs : st.out.size + s.size ≤ 140737488355328 ∨ (st.out.size ≤ 1099511627776 ∧ st.most ≤ 1099511627776 ∧ s.size ≤ 140737488355328)) :
    Calls Tryz.prog 151 #[.pointer (some ⟨b, 0, none⟩), .string s] w fun r w' => r = .returned (.tuple #[]) ∧ Fr F w w' ∧ Wr w' (Gw F w w') b (st.raw s) := by
  have Hs := Lib.hid hs
  unfold WSt.raw
  have hsz : s.size ≤ 140737488355328 := by omega
  clear hs
  by_cases hi : s.size % 4 = 0
  · rw [if_pos hi]
    have hb : (((s.size : Int) % 4) != 0) = false := by rw [bne_eq_false_iff_eq]; omega
    clear hi
    go_enter Tryz.func151, Tryz.ntmps151
    go_wp2_with (go_at_call 219; refine (Wlays_any _ _ h Hs.out).mono ?_; rintro e w' ⟨rfl, hfr, hw'⟩)
    go_end0
    exact ⟨rfl, hfr, hw'⟩
  · rw [if_neg hi]
    have hb : (((s.size : Int) % 4) != 0) = true := by rw [bne_iff_ne]; omega
    clear hi
    go_enter Tryz.func151, Tryz.ntmps151
    go_wp2_with (first | (go_at_call 218; refine (Wfail_any _ _ h).mono ?_; rintro e w1 ⟨rfl, hfr1, hs1, hw1⟩) | (go_at_call 219; refine (Wlays_any _ _ hw1 (by rw [fail_out, fail_most]; exact Hs.out)).mono ?_; rintro e w' ⟨rfl, hfr, hw'⟩))
    go_end0
    exact ⟨rfl, hfr1.trans hfr, hw'.late hfr1.size h.low hfr.size⟩

def WSt.count (st : WSt) (most n : Int) : WSt :=
  if isWordB most = true ∧ 0 ≤ n then (if most < n then st.fail 23 else st.uint n) else st.fail 22

set_option maxRecDepth 100000 in
theorem WCount_any {F : Nat → Prop} {b : Nat} {st : WSt} (most n : Int) (w : World) (h : Wr w F b st) (hs : st.out.size + 4 ≤ 140737488355328) :
    Calls Tryz.prog 215 #[.pointer (some ⟨b, 0, none⟩), .int .i64 most, .int .i64 n] w fun r w' => r = .returned (.tuple #[]) ∧ Fr F w w' ∧ Wr w' (Gw F w w') b (st.count most n) := by
  have Hs := Lib.hid hs
  clear hs
  by_cases hi : isWordB most = true
  · by_cases hn : 0 ≤ n
    · by_cases hm : most < n
      · have e : st.count most n = st.fail 23 := by simp [WSt.count, hi, hn, hm]
        rw [e]
        clear e
        go_enter Tryz.func215, Tryz.ntmps215
        go_wp2_with (first | (go_at_call 247; refine (isWord_any _ _).mono ?_; rintro e w' ⟨rfl, rfl⟩) | (go_at_call 218; refine (Wfail_any _ _ h).mono ?_; rintro e w1 ⟨rfl, hfr1, hs1, hw1⟩))
        go_end0
        exact ⟨rfl, hfr1, hw1.gw⟩
      · have e : st.count most n = st.uint n := by simp [WSt.count, hi, hn, hm]
        rw [e]
        clear e
        go_enter Tryz.func215, Tryz.ntmps215
        go_wp2_with (first | (go_at_call 247; refine (isWord_any _ _).mono ?_; rintro e w' ⟨rfl, rfl⟩) | (go_at_call 213; refine (WUint_any _ _ h Hs.out).mono ?_; rintro e w1 ⟨rfl, hfr1, hw1⟩))
        go_end0
        exact ⟨rfl, hfr1, hw1⟩
    · have e : st.count most n = st.fail 22 := by simp [WSt.count, hn]
      rw [e]
      clear e
      go_enter Tryz.func215, Tryz.ntmps215
      go_wp2_with (first | (go_at_call 247; refine (isWord_any _ _).mono ?_; rintro e w' ⟨rfl, rfl⟩) | (go_at_call 218; refine (Wfail_any _ _ h).mono ?_; rintro e w1 ⟨rfl, hfr1, hs1, hw1⟩))
      go_end0
      exact ⟨rfl, hfr1, hw1.gw⟩
  · have e : st.count most n = st.fail 22 := by simp [WSt.count, hi]
    rw [e]
    clear e
    rw [Bool.not_eq_true] at hi
    go_enter Tryz.func215, Tryz.ntmps215
    go_wp2_with (first | (go_at_call 247; refine (isWord_any _ _).mono ?_; rintro e w' ⟨rfl, rfl⟩) | (go_at_call 218; refine (Wfail_any _ _ h).mono ?_; rintro e w1 ⟨rfl, hfr1, hs1, hw1⟩))
    go_end0
    exact ⟨rfl, hfr1, hw1.gw⟩

/-- how many noughts stand behind so many bytes. -/
def padN (n : Nat) : Nat := (4 - n % 4) % 4
theorem padding_any (n : Nat) (w : World) (hn : n ≤ 140737488355328) : Calls Tryz.prog 268 #[.int .i64 n] w fun r w' => r = .returned (.int .i64 (padN n)) ∧ w = w' := by
  have e : ((padN n : Nat) : Int) = (4 - (n : Int) % 4) % 4 := by unfold padN; omega
  rw [e]
  clear e
  go_enter Tryz.func268, Tryz.ntmps268
  go_wp2
  go_ret
  exact ⟨rfl, rfl⟩

end Go.Proofs.YtbegjpmifcnieaaGreatDoor

/- Package xdr: the number of an error, and what a Writer holds at its end. -/
namespace Go.Proofs.YtbegjpmifcnieaaGreatDoor
open Go.RowKit
set_option linter.unusedVariables false
set_option linter.unusedSimpArgs false

/-- the variable of package errors that names the type error. -/
def ErrT (w : World) : Prop := w.cell? ⟨0, 0, none⟩ = some (.iface 394 (.agg #[.pointer (some ⟨4, 319, none⟩)]))
theorem ErrT.lt {w : World} (h : ErrT w) : 0 < w.heap.size := World.block_lt_of_cell? w ⟨0, 0, none⟩ h
theorem ErrT.keep {w w' : World} (h : ErrT w) (hk : w'.heap[0]? = w.heap[0]?) : ErrT w' := (World.cell?_of_block (w := w) (w' := w') (a := ⟨0, 0, none⟩) hk).trans h
theorem ErrT.fr {w w' : World} {S : Nat → Prop} (h : ErrT w) (hf : Fr S w w') (hs : ¬ S 0) : ErrT w' := h.keep (hf.block _ h.lt hs)
theorem ErrT.below {w w' : World} (h : ErrT w) (hf : Below w.heap.size w w') : ErrT w' := h.keep (hf.block _ h.lt)

theorem told_any (e : Int) (w : World) (hg : ErrT w) : Calls Tryz.prog 216 #[errV e] w fun r w' => r = .returned (.int .i64 e) ∧ Fr (fun _ => False) w w' := by
  rcases errV_form e with ⟨h0, hz⟩ | ⟨h0, hz⟩
  · subst h0
    rw [hz]
    go_enter Tryz.func216, Tryz.ntmps216
    go_wp2_with (go_at_call 249; refine (as_nil _ _).mono ?_; rintro e w' ⟨rfl, rfl⟩)
    go_ret
    exact ⟨rfl, (Fr.refl _ _).alloc _⟩
  · rw [hz]
    clear hz
    have h1 : ErrT (w.alloc (.cells #[.int .i64 0] 356)) := hg.below (by exact (Below.refl _ _).alloc (Nat.le_refl _) _)
    have Hg := Lib.hid h1
    clear hg h1
    go_enter Tryz.func216, Tryz.ntmps216
    go_wp2_with (go_at_call 249; refine (as_hit _ 0 _ _ Hg.out (heap_alloc_new w _)).mono ?_; rintro e w' ⟨rfl, hfr, hb⟩; have k0 := cellOf hb 0; simp at k0; have HB := Lib.hid hb; clear hb)
    go_ret
    exact ⟨rfl, ((Fr.refl _ _).alloc _).then hfr (fun i hi e => by omega)⟩

theorem told_w (e : Int) (w : World) (h0 : e ≠ 0) (hg : ErrT w) : Calls Tryz.prog 216 #[.iface 356 (.agg #[.int .i64 e])] w fun r w' => r = .returned (.int .i64 e) ∧ Fr (fun _ => False) w w' := by
  have h := told_any e w hg
  rwa [show errV e = .iface 356 (.agg #[.int .i64 e]) by simp [errV, h0]] at h

def WSt.body (st : WSt) : ByteArray := if st.e = 0 then st.out else ByteArray.empty

set_option maxRecDepth 100000 in
/-- (*Writer).Done -/
theorem WDone_any {F : Nat → Prop} {b : Nat} {st : WSt} (w : World) (h : Wr w F b st) (hg : ErrT w) :
    Calls Tryz.prog 146 #[.pointer (some ⟨b, 0, none⟩)] w fun r w' => r = .returned (.tuple #[.string st.body, .int .i64 st.e]) ∧ Fr (fun _ => False) w w' := by
  obtain ⟨v, hb, ho, hgv⟩ := h.row
  obtain ⟨A, c, rfl⟩ := owns_slice ho
  have c0 := cellOf hb 0
  have c2 := cellOf hb 2
  simp at c0 c2
  have cv := run_ownStr (P := Tryz.prog) (w := w) 284 9 Tryz.underlying284 Tryz.underlying5 Tryz.underlying9 ho
  clear hb ho hgv
  rcases errV_form st.e with ⟨h0, hz⟩ | ⟨h0, hz⟩
  · rw [show st.body = st.out from if_pos h0, h0]
    rw [hz] at c2
    clear h0 hz
    go_enter Tryz.func146, Tryz.ntmps146
    go_wp2
    go_ret2
    exact ⟨rfl, Fr.refl _ _⟩
  · rw [show st.body = ByteArray.empty from if_neg h0]
    rw [hz] at c2
    clear hz cv c0
    have Hg := Lib.hid hg
    have H0 := Lib.hid h0
    clear hg h0
    go_enter Tryz.func146, Tryz.ntmps146
    go_wp2_with (go_at_call 216; refine (told_w _ _ H0.out Hg.out).mono ?_; rintro e w' ⟨rfl, hfr⟩)
    go_ret2
    exact ⟨rfl, hfr⟩

end Go.Proofs.YtbegjpmifcnieaaGreatDoor
