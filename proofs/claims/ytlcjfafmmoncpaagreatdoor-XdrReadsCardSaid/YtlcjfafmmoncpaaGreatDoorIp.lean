/- A call of both Readers, the program's and the document's. -/
import Derived.Test.YtlcjfafmmoncpaaGreatDoorIm
namespace Go.Proofs.YtlcjfafmmoncpaaGreatDoor
open Go.RowKit
set_option linter.unusedVariables false
set_option linter.unusedSimpArgs false

def RSt.readsS (st : RSt) (o : OpM) : RSt :=
  if o.kind = 1 then st.uint
  else if o.kind = 2 then st.uint
  else if o.kind = 3 then st.hyper
  else if o.kind = 4 then st.boolS
  else if o.kind = 5 then st.floatS
  else if o.kind = 6 then st.doubleS
  else if o.kind = 7 then st.fixedS o.n
  else if o.kind = 8 then st.opaqueS o.n
  else if o.kind = 9 then st.countS o.n
  else if o.kind = 10 then st.restS
  else if o.kind = 11 then st.fail o.n
  else st
/-- both Readers beside each other, alike. -/
structure Ry (w : World) (b c : Nat) (st : RSt) : Prop where
  rd : Rd w b st
  rr : RRd w c st
  ne : b ≠ c
theorem Ry.fr {w w' : World} {S : Nat → Prop} {b c : Nat} {st : RSt} (h : Ry w b c st) (hf : Fr S w w') (hb : ¬ S b) (hc : ¬ S c) : Ry w' b c st :=
  ⟨h.rd.fr hf hb, h.rr.fr hf hc, h.ne⟩
theorem Ry.both {w W w1 w2 : World} {b c : Nat} {st st' : RSt} (h : Ry w b c st) (hA : Fr (fun _ => False) w W) (hf1 : Fr (fun k => k = b) W w1) (h1 : Rd w1 b st') (hf2 : Fr (fun k => k = c) w1 w2) (h2 : RRd w2 c st') :
    Fr (fun k => k = b ∨ k = c) w w2 ∧ Ry w2 b c st' :=
  ⟨((hA.mono (fun _ _ h => h.elim)).trans (hf1.mono (fun k _ h => .inl h))).trans (hf2.mono (fun k _ h => .inr h)), h1.fr hf2 h.ne, h2, h.ne⟩

set_option maxRecDepth 100000 in
set_option maxHeartbeats 2000000 in
theorem reads_1 {b c : Nat} {st : RSt} (n m : Int) (oth : Bool) (s : ByteArray) (x y : Nat) (w : World) (h : Ry w b c st) :
    Calls Tryz.prog 20 #[.pointer (some ⟨b, 0, none⟩), .pointer (some ⟨c, 0, none⟩), .agg (opCells ⟨1, n, m, oth, s, x, y⟩)] w fun r w' => r = .returned (.bool true) ∧ Fr (fun k => k = b ∨ k = c) w w' ∧ Ry w' b c (st.uint) := by
  have HY := Lib.hid h
  have HN := Lib.hid (show w.heap.size ≠ b ∧ w.heap.size ≠ c ∧ c ≠ b from ⟨fun e => by have := h.rd.lt; omega, fun e => by have := h.rr.lt; omega, h.ne.symm⟩)
  have H0 := Lib.hid (h.fr ((Fr.refl (fun _ => False) w).alloc (.cells #[.int .i64 1, .int .i64 n, .int .i64 m, .bool oth, .string s, .int .u32 x, .int .u64 y] 44)) id id)
  have HA := Lib.hid ((Fr.refl (fun _ => False) w).alloc (.cells #[.int .i64 1, .int .i64 n, .int .i64 m, .bool oth, .string s, .int .u32 x, .int .u64 y] 44))
  have HLT := Lib.hid (show w.heap.size < (w.alloc (.cells #[.int .i64 1, .int .i64 n, .int .i64 m, .bool oth, .string s, .int .u32 x, .int .u64 y] 44)).heap.size by simp)
  unfold opCells
  clear h
  go_enter Tryz.func20, Tryz.ntmps20
  go_wp2_with fail
  generalize w.alloc (.cells #[.int .i64 1, .int .i64 n, .int .i64 m, .bool oth, .string s, .int .u32 x, .int .u64 y] 44) = W at *
  refine (RInt_any W H0.out.rd).mono ?_
  rintro e w1 ⟨rfl, hf1, -, h1⟩
  have HC1 := Lib.hid (H0.out.rr.fr hf1 HN.out.2.2)
  go_wp2_with fail
  refine (yInt_any w1 HC1.out).mono ?_
  rintro e w2 ⟨rfl, hf2, h2⟩
  go_wp2_with fail
  go_ret
  exact ⟨rfl, HY.out.both HA.out hf1 h1 hf2 h2⟩

set_option maxRecDepth 100000 in
set_option maxHeartbeats 2000000 in
theorem reads_2 {b c : Nat} {st : RSt} (n m : Int) (oth : Bool) (s : ByteArray) (x y : Nat) (w : World) (h : Ry w b c st) :
    Calls Tryz.prog 20 #[.pointer (some ⟨b, 0, none⟩), .pointer (some ⟨c, 0, none⟩), .agg (opCells ⟨2, n, m, oth, s, x, y⟩)] w fun r w' => r = .returned (.bool true) ∧ Fr (fun k => k = b ∨ k = c) w w' ∧ Ry w' b c (st.uint) := by
  have HY := Lib.hid h
  have HN := Lib.hid (show w.heap.size ≠ b ∧ w.heap.size ≠ c ∧ c ≠ b from ⟨fun e => by have := h.rd.lt; omega, fun e => by have := h.rr.lt; omega, h.ne.symm⟩)
  have H0 := Lib.hid (h.fr ((Fr.refl (fun _ => False) w).alloc (.cells #[.int .i64 2, .int .i64 n, .int .i64 m, .bool oth, .string s, .int .u32 x, .int .u64 y] 44)) id id)
  have HA := Lib.hid ((Fr.refl (fun _ => False) w).alloc (.cells #[.int .i64 2, .int .i64 n, .int .i64 m, .bool oth, .string s, .int .u32 x, .int .u64 y] 44))
  have HLT := Lib.hid (show w.heap.size < (w.alloc (.cells #[.int .i64 2, .int .i64 n, .int .i64 m, .bool oth, .string s, .int .u32 x, .int .u64 y] 44)).heap.size by simp)
  unfold opCells
  clear h
  go_enter Tryz.func20, Tryz.ntmps20
  go_wp2_with fail
  generalize w.alloc (.cells #[.int .i64 2, .int .i64 n, .int .i64 m, .bool oth, .string s, .int .u32 x, .int .u64 y] 44) = W at *
  refine (RUint_any W H0.out.rd).mono ?_
  rintro e w1 ⟨rfl, hf1, -, h1⟩
  have HC1 := Lib.hid (H0.out.rr.fr hf1 HN.out.2.2)
  go_wp2_with fail
  refine (rRUint_any w1 HC1.out).mono ?_
  rintro e w2 ⟨rfl, hf2, h2⟩
  go_wp2_with fail
  go_ret
  exact ⟨rfl, HY.out.both HA.out hf1 h1 hf2 h2⟩

set_option maxRecDepth 100000 in
set_option maxHeartbeats 2000000 in
theorem reads_3 {b c : Nat} {st : RSt} (n m : Int) (oth : Bool) (s : ByteArray) (x y : Nat) (w : World) (h : Ry w b c st) :
    Calls Tryz.prog 20 #[.pointer (some ⟨b, 0, none⟩), .pointer (some ⟨c, 0, none⟩), .agg (opCells ⟨3, n, m, oth, s, x, y⟩)] w fun r w' => r = .returned (.bool true) ∧ Fr (fun k => k = b ∨ k = c) w w' ∧ Ry w' b c (st.hyper) := by
  have HY := Lib.hid h
  have HN := Lib.hid (show w.heap.size ≠ b ∧ w.heap.size ≠ c ∧ c ≠ b from ⟨fun e => by have := h.rd.lt; omega, fun e => by have := h.rr.lt; omega, h.ne.symm⟩)
  have H0 := Lib.hid (h.fr ((Fr.refl (fun _ => False) w).alloc (.cells #[.int .i64 3, .int .i64 n, .int .i64 m, .bool oth, .string s, .int .u32 x, .int .u64 y] 44)) id id)
  have HA := Lib.hid ((Fr.refl (fun _ => False) w).alloc (.cells #[.int .i64 3, .int .i64 n, .int .i64 m, .bool oth, .string s, .int .u32 x, .int .u64 y] 44))
  have HLT := Lib.hid (show w.heap.size < (w.alloc (.cells #[.int .i64 3, .int .i64 n, .int .i64 m, .bool oth, .string s, .int .u32 x, .int .u64 y] 44)).heap.size by simp)
  unfold opCells
  clear h
  go_enter Tryz.func20, Tryz.ntmps20
  go_wp2_with fail
  generalize w.alloc (.cells #[.int .i64 3, .int .i64 n, .int .i64 m, .bool oth, .string s, .int .u32 x, .int .u64 y] 44) = W at *
  refine (RHyper_any W H0.out.rd).mono ?_
  rintro e w1 ⟨rfl, hf1, -, h1⟩
  have HC1 := Lib.hid (H0.out.rr.fr hf1 HN.out.2.2)
  go_wp2_with fail
  refine (rRHyper_any w1 HC1.out).mono ?_
  rintro e w2 ⟨rfl, hf2, h2⟩
  go_wp2_with fail
  go_ret
  exact ⟨rfl, HY.out.both HA.out hf1 h1 hf2 h2⟩

set_option maxRecDepth 100000 in
set_option maxHeartbeats 2000000 in
theorem reads_4 {b c : Nat} {st : RSt} (n m : Int) (oth : Bool) (s : ByteArray) (x y : Nat) (w : World) (h : Ry w b c st) :
    Calls Tryz.prog 20 #[.pointer (some ⟨b, 0, none⟩), .pointer (some ⟨c, 0, none⟩), .agg (opCells ⟨4, n, m, oth, s, x, y⟩)] w fun r w' => r = .returned (.bool true) ∧ Fr (fun k => k = b ∨ k = c) w w' ∧ Ry w' b c (st.boolS) := by
  have HY := Lib.hid h
  have HN := Lib.hid (show w.heap.size ≠ b ∧ w.heap.size ≠ c ∧ c ≠ b from ⟨fun e => by have := h.rd.lt; omega, fun e => by have := h.rr.lt; omega, h.ne.symm⟩)
  have H0 := Lib.hid (h.fr ((Fr.refl (fun _ => False) w).alloc (.cells #[.int .i64 4, .int .i64 n, .int .i64 m, .bool oth, .string s, .int .u32 x, .int .u64 y] 44)) id id)
  have HA := Lib.hid ((Fr.refl (fun _ => False) w).alloc (.cells #[.int .i64 4, .int .i64 n, .int .i64 m, .bool oth, .string s, .int .u32 x, .int .u64 y] 44))
  have HLT := Lib.hid (show w.heap.size < (w.alloc (.cells #[.int .i64 4, .int .i64 n, .int .i64 m, .bool oth, .string s, .int .u32 x, .int .u64 y] 44)).heap.size by simp)
  unfold opCells
  clear h
  go_enter Tryz.func20, Tryz.ntmps20
  go_wp2_with fail
  generalize w.alloc (.cells #[.int .i64 4, .int .i64 n, .int .i64 m, .bool oth, .string s, .int .u32 x, .int .u64 y] 44) = W at *
  refine (RBool_any W H0.out.rd).mono ?_
  rintro e w1 ⟨rfl, hf1, -, h1⟩
  have HC1 := Lib.hid (H0.out.rr.fr hf1 HN.out.2.2)
  go_wp2_with fail
  refine (yBool_any w1 HC1.out).mono ?_
  rintro e w2 ⟨rfl, hf2, h2⟩
  go_wp2_with fail
  go_ret
  exact ⟨rfl, HY.out.both HA.out hf1 h1 hf2 h2⟩

set_option maxRecDepth 100000 in
set_option maxHeartbeats 2000000 in
theorem reads_5 {b c : Nat} {st : RSt} (n m : Int) (oth : Bool) (s : ByteArray) (x y : Nat) (w : World) (h : Ry w b c st) :
    Calls Tryz.prog 20 #[.pointer (some ⟨b, 0, none⟩), .pointer (some ⟨c, 0, none⟩), .agg (opCells ⟨5, n, m, oth, s, x, y⟩)] w fun r w' => r = .returned (.bool true) ∧ Fr (fun k => k = b ∨ k = c) w w' ∧ Ry w' b c (st.floatS) := by
  have HY := Lib.hid h
  have HN := Lib.hid (show w.heap.size ≠ b ∧ w.heap.size ≠ c ∧ c ≠ b from ⟨fun e => by have := h.rd.lt; omega, fun e => by have := h.rr.lt; omega, h.ne.symm⟩)
  have H0 := Lib.hid (h.fr ((Fr.refl (fun _ => False) w).alloc (.cells #[.int .i64 5, .int .i64 n, .int .i64 m, .bool oth, .string s, .int .u32 x, .int .u64 y] 44)) id id)
  have HA := Lib.hid ((Fr.refl (fun _ => False) w).alloc (.cells #[.int .i64 5, .int .i64 n, .int .i64 m, .bool oth, .string s, .int .u32 x, .int .u64 y] 44))
  have HLT := Lib.hid (show w.heap.size < (w.alloc (.cells #[.int .i64 5, .int .i64 n, .int .i64 m, .bool oth, .string s, .int .u32 x, .int .u64 y] 44)).heap.size by simp)
  unfold opCells
  clear h
  go_enter Tryz.func20, Tryz.ntmps20
  go_wp2_with fail
  generalize w.alloc (.cells #[.int .i64 5, .int .i64 n, .int .i64 m, .bool oth, .string s, .int .u32 x, .int .u64 y] 44) = W at *
  refine (RFloat_any W H0.out.rd).mono ?_
  rintro e w1 ⟨rfl, hf1, -, h1⟩
  have HC1 := Lib.hid (H0.out.rr.fr hf1 HN.out.2.2)
  go_wp2_with fail
  refine (yFloat_any w1 HC1.out).mono ?_
  rintro e w2 ⟨z, rfl, hz, hf2, h2⟩
  have HS := Lib.hid (show Calls Tryz.prog 81 #[.float .f32 st.floatV, .float .f32 z] w2 fun r w' => r = .returned (.bool true) ∧ w2 = w' by
    have hc := Same32_any st.floatV z w2
    rw [hz, beq_self_eq_true] at hc
    exact hc)
  clear hz
  go_wp2_with fail
  refine HS.out.mono ?_
  rintro e w3 ⟨rfl, hw3⟩
  obtain rfl : w2 = w3 := hw3
  go_wp2_with fail
  go_ret
  exact ⟨rfl, HY.out.both HA.out hf1 h1 hf2 h2⟩

set_option maxRecDepth 100000 in
set_option maxHeartbeats 2000000 in
theorem reads_6 {b c : Nat} {st : RSt} (n m : Int) (oth : Bool) (s : ByteArray) (x y : Nat) (w : World) (h : Ry w b c st) :
    Calls Tryz.prog 20 #[.pointer (some ⟨b, 0, none⟩), .pointer (some ⟨c, 0, none⟩), .agg (opCells ⟨6, n, m, oth, s, x, y⟩)] w fun r w' => r = .returned (.bool true) ∧ Fr (fun k => k = b ∨ k = c) w w' ∧ Ry w' b c (st.doubleS) := by
  have HY := Lib.hid h
  have HN := Lib.hid (show w.heap.size ≠ b ∧ w.heap.size ≠ c ∧ c ≠ b from ⟨fun e => by have := h.rd.lt; omega, fun e => by have := h.rr.lt; omega, h.ne.symm⟩)
  have H0 := Lib.hid (h.fr ((Fr.refl (fun _ => False) w).alloc (.cells #[.int .i64 6, .int .i64 n, .int .i64 m, .bool oth, .string s, .int .u32 x, .int .u64 y] 44)) id id)
  have HA := Lib.hid ((Fr.refl (fun _ => False) w).alloc (.cells #[.int .i64 6, .int .i64 n, .int .i64 m, .bool oth, .string s, .int .u32 x, .int .u64 y] 44))
  have HLT := Lib.hid (show w.heap.size < (w.alloc (.cells #[.int .i64 6, .int .i64 n, .int .i64 m, .bool oth, .string s, .int .u32 x, .int .u64 y] 44)).heap.size by simp)
  unfold opCells
  clear h
  go_enter Tryz.func20, Tryz.ntmps20
  go_wp2_with fail
  generalize w.alloc (.cells #[.int .i64 6, .int .i64 n, .int .i64 m, .bool oth, .string s, .int .u32 x, .int .u64 y] 44) = W at *
  refine (RDouble_any W H0.out.rd).mono ?_
  rintro e w1 ⟨rfl, hf1, -, h1⟩
  have HC1 := Lib.hid (H0.out.rr.fr hf1 HN.out.2.2)
  go_wp2_with fail
  refine (yDouble_any w1 HC1.out).mono ?_
  rintro e w2 ⟨z, rfl, hz, hf2, h2⟩
  have HS := Lib.hid (show Calls Tryz.prog 84 #[.float .f64 st.doubleV, .float .f64 z] w2 fun r w' => r = .returned (.bool true) ∧ w2 = w' by
    have hc := Same64_any st.doubleV z w2
    rw [hz, beq_self_eq_true] at hc
    exact hc)
  clear hz
  go_wp2_with fail
  refine HS.out.mono ?_
  rintro e w3 ⟨rfl, hw3⟩
  obtain rfl : w2 = w3 := hw3
  go_wp2_with fail
  go_ret
  exact ⟨rfl, HY.out.both HA.out hf1 h1 hf2 h2⟩

set_option maxRecDepth 100000 in
set_option maxHeartbeats 2000000 in
theorem reads_7 {b c : Nat} {st : RSt} (n m : Int) (oth : Bool) (s : ByteArray) (x y : Nat) (w : World) (h : Ry w b c st) :
    Calls Tryz.prog 20 #[.pointer (some ⟨b, 0, none⟩), .pointer (some ⟨c, 0, none⟩), .agg (opCells ⟨7, n, m, oth, s, x, y⟩)] w fun r w' => r = .returned (.bool true) ∧ Fr (fun k => k = b ∨ k = c) w w' ∧ Ry w' b c (st.fixedS n) := by
  have HY := Lib.hid h
  have HN := Lib.hid (show w.heap.size ≠ b ∧ w.heap.size ≠ c ∧ c ≠ b from ⟨fun e => by have := h.rd.lt; omega, fun e => by have := h.rr.lt; omega, h.ne.symm⟩)
  have H0 := Lib.hid (h.fr ((Fr.refl (fun _ => False) w).alloc (.cells #[.int .i64 7, .int .i64 n, .int .i64 m, .bool oth, .string s, .int .u32 x, .int .u64 y] 44)) id id)
  have HA := Lib.hid ((Fr.refl (fun _ => False) w).alloc (.cells #[.int .i64 7, .int .i64 n, .int .i64 m, .bool oth, .string s, .int .u32 x, .int .u64 y] 44))
  have HLT := Lib.hid (show w.heap.size < (w.alloc (.cells #[.int .i64 7, .int .i64 n, .int .i64 m, .bool oth, .string s, .int .u32 x, .int .u64 y] 44)).heap.size by simp)
  have X1 := Lib.hid (show (w.alloc (.cells #[.int .i64 7, .int .i64 n, .int .i64 m, .bool oth, .string s, .int .u32 x, .int .u64 y] 44)).cell? ⟨w.heap.size, 1, none⟩ = some (.int .i64 n) from cellOf (heap_alloc_new w _) 1)
  unfold opCells
  clear h
  go_enter Tryz.func20, Tryz.ntmps20
  go_wp2_with fail
  generalize w.alloc (.cells #[.int .i64 7, .int .i64 n, .int .i64 m, .bool oth, .string s, .int .u32 x, .int .u64 y] 44) = W at *
  refine (RFixed_any n W H0.out.rd).mono ?_
  rintro e w1 ⟨rfl, hf1, -, h1⟩
  have HC1 := Lib.hid (H0.out.rr.fr hf1 HN.out.2.2)
  have x1 := hf1.cellk HLT.out HN.out.1 X1.out
  go_wp2_with fail
  refine (yFixed_any n w1 HC1.out).mono ?_
  rintro e w2 ⟨rfl, hf2, h2⟩
  go_wp2_with fail
  go_ret
  exact ⟨rfl, HY.out.both HA.out hf1 h1 hf2 h2⟩

set_option maxRecDepth 100000 in
set_option maxHeartbeats 2000000 in
theorem reads_8 {b c : Nat} {st : RSt} (n m : Int) (oth : Bool) (s : ByteArray) (x y : Nat) (w : World) (h : Ry w b c st) :
    Calls Tryz.prog 20 #[.pointer (some ⟨b, 0, none⟩), .pointer (some ⟨c, 0, none⟩), .agg (opCells ⟨8, n, m, oth, s, x, y⟩)] w fun r w' => r = .returned (.bool true) ∧ Fr (fun k => k = b ∨ k = c) w w' ∧ Ry w' b c (st.opaqueS n) := by
  have HY := Lib.hid h
  have HN := Lib.hid (show w.heap.size ≠ b ∧ w.heap.size ≠ c ∧ c ≠ b from ⟨fun e => by have := h.rd.lt; omega, fun e => by have := h.rr.lt; omega, h.ne.symm⟩)
  have H0 := Lib.hid (h.fr ((Fr.refl (fun _ => False) w).alloc (.cells #[.int .i64 8, .int .i64 n, .int .i64 m, .bool oth, .string s, .int .u32 x, .int .u64 y] 44)) id id)
  have HA := Lib.hid ((Fr.refl (fun _ => False) w).alloc (.cells #[.int .i64 8, .int .i64 n, .int .i64 m, .bool oth, .string s, .int .u32 x, .int .u64 y] 44))
  have HLT := Lib.hid (show w.heap.size < (w.alloc (.cells #[.int .i64 8, .int .i64 n, .int .i64 m, .bool oth, .string s, .int .u32 x, .int .u64 y] 44)).heap.size by simp)
  have X1 := Lib.hid (show (w.alloc (.cells #[.int .i64 8, .int .i64 n, .int .i64 m, .bool oth, .string s, .int .u32 x, .int .u64 y] 44)).cell? ⟨w.heap.size, 1, none⟩ = some (.int .i64 n) from cellOf (heap_alloc_new w _) 1)
  unfold opCells
  clear h
  go_enter Tryz.func20, Tryz.ntmps20
  go_wp2_with fail
  generalize w.alloc (.cells #[.int .i64 8, .int .i64 n, .int .i64 m, .bool oth, .string s, .int .u32 x, .int .u64 y] 44) = W at *
  refine (ROpaque_any n W H0.out.rd).mono ?_
  rintro e w1 ⟨rfl, hf1, -, h1⟩
  have HC1 := Lib.hid (H0.out.rr.fr hf1 HN.out.2.2)
  have x1 := hf1.cellk HLT.out HN.out.1 X1.out
  go_wp2_with fail
  refine (rROpaque_any n w1 HC1.out).mono ?_
  rintro e w2 ⟨rfl, hf2, h2⟩
  go_wp2_with fail
  go_ret
  exact ⟨rfl, HY.out.both HA.out hf1 h1 hf2 h2⟩

set_option maxRecDepth 100000 in
set_option maxHeartbeats 2000000 in
theorem reads_9 {b c : Nat} {st : RSt} (n m : Int) (oth : Bool) (s : ByteArray) (x y : Nat) (w : World) (h : Ry w b c st) :
    Calls Tryz.prog 20 #[.pointer (some ⟨b, 0, none⟩), .pointer (some ⟨c, 0, none⟩), .agg (opCells ⟨9, n, m, oth, s, x, y⟩)] w fun r w' => r = .returned (.bool true) ∧ Fr (fun k => k = b ∨ k = c) w w' ∧ Ry w' b c (st.countS n) := by
  have HY := Lib.hid h
  have HN := Lib.hid (show w.heap.size ≠ b ∧ w.heap.size ≠ c ∧ c ≠ b from ⟨fun e => by have := h.rd.lt; omega, fun e => by have := h.rr.lt; omega, h.ne.symm⟩)
  have H0 := Lib.hid (h.fr ((Fr.refl (fun _ => False) w).alloc (.cells #[.int .i64 9, .int .i64 n, .int .i64 m, .bool oth, .string s, .int .u32 x, .int .u64 y] 44)) id id)
  have HA := Lib.hid ((Fr.refl (fun _ => False) w).alloc (.cells #[.int .i64 9, .int .i64 n, .int .i64 m, .bool oth, .string s, .int .u32 x, .int .u64 y] 44))
  have HLT := Lib.hid (show w.heap.size < (w.alloc (.cells #[.int .i64 9, .int .i64 n, .int .i64 m, .bool oth, .string s, .int .u32 x, .int .u64 y] 44)).heap.size by simp)
  have X1 := Lib.hid (show (w.alloc (.cells #[.int .i64 9, .int .i64 n, .int .i64 m, .bool oth, .string s, .int .u32 x, .int .u64 y] 44)).cell? ⟨w.heap.size, 1, none⟩ = some (.int .i64 n) from cellOf (heap_alloc_new w _) 1)
  unfold opCells
  clear h
  go_enter Tryz.func20, Tryz.ntmps20
  go_wp2_with fail
  generalize w.alloc (.cells #[.int .i64 9, .int .i64 n, .int .i64 m, .bool oth, .string s, .int .u32 x, .int .u64 y] 44) = W at *
  refine (RCount_any n W H0.out.rd).mono ?_
  rintro e w1 ⟨rfl, hf1, -, h1⟩
  have HC1 := Lib.hid (H0.out.rr.fr hf1 HN.out.2.2)
  have x1 := hf1.cellk HLT.out HN.out.1 X1.out
  go_wp2_with fail
  refine (rRCount_any n w1 HC1.out).mono ?_
  rintro e w2 ⟨rfl, hf2, h2⟩
  go_wp2_with fail
  go_ret
  exact ⟨rfl, HY.out.both HA.out hf1 h1 hf2 h2⟩

set_option maxRecDepth 100000 in
set_option maxHeartbeats 2000000 in
theorem reads_10 {b c : Nat} {st : RSt} (n m : Int) (oth : Bool) (s : ByteArray) (x y : Nat) (w : World) (h : Ry w b c st) :
    Calls Tryz.prog 20 #[.pointer (some ⟨b, 0, none⟩), .pointer (some ⟨c, 0, none⟩), .agg (opCells ⟨10, n, m, oth, s, x, y⟩)] w fun r w' => r = .returned (.bool true) ∧ Fr (fun k => k = b ∨ k = c) w w' ∧ Ry w' b c (st.restS) := by
  have HY := Lib.hid h
  have HN := Lib.hid (show w.heap.size ≠ b ∧ w.heap.size ≠ c ∧ c ≠ b from ⟨fun e => by have := h.rd.lt; omega, fun e => by have := h.rr.lt; omega, h.ne.symm⟩)
  have H0 := Lib.hid (h.fr ((Fr.refl (fun _ => False) w).alloc (.cells #[.int .i64 10, .int .i64 n, .int .i64 m, .bool oth, .string s, .int .u32 x, .int .u64 y] 44)) id id)
  have HA := Lib.hid ((Fr.refl (fun _ => False) w).alloc (.cells #[.int .i64 10, .int .i64 n, .int .i64 m, .bool oth, .string s, .int .u32 x, .int .u64 y] 44))
  have HLT := Lib.hid (show w.heap.size < (w.alloc (.cells #[.int .i64 10, .int .i64 n, .int .i64 m, .bool oth, .string s, .int .u32 x, .int .u64 y] 44)).heap.size by simp)
  unfold opCells
  clear h
  go_enter Tryz.func20, Tryz.ntmps20
  go_wp2_with fail
  generalize w.alloc (.cells #[.int .i64 10, .int .i64 n, .int .i64 m, .bool oth, .string s, .int .u32 x, .int .u64 y] 44) = W at *
  refine (RRest_any W H0.out.rd).mono ?_
  rintro e w1 ⟨rfl, hf1, -, h1⟩
  have HC1 := Lib.hid (H0.out.rr.fr hf1 HN.out.2.2)
  go_wp2_with fail
  refine (rRRest_any w1 HC1.out).mono ?_
  rintro e w2 ⟨rfl, hf2, h2⟩
  go_wp2_with fail
  go_ret
  exact ⟨rfl, HY.out.both HA.out hf1 h1 hf2 h2⟩

set_option maxRecDepth 100000 in
set_option maxHeartbeats 2000000 in
theorem reads_11 {b c : Nat} {st : RSt} (n m : Int) (oth : Bool) (s : ByteArray) (x y : Nat) (w : World) (h : Ry w b c st) :
    Calls Tryz.prog 20 #[.pointer (some ⟨b, 0, none⟩), .pointer (some ⟨c, 0, none⟩), .agg (opCells ⟨11, n, m, oth, s, x, y⟩)] w fun r w' => r = .returned (.bool true) ∧ Fr (fun k => k = b ∨ k = c) w w' ∧ Ry w' b c (st.fail n) := by
  have HY := Lib.hid h
  have HN := Lib.hid (show w.heap.size ≠ b ∧ w.heap.size ≠ c ∧ c ≠ b from ⟨fun e => by have := h.rd.lt; omega, fun e => by have := h.rr.lt; omega, h.ne.symm⟩)
  have H0 := Lib.hid (h.fr ((Fr.refl (fun _ => False) w).alloc (.cells #[.int .i64 11, .int .i64 n, .int .i64 m, .bool oth, .string s, .int .u32 x, .int .u64 y] 44)) id id)
  have HA := Lib.hid ((Fr.refl (fun _ => False) w).alloc (.cells #[.int .i64 11, .int .i64 n, .int .i64 m, .bool oth, .string s, .int .u32 x, .int .u64 y] 44))
  have HLT := Lib.hid (show w.heap.size < (w.alloc (.cells #[.int .i64 11, .int .i64 n, .int .i64 m, .bool oth, .string s, .int .u32 x, .int .u64 y] 44)).heap.size by simp)
  have X1 := Lib.hid (show (w.alloc (.cells #[.int .i64 11, .int .i64 n, .int .i64 m, .bool oth, .string s, .int .u32 x, .int .u64 y] 44)).cell? ⟨w.heap.size, 1, none⟩ = some (.int .i64 n) from cellOf (heap_alloc_new w _) 1)
  unfold opCells
  clear h
  go_enter Tryz.func20, Tryz.ntmps20
  go_wp2_with fail
  generalize w.alloc (.cells #[.int .i64 11, .int .i64 n, .int .i64 m, .bool oth, .string s, .int .u32 x, .int .u64 y] 44) = W at *
  refine (RFail_any n W H0.out.rd).mono ?_
  rintro e w1 ⟨rfl, hf1, -, h1⟩
  have HC1 := Lib.hid (H0.out.rr.fr hf1 HN.out.2.2)
  have x1 := hf1.cellk HLT.out HN.out.1 X1.out
  go_wp2_with fail
  refine (rRFail_any n w1 HC1.out).mono ?_
  rintro e w2 ⟨rfl, hf2, h2⟩
  go_wp2_with fail
  go_ret
  exact ⟨rfl, HY.out.both HA.out hf1 h1 hf2 h2⟩

set_option maxRecDepth 100000 in
theorem reads_no {b c : Nat} {st : RSt} (k n m : Int) (oth : Bool) (s : ByteArray) (x y : Nat) (w : World) (h : Ry w b c st) (k1 : k ≠ 1) (k2 : k ≠ 2) (k3 : k ≠ 3) (k4 : k ≠ 4) (k5 : k ≠ 5) (k6 : k ≠ 6) (k7 : k ≠ 7) (k8 : k ≠ 8) (k9 : k ≠ 9) (k10 : k ≠ 10) (k11 : k ≠ 11) :
    Calls Tryz.prog 20 #[.pointer (some ⟨b, 0, none⟩), .pointer (some ⟨c, 0, none⟩), .agg (opCells ⟨k, n, m, oth, s, x, y⟩)] w fun r w' => r = .returned (.bool true) ∧ Fr (fun k => k = b ∨ k = c) w w' ∧ Ry w' b c st := by
  have H := Lib.hid h
  have g1 : (k == 1) = false := by simpa using k1
  have g2 : (k == 2) = false := by simpa using k2
  have g3 : (k == 3) = false := by simpa using k3
  have g4 : (k == 4) = false := by simpa using k4
  have g5 : (k == 5) = false := by simpa using k5
  have g6 : (k == 6) = false := by simpa using k6
  have g7 : (k == 7) = false := by simpa using k7
  have g8 : (k == 8) = false := by simpa using k8
  have g9 : (k == 9) = false := by simpa using k9
  have g10 : (k == 10) = false := by simpa using k10
  have g11 : (k == 11) = false := by simpa using k11
  unfold opCells
  clear h k1 k2 k3 k4 k5 k6 k7 k8 k9 k10 k11
  go_enter Tryz.func20, Tryz.ntmps20
  go_wp2
  go_ret
  have hf : ∀ o, Fr (fun _ => False) w (w.alloc o) := fun o => (Fr.refl _ _).alloc o
  exact ⟨rfl, (hf _).mono (fun _ _ h => h.elim), H.out.fr (hf _) id id⟩
theorem reads_any {b c : Nat} {st : RSt} (o : OpM) (w : World) (h : Ry w b c st) :
    Calls Tryz.prog 20 #[.pointer (some ⟨b, 0, none⟩), .pointer (some ⟨c, 0, none⟩), .agg (opCells o)] w fun r w' => r = .returned (.bool true) ∧ Fr (fun k => k = b ∨ k = c) w w' ∧ Ry w' b c (st.readsS o) := by
  obtain ⟨k, n, m, oth, s, x, y⟩ := o
  by_cases k1 : k = 1
  · subst k1
    have hp := reads_1 n m oth s x y w h
    simpa only [RSt.readsS, if_true, if_false, Int.reduceEq] using hp
  by_cases k2 : k = 2
  · subst k2
    have hp := reads_2 n m oth s x y w h
    simpa only [RSt.readsS, if_true, if_false, Int.reduceEq] using hp
  by_cases k3 : k = 3
  · subst k3
    have hp := reads_3 n m oth s x y w h
    simpa only [RSt.readsS, if_true, if_false, Int.reduceEq] using hp
  by_cases k4 : k = 4
  · subst k4
    have hp := reads_4 n m oth s x y w h
    simpa only [RSt.readsS, if_true, if_false, Int.reduceEq] using hp
  by_cases k5 : k = 5
  · subst k5
    have hp := reads_5 n m oth s x y w h
    simpa only [RSt.readsS, if_true, if_false, Int.reduceEq] using hp
  by_cases k6 : k = 6
  · subst k6
    have hp := reads_6 n m oth s x y w h
    simpa only [RSt.readsS, if_true, if_false, Int.reduceEq] using hp
  by_cases k7 : k = 7
  · subst k7
    have hp := reads_7 n m oth s x y w h
    simpa only [RSt.readsS, if_true, if_false, Int.reduceEq] using hp
  by_cases k8 : k = 8
  · subst k8
    have hp := reads_8 n m oth s x y w h
    simpa only [RSt.readsS, if_true, if_false, Int.reduceEq] using hp
  by_cases k9 : k = 9
  · subst k9
    have hp := reads_9 n m oth s x y w h
    simpa only [RSt.readsS, if_true, if_false, Int.reduceEq] using hp
  by_cases k10 : k = 10
  · subst k10
    have hp := reads_10 n m oth s x y w h
    simpa only [RSt.readsS, if_true, if_false, Int.reduceEq] using hp
  by_cases k11 : k = 11
  · subst k11
    have hp := reads_11 n m oth s x y w h
    simpa only [RSt.readsS, if_true, if_false, Int.reduceEq] using hp
  have hp := reads_no k n m oth s x y w h k1 k2 k3 k4 k5 k6 k7 k8 k9 k10 k11
  simpa only [RSt.readsS, if_neg k1, if_neg k2, if_neg k3, if_neg k4, if_neg k5, if_neg k6, if_neg k7, if_neg k8, if_neg k9, if_neg k10, if_neg k11] using hp
end Go.Proofs.YtlcjfafmmoncpaaGreatDoor
