/- The same call of a Reader: is it what was handed in? -/
import Derived.Test.YtlcjfafmmoncpaaGreatDoorFf
namespace Go.Proofs.YtlcjfafmmoncpaaGreatDoor
open Go.RowKit
set_option linter.unusedVariables false
set_option linter.unusedSimpArgs false

def RSt.getsS (st : RSt) (o : OpM) : RSt :=
  if o.kind = 1 then st.uint
  else if o.kind = 2 then st.uint
  else if o.kind = 3 then st.hyper
  else if o.kind = 4 then st.boolS
  else if o.kind = 5 then st.floatS
  else if o.kind = 6 then st.doubleS
  else if o.kind = 7 then st.fixedS o.s.size
  else if o.kind = 8 then st.opaqueS (o.s.size + withinM o.n 9)
  else if o.kind = 9 then st.countS (wordM o.n)
  else st
def RSt.getsB (st : RSt) (o : OpM) : Bool :=
  if o.kind = 1 then st.intV == wordM o.n - 2147483648
  else if o.kind = 2 then st.uintV == wordM o.n
  else if o.kind = 3 then st.hyperV == o.n
  else if o.kind = 4 then st.boolV == oddM o.n
  else if o.kind = 5 then bitsF .f32 st.floatV == bitsF .f32 o.single
  else if o.kind = 6 then bitsF .f64 st.doubleV == bitsF .f64 o.double
  else if o.kind = 7 then (st.fixedV o.s.size).toList == o.s.toList
  else if o.kind = 8 then (st.opaqueV (o.s.size + withinM o.n 9)).toList == o.s.toList
  else if o.kind = 9 then st.manyV (wordM o.n) == withinM o.m (wordM o.n + 1)
  else true

set_option maxRecDepth 100000 in
set_option maxHeartbeats 1000000 in
theorem gets_1 {b : Nat} {st : RSt} (n m : Int) (oth : Bool) (s : ByteArray) (x y : Nat) (w : World) (h : Rd w b st) (hn : -9223372036854775808 ≤ n ∧ n ≤ 9223372036854775807) (hm : -9223372036854775808 ≤ m ∧ m ≤ 9223372036854775807) (hs : s.size ≤ 140737488351232) :
    Calls Tryz.prog 30 #[.pointer (some ⟨b, 0, none⟩), .agg (opCells ⟨1, n, m, oth, s, x, y⟩)] w fun r w' => r = .returned (.bool (st.intV == wordM n - 2147483648)) ∧ Fr (fun k => k = b) w w' ∧ Rd w' b (st.uint) := by
  have hb := wordM_bound n
  have hbb : w.heap.size ≠ b := fun e => by have := h.lt; omega
  have h0 : Rd (w.alloc (.cells #[.int .i64 1, .int .i64 n, .int .i64 m, .bool oth, .string s, .int .u32 x, .int .u64 y] 44)) b st := h.fr ((Fr.refl (fun _ => False) w).alloc _) (fun h => h)
  have hF0 : Fr (fun k => k = b) w (w.alloc (.cells #[.int .i64 1, .int .i64 n, .int .i64 m, .bool oth, .string s, .int .u32 x, .int .u64 y] 44)) := (Fr.refl _ _).alloc _
  have x1 : (w.alloc (.cells #[.int .i64 1, .int .i64 n, .int .i64 m, .bool oth, .string s, .int .u32 x, .int .u64 y] 44)).cell? ⟨w.heap.size, 1, none⟩ = some (.int .i64 n) := cellOf (heap_alloc_new w _) 1
  have x2 : (w.alloc (.cells #[.int .i64 1, .int .i64 n, .int .i64 m, .bool oth, .string s, .int .u32 x, .int .u64 y] 44)).cell? ⟨w.heap.size, 2, none⟩ = some (.int .i64 m) := cellOf (heap_alloc_new w _) 2
  have x4 : (w.alloc (.cells #[.int .i64 1, .int .i64 n, .int .i64 m, .bool oth, .string s, .int .u32 x, .int .u64 y] 44)).cell? ⟨w.heap.size, 4, none⟩ = some (.string s) := cellOf (heap_alloc_new w _) 4
  have x5 : (w.alloc (.cells #[.int .i64 1, .int .i64 n, .int .i64 m, .bool oth, .string s, .int .u32 x, .int .u64 y] 44)).cell? ⟨w.heap.size, 5, none⟩ = some (.int .u32 x) := cellOf (heap_alloc_new w _) 5
  have x6 : (w.alloc (.cells #[.int .i64 1, .int .i64 n, .int .i64 m, .bool oth, .string s, .int .u32 x, .int .u64 y] 44)).cell? ⟨w.heap.size, 6, none⟩ = some (.int .u64 y) := cellOf (heap_alloc_new w _) 6
  have hlt : w.heap.size < (w.alloc (.cells #[.int .i64 1, .int .i64 n, .int .i64 m, .bool oth, .string s, .int .u32 x, .int .u64 y] 44)).heap.size := by simp
  have X1 := Lib.hid x1
  have X2 := Lib.hid x2
  have X4 := Lib.hid x4
  have X5 := Lib.hid x5
  have X6 := Lib.hid x6
  have H0 := Lib.hid h0
  have HF0 := Lib.hid hF0
  have HLT := Lib.hid hlt
  have hsum : IntKind.i64.wrap (wordM n - 2147483648) = wordM n - 2147483648 := by rw [IntKind.wrap_i64]; omega
  unfold opCells
  clear h h0 hF0 x1 x2 x4 x5 x6 hlt
  go_enter Tryz.func30, Tryz.ntmps30
  go_wp2_with fail
  generalize w.alloc (.cells #[.int .i64 1, .int .i64 n, .int .i64 m, .bool oth, .string s, .int .u32 x, .int .u64 y] 44) = W at *
  have x1 := X1.out
  have x2 := X2.out
  have x4 := X4.out
  have x5 := X5.out
  have x6 := X6.out
  go_region_held3 (fun w' => w'.cell? ⟨w.heap.size, 1, none⟩ = some (.int .i64 n) ∧ w'.cell? ⟨w.heap.size, 2, none⟩ = some (.int .i64 m) ∧ w'.cell? ⟨w.heap.size, 4, none⟩ = some (.string s) ∧ w'.cell? ⟨w.heap.size, 5, none⟩ = some (.int .u32 x) ∧ w'.cell? ⟨w.heap.size, 6, none⟩ = some (.int .u64 y)) (first | exact ⟨x1, x2, x4, x5, x6⟩) (first | (go_at_call 32; refine (RInt_any _ (H0.out.keep (w' := W.drew) rfl)).mono ?_; rintro e w1 ⟨rfl, hfr, -, h1⟩; have hfr : Fr (fun k => k = b) W w1 := ⟨hfr.os, hfr.tape, hfr.output, hfr.size, hfr.block⟩; have x1 := hfr.cellk HLT.out hbb X1.out; have x2 := hfr.cellk HLT.out hbb X2.out; have x4 := hfr.cellk HLT.out hbb X4.out; have x5 := hfr.cellk HLT.out hbb X5.out; have x6 := hfr.cellk HLT.out hbb X6.out) | (go_at_call 95; refine (word_any _ _).mono ?_; rintro e w2 ⟨rfl, rfl⟩))
  all_goals
    go_wp2
    go_ret
    exact ⟨rfl, HF0.out.trans hfr, h1⟩

set_option maxRecDepth 100000 in
set_option maxHeartbeats 1000000 in
theorem gets_2 {b : Nat} {st : RSt} (n m : Int) (oth : Bool) (s : ByteArray) (x y : Nat) (w : World) (h : Rd w b st) (hn : -9223372036854775808 ≤ n ∧ n ≤ 9223372036854775807) (hm : -9223372036854775808 ≤ m ∧ m ≤ 9223372036854775807) (hs : s.size ≤ 140737488351232) :
    Calls Tryz.prog 30 #[.pointer (some ⟨b, 0, none⟩), .agg (opCells ⟨2, n, m, oth, s, x, y⟩)] w fun r w' => r = .returned (.bool (st.uintV == wordM n)) ∧ Fr (fun k => k = b) w w' ∧ Rd w' b (st.uint) := by
  have hb := wordM_bound n
  have hbb : w.heap.size ≠ b := fun e => by have := h.lt; omega
  have h0 : Rd (w.alloc (.cells #[.int .i64 2, .int .i64 n, .int .i64 m, .bool oth, .string s, .int .u32 x, .int .u64 y] 44)) b st := h.fr ((Fr.refl (fun _ => False) w).alloc _) (fun h => h)
  have hF0 : Fr (fun k => k = b) w (w.alloc (.cells #[.int .i64 2, .int .i64 n, .int .i64 m, .bool oth, .string s, .int .u32 x, .int .u64 y] 44)) := (Fr.refl _ _).alloc _
  have x1 : (w.alloc (.cells #[.int .i64 2, .int .i64 n, .int .i64 m, .bool oth, .string s, .int .u32 x, .int .u64 y] 44)).cell? ⟨w.heap.size, 1, none⟩ = some (.int .i64 n) := cellOf (heap_alloc_new w _) 1
  have x2 : (w.alloc (.cells #[.int .i64 2, .int .i64 n, .int .i64 m, .bool oth, .string s, .int .u32 x, .int .u64 y] 44)).cell? ⟨w.heap.size, 2, none⟩ = some (.int .i64 m) := cellOf (heap_alloc_new w _) 2
  have x4 : (w.alloc (.cells #[.int .i64 2, .int .i64 n, .int .i64 m, .bool oth, .string s, .int .u32 x, .int .u64 y] 44)).cell? ⟨w.heap.size, 4, none⟩ = some (.string s) := cellOf (heap_alloc_new w _) 4
  have x5 : (w.alloc (.cells #[.int .i64 2, .int .i64 n, .int .i64 m, .bool oth, .string s, .int .u32 x, .int .u64 y] 44)).cell? ⟨w.heap.size, 5, none⟩ = some (.int .u32 x) := cellOf (heap_alloc_new w _) 5
  have x6 : (w.alloc (.cells #[.int .i64 2, .int .i64 n, .int .i64 m, .bool oth, .string s, .int .u32 x, .int .u64 y] 44)).cell? ⟨w.heap.size, 6, none⟩ = some (.int .u64 y) := cellOf (heap_alloc_new w _) 6
  have hlt : w.heap.size < (w.alloc (.cells #[.int .i64 2, .int .i64 n, .int .i64 m, .bool oth, .string s, .int .u32 x, .int .u64 y] 44)).heap.size := by simp
  have X1 := Lib.hid x1
  have X2 := Lib.hid x2
  have X4 := Lib.hid x4
  have X5 := Lib.hid x5
  have X6 := Lib.hid x6
  have H0 := Lib.hid h0
  have HF0 := Lib.hid hF0
  have HLT := Lib.hid hlt
  unfold opCells
  clear h h0 hF0 x1 x2 x4 x5 x6 hlt
  go_enter Tryz.func30, Tryz.ntmps30
  go_wp2_with fail
  generalize w.alloc (.cells #[.int .i64 2, .int .i64 n, .int .i64 m, .bool oth, .string s, .int .u32 x, .int .u64 y] 44) = W at *
  have x1 := X1.out
  have x2 := X2.out
  have x4 := X4.out
  have x5 := X5.out
  have x6 := X6.out
  go_region_held3 (fun w' => w'.cell? ⟨w.heap.size, 1, none⟩ = some (.int .i64 n) ∧ w'.cell? ⟨w.heap.size, 2, none⟩ = some (.int .i64 m) ∧ w'.cell? ⟨w.heap.size, 4, none⟩ = some (.string s) ∧ w'.cell? ⟨w.heap.size, 5, none⟩ = some (.int .u32 x) ∧ w'.cell? ⟨w.heap.size, 6, none⟩ = some (.int .u64 y)) (first | exact ⟨x1, x2, x4, x5, x6⟩) (first | (go_at_call 49; refine (RUint_any _ (H0.out.keep (w' := W.drew) rfl)).mono ?_; rintro e w1 ⟨rfl, hfr, -, h1⟩; have hfr : Fr (fun k => k = b) W w1 := ⟨hfr.os, hfr.tape, hfr.output, hfr.size, hfr.block⟩; have x1 := hfr.cellk HLT.out hbb X1.out; have x2 := hfr.cellk HLT.out hbb X2.out; have x4 := hfr.cellk HLT.out hbb X4.out; have x5 := hfr.cellk HLT.out hbb X5.out; have x6 := hfr.cellk HLT.out hbb X6.out) | (go_at_call 95; refine (word_any _ _).mono ?_; rintro e w2 ⟨rfl, rfl⟩))
  all_goals
    go_wp2
    go_ret
    exact ⟨rfl, HF0.out.trans hfr, h1⟩

set_option maxRecDepth 100000 in
set_option maxHeartbeats 1000000 in
theorem gets_3 {b : Nat} {st : RSt} (n m : Int) (oth : Bool) (s : ByteArray) (x y : Nat) (w : World) (h : Rd w b st) (hn : -9223372036854775808 ≤ n ∧ n ≤ 9223372036854775807) (hm : -9223372036854775808 ≤ m ∧ m ≤ 9223372036854775807) (hs : s.size ≤ 140737488351232) :
    Calls Tryz.prog 30 #[.pointer (some ⟨b, 0, none⟩), .agg (opCells ⟨3, n, m, oth, s, x, y⟩)] w fun r w' => r = .returned (.bool (st.hyperV == n)) ∧ Fr (fun k => k = b) w w' ∧ Rd w' b (st.hyper) := by
  have hb := wordM_bound n
  have hbb : w.heap.size ≠ b := fun e => by have := h.lt; omega
  have h0 : Rd (w.alloc (.cells #[.int .i64 3, .int .i64 n, .int .i64 m, .bool oth, .string s, .int .u32 x, .int .u64 y] 44)) b st := h.fr ((Fr.refl (fun _ => False) w).alloc _) (fun h => h)
  have hF0 : Fr (fun k => k = b) w (w.alloc (.cells #[.int .i64 3, .int .i64 n, .int .i64 m, .bool oth, .string s, .int .u32 x, .int .u64 y] 44)) := (Fr.refl _ _).alloc _
  have x1 : (w.alloc (.cells #[.int .i64 3, .int .i64 n, .int .i64 m, .bool oth, .string s, .int .u32 x, .int .u64 y] 44)).cell? ⟨w.heap.size, 1, none⟩ = some (.int .i64 n) := cellOf (heap_alloc_new w _) 1
  have x2 : (w.alloc (.cells #[.int .i64 3, .int .i64 n, .int .i64 m, .bool oth, .string s, .int .u32 x, .int .u64 y] 44)).cell? ⟨w.heap.size, 2, none⟩ = some (.int .i64 m) := cellOf (heap_alloc_new w _) 2
  have x4 : (w.alloc (.cells #[.int .i64 3, .int .i64 n, .int .i64 m, .bool oth, .string s, .int .u32 x, .int .u64 y] 44)).cell? ⟨w.heap.size, 4, none⟩ = some (.string s) := cellOf (heap_alloc_new w _) 4
  have x5 : (w.alloc (.cells #[.int .i64 3, .int .i64 n, .int .i64 m, .bool oth, .string s, .int .u32 x, .int .u64 y] 44)).cell? ⟨w.heap.size, 5, none⟩ = some (.int .u32 x) := cellOf (heap_alloc_new w _) 5
  have x6 : (w.alloc (.cells #[.int .i64 3, .int .i64 n, .int .i64 m, .bool oth, .string s, .int .u32 x, .int .u64 y] 44)).cell? ⟨w.heap.size, 6, none⟩ = some (.int .u64 y) := cellOf (heap_alloc_new w _) 6
  have hlt : w.heap.size < (w.alloc (.cells #[.int .i64 3, .int .i64 n, .int .i64 m, .bool oth, .string s, .int .u32 x, .int .u64 y] 44)).heap.size := by simp
  have X1 := Lib.hid x1
  have X2 := Lib.hid x2
  have X4 := Lib.hid x4
  have X5 := Lib.hid x5
  have X6 := Lib.hid x6
  have H0 := Lib.hid h0
  have HF0 := Lib.hid hF0
  have HLT := Lib.hid hlt
  unfold opCells
  clear h h0 hF0 x1 x2 x4 x5 x6 hlt
  go_enter Tryz.func30, Tryz.ntmps30
  go_wp2_with fail
  generalize w.alloc (.cells #[.int .i64 3, .int .i64 n, .int .i64 m, .bool oth, .string s, .int .u32 x, .int .u64 y] 44) = W at *
  have x1 := X1.out
  have x2 := X2.out
  have x4 := X4.out
  have x5 := X5.out
  have x6 := X6.out
  go_region_held3 (fun w' => w'.cell? ⟨w.heap.size, 1, none⟩ = some (.int .i64 n) ∧ w'.cell? ⟨w.heap.size, 2, none⟩ = some (.int .i64 m) ∧ w'.cell? ⟨w.heap.size, 4, none⟩ = some (.string s) ∧ w'.cell? ⟨w.heap.size, 5, none⟩ = some (.int .u32 x) ∧ w'.cell? ⟨w.heap.size, 6, none⟩ = some (.int .u64 y)) (first | exact ⟨x1, x2, x4, x5, x6⟩) (first | (go_at_call 76; refine (RHyper_any _ (H0.out.keep (w' := W.drew) rfl)).mono ?_; rintro e w1 ⟨rfl, hfr, -, h1⟩; have hfr : Fr (fun k => k = b) W w1 := ⟨hfr.os, hfr.tape, hfr.output, hfr.size, hfr.block⟩; have x1 := hfr.cellk HLT.out hbb X1.out; have x2 := hfr.cellk HLT.out hbb X2.out; have x4 := hfr.cellk HLT.out hbb X4.out; have x5 := hfr.cellk HLT.out hbb X5.out; have x6 := hfr.cellk HLT.out hbb X6.out))
  all_goals
    go_wp2
    go_ret
    exact ⟨rfl, HF0.out.trans hfr, h1⟩

set_option maxRecDepth 100000 in
set_option maxHeartbeats 1000000 in
theorem gets_4 {b : Nat} {st : RSt} (n m : Int) (oth : Bool) (s : ByteArray) (x y : Nat) (w : World) (h : Rd w b st) (hn : -9223372036854775808 ≤ n ∧ n ≤ 9223372036854775807) (hm : -9223372036854775808 ≤ m ∧ m ≤ 9223372036854775807) (hs : s.size ≤ 140737488351232) :
    Calls Tryz.prog 30 #[.pointer (some ⟨b, 0, none⟩), .agg (opCells ⟨4, n, m, oth, s, x, y⟩)] w fun r w' => r = .returned (.bool (st.boolV == oddM n)) ∧ Fr (fun k => k = b) w w' ∧ Rd w' b (st.boolS) := by
  have hb := wordM_bound n
  have hbb : w.heap.size ≠ b := fun e => by have := h.lt; omega
  have h0 : Rd (w.alloc (.cells #[.int .i64 4, .int .i64 n, .int .i64 m, .bool oth, .string s, .int .u32 x, .int .u64 y] 44)) b st := h.fr ((Fr.refl (fun _ => False) w).alloc _) (fun h => h)
  have hF0 : Fr (fun k => k = b) w (w.alloc (.cells #[.int .i64 4, .int .i64 n, .int .i64 m, .bool oth, .string s, .int .u32 x, .int .u64 y] 44)) := (Fr.refl _ _).alloc _
  have x1 : (w.alloc (.cells #[.int .i64 4, .int .i64 n, .int .i64 m, .bool oth, .string s, .int .u32 x, .int .u64 y] 44)).cell? ⟨w.heap.size, 1, none⟩ = some (.int .i64 n) := cellOf (heap_alloc_new w _) 1
  have x2 : (w.alloc (.cells #[.int .i64 4, .int .i64 n, .int .i64 m, .bool oth, .string s, .int .u32 x, .int .u64 y] 44)).cell? ⟨w.heap.size, 2, none⟩ = some (.int .i64 m) := cellOf (heap_alloc_new w _) 2
  have x4 : (w.alloc (.cells #[.int .i64 4, .int .i64 n, .int .i64 m, .bool oth, .string s, .int .u32 x, .int .u64 y] 44)).cell? ⟨w.heap.size, 4, none⟩ = some (.string s) := cellOf (heap_alloc_new w _) 4
  have x5 : (w.alloc (.cells #[.int .i64 4, .int .i64 n, .int .i64 m, .bool oth, .string s, .int .u32 x, .int .u64 y] 44)).cell? ⟨w.heap.size, 5, none⟩ = some (.int .u32 x) := cellOf (heap_alloc_new w _) 5
  have x6 : (w.alloc (.cells #[.int .i64 4, .int .i64 n, .int .i64 m, .bool oth, .string s, .int .u32 x, .int .u64 y] 44)).cell? ⟨w.heap.size, 6, none⟩ = some (.int .u64 y) := cellOf (heap_alloc_new w _) 6
  have hlt : w.heap.size < (w.alloc (.cells #[.int .i64 4, .int .i64 n, .int .i64 m, .bool oth, .string s, .int .u32 x, .int .u64 y] 44)).heap.size := by simp
  have X1 := Lib.hid x1
  have X2 := Lib.hid x2
  have X4 := Lib.hid x4
  have X5 := Lib.hid x5
  have X6 := Lib.hid x6
  have H0 := Lib.hid h0
  have HF0 := Lib.hid hF0
  have HLT := Lib.hid hlt
  unfold oddM
  unfold opCells
  clear h h0 hF0 x1 x2 x4 x5 x6 hlt
  go_enter Tryz.func30, Tryz.ntmps30
  go_wp2_with fail
  generalize w.alloc (.cells #[.int .i64 4, .int .i64 n, .int .i64 m, .bool oth, .string s, .int .u32 x, .int .u64 y] 44) = W at *
  have x1 := X1.out
  have x2 := X2.out
  have x4 := X4.out
  have x5 := X5.out
  have x6 := X6.out
  go_region_held3 (fun w' => w'.cell? ⟨w.heap.size, 1, none⟩ = some (.int .i64 n) ∧ w'.cell? ⟨w.heap.size, 2, none⟩ = some (.int .i64 m) ∧ w'.cell? ⟨w.heap.size, 4, none⟩ = some (.string s) ∧ w'.cell? ⟨w.heap.size, 5, none⟩ = some (.int .u32 x) ∧ w'.cell? ⟨w.heap.size, 6, none⟩ = some (.int .u64 y)) (first | exact ⟨x1, x2, x4, x5, x6⟩) (first | (go_at_call 78; refine (RBool_any _ (H0.out.keep (w' := W.drew) rfl)).mono ?_; rintro e w1 ⟨rfl, hfr, -, h1⟩; have hfr : Fr (fun k => k = b) W w1 := ⟨hfr.os, hfr.tape, hfr.output, hfr.size, hfr.block⟩; have x1 := hfr.cellk HLT.out hbb X1.out; have x2 := hfr.cellk HLT.out hbb X2.out; have x4 := hfr.cellk HLT.out hbb X4.out; have x5 := hfr.cellk HLT.out hbb X5.out; have x6 := hfr.cellk HLT.out hbb X6.out))
  all_goals
    go_wp2
    go_ret
    exact ⟨rfl, HF0.out.trans hfr, h1⟩

set_option maxRecDepth 100000 in
set_option maxHeartbeats 1000000 in
theorem gets_5 {b : Nat} {st : RSt} (n m : Int) (oth : Bool) (s : ByteArray) (x y : Nat) (w : World) (h : Rd w b st) (hn : -9223372036854775808 ≤ n ∧ n ≤ 9223372036854775807) (hm : -9223372036854775808 ≤ m ∧ m ≤ 9223372036854775807) (hs : s.size ≤ 140737488351232) :
    Calls Tryz.prog 30 #[.pointer (some ⟨b, 0, none⟩), .agg (opCells ⟨5, n, m, oth, s, x, y⟩)] w fun r w' => r = .returned (.bool (bitsF .f32 st.floatV == bitsF .f32 x)) ∧ Fr (fun k => k = b) w w' ∧ Rd w' b (st.floatS) := by
  have hb := wordM_bound n
  have hbb : w.heap.size ≠ b := fun e => by have := h.lt; omega
  have h0 : Rd (w.alloc (.cells #[.int .i64 5, .int .i64 n, .int .i64 m, .bool oth, .string s, .int .u32 x, .int .u64 y] 44)) b st := h.fr ((Fr.refl (fun _ => False) w).alloc _) (fun h => h)
  have hF0 : Fr (fun k => k = b) w (w.alloc (.cells #[.int .i64 5, .int .i64 n, .int .i64 m, .bool oth, .string s, .int .u32 x, .int .u64 y] 44)) := (Fr.refl _ _).alloc _
  have x1 : (w.alloc (.cells #[.int .i64 5, .int .i64 n, .int .i64 m, .bool oth, .string s, .int .u32 x, .int .u64 y] 44)).cell? ⟨w.heap.size, 1, none⟩ = some (.int .i64 n) := cellOf (heap_alloc_new w _) 1
  have x2 : (w.alloc (.cells #[.int .i64 5, .int .i64 n, .int .i64 m, .bool oth, .string s, .int .u32 x, .int .u64 y] 44)).cell? ⟨w.heap.size, 2, none⟩ = some (.int .i64 m) := cellOf (heap_alloc_new w _) 2
  have x4 : (w.alloc (.cells #[.int .i64 5, .int .i64 n, .int .i64 m, .bool oth, .string s, .int .u32 x, .int .u64 y] 44)).cell? ⟨w.heap.size, 4, none⟩ = some (.string s) := cellOf (heap_alloc_new w _) 4
  have x5 : (w.alloc (.cells #[.int .i64 5, .int .i64 n, .int .i64 m, .bool oth, .string s, .int .u32 x, .int .u64 y] 44)).cell? ⟨w.heap.size, 5, none⟩ = some (.int .u32 x) := cellOf (heap_alloc_new w _) 5
  have x6 : (w.alloc (.cells #[.int .i64 5, .int .i64 n, .int .i64 m, .bool oth, .string s, .int .u32 x, .int .u64 y] 44)).cell? ⟨w.heap.size, 6, none⟩ = some (.int .u64 y) := cellOf (heap_alloc_new w _) 6
  have hlt : w.heap.size < (w.alloc (.cells #[.int .i64 5, .int .i64 n, .int .i64 m, .bool oth, .string s, .int .u32 x, .int .u64 y] 44)).heap.size := by simp
  have X1 := Lib.hid x1
  have X2 := Lib.hid x2
  have X4 := Lib.hid x4
  have X5 := Lib.hid x5
  have X6 := Lib.hid x6
  have H0 := Lib.hid h0
  have HF0 := Lib.hid hF0
  have HLT := Lib.hid hlt
  unfold opCells
  clear h h0 hF0 x1 x2 x4 x5 x6 hlt
  go_enter Tryz.func30, Tryz.ntmps30
  go_wp2_with fail
  generalize w.alloc (.cells #[.int .i64 5, .int .i64 n, .int .i64 m, .bool oth, .string s, .int .u32 x, .int .u64 y] 44) = W at *
  have x1 := X1.out
  have x2 := X2.out
  have x4 := X4.out
  have x5 := X5.out
  have x6 := X6.out
  go_region_held3 (fun w' => w'.cell? ⟨w.heap.size, 1, none⟩ = some (.int .i64 n) ∧ w'.cell? ⟨w.heap.size, 2, none⟩ = some (.int .i64 m) ∧ w'.cell? ⟨w.heap.size, 4, none⟩ = some (.string s) ∧ w'.cell? ⟨w.heap.size, 5, none⟩ = some (.int .u32 x) ∧ w'.cell? ⟨w.heap.size, 6, none⟩ = some (.int .u64 y)) (first | exact ⟨x1, x2, x4, x5, x6⟩) (first | (go_at_call 80; refine (RFloat_any _ (H0.out.keep (w' := W.drew) rfl)).mono ?_; rintro e w1 ⟨rfl, hfr, -, h1⟩; have hfr : Fr (fun k => k = b) W w1 := ⟨hfr.os, hfr.tape, hfr.output, hfr.size, hfr.block⟩; have x1 := hfr.cellk HLT.out hbb X1.out; have x2 := hfr.cellk HLT.out hbb X2.out; have x4 := hfr.cellk HLT.out hbb X4.out; have x5 := hfr.cellk HLT.out hbb X5.out; have x6 := hfr.cellk HLT.out hbb X6.out) | (go_at_call 58; refine (single_any x _).mono ?_; rintro e w2 ⟨z, rfl, hz, hw2⟩; have hfd := Fr.drawn hw2 (fun _ => False); have hl2 := Nat.lt_of_lt_of_le HLT.out hfr.size; have x1 := hfd.cellk hl2 id x1; have x2 := hfd.cellk hl2 id x2; have x4 := hfd.cellk hl2 id x4; have x5 := hfd.cellk hl2 id x5; have x6 := hfd.cellk hl2 id x6; have h1 := h1.fr hfd id; have hfr := hfr.then hfd (fun _ _ h => h.elim)) | (go_at_call 81; refine (Same32_any _ _ _).mono ?_; rintro e w3 ⟨rfl, rfl⟩))
  all_goals
    go_wp2
    go_ret
    exact ⟨rfl, HF0.out.trans hfr, h1⟩

set_option maxRecDepth 100000 in
set_option maxHeartbeats 1000000 in
theorem gets_6 {b : Nat} {st : RSt} (n m : Int) (oth : Bool) (s : ByteArray) (x y : Nat) (w : World) (h : Rd w b st) (hn : -9223372036854775808 ≤ n ∧ n ≤ 9223372036854775807) (hm : -9223372036854775808 ≤ m ∧ m ≤ 9223372036854775807) (hs : s.size ≤ 140737488351232) :
    Calls Tryz.prog 30 #[.pointer (some ⟨b, 0, none⟩), .agg (opCells ⟨6, n, m, oth, s, x, y⟩)] w fun r w' => r = .returned (.bool (bitsF .f64 st.doubleV == bitsF .f64 y)) ∧ Fr (fun k => k = b) w w' ∧ Rd w' b (st.doubleS) := by
  have hb := wordM_bound n
  have hbb : w.heap.size ≠ b := fun e => by have := h.lt; omega
  have h0 : Rd (w.alloc (.cells #[.int .i64 6, .int .i64 n, .int .i64 m, .bool oth, .string s, .int .u32 x, .int .u64 y] 44)) b st := h.fr ((Fr.refl (fun _ => False) w).alloc _) (fun h => h)
  have hF0 : Fr (fun k => k = b) w (w.alloc (.cells #[.int .i64 6, .int .i64 n, .int .i64 m, .bool oth, .string s, .int .u32 x, .int .u64 y] 44)) := (Fr.refl _ _).alloc _
  have x1 : (w.alloc (.cells #[.int .i64 6, .int .i64 n, .int .i64 m, .bool oth, .string s, .int .u32 x, .int .u64 y] 44)).cell? ⟨w.heap.size, 1, none⟩ = some (.int .i64 n) := cellOf (heap_alloc_new w _) 1
  have x2 : (w.alloc (.cells #[.int .i64 6, .int .i64 n, .int .i64 m, .bool oth, .string s, .int .u32 x, .int .u64 y] 44)).cell? ⟨w.heap.size, 2, none⟩ = some (.int .i64 m) := cellOf (heap_alloc_new w _) 2
  have x4 : (w.alloc (.cells #[.int .i64 6, .int .i64 n, .int .i64 m, .bool oth, .string s, .int .u32 x, .int .u64 y] 44)).cell? ⟨w.heap.size, 4, none⟩ = some (.string s) := cellOf (heap_alloc_new w _) 4
  have x5 : (w.alloc (.cells #[.int .i64 6, .int .i64 n, .int .i64 m, .bool oth, .string s, .int .u32 x, .int .u64 y] 44)).cell? ⟨w.heap.size, 5, none⟩ = some (.int .u32 x) := cellOf (heap_alloc_new w _) 5
  have x6 : (w.alloc (.cells #[.int .i64 6, .int .i64 n, .int .i64 m, .bool oth, .string s, .int .u32 x, .int .u64 y] 44)).cell? ⟨w.heap.size, 6, none⟩ = some (.int .u64 y) := cellOf (heap_alloc_new w _) 6
  have hlt : w.heap.size < (w.alloc (.cells #[.int .i64 6, .int .i64 n, .int .i64 m, .bool oth, .string s, .int .u32 x, .int .u64 y] 44)).heap.size := by simp
  have X1 := Lib.hid x1
  have X2 := Lib.hid x2
  have X4 := Lib.hid x4
  have X5 := Lib.hid x5
  have X6 := Lib.hid x6
  have H0 := Lib.hid h0
  have HF0 := Lib.hid hF0
  have HLT := Lib.hid hlt
  unfold opCells
  clear h h0 hF0 x1 x2 x4 x5 x6 hlt
  go_enter Tryz.func30, Tryz.ntmps30
  go_wp2_with fail
  generalize w.alloc (.cells #[.int .i64 6, .int .i64 n, .int .i64 m, .bool oth, .string s, .int .u32 x, .int .u64 y] 44) = W at *
  have x1 := X1.out
  have x2 := X2.out
  have x4 := X4.out
  have x5 := X5.out
  have x6 := X6.out
  go_region_held3 (fun w' => w'.cell? ⟨w.heap.size, 1, none⟩ = some (.int .i64 n) ∧ w'.cell? ⟨w.heap.size, 2, none⟩ = some (.int .i64 m) ∧ w'.cell? ⟨w.heap.size, 4, none⟩ = some (.string s) ∧ w'.cell? ⟨w.heap.size, 5, none⟩ = some (.int .u32 x) ∧ w'.cell? ⟨w.heap.size, 6, none⟩ = some (.int .u64 y)) (first | exact ⟨x1, x2, x4, x5, x6⟩) (first | (go_at_call 83; refine (RDouble_any _ (H0.out.keep (w' := W.drew) rfl)).mono ?_; rintro e w1 ⟨rfl, hfr, -, h1⟩; have hfr : Fr (fun k => k = b) W w1 := ⟨hfr.os, hfr.tape, hfr.output, hfr.size, hfr.block⟩; have x1 := hfr.cellk HLT.out hbb X1.out; have x2 := hfr.cellk HLT.out hbb X2.out; have x4 := hfr.cellk HLT.out hbb X4.out; have x5 := hfr.cellk HLT.out hbb X5.out; have x6 := hfr.cellk HLT.out hbb X6.out) | (go_at_call 61; refine (double_any y _).mono ?_; rintro e w2 ⟨z, rfl, hz, hw2⟩; have hfd := Fr.drawn hw2 (fun _ => False); have hl2 := Nat.lt_of_lt_of_le HLT.out hfr.size; have x1 := hfd.cellk hl2 id x1; have x2 := hfd.cellk hl2 id x2; have x4 := hfd.cellk hl2 id x4; have x5 := hfd.cellk hl2 id x5; have x6 := hfd.cellk hl2 id x6; have h1 := h1.fr hfd id; have hfr := hfr.then hfd (fun _ _ h => h.elim)) | (go_at_call 84; refine (Same64_any _ _ _).mono ?_; rintro e w3 ⟨rfl, rfl⟩))
  all_goals
    go_wp2
    go_ret
    exact ⟨rfl, HF0.out.trans hfr, h1⟩

set_option maxRecDepth 100000 in
set_option maxHeartbeats 1000000 in
theorem gets_7 {b : Nat} {st : RSt} (n m : Int) (oth : Bool) (s : ByteArray) (x y : Nat) (w : World) (h : Rd w b st) (hn : -9223372036854775808 ≤ n ∧ n ≤ 9223372036854775807) (hm : -9223372036854775808 ≤ m ∧ m ≤ 9223372036854775807) (hs : s.size ≤ 140737488351232) :
    Calls Tryz.prog 30 #[.pointer (some ⟨b, 0, none⟩), .agg (opCells ⟨7, n, m, oth, s, x, y⟩)] w fun r w' => r = .returned (.bool ((st.fixedV s.size).toList == s.toList)) ∧ Fr (fun k => k = b) w w' ∧ Rd w' b (st.fixedS s.size) := by
  have hb := wordM_bound n
  have hbb : w.heap.size ≠ b := fun e => by have := h.lt; omega
  have h0 : Rd (w.alloc (.cells #[.int .i64 7, .int .i64 n, .int .i64 m, .bool oth, .string s, .int .u32 x, .int .u64 y] 44)) b st := h.fr ((Fr.refl (fun _ => False) w).alloc _) (fun h => h)
  have hF0 : Fr (fun k => k = b) w (w.alloc (.cells #[.int .i64 7, .int .i64 n, .int .i64 m, .bool oth, .string s, .int .u32 x, .int .u64 y] 44)) := (Fr.refl _ _).alloc _
  have x1 : (w.alloc (.cells #[.int .i64 7, .int .i64 n, .int .i64 m, .bool oth, .string s, .int .u32 x, .int .u64 y] 44)).cell? ⟨w.heap.size, 1, none⟩ = some (.int .i64 n) := cellOf (heap_alloc_new w _) 1
  have x2 : (w.alloc (.cells #[.int .i64 7, .int .i64 n, .int .i64 m, .bool oth, .string s, .int .u32 x, .int .u64 y] 44)).cell? ⟨w.heap.size, 2, none⟩ = some (.int .i64 m) := cellOf (heap_alloc_new w _) 2
  have x4 : (w.alloc (.cells #[.int .i64 7, .int .i64 n, .int .i64 m, .bool oth, .string s, .int .u32 x, .int .u64 y] 44)).cell? ⟨w.heap.size, 4, none⟩ = some (.string s) := cellOf (heap_alloc_new w _) 4
  have x5 : (w.alloc (.cells #[.int .i64 7, .int .i64 n, .int .i64 m, .bool oth, .string s, .int .u32 x, .int .u64 y] 44)).cell? ⟨w.heap.size, 5, none⟩ = some (.int .u32 x) := cellOf (heap_alloc_new w _) 5
  have x6 : (w.alloc (.cells #[.int .i64 7, .int .i64 n, .int .i64 m, .bool oth, .string s, .int .u32 x, .int .u64 y] 44)).cell? ⟨w.heap.size, 6, none⟩ = some (.int .u64 y) := cellOf (heap_alloc_new w _) 6
  have hlt : w.heap.size < (w.alloc (.cells #[.int .i64 7, .int .i64 n, .int .i64 m, .bool oth, .string s, .int .u32 x, .int .u64 y] 44)).heap.size := by simp
  have X1 := Lib.hid x1
  have X2 := Lib.hid x2
  have X4 := Lib.hid x4
  have X5 := Lib.hid x5
  have X6 := Lib.hid x6
  have H0 := Lib.hid h0
  have HF0 := Lib.hid hF0
  have HLT := Lib.hid hlt
  unfold opCells
  clear h h0 hF0 x1 x2 x4 x5 x6 hlt
  go_enter Tryz.func30, Tryz.ntmps30
  go_wp2_with fail
  generalize w.alloc (.cells #[.int .i64 7, .int .i64 n, .int .i64 m, .bool oth, .string s, .int .u32 x, .int .u64 y] 44) = W at *
  have x1 := X1.out
  have x2 := X2.out
  have x4 := X4.out
  have x5 := X5.out
  have x6 := X6.out
  go_region_held3 (fun w' => w'.cell? ⟨w.heap.size, 1, none⟩ = some (.int .i64 n) ∧ w'.cell? ⟨w.heap.size, 2, none⟩ = some (.int .i64 m) ∧ w'.cell? ⟨w.heap.size, 4, none⟩ = some (.string s) ∧ w'.cell? ⟨w.heap.size, 5, none⟩ = some (.int .u32 x) ∧ w'.cell? ⟨w.heap.size, 6, none⟩ = some (.int .u64 y)) (first | exact ⟨x1, x2, x4, x5, x6⟩) (first | (go_at_call 50; refine (RFixed_any _ _ (H0.out.keep (w' := W.drew) rfl)).mono ?_; rintro e w1 ⟨rfl, hfr, -, h1⟩; have hfr : Fr (fun k => k = b) W w1 := ⟨hfr.os, hfr.tape, hfr.output, hfr.size, hfr.block⟩; have x1 := hfr.cellk HLT.out hbb X1.out; have x2 := hfr.cellk HLT.out hbb X2.out; have x4 := hfr.cellk HLT.out hbb X4.out; have x5 := hfr.cellk HLT.out hbb X5.out; have x6 := hfr.cellk HLT.out hbb X6.out))
  all_goals
    go_wp2
    go_ret
    exact ⟨rfl, HF0.out.trans hfr, h1⟩

set_option maxRecDepth 100000 in
set_option maxHeartbeats 1000000 in
theorem gets_8 {b : Nat} {st : RSt} (n m : Int) (oth : Bool) (s : ByteArray) (x y : Nat) (w : World) (h : Rd w b st) (hn : -9223372036854775808 ≤ n ∧ n ≤ 9223372036854775807) (hm : -9223372036854775808 ≤ m ∧ m ≤ 9223372036854775807) (hs : s.size ≤ 140737488351232) :
    Calls Tryz.prog 30 #[.pointer (some ⟨b, 0, none⟩), .agg (opCells ⟨8, n, m, oth, s, x, y⟩)] w fun r w' => r = .returned (.bool ((st.opaqueV (s.size + withinM n 9)).toList == s.toList)) ∧ Fr (fun k => k = b) w w' ∧ Rd w' b (st.opaqueS (s.size + withinM n 9)) := by
  have hb := wordM_bound n
  have hbb : w.heap.size ≠ b := fun e => by have := h.lt; omega
  have h0 : Rd (w.alloc (.cells #[.int .i64 8, .int .i64 n, .int .i64 m, .bool oth, .string s, .int .u32 x, .int .u64 y] 44)) b st := h.fr ((Fr.refl (fun _ => False) w).alloc _) (fun h => h)
  have hF0 : Fr (fun k => k = b) w (w.alloc (.cells #[.int .i64 8, .int .i64 n, .int .i64 m, .bool oth, .string s, .int .u32 x, .int .u64 y] 44)) := (Fr.refl _ _).alloc _
  have x1 : (w.alloc (.cells #[.int .i64 8, .int .i64 n, .int .i64 m, .bool oth, .string s, .int .u32 x, .int .u64 y] 44)).cell? ⟨w.heap.size, 1, none⟩ = some (.int .i64 n) := cellOf (heap_alloc_new w _) 1
  have x2 : (w.alloc (.cells #[.int .i64 8, .int .i64 n, .int .i64 m, .bool oth, .string s, .int .u32 x, .int .u64 y] 44)).cell? ⟨w.heap.size, 2, none⟩ = some (.int .i64 m) := cellOf (heap_alloc_new w _) 2
  have x4 : (w.alloc (.cells #[.int .i64 8, .int .i64 n, .int .i64 m, .bool oth, .string s, .int .u32 x, .int .u64 y] 44)).cell? ⟨w.heap.size, 4, none⟩ = some (.string s) := cellOf (heap_alloc_new w _) 4
  have x5 : (w.alloc (.cells #[.int .i64 8, .int .i64 n, .int .i64 m, .bool oth, .string s, .int .u32 x, .int .u64 y] 44)).cell? ⟨w.heap.size, 5, none⟩ = some (.int .u32 x) := cellOf (heap_alloc_new w _) 5
  have x6 : (w.alloc (.cells #[.int .i64 8, .int .i64 n, .int .i64 m, .bool oth, .string s, .int .u32 x, .int .u64 y] 44)).cell? ⟨w.heap.size, 6, none⟩ = some (.int .u64 y) := cellOf (heap_alloc_new w _) 6
  have hlt : w.heap.size < (w.alloc (.cells #[.int .i64 8, .int .i64 n, .int .i64 m, .bool oth, .string s, .int .u32 x, .int .u64 y] 44)).heap.size := by simp
  have X1 := Lib.hid x1
  have X2 := Lib.hid x2
  have X4 := Lib.hid x4
  have X5 := Lib.hid x5
  have X6 := Lib.hid x6
  have H0 := Lib.hid h0
  have HF0 := Lib.hid hF0
  have HLT := Lib.hid hlt
  have hb9 := withinM_bound n (most := 9) (by decide)
  have hsum : IntKind.i64.wrap ((s.size : Int) + withinM n 9) = (s.size : Int) + withinM n 9 := by rw [IntKind.wrap_i64]; omega
  unfold opCells
  clear h h0 hF0 x1 x2 x4 x5 x6 hlt
  go_enter Tryz.func30, Tryz.ntmps30
  go_wp2_with fail
  generalize w.alloc (.cells #[.int .i64 8, .int .i64 n, .int .i64 m, .bool oth, .string s, .int .u32 x, .int .u64 y] 44) = W at *
  have x1 := X1.out
  have x2 := X2.out
  have x4 := X4.out
  have x5 := X5.out
  have x6 := X6.out
  go_region_held3 (fun w' => w'.cell? ⟨w.heap.size, 1, none⟩ = some (.int .i64 n) ∧ w'.cell? ⟨w.heap.size, 2, none⟩ = some (.int .i64 m) ∧ w'.cell? ⟨w.heap.size, 4, none⟩ = some (.string s) ∧ w'.cell? ⟨w.heap.size, 5, none⟩ = some (.int .u32 x) ∧ w'.cell? ⟨w.heap.size, 6, none⟩ = some (.int .u64 y)) (first | exact ⟨x1, x2, x4, x5, x6⟩) (first | (go_at_call 96; refine (within_any _ _ _ hn (by decide)).mono ?_; rintro e w2 ⟨rfl, rfl⟩) | (go_at_call 87; refine (ROpaque_any _ _ (H0.out.keep (w' := W.drew) rfl)).mono ?_; rintro e w1 ⟨rfl, hfr, -, h1⟩; have hfr : Fr (fun k => k = b) W w1 := ⟨hfr.os, hfr.tape, hfr.output, hfr.size, hfr.block⟩; have x1 := hfr.cellk HLT.out hbb X1.out; have x2 := hfr.cellk HLT.out hbb X2.out; have x4 := hfr.cellk HLT.out hbb X4.out; have x5 := hfr.cellk HLT.out hbb X5.out; have x6 := hfr.cellk HLT.out hbb X6.out))
  all_goals
    go_wp2
    go_ret
    exact ⟨rfl, HF0.out.trans hfr, h1⟩

set_option maxRecDepth 100000 in
set_option maxHeartbeats 1000000 in
theorem gets_9 {b : Nat} {st : RSt} (n m : Int) (oth : Bool) (s : ByteArray) (x y : Nat) (w : World) (h : Rd w b st) (hn : -9223372036854775808 ≤ n ∧ n ≤ 9223372036854775807) (hm : -9223372036854775808 ≤ m ∧ m ≤ 9223372036854775807) (hs : s.size ≤ 140737488351232) :
    Calls Tryz.prog 30 #[.pointer (some ⟨b, 0, none⟩), .agg (opCells ⟨9, n, m, oth, s, x, y⟩)] w fun r w' => r = .returned (.bool (st.manyV (wordM n) == withinM m (wordM n + 1))) ∧ Fr (fun k => k = b) w w' ∧ Rd w' b (st.countS (wordM n)) := by
  have hb := wordM_bound n
  have hbb : w.heap.size ≠ b := fun e => by have := h.lt; omega
  have h0 : Rd (w.alloc (.cells #[.int .i64 9, .int .i64 n, .int .i64 m, .bool oth, .string s, .int .u32 x, .int .u64 y] 44)) b st := h.fr ((Fr.refl (fun _ => False) w).alloc _) (fun h => h)
  have hF0 : Fr (fun k => k = b) w (w.alloc (.cells #[.int .i64 9, .int .i64 n, .int .i64 m, .bool oth, .string s, .int .u32 x, .int .u64 y] 44)) := (Fr.refl _ _).alloc _
  have x1 : (w.alloc (.cells #[.int .i64 9, .int .i64 n, .int .i64 m, .bool oth, .string s, .int .u32 x, .int .u64 y] 44)).cell? ⟨w.heap.size, 1, none⟩ = some (.int .i64 n) := cellOf (heap_alloc_new w _) 1
  have x2 : (w.alloc (.cells #[.int .i64 9, .int .i64 n, .int .i64 m, .bool oth, .string s, .int .u32 x, .int .u64 y] 44)).cell? ⟨w.heap.size, 2, none⟩ = some (.int .i64 m) := cellOf (heap_alloc_new w _) 2
  have x4 : (w.alloc (.cells #[.int .i64 9, .int .i64 n, .int .i64 m, .bool oth, .string s, .int .u32 x, .int .u64 y] 44)).cell? ⟨w.heap.size, 4, none⟩ = some (.string s) := cellOf (heap_alloc_new w _) 4
  have x5 : (w.alloc (.cells #[.int .i64 9, .int .i64 n, .int .i64 m, .bool oth, .string s, .int .u32 x, .int .u64 y] 44)).cell? ⟨w.heap.size, 5, none⟩ = some (.int .u32 x) := cellOf (heap_alloc_new w _) 5
  have x6 : (w.alloc (.cells #[.int .i64 9, .int .i64 n, .int .i64 m, .bool oth, .string s, .int .u32 x, .int .u64 y] 44)).cell? ⟨w.heap.size, 6, none⟩ = some (.int .u64 y) := cellOf (heap_alloc_new w _) 6
  have hlt : w.heap.size < (w.alloc (.cells #[.int .i64 9, .int .i64 n, .int .i64 m, .bool oth, .string s, .int .u32 x, .int .u64 y] 44)).heap.size := by simp
  have X1 := Lib.hid x1
  have X2 := Lib.hid x2
  have X4 := Lib.hid x4
  have X5 := Lib.hid x5
  have X6 := Lib.hid x6
  have H0 := Lib.hid h0
  have HF0 := Lib.hid hF0
  have HLT := Lib.hid hlt
  have hsum : IntKind.i64.wrap (wordM n + 1) = wordM n + 1 := by rw [IntKind.wrap_i64]; omega
  unfold opCells
  clear h h0 hF0 x1 x2 x4 x5 x6 hlt
  go_enter Tryz.func30, Tryz.ntmps30
  go_wp2_with fail
  generalize w.alloc (.cells #[.int .i64 9, .int .i64 n, .int .i64 m, .bool oth, .string s, .int .u32 x, .int .u64 y] 44) = W at *
  have x1 := X1.out
  have x2 := X2.out
  have x4 := X4.out
  have x5 := X5.out
  have x6 := X6.out
  go_region_held3 (fun w' => w'.cell? ⟨w.heap.size, 1, none⟩ = some (.int .i64 n) ∧ w'.cell? ⟨w.heap.size, 2, none⟩ = some (.int .i64 m) ∧ w'.cell? ⟨w.heap.size, 4, none⟩ = some (.string s) ∧ w'.cell? ⟨w.heap.size, 5, none⟩ = some (.int .u32 x) ∧ w'.cell? ⟨w.heap.size, 6, none⟩ = some (.int .u64 y)) (first | exact ⟨x1, x2, x4, x5, x6⟩) (first | (go_at_call 95; refine (word_any _ _).mono ?_; rintro e w2 ⟨rfl, rfl⟩) | (go_at_call 96; refine (within_any _ _ _ hm (by omega)).mono ?_; rintro e w2 ⟨rfl, rfl⟩) | (go_at_call 89; refine (RCount_any _ _ (H0.out.keep (w' := W.drew) rfl)).mono ?_; rintro e w1 ⟨rfl, hfr, -, h1⟩; have hfr : Fr (fun k => k = b) W w1 := ⟨hfr.os, hfr.tape, hfr.output, hfr.size, hfr.block⟩; have x1 := hfr.cellk HLT.out hbb X1.out; have x2 := hfr.cellk HLT.out hbb X2.out; have x4 := hfr.cellk HLT.out hbb X4.out; have x5 := hfr.cellk HLT.out hbb X5.out; have x6 := hfr.cellk HLT.out hbb X6.out))
  all_goals
    go_wp2
    go_ret
    exact ⟨rfl, HF0.out.trans hfr, h1⟩

set_option maxRecDepth 100000 in
theorem gets_no {b : Nat} {st : RSt} (k n m : Int) (oth : Bool) (s : ByteArray) (x y : Nat) (w : World) (h : Rd w b st) (k1 : k ≠ 1) (k2 : k ≠ 2) (k3 : k ≠ 3) (k4 : k ≠ 4) (k5 : k ≠ 5) (k6 : k ≠ 6) (k7 : k ≠ 7) (k8 : k ≠ 8) (k9 : k ≠ 9) :
    Calls Tryz.prog 30 #[.pointer (some ⟨b, 0, none⟩), .agg (opCells ⟨k, n, m, oth, s, x, y⟩)] w fun r w' => r = .returned (.bool true) ∧ Fr (fun k => k = b) w w' ∧ Rd w' b st := by
  have h0 : Rd (w.alloc (.cells #[.int .i64 k, .int .i64 n, .int .i64 m, .bool oth, .string s, .int .u32 x, .int .u64 y] 44)) b st := h.fr ((Fr.refl (fun _ => False) w).alloc _) (fun h => h)
  have hF0 : Fr (fun k => k = b) w (w.alloc (.cells #[.int .i64 k, .int .i64 n, .int .i64 m, .bool oth, .string s, .int .u32 x, .int .u64 y] 44)) := (Fr.refl _ _).alloc _
  have H0 := Lib.hid h0
  have HF0 := Lib.hid hF0
  unfold opCells
  clear h h0 hF0
  go_enter Tryz.func30, Tryz.ntmps30
  go_wp2
  go_ret
  exact ⟨rfl, HF0.out, H0.out⟩

/-- gets -/
theorem gets_any {b : Nat} {st : RSt} (o : OpM) (ho : o.Is) (w : World) (h : Rd w b st) :
    Calls Tryz.prog 30 #[.pointer (some ⟨b, 0, none⟩), .agg (opCells o)] w fun r w' => r = .returned (.bool (st.getsB o)) ∧ Fr (fun k => k = b) w w' ∧ Rd w' b (st.getsS o) := by
  obtain ⟨hn, hm, _, _, hs⟩ := ho
  obtain ⟨k, n, m, oth, s, x, y⟩ := o
  by_cases k1 : k = 1
  · subst k1
    have hp := gets_1 n m oth s x y w h hn hm hs
    simpa only [RSt.getsS, RSt.getsB, if_true, if_false, Int.reduceEq] using hp
  by_cases k2 : k = 2
  · subst k2
    have hp := gets_2 n m oth s x y w h hn hm hs
    simpa only [RSt.getsS, RSt.getsB, if_true, if_false, Int.reduceEq] using hp
  by_cases k3 : k = 3
  · subst k3
    have hp := gets_3 n m oth s x y w h hn hm hs
    simpa only [RSt.getsS, RSt.getsB, if_true, if_false, Int.reduceEq] using hp
  by_cases k4 : k = 4
  · subst k4
    have hp := gets_4 n m oth s x y w h hn hm hs
    simpa only [RSt.getsS, RSt.getsB, if_true, if_false, Int.reduceEq] using hp
  by_cases k5 : k = 5
  · subst k5
    have hp := gets_5 n m oth s x y w h hn hm hs
    simpa only [RSt.getsS, RSt.getsB, if_true, if_false, Int.reduceEq] using hp
  by_cases k6 : k = 6
  · subst k6
    have hp := gets_6 n m oth s x y w h hn hm hs
    simpa only [RSt.getsS, RSt.getsB, if_true, if_false, Int.reduceEq] using hp
  by_cases k7 : k = 7
  · subst k7
    have hp := gets_7 n m oth s x y w h hn hm hs
    simpa only [RSt.getsS, RSt.getsB, if_true, if_false, Int.reduceEq] using hp
  by_cases k8 : k = 8
  · subst k8
    have hp := gets_8 n m oth s x y w h hn hm hs
    simpa only [RSt.getsS, RSt.getsB, if_true, if_false, Int.reduceEq] using hp
  by_cases k9 : k = 9
  · subst k9
    have hp := gets_9 n m oth s x y w h hn hm hs
    simpa only [RSt.getsS, RSt.getsB, if_true, if_false, Int.reduceEq] using hp
  have hp := gets_no k n m oth s x y w h k1 k2 k3 k4 k5 k6 k7 k8 k9
  have e : st.getsS ⟨k, n, m, oth, s, x, y⟩ = st := by unfold RSt.getsS; simp only [if_neg k1, if_neg k2, if_neg k3, if_neg k4, if_neg k5, if_neg k6, if_neg k7, if_neg k8, if_neg k9]
  have e2 : st.getsB ⟨k, n, m, oth, s, x, y⟩ = true := by unfold RSt.getsB; simp only [if_neg k1, if_neg k2, if_neg k3, if_neg k4, if_neg k5, if_neg k6, if_neg k7, if_neg k8, if_neg k9]
  rw [e, e2]
  exact hp

end Go.Proofs.YtlcjfafmmoncpaaGreatDoor
