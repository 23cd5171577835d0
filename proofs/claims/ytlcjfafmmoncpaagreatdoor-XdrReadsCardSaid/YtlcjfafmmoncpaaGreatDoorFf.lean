/- A call of a Writer, by a raw one. -/
import Derived.Test.YtlcjfafmmoncpaaGreatDoorFe
import Derived.Deep.RegionHeld3
namespace Go.Proofs.YtlcjfafmmoncpaaGreatDoor
open Go.RowKit
set_option linter.unusedVariables false
set_option linter.unusedSimpArgs false

def oddM (n : Int) : Bool := n.tmod 2 != 0
def WSt.puts (st : WSt) (o : OpM) : WSt :=
  if o.kind = 1 then st.int (wordM o.n - 2147483648)
  else if o.kind = 2 then st.uint (wordM o.n)
  else if o.kind = 3 then st.hyper o.n
  else if o.kind = 4 then st.bool (oddM o.n)
  else if o.kind = 5 then st.float o.single
  else if o.kind = 6 then st.double o.double
  else if o.kind = 7 then st.fixed o.s.size o.s
  else if o.kind = 8 then st.opq (o.s.size + withinM o.n 9) o.s
  else if o.kind = 9 then st.count (wordM o.n) (withinM o.m (wordM o.n + 1))
  else st
theorem float_bits {st : WSt} {x y : Nat} (h : bitsF .f32 x = bitsF .f32 y) : st.float x = st.float y := by unfold WSt.float; rw [h]
theorem double_bits {st : WSt} {x y : Nat} (h : bitsF .f64 x = bitsF .f64 y) : st.double x = st.double y := by unfold WSt.double; rw [h]
theorem Fr.cellk {F : Nat → Prop} {W w' : World} {k i : Nat} {v : Value} (h : Fr F W w') (hlt : k < W.heap.size) (hk : ¬ F k) (hc : W.cell? ⟨k, i, none⟩ = some v) : w'.cell? ⟨k, i, none⟩ = some v := by
  rw [← hc]
  simp only [World.cell?, h.block k hlt hk]
theorem Fr.drawn {w w' : World} (h : w' = w ∨ w' = w.drew) (S : Nat → Prop) : Fr S w w' := by
  rcases h with rfl | rfl
  · exact Fr.refl _ _
  · exact (Fr.refl _ _).drew

set_option maxRecDepth 100000 in
set_option maxHeartbeats 2000000 in
theorem puts_1 {F : Nat → Prop} {b : Nat} {st : WSt} (n m : Int) (oth : Bool) (s : ByteArray) (x y : Nat) (w : World) (h : Wr w F b st) (hn : -9223372036854775808 ≤ n ∧ n ≤ 9223372036854775807) (hm : -9223372036854775808 ≤ m ∧ m ≤ 9223372036854775807) (hx : x < 4294967296) (hy : y < 18446744073709551616) (hs : st.out.size + s.size + 24 ≤ 140737488355300) :
    Calls Tryz.prog 27 #[.pointer (some ⟨b, 0, none⟩), .agg (opCells ⟨1, n, m, oth, s, x, y⟩)] w fun r w' => r = .returned (.tuple #[]) ∧ Fr F w w' ∧ Wr w' (Gw F w w') b (st.int (wordM n - 2147483648)) := by
  have Hs := Lib.hid hs
  have h0 : Wr (w.alloc (.cells #[.int .i64 1, .int .i64 n, .int .i64 m, .bool oth, .string s, .int .u32 x, .int .u64 y] 44)) F b st := h.below ((Below.refl _ _).alloc (Nat.le_refl _) _)
  have hF0 : Fr F w (w.alloc (.cells #[.int .i64 1, .int .i64 n, .int .i64 m, .bool oth, .string s, .int .u32 x, .int .u64 y] 44)) := (Fr.refl _ _).alloc _
  have H0 := Lib.hid h0
  have HF0 := Lib.hid hF0
  have HL := Lib.hid h.low
  have hb := wordM_bound n
  unfold opCells
  clear hs h h0 hF0
  go_enter Tryz.func27, Tryz.ntmps27
  go_wp2_with (first | (go_at_call 95; refine (word_any _ _).mono ?_; rintro e w1 ⟨rfl, rfl⟩) | (go_at_call 45; refine (WInt_any _ _ H0.out (by have := Hs.out; omega)).mono ?_; rintro e w' ⟨rfl, hfr, hw'⟩))
  all_goals
    go_end0
    exact ⟨rfl, HF0.out.trans hfr, hw'.late HF0.out.size HL.out hfr.size⟩

set_option maxRecDepth 100000 in
set_option maxHeartbeats 2000000 in
theorem puts_2 {F : Nat → Prop} {b : Nat} {st : WSt} (n m : Int) (oth : Bool) (s : ByteArray) (x y : Nat) (w : World) (h : Wr w F b st) (hn : -9223372036854775808 ≤ n ∧ n ≤ 9223372036854775807) (hm : -9223372036854775808 ≤ m ∧ m ≤ 9223372036854775807) (hx : x < 4294967296) (hy : y < 18446744073709551616) (hs : st.out.size + s.size + 24 ≤ 140737488355300) :
    Calls Tryz.prog 27 #[.pointer (some ⟨b, 0, none⟩), .agg (opCells ⟨2, n, m, oth, s, x, y⟩)] w fun r w' => r = .returned (.tuple #[]) ∧ Fr F w w' ∧ Wr w' (Gw F w w') b (st.uint (wordM n)) := by
  have Hs := Lib.hid hs
  have h0 : Wr (w.alloc (.cells #[.int .i64 2, .int .i64 n, .int .i64 m, .bool oth, .string s, .int .u32 x, .int .u64 y] 44)) F b st := h.below ((Below.refl _ _).alloc (Nat.le_refl _) _)
  have hF0 : Fr F w (w.alloc (.cells #[.int .i64 2, .int .i64 n, .int .i64 m, .bool oth, .string s, .int .u32 x, .int .u64 y] 44)) := (Fr.refl _ _).alloc _
  have H0 := Lib.hid h0
  have HF0 := Lib.hid hF0
  have HL := Lib.hid h.low
  unfold opCells
  clear hs h h0 hF0
  go_enter Tryz.func27, Tryz.ntmps27
  go_wp2_with (first | (go_at_call 95; refine (word_any _ _).mono ?_; rintro e w1 ⟨rfl, rfl⟩) | (go_at_call 52; refine (WUint_any _ _ H0.out (by have := Hs.out; omega)).mono ?_; rintro e w' ⟨rfl, hfr, hw'⟩))
  all_goals
    go_end0
    exact ⟨rfl, HF0.out.trans hfr, hw'.late HF0.out.size HL.out hfr.size⟩

set_option maxRecDepth 100000 in
set_option maxHeartbeats 2000000 in
theorem puts_3 {F : Nat → Prop} {b : Nat} {st : WSt} (n m : Int) (oth : Bool) (s : ByteArray) (x y : Nat) (w : World) (h : Wr w F b st) (hn : -9223372036854775808 ≤ n ∧ n ≤ 9223372036854775807) (hm : -9223372036854775808 ≤ m ∧ m ≤ 9223372036854775807) (hx : x < 4294967296) (hy : y < 18446744073709551616) (hs : st.out.size + s.size + 24 ≤ 140737488355300) :
    Calls Tryz.prog 27 #[.pointer (some ⟨b, 0, none⟩), .agg (opCells ⟨3, n, m, oth, s, x, y⟩)] w fun r w' => r = .returned (.tuple #[]) ∧ Fr F w w' ∧ Wr w' (Gw F w w') b (st.hyper n) := by
  have Hs := Lib.hid hs
  have h0 : Wr (w.alloc (.cells #[.int .i64 3, .int .i64 n, .int .i64 m, .bool oth, .string s, .int .u32 x, .int .u64 y] 44)) F b st := h.below ((Below.refl _ _).alloc (Nat.le_refl _) _)
  have hF0 : Fr F w (w.alloc (.cells #[.int .i64 3, .int .i64 n, .int .i64 m, .bool oth, .string s, .int .u32 x, .int .u64 y] 44)) := (Fr.refl _ _).alloc _
  have H0 := Lib.hid h0
  have HF0 := Lib.hid hF0
  have HL := Lib.hid h.low
  unfold opCells
  clear hs h h0 hF0
  go_enter Tryz.func27, Tryz.ntmps27
  go_wp2_with (first | (go_at_call 54; refine (WHyper_any _ _ H0.out (by have := Hs.out; omega)).mono ?_; rintro e w' ⟨rfl, hfr, hw'⟩))
  all_goals
    go_end0
    exact ⟨rfl, HF0.out.trans hfr, hw'.late HF0.out.size HL.out hfr.size⟩

set_option maxRecDepth 100000 in
set_option maxHeartbeats 2000000 in
theorem puts_4 {F : Nat → Prop} {b : Nat} {st : WSt} (n m : Int) (oth : Bool) (s : ByteArray) (x y : Nat) (w : World) (h : Wr w F b st) (hn : -9223372036854775808 ≤ n ∧ n ≤ 9223372036854775807) (hm : -9223372036854775808 ≤ m ∧ m ≤ 9223372036854775807) (hx : x < 4294967296) (hy : y < 18446744073709551616) (hs : st.out.size + s.size + 24 ≤ 140737488355300) :
    Calls Tryz.prog 27 #[.pointer (some ⟨b, 0, none⟩), .agg (opCells ⟨4, n, m, oth, s, x, y⟩)] w fun r w' => r = .returned (.tuple #[]) ∧ Fr F w w' ∧ Wr w' (Gw F w w') b (st.bool (oddM n)) := by
  have Hs := Lib.hid hs
  have h0 : Wr (w.alloc (.cells #[.int .i64 4, .int .i64 n, .int .i64 m, .bool oth, .string s, .int .u32 x, .int .u64 y] 44)) F b st := h.below ((Below.refl _ _).alloc (Nat.le_refl _) _)
  have hF0 : Fr F w (w.alloc (.cells #[.int .i64 4, .int .i64 n, .int .i64 m, .bool oth, .string s, .int .u32 x, .int .u64 y] 44)) := (Fr.refl _ _).alloc _
  have H0 := Lib.hid h0
  have HF0 := Lib.hid hF0
  have HL := Lib.hid h.low
  unfold oddM
  unfold opCells
  clear hs h h0 hF0
  go_enter Tryz.func27, Tryz.ntmps27
  go_wp2_with (first | (go_at_call 56; refine (WBool_any _ _ H0.out (by have := Hs.out; omega)).mono ?_; rintro e w' ⟨rfl, hfr, hw'⟩))
  all_goals
    go_end0
    exact ⟨rfl, HF0.out.trans hfr, hw'.late HF0.out.size HL.out hfr.size⟩

set_option maxRecDepth 100000 in
set_option maxHeartbeats 2000000 in
theorem puts_5 {F : Nat → Prop} {b : Nat} {st : WSt} (n m : Int) (oth : Bool) (s : ByteArray) (x y : Nat) (w : World) (h : Wr w F b st) (hn : -9223372036854775808 ≤ n ∧ n ≤ 9223372036854775807) (hm : -9223372036854775808 ≤ m ∧ m ≤ 9223372036854775807) (hx : x < 4294967296) (hy : y < 18446744073709551616) (hs : st.out.size + s.size + 24 ≤ 140737488355300) :
    Calls Tryz.prog 27 #[.pointer (some ⟨b, 0, none⟩), .agg (opCells ⟨5, n, m, oth, s, x, y⟩)] w fun r w' => r = .returned (.tuple #[]) ∧ Fr F w w' ∧ Wr w' (Gw F w w') b (st.float x) := by
  have Hs := Lib.hid hs
  have h0 : Wr (w.alloc (.cells #[.int .i64 5, .int .i64 n, .int .i64 m, .bool oth, .string s, .int .u32 x, .int .u64 y] 44)) F b st := h.below ((Below.refl _ _).alloc (Nat.le_refl _) _)
  have hF0 : Fr F w (w.alloc (.cells #[.int .i64 5, .int .i64 n, .int .i64 m, .bool oth, .string s, .int .u32 x, .int .u64 y] 44)) := (Fr.refl _ _).alloc _
  have H0 := Lib.hid h0
  have HF0 := Lib.hid hF0
  have HL := Lib.hid h.low
  unfold opCells
  clear hs h h0 hF0
  go_enter Tryz.func27, Tryz.ntmps27
  go_wp2_with (first | (go_at_call 58; refine (single_any x _).mono ?_; rintro e w1 ⟨z, rfl, hz, hw1⟩; have hf1 := Fr.drawn hw1; have h1 := Lib.hid (H0.out.fr (hf1 (fun _ => False)) (fun _ _ h => h))) | (go_at_call 48; refine (WFloat_any _ _ h1.out (by rw [hz]; exact bits_lt hx) (by have := Hs.out; omega)).mono ?_; rintro e w' ⟨rfl, hfr, hw'⟩))
  all_goals
    go_end0
    exact ⟨rfl, (HF0.out.trans (hf1 F)).trans hfr, by rw [← float_bits hz]; exact hw'.late (HF0.out.trans (hf1 F)).size HL.out hfr.size⟩

set_option maxRecDepth 100000 in
set_option maxHeartbeats 2000000 in
theorem puts_6 {F : Nat → Prop} {b : Nat} {st : WSt} (n m : Int) (oth : Bool) (s : ByteArray) (x y : Nat) (w : World) (h : Wr w F b st) (hn : -9223372036854775808 ≤ n ∧ n ≤ 9223372036854775807) (hm : -9223372036854775808 ≤ m ∧ m ≤ 9223372036854775807) (hx : x < 4294967296) (hy : y < 18446744073709551616) (hs : st.out.size + s.size + 24 ≤ 140737488355300) :
    Calls Tryz.prog 27 #[.pointer (some ⟨b, 0, none⟩), .agg (opCells ⟨6, n, m, oth, s, x, y⟩)] w fun r w' => r = .returned (.tuple #[]) ∧ Fr F w w' ∧ Wr w' (Gw F w w') b (st.double y) := by
  have Hs := Lib.hid hs
  have h0 : Wr (w.alloc (.cells #[.int .i64 6, .int .i64 n, .int .i64 m, .bool oth, .string s, .int .u32 x, .int .u64 y] 44)) F b st := h.below ((Below.refl _ _).alloc (Nat.le_refl _) _)
  have hF0 : Fr F w (w.alloc (.cells #[.int .i64 6, .int .i64 n, .int .i64 m, .bool oth, .string s, .int .u32 x, .int .u64 y] 44)) := (Fr.refl _ _).alloc _
  have H0 := Lib.hid h0
  have HF0 := Lib.hid hF0
  have HL := Lib.hid h.low
  unfold opCells
  clear hs h h0 hF0
  go_enter Tryz.func27, Tryz.ntmps27
  go_wp2_with (first | (go_at_call 61; refine (double_any y _).mono ?_; rintro e w1 ⟨z, rfl, hz, hw1⟩; have hf1 := Fr.drawn hw1; have h1 := Lib.hid (H0.out.fr (hf1 (fun _ => False)) (fun _ _ h => h))) | (go_at_call 60; refine (WDouble_any _ _ h1.out (by rw [hz]; exact bits_lt hy) (by have := Hs.out; omega)).mono ?_; rintro e w' ⟨rfl, hfr, hw'⟩))
  all_goals
    go_end0
    exact ⟨rfl, (HF0.out.trans (hf1 F)).trans hfr, by rw [← double_bits hz]; exact hw'.late (HF0.out.trans (hf1 F)).size HL.out hfr.size⟩

set_option maxRecDepth 100000 in
set_option maxHeartbeats 2000000 in
theorem puts_7 {F : Nat → Prop} {b : Nat} {st : WSt} (n m : Int) (oth : Bool) (s : ByteArray) (x y : Nat) (w : World) (h : Wr w F b st) (hn : -9223372036854775808 ≤ n ∧ n ≤ 9223372036854775807) (hm : -9223372036854775808 ≤ m ∧ m ≤ 9223372036854775807) (hx : x < 4294967296) (hy : y < 18446744073709551616) (hs : st.out.size + s.size + 24 ≤ 140737488355300) :
    Calls Tryz.prog 27 #[.pointer (some ⟨b, 0, none⟩), .agg (opCells ⟨7, n, m, oth, s, x, y⟩)] w fun r w' => r = .returned (.tuple #[]) ∧ Fr F w w' ∧ Wr w' (Gw F w w') b (st.fixed s.size s) := by
  have Hs := Lib.hid hs
  have h0 : Wr (w.alloc (.cells #[.int .i64 7, .int .i64 n, .int .i64 m, .bool oth, .string s, .int .u32 x, .int .u64 y] 44)) F b st := h.below ((Below.refl _ _).alloc (Nat.le_refl _) _)
  have hF0 : Fr F w (w.alloc (.cells #[.int .i64 7, .int .i64 n, .int .i64 m, .bool oth, .string s, .int .u32 x, .int .u64 y] 44)) := (Fr.refl _ _).alloc _
  have H0 := Lib.hid h0
  have HF0 := Lib.hid hF0
  have HL := Lib.hid h.low
  have hsz : s.size ≤ 140737488355300 := by omega
  unfold opCells
  clear hs h h0 hF0
  go_enter Tryz.func27, Tryz.ntmps27
  go_wp2_with (first | (go_at_call 46; refine (WFixed_any _ _ _ H0.out (by have := Hs.out; omega)).mono ?_; rintro e w' ⟨rfl, hfr, hw'⟩))
  all_goals
    go_end0
    exact ⟨rfl, HF0.out.trans hfr, hw'.late HF0.out.size HL.out hfr.size⟩

set_option maxRecDepth 100000 in
set_option maxHeartbeats 2000000 in
theorem puts_8 {F : Nat → Prop} {b : Nat} {st : WSt} (n m : Int) (oth : Bool) (s : ByteArray) (x y : Nat) (w : World) (h : Wr w F b st) (hn : -9223372036854775808 ≤ n ∧ n ≤ 9223372036854775807) (hm : -9223372036854775808 ≤ m ∧ m ≤ 9223372036854775807) (hx : x < 4294967296) (hy : y < 18446744073709551616) (hs : st.out.size + s.size + 24 ≤ 140737488355300) :
    Calls Tryz.prog 27 #[.pointer (some ⟨b, 0, none⟩), .agg (opCells ⟨8, n, m, oth, s, x, y⟩)] w fun r w' => r = .returned (.tuple #[]) ∧ Fr F w w' ∧ Wr w' (Gw F w w') b (st.opq (s.size + withinM n 9) s) := by
  have Hs := Lib.hid hs
  have h0 : Wr (w.alloc (.cells #[.int .i64 8, .int .i64 n, .int .i64 m, .bool oth, .string s, .int .u32 x, .int .u64 y] 44)) F b st := h.below ((Below.refl _ _).alloc (Nat.le_refl _) _)
  have hF0 : Fr F w (w.alloc (.cells #[.int .i64 8, .int .i64 n, .int .i64 m, .bool oth, .string s, .int .u32 x, .int .u64 y] 44)) := (Fr.refl _ _).alloc _
  have H0 := Lib.hid h0
  have HF0 := Lib.hid hF0
  have HL := Lib.hid h.low
  have hsz : s.size ≤ 140737488355300 := by omega
  have hb := withinM_bound n (most := 9) (by decide)
  have hsum : IntKind.i64.wrap ((s.size : Int) + withinM n 9) = (s.size : Int) + withinM n 9 := by rw [IntKind.wrap_i64]; omega
  unfold opCells
  clear hs h h0 hF0
  go_enter Tryz.func27, Tryz.ntmps27
  go_wp2
  have x1 : (w.alloc (.cells #[.int .i64 8, .int .i64 n, .int .i64 m, .bool oth, .string s, .int .u32 x, .int .u64 y] 44)).cell? ⟨w.heap.size, 1, none⟩ = some (.int .i64 n) := cellOf (heap_alloc_new w _) 1
  have x2 : (w.alloc (.cells #[.int .i64 8, .int .i64 n, .int .i64 m, .bool oth, .string s, .int .u32 x, .int .u64 y] 44)).cell? ⟨w.heap.size, 2, none⟩ = some (.int .i64 m) := cellOf (heap_alloc_new w _) 2
  have x4 : (w.alloc (.cells #[.int .i64 8, .int .i64 n, .int .i64 m, .bool oth, .string s, .int .u32 x, .int .u64 y] 44)).cell? ⟨w.heap.size, 4, none⟩ = some (.string s) := cellOf (heap_alloc_new w _) 4
  have hlt : w.heap.size < (w.alloc (.cells #[.int .i64 8, .int .i64 n, .int .i64 m, .bool oth, .string s, .int .u32 x, .int .u64 y] 44)).heap.size := by simp
  generalize w.alloc (.cells #[.int .i64 8, .int .i64 n, .int .i64 m, .bool oth, .string s, .int .u32 x, .int .u64 y] 44) = W at *
  have hnF : ¬ F w.heap.size := fun hk => Nat.lt_irrefl _ (HL.out _ hk)
  go_region_held3 (fun w' => w'.cell? ⟨w.heap.size, 1, none⟩ = some (.int .i64 n) ∧ w'.cell? ⟨w.heap.size, 2, none⟩ = some (.int .i64 m) ∧ w'.cell? ⟨w.heap.size, 4, none⟩ = some (.string s)) (first | exact ⟨x1, x2, x4⟩) (first | (go_at_call 96; refine (within_any _ _ _ hn (by decide)).mono ?_; rintro e w1 ⟨rfl, rfl⟩) | (go_at_call 47; refine (WOpaque_any _ _ _ (H0.out.heap (w' := W.drew) rfl) (.inl (by have := Hs.out; omega))).mono ?_; rintro e w' ⟨rfl, hfr, hw'⟩; have hfr : Fr F W w' := ⟨hfr.os, hfr.tape, hfr.output, hfr.size, hfr.block⟩; (try rw [hsum] at hw'); have hw' : Wr w' (Gw F W w') b (st.opq (s.size + withinM n 9) s) := hw'; have x1 := hfr.cellk hlt hnF x1; have x2 := hfr.cellk hlt hnF x2; have x4 := hfr.cellk hlt hnF x4))
  all_goals
    go_end0
    exact ⟨rfl, HF0.out.trans hfr, hw'.late HF0.out.size HL.out hfr.size⟩

set_option maxRecDepth 100000 in
set_option maxHeartbeats 2000000 in
theorem puts_9 {F : Nat → Prop} {b : Nat} {st : WSt} (n m : Int) (oth : Bool) (s : ByteArray) (x y : Nat) (w : World) (h : Wr w F b st) (hn : -9223372036854775808 ≤ n ∧ n ≤ 9223372036854775807) (hm : -9223372036854775808 ≤ m ∧ m ≤ 9223372036854775807) (hx : x < 4294967296) (hy : y < 18446744073709551616) (hs : st.out.size + s.size + 24 ≤ 140737488355300) :
    Calls Tryz.prog 27 #[.pointer (some ⟨b, 0, none⟩), .agg (opCells ⟨9, n, m, oth, s, x, y⟩)] w fun r w' => r = .returned (.tuple #[]) ∧ Fr F w w' ∧ Wr w' (Gw F w w') b (st.count (wordM n) (withinM m (wordM n + 1))) := by
  have Hs := Lib.hid hs
  have h0 : Wr (w.alloc (.cells #[.int .i64 9, .int .i64 n, .int .i64 m, .bool oth, .string s, .int .u32 x, .int .u64 y] 44)) F b st := h.below ((Below.refl _ _).alloc (Nat.le_refl _) _)
  have hF0 : Fr F w (w.alloc (.cells #[.int .i64 9, .int .i64 n, .int .i64 m, .bool oth, .string s, .int .u32 x, .int .u64 y] 44)) := (Fr.refl _ _).alloc _
  have H0 := Lib.hid h0
  have HF0 := Lib.hid hF0
  have HL := Lib.hid h.low
  have hb := wordM_bound n
  have hsum : IntKind.i64.wrap (wordM n + 1) = wordM n + 1 := by rw [IntKind.wrap_i64]; omega
  unfold opCells
  clear hs h h0 hF0
  go_enter Tryz.func27, Tryz.ntmps27
  go_wp2
  have x1 : (w.alloc (.cells #[.int .i64 9, .int .i64 n, .int .i64 m, .bool oth, .string s, .int .u32 x, .int .u64 y] 44)).cell? ⟨w.heap.size, 1, none⟩ = some (.int .i64 n) := cellOf (heap_alloc_new w _) 1
  have x2 : (w.alloc (.cells #[.int .i64 9, .int .i64 n, .int .i64 m, .bool oth, .string s, .int .u32 x, .int .u64 y] 44)).cell? ⟨w.heap.size, 2, none⟩ = some (.int .i64 m) := cellOf (heap_alloc_new w _) 2
  have x4 : (w.alloc (.cells #[.int .i64 9, .int .i64 n, .int .i64 m, .bool oth, .string s, .int .u32 x, .int .u64 y] 44)).cell? ⟨w.heap.size, 4, none⟩ = some (.string s) := cellOf (heap_alloc_new w _) 4
  have hlt : w.heap.size < (w.alloc (.cells #[.int .i64 9, .int .i64 n, .int .i64 m, .bool oth, .string s, .int .u32 x, .int .u64 y] 44)).heap.size := by simp
  generalize w.alloc (.cells #[.int .i64 9, .int .i64 n, .int .i64 m, .bool oth, .string s, .int .u32 x, .int .u64 y] 44) = W at *
  have hnF : ¬ F w.heap.size := fun hk => Nat.lt_irrefl _ (HL.out _ hk)
  go_region_held3 (fun w' => w'.cell? ⟨w.heap.size, 1, none⟩ = some (.int .i64 n) ∧ w'.cell? ⟨w.heap.size, 2, none⟩ = some (.int .i64 m) ∧ w'.cell? ⟨w.heap.size, 4, none⟩ = some (.string s)) (first | exact ⟨x1, x2, x4⟩) (first | (go_at_call 95; refine (word_any _ _).mono ?_; rintro e w1 ⟨rfl, rfl⟩) | (go_at_call 96; refine (within_any _ _ _ hm (by omega)).mono ?_; rintro e w1 ⟨rfl, rfl⟩) | (go_at_call 66; refine (WCount_any _ _ _ (H0.out.heap (w' := W.drew) rfl) (by have := Hs.out; omega)).mono ?_; rintro e w' ⟨rfl, hfr, hw'⟩; have hfr : Fr F W w' := ⟨hfr.os, hfr.tape, hfr.output, hfr.size, hfr.block⟩; (try rw [hsum] at hw'); have hw' : Wr w' (Gw F W w') b (st.count (wordM n) (withinM m (wordM n + 1))) := hw'; have x1 := hfr.cellk hlt hnF x1; have x2 := hfr.cellk hlt hnF x2; have x4 := hfr.cellk hlt hnF x4))
  all_goals
    go_end0
    exact ⟨rfl, HF0.out.trans hfr, hw'.late HF0.out.size HL.out hfr.size⟩

set_option maxRecDepth 100000 in
theorem puts_no {F : Nat → Prop} {b : Nat} {st : WSt} (k n m : Int) (oth : Bool) (s : ByteArray) (x y : Nat) (w : World) (h : Wr w F b st) (k1 : k ≠ 1) (k2 : k ≠ 2) (k3 : k ≠ 3) (k4 : k ≠ 4) (k5 : k ≠ 5) (k6 : k ≠ 6) (k7 : k ≠ 7) (k8 : k ≠ 8) (k9 : k ≠ 9) :
    Calls Tryz.prog 27 #[.pointer (some ⟨b, 0, none⟩), .agg (opCells ⟨k, n, m, oth, s, x, y⟩)] w fun r w' => r = .returned (.tuple #[]) ∧ Fr F w w' ∧ Wr w' (Gw F w w') b st := by
  have h0 : Wr (w.alloc (.cells #[.int .i64 k, .int .i64 n, .int .i64 m, .bool oth, .string s, .int .u32 x, .int .u64 y] 44)) F b st := h.below ((Below.refl _ _).alloc (Nat.le_refl _) _)
  have hF0 : Fr F w (w.alloc (.cells #[.int .i64 k, .int .i64 n, .int .i64 m, .bool oth, .string s, .int .u32 x, .int .u64 y] 44)) := (Fr.refl _ _).alloc _
  have H0 := Lib.hid h0
  have HF0 := Lib.hid hF0
  unfold opCells
  clear h h0 hF0
  go_enter Tryz.func27, Tryz.ntmps27
  go_wp2
  go_end0
  exact ⟨rfl, HF0.out, H0.out.gw⟩

/-- puts -/
theorem puts_any {F : Nat → Prop} {b : Nat} {st : WSt} (o : OpM) (ho : o.Is) (w : World) (h : Wr w F b st) (hs : st.out.size + o.s.size + 24 ≤ 140737488355300) :
    Calls Tryz.prog 27 #[.pointer (some ⟨b, 0, none⟩), .agg (opCells o)] w fun r w' => r = .returned (.tuple #[]) ∧ Fr F w w' ∧ Wr w' (Gw F w w') b (st.puts o) := by
  obtain ⟨hn, hm, hx, hy, _⟩ := ho
  obtain ⟨k, n, m, oth, s, x, y⟩ := o
  by_cases k1 : k = 1
  · subst k1
    have hp := puts_1 n m oth s x y w h hn hm hx hy hs
    simpa only [WSt.puts, if_true, if_false, Int.reduceEq] using hp
  by_cases k2 : k = 2
  · subst k2
    have hp := puts_2 n m oth s x y w h hn hm hx hy hs
    simpa only [WSt.puts, if_true, if_false, Int.reduceEq] using hp
  by_cases k3 : k = 3
  · subst k3
    have hp := puts_3 n m oth s x y w h hn hm hx hy hs
    simpa only [WSt.puts, if_true, if_false, Int.reduceEq] using hp
  by_cases k4 : k = 4
  · subst k4
    have hp := puts_4 n m oth s x y w h hn hm hx hy hs
    simpa only [WSt.puts, if_true, if_false, Int.reduceEq] using hp
  by_cases k5 : k = 5
  · subst k5
    have hp := puts_5 n m oth s x y w h hn hm hx hy hs
    simpa only [WSt.puts, if_true, if_false, Int.reduceEq] using hp
  by_cases k6 : k = 6
  · subst k6
    have hp := puts_6 n m oth s x y w h hn hm hx hy hs
    simpa only [WSt.puts, if_true, if_false, Int.reduceEq] using hp
  by_cases k7 : k = 7
  · subst k7
    have hp := puts_7 n m oth s x y w h hn hm hx hy hs
    simpa only [WSt.puts, if_true, if_false, Int.reduceEq] using hp
  by_cases k8 : k = 8
  · subst k8
    have hp := puts_8 n m oth s x y w h hn hm hx hy hs
    simpa only [WSt.puts, if_true, if_false, Int.reduceEq] using hp
  by_cases k9 : k = 9
  · subst k9
    have hp := puts_9 n m oth s x y w h hn hm hx hy hs
    simpa only [WSt.puts, if_true, if_false, Int.reduceEq] using hp
  have hp := puts_no k n m oth s x y w h k1 k2 k3 k4 k5 k6 k7 k8 k9
  have e : st.puts ⟨k, n, m, oth, s, x, y⟩ = st := by unfold WSt.puts; simp only [if_neg k1, if_neg k2, if_neg k3, if_neg k4, if_neg k5, if_neg k6, if_neg k7, if_neg k8, if_neg k9]
  rw [e]
  exact hp

end Go.Proofs.YtlcjfafmmoncpaaGreatDoor
