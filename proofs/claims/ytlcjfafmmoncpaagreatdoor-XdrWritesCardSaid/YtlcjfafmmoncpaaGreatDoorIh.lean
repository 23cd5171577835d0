/- A call of both Writers, the program's and the document's. -/
import Derived.Test.YtlcjfafmmoncpaaGreatDoorIg
import Derived.Deep.RegionHeld3
namespace Go.Proofs.YtlcjfafmmoncpaaGreatDoor
open Go.RowKit
set_option linter.unusedVariables false
set_option linter.unusedSimpArgs false

/-- the bytes of a fixed text that a call asks for. -/
def sizeM (n : Int) (s : ByteArray) : Int := if n = -7 then s.size else n
def WSt.writes (st : WSt) (o : OpM) : WSt :=
  if o.kind = 1 then st.int o.n
  else if o.kind = 2 then st.uint o.n
  else if o.kind = 3 then st.hyper o.n
  else if o.kind = 4 then st.bool (oddM o.n)
  else if o.kind = 5 then st.float o.single
  else if o.kind = 6 then st.double o.double
  else if o.kind = 7 then st.fixed (sizeM o.n o.s) o.s
  else if o.kind = 8 then st.opq o.n o.s
  else if o.kind = 9 then st.count o.n o.m
  else if o.kind = 10 then st.raw o.s
  else if o.kind = 11 then st.fail o.n
  else st
/-- both Writers beside each other, alike. -/
structure Wy (w : World) (F : Nat → Prop) (b c : Nat) (st : WSt) : Prop where
  wr : Wr w F b st
  rw : RWx w c st
  ne : ¬ F c
theorem Wy.fr {w w' : World} {F S : Nat → Prop} {b c : Nat} {st : WSt} (h : Wy w F b c st) (hf : Fr S w w') (hF : ∀ k, F k → ¬ S k) (hc : ¬ S c) : Wy w' F b c st :=
  ⟨h.wr.fr hf hF, h.rw.fr hf hc, h.ne⟩
theorem Wy.both {w W w1 w2 : World} {F : Nat → Prop} {b c : Nat} {st st' : WSt} (h : Wy w F b c st) (hA : Fr (fun _ => False) w W) (hf1 : Fr F W w1) (hw1 : Wr w1 (Gw F W w1) b st') (hf2 : Fr (fun k => k = c) w1 w2) (hx2 : RWx w2 c st') :
    Fr (fun k => F k ∨ k = c) w w2 ∧ Wy w2 (Gw F w w2) b c st' := by
  have l1 := hA.size
  have l2 := hf1.size
  have l3 := hf2.size
  have lc := h.rw.lt
  refine ⟨((hA.mono (fun _ _ h => h.elim)).trans (hf1.mono (fun k _ h => .inl h))).trans (hf2.mono (fun k _ h => .inr h)), ⟨?_, hx2, ?_⟩⟩
  · refine (hw1.fr hf2 (fun g hg e => ?_)).mono (fun k hk => ?_) (fun k hk => ?_)
    · subst e
      rcases hg with hg | hg
      · exact h.ne hg
      · omega
    · rcases hk with hk | hk
      · exact .inl hk
      · exact .inr ⟨by omega, by omega⟩
    · rcases hk with hk | hk
      · exact Nat.lt_of_lt_of_le (h.wr.low k hk) (by omega)
      · exact hk.2
  · intro hk
    rcases hk with hk | hk
    · exact h.ne hk
    · omega

set_option maxRecDepth 100000 in
theorem size_any (k n m : Int) (oth : Bool) (s : ByteArray) (x y : Nat) (w : World) (hs : s.size ≤ 140737488351232) : Calls Tryz.prog 63 #[.agg (opCells ⟨k, n, m, oth, s, x, y⟩)] w fun r w' => r = .returned (.int .i64 (sizeM n s)) ∧ Fr (fun _ => False) w w' := by
  unfold sizeM opCells
  by_cases h : n = -7
  · rw [if_pos h]
    subst h
    go_enter Tryz.func63, Tryz.ntmps63
    go_wp2
    go_ret
    exact ⟨rfl, (Fr.refl _ _).alloc _⟩
  · rw [if_neg h]
    have hn : (n == -7) = false := by simpa using h
    clear h
    go_enter Tryz.func63, Tryz.ntmps63
    go_wp2
    go_ret
    exact ⟨rfl, (Fr.refl _ _).alloc _⟩

set_option maxRecDepth 100000 in
set_option maxHeartbeats 2000000 in
theorem writes_1 {F : Nat → Prop} {b c : Nat} {st : WSt} (n m : Int) (oth : Bool) (s : ByteArray) (x y : Nat) (w : World) (h : Wy w F b c st) (hx : x < 4294967296) (hy : y < 18446744073709551616) (hs : st.out.size + s.size + 24 ≤ 140737488351232) :
    Calls Tryz.prog 15 #[.pointer (some ⟨b, 0, none⟩), .pointer (some ⟨c, 0, none⟩), .agg (opCells ⟨1, n, m, oth, s, x, y⟩)] w fun r w' => r = .returned (.tuple #[]) ∧ Fr (fun k => F k ∨ k = c) w w' ∧ Wy w' (Gw F w w') b c (st.int n) := by
  have Hs := Lib.hid hs
  have HY := Lib.hid h
  have hnF : ¬ F w.heap.size := fun hk => Nat.lt_irrefl _ (h.wr.low _ hk)
  have hnc : w.heap.size ≠ c := fun e => by have := h.rw.lt; omega
  have HN := Lib.hid (And.intro hnF hnc)
  have H0 := Lib.hid (h.fr ((Fr.refl (fun _ => False) w).alloc (.cells #[.int .i64 1, .int .i64 n, .int .i64 m, .bool oth, .string s, .int .u32 x, .int .u64 y] 44)) (fun _ _ => id) id)
  have HA := Lib.hid ((Fr.refl (fun _ => False) w).alloc (.cells #[.int .i64 1, .int .i64 n, .int .i64 m, .bool oth, .string s, .int .u32 x, .int .u64 y] 44))
  have hlt : w.heap.size < (w.alloc (.cells #[.int .i64 1, .int .i64 n, .int .i64 m, .bool oth, .string s, .int .u32 x, .int .u64 y] 44)).heap.size := by simp
  have HLT := Lib.hid hlt
  have X1 := Lib.hid (show (w.alloc (.cells #[.int .i64 1, .int .i64 n, .int .i64 m, .bool oth, .string s, .int .u32 x, .int .u64 y] 44)).cell? ⟨w.heap.size, 1, none⟩ = some (.int .i64 n) from cellOf (heap_alloc_new w _) 1)
  unfold opCells
  clear hs h hnF hnc hlt
  go_enter Tryz.func15, Tryz.ntmps15
  go_wp2_with fail
  generalize w.alloc (.cells #[.int .i64 1, .int .i64 n, .int .i64 m, .bool oth, .string s, .int .u32 x, .int .u64 y] 44) = W at *
  refine (WInt_any n W H0.out.wr (by have := Hs.out; omega)).mono ?_
  rintro e w1 ⟨rfl, hf1, hw1⟩
  have HC1 := Lib.hid (H0.out.rw.fr hf1 HY.out.ne)
  have x1 := hf1.cellk HLT.out HN.out.1 X1.out
  go_wp2_with fail
  refine (xInt_any n w1 HC1.out (by have := Hs.out; omega)).mono ?_
  rintro e w2 ⟨rfl, hf2, hx2⟩
  go_wp2_with fail
  go_end0
  exact ⟨rfl, HY.out.both HA.out hf1 hw1 hf2 hx2⟩

set_option maxRecDepth 100000 in
set_option maxHeartbeats 2000000 in
theorem writes_2 {F : Nat → Prop} {b c : Nat} {st : WSt} (n m : Int) (oth : Bool) (s : ByteArray) (x y : Nat) (w : World) (h : Wy w F b c st) (hx : x < 4294967296) (hy : y < 18446744073709551616) (hs : st.out.size + s.size + 24 ≤ 140737488351232) :
    Calls Tryz.prog 15 #[.pointer (some ⟨b, 0, none⟩), .pointer (some ⟨c, 0, none⟩), .agg (opCells ⟨2, n, m, oth, s, x, y⟩)] w fun r w' => r = .returned (.tuple #[]) ∧ Fr (fun k => F k ∨ k = c) w w' ∧ Wy w' (Gw F w w') b c (st.uint n) := by
  have Hs := Lib.hid hs
  have HY := Lib.hid h
  have hnF : ¬ F w.heap.size := fun hk => Nat.lt_irrefl _ (h.wr.low _ hk)
  have hnc : w.heap.size ≠ c := fun e => by have := h.rw.lt; omega
  have HN := Lib.hid (And.intro hnF hnc)
  have H0 := Lib.hid (h.fr ((Fr.refl (fun _ => False) w).alloc (.cells #[.int .i64 2, .int .i64 n, .int .i64 m, .bool oth, .string s, .int .u32 x, .int .u64 y] 44)) (fun _ _ => id) id)
  have HA := Lib.hid ((Fr.refl (fun _ => False) w).alloc (.cells #[.int .i64 2, .int .i64 n, .int .i64 m, .bool oth, .string s, .int .u32 x, .int .u64 y] 44))
  have hlt : w.heap.size < (w.alloc (.cells #[.int .i64 2, .int .i64 n, .int .i64 m, .bool oth, .string s, .int .u32 x, .int .u64 y] 44)).heap.size := by simp
  have HLT := Lib.hid hlt
  have X1 := Lib.hid (show (w.alloc (.cells #[.int .i64 2, .int .i64 n, .int .i64 m, .bool oth, .string s, .int .u32 x, .int .u64 y] 44)).cell? ⟨w.heap.size, 1, none⟩ = some (.int .i64 n) from cellOf (heap_alloc_new w _) 1)
  unfold opCells
  clear hs h hnF hnc hlt
  go_enter Tryz.func15, Tryz.ntmps15
  go_wp2_with fail
  generalize w.alloc (.cells #[.int .i64 2, .int .i64 n, .int .i64 m, .bool oth, .string s, .int .u32 x, .int .u64 y] 44) = W at *
  refine (WUint_any n W H0.out.wr (by have := Hs.out; omega)).mono ?_
  rintro e w1 ⟨rfl, hf1, hw1⟩
  have HC1 := Lib.hid (H0.out.rw.fr hf1 HY.out.ne)
  have x1 := hf1.cellk HLT.out HN.out.1 X1.out
  go_wp2_with fail
  refine (xUint_any n w1 HC1.out (by have := Hs.out; omega)).mono ?_
  rintro e w2 ⟨rfl, hf2, hx2⟩
  go_wp2_with fail
  go_end0
  exact ⟨rfl, HY.out.both HA.out hf1 hw1 hf2 hx2⟩

set_option maxRecDepth 100000 in
set_option maxHeartbeats 2000000 in
theorem writes_3 {F : Nat → Prop} {b c : Nat} {st : WSt} (n m : Int) (oth : Bool) (s : ByteArray) (x y : Nat) (w : World) (h : Wy w F b c st) (hx : x < 4294967296) (hy : y < 18446744073709551616) (hs : st.out.size + s.size + 24 ≤ 140737488351232) :
    Calls Tryz.prog 15 #[.pointer (some ⟨b, 0, none⟩), .pointer (some ⟨c, 0, none⟩), .agg (opCells ⟨3, n, m, oth, s, x, y⟩)] w fun r w' => r = .returned (.tuple #[]) ∧ Fr (fun k => F k ∨ k = c) w w' ∧ Wy w' (Gw F w w') b c (st.hyper n) := by
  have Hs := Lib.hid hs
  have HY := Lib.hid h
  have hnF : ¬ F w.heap.size := fun hk => Nat.lt_irrefl _ (h.wr.low _ hk)
  have hnc : w.heap.size ≠ c := fun e => by have := h.rw.lt; omega
  have HN := Lib.hid (And.intro hnF hnc)
  have H0 := Lib.hid (h.fr ((Fr.refl (fun _ => False) w).alloc (.cells #[.int .i64 3, .int .i64 n, .int .i64 m, .bool oth, .string s, .int .u32 x, .int .u64 y] 44)) (fun _ _ => id) id)
  have HA := Lib.hid ((Fr.refl (fun _ => False) w).alloc (.cells #[.int .i64 3, .int .i64 n, .int .i64 m, .bool oth, .string s, .int .u32 x, .int .u64 y] 44))
  have hlt : w.heap.size < (w.alloc (.cells #[.int .i64 3, .int .i64 n, .int .i64 m, .bool oth, .string s, .int .u32 x, .int .u64 y] 44)).heap.size := by simp
  have HLT := Lib.hid hlt
  have X1 := Lib.hid (show (w.alloc (.cells #[.int .i64 3, .int .i64 n, .int .i64 m, .bool oth, .string s, .int .u32 x, .int .u64 y] 44)).cell? ⟨w.heap.size, 1, none⟩ = some (.int .i64 n) from cellOf (heap_alloc_new w _) 1)
  unfold opCells
  clear hs h hnF hnc hlt
  go_enter Tryz.func15, Tryz.ntmps15
  go_wp2_with fail
  generalize w.alloc (.cells #[.int .i64 3, .int .i64 n, .int .i64 m, .bool oth, .string s, .int .u32 x, .int .u64 y] 44) = W at *
  refine (WHyper_any n W H0.out.wr (by have := Hs.out; omega)).mono ?_
  rintro e w1 ⟨rfl, hf1, hw1⟩
  have HC1 := Lib.hid (H0.out.rw.fr hf1 HY.out.ne)
  have x1 := hf1.cellk HLT.out HN.out.1 X1.out
  go_wp2_with fail
  refine (xHyper_any n w1 HC1.out (by have := Hs.out; omega)).mono ?_
  rintro e w2 ⟨rfl, hf2, hx2⟩
  go_wp2_with fail
  go_end0
  exact ⟨rfl, HY.out.both HA.out hf1 hw1 hf2 hx2⟩

set_option maxRecDepth 100000 in
set_option maxHeartbeats 2000000 in
theorem writes_4 {F : Nat → Prop} {b c : Nat} {st : WSt} (n m : Int) (oth : Bool) (s : ByteArray) (x y : Nat) (w : World) (h : Wy w F b c st) (hx : x < 4294967296) (hy : y < 18446744073709551616) (hs : st.out.size + s.size + 24 ≤ 140737488351232) :
    Calls Tryz.prog 15 #[.pointer (some ⟨b, 0, none⟩), .pointer (some ⟨c, 0, none⟩), .agg (opCells ⟨4, n, m, oth, s, x, y⟩)] w fun r w' => r = .returned (.tuple #[]) ∧ Fr (fun k => F k ∨ k = c) w w' ∧ Wy w' (Gw F w w') b c (st.bool (oddM n)) := by
  have Hs := Lib.hid hs
  have HY := Lib.hid h
  have hnF : ¬ F w.heap.size := fun hk => Nat.lt_irrefl _ (h.wr.low _ hk)
  have hnc : w.heap.size ≠ c := fun e => by have := h.rw.lt; omega
  have HN := Lib.hid (And.intro hnF hnc)
  have H0 := Lib.hid (h.fr ((Fr.refl (fun _ => False) w).alloc (.cells #[.int .i64 4, .int .i64 n, .int .i64 m, .bool oth, .string s, .int .u32 x, .int .u64 y] 44)) (fun _ _ => id) id)
  have HA := Lib.hid ((Fr.refl (fun _ => False) w).alloc (.cells #[.int .i64 4, .int .i64 n, .int .i64 m, .bool oth, .string s, .int .u32 x, .int .u64 y] 44))
  have hlt : w.heap.size < (w.alloc (.cells #[.int .i64 4, .int .i64 n, .int .i64 m, .bool oth, .string s, .int .u32 x, .int .u64 y] 44)).heap.size := by simp
  have HLT := Lib.hid hlt
  have X1 := Lib.hid (show (w.alloc (.cells #[.int .i64 4, .int .i64 n, .int .i64 m, .bool oth, .string s, .int .u32 x, .int .u64 y] 44)).cell? ⟨w.heap.size, 1, none⟩ = some (.int .i64 n) from cellOf (heap_alloc_new w _) 1)
  unfold opCells
  unfold oddM
  clear hs h hnF hnc hlt
  go_enter Tryz.func15, Tryz.ntmps15
  go_wp2_with fail
  generalize w.alloc (.cells #[.int .i64 4, .int .i64 n, .int .i64 m, .bool oth, .string s, .int .u32 x, .int .u64 y] 44) = W at *
  refine (WBool_any _ W H0.out.wr (by have := Hs.out; omega)).mono ?_
  rintro e w1 ⟨rfl, hf1, hw1⟩
  have HC1 := Lib.hid (H0.out.rw.fr hf1 HY.out.ne)
  have x1 := hf1.cellk HLT.out HN.out.1 X1.out
  go_wp2_with fail
  refine (xBool_any _ w1 HC1.out (by have := Hs.out; omega)).mono ?_
  rintro e w2 ⟨rfl, hf2, hx2⟩
  go_wp2_with fail
  go_end0
  exact ⟨rfl, HY.out.both HA.out hf1 hw1 hf2 hx2⟩

set_option maxRecDepth 100000 in
set_option maxHeartbeats 2000000 in
theorem writes_5 {F : Nat → Prop} {b c : Nat} {st : WSt} (n m : Int) (oth : Bool) (s : ByteArray) (x y : Nat) (w : World) (h : Wy w F b c st) (hx : x < 4294967296) (hy : y < 18446744073709551616) (hs : st.out.size + s.size + 24 ≤ 140737488351232) :
    Calls Tryz.prog 15 #[.pointer (some ⟨b, 0, none⟩), .pointer (some ⟨c, 0, none⟩), .agg (opCells ⟨5, n, m, oth, s, x, y⟩)] w fun r w' => r = .returned (.tuple #[]) ∧ Fr (fun k => F k ∨ k = c) w w' ∧ Wy w' (Gw F w w') b c (st.float x) := by
  have Hs := Lib.hid hs
  have HY := Lib.hid h
  have hnF : ¬ F w.heap.size := fun hk => Nat.lt_irrefl _ (h.wr.low _ hk)
  have hnc : w.heap.size ≠ c := fun e => by have := h.rw.lt; omega
  have HN := Lib.hid (And.intro hnF hnc)
  have H0 := Lib.hid (h.fr ((Fr.refl (fun _ => False) w).alloc (.cells #[.int .i64 5, .int .i64 n, .int .i64 m, .bool oth, .string s, .int .u32 x, .int .u64 y] 44)) (fun _ _ => id) id)
  have HA := Lib.hid ((Fr.refl (fun _ => False) w).alloc (.cells #[.int .i64 5, .int .i64 n, .int .i64 m, .bool oth, .string s, .int .u32 x, .int .u64 y] 44))
  have hlt : w.heap.size < (w.alloc (.cells #[.int .i64 5, .int .i64 n, .int .i64 m, .bool oth, .string s, .int .u32 x, .int .u64 y] 44)).heap.size := by simp
  have HLT := Lib.hid hlt
  have X5 := Lib.hid (show (w.alloc (.cells #[.int .i64 5, .int .i64 n, .int .i64 m, .bool oth, .string s, .int .u32 x, .int .u64 y] 44)).cell? ⟨w.heap.size, 5, none⟩ = some (.int .u32 x) from cellOf (heap_alloc_new w _) 5)
  unfold opCells
  clear hs h hnF hnc hlt
  go_enter Tryz.func15, Tryz.ntmps15
  go_wp2_with fail
  generalize w.alloc (.cells #[.int .i64 5, .int .i64 n, .int .i64 m, .bool oth, .string s, .int .u32 x, .int .u64 y] 44) = W at *
  have x5 := X5.out
  refine (single_any x W).mono ?_
  rintro e w0 ⟨z, rfl, hz, hw0⟩
  have hf0 := Fr.drawn hw0 (fun _ => False)
  have H00 := Lib.hid (H0.out.fr hf0 (fun _ _ => id) id)
  clear hw0
  go_wp2_with fail
  refine (WFloat_any z w0 H00.out.wr (by rw [hz]; exact bits_lt hx) (by have := Hs.out; omega)).mono ?_
  rintro e w1 ⟨rfl, hf1, hw1⟩
  rw [float_bits hz] at hw1
  have HC1 := Lib.hid (H00.out.rw.fr hf1 HY.out.ne)
  have x5 := hf1.cellk (Nat.lt_of_lt_of_le HLT.out hf0.size) HN.out.1 (hf0.cellk HLT.out id X5.out)
  go_wp2_with fail
  refine (single_any x w1).mono ?_
  rintro e w01 ⟨z2, rfl, hz2, hw01⟩
  have hf01 := Fr.drawn hw01 (fun k => k = c)
  have HC2 := Lib.hid (HC1.out.keep (w' := w01) (by rcases hw01 with rfl | rfl <;> rfl))
  clear hw01
  go_wp2_with fail
  refine (xFloat_any z2 w01 HC2.out (by rw [hz2]; exact bits_lt hx) (by have := Hs.out; omega)).mono ?_
  rintro e w2 ⟨rfl, hf2, hx2⟩
  rw [float_bits hz2] at hx2
  go_wp2_with fail
  go_end0
  exact ⟨rfl, HY.out.both (HA.out.trans hf0) hf1 hw1 (hf01.trans hf2) hx2⟩

set_option maxRecDepth 100000 in
set_option maxHeartbeats 2000000 in
theorem writes_6 {F : Nat → Prop} {b c : Nat} {st : WSt} (n m : Int) (oth : Bool) (s : ByteArray) (x y : Nat) (w : World) (h : Wy w F b c st) (hx : x < 4294967296) (hy : y < 18446744073709551616) (hs : st.out.size + s.size + 24 ≤ 140737488351232) :
    Calls Tryz.prog 15 #[.pointer (some ⟨b, 0, none⟩), .pointer (some ⟨c, 0, none⟩), .agg (opCells ⟨6, n, m, oth, s, x, y⟩)] w fun r w' => r = .returned (.tuple #[]) ∧ Fr (fun k => F k ∨ k = c) w w' ∧ Wy w' (Gw F w w') b c (st.double y) := by
  have Hs := Lib.hid hs
  have HY := Lib.hid h
  have hnF : ¬ F w.heap.size := fun hk => Nat.lt_irrefl _ (h.wr.low _ hk)
  have hnc : w.heap.size ≠ c := fun e => by have := h.rw.lt; omega
  have HN := Lib.hid (And.intro hnF hnc)
  have H0 := Lib.hid (h.fr ((Fr.refl (fun _ => False) w).alloc (.cells #[.int .i64 6, .int .i64 n, .int .i64 m, .bool oth, .string s, .int .u32 x, .int .u64 y] 44)) (fun _ _ => id) id)
  have HA := Lib.hid ((Fr.refl (fun _ => False) w).alloc (.cells #[.int .i64 6, .int .i64 n, .int .i64 m, .bool oth, .string s, .int .u32 x, .int .u64 y] 44))
  have hlt : w.heap.size < (w.alloc (.cells #[.int .i64 6, .int .i64 n, .int .i64 m, .bool oth, .string s, .int .u32 x, .int .u64 y] 44)).heap.size := by simp
  have HLT := Lib.hid hlt
  have X6 := Lib.hid (show (w.alloc (.cells #[.int .i64 6, .int .i64 n, .int .i64 m, .bool oth, .string s, .int .u32 x, .int .u64 y] 44)).cell? ⟨w.heap.size, 6, none⟩ = some (.int .u64 y) from cellOf (heap_alloc_new w _) 6)
  unfold opCells
  clear hs h hnF hnc hlt
  go_enter Tryz.func15, Tryz.ntmps15
  go_wp2_with fail
  generalize w.alloc (.cells #[.int .i64 6, .int .i64 n, .int .i64 m, .bool oth, .string s, .int .u32 x, .int .u64 y] 44) = W at *
  have x6 := X6.out
  refine (double_any y W).mono ?_
  rintro e w0 ⟨z, rfl, hz, hw0⟩
  have hf0 := Fr.drawn hw0 (fun _ => False)
  have H00 := Lib.hid (H0.out.fr hf0 (fun _ _ => id) id)
  clear hw0
  go_wp2_with fail
  refine (WDouble_any z w0 H00.out.wr (by rw [hz]; exact bits_lt hy) (by have := Hs.out; omega)).mono ?_
  rintro e w1 ⟨rfl, hf1, hw1⟩
  rw [double_bits hz] at hw1
  have HC1 := Lib.hid (H00.out.rw.fr hf1 HY.out.ne)
  have x6 := hf1.cellk (Nat.lt_of_lt_of_le HLT.out hf0.size) HN.out.1 (hf0.cellk HLT.out id X6.out)
  go_wp2_with fail
  refine (double_any y w1).mono ?_
  rintro e w01 ⟨z2, rfl, hz2, hw01⟩
  have hf01 := Fr.drawn hw01 (fun k => k = c)
  have HC2 := Lib.hid (HC1.out.keep (w' := w01) (by rcases hw01 with rfl | rfl <;> rfl))
  clear hw01
  go_wp2_with fail
  refine (xDouble_any z2 w01 HC2.out (by rw [hz2]; exact bits_lt hy) (by have := Hs.out; omega)).mono ?_
  rintro e w2 ⟨rfl, hf2, hx2⟩
  rw [double_bits hz2] at hx2
  go_wp2_with fail
  go_end0
  exact ⟨rfl, HY.out.both (HA.out.trans hf0) hf1 hw1 (hf01.trans hf2) hx2⟩

set_option maxRecDepth 100000 in
set_option maxHeartbeats 2000000 in
theorem writes_7 {F : Nat → Prop} {b c : Nat} {st : WSt} (n m : Int) (oth : Bool) (s : ByteArray) (x y : Nat) (w : World) (h : Wy w F b c st) (hx : x < 4294967296) (hy : y < 18446744073709551616) (hs : st.out.size + s.size + 24 ≤ 140737488351232) :
    Calls Tryz.prog 15 #[.pointer (some ⟨b, 0, none⟩), .pointer (some ⟨c, 0, none⟩), .agg (opCells ⟨7, n, m, oth, s, x, y⟩)] w fun r w' => r = .returned (.tuple #[]) ∧ Fr (fun k => F k ∨ k = c) w w' ∧ Wy w' (Gw F w w') b c (st.fixed (sizeM n s) s) := by
  have Hs := Lib.hid hs
  have HY := Lib.hid h
  have hnF : ¬ F w.heap.size := fun hk => Nat.lt_irrefl _ (h.wr.low _ hk)
  have hnc : w.heap.size ≠ c := fun e => by have := h.rw.lt; omega
  have HN := Lib.hid (And.intro hnF hnc)
  have H0 := Lib.hid (h.fr ((Fr.refl (fun _ => False) w).alloc (.cells #[.int .i64 7, .int .i64 n, .int .i64 m, .bool oth, .string s, .int .u32 x, .int .u64 y] 44)) (fun _ _ => id) id)
  have HA := Lib.hid ((Fr.refl (fun _ => False) w).alloc (.cells #[.int .i64 7, .int .i64 n, .int .i64 m, .bool oth, .string s, .int .u32 x, .int .u64 y] 44))
  have hlt : w.heap.size < (w.alloc (.cells #[.int .i64 7, .int .i64 n, .int .i64 m, .bool oth, .string s, .int .u32 x, .int .u64 y] 44)).heap.size := by simp
  have HLT := Lib.hid hlt
  have X0 := Lib.hid (show (w.alloc (.cells #[.int .i64 7, .int .i64 n, .int .i64 m, .bool oth, .string s, .int .u32 x, .int .u64 y] 44)).cell? ⟨w.heap.size, 0, none⟩ = some (.int .i64 7) from cellOf (heap_alloc_new w _) 0)
  have X1 := Lib.hid (show (w.alloc (.cells #[.int .i64 7, .int .i64 n, .int .i64 m, .bool oth, .string s, .int .u32 x, .int .u64 y] 44)).cell? ⟨w.heap.size, 1, none⟩ = some (.int .i64 n) from cellOf (heap_alloc_new w _) 1)
  have X2 := Lib.hid (show (w.alloc (.cells #[.int .i64 7, .int .i64 n, .int .i64 m, .bool oth, .string s, .int .u32 x, .int .u64 y] 44)).cell? ⟨w.heap.size, 2, none⟩ = some (.int .i64 m) from cellOf (heap_alloc_new w _) 2)
  have X3 := Lib.hid (show (w.alloc (.cells #[.int .i64 7, .int .i64 n, .int .i64 m, .bool oth, .string s, .int .u32 x, .int .u64 y] 44)).cell? ⟨w.heap.size, 3, none⟩ = some (.bool oth) from cellOf (heap_alloc_new w _) 3)
  have X4 := Lib.hid (show (w.alloc (.cells #[.int .i64 7, .int .i64 n, .int .i64 m, .bool oth, .string s, .int .u32 x, .int .u64 y] 44)).cell? ⟨w.heap.size, 4, none⟩ = some (.string s) from cellOf (heap_alloc_new w _) 4)
  have X5 := Lib.hid (show (w.alloc (.cells #[.int .i64 7, .int .i64 n, .int .i64 m, .bool oth, .string s, .int .u32 x, .int .u64 y] 44)).cell? ⟨w.heap.size, 5, none⟩ = some (.int .u32 x) from cellOf (heap_alloc_new w _) 5)
  have X6 := Lib.hid (show (w.alloc (.cells #[.int .i64 7, .int .i64 n, .int .i64 m, .bool oth, .string s, .int .u32 x, .int .u64 y] 44)).cell? ⟨w.heap.size, 6, none⟩ = some (.int .u64 y) from cellOf (heap_alloc_new w _) 6)
  unfold opCells
  have hsz : s.size ≤ 140737488351232 := by have := Hs.out; omega
  clear hs h hnF hnc hlt
  go_enter Tryz.func15, Tryz.ntmps15
  go_wp2_with fail
  generalize w.alloc (.cells #[.int .i64 7, .int .i64 n, .int .i64 m, .bool oth, .string s, .int .u32 x, .int .u64 y] 44) = W at *
  have x0 := X0.out
  have x1 := X1.out
  have x2 := X2.out
  have x3 := X3.out
  have x4 := X4.out
  have x5 := X5.out
  have x6 := X6.out
  go_region_held3 (fun w' => w'.cell? ⟨w.heap.size, 0, none⟩ = some (.int .i64 7) ∧ w'.cell? ⟨w.heap.size, 1, none⟩ = some (.int .i64 n) ∧ w'.cell? ⟨w.heap.size, 2, none⟩ = some (.int .i64 m) ∧ w'.cell? ⟨w.heap.size, 3, none⟩ = some (.bool oth) ∧ w'.cell? ⟨w.heap.size, 4, none⟩ = some (.string s) ∧ w'.cell? ⟨w.heap.size, 5, none⟩ = some (.int .u32 x) ∧ w'.cell? ⟨w.heap.size, 6, none⟩ = some (.int .u64 y)) (first | exact ⟨x0, x1, x2, x3, x4, x5, x6⟩) (first | (go_at_call 63; refine (size_any 7 n m oth s x y _ hsz).mono ?_; rintro e ws ⟨rfl, hfs⟩; have hfs : Fr (fun _ => False) W ws := ⟨hfs.os, hfs.tape, hfs.output, hfs.size, hfs.block⟩; have Hws := Lib.hid (H0.out.fr hfs (fun _ _ => id) id); have x0 := hfs.cellk HLT.out id X0.out; have x1 := hfs.cellk HLT.out id X1.out; have x2 := hfs.cellk HLT.out id X2.out; have x3 := hfs.cellk HLT.out id X3.out; have x4 := hfs.cellk HLT.out id X4.out; have x5 := hfs.cellk HLT.out id X5.out; have x6 := hfs.cellk HLT.out id X6.out) | (go_at_call 46; refine (WFixed_any _ _ _ Hws.out.wr (by have := Hs.out; omega)).mono ?_; rintro e w1 ⟨rfl, hf1, hw1⟩; have x0 := hf1.cellk (Nat.lt_of_lt_of_le HLT.out hfs.size) HN.out.1 x0; have x1 := hf1.cellk (Nat.lt_of_lt_of_le HLT.out hfs.size) HN.out.1 x1; have x2 := hf1.cellk (Nat.lt_of_lt_of_le HLT.out hfs.size) HN.out.1 x2; have x3 := hf1.cellk (Nat.lt_of_lt_of_le HLT.out hfs.size) HN.out.1 x3; have x4 := hf1.cellk (Nat.lt_of_lt_of_le HLT.out hfs.size) HN.out.1 x4; have x5 := hf1.cellk (Nat.lt_of_lt_of_le HLT.out hfs.size) HN.out.1 x5; have x6 := hf1.cellk (Nat.lt_of_lt_of_le HLT.out hfs.size) HN.out.1 x6))
  all_goals
    have HC1 := Lib.hid (Hws.out.rw.fr hf1 HY.out.ne)
    have HLT1 := Lib.hid (Nat.lt_of_lt_of_le (Nat.lt_of_lt_of_le HLT.out hfs.size) hf1.size)
    clear X0 X1 X2 X3 X4 X5 X6
    have X0 := Lib.hid x0
    have X1 := Lib.hid x1
    have X2 := Lib.hid x2
    have X3 := Lib.hid x3
    have X4 := Lib.hid x4
    have X5 := Lib.hid x5
    have X6 := Lib.hid x6
    have HS := Lib.hid (And.intro hfs (And.intro hf1 hw1))
    clear hfs hf1 hw1 Hws
    go_wp2_with fail
    go_region_held3 (fun w' => w'.cell? ⟨w.heap.size, 0, none⟩ = some (.int .i64 7) ∧ w'.cell? ⟨w.heap.size, 1, none⟩ = some (.int .i64 n) ∧ w'.cell? ⟨w.heap.size, 2, none⟩ = some (.int .i64 m) ∧ w'.cell? ⟨w.heap.size, 3, none⟩ = some (.bool oth) ∧ w'.cell? ⟨w.heap.size, 4, none⟩ = some (.string s) ∧ w'.cell? ⟨w.heap.size, 5, none⟩ = some (.int .u32 x) ∧ w'.cell? ⟨w.heap.size, 6, none⟩ = some (.int .u64 y)) (first | exact ⟨x0, x1, x2, x3, x4, x5, x6⟩) (first | (go_at_call 63; refine (size_any 7 n m oth s x y _ hsz).mono ?_; rintro e wt ⟨rfl, hft⟩; have hft : Fr (fun _ => False) w1 wt := ⟨hft.os, hft.tape, hft.output, hft.size, hft.block⟩; have Hwt := Lib.hid (HC1.out.fr hft id); have x0 := hft.cellk HLT1.out id X0.out; have x1 := hft.cellk HLT1.out id X1.out; have x2 := hft.cellk HLT1.out id X2.out; have x3 := hft.cellk HLT1.out id X3.out; have x4 := hft.cellk HLT1.out id X4.out; have x5 := hft.cellk HLT1.out id X5.out; have x6 := hft.cellk HLT1.out id X6.out) | (go_at_call 64; refine (xFixed_any _ _ _ Hwt.out (by have := Hs.out; omega)).mono ?_; rintro e w2 ⟨rfl, hf2, hx2⟩; have x0 := hf2.cellk (Nat.lt_of_lt_of_le HLT1.out hft.size) HN.out.2 x0; have x1 := hf2.cellk (Nat.lt_of_lt_of_le HLT1.out hft.size) HN.out.2 x1; have x2 := hf2.cellk (Nat.lt_of_lt_of_le HLT1.out hft.size) HN.out.2 x2; have x3 := hf2.cellk (Nat.lt_of_lt_of_le HLT1.out hft.size) HN.out.2 x3; have x4 := hf2.cellk (Nat.lt_of_lt_of_le HLT1.out hft.size) HN.out.2 x4; have x5 := hf2.cellk (Nat.lt_of_lt_of_le HLT1.out hft.size) HN.out.2 x5; have x6 := hf2.cellk (Nat.lt_of_lt_of_le HLT1.out hft.size) HN.out.2 x6))
    all_goals
      go_wp2_with fail
      go_end0
      exact ⟨rfl, HY.out.both (HA.out.trans HS.out.1) HS.out.2.1 HS.out.2.2 ((hft.mono (fun _ _ h => h.elim)).trans hf2) hx2⟩

set_option maxRecDepth 100000 in
set_option maxHeartbeats 2000000 in
theorem writes_8 {F : Nat → Prop} {b c : Nat} {st : WSt} (n m : Int) (oth : Bool) (s : ByteArray) (x y : Nat) (w : World) (h : Wy w F b c st) (hx : x < 4294967296) (hy : y < 18446744073709551616) (hs : st.out.size + s.size + 24 ≤ 140737488351232) :
    Calls Tryz.prog 15 #[.pointer (some ⟨b, 0, none⟩), .pointer (some ⟨c, 0, none⟩), .agg (opCells ⟨8, n, m, oth, s, x, y⟩)] w fun r w' => r = .returned (.tuple #[]) ∧ Fr (fun k => F k ∨ k = c) w w' ∧ Wy w' (Gw F w w') b c (st.opq n s) := by
  have Hs := Lib.hid hs
  have HY := Lib.hid h
  have hnF : ¬ F w.heap.size := fun hk => Nat.lt_irrefl _ (h.wr.low _ hk)
  have hnc : w.heap.size ≠ c := fun e => by have := h.rw.lt; omega
  have HN := Lib.hid (And.intro hnF hnc)
  have H0 := Lib.hid (h.fr ((Fr.refl (fun _ => False) w).alloc (.cells #[.int .i64 8, .int .i64 n, .int .i64 m, .bool oth, .string s, .int .u32 x, .int .u64 y] 44)) (fun _ _ => id) id)
  have HA := Lib.hid ((Fr.refl (fun _ => False) w).alloc (.cells #[.int .i64 8, .int .i64 n, .int .i64 m, .bool oth, .string s, .int .u32 x, .int .u64 y] 44))
  have hlt : w.heap.size < (w.alloc (.cells #[.int .i64 8, .int .i64 n, .int .i64 m, .bool oth, .string s, .int .u32 x, .int .u64 y] 44)).heap.size := by simp
  have HLT := Lib.hid hlt
  have X1 := Lib.hid (show (w.alloc (.cells #[.int .i64 8, .int .i64 n, .int .i64 m, .bool oth, .string s, .int .u32 x, .int .u64 y] 44)).cell? ⟨w.heap.size, 1, none⟩ = some (.int .i64 n) from cellOf (heap_alloc_new w _) 1)
  have X4 := Lib.hid (show (w.alloc (.cells #[.int .i64 8, .int .i64 n, .int .i64 m, .bool oth, .string s, .int .u32 x, .int .u64 y] 44)).cell? ⟨w.heap.size, 4, none⟩ = some (.string s) from cellOf (heap_alloc_new w _) 4)
  unfold opCells
  have hsz : s.size ≤ 140737488351232 := by omega
  clear hs h hnF hnc hlt
  go_enter Tryz.func15, Tryz.ntmps15
  go_wp2_with fail
  generalize w.alloc (.cells #[.int .i64 8, .int .i64 n, .int .i64 m, .bool oth, .string s, .int .u32 x, .int .u64 y] 44) = W at *
  refine (WOpaque_any n s W H0.out.wr (.inl (by have := Hs.out; omega))).mono ?_
  rintro e w1 ⟨rfl, hf1, hw1⟩
  have HC1 := Lib.hid (H0.out.rw.fr hf1 HY.out.ne)
  have x1 := hf1.cellk HLT.out HN.out.1 X1.out
  have x4 := hf1.cellk HLT.out HN.out.1 X4.out
  go_wp2_with fail
  refine (xOpaque_any n s w1 HC1.out (by have := Hs.out; omega)).mono ?_
  rintro e w2 ⟨rfl, hf2, hx2⟩
  go_wp2_with fail
  go_end0
  exact ⟨rfl, HY.out.both HA.out hf1 hw1 hf2 hx2⟩

set_option maxRecDepth 100000 in
set_option maxHeartbeats 2000000 in
theorem writes_9 {F : Nat → Prop} {b c : Nat} {st : WSt} (n m : Int) (oth : Bool) (s : ByteArray) (x y : Nat) (w : World) (h : Wy w F b c st) (hx : x < 4294967296) (hy : y < 18446744073709551616) (hs : st.out.size + s.size + 24 ≤ 140737488351232) :
    Calls Tryz.prog 15 #[.pointer (some ⟨b, 0, none⟩), .pointer (some ⟨c, 0, none⟩), .agg (opCells ⟨9, n, m, oth, s, x, y⟩)] w fun r w' => r = .returned (.tuple #[]) ∧ Fr (fun k => F k ∨ k = c) w w' ∧ Wy w' (Gw F w w') b c (st.count n m) := by
  have Hs := Lib.hid hs
  have HY := Lib.hid h
  have hnF : ¬ F w.heap.size := fun hk => Nat.lt_irrefl _ (h.wr.low _ hk)
  have hnc : w.heap.size ≠ c := fun e => by have := h.rw.lt; omega
  have HN := Lib.hid (And.intro hnF hnc)
  have H0 := Lib.hid (h.fr ((Fr.refl (fun _ => False) w).alloc (.cells #[.int .i64 9, .int .i64 n, .int .i64 m, .bool oth, .string s, .int .u32 x, .int .u64 y] 44)) (fun _ _ => id) id)
  have HA := Lib.hid ((Fr.refl (fun _ => False) w).alloc (.cells #[.int .i64 9, .int .i64 n, .int .i64 m, .bool oth, .string s, .int .u32 x, .int .u64 y] 44))
  have hlt : w.heap.size < (w.alloc (.cells #[.int .i64 9, .int .i64 n, .int .i64 m, .bool oth, .string s, .int .u32 x, .int .u64 y] 44)).heap.size := by simp
  have HLT := Lib.hid hlt
  have X1 := Lib.hid (show (w.alloc (.cells #[.int .i64 9, .int .i64 n, .int .i64 m, .bool oth, .string s, .int .u32 x, .int .u64 y] 44)).cell? ⟨w.heap.size, 1, none⟩ = some (.int .i64 n) from cellOf (heap_alloc_new w _) 1)
  have X2 := Lib.hid (show (w.alloc (.cells #[.int .i64 9, .int .i64 n, .int .i64 m, .bool oth, .string s, .int .u32 x, .int .u64 y] 44)).cell? ⟨w.heap.size, 2, none⟩ = some (.int .i64 m) from cellOf (heap_alloc_new w _) 2)
  unfold opCells
  clear hs h hnF hnc hlt
  go_enter Tryz.func15, Tryz.ntmps15
  go_wp2_with fail
  generalize w.alloc (.cells #[.int .i64 9, .int .i64 n, .int .i64 m, .bool oth, .string s, .int .u32 x, .int .u64 y] 44) = W at *
  refine (WCount_any n m W H0.out.wr (by have := Hs.out; omega)).mono ?_
  rintro e w1 ⟨rfl, hf1, hw1⟩
  have HC1 := Lib.hid (H0.out.rw.fr hf1 HY.out.ne)
  have x1 := hf1.cellk HLT.out HN.out.1 X1.out
  have x2 := hf1.cellk HLT.out HN.out.1 X2.out
  go_wp2_with fail
  refine (xCount_any n m w1 HC1.out (by have := Hs.out; omega)).mono ?_
  rintro e w2 ⟨rfl, hf2, hx2⟩
  go_wp2_with fail
  go_end0
  exact ⟨rfl, HY.out.both HA.out hf1 hw1 hf2 hx2⟩

set_option maxRecDepth 100000 in
set_option maxHeartbeats 2000000 in
theorem writes_10 {F : Nat → Prop} {b c : Nat} {st : WSt} (n m : Int) (oth : Bool) (s : ByteArray) (x y : Nat) (w : World) (h : Wy w F b c st) (hx : x < 4294967296) (hy : y < 18446744073709551616) (hs : st.out.size + s.size + 24 ≤ 140737488351232) :
    Calls Tryz.prog 15 #[.pointer (some ⟨b, 0, none⟩), .pointer (some ⟨c, 0, none⟩), .agg (opCells ⟨10, n, m, oth, s, x, y⟩)] w fun r w' => r = .returned (.tuple #[]) ∧ Fr (fun k => F k ∨ k = c) w w' ∧ Wy w' (Gw F w w') b c (st.raw s) := by
  have Hs := Lib.hid hs
  have HY := Lib.hid h
  have hnF : ¬ F w.heap.size := fun hk => Nat.lt_irrefl _ (h.wr.low _ hk)
  have hnc : w.heap.size ≠ c := fun e => by have := h.rw.lt; omega
  have HN := Lib.hid (And.intro hnF hnc)
  have H0 := Lib.hid (h.fr ((Fr.refl (fun _ => False) w).alloc (.cells #[.int .i64 10, .int .i64 n, .int .i64 m, .bool oth, .string s, .int .u32 x, .int .u64 y] 44)) (fun _ _ => id) id)
  have HA := Lib.hid ((Fr.refl (fun _ => False) w).alloc (.cells #[.int .i64 10, .int .i64 n, .int .i64 m, .bool oth, .string s, .int .u32 x, .int .u64 y] 44))
  have hlt : w.heap.size < (w.alloc (.cells #[.int .i64 10, .int .i64 n, .int .i64 m, .bool oth, .string s, .int .u32 x, .int .u64 y] 44)).heap.size := by simp
  have HLT := Lib.hid hlt
  have X4 := Lib.hid (show (w.alloc (.cells #[.int .i64 10, .int .i64 n, .int .i64 m, .bool oth, .string s, .int .u32 x, .int .u64 y] 44)).cell? ⟨w.heap.size, 4, none⟩ = some (.string s) from cellOf (heap_alloc_new w _) 4)
  unfold opCells
  have hsz : s.size ≤ 140737488351232 := by omega
  clear hs h hnF hnc hlt
  go_enter Tryz.func15, Tryz.ntmps15
  go_wp2_with fail
  generalize w.alloc (.cells #[.int .i64 10, .int .i64 n, .int .i64 m, .bool oth, .string s, .int .u32 x, .int .u64 y] 44) = W at *
  refine (WRaw_any s W H0.out.wr (.inl (by have := Hs.out; omega))).mono ?_
  rintro e w1 ⟨rfl, hf1, hw1⟩
  have HC1 := Lib.hid (H0.out.rw.fr hf1 HY.out.ne)
  have x4 := hf1.cellk HLT.out HN.out.1 X4.out
  go_wp2_with fail
  refine (xRaw_any s w1 HC1.out (by have := Hs.out; omega)).mono ?_
  rintro e w2 ⟨rfl, hf2, hx2⟩
  go_wp2_with fail
  go_end0
  exact ⟨rfl, HY.out.both HA.out hf1 hw1 hf2 hx2⟩

set_option maxRecDepth 100000 in
set_option maxHeartbeats 2000000 in
theorem writes_11 {F : Nat → Prop} {b c : Nat} {st : WSt} (n m : Int) (oth : Bool) (s : ByteArray) (x y : Nat) (w : World) (h : Wy w F b c st) (hx : x < 4294967296) (hy : y < 18446744073709551616) (hs : st.out.size + s.size + 24 ≤ 140737488351232) :
    Calls Tryz.prog 15 #[.pointer (some ⟨b, 0, none⟩), .pointer (some ⟨c, 0, none⟩), .agg (opCells ⟨11, n, m, oth, s, x, y⟩)] w fun r w' => r = .returned (.tuple #[]) ∧ Fr (fun k => F k ∨ k = c) w w' ∧ Wy w' (Gw F w w') b c (st.fail n) := by
  have Hs := Lib.hid hs
  have HY := Lib.hid h
  have hnF : ¬ F w.heap.size := fun hk => Nat.lt_irrefl _ (h.wr.low _ hk)
  have hnc : w.heap.size ≠ c := fun e => by have := h.rw.lt; omega
  have HN := Lib.hid (And.intro hnF hnc)
  have H0 := Lib.hid (h.fr ((Fr.refl (fun _ => False) w).alloc (.cells #[.int .i64 11, .int .i64 n, .int .i64 m, .bool oth, .string s, .int .u32 x, .int .u64 y] 44)) (fun _ _ => id) id)
  have HA := Lib.hid ((Fr.refl (fun _ => False) w).alloc (.cells #[.int .i64 11, .int .i64 n, .int .i64 m, .bool oth, .string s, .int .u32 x, .int .u64 y] 44))
  have hlt : w.heap.size < (w.alloc (.cells #[.int .i64 11, .int .i64 n, .int .i64 m, .bool oth, .string s, .int .u32 x, .int .u64 y] 44)).heap.size := by simp
  have HLT := Lib.hid hlt
  have X1 := Lib.hid (show (w.alloc (.cells #[.int .i64 11, .int .i64 n, .int .i64 m, .bool oth, .string s, .int .u32 x, .int .u64 y] 44)).cell? ⟨w.heap.size, 1, none⟩ = some (.int .i64 n) from cellOf (heap_alloc_new w _) 1)
  unfold opCells
  clear hs h hnF hnc hlt
  go_enter Tryz.func15, Tryz.ntmps15
  go_wp2_with fail
  generalize w.alloc (.cells #[.int .i64 11, .int .i64 n, .int .i64 m, .bool oth, .string s, .int .u32 x, .int .u64 y] 44) = W at *
  refine (Wfail_any n W H0.out.wr).mono ?_
  rintro e w1 ⟨rfl, hf1, -, hw1⟩
  have hw1 := hw1.gw (w := W)
  have HC1 := Lib.hid (H0.out.rw.fr hf1 HY.out.ne)
  have x1 := hf1.cellk HLT.out HN.out.1 X1.out
  go_wp2_with fail
  refine (xFail_any n w1 HC1.out).mono ?_
  rintro e w2 ⟨rfl, hf2, hx2⟩
  go_wp2_with fail
  go_end0
  exact ⟨rfl, HY.out.both HA.out hf1 hw1 hf2 hx2⟩

set_option maxRecDepth 100000 in
theorem writes_no {F : Nat → Prop} {b c : Nat} {st : WSt} (k n m : Int) (oth : Bool) (s : ByteArray) (x y : Nat) (w : World) (h : Wy w F b c st) (k1 : k ≠ 1) (k2 : k ≠ 2) (k3 : k ≠ 3) (k4 : k ≠ 4) (k5 : k ≠ 5) (k6 : k ≠ 6) (k7 : k ≠ 7) (k8 : k ≠ 8) (k9 : k ≠ 9) (k10 : k ≠ 10) (k11 : k ≠ 11) :
    Calls Tryz.prog 15 #[.pointer (some ⟨b, 0, none⟩), .pointer (some ⟨c, 0, none⟩), .agg (opCells ⟨k, n, m, oth, s, x, y⟩)] w fun r w' => r = .returned (.tuple #[]) ∧ Fr (fun k => F k ∨ k = c) w w' ∧ Wy w' (Gw F w w') b c st := by
  have H := Lib.hid h
  have g1 : (k == 1) = false := by simpa using k1
  have g2 : (k == 2) = false := by simpa using k2
  have g3 : (k == 3) = false := by simpa using k3
  have g4 : (k == 4) = false := by simpa using k4
  have g5 : (k == 5) = false := by simpa using k5
  have g6 : (k == 6) = false := by simpa using k6
  have g7 : (k == 7) = false := by simpa using k7
  have g8 : (k == 8) = false := by simpa using k8
  have g9 : (k == 9) = false := by simpa using k9
  have g10 : (k == 10) = false := by simpa using k10
  have g11 : (k == 11) = false := by simpa using k11
  unfold opCells
  clear h k1 k2 k3 k4 k5 k6 k7 k8 k9 k10 k11
  go_enter Tryz.func15, Tryz.ntmps15
  go_wp2
  go_end0
  have hf : ∀ o, Fr (fun _ => False) w (w.alloc o) := fun o => (Fr.refl _ _).alloc o
  have hw := H.out.wr.fr (hf (.cells #[.int .i64 k, .int .i64 n, .int .i64 m, .bool oth, .string s, .int .u32 x, .int .u64 y] 44)) (fun _ _ => id)
  exact ⟨rfl, (hf _).mono (fun _ _ h => h.elim), hw.gw, H.out.rw.fr (hf _) id, fun hk => hk.elim H.out.ne (fun h => by have := H.out.rw.lt; omega)⟩
theorem writes_any {F : Nat → Prop} {b c : Nat} {st : WSt} (o : OpM) (ho : o.Is) (w : World) (h : Wy w F b c st) (hs : st.out.size + o.s.size + 24 ≤ 140737488351232) :
    Calls Tryz.prog 15 #[.pointer (some ⟨b, 0, none⟩), .pointer (some ⟨c, 0, none⟩), .agg (opCells o)] w fun r w' => r = .returned (.tuple #[]) ∧ Fr (fun k => F k ∨ k = c) w w' ∧ Wy w' (Gw F w w') b c (st.writes o) := by
  obtain ⟨_, _, hx, hy, _⟩ := ho
  obtain ⟨k, n, m, oth, s, x, y⟩ := o
  by_cases k1 : k = 1
  · subst k1
    have hp := writes_1 n m oth s x y w h hx hy hs
    simpa only [WSt.writes, if_true, if_false, Int.reduceEq] using hp
  by_cases k2 : k = 2
  · subst k2
    have hp := writes_2 n m oth s x y w h hx hy hs
    simpa only [WSt.writes, if_true, if_false, Int.reduceEq] using hp
  by_cases k3 : k = 3
  · subst k3
    have hp := writes_3 n m oth s x y w h hx hy hs
    simpa only [WSt.writes, if_true, if_false, Int.reduceEq] using hp
  by_cases k4 : k = 4
  · subst k4
    have hp := writes_4 n m oth s x y w h hx hy hs
    simpa only [WSt.writes, if_true, if_false, Int.reduceEq] using hp
  by_cases k5 : k = 5
  · subst k5
    have hp := writes_5 n m oth s x y w h hx hy hs
    simpa only [WSt.writes, if_true, if_false, Int.reduceEq] using hp
  by_cases k6 : k = 6
  · subst k6
    have hp := writes_6 n m oth s x y w h hx hy hs
    simpa only [WSt.writes, if_true, if_false, Int.reduceEq] using hp
  by_cases k7 : k = 7
  · subst k7
    have hp := writes_7 n m oth s x y w h hx hy hs
    simpa only [WSt.writes, if_true, if_false, Int.reduceEq] using hp
  by_cases k8 : k = 8
  · subst k8
    have hp := writes_8 n m oth s x y w h hx hy hs
    simpa only [WSt.writes, if_true, if_false, Int.reduceEq] using hp
  by_cases k9 : k = 9
  · subst k9
    have hp := writes_9 n m oth s x y w h hx hy hs
    simpa only [WSt.writes, if_true, if_false, Int.reduceEq] using hp
  by_cases k10 : k = 10
  · subst k10
    have hp := writes_10 n m oth s x y w h hx hy hs
    simpa only [WSt.writes, if_true, if_false, Int.reduceEq] using hp
  by_cases k11 : k = 11
  · subst k11
    have hp := writes_11 n m oth s x y w h hx hy hs
    simpa only [WSt.writes, if_true, if_false, Int.reduceEq] using hp
  have hp := writes_no k n m oth s x y w h k1 k2 k3 k4 k5 k6 k7 k8 k9 k10 k11
  simpa only [WSt.writes, if_neg k1, if_neg k2, if_neg k3, if_neg k4, if_neg k5, if_neg k6, if_neg k7, if_neg k8, if_neg k9, if_neg k10, if_neg k11] using hp

set_option maxRecDepth 100000 in
theorem written_any {F : Nat → Prop} {b c : Nat} {st : WSt} (w : World) (h : Wy w F b c st) (hg : ErrT w) :
    Calls Tryz.prog 16 #[.pointer (some ⟨b, 0, none⟩), .pointer (some ⟨c, 0, none⟩)] w fun r w' => r = .returned (.bool true) ∧ Fr (fun _ => False) w w' := by
  have H := Lib.hid h
  have HG := Lib.hid hg
  clear h hg
  go_enter Tryz.func16, Tryz.ntmps16
  go_wp2_with fail
  refine (WDone_any w H.out.wr HG.out).mono ?_
  rintro e w1 ⟨rfl, hf1⟩
  have H1 := Lib.hid (H.out.fr hf1 (fun _ _ => id) id)
  have HF1 := Lib.hid hf1
  clear hf1
  go_wp2_with fail
  refine (xDone_any w1 H1.out.rw).mono ?_
  rintro e w2 ⟨rfl, hf2⟩
  have H2 := Lib.hid (H1.out.fr hf2 (fun _ _ => id) id)
  have HF2 := Lib.hid (HF1.out.trans hf2)
  clear hf2
  go_wp2_with (first | (go_at_call 29; refine (WLen_any _ H2.out.wr).mono ?_; rintro e w' ⟨rfl, rfl⟩) | (go_at_call 73; refine (xLen_any _ H2.out.rw).mono ?_; rintro e w' ⟨rfl, rfl⟩))
  go_ret
  exact ⟨rfl, HF2.out⟩
end Go.Proofs.YtlcjfafmmoncpaaGreatDoor
