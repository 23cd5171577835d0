/- A call of a Reader, and what it told is laid down by the same call. -/
import Derived.Test.YtlcjfafmmoncpaaGreatDoorFg
namespace Go.Proofs.YtlcjfafmmoncpaaGreatDoor
open Go.RowKit
set_option linter.unusedVariables false
set_option linter.unusedSimpArgs false

def RSt.againS (st : RSt) (o : OpM) : RSt :=
  if o.kind = 1 then st.uint
  else if o.kind = 2 then st.uint
  else if o.kind = 3 then st.hyper
  else if o.kind = 4 then st.boolS
  else if o.kind = 5 then st.floatS
  else if o.kind = 6 then st.doubleS
  else if o.kind = 7 then st.fixedS o.n
  else if o.kind = 8 then st.opaqueS o.n
  else if o.kind = 9 then st.countS o.n
  else st
def WSt.again (wt : WSt) (st : RSt) (o : OpM) : WSt :=
  if o.kind = 1 then wt.int st.intV
  else if o.kind = 2 then wt.uint st.uintV
  else if o.kind = 3 then wt.hyper st.hyperV
  else if o.kind = 4 then wt.bool st.boolV
  else if o.kind = 5 then wt.float st.floatV
  else if o.kind = 6 then wt.double st.doubleV
  else if o.kind = 7 then wt.fixed o.n (st.fixedV o.n)
  else if o.kind = 8 then wt.opq o.n (st.opaqueV o.n)
  else if o.kind = 9 then wt.count o.n (st.manyV o.n)
  else wt
theorem textV_le (st : RSt) (a n : Nat) : (st.textV a n).size ≤ st.rest.size := by
  unfold RSt.textV
  split
  · simp only [ByteArray.size_extract]; omega
  · simp
theorem peeked_rest (st : RSt) (k : Nat) : (st.peeked k).rest = st.rest := by
  unfold RSt.peeked
  split
  · exact fail_rest
  · rfl
theorem worded_rest (st : RSt) (m : Int) : (st.worded m).rest = st.rest := by
  unfold RSt.worded
  split
  · rfl
  · exact fail_rest
theorem manyS_rest (st : RSt) (m : Int) : (st.manyS m).rest = st.rest := by
  unfold RSt.manyS
  split
  · rw [fail_rest, peeked_rest, worded_rest]
  · rw [peeked_rest, worded_rest]
theorem fixedV_le (st : RSt) (n : Int) : (st.fixedV n).size ≤ st.rest.size := by
  unfold RSt.fixedV
  split
  · exact textV_le _ _ _
  · simp
theorem opaqueV_le (st : RSt) (n : Int) : (st.opaqueV n).size ≤ st.rest.size := by
  unfold RSt.opaqueV
  have := textV_le (st.manyS n) 4 (st.manyV n).toNat
  rwa [manyS_rest] at this
theorem floatV_lt (st : RSt) : bitsF .f32 st.floatV < widthF .f32 := by
  refine bits_lt ?_
  have : 0 ≤ st.peekV 4 ∧ st.peekV 4 < 4294967296 := peekV_bound st 4
  unfold RSt.floatV widthF
  split
  · show (st.peekV 4).toNat < 4294967296; omega
  · decide
theorem doubleV_lt (st : RSt) : bitsF .f64 st.doubleV < widthF .f64 := by
  refine bits_lt ?_
  have : 0 ≤ st.peekV 8 ∧ st.peekV 8 < 18446744073709551616 := peekV_bound st 8
  unfold RSt.doubleV widthF
  split
  · show (st.peekV 8).toNat < 18446744073709551616; omega
  · decide

set_option maxRecDepth 100000 in
set_option maxHeartbeats 1000000 in
theorem again_1 {F : Nat → Prop} {b c : Nat} {st : RSt} {wt : WSt} (n m : Int) (oth : Bool) (s : ByteArray) (x y : Nat) (w : World) (h : Rd w b st) (hw : Wr w F c wt) (hd : ¬ F b) (hs : wt.out.size + st.rest.size + 24 ≤ 140737488355300) :
    Calls Tryz.prog 31 #[.pointer (some ⟨b, 0, none⟩), .pointer (some ⟨c, 0, none⟩), .agg (opCells ⟨1, n, m, oth, s, x, y⟩)] w fun r w' => r = .returned (.tuple #[]) ∧ Fr (fun k => k = b ∨ F k) w w' ∧ Rd w' b (st.uint) ∧ Wr w' (Gw F w w') c (wt.int st.intV) := by
  have Hs := Lib.hid hs
  have h0 : Rd (w.alloc (.cells #[.int .i64 1, .int .i64 n, .int .i64 m, .bool oth, .string s, .int .u32 x, .int .u64 y] 44)) b st := h.fr ((Fr.refl (fun _ => False) w).alloc _) (fun h => h)
  have hw0 : Wr (w.alloc (.cells #[.int .i64 1, .int .i64 n, .int .i64 m, .bool oth, .string s, .int .u32 x, .int .u64 y] 44)) F c wt := hw.below ((Below.refl _ _).alloc (Nat.le_refl _) _)
  have hF0 : Fr (fun k => k = b ∨ F k) w (w.alloc (.cells #[.int .i64 1, .int .i64 n, .int .i64 m, .bool oth, .string s, .int .u32 x, .int .u64 y] 44)) := (Fr.refl _ _).alloc _
  have hFb : ∀ g, F g → ¬ g = b := fun g hg e => hd (e ▸ hg)
  have hbb : w.heap.size ≠ b := fun e => by have := h.lt; omega
  have hnF : ¬ F w.heap.size := fun hk => Nat.lt_irrefl _ (hw.low _ hk)
  have H0 := Lib.hid h0
  have HW0 := Lib.hid hw0
  have HF0 := Lib.hid hF0
  have HL := Lib.hid hw.low
  unfold opCells
  clear h h0 hw hw0 hF0
  go_enter Tryz.func31, Tryz.ntmps31
  go_wp2_with (first | (go_at_call 32; refine (RInt_any _ H0.out).mono ?_; rintro e w1 ⟨rfl, hf1, -, h1⟩; have hW1 := Lib.hid (HW0.out.fr hf1 hFb)) | (go_at_call 45; refine (WInt_any _ _ hW1.out (by have := Hs.out; omega)).mono ?_; rintro e w' ⟨rfl, hfr, hw'⟩))
  all_goals
    go_end0
    exact ⟨rfl, HF0.out.trans ((hf1.mono (fun _ _ h => .inl h)).trans (hfr.mono (fun _ _ h => .inr h))), h1.fr hfr hd, hw'.late (Nat.le_trans HF0.out.size hf1.size) HL.out hfr.size⟩

set_option maxRecDepth 100000 in
set_option maxHeartbeats 1000000 in
theorem again_2 {F : Nat → Prop} {b c : Nat} {st : RSt} {wt : WSt} (n m : Int) (oth : Bool) (s : ByteArray) (x y : Nat) (w : World) (h : Rd w b st) (hw : Wr w F c wt) (hd : ¬ F b) (hs : wt.out.size + st.rest.size + 24 ≤ 140737488355300) :
    Calls Tryz.prog 31 #[.pointer (some ⟨b, 0, none⟩), .pointer (some ⟨c, 0, none⟩), .agg (opCells ⟨2, n, m, oth, s, x, y⟩)] w fun r w' => r = .returned (.tuple #[]) ∧ Fr (fun k => k = b ∨ F k) w w' ∧ Rd w' b (st.uint) ∧ Wr w' (Gw F w w') c (wt.uint st.uintV) := by
  have Hs := Lib.hid hs
  have h0 : Rd (w.alloc (.cells #[.int .i64 2, .int .i64 n, .int .i64 m, .bool oth, .string s, .int .u32 x, .int .u64 y] 44)) b st := h.fr ((Fr.refl (fun _ => False) w).alloc _) (fun h => h)
  have hw0 : Wr (w.alloc (.cells #[.int .i64 2, .int .i64 n, .int .i64 m, .bool oth, .string s, .int .u32 x, .int .u64 y] 44)) F c wt := hw.below ((Below.refl _ _).alloc (Nat.le_refl _) _)
  have hF0 : Fr (fun k => k = b ∨ F k) w (w.alloc (.cells #[.int .i64 2, .int .i64 n, .int .i64 m, .bool oth, .string s, .int .u32 x, .int .u64 y] 44)) := (Fr.refl _ _).alloc _
  have hFb : ∀ g, F g → ¬ g = b := fun g hg e => hd (e ▸ hg)
  have hbb : w.heap.size ≠ b := fun e => by have := h.lt; omega
  have hnF : ¬ F w.heap.size := fun hk => Nat.lt_irrefl _ (hw.low _ hk)
  have H0 := Lib.hid h0
  have HW0 := Lib.hid hw0
  have HF0 := Lib.hid hF0
  have HL := Lib.hid hw.low
  unfold opCells
  clear h h0 hw hw0 hF0
  go_enter Tryz.func31, Tryz.ntmps31
  go_wp2_with (first | (go_at_call 49; refine (RUint_any _ H0.out).mono ?_; rintro e w1 ⟨rfl, hf1, -, h1⟩; have hW1 := Lib.hid (HW0.out.fr hf1 hFb)) | (go_at_call 52; refine (WUint_any _ _ hW1.out (by have := Hs.out; omega)).mono ?_; rintro e w' ⟨rfl, hfr, hw'⟩))
  all_goals
    go_end0
    exact ⟨rfl, HF0.out.trans ((hf1.mono (fun _ _ h => .inl h)).trans (hfr.mono (fun _ _ h => .inr h))), h1.fr hfr hd, hw'.late (Nat.le_trans HF0.out.size hf1.size) HL.out hfr.size⟩

set_option maxRecDepth 100000 in
set_option maxHeartbeats 1000000 in
theorem again_3 {F : Nat → Prop} {b c : Nat} {st : RSt} {wt : WSt} (n m : Int) (oth : Bool) (s : ByteArray) (x y : Nat) (w : World) (h : Rd w b st) (hw : Wr w F c wt) (hd : ¬ F b) (hs : wt.out.size + st.rest.size + 24 ≤ 140737488355300) :
    Calls Tryz.prog 31 #[.pointer (some ⟨b, 0, none⟩), .pointer (some ⟨c, 0, none⟩), .agg (opCells ⟨3, n, m, oth, s, x, y⟩)] w fun r w' => r = .returned (.tuple #[]) ∧ Fr (fun k => k = b ∨ F k) w w' ∧ Rd w' b (st.hyper) ∧ Wr w' (Gw F w w') c (wt.hyper st.hyperV) := by
  have Hs := Lib.hid hs
  have h0 : Rd (w.alloc (.cells #[.int .i64 3, .int .i64 n, .int .i64 m, .bool oth, .string s, .int .u32 x, .int .u64 y] 44)) b st := h.fr ((Fr.refl (fun _ => False) w).alloc _) (fun h => h)
  have hw0 : Wr (w.alloc (.cells #[.int .i64 3, .int .i64 n, .int .i64 m, .bool oth, .string s, .int .u32 x, .int .u64 y] 44)) F c wt := hw.below ((Below.refl _ _).alloc (Nat.le_refl _) _)
  have hF0 : Fr (fun k => k = b ∨ F k) w (w.alloc (.cells #[.int .i64 3, .int .i64 n, .int .i64 m, .bool oth, .string s, .int .u32 x, .int .u64 y] 44)) := (Fr.refl _ _).alloc _
  have hFb : ∀ g, F g → ¬ g = b := fun g hg e => hd (e ▸ hg)
  have hbb : w.heap.size ≠ b := fun e => by have := h.lt; omega
  have hnF : ¬ F w.heap.size := fun hk => Nat.lt_irrefl _ (hw.low _ hk)
  have H0 := Lib.hid h0
  have HW0 := Lib.hid hw0
  have HF0 := Lib.hid hF0
  have HL := Lib.hid hw.low
  unfold opCells
  clear h h0 hw hw0 hF0
  go_enter Tryz.func31, Tryz.ntmps31
  go_wp2_with (first | (go_at_call 76; refine (RHyper_any _ H0.out).mono ?_; rintro e w1 ⟨rfl, hf1, -, h1⟩; have hW1 := Lib.hid (HW0.out.fr hf1 hFb)) | (go_at_call 54; refine (WHyper_any _ _ hW1.out (by have := Hs.out; omega)).mono ?_; rintro e w' ⟨rfl, hfr, hw'⟩))
  all_goals
    go_end0
    exact ⟨rfl, HF0.out.trans ((hf1.mono (fun _ _ h => .inl h)).trans (hfr.mono (fun _ _ h => .inr h))), h1.fr hfr hd, hw'.late (Nat.le_trans HF0.out.size hf1.size) HL.out hfr.size⟩

set_option maxRecDepth 100000 in
set_option maxHeartbeats 1000000 in
theorem again_4 {F : Nat → Prop} {b c : Nat} {st : RSt} {wt : WSt} (n m : Int) (oth : Bool) (s : ByteArray) (x y : Nat) (w : World) (h : Rd w b st) (hw : Wr w F c wt) (hd : ¬ F b) (hs : wt.out.size + st.rest.size + 24 ≤ 140737488355300) :
    Calls Tryz.prog 31 #[.pointer (some ⟨b, 0, none⟩), .pointer (some ⟨c, 0, none⟩), .agg (opCells ⟨4, n, m, oth, s, x, y⟩)] w fun r w' => r = .returned (.tuple #[]) ∧ Fr (fun k => k = b ∨ F k) w w' ∧ Rd w' b (st.boolS) ∧ Wr w' (Gw F w w') c (wt.bool st.boolV) := by
  have Hs := Lib.hid hs
  have h0 : Rd (w.alloc (.cells #[.int .i64 4, .int .i64 n, .int .i64 m, .bool oth, .string s, .int .u32 x, .int .u64 y] 44)) b st := h.fr ((Fr.refl (fun _ => False) w).alloc _) (fun h => h)
  have hw0 : Wr (w.alloc (.cells #[.int .i64 4, .int .i64 n, .int .i64 m, .bool oth, .string s, .int .u32 x, .int .u64 y] 44)) F c wt := hw.below ((Below.refl _ _).alloc (Nat.le_refl _) _)
  have hF0 : Fr (fun k => k = b ∨ F k) w (w.alloc (.cells #[.int .i64 4, .int .i64 n, .int .i64 m, .bool oth, .string s, .int .u32 x, .int .u64 y] 44)) := (Fr.refl _ _).alloc _
  have hFb : ∀ g, F g → ¬ g = b := fun g hg e => hd (e ▸ hg)
  have hbb : w.heap.size ≠ b := fun e => by have := h.lt; omega
  have hnF : ¬ F w.heap.size := fun hk => Nat.lt_irrefl _ (hw.low _ hk)
  have H0 := Lib.hid h0
  have HW0 := Lib.hid hw0
  have HF0 := Lib.hid hF0
  have HL := Lib.hid hw.low
  unfold opCells
  clear h h0 hw hw0 hF0
  go_enter Tryz.func31, Tryz.ntmps31
  go_wp2_with (first | (go_at_call 78; refine (RBool_any _ H0.out).mono ?_; rintro e w1 ⟨rfl, hf1, -, h1⟩; have hW1 := Lib.hid (HW0.out.fr hf1 hFb)) | (go_at_call 56; refine (WBool_any _ _ hW1.out (by have := Hs.out; omega)).mono ?_; rintro e w' ⟨rfl, hfr, hw'⟩))
  all_goals
    go_end0
    exact ⟨rfl, HF0.out.trans ((hf1.mono (fun _ _ h => .inl h)).trans (hfr.mono (fun _ _ h => .inr h))), h1.fr hfr hd, hw'.late (Nat.le_trans HF0.out.size hf1.size) HL.out hfr.size⟩

set_option maxRecDepth 100000 in
set_option maxHeartbeats 1000000 in
theorem again_5 {F : Nat → Prop} {b c : Nat} {st : RSt} {wt : WSt} (n m : Int) (oth : Bool) (s : ByteArray) (x y : Nat) (w : World) (h : Rd w b st) (hw : Wr w F c wt) (hd : ¬ F b) (hs : wt.out.size + st.rest.size + 24 ≤ 140737488355300) :
    Calls Tryz.prog 31 #[.pointer (some ⟨b, 0, none⟩), .pointer (some ⟨c, 0, none⟩), .agg (opCells ⟨5, n, m, oth, s, x, y⟩)] w fun r w' => r = .returned (.tuple #[]) ∧ Fr (fun k => k = b ∨ F k) w w' ∧ Rd w' b (st.floatS) ∧ Wr w' (Gw F w w') c (wt.float st.floatV) := by
  have Hs := Lib.hid hs
  have h0 : Rd (w.alloc (.cells #[.int .i64 5, .int .i64 n, .int .i64 m, .bool oth, .string s, .int .u32 x, .int .u64 y] 44)) b st := h.fr ((Fr.refl (fun _ => False) w).alloc _) (fun h => h)
  have hw0 : Wr (w.alloc (.cells #[.int .i64 5, .int .i64 n, .int .i64 m, .bool oth, .string s, .int .u32 x, .int .u64 y] 44)) F c wt := hw.below ((Below.refl _ _).alloc (Nat.le_refl _) _)
  have hF0 : Fr (fun k => k = b ∨ F k) w (w.alloc (.cells #[.int .i64 5, .int .i64 n, .int .i64 m, .bool oth, .string s, .int .u32 x, .int .u64 y] 44)) := (Fr.refl _ _).alloc _
  have hFb : ∀ g, F g → ¬ g = b := fun g hg e => hd (e ▸ hg)
  have hbb : w.heap.size ≠ b := fun e => by have := h.lt; omega
  have hnF : ¬ F w.heap.size := fun hk => Nat.lt_irrefl _ (hw.low _ hk)
  have H0 := Lib.hid h0
  have HW0 := Lib.hid hw0
  have HF0 := Lib.hid hF0
  have HL := Lib.hid hw.low
  unfold opCells
  clear h h0 hw hw0 hF0
  go_enter Tryz.func31, Tryz.ntmps31
  go_wp2_with (first | (go_at_call 80; refine (RFloat_any _ H0.out).mono ?_; rintro e w1 ⟨rfl, hf1, -, h1⟩; have hW1 := Lib.hid (HW0.out.fr hf1 hFb)) | (go_at_call 48; refine (WFloat_any _ _ hW1.out (floatV_lt st) (by have := Hs.out; omega)).mono ?_; rintro e w' ⟨rfl, hfr, hw'⟩))
  all_goals
    go_end0
    exact ⟨rfl, HF0.out.trans ((hf1.mono (fun _ _ h => .inl h)).trans (hfr.mono (fun _ _ h => .inr h))), h1.fr hfr hd, hw'.late (Nat.le_trans HF0.out.size hf1.size) HL.out hfr.size⟩

set_option maxRecDepth 100000 in
set_option maxHeartbeats 1000000 in
theorem again_6 {F : Nat → Prop} {b c : Nat} {st : RSt} {wt : WSt} (n m : Int) (oth : Bool) (s : ByteArray) (x y : Nat) (w : World) (h : Rd w b st) (hw : Wr w F c wt) (hd : ¬ F b) (hs : wt.out.size + st.rest.size + 24 ≤ 140737488355300) :
    Calls Tryz.prog 31 #[.pointer (some ⟨b, 0, none⟩), .pointer (some ⟨c, 0, none⟩), .agg (opCells ⟨6, n, m, oth, s, x, y⟩)] w fun r w' => r = .returned (.tuple #[]) ∧ Fr (fun k => k = b ∨ F k) w w' ∧ Rd w' b (st.doubleS) ∧ Wr w' (Gw F w w') c (wt.double st.doubleV) := by
  have Hs := Lib.hid hs
  have h0 : Rd (w.alloc (.cells #[.int .i64 6, .int .i64 n, .int .i64 m, .bool oth, .string s, .int .u32 x, .int .u64 y] 44)) b st := h.fr ((Fr.refl (fun _ => False) w).alloc _) (fun h => h)
  have hw0 : Wr (w.alloc (.cells #[.int .i64 6, .int .i64 n, .int .i64 m, .bool oth, .string s, .int .u32 x, .int .u64 y] 44)) F c wt := hw.below ((Below.refl _ _).alloc (Nat.le_refl _) _)
  have hF0 : Fr (fun k => k = b ∨ F k) w (w.alloc (.cells #[.int .i64 6, .int .i64 n, .int .i64 m, .bool oth, .string s, .int .u32 x, .int .u64 y] 44)) := (Fr.refl _ _).alloc _
  have hFb : ∀ g, F g → ¬ g = b := fun g hg e => hd (e ▸ hg)
  have hbb : w.heap.size ≠ b := fun e => by have := h.lt; omega
  have hnF : ¬ F w.heap.size := fun hk => Nat.lt_irrefl _ (hw.low _ hk)
  have H0 := Lib.hid h0
  have HW0 := Lib.hid hw0
  have HF0 := Lib.hid hF0
  have HL := Lib.hid hw.low
  unfold opCells
  clear h h0 hw hw0 hF0
  go_enter Tryz.func31, Tryz.ntmps31
  go_wp2_with (first | (go_at_call 83; refine (RDouble_any _ H0.out).mono ?_; rintro e w1 ⟨rfl, hf1, -, h1⟩; have hW1 := Lib.hid (HW0.out.fr hf1 hFb)) | (go_at_call 60; refine (WDouble_any _ _ hW1.out (doubleV_lt st) (by have := Hs.out; omega)).mono ?_; rintro e w' ⟨rfl, hfr, hw'⟩))
  all_goals
    go_end0
    exact ⟨rfl, HF0.out.trans ((hf1.mono (fun _ _ h => .inl h)).trans (hfr.mono (fun _ _ h => .inr h))), h1.fr hfr hd, hw'.late (Nat.le_trans HF0.out.size hf1.size) HL.out hfr.size⟩

set_option maxRecDepth 100000 in
set_option maxHeartbeats 1000000 in
theorem again_7 {F : Nat → Prop} {b c : Nat} {st : RSt} {wt : WSt} (n m : Int) (oth : Bool) (s : ByteArray) (x y : Nat) (w : World) (h : Rd w b st) (hw : Wr w F c wt) (hd : ¬ F b) (hs : wt.out.size + st.rest.size + 24 ≤ 140737488355300) :
    Calls Tryz.prog 31 #[.pointer (some ⟨b, 0, none⟩), .pointer (some ⟨c, 0, none⟩), .agg (opCells ⟨7, n, m, oth, s, x, y⟩)] w fun r w' => r = .returned (.tuple #[]) ∧ Fr (fun k => k = b ∨ F k) w w' ∧ Rd w' b (st.fixedS n) ∧ Wr w' (Gw F w w') c (wt.fixed n (st.fixedV n)) := by
  have Hs := Lib.hid hs
  have h0 : Rd (w.alloc (.cells #[.int .i64 7, .int .i64 n, .int .i64 m, .bool oth, .string s, .int .u32 x, .int .u64 y] 44)) b st := h.fr ((Fr.refl (fun _ => False) w).alloc _) (fun h => h)
  have hw0 : Wr (w.alloc (.cells #[.int .i64 7, .int .i64 n, .int .i64 m, .bool oth, .string s, .int .u32 x, .int .u64 y] 44)) F c wt := hw.below ((Below.refl _ _).alloc (Nat.le_refl _) _)
  have hF0 : Fr (fun k => k = b ∨ F k) w (w.alloc (.cells #[.int .i64 7, .int .i64 n, .int .i64 m, .bool oth, .string s, .int .u32 x, .int .u64 y] 44)) := (Fr.refl _ _).alloc _
  have hFb : ∀ g, F g → ¬ g = b := fun g hg e => hd (e ▸ hg)
  have hbb : w.heap.size ≠ b := fun e => by have := h.lt; omega
  have hnF : ¬ F w.heap.size := fun hk => Nat.lt_irrefl _ (hw.low _ hk)
  have H0 := Lib.hid h0
  have HW0 := Lib.hid hw0
  have HF0 := Lib.hid hF0
  have HL := Lib.hid hw.low
  unfold opCells
  have x1 : (w.alloc (.cells #[.int .i64 7, .int .i64 n, .int .i64 m, .bool oth, .string s, .int .u32 x, .int .u64 y] 44)).cell? ⟨w.heap.size, 1, none⟩ = some (.int .i64 n) := cellOf (heap_alloc_new w _) 1
  have hlt : w.heap.size < (w.alloc (.cells #[.int .i64 7, .int .i64 n, .int .i64 m, .bool oth, .string s, .int .u32 x, .int .u64 y] 44)).heap.size := by simp
  have X1 := Lib.hid x1
  have HLT := Lib.hid hlt
  clear x1 hlt
  clear h h0 hw hw0 hF0
  go_enter Tryz.func31, Tryz.ntmps31
  go_wp2_with fail
  generalize w.alloc (.cells #[.int .i64 7, .int .i64 n, .int .i64 m, .bool oth, .string s, .int .u32 x, .int .u64 y] 44) = W at *
  have x1 := X1.out
  go_region_held3 (fun w' => w'.cell? ⟨w.heap.size, 1, none⟩ = some (.int .i64 n)) (first | exact x1) (first | (go_at_call 50; refine (RFixed_any n _ (H0.out.keep (w' := W.drew) rfl)).mono ?_; rintro e w1 ⟨rfl, hf1, -, h1⟩; have hf1 : Fr (fun k => k = b) W w1 := ⟨hf1.os, hf1.tape, hf1.output, hf1.size, hf1.block⟩; have x1 := hf1.cellk HLT.out hbb X1.out; have hW1 := Lib.hid (HW0.out.fr hf1 hFb)) | (go_at_call 46; refine (WFixed_any n _ _ hW1.out (by have := Hs.out; have := fixedV_le st n; omega)).mono ?_; rintro e w' ⟨rfl, hfr, hw'⟩; have x1 := hfr.cellk (Nat.lt_of_lt_of_le HLT.out hf1.size) hnF x1))
  all_goals
    go_end0
    exact ⟨rfl, HF0.out.trans ((hf1.mono (fun _ _ h => .inl h)).trans (hfr.mono (fun _ _ h => .inr h))), h1.fr hfr hd, hw'.late (Nat.le_trans HF0.out.size hf1.size) HL.out hfr.size⟩

set_option maxRecDepth 100000 in
set_option maxHeartbeats 1000000 in
theorem again_8 {F : Nat → Prop} {b c : Nat} {st : RSt} {wt : WSt} (n m : Int) (oth : Bool) (s : ByteArray) (x y : Nat) (w : World) (h : Rd w b st) (hw : Wr w F c wt) (hd : ¬ F b) (hs : wt.out.size + st.rest.size + 24 ≤ 140737488355300) :
    Calls Tryz.prog 31 #[.pointer (some ⟨b, 0, none⟩), .pointer (some ⟨c, 0, none⟩), .agg (opCells ⟨8, n, m, oth, s, x, y⟩)] w fun r w' => r = .returned (.tuple #[]) ∧ Fr (fun k => k = b ∨ F k) w w' ∧ Rd w' b (st.opaqueS n) ∧ Wr w' (Gw F w w') c (wt.opq n (st.opaqueV n)) := by
  have Hs := Lib.hid hs
  have h0 : Rd (w.alloc (.cells #[.int .i64 8, .int .i64 n, .int .i64 m, .bool oth, .string s, .int .u32 x, .int .u64 y] 44)) b st := h.fr ((Fr.refl (fun _ => False) w).alloc _) (fun h => h)
  have hw0 : Wr (w.alloc (.cells #[.int .i64 8, .int .i64 n, .int .i64 m, .bool oth, .string s, .int .u32 x, .int .u64 y] 44)) F c wt := hw.below ((Below.refl _ _).alloc (Nat.le_refl _) _)
  have hF0 : Fr (fun k => k = b ∨ F k) w (w.alloc (.cells #[.int .i64 8, .int .i64 n, .int .i64 m, .bool oth, .string s, .int .u32 x, .int .u64 y] 44)) := (Fr.refl _ _).alloc _
  have hFb : ∀ g, F g → ¬ g = b := fun g hg e => hd (e ▸ hg)
  have hbb : w.heap.size ≠ b := fun e => by have := h.lt; omega
  have hnF : ¬ F w.heap.size := fun hk => Nat.lt_irrefl _ (hw.low _ hk)
  have H0 := Lib.hid h0
  have HW0 := Lib.hid hw0
  have HF0 := Lib.hid hF0
  have HL := Lib.hid hw.low
  unfold opCells
  have x1 : (w.alloc (.cells #[.int .i64 8, .int .i64 n, .int .i64 m, .bool oth, .string s, .int .u32 x, .int .u64 y] 44)).cell? ⟨w.heap.size, 1, none⟩ = some (.int .i64 n) := cellOf (heap_alloc_new w _) 1
  have hlt : w.heap.size < (w.alloc (.cells #[.int .i64 8, .int .i64 n, .int .i64 m, .bool oth, .string s, .int .u32 x, .int .u64 y] 44)).heap.size := by simp
  have X1 := Lib.hid x1
  have HLT := Lib.hid hlt
  clear x1 hlt
  clear h h0 hw hw0 hF0
  go_enter Tryz.func31, Tryz.ntmps31
  go_wp2_with fail
  generalize w.alloc (.cells #[.int .i64 8, .int .i64 n, .int .i64 m, .bool oth, .string s, .int .u32 x, .int .u64 y] 44) = W at *
  have x1 := X1.out
  go_region_held3 (fun w' => w'.cell? ⟨w.heap.size, 1, none⟩ = some (.int .i64 n)) (first | exact x1) (first | (go_at_call 87; refine (ROpaque_any n _ (H0.out.keep (w' := W.drew) rfl)).mono ?_; rintro e w1 ⟨rfl, hf1, -, h1⟩; have hf1 : Fr (fun k => k = b) W w1 := ⟨hf1.os, hf1.tape, hf1.output, hf1.size, hf1.block⟩; have x1 := hf1.cellk HLT.out hbb X1.out; have hW1 := Lib.hid (HW0.out.fr hf1 hFb)) | (go_at_call 47; refine (WOpaque_any n _ _ hW1.out (.inl (by have := Hs.out; have := opaqueV_le st n; omega))).mono ?_; rintro e w' ⟨rfl, hfr, hw'⟩; have x1 := hfr.cellk (Nat.lt_of_lt_of_le HLT.out hf1.size) hnF x1))
  all_goals
    go_end0
    exact ⟨rfl, HF0.out.trans ((hf1.mono (fun _ _ h => .inl h)).trans (hfr.mono (fun _ _ h => .inr h))), h1.fr hfr hd, hw'.late (Nat.le_trans HF0.out.size hf1.size) HL.out hfr.size⟩

set_option maxRecDepth 100000 in
set_option maxHeartbeats 1000000 in
theorem again_9 {F : Nat → Prop} {b c : Nat} {st : RSt} {wt : WSt} (n m : Int) (oth : Bool) (s : ByteArray) (x y : Nat) (w : World) (h : Rd w b st) (hw : Wr w F c wt) (hd : ¬ F b) (hs : wt.out.size + st.rest.size + 24 ≤ 140737488355300) :
    Calls Tryz.prog 31 #[.pointer (some ⟨b, 0, none⟩), .pointer (some ⟨c, 0, none⟩), .agg (opCells ⟨9, n, m, oth, s, x, y⟩)] w fun r w' => r = .returned (.tuple #[]) ∧ Fr (fun k => k = b ∨ F k) w w' ∧ Rd w' b (st.countS n) ∧ Wr w' (Gw F w w') c (wt.count n (st.manyV n)) := by
  have Hs := Lib.hid hs
  have h0 : Rd (w.alloc (.cells #[.int .i64 9, .int .i64 n, .int .i64 m, .bool oth, .string s, .int .u32 x, .int .u64 y] 44)) b st := h.fr ((Fr.refl (fun _ => False) w).alloc _) (fun h => h)
  have hw0 : Wr (w.alloc (.cells #[.int .i64 9, .int .i64 n, .int .i64 m, .bool oth, .string s, .int .u32 x, .int .u64 y] 44)) F c wt := hw.below ((Below.refl _ _).alloc (Nat.le_refl _) _)
  have hF0 : Fr (fun k => k = b ∨ F k) w (w.alloc (.cells #[.int .i64 9, .int .i64 n, .int .i64 m, .bool oth, .string s, .int .u32 x, .int .u64 y] 44)) := (Fr.refl _ _).alloc _
  have hFb : ∀ g, F g → ¬ g = b := fun g hg e => hd (e ▸ hg)
  have hbb : w.heap.size ≠ b := fun e => by have := h.lt; omega
  have hnF : ¬ F w.heap.size := fun hk => Nat.lt_irrefl _ (hw.low _ hk)
  have H0 := Lib.hid h0
  have HW0 := Lib.hid hw0
  have HF0 := Lib.hid hF0
  have HL := Lib.hid hw.low
  unfold opCells
  have x1 : (w.alloc (.cells #[.int .i64 9, .int .i64 n, .int .i64 m, .bool oth, .string s, .int .u32 x, .int .u64 y] 44)).cell? ⟨w.heap.size, 1, none⟩ = some (.int .i64 n) := cellOf (heap_alloc_new w _) 1
  have hlt : w.heap.size < (w.alloc (.cells #[.int .i64 9, .int .i64 n, .int .i64 m, .bool oth, .string s, .int .u32 x, .int .u64 y] 44)).heap.size := by simp
  have X1 := Lib.hid x1
  have HLT := Lib.hid hlt
  clear x1 hlt
  clear h h0 hw hw0 hF0
  go_enter Tryz.func31, Tryz.ntmps31
  go_wp2_with fail
  generalize w.alloc (.cells #[.int .i64 9, .int .i64 n, .int .i64 m, .bool oth, .string s, .int .u32 x, .int .u64 y] 44) = W at *
  have x1 := X1.out
  go_region_held3 (fun w' => w'.cell? ⟨w.heap.size, 1, none⟩ = some (.int .i64 n)) (first | exact x1) (first | (go_at_call 89; refine (RCount_any n _ (H0.out.keep (w' := W.drew) rfl)).mono ?_; rintro e w1 ⟨rfl, hf1, -, h1⟩; have hf1 : Fr (fun k => k = b) W w1 := ⟨hf1.os, hf1.tape, hf1.output, hf1.size, hf1.block⟩; have x1 := hf1.cellk HLT.out hbb X1.out; have hW1 := Lib.hid (HW0.out.fr hf1 hFb)) | (go_at_call 66; refine (WCount_any n _ _ hW1.out (by have := Hs.out; omega)).mono ?_; rintro e w' ⟨rfl, hfr, hw'⟩; have x1 := hfr.cellk (Nat.lt_of_lt_of_le HLT.out hf1.size) hnF x1))
  all_goals
    go_end0
    exact ⟨rfl, HF0.out.trans ((hf1.mono (fun _ _ h => .inl h)).trans (hfr.mono (fun _ _ h => .inr h))), h1.fr hfr hd, hw'.late (Nat.le_trans HF0.out.size hf1.size) HL.out hfr.size⟩

set_option maxRecDepth 100000 in
set_option maxHeartbeats 1000000 in
theorem again_k {F : Nat → Prop} {b c : Nat} {st : RSt} {wt : WSt} (k n m : Int) (oth : Bool) (s : ByteArray) (x y : Nat) (w : World) (h : Rd w b st) (hw : Wr w F c wt) (hd : ¬ F b) (k1 : k ≠ 1) (k2 : k ≠ 2) (k3 : k ≠ 3) (k4 : k ≠ 4) (k5 : k ≠ 5) (k6 : k ≠ 6) (k7 : k ≠ 7) (k8 : k ≠ 8) (k9 : k ≠ 9) (hs : wt.out.size + st.rest.size + 24 ≤ 140737488355300) :
    Calls Tryz.prog 31 #[.pointer (some ⟨b, 0, none⟩), .pointer (some ⟨c, 0, none⟩), .agg (opCells ⟨k, n, m, oth, s, x, y⟩)] w fun r w' => r = .returned (.tuple #[]) ∧ Fr (fun k => k = b ∨ F k) w w' ∧ Rd w' b (st) ∧ Wr w' (Gw F w w') c (wt) := by
  have Hs := Lib.hid hs
  have h0 : Rd (w.alloc (.cells #[.int .i64 k, .int .i64 n, .int .i64 m, .bool oth, .string s, .int .u32 x, .int .u64 y] 44)) b st := h.fr ((Fr.refl (fun _ => False) w).alloc _) (fun h => h)
  have hw0 : Wr (w.alloc (.cells #[.int .i64 k, .int .i64 n, .int .i64 m, .bool oth, .string s, .int .u32 x, .int .u64 y] 44)) F c wt := hw.below ((Below.refl _ _).alloc (Nat.le_refl _) _)
  have hF0 : Fr (fun k => k = b ∨ F k) w (w.alloc (.cells #[.int .i64 k, .int .i64 n, .int .i64 m, .bool oth, .string s, .int .u32 x, .int .u64 y] 44)) := (Fr.refl _ _).alloc _
  have H0 := Lib.hid h0
  have HW0 := Lib.hid hw0
  have HF0 := Lib.hid hF0
  have HL := Lib.hid hw.low
  unfold opCells
  clear h h0 hw hw0 hF0
  go_enter Tryz.func31, Tryz.ntmps31
  go_wp2
  go_end0
  exact ⟨rfl, HF0.out, H0.out, HW0.out.gw⟩


/-- again -/
theorem again_any {F : Nat → Prop} {b c : Nat} {st : RSt} {wt : WSt} (o : OpM) (w : World) (h : Rd w b st) (hw : Wr w F c wt) (hd : ¬ F b) (hs : wt.out.size + st.rest.size + 24 ≤ 140737488355300) :
    Calls Tryz.prog 31 #[.pointer (some ⟨b, 0, none⟩), .pointer (some ⟨c, 0, none⟩), .agg (opCells o)] w fun r w' => r = .returned (.tuple #[]) ∧ Fr (fun k => k = b ∨ F k) w w' ∧ Rd w' b (st.againS o) ∧ Wr w' (Gw F w w') c (wt.again st o) := by
  obtain ⟨k, n, m, oth, s, x, y⟩ := o
  by_cases k1 : k = 1
  · subst k1
    have hp := again_1 n m oth s x y w h hw hd hs
    simpa only [RSt.againS, WSt.again, if_true, if_false, Int.reduceEq] using hp
  by_cases k2 : k = 2
  · subst k2
    have hp := again_2 n m oth s x y w h hw hd hs
    simpa only [RSt.againS, WSt.again, if_true, if_false, Int.reduceEq] using hp
  by_cases k3 : k = 3
  · subst k3
    have hp := again_3 n m oth s x y w h hw hd hs
    simpa only [RSt.againS, WSt.again, if_true, if_false, Int.reduceEq] using hp
  by_cases k4 : k = 4
  · subst k4
    have hp := again_4 n m oth s x y w h hw hd hs
    simpa only [RSt.againS, WSt.again, if_true, if_false, Int.reduceEq] using hp
  by_cases k5 : k = 5
  · subst k5
    have hp := again_5 n m oth s x y w h hw hd hs
    simpa only [RSt.againS, WSt.again, if_true, if_false, Int.reduceEq] using hp
  by_cases k6 : k = 6
  · subst k6
    have hp := again_6 n m oth s x y w h hw hd hs
    simpa only [RSt.againS, WSt.again, if_true, if_false, Int.reduceEq] using hp
  by_cases k7 : k = 7
  · subst k7
    have hp := again_7 n m oth s x y w h hw hd hs
    simpa only [RSt.againS, WSt.again, if_true, if_false, Int.reduceEq] using hp
  by_cases k8 : k = 8
  · subst k8
    have hp := again_8 n m oth s x y w h hw hd hs
    simpa only [RSt.againS, WSt.again, if_true, if_false, Int.reduceEq] using hp
  by_cases k9 : k = 9
  · subst k9
    have hp := again_9 n m oth s x y w h hw hd hs
    simpa only [RSt.againS, WSt.again, if_true, if_false, Int.reduceEq] using hp
  have hp := again_k k n m oth s x y w h hw hd k1 k2 k3 k4 k5 k6 k7 k8 k9 hs
  have e : st.againS ⟨k, n, m, oth, s, x, y⟩ = st := by unfold RSt.againS; simp only [if_neg k1, if_neg k2, if_neg k3, if_neg k4, if_neg k5, if_neg k6, if_neg k7, if_neg k8, if_neg k9]
  have e2 : wt.again st ⟨k, n, m, oth, s, x, y⟩ = wt := by unfold WSt.again; simp only [if_neg k1, if_neg k2, if_neg k3, if_neg k4, if_neg k5, if_neg k6, if_neg k7, if_neg k8, if_neg k9]
  rw [e, e2]
  exact hp

end Go.Proofs.YtlcjfafmmoncpaaGreatDoor
