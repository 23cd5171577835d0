/- Numbers with a point, as their bits; package real. -/
import Derived.Test.YtlcjfafmmoncpaaGreatDoorXw
import Derived.Laws.Externs
import Derived.Laws.Cover2
import Derived.Laws.FloatArith
namespace Go.Proofs.YtlcjfafmmoncpaaGreatDoor
open Go.RowKit
set_option linter.unusedVariables false
set_option linter.unusedSimpArgs false

@[go_sem] theorem call_f32bits (b : Nat) (w : World) : (callFunc 156 #[.float .f32 b]).run Tryz.prog w = .ok (.value (.int .u32 b)) w := by
  rw [run_callFunc_extern Tryz.func156 (by kernel_rfl) (by kernel_rfl) (by kernel_rfl) (e := Extern.MathFloatBits.float32bits) (by kernel_rfl)]; rfl
@[go_sem] theorem call_f64bits (b : Nat) (w : World) : (callFunc 160 #[.float .f64 b]).run Tryz.prog w = .ok (.value (.int .u64 b)) w := by
  rw [run_callFunc_extern Tryz.func160 (by kernel_rfl) (by kernel_rfl) (by kernel_rfl) (e := Extern.MathFloatBits.float64bits) (by kernel_rfl)]; rfl
@[go_sem] theorem call_f32from (b : Nat) (w : World) : (callFunc 158 #[.int .u32 b]).run Tryz.prog w = .ok (.value (.float .f32 b)) w := by
  rw [run_callFunc_extern Tryz.func158 (by kernel_rfl) (by kernel_rfl) (by kernel_rfl) (e := Extern.MathFloatBits.float32frombits) (by kernel_rfl)]; rfl
@[go_sem] theorem call_f64from (b : Nat) (w : World) : (callFunc 161 #[.int .u64 b]).run Tryz.prog w = .ok (.value (.float .f64 b)) w := by
  rw [run_callFunc_extern Tryz.func161 (by kernel_rfl) (by kernel_rfl) (by kernel_rfl) (e := Extern.MathFloatBits.float64frombits) (by kernel_rfl)]; rfl

/-- is it no number? -/
def nanF (k : FloatKind) (b : Nat) : Bool := k.format.order b b != some .eq
def theNan : FloatKind → Nat
  | .f32 => 2143289344
  | .f64 => 9221120237041090560
/-- the bits of a number: of what is none, those of the one. -/
def bitsF (k : FloatKind) (x : Nat) : Nat := if nanF k x = true then theNan k else x
def badF (k : FloatKind) (b : Nat) : Bool := nanF k b && b != theNan k
def fromF (k : FloatKind) (b : Nat) : Nat := if badF k b = true then 0 else b
def fromE (k : FloatKind) (b : Nat) : Int := if badF k b = true then 10 else 0

theorem nan_theNan (k : FloatKind) : nanF k (theNan k) = true := by cases k <;> kernel_rfl
theorem bits_bits (k : FloatKind) (x : Nat) : bitsF k (bitsF k x) = bitsF k x := by
  unfold bitsF
  by_cases h : nanF k x = true
  · rw [if_pos h, if_pos (nan_theNan k)]
  · rw [if_neg h, if_neg h]
theorem bad_bits (k : FloatKind) (x : Nat) : badF k (bitsF k x) = false := by
  unfold badF bitsF
  by_cases h : nanF k x = true
  · rw [if_pos h]; simp
  · rw [if_neg h]; simp [h]
theorem from_bits (k : FloatKind) (x : Nat) : fromF k (bitsF k x) = bitsF k x := by unfold fromF; rw [bad_bits]; rfl
/-- what was read rightly has just these bits. -/
theorem bits_from {k : FloatKind} {b : Nat} (h : badF k b = false) : bitsF k b = b := by
  unfold badF at h
  unfold bitsF
  by_cases h1 : nanF k b = true
  · rw [if_pos h1]
    simp [h1] at h
    exact h.symm
  · rw [if_neg h1]
def widthF : FloatKind → Nat
  | .f32 => 4294967296
  | .f64 => 18446744073709551616
theorem bits_lt {k : FloatKind} {b : Nat} (h : b < widthF k) : bitsF k b < widthF k := by
  unfold bitsF
  split
  · cases k <;> decide
  · exact h

theorem nan_drawn32 (t : Nat) : nanF .f32 ((t % 2) * 2 ^ 31 + 0x7f800000 + 1 + (t / 2) % (2 ^ 23 - 1)) = true := by
  have h1 : t % 2 < 2 := Nat.mod_lt _ (by decide)
  have h2 : (t / 2) % (2 ^ 23 - 1) < 2 ^ 23 - 1 := Nat.mod_lt _ (by decide)
  generalize (t / 2) % (2 ^ 23 - 1) = r at *
  generalize t % 2 = s at *
  have e : ((s * 2 ^ 31 + 0x7f800000 + 1 + r) % 2147483648) = 2139095041 + r := by omega
  have hread : ∃ b f, (Ieee.single).read (s * 2 ^ 31 + 0x7f800000 + 1 + r) = .nan b f := by
    unfold Ieee.Format.read
    rw [show (Ieee.single).signWeight = 2147483648 from by decide, show (Ieee.single).binade = 8388608 from by decide, show (Ieee.single).infRung = 2139095040 from by decide]
    dsimp only
    rw [e, if_neg (by omega), if_neg (by omega), if_neg (by omega)]
    exact ⟨_, _, rfl⟩
  obtain ⟨b, f, hr⟩ := hread
  show ((Ieee.single).order _ _ != some .eq) = true
  unfold Ieee.Format.order
  rw [hr]
  rfl
theorem nan_drawn64 (t : Nat) : nanF .f64 ((t % 2) * 2 ^ 63 + 0x7ff0000000000000 + 1 + (t / 2) % (2 ^ 52 - 1)) = true := by
  have h1 : t % 2 < 2 := Nat.mod_lt _ (by decide)
  have h2 : (t / 2) % (2 ^ 52 - 1) < 2 ^ 52 - 1 := Nat.mod_lt _ (by decide)
  generalize (t / 2) % (2 ^ 52 - 1) = r at *
  generalize t % 2 = s at *
  have e : ((s * 2 ^ 63 + 0x7ff0000000000000 + 1 + r) % 9223372036854775808) = 9218868437227405313 + r := by omega
  have hread : ∃ b f, (Ieee.double).read (s * 2 ^ 63 + 0x7ff0000000000000 + 1 + r) = .nan b f := by
    unfold Ieee.Format.read
    rw [show (Ieee.double).signWeight = 9223372036854775808 from by decide, show (Ieee.double).binade = 4503599627370496 from by decide, show (Ieee.double).infRung = 9218868437227405312 from by decide]
    dsimp only
    rw [e, if_neg (by omega), if_neg (by omega), if_neg (by omega)]
    exact ⟨_, _, rfl⟩
  obtain ⟨b, f, hr⟩ := hread
  show ((Ieee.double).order _ _ != some .eq) = true
  unfold Ieee.Format.order
  rw [hr]
  rfl

/-- nought through nought. -/
theorem run_nan32 {P : Program} (t : TypeId) (w : World) : ∃ r, nanF .f32 r = true ∧ (binOp .quo t (.float .f32 0) (.float .f32 0)).run P w = .ok (.float .f32 r) w.drew := by
  have hd : Ieee.single.div 0 0 = none := by decide
  refine ⟨_, nan_drawn32 (w.tape w.drawn (.nanBits .f32 0 0)), ?_⟩
  simp [binOp, Op.floatArith, FloatKind.format, hd, Question.forced, Question.cut]
theorem run_nan64 {P : Program} (t : TypeId) (w : World) : ∃ r, nanF .f64 r = true ∧ (binOp .quo t (.float .f64 0) (.float .f64 0)).run P w = .ok (.float .f64 r) w.drew := by
  have hd : Ieee.double.div 0 0 = none := by decide
  refine ⟨_, nan_drawn64 (w.tape w.drawn (.nanBits .f64 0 0)), ?_⟩
  simp [binOp, Op.floatArith, FloatKind.format, hd, Question.forced, Question.cut]

theorem Bits32_any (x : Nat) (w : World) : Calls Tryz.prog 121 #[.float .f32 x] w fun r w' => r = .returned (.int .u32 (bitsF .f32 x : Nat)) ∧ w = w' := by
  by_cases h : nanF .f32 x = true
  · rw [show bitsF .f32 x = 2143289344 from if_pos h]
    unfold nanF at h
    go_enter Tryz.func121, Tryz.ntmps121
    go_wp2
    go_ret
    exact ⟨rfl, rfl⟩
  · rw [show bitsF .f32 x = x from if_neg h]
    rw [Bool.not_eq_true] at h
    unfold nanF at h
    go_enter Tryz.func121, Tryz.ntmps121
    go_wp2
    go_ret
    exact ⟨rfl, rfl⟩
theorem Bits64_any (x : Nat) (w : World) : Calls Tryz.prog 128 #[.float .f64 x] w fun r w' => r = .returned (.int .u64 (bitsF .f64 x : Nat)) ∧ w = w' := by
  by_cases h : nanF .f64 x = true
  · rw [show bitsF .f64 x = 9221120237041090560 from if_pos h]
    unfold nanF at h
    go_enter Tryz.func128, Tryz.ntmps128
    go_wp2
    go_ret
    exact ⟨rfl, rfl⟩
  · rw [show bitsF .f64 x = x from if_neg h]
    rw [Bool.not_eq_true] at h
    unfold nanF at h
    go_enter Tryz.func128, Tryz.ntmps128
    go_wp2
    go_ret
    exact ⟨rfl, rfl⟩

end Go.Proofs.YtlcjfafmmoncpaaGreatDoor
