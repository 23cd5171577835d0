/- Plain laws of the calls of a script: what is laid down is read as it was. No program stands here. -/
import Derived.Test.YtlcjfafmmoncpaaGreatDoorFi
namespace Go.Proofs.YtlcjfafmmoncpaaGreatDoor
open Go.RowKit
set_option linter.unusedVariables false
set_option linter.unusedSimpArgs false

theorem numStr4_mod (n : Int) : numStr n 4 = numStr (n % 4294967296) 4 := by
  have e : numInts n 4 4 = numInts (n % 4294967296) 4 4 := by
    rw [numInts4, numInts4]
    unfold byteUp
    have a1 : n / 2 ^ 24 % 256 = n % 4294967296 / 2 ^ 24 % 256 := by omega
    have a2 : n / 2 ^ 16 % 256 = n % 4294967296 / 2 ^ 16 % 256 := by omega
    have a3 : n / 2 ^ 8 % 256 = n % 4294967296 / 2 ^ 8 % 256 := by omega
    have a4 : n / 2 ^ 0 % 256 = n % 4294967296 / 2 ^ 0 % 256 := by omega
    rw [a1, a2, a3, a4]
  unfold numStr
  rw [e]
theorem r_peekOk (n : Int) (K : Nat) (y : ByteArray) : (RSt.mk (numStr n K ++ y) 0).peekOk K = true := by
  simp [RSt.peekOk, ByteArray.size_append, numStr_size]
theorem r_int (z : Int) (y : ByteArray) (h : -2147483648 ≤ z ∧ z ≤ 2147483647) : (RSt.mk (numStr (U64 z) 4 ++ y) 0).intV = z := by
  rw [numStr4_mod]
  unfold RSt.intV
  rw [r_peekV _ 4 y (by omega) (by omega)]
  have e : U64 z % 4294967296 = z % 4294967296 := by
    show IntKind.u64.wrap z % 4294967296 = _
    rw [IntKind.wrap_u64]
    omega
  rw [e]
  unfold wrap64 wrap32
  omega
theorem r_hyp (z : Int) (y : ByteArray) (h : -9223372036854775808 ≤ z ∧ z ≤ 9223372036854775807) : (RSt.mk (numStr (U64 z) 8 ++ y) 0).hyperV = z := by
  have e : U64 z = z % 18446744073709551616 := by show IntKind.u64.wrap z = _; rw [IntKind.wrap_u64]
  unfold RSt.hyperV
  rw [e, r_peekV _ 8 y (by omega) (by omega)]
  unfold wrap64
  omega
theorem r_bool (b : Bool) (y : ByteArray) : (RSt.mk (numStr (if b = true then 1 else 0) 4 ++ y) 0).boolS = ⟨y, 0⟩ ∧ (RSt.mk (numStr (if b = true then 1 else 0) 4 ++ y) 0).boolV = b := by
  have hp := r_peekV (if b = true then 1 else 0) 4 y (by split <;> decide) (by split <;> decide)
  unfold RSt.boolS RSt.boolV
  rw [hp, if_neg (by split <;> decide)]
  refine ⟨r_uint _ _, ?_⟩
  cases b <;> rfl
theorem r_float (x : Nat) (y : ByteArray) (h : bitsF .f32 x < 4294967296) : (RSt.mk (numStr (bitsF .f32 x : Nat) 4 ++ y) 0).floatS = ⟨y, 0⟩ ∧ (RSt.mk (numStr (bitsF .f32 x : Nat) 4 ++ y) 0).floatV = bitsF .f32 x := by
  have hp := r_peekV (bitsF .f32 x : Nat) 4 y (by omega) (by omega)
  have hk : (RSt.mk (numStr (bitsF .f32 x : Nat) 4 ++ y) 0).floatOk = true := by
    unfold RSt.floatOk
    rw [r_peekOk, hp, Int.toNat_natCast, bad_bits]; rfl
  unfold RSt.floatS RSt.floatV
  rw [if_pos hk, if_pos hk, hp]
  exact ⟨r_uint _ _, Int.toNat_natCast _⟩
theorem r_double (x : Nat) (y : ByteArray) (h : bitsF .f64 x < 18446744073709551616) : (RSt.mk (numStr (bitsF .f64 x : Nat) 8 ++ y) 0).doubleS = ⟨y, 0⟩ ∧ (RSt.mk (numStr (bitsF .f64 x : Nat) 8 ++ y) 0).doubleV = bitsF .f64 x := by
  have hp := r_peekV (bitsF .f64 x : Nat) 8 y (by omega) (by omega)
  have hk : (RSt.mk (numStr (bitsF .f64 x : Nat) 8 ++ y) 0).doubleOk = true := by
    unfold RSt.doubleOk
    rw [r_peekOk, hp, Int.toNat_natCast, bad_bits]; rfl
  unfold RSt.doubleS RSt.doubleV
  rw [if_pos hk, if_pos hk, hp]
  exact ⟨r_hyper _ _, Int.toNat_natCast _⟩

end Go.Proofs.YtlcjfafmmoncpaaGreatDoor
