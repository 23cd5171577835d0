/- One call of a script (callboxlaw02); a raw number as a word, and as one of some. -/
import Derived.Test.YtlcjfafmmoncpaaGreatDoorFd
namespace Go.Proofs.YtlcjfafmmoncpaaGreatDoor
open Go.RowKit
set_option linter.unusedVariables false
set_option linter.unusedSimpArgs false

structure OpM where
  kind : Int
  n : Int
  m : Int
  other : Bool
  s : ByteArray
  single : Nat
  double : Nat
def opCells (o : OpM) : Array Value := #[.int .i64 o.kind, .int .i64 o.n, .int .i64 o.m, .bool o.other, .string o.s, .int .u32 o.single, .int .u64 o.double]
/-- what a call's parts are by their types. -/
structure OpM.Is (o : OpM) : Prop where
  n : -9223372036854775808 ≤ o.n ∧ o.n ≤ 9223372036854775807
  m : -9223372036854775808 ≤ o.m ∧ o.m ≤ 9223372036854775807
  single : o.single < 4294967296
  double : o.double < 18446744073709551616
  s : o.s.size ≤ 140737488351232

def wordM (n : Int) : Int := n % 4294967296
def withinM (n most : Int) : Int := (if n < 0 then -(n + 1) else n) % most
theorem wordM_bound (n : Int) : 0 ≤ wordM n ∧ wordM n ≤ 4294967295 := by unfold wordM; omega
theorem withinM_bound (n : Int) {most : Int} (h : 0 < most) : 0 ≤ withinM n most ∧ withinM n most < most := by
  unfold withinM
  exact ⟨Int.emod_nonneg _ (by omega), Int.emod_lt_of_pos _ h⟩

theorem and_word (n : Int) : bits .and .i64 n 4294967295 = n % 4294967296 := by
  have hm : (BitVec.ofInt 64 4294967295).toNat = 2 ^ 32 - 1 := by decide
  have key : (BitVec.ofInt 64 n &&& BitVec.ofInt 64 4294967295).toNat = (n % ((2 ^ 64 : Nat) : Int)).toNat % 2 ^ 32 := by
    rw [BitVec.toNat_and, BitVec.toNat_ofInt, hm, Nat.and_two_pow_sub_one_eq_mod]
  show IntKind.i64.wrap ((BitVec.ofInt 64 n &&& BitVec.ofInt 64 4294967295).toNat : Nat) = n % 4294967296
  rw [key, IntKind.wrap_i64]
  omega

theorem word_any (n : Int) (w : World) : Calls Tryz.prog 95 #[.int .i64 n] w fun r w' => r = .returned (.int .i64 (wordM n)) ∧ w = w' := by
  have e := and_word n
  unfold wordM
  go_enter Tryz.func95, Tryz.ntmps95
  go_wp2
  go_ret
  exact ⟨by rw [← e]; rfl, rfl⟩

theorem within_any (n most : Int) (w : World) (hn : -9223372036854775808 ≤ n ∧ n ≤ 9223372036854775807) (hm : 1 ≤ most ∧ most ≤ 4294967296) :
    Calls Tryz.prog 96 #[.int .i64 n, .int .i64 most] w fun r w' => r = .returned (.int .i64 (withinM n most)) ∧ w = w' := by
  obtain ⟨h1, h2⟩ := hn
  obtain ⟨h3, h4⟩ := hm
  unfold withinM
  by_cases h : n < 0
  · rw [if_pos h]
    have e := Int.tmod_eq_emod_of_nonneg (b := most) (show 0 ≤ -(n + 1) by omega)
    have hb := Int.emod_nonneg (-(n + 1)) (show most ≠ 0 by omega)
    have hb2 := Int.emod_lt_of_pos (-(n + 1)) (show 0 < most by omega)
    go_enter Tryz.func96, Tryz.ntmps96
    go_wp2
    go_ret
    exact ⟨rfl, rfl⟩
  · rw [if_neg h]
    have e := Int.tmod_eq_emod_of_nonneg (b := most) (show 0 ≤ n by omega)
    go_enter Tryz.func96, Tryz.ntmps96
    go_wp2
    go_ret
    exact ⟨rfl, rfl⟩

end Go.Proofs.YtlcjfafmmoncpaaGreatDoor
