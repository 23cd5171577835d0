/- addsUp of callboxlaw02. -/
import Derived.Test.YtlcjfafmmoncpaaGreatDoorFm
namespace Go.Proofs.YtlcjfafmmoncpaaGreatDoor
open Go.RowKit
set_option linter.unusedVariables false
set_option linter.unusedSimpArgs false

def addsM (n m : Int) : Int := if n > 2147483647 ∨ m > 2147483647 then 2147483648 else n + m
theorem addsUp_same (n m : Int) (w : World) (hn : 0 ≤ n) (hm : 0 ≤ m) : Calls Tryz.prog 17 #[.int .i64 n, .int .i64 m] w fun r w' => r = .returned (.int .i64 (addsM n m)) ∧ w' = w := by
  by_cases h1 : 2147483647 < n
  · have e : addsM n m = 2147483648 := by simp [addsM, h1]
    rw [e]; clear e
    go_enter Tryz.func17, Tryz.ntmps17
    go_wp2
    go_ret
    exact ⟨rfl, rfl⟩
  · have h1 := Int.not_lt.1 h1
    by_cases h2 : 2147483647 < m
    · have e : addsM n m = 2147483648 := by simp [addsM, h2]
      rw [e]; clear e
      go_enter Tryz.func17, Tryz.ntmps17
      go_wp2
      go_ret
      exact ⟨rfl, rfl⟩
    · have h2 := Int.not_lt.1 h2
      have e : addsM n m = n + m := by simp only [addsM]; rw [if_neg (by omega)]
      rw [e]; clear e
      go_enter Tryz.func17, Tryz.ntmps17
      go_wp2
      go_ret
      exact ⟨rfl, rfl⟩

theorem addsM_nonneg {n m : Int} (hn : 0 ≤ n) (hm : 0 ≤ m) : 0 ≤ addsM n m := by unfold addsM; split <;> omega

def weighsM : List OpM → Int → Int
  | [], n => n
  | o :: l, n => if n ≤ 2147483647 then weighsM l (addsM n (addsM 16 o.s.size)) else n

end Go.Proofs.YtlcjfafmmoncpaaGreatDoor
