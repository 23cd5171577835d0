/- Waits between sendings, in plain numbers: package pace and the document's callboxref16. -/
import Derived.Test.YtlcjfafmmoncpaaGreatDoorBase
namespace Go.Proofs.YtlcjfafmmoncpaaGreatDoor
open Go.RowKit
set_option linter.unusedVariables false
set_option linter.unusedSimpArgs false

structure PaceM where
  base : Int
  cap : Int
  tries : Int

def rightB (p : PaceM) : Bool := decide (p.base ≥ 1) && decide (p.base ≤ p.cap) && decide (p.cap ≤ 1048576) && decide (p.tries ≥ 1) && decide (p.tries ≤ 32)
structure Right (p : PaceM) : Prop where
  b1 : 1 ≤ p.base
  b2 : p.base ≤ p.cap
  c2 : p.cap ≤ 1048576
  t1 : 1 ≤ p.tries
  t2 : p.tries ≤ 32
theorem right_iff (p : PaceM) : rightB p = true ↔ Right p := by
  constructor
  · intro h
    simp only [rightB, Bool.and_eq_true, decide_eq_true_eq] at h
    exact ⟨h.1.1.1.1, h.1.1.1.2, h.1.1.2, h.1.2, h.2⟩
  · intro h
    simp only [rightB, Bool.and_eq_true, decide_eq_true_eq]
    exact ⟨⟨⟨⟨h.b1, h.b2⟩, h.c2⟩, h.t1⟩, h.t2⟩

/-- the n-th wait: doubled as long as it is below the bound. -/
def waitN (p : PaceM) : Nat → Int
  | 0 => p.base
  | n + 1 => min (2 * waitN p n) p.cap
theorem waitN_bounds {p : PaceM} (h : Right p) (n : Nat) : 1 ≤ waitN p n ∧ waitN p n ≤ p.cap := by
  induction n with
  | zero => exact ⟨h.b1, h.b2⟩
  | succ n ih => have := h.b1; have := h.b2; simp only [waitN]; omega
/-- in closed form. -/
theorem waitN_pow {p : PaceM} (h : Right p) (n : Nat) : waitN p n = min (p.base * 2 ^ n) p.cap := by
  induction n with
  | zero => have := h.b2; simp only [waitN, Int.pow_zero, Int.mul_one]; omega
  | succ n ih =>
    simp only [waitN, ih, Int.pow_succ]
    rw [← Int.mul_assoc]
    have := h.b1
    have hp : (0 : Int) < 2 ^ n := Int.pow_pos (by omega)
    have := Int.mul_pos (a := p.base) (b := 2 ^ n) (by omega) hp
    have := h.b2
    omega
theorem waitN_full {p : PaceM} (h : Right p) {n : Nat} (hn : 20 ≤ n) : waitN p n = p.cap := by
  rw [waitN_pow h]
  have h1 : (2 : Int) ^ 20 ≤ 2 ^ n := by
    have := Nat.pow_le_pow_right (n := 2) (by omega) hn
    exact_mod_cast this
  have h2 : (2 : Int) ^ 20 = 1048576 := by decide
  have := h.b1
  have := h.c2
  have h3 : (2 : Int) ^ n ≤ p.base * 2 ^ n := by
    have hp : (0 : Int) ≤ 2 ^ n := by omega
    have := Int.mul_le_mul_of_nonneg_right (a := 1) (b := p.base) (c := 2 ^ n) (by omega) hp
    omega
  omega
def waitM (p : PaceM) (n : Int) : Int := if rightB p = true then waitN p n.toNat else 0
/-- the sum of the first waits. -/
def sumN (p : PaceM) : Nat → Int
  | 0 => 0
  | n + 1 => sumN p n + waitN p n
theorem sumN_bounds {p : PaceM} (h : Right p) (n : Nat) : 0 ≤ sumN p n ∧ sumN p n ≤ 1048576 * n := by
  induction n with
  | zero => simp [sumN]
  | succ n ih => have := waitN_bounds h n; have := h.c2; simp only [sumN]; omega
def totalM (p : PaceM) : Int := if rightB p = true then sumN p p.tries.toNat else 0
theorem totalM_eq {p : PaceM} (h : Right p) : totalM p = sumN p p.tries.toNat := by unfold totalM; rw [if_pos ((right_iff p).2 h)]
theorem totalM_bounds (p : PaceM) : 0 ≤ totalM p ∧ totalM p ≤ 33554432 := by
  unfold totalM
  split
  · rename_i h
    have h := (right_iff p).1 h
    have h1 := sumN_bounds h p.tries.toNat
    have := h.t2
    omega
  · omega
end Go.Proofs.YtlcjfafmmoncpaaGreatDoor
