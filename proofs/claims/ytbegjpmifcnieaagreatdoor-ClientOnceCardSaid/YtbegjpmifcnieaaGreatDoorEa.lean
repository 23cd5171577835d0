/- Waits between sendings, in plain numbers: package pace and the document's callboxref16. -/
import Derived.Test.YtbegjpmifcnieaaGreatDoorBase
import Derived.Test.YtbegjpmifcnieaaGreatDoorProg
namespace Go.Proofs.YtbegjpmifcnieaaGreatDoor
open Go.RowKit
set_option linter.unusedVariables false
set_option linter.unusedSimpArgs false

structure PaceM where
  base : Int
  cap : Int
  tries : Int

def rightB (p : PaceM) : Bool := decide (p.base ≥ 1) && decide (p.base ≤ p.cap) && decide (p.cap ≤ 1048576) && decide (p.tries ≥ 1) && decide (p.tries ≤ 32)
structure Right (p : PaceM) : Prop where
  b1 : 1 ≤ p.base
  b2 : p.base ≤ p.cap
  c2 : p.cap ≤ 1048576
  t1 : 1 ≤ p.tries
  t2 : p.tries ≤ 32
theorem right_iff (p : PaceM) : rightB p = true ↔ Right p := by
  constructor
  · intro h
    simp only [rightB, Bool.and_eq_true, decide_eq_true_eq] at h
    exact ⟨h.1.1.1.1, h.1.1.1.2, h.1.1.2, h.1.2, h.2⟩
  · intro h
    simp only [rightB, Bool.and_eq_true, decide_eq_true_eq]
    exact ⟨⟨⟨⟨h.b1, h.b2⟩, h.c2⟩, h.t1⟩, h.t2⟩

/-- the n-th wait: doubled as long as it is below the bound. -/
def waitN (p : PaceM) : Nat → Int
  | 0 => p.base
  | n + 1 => min (2 * waitN p n) p.cap
theorem waitN_bounds {p : PaceM} (h : Right p) (n : Nat) : 1 ≤ waitN p n ∧ waitN p n ≤ p.cap := by
  induction n with
  | zero => exact ⟨h.b1, h.b2⟩
  | succ n ih => have := h.b1; have := h.b2; simp only [waitN]; omega
/-- in closed form. -/
theorem waitN_pow {p : PaceM} (h : Right p) (n : Nat) : waitN p n = min (p.base * 2 ^ n) p.cap := by
  induction n with
  | zero => have := h.b2; simp only [waitN, Int.pow_zero, Int.mul_one]; omega
  | succ n ih =>
    simp only [waitN, ih, Int.pow_succ]
    rw [← Int.mul_assoc]
    have := h.b1
    have hp : (0 : Int) < 2 ^ n := Int.pow_pos (by omega)
    have := Int.mul_pos (a := p.base) (b := 2 ^ n) (by omega) hp
    have := h.b2
    omega
theorem waitN_full {p : PaceM} (h : Right p) {n : Nat} (hn : 20 ≤ n) : waitN p n = p.cap := by
  rw [waitN_pow h]
  have h1 : (2 : Int) ^ 20 ≤ 2 ^ n := by
    have := Nat.pow_le_pow_right (n := 2) (by omega) hn
    exact_mod_cast this
  have h2 : (2 : Int) ^ 20 = 1048576 := by decide
  have := h.b1
  have := h.c2
  have h3 : (2 : Int) ^ n ≤ p.base * 2 ^ n := by
    have hp : (0 : Int) ≤ 2 ^ n := by omega
    have := Int.mul_le_mul_of_nonneg_right (a := 1) (b := p.base) (c := 2 ^ n) (by omega) hp
    omega
  omega
def waitM (p : PaceM) (n : Int) : Int := if rightB p = true then waitN p n.toNat else 0
/-- the sum of the first waits. -/
def sumN (p : PaceM) : Nat → Int
  | 0 => 0
  | n + 1 => sumN p n + waitN p n
theorem sumN_bounds {p : PaceM} (h : Right p) (n : Nat) : 0 ≤ sumN p n ∧ sumN p n ≤ 1048576 * n := by
  induction n with
  | zero => simp [sumN]
  | succ n ih => have := waitN_bounds h n; have := h.c2; simp only [sumN]; omega
def totalM (p : PaceM) : Int := if rightB p = true then sumN p p.tries.toNat else 0
theorem totalM_eq {p : PaceM} (h : Right p) : totalM p = sumN p p.tries.toNat := by unfold totalM; rw [if_pos ((right_iff p).2 h)]
theorem totalM_bounds (p : PaceM) : 0 ≤ totalM p ∧ totalM p ≤ 33554432 := by
  unfold totalM
  split
  · rename_i h
    have h := (right_iff p).1 h
    have h1 := sumN_bounds h p.tries.toNat
    have := h.t2
    omega
  · omega
end Go.Proofs.YtbegjpmifcnieaaGreatDoor

/- Package pace: whether a pace may be, its waits, their sum; a new Meter. -/
namespace Go.Proofs.YtbegjpmifcnieaaGreatDoor
open Go.RowKit
set_option linter.unusedVariables false
set_option linter.unusedSimpArgs false

theorem blockMove {w w' : World} {S : Nat → Prop} {b : Nat} {o : Obj} (h : Hid (w.heap[b]? = some o)) (hf : Fr S w w') (hs : ¬ S b) : Hid (w'.heap[b]? = some o) := Lib.hid ((hf.block _ (lt_of_block h.out) hs).trans h.out)
theorem box3 {w : World} {b t : Nat} {v0 v1 v2 : Value} (h : Hid (w.heap[b]? = some (.cells #[v0, v1, v2] t (0, 0)))) :
    w.cell? ⟨b, 0, none⟩ = some v0 ∧ w.cell? ⟨b, 1, none⟩ = some v1 ∧ w.cell? ⟨b, 2, none⟩ = some v2 :=
  ⟨cellOf h.out 0, cellOf h.out 1, cellOf h.out 2⟩
def paceV (p : PaceM) : Value := .agg #[.int .i64 p.base, .int .i64 p.cap, .int .i64 p.tries]
theorem right_no {p : PaceM} (h : ¬ Right p) : rightB p = false := by rw [← Bool.not_eq_true, right_iff]; exact h

theorem Right_any (p : PaceM) (w : World) : Calls Tryz.prog 76 #[paceV p] w fun r w' => r = .returned (.bool (rightB p)) ∧ Fr (fun _ => False) w w' := by
  unfold paceV
  by_cases b1 : p.base ≥ 1
  case neg =>
    have e : rightB p = false := right_no (fun h => b1 (by have := h.b1; have := h.b2; have := h.c2; have := h.t1; have := h.t2; omega))
    rw [e]
    clear e
    have b1 := Int.not_le.1 b1
    go_enter Tryz.func76, Tryz.ntmps76
    go_wp2
    go_ret
    exact ⟨rfl, (Fr.refl _ _).alloc _⟩
  by_cases b2 : p.base ≤ p.cap
  case neg =>
    have e : rightB p = false := right_no (fun h => b2 (by have := h.b1; have := h.b2; have := h.c2; have := h.t1; have := h.t2; omega))
    rw [e]
    clear e
    have b2 := Int.not_le.1 b2
    go_enter Tryz.func76, Tryz.ntmps76
    go_wp2
    go_ret
    exact ⟨rfl, (Fr.refl _ _).alloc _⟩
  by_cases c2 : p.cap ≤ 1048576
  case neg =>
    have e : rightB p = false := right_no (fun h => c2 (by have := h.b1; have := h.b2; have := h.c2; have := h.t1; have := h.t2; omega))
    rw [e]
    clear e
    have c2 := Int.not_le.1 c2
    go_enter Tryz.func76, Tryz.ntmps76
    go_wp2
    go_ret
    exact ⟨rfl, (Fr.refl _ _).alloc _⟩
  by_cases t1 : p.tries ≥ 1
  case neg =>
    have e : rightB p = false := right_no (fun h => t1 (by have := h.b1; have := h.b2; have := h.c2; have := h.t1; have := h.t2; omega))
    rw [e]
    clear e
    have t1 := Int.not_le.1 t1
    go_enter Tryz.func76, Tryz.ntmps76
    go_wp2
    go_ret
    exact ⟨rfl, (Fr.refl _ _).alloc _⟩
  by_cases t2 : p.tries ≤ 32
  case neg =>
    have e : rightB p = false := right_no (fun h => t2 (by have := h.b1; have := h.b2; have := h.c2; have := h.t1; have := h.t2; omega))
    rw [e]
    clear e
    have t2 := Int.not_le.1 t2
    go_enter Tryz.func76, Tryz.ntmps76
    go_wp2
    go_ret
    exact ⟨rfl, (Fr.refl _ _).alloc _⟩
  have e : rightB p = true := (right_iff p).2 ⟨by omega, by omega, by omega, by omega, by omega⟩
  rw [e]
  clear e
  go_enter Tryz.func76, Tryz.ntmps76
  go_wp2
  go_ret
  exact ⟨rfl, (Fr.refl _ _).alloc _⟩

theorem rRight_any (p : PaceM) (w : World) : Calls Tryz.prog 133 #[paceV p] w fun r w' => r = .returned (.bool (rightB p)) ∧ Fr (fun _ => False) w w' := by
  unfold paceV
  by_cases b1 : p.base ≥ 1
  case neg =>
    have e : rightB p = false := right_no (fun h => b1 (by have := h.b1; have := h.b2; have := h.c2; have := h.t1; have := h.t2; omega))
    rw [e]
    clear e
    have b1 := Int.not_le.1 b1
    go_enter Tryz.func133, Tryz.ntmps133
    go_wp2
    go_ret
    exact ⟨rfl, (Fr.refl _ _).alloc _⟩
  by_cases bm : p.base ≤ 1048576
  case neg =>
    have e : rightB p = false := right_no (fun h => bm (by have := h.b1; have := h.b2; have := h.c2; have := h.t1; have := h.t2; omega))
    rw [e]
    clear e
    have bm := Int.not_le.1 bm
    go_enter Tryz.func133, Tryz.ntmps133
    go_wp2
    go_ret
    exact ⟨rfl, (Fr.refl _ _).alloc _⟩
  by_cases b2r : p.cap ≥ p.base
  case neg =>
    have e : rightB p = false := right_no (fun h => b2r (by have := h.b1; have := h.b2; have := h.c2; have := h.t1; have := h.t2; omega))
    rw [e]
    clear e
    have b2r := Int.not_le.1 b2r
    go_enter Tryz.func133, Tryz.ntmps133
    go_wp2
    go_ret
    exact ⟨rfl, (Fr.refl _ _).alloc _⟩
  by_cases c2 : p.cap ≤ 1048576
  case neg =>
    have e : rightB p = false := right_no (fun h => c2 (by have := h.b1; have := h.b2; have := h.c2; have := h.t1; have := h.t2; omega))
    rw [e]
    clear e
    have c2 := Int.not_le.1 c2
    go_enter Tryz.func133, Tryz.ntmps133
    go_wp2
    go_ret
    exact ⟨rfl, (Fr.refl _ _).alloc _⟩
  by_cases t1 : p.tries ≥ 1
  case neg =>
    have e : rightB p = false := right_no (fun h => t1 (by have := h.b1; have := h.b2; have := h.c2; have := h.t1; have := h.t2; omega))
    rw [e]
    clear e
    have t1 := Int.not_le.1 t1
    go_enter Tryz.func133, Tryz.ntmps133
    go_wp2
    go_ret
    exact ⟨rfl, (Fr.refl _ _).alloc _⟩
  by_cases t2 : p.tries ≤ 32
  case neg =>
    have e : rightB p = false := right_no (fun h => t2 (by have := h.b1; have := h.b2; have := h.c2; have := h.t1; have := h.t2; omega))
    rw [e]
    clear e
    have t2 := Int.not_le.1 t2
    go_enter Tryz.func133, Tryz.ntmps133
    go_wp2
    go_ret
    exact ⟨rfl, (Fr.refl _ _).alloc _⟩
  have e : rightB p = true := (right_iff p).2 ⟨by omega, by omega, by omega, by omega, by omega⟩
  rw [e]
  clear e
  go_enter Tryz.func133, Tryz.ntmps133
  go_wp2
  go_ret
  exact ⟨rfl, (Fr.refl _ _).alloc _⟩

set_option maxRecDepth 100000 in
set_option maxHeartbeats 1000000 in
theorem Wait_any (p : PaceM) (n : Int) (w : World) : Calls Tryz.prog 163 #[paceV p, .int .i64 n] w fun r w' => r = .returned (.int .i64 (waitM p n)) ∧ Fr (fun _ => False) w w' := by
  unfold waitM
  by_cases hr : rightB p = true
  case neg =>
    rw [if_neg hr]
    rw [Bool.not_eq_true] at hr
    have HR := Lib.hid (Right_any p)
    rw [hr] at HR
    unfold paceV at *
    go_enter Tryz.func163, Tryz.ntmps163
    go_wp2_with (go_at_call 76; refine (HR.out _).mono ?_; rintro e w1 ⟨rfl, hf1⟩)
    go_ret
    exact ⟨rfl, ((Fr.refl _ _).alloc _).trans hf1⟩
  rw [if_pos hr]
  have HR := Lib.hid (Right_any p)
  rw [hr] at HR
  have h := (right_iff p).1 hr
  clear hr
  have hx := Lib.hid (heap_alloc_new w (.cells #[.int .i64 p.base, .int .i64 p.cap, .int .i64 p.tries] 23))
  have hw0 := Lib.hid (fun k => waitN_bounds h k)
  have hw1 := Lib.hid (fun k => waitN_full (p := p) h (n := k))
  have b1 := h.b1
  have b2 := h.b2
  have c2 := h.c2
  clear h
  unfold paceV at *
  by_cases h20 : 20 < n
  · go_enter Tryz.func163, Tryz.ntmps163
    go_wp2_with (go_at_call 76; refine (HR.out _).mono ?_; rintro e w1 ⟨rfl, hf1⟩; have hx1 := blockMove hx hf1 id; obtain ⟨n0, n1, n2⟩ := box3 hx1)
    clear n0 n1 n2
    have HF := Lib.hid (((Fr.refl (fun _ => False) w).alloc (.cells #[.int .i64 p.base, .int .i64 p.cap, .int .i64 p.tries] 23)).trans hf1)
    clear hf1 hx HR
    go_loopw [5, 13] (fun x i wr => ∃ k : Nat, k ≤ 20 ∧ i = .int .i64 k ∧ x = .int .i64 (waitN p k) ∧ Hid (wr = w1)) (fun _ i _ => 20 - (intOf i).toNat)
    case atStart => exact ⟨0, Nat.zero_le _, rfl, rfl, Lib.hid rfl⟩
    case round =>
      obtain ⟨k, hk, rfl, rfl, hw⟩ := hrel
      obtain rfl := hw.out
      clear hw
      obtain ⟨n0, n1, n2⟩ := box3 hx1
      by_cases hlt : (k : Int) < 20
      · have ⟨c0, c1⟩ := hw0.out k
        have e1 : Hid (waitN p (k + 1) = min (2 * waitN p k) p.cap) := Lib.hid rfl
        generalize waitN p k = x at c0 c1 e1
        have hm : (if 2 * x ≤ p.cap then 2 * x else p.cap) = min (2 * x) p.cap := by omega
        have HM := Lib.hid hm
        clear hm
        by_cases hc : 2 * x ≤ p.cap
        · go_wp2
          exact ⟨⟨k + 1, by omega, by go_num, by rw [e1.out]; simp only [Value.int.injEq, true_and]; omega, by first | exact Lib.hid rfl | trivial⟩, by simp [intOf]; omega⟩
        · go_wp2
          exact ⟨⟨k + 1, by omega, by go_num, by rw [e1.out]; simp only [Value.int.injEq, true_and]; omega, by first | exact Lib.hid rfl | trivial⟩, by simp [intOf]; omega⟩
      · have E0 : Hid (waitN p k = waitN p n.toNat) := Lib.hid (by rw [hw1.out k (by omega), hw1.out n.toNat (by omega)])
        generalize waitN p k = x at E0
        go_wp2
        go_ret
        exact ⟨by rw [E0.out]; rfl, HF.out⟩
  · have h20 := Int.not_lt.1 h20
    go_enter Tryz.func163, Tryz.ntmps163
    go_wp2_with (go_at_call 76; refine (HR.out _).mono ?_; rintro e w1 ⟨rfl, hf1⟩; have hx1 := blockMove hx hf1 id; obtain ⟨n0, n1, n2⟩ := box3 hx1)
    clear n0 n1 n2
    have HF := Lib.hid (((Fr.refl (fun _ => False) w).alloc (.cells #[.int .i64 p.base, .int .i64 p.cap, .int .i64 p.tries] 23)).trans hf1)
    clear hf1 hx HR
    go_loopw [5, 13] (fun x i wr => ∃ k : Nat, k ≤ n.toNat ∧ i = .int .i64 k ∧ x = .int .i64 (waitN p k) ∧ Hid (wr = w1)) (fun _ i _ => n.toNat - (intOf i).toNat)
    case atStart => exact ⟨0, Nat.zero_le _, rfl, rfl, Lib.hid rfl⟩
    case round =>
      obtain ⟨k, hk, rfl, rfl, hw⟩ := hrel
      obtain rfl := hw.out
      clear hw
      obtain ⟨n0, n1, n2⟩ := box3 hx1
      by_cases hlt : (k : Int) < n
      · have ⟨c0, c1⟩ := hw0.out k
        have e1 : Hid (waitN p (k + 1) = min (2 * waitN p k) p.cap) := Lib.hid rfl
        generalize waitN p k = x at c0 c1 e1
        have hm : (if 2 * x ≤ p.cap then 2 * x else p.cap) = min (2 * x) p.cap := by omega
        have HM := Lib.hid hm
        clear hm
        by_cases hc : 2 * x ≤ p.cap
        · go_wp2
          exact ⟨⟨k + 1, by omega, by go_num, by rw [e1.out]; simp only [Value.int.injEq, true_and]; omega, by first | exact Lib.hid rfl | trivial⟩, by simp [intOf]; omega⟩
        · go_wp2
          exact ⟨⟨k + 1, by omega, by go_num, by rw [e1.out]; simp only [Value.int.injEq, true_and]; omega, by first | exact Lib.hid rfl | trivial⟩, by simp [intOf]; omega⟩
      · have E0 : Hid (waitN p k = waitN p n.toNat) := Lib.hid (by rw [show k = n.toNat by omega])
        generalize waitN p k = x at E0
        go_wp2
        go_ret
        exact ⟨by rw [E0.out]; rfl, HF.out⟩

set_option maxRecDepth 100000 in
set_option maxHeartbeats 1000000 in
theorem Total_any (p : PaceM) (w : World) : Calls Tryz.prog 84 #[paceV p] w fun r w' => r = .returned (.int .i64 (totalM p)) ∧ Fr (fun _ => False) w w' := by
  unfold totalM
  by_cases hr : rightB p = true
  case neg =>
    rw [if_neg hr]
    rw [Bool.not_eq_true] at hr
    have HR := Lib.hid (Right_any p)
    rw [hr] at HR
    unfold paceV at *
    go_enter Tryz.func84, Tryz.ntmps84
    go_wp2_with (go_at_call 76; refine (HR.out _).mono ?_; rintro e w1 ⟨rfl, hf1⟩)
    go_ret
    exact ⟨rfl, ((Fr.refl _ _).alloc _).trans hf1⟩
  rw [if_pos hr]
  have HR := Lib.hid (Right_any p)
  have HW := Lib.hid (Wait_any p)
  have h := (right_iff p).1 hr
  have HE := Lib.hid (fun n : Int => (show waitM p n = waitN p n.toNat by unfold waitM; rw [if_pos hr]))
  rw [hr] at HR
  clear hr
  have hx := Lib.hid (heap_alloc_new w (.cells #[.int .i64 p.base, .int .i64 p.cap, .int .i64 p.tries] 23))
  have HH := Lib.hid h
  have t1 := h.t1
  have t2 := h.t2
  clear h
  unfold paceV at *
  go_enter Tryz.func84, Tryz.ntmps84
  go_wp2_with (go_at_call 76; refine (HR.out _).mono ?_; rintro e w1 ⟨rfl, hf1⟩; have hx1 := blockMove hx hf1 id; obtain ⟨n0, n1, n2⟩ := box3 hx1)
  clear n0 n1 n2
  have HF := Lib.hid (((Fr.refl (fun _ => False) w).alloc (.cells #[.int .i64 p.base, .int .i64 p.cap, .int .i64 p.tries] 23)).trans hf1)
  clear hf1 hx HR
  go_loopw [3, 4, 10] (fun s n i wr => ∃ k : Nat, (k : Int) ≤ p.tries ∧ i = .int .i64 k ∧ s = .int .i64 (sumN p k) ∧ (∃ m : Value, n = m) ∧ Hid (Fr (fun _ => False) w wr) ∧ Hid (wr.heap[w.heap.size]? = some (.cells #[.int .i64 p.base, .int .i64 p.cap, .int .i64 p.tries] 23 (0, 0)))) (fun _ _ i _ => p.tries.toNat - (intOf i).toNat)
  case atStart => exact ⟨0, by omega, rfl, rfl, ⟨_, rfl⟩, HF, hx1⟩
  case round =>
    obtain ⟨k, hk, rfl, rfl, ⟨m, rfl⟩, hf, hx⟩ := hrel
    clear hx1 HF
    obtain ⟨n0, n1, n2⟩ := box3 hx
    have ⟨s0, s1⟩ := sumN_bounds HH.out k
    have ⟨u0, u1⟩ := waitN_bounds HH.out k
    have u2 := HH.out.c2
    have hS : Hid (sumN p (k + 1) = sumN p k + waitN p k) := Lib.hid rfl
    have hW : Hid (waitM p (k : Int) = waitN p k) := Lib.hid (HE.out k)
    by_cases hlt : (k : Int) < p.tries
    · have HC := Lib.hid (HW.out (k : Int))
      rw [hW.out] at HC
      generalize waitN p k = x at u0 u1 hS HC
      generalize sumN p k = s at s0 s1 hS
      clear HW hW HE
      go_wp2_with (go_at_call 163; refine (HC.out _).mono ?_; rintro e w2 ⟨rfl, hf2⟩)
      exact ⟨⟨k + 1, by omega, by go_num, by rw [hS.out], ⟨_, rfl⟩, Lib.hid (hf.out.trans hf2), blockMove hx hf2 id⟩, by simp [intOf]; omega⟩
    · obtain rfl : k = p.tries.toNat := by omega
      clear hS hW HE HW s0 s1 u0 u1
      go_wp2
      go_ret
      exact ⟨rfl, hf.out⟩

theorem NewMeter_any (w : World) : Calls Tryz.prog 78 #[] w fun r w' => r = .returned (.pointer (some ⟨w.heap.size, 0, none⟩)) ∧ w' = w.alloc (.cells #[.bool false, .float .f32 0, .float .f32 0] 254) := by
  go_enter Tryz.func78, Tryz.ntmps78
  go_wp2
  go_ret
  exact ⟨rfl, rfl⟩
end Go.Proofs.YtbegjpmifcnieaaGreatDoor
