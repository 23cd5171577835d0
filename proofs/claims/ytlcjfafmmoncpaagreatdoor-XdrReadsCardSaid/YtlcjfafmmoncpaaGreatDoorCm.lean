/- Package cred: marks: whether one may be, and PrintMark. -/
import Derived.Test.YtlcjfafmmoncpaaGreatDoorCp
namespace Go.Proofs.YtlcjfafmmoncpaaGreatDoor
open Go.RowKit
set_option linter.unusedVariables false
set_option linter.unusedSimpArgs false

def inB (n : Int) : Bool := decide (1 ≤ n) && decide (n ≤ 4294967295)
theorem inB_of {n : Int} (h : 1 ≤ n ∧ n ≤ 4294967295) : inB n = true := by simp [inB, h.1, h.2]
theorem inB_no {n : Int} (h : ¬ (1 ≤ n ∧ n ≤ 4294967295)) : inB n = false := by
  rw [← Bool.not_eq_true]; intro h2; simp [inB] at h2; exact h h2

theorem mayIn_any (n : Int) (w : World) : Calls Tryz.prog 169 #[.int .i64 n] w fun r w' => r = .returned (.bool (inB n)) ∧ w = w' := by
  by_cases h : 1 ≤ n
  · by_cases h2 : n ≤ 4294967295
    · rw [inB_of ⟨h, h2⟩]
      go_enter Tryz.func169, Tryz.ntmps169
      go_wp2
      go_ret
      exact ⟨rfl, rfl⟩
    · rw [inB_no (fun h => h2 h.2)]
      go_enter Tryz.func169, Tryz.ntmps169
      go_wp2
      go_ret
      exact ⟨rfl, rfl⟩
  · rw [inB_no (fun h2 => h h2.1)]
    go_enter Tryz.func169, Tryz.ntmps169
    go_wp2
    go_ret
    exact ⟨rfl, rfl⟩

structure MarkM where
  inst : Int
  seq : Int
  water : Int
  sys : SysM

/-- package cred's own mark, and api.Mark. -/
def cmarkV (m : MarkM) (A : Option Addr) (c : Nat) : Value := .agg #[.int .i64 m.sys.stamp, .string m.sys.machine, .int .i64 m.sys.user, .int .i64 m.sys.group, .slice A m.sys.groups.length c, .int .i64 m.inst, .int .i64 m.seq, .int .i64 m.water]
def markV (m : MarkM) (A : Option Addr) (c : Nat) : Value := .agg #[.int .i64 m.inst, .int .i64 m.seq, .int .i64 m.water, .int .i64 m.sys.stamp, .string m.sys.machine, .int .i64 m.sys.user, .int .i64 m.sys.group, .slice A m.sys.groups.length c]

def mayB (m : MarkM) : Bool := decide (1 ≤ m.inst) && decide (m.inst ≤ 4611686018427387904) && inB m.seq && inB m.water && namedB m.sys

theorem may_any (m : MarkM) (A : Option Addr) (c : Nat) (w : World) (hA : IntsAt w A m.sys.groups) :
    Calls Tryz.prog 144 #[cmarkV m A c] w fun r w' => r = .returned (.bool (mayB m)) ∧ Fr (fun _ => False) w w' := by
  have HA := Lib.hid (hA.below ((Below.refl _ _).alloc (Nat.le_refl _) (.cells #[.int .i64 m.sys.stamp, .string m.sys.machine, .int .i64 m.sys.user, .int .i64 m.sys.group, .slice A m.sys.groups.length c, .int .i64 m.inst, .int .i64 m.seq, .int .i64 m.water] 179)))
  clear hA
  unfold cmarkV
  by_cases h1 : 1 ≤ m.inst
  case neg =>
    have e : mayB m = false := by simp [mayB, h1]
    rw [e]
    clear e
    have h1 := Int.not_le.1 h1
    go_enter Tryz.func144, Tryz.ntmps144
    go_wp2_with (go_at_call 169; refine (mayIn_any _ _).mono ?_; rintro e w' ⟨rfl, rfl⟩)
    go_ret
    exact ⟨rfl, (Fr.refl _ _).alloc _⟩
  by_cases h2 : m.inst ≤ 4611686018427387904
  case neg =>
    have e : mayB m = false := by simp [mayB, h2]
    rw [e]
    clear e
    have h2 := Int.not_le.1 h2
    go_enter Tryz.func144, Tryz.ntmps144
    go_wp2_with (go_at_call 169; refine (mayIn_any _ _).mono ?_; rintro e w' ⟨rfl, rfl⟩)
    go_ret
    exact ⟨rfl, (Fr.refl _ _).alloc _⟩
  by_cases h3 : inB m.seq = true
  case neg =>
    have e : mayB m = false := by simp [mayB, h3]
    rw [e]
    clear e
    rw [Bool.not_eq_true] at h3
    go_enter Tryz.func144, Tryz.ntmps144
    go_wp2_with (go_at_call 169; refine (mayIn_any _ _).mono ?_; rintro e w' ⟨rfl, rfl⟩)
    go_ret
    exact ⟨rfl, (Fr.refl _ _).alloc _⟩
  by_cases h4 : inB m.water = true
  case neg =>
    have e : mayB m = false := by simp [mayB, h4]
    rw [e]
    clear e
    rw [Bool.not_eq_true] at h4
    go_enter Tryz.func144, Tryz.ntmps144
    go_wp2_with (go_at_call 169; refine (mayIn_any _ _).mono ?_; rintro e w' ⟨rfl, rfl⟩)
    go_ret
    exact ⟨rfl, (Fr.refl _ _).alloc _⟩
  have e : mayB m = namedB m.sys := by simp [mayB, h1, h2, h3, h4]
  rw [e]
  clear e
  go_enter Tryz.func144, Tryz.ntmps144
  go_wp2_with (first | (go_at_call 169; refine (mayIn_any _ _).mono ?_; rintro e w' ⟨rfl, rfl⟩) | (go_at_call 142; refine (named_any m.sys A c _ HA.out).mono ?_; rintro e w1 ⟨rfl, hf1⟩))
  go_ret
  exact ⟨rfl, ((Fr.refl _ _).alloc _).then hf1 (fun _ _ h => h)⟩

/-- what PrintMark tells: the flavor, the body, the error. -/
def printMarkM (m : MarkM) : Int × ByteArray × Int :=
  if mayB m = true then (1296126539, (((((newW 1024).hyper m.inst).hyper m.seq).hyper m.water).sys m.sys).body, 0) else (0, ByteArray.empty, 110)

theorem box8 {w : World} {b t : Nat} {v0 v1 v2 v3 v4 v5 v6 v7 : Value} (h : Hid (w.heap[b]? = some (.cells #[v0, v1, v2, v3, v4, v5, v6, v7] t (0, 0)))) :
    w.cell? ⟨b, 0, none⟩ = some v0 ∧ w.cell? ⟨b, 1, none⟩ = some v1 ∧ w.cell? ⟨b, 2, none⟩ = some v2 ∧ w.cell? ⟨b, 3, none⟩ = some v3 ∧ w.cell? ⟨b, 4, none⟩ = some v4 ∧
      w.cell? ⟨b, 5, none⟩ = some v5 ∧ w.cell? ⟨b, 6, none⟩ = some v6 ∧ w.cell? ⟨b, 7, none⟩ = some v7 :=
  ⟨cellOf h.out 0, cellOf h.out 1, cellOf h.out 2, cellOf h.out 3, cellOf h.out 4, cellOf h.out 5, cellOf h.out 6, cellOf h.out 7⟩

set_option maxRecDepth 100000 in
set_option maxHeartbeats 4000000 in
theorem PrintMark_any (m : MarkM) (A : Option Addr) (c : Nat) (w : World) (hA : IntsAt w A m.sys.groups) (hg : ErrT w) (hal : ∀ a, A = some a → a.block < w.heap.size) (hm : m.sys.machine.size ≤ 140737488351232) (hgl : m.sys.groups.length ≤ 140737488351232) :
    Calls Tryz.prog 106 #[markV m A c] w fun r w' => r = .returned (.tuple #[.agg #[.int .i64 (printMarkM m).1, .string (printMarkM m).2.1], .int .i64 (printMarkM m).2.2]) ∧ Fr (fun _ => False) w w' := by
  have HG := Lib.hid hg
  have HD := Lib.hid hal
  have hb3 : Below w.heap.size w (((w.alloc (.cells #[.int .i64 m.inst, .int .i64 m.seq, .int .i64 m.water, .int .i64 m.sys.stamp, .string m.sys.machine, .int .i64 m.sys.user, .int .i64 m.sys.group, .slice A m.sys.groups.length c] 134)).alloc (.cells #[.int .i64 0, .string ByteArray.empty] 122)).alloc (.cells #[.int .i64 m.sys.stamp, .string m.sys.machine, .int .i64 m.sys.user, .int .i64 m.sys.group, .slice A m.sys.groups.length c, .int .i64 m.inst, .int .i64 m.seq, .int .i64 m.water] 179)) :=
    (((Below.refl _ _).alloc (Nat.le_refl _) _).alloc (by simp) _).alloc (by simp; omega) _
  have HA3 := Lib.hid (hA.below hb3)
  have hxa := Lib.hid (heap_old (o := .cells #[.int .i64 m.sys.stamp, .string m.sys.machine, .int .i64 m.sys.user, .int .i64 m.sys.group, .slice A m.sys.groups.length c, .int .i64 m.inst, .int .i64 m.seq, .int .i64 m.water] 179) (heap_two (w := w) (a := .cells #[.int .i64 m.inst, .int .i64 m.seq, .int .i64 m.water, .int .i64 m.sys.stamp, .string m.sys.machine, .int .i64 m.sys.user, .int .i64 m.sys.group, .slice A m.sys.groups.length c] 134) (b := .cells #[.int .i64 0, .string ByteArray.empty] 122)))
  have hxn := Lib.hid (heap_three (w := w) (a := .cells #[.int .i64 m.inst, .int .i64 m.seq, .int .i64 m.water, .int .i64 m.sys.stamp, .string m.sys.machine, .int .i64 m.sys.user, .int .i64 m.sys.group, .slice A m.sys.groups.length c] 134) (b := .cells #[.int .i64 0, .string ByteArray.empty] 122) (c := .cells #[.int .i64 m.sys.stamp, .string m.sys.machine, .int .i64 m.sys.user, .int .i64 m.sys.group, .slice A m.sys.groups.length c, .int .i64 m.inst, .int .i64 m.seq, .int .i64 m.water] 179))
  have HB := Lib.hid hb3
  clear hA hg hal hb3
  by_cases hn : mayB m = true
  · have e : printMarkM m = (1296126539, (((((newW 1024).hyper m.inst).hyper m.seq).hyper m.water).sys m.sys).body, 0) := by simp [printMarkM, hn]
    rw [e]
    clear e
    unfold markV
    go_enter Tryz.func106, Tryz.ntmps106
    go_wp2_with (go_at_call 144; refine (may_any m A c _ HA3.out).mono ?_; rintro e w1 ⟨rfl, hf1⟩; have hxa := hidMove hxa hf1 id; have hxn := hidMove hxn hf1 id)
    refine (WNew_any 1024 _ (by decide)).mono ?_
    rintro e w2 ⟨rfl, hf2, hw2⟩
    have e4 : max (1024 : Int) 0 = 1024 := by decide
    rw [e4] at hw2
    clear e4
    have hxa := hidMove hxa hf2 id
    have hxn := hidMove hxn hf2 id
    obtain ⟨n0, n1, n2, n3, n4, n5, n6, n7⟩ := box8 hxn
    have hz1 : w.heap.size + 3 ≤ w1.heap.size := by have := hf1.size; simp at this; omega
    have hz2 := hf2.size
    have hI : Wi w2 (fun k => k = w1.heap.size) w2.heap.size w1.heap.size w2 (newW 1024) := Wi.begin hw2 (newW_ok (by decide) (by decide))
    have ho1 : ¬ Out (fun k => k = w1.heap.size) w2.heap.size (w.heap.size + 1) := fun h => by rcases h with h | h <;> omega
    have ho2 : ¬ Out (fun k => k = w1.heap.size) w2.heap.size (w.heap.size + 1 + 1) := fun h => by rcases h with h | h <;> omega
    have Hd : Hid (∀ a, A = some a → ¬ Out (fun k => k = w1.heap.size) w2.heap.size a.block) := Lib.hid (fun a ha h => by have := HD.out a ha; rcases h with h | h <;> omega)
    have HA2 := Lib.hid ((HA3.out.fr hf1 (fun _ _ h => h)).fr hf2 (fun _ _ h => h))
    have hacc : Fr (Out (fun k => k = w1.heap.size) w2.heap.size) w2 w2 := Fr.refl _ _
    go_wp2_with (first | (go_at_call 54; refine (hI.hyper _).mono ?_; rintro e w3 ⟨rfl, hI, hk⟩; have hacc := hacc.trans hk; have hxn := hidMove hxn hk ho2; obtain ⟨n0, n1, n2, n3, n4, n5, n6, n7⟩ := box8 hxn) | (go_at_call 143; refine (hI.sys m.sys A c (HA2.out.fr hacc Hd.out) Hd.out hm hgl).mono ?_; rintro e w3 ⟨rfl, hI, hk⟩; have hacc := hacc.trans hk))
    have hxa := hidMove hxa hacc ho1
    have hf24 : Fr (fun _ => False) w w2 := ((Fr.ofBelow HB.out).then hf1 (fun _ _ h => h)).then hf2 (fun _ _ h => h)
    have hf13 := hf24.then hI.fr (fun i hi e => by omega)
    have HG3 := Lib.hid (HG.out.fr hf13 id)
    go_wp2_with (go_at_call 28; refine (hI.done HG3.out).mono ?_; rintro e w4 ⟨rfl, hf4⟩; have hxa := hidMove hxa hf4 id; obtain ⟨a0, a1, fa0, fa1⟩ := box2 hxa)
    have hsz4 : w.heap.size + 1 < w4.heap.size := lt_of_block hxa.out
    refine bodyPost_ret (v := .tuple #[.agg #[.int .i64 1296126539, .string (((((newW 1024).hyper m.inst).hyper m.seq).hyper m.water).sys m.sys).body], .int .i64 0]) ?_ rfl ⟨rfl, ?_⟩
    · simp [results, Tryz.results106, go_sem, a0, a1]
    · exact ((hf13.then hf4 (fun _ _ h => h)).setCell (.inr (by simp)) _).setCell (.inr (by simp)) _
  · have e : printMarkM m = (0, ByteArray.empty, 110) := by simp [printMarkM, hn]
    rw [e]
    clear e
    unfold markV
    rw [Bool.not_eq_true] at hn
    go_enter Tryz.func106, Tryz.ntmps106
    go_wp2_with (go_at_call 144; refine (may_any m A c _ HA3.out).mono ?_; rintro e w1 ⟨rfl, hf1⟩; have hxa := hidMove hxa hf1 id; obtain ⟨a0, a1, fa0, fa1⟩ := box2 hxa)
    have hsz4 : w.heap.size + 1 < w1.heap.size := lt_of_block hxa.out
    refine bodyPost_ret (v := .tuple #[.agg #[.int .i64 0, .string ByteArray.empty], .int .i64 110]) ?_ rfl ⟨rfl, ?_⟩
    · simp [results, Tryz.results106, go_sem, a0, a1]
      rfl
    · exact (((Fr.ofBelow HB.out).then hf1 (fun _ _ h => h)).setCell (.inr (by simp)) _).setCell (.inr (by simp)) _

end Go.Proofs.YtlcjfafmmoncpaaGreatDoor
