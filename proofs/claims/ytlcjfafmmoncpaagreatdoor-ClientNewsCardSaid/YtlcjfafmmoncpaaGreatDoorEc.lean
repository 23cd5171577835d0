/- Package client: configs, and New. -/
import Derived.Test.YtlcjfafmmoncpaaGreatDoorEb
import Derived.Test.YtlcjfafmmoncpaaGreatDoorCp
import Derived.Test.YtlcjfafmmoncpaaGreatDoorShelf
import Derived.Test.YtlcjfafmmoncpaaGreatDoorBi
namespace Go.Proofs.YtlcjfafmmoncpaaGreatDoor
open Go.RowKit
set_option linter.unusedVariables false
set_option linter.unusedSimpArgs false

structure CfgM where
  addr : Int
  inst : Int
  first : Int
  window : Int
  pace : PaceM
  sys : SysM
def cfgCells (c : CfgM) (A : Option Addr) (n : Nat) : Array Value := #[.int .i64 c.addr, .int .i64 c.inst, .int .i64 c.first, .int .i64 c.window, .int .i64 c.pace.base, .int .i64 c.pace.cap, .int .i64 c.pace.tries, .int .i64 c.sys.stamp, .string c.sys.machine, .int .i64 c.sys.user, .int .i64 c.sys.group, .slice A c.sys.groups.length n]
def isAddrB (n : Int) : Bool := decide (1 ≤ n) && decide (n ≤ 16777215)
theorem isAddrB_of {n : Int} (h : 1 ≤ n ∧ n ≤ 16777215) : isAddrB n = true := by simp [isAddrB, h.1, h.2]
theorem isAddrB_no {n : Int} (h : ¬ (1 ≤ n ∧ n ≤ 16777215)) : isAddrB n = false := by
  rw [← Bool.not_eq_true]; intro h2; simp [isAddrB] at h2; exact h h2
structure NewMay (c : CfgM) : Prop where
  h0 : isAddrB c.addr = true
  h1 : 1 ≤ c.inst
  h2 : c.inst ≤ 4611686018427387904
  h3 : 1 ≤ c.first
  h4 : c.first < 4294967296
  h5 : 1 ≤ c.window
  h6 : c.window ≤ 64
  h7 : rightB c.pace = true
  h8 : namedB c.sys = true
def newB (c : CfgM) : Bool := isAddrB c.addr && decide (1 ≤ c.inst) && decide (c.inst ≤ 4611686018427387904) && decide (1 ≤ c.first) && decide (c.first < 4294967296) && decide (1 ≤ c.window) && decide (c.window ≤ 64) && rightB c.pace && namedB c.sys
theorem new_iff (c : CfgM) : newB c = true ↔ NewMay c := by
  constructor
  · intro h
    simp only [newB, Bool.and_eq_true, decide_eq_true_eq] at h
    exact ⟨h.1.1.1.1.1.1.1.1, h.1.1.1.1.1.1.1.2, h.1.1.1.1.1.1.2, h.1.1.1.1.1.2, h.1.1.1.1.2, h.1.1.1.2, h.1.1.2, h.1.2, h.2⟩
  · intro h
    simp only [newB, Bool.and_eq_true, decide_eq_true_eq]
    exact ⟨⟨⟨⟨⟨⟨⟨⟨h.h0, h.h1⟩, h.h2⟩, h.h3⟩, h.h4⟩, h.h5⟩, h.h6⟩, h.h7⟩, h.h8⟩
theorem new_no {c : CfgM} (h : ¬ NewMay c) : newB c = false := by rw [← Bool.not_eq_true, new_iff]; exact h

theorem isAddress_any (n : Int) (w : World) : Calls Tryz.prog 100 #[.int .i64 n] w fun r w' => r = .returned (.bool (isAddrB n)) ∧ w = w' := by
  by_cases h : 1 ≤ n
  · by_cases h2 : n ≤ 16777215
    · rw [isAddrB_of ⟨h, h2⟩]
      go_enter Tryz.func100, Tryz.ntmps100
      go_wp2
      go_ret
      exact ⟨rfl, rfl⟩
    · rw [isAddrB_no (fun h => h2 h.2)]
      go_enter Tryz.func100, Tryz.ntmps100
      go_wp2
      go_ret
      exact ⟨rfl, rfl⟩
  · rw [isAddrB_no (fun h2 => h h2.1)]
    go_enter Tryz.func100, Tryz.ntmps100
    go_wp2
    go_ret
    exact ⟨rfl, rfl⟩
theorem isWordL_any (n : Int) (w : World) : Calls Tryz.prog 104 #[.int .i64 n] w fun r w' => r = .returned (.bool (isWordB n)) ∧ w = w' := by
  by_cases h : 0 ≤ n
  · by_cases h2 : n ≤ 4294967295
    · rw [isWordB_of ⟨h, h2⟩]
      go_enter Tryz.func104, Tryz.ntmps104
      go_wp2
      go_ret
      exact ⟨rfl, rfl⟩
    · rw [isWordB_no (fun h => h2 h.2)]
      go_enter Tryz.func104, Tryz.ntmps104
      go_wp2
      go_ret
      exact ⟨rfl, rfl⟩
  · rw [isWordB_no (fun h2 => h h2.1)]
    go_enter Tryz.func104, Tryz.ntmps104
    go_wp2
    go_ret
    exact ⟨rfl, rfl⟩

theorem clone_ints (xs : List Int) (A : Option Addr) (c : Nat) (w : World) (hA : IntsAt w A xs) (hl : xs.length ≤ 1099511627776) :
    Calls Tryz.prog 102 #[.slice A xs.length c] w fun r w' => ∃ v, r = .returned v ∧ w'.ownsRow w.heap.size 3 1 v xs.length (xs.map (Value.int .i64)) ∧ Below w.heap.size w w' := by
  cases A with
  | none =>
    have hx : xs = [] := by
      rcases hA with h | ⟨b, off, h, _⟩
      · exact h
      · cases h
    subst hx
    refine (Tryz.slices_Clone_int_nil _ _ _).mono ?_
    rintro e w' ⟨rfl, rfl⟩
    exact ⟨_, rfl, ⟨by simp, .inl ⟨rfl, rfl⟩⟩, Below.refl _ _⟩
  | some a =>
    by_cases h0 : xs = []
    · subst h0
      refine (Tryz.slices_Clone_int_zero _ _ _).mono ?_
      rintro e w' ⟨v, rfl, ho, _, hb⟩
      exact ⟨v, rfl, ho, hb⟩
    · rcases hA with h | ⟨b, off, h, hb, hc⟩
      · exact absurd h h0
      obtain rfl : a = ⟨b, off, none⟩ := Option.some.inj h
      refine (Tryz.slices_Clone_int b off xs.length c xs w (Nat.le_refl _) (by omega) hc).mono ?_
      rintro e w' ⟨v, rfl, ho, _, hb⟩
      rw [List.take_of_length_le (Nat.le_refl _)] at ho
      exact ⟨v, rfl, ho, hb⟩

theorem box12 {w : World} {b t : Nat} {v0 v1 v2 v3 v4 v5 v6 v7 v8 v9 v10 v11 : Value} (h : Hid (w.heap[b]? = some (.cells #[v0, v1, v2, v3, v4, v5, v6, v7, v8, v9, v10, v11] t (0, 0)))) :
    w.cell? ⟨b, 0, none⟩ = some v0 ∧ w.cell? ⟨b, 1, none⟩ = some v1 ∧ w.cell? ⟨b, 2, none⟩ = some v2 ∧ w.cell? ⟨b, 3, none⟩ = some v3 ∧ w.cell? ⟨b, 4, none⟩ = some v4 ∧ w.cell? ⟨b, 5, none⟩ = some v5 ∧ w.cell? ⟨b, 6, none⟩ = some v6 ∧ w.cell? ⟨b, 7, none⟩ = some v7 ∧ w.cell? ⟨b, 8, none⟩ = some v8 ∧ w.cell? ⟨b, 9, none⟩ = some v9 ∧ w.cell? ⟨b, 10, none⟩ = some v10 ∧ w.cell? ⟨b, 11, none⟩ = some v11 :=
  ⟨cellOf h.out 0, cellOf h.out 1, cellOf h.out 2, cellOf h.out 3, cellOf h.out 4, cellOf h.out 5, cellOf h.out 6, cellOf h.out 7, cellOf h.out 8, cellOf h.out 9, cellOf h.out 10, cellOf h.out 11⟩

/-- a new client's cells. -/
def cliCells (c : CfgM) (A : Option Addr) (n : Nat) (next now : Int) (calls outs meter : Value) : Array Value := #[.int .i64 c.addr, .int .i64 c.inst, .int .i64 c.first, .int .i64 c.window, .int .i64 c.pace.base, .int .i64 c.pace.cap, .int .i64 c.pace.tries, .int .i64 c.sys.stamp, .string c.sys.machine, .int .i64 c.sys.user, .int .i64 c.sys.group, .slice A c.sys.groups.length n, .int .i64 next, .int .i64 now, calls, outs, meter]
/-- what New leaves. -/
def NewCli (c : CfgM) (w w' : World) (b : Nat) : Prop := ∃ A n m, w.heap.size ≤ b ∧ w.heap.size ≤ m ∧ m ≠ b ∧ w'.heap[b]? = some (.cells (cliCells c A n c.first 0 (.slice none 0 0) (.slice none 0 0) (.pointer (some ⟨m, 0, none⟩))) 131 (0, 0)) ∧
  w'.heap[m]? = some (.cells #[.bool false, .float .f32 0, .float .f32 0] 177 (0, 0)) ∧ IntsAt w' A c.sys.groups ∧ (∀ a, A = some a → w.heap.size ≤ a.block ∧ a.block < w'.heap.size ∧ a.block ≠ b ∧ a.block ≠ m ∧ ∃ x, w'.heap[a.block]? = some (.cells x 3 (0, 0)))

set_option maxRecDepth 100000 in
set_option maxHeartbeats 4000000 in
theorem New_no (c : CfgM) (A : Option Addr) (n : Nat) (w : World) (hA : IntsAt w A c.sys.groups) (hg : ErrT w) (hal : ∀ a, A = some a → a.block < w.heap.size) (hm : c.sys.machine.size ≤ 140737488351232) (hgl : c.sys.groups.length ≤ 1099511627776) (hno : ¬ NewMay c) :
    Calls Tryz.prog 34 #[.agg (cfgCells c A n)] w fun r w' => r = .returned (.tuple #[.pointer none, .int .i64 170]) ∧ Fr (fun _ => False) w w' := by
  have hP := PrintSys_any c.sys A n (w.alloc (.cells (cfgCells c A n) 28)) (hA.below ((Below.refl _ _).alloc (Nat.le_refl _) _)) (hg.below ((Below.refl _ _).alloc (Nat.le_refl _) _)) (fun a ha => by have := hal a ha; simp; omega) hm (by omega)
  have hx := Lib.hid (heap_alloc_new w (.cells (cfgCells c A n) 28))
  have HP := Lib.hid hP
  have HR := Lib.hid (Right_any c.pace)
  have HN := Lib.hid hno
  clear hP hA hg hal hno hm hgl
  unfold cfgCells paceV sysV at *
  go_enter Tryz.func34, Tryz.ntmps34
  go_wp2_with fail
  refine HP.out.mono ?_
  rintro e w1 ⟨rfl, hf1⟩
  clear HP
  have HF := Lib.hid (((Fr.refl (fun _ => False) w).alloc (.cells #[.int .i64 c.addr, .int .i64 c.inst, .int .i64 c.first, .int .i64 c.window, .int .i64 c.pace.base, .int .i64 c.pace.cap, .int .i64 c.pace.tries, .int .i64 c.sys.stamp, .string c.sys.machine, .int .i64 c.sys.user, .int .i64 c.sys.group, .slice A c.sys.groups.length n] 28)).trans hf1)
  have hx1 := blockMove hx hf1 id
  clear hx hf1
  have hz1 : w.heap.size < w1.heap.size := lt_of_block hx1.out
  obtain ⟨n0, n1, n2, n3, n4, n5, n6, n7, n8, n9, n10, n11⟩ := box12 hx1
  by_cases h0 : isAddrB c.addr = true
  case neg =>
    rw [Bool.not_eq_true] at h0
    go_wp2_with (first | (go_at_call 100; refine (isAddress_any _ _).mono ?_; rintro e w2 ⟨rfl, rfl⟩) | (go_at_call 101; refine (HR.out _).mono ?_; rintro e w2 ⟨rfl, hf2⟩; have HF := Lib.hid ((HF.out.alloc _).trans hf2)))
    refine bodyPost_ret (v := .tuple #[.pointer none, .int .i64 170]) ?_ rfl ⟨rfl, by first | exact HF.out | exact HF.out.alloc _⟩
    simp [results, Tryz.results34, go_sem]
  by_cases h1 : 1 ≤ c.inst
  case neg =>
    have h1 := Int.not_le.1 h1
    go_wp2_with (first | (go_at_call 100; refine (isAddress_any _ _).mono ?_; rintro e w2 ⟨rfl, rfl⟩) | (go_at_call 101; refine (HR.out _).mono ?_; rintro e w2 ⟨rfl, hf2⟩; have HF := Lib.hid ((HF.out.alloc _).trans hf2)))
    refine bodyPost_ret (v := .tuple #[.pointer none, .int .i64 170]) ?_ rfl ⟨rfl, by first | exact HF.out | exact HF.out.alloc _⟩
    simp [results, Tryz.results34, go_sem]
  by_cases h2 : c.inst ≤ 4611686018427387904
  case neg =>
    have h2 := Int.not_le.1 h2
    go_wp2_with (first | (go_at_call 100; refine (isAddress_any _ _).mono ?_; rintro e w2 ⟨rfl, rfl⟩) | (go_at_call 101; refine (HR.out _).mono ?_; rintro e w2 ⟨rfl, hf2⟩; have HF := Lib.hid ((HF.out.alloc _).trans hf2)))
    refine bodyPost_ret (v := .tuple #[.pointer none, .int .i64 170]) ?_ rfl ⟨rfl, by first | exact HF.out | exact HF.out.alloc _⟩
    simp [results, Tryz.results34, go_sem]
  by_cases h3 : 1 ≤ c.first
  case neg =>
    have h3 := Int.not_le.1 h3
    go_wp2_with (first | (go_at_call 100; refine (isAddress_any _ _).mono ?_; rintro e w2 ⟨rfl, rfl⟩) | (go_at_call 101; refine (HR.out _).mono ?_; rintro e w2 ⟨rfl, hf2⟩; have HF := Lib.hid ((HF.out.alloc _).trans hf2)))
    refine bodyPost_ret (v := .tuple #[.pointer none, .int .i64 170]) ?_ rfl ⟨rfl, by first | exact HF.out | exact HF.out.alloc _⟩
    simp [results, Tryz.results34, go_sem]
  by_cases h4 : c.first < 4294967296
  case neg =>
    have h4 := Int.not_lt.1 h4
    go_wp2_with (first | (go_at_call 100; refine (isAddress_any _ _).mono ?_; rintro e w2 ⟨rfl, rfl⟩) | (go_at_call 101; refine (HR.out _).mono ?_; rintro e w2 ⟨rfl, hf2⟩; have HF := Lib.hid ((HF.out.alloc _).trans hf2)))
    refine bodyPost_ret (v := .tuple #[.pointer none, .int .i64 170]) ?_ rfl ⟨rfl, by first | exact HF.out | exact HF.out.alloc _⟩
    simp [results, Tryz.results34, go_sem]
  by_cases h5 : 1 ≤ c.window
  case neg =>
    have h5 := Int.not_le.1 h5
    go_wp2_with (first | (go_at_call 100; refine (isAddress_any _ _).mono ?_; rintro e w2 ⟨rfl, rfl⟩) | (go_at_call 101; refine (HR.out _).mono ?_; rintro e w2 ⟨rfl, hf2⟩; have HF := Lib.hid ((HF.out.alloc _).trans hf2)))
    refine bodyPost_ret (v := .tuple #[.pointer none, .int .i64 170]) ?_ rfl ⟨rfl, by first | exact HF.out | exact HF.out.alloc _⟩
    simp [results, Tryz.results34, go_sem]
  by_cases h6 : c.window ≤ 64
  case neg =>
    have h6 := Int.not_le.1 h6
    go_wp2_with (first | (go_at_call 100; refine (isAddress_any _ _).mono ?_; rintro e w2 ⟨rfl, rfl⟩) | (go_at_call 101; refine (HR.out _).mono ?_; rintro e w2 ⟨rfl, hf2⟩; have HF := Lib.hid ((HF.out.alloc _).trans hf2)))
    refine bodyPost_ret (v := .tuple #[.pointer none, .int .i64 170]) ?_ rfl ⟨rfl, by first | exact HF.out | exact HF.out.alloc _⟩
    simp [results, Tryz.results34, go_sem]
  by_cases h7 : rightB c.pace = true
  case neg =>
    rw [Bool.not_eq_true] at h7
    rw [h7] at HR
    go_wp2_with (first | (go_at_call 100; refine (isAddress_any _ _).mono ?_; rintro e w2 ⟨rfl, rfl⟩) | (go_at_call 101; refine (HR.out _).mono ?_; rintro e w2 ⟨rfl, hf2⟩; have HF := Lib.hid ((HF.out.alloc _).trans hf2)))
    refine bodyPost_ret (v := .tuple #[.pointer none, .int .i64 170]) ?_ rfl ⟨rfl, by first | exact HF.out | exact HF.out.alloc _⟩
    simp [results, Tryz.results34, go_sem]
  rw [h7] at HR
  by_cases h8 : namedB c.sys = true
  case neg =>
    rw [Bool.not_eq_true] at h8
    have e2 : printSysM c.sys = (0, ByteArray.empty, 110) := by unfold printSysM; rw [if_neg (by rw [h8]; decide)]
    rw [e2]
    clear e2
    go_wp2_with (first | (go_at_call 100; refine (isAddress_any _ _).mono ?_; rintro e w2 ⟨rfl, rfl⟩) | (go_at_call 101; refine (HR.out _).mono ?_; rintro e w2 ⟨rfl, hf2⟩; have HF := Lib.hid ((HF.out.alloc _).trans hf2)))
    refine bodyPost_ret (v := .tuple #[.pointer none, .int .i64 170]) ?_ rfl ⟨rfl, by first | exact HF.out | exact HF.out.alloc _⟩
    simp [results, Tryz.results34, go_sem]
  exact (HN.out ⟨h0, h1, h2, h3, h4, h5, h6, h7, h8⟩).elim

end Go.Proofs.YtlcjfafmmoncpaaGreatDoor
