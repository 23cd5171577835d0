/- Package client: configs, and New. -/
import Derived.Test.YtbegjpmifcnieaaGreatDoorEa
import Derived.Test.YtbegjpmifcnieaaGreatDoorCp
import Derived.Test.YtbegjpmifcnieaaGreatDoorShelf
import Derived.Test.YtbegjpmifcnieaaGreatDoorBi
namespace Go.Proofs.YtbegjpmifcnieaaGreatDoor
open Go.RowKit
set_option linter.unusedVariables false
set_option linter.unusedSimpArgs false

structure CfgM where
  addr : Int
  inst : Int
  first : Int
  window : Int
  pace : PaceM
  sys : SysM
def cfgCells (c : CfgM) (A : Option Addr) (n : Nat) : Array Value := #[.int .i64 c.addr, .int .i64 c.inst, .int .i64 c.first, .int .i64 c.window, .int .i64 c.pace.base, .int .i64 c.pace.cap, .int .i64 c.pace.tries, .int .i64 c.sys.stamp, .string c.sys.machine, .int .i64 c.sys.user, .int .i64 c.sys.group, .slice A c.sys.groups.length n]
def isAddrB (n : Int) : Bool := decide (1 ≤ n) && decide (n ≤ 16777215)
theorem isAddrB_of {n : Int} (h : 1 ≤ n ∧ n ≤ 16777215) : isAddrB n = true := by simp [isAddrB, h.1, h.2]
theorem isAddrB_no {n : Int} (h : ¬ (1 ≤ n ∧ n ≤ 16777215)) : isAddrB n = false := by
  rw [← Bool.not_eq_true]; intro h2; simp [isAddrB] at h2; exact h h2
structure NewMay (c : CfgM) : Prop where
  h0 : isAddrB c.addr = true
  h1 : 1 ≤ c.inst
  h2 : c.inst ≤ 4611686018427387904
  h3 : 1 ≤ c.first
  h4 : c.first < 4294967296
  h5 : 1 ≤ c.window
  h6 : c.window ≤ 64
  h7 : rightB c.pace = true
  h8 : namedB c.sys = true
def newB (c : CfgM) : Bool := isAddrB c.addr && decide (1 ≤ c.inst) && decide (c.inst ≤ 4611686018427387904) && decide (1 ≤ c.first) && decide (c.first < 4294967296) && decide (1 ≤ c.window) && decide (c.window ≤ 64) && rightB c.pace && namedB c.sys
theorem new_iff (c : CfgM) : newB c = true ↔ NewMay c := by
  constructor
  · intro h
    simp only [newB, Bool.and_eq_true, decide_eq_true_eq] at h
    exact ⟨h.1.1.1.1.1.1.1.1, h.1.1.1.1.1.1.1.2, h.1.1.1.1.1.1.2, h.1.1.1.1.1.2, h.1.1.1.1.2, h.1.1.1.2, h.1.1.2, h.1.2, h.2⟩
  · intro h
    simp only [newB, Bool.and_eq_true, decide_eq_true_eq]
    exact ⟨⟨⟨⟨⟨⟨⟨⟨h.h0, h.h1⟩, h.h2⟩, h.h3⟩, h.h4⟩, h.h5⟩, h.h6⟩, h.h7⟩, h.h8⟩
theorem new_no {c : CfgM} (h : ¬ NewMay c) : newB c = false := by rw [← Bool.not_eq_true, new_iff]; exact h

theorem isAddress_any (n : Int) (w : World) : Calls Tryz.prog 75 #[.int .i64 n] w fun r w' => r = .returned (.bool (isAddrB n)) ∧ w = w' := by
  by_cases h : 1 ≤ n
  · by_cases h2 : n ≤ 16777215
    · rw [isAddrB_of ⟨h, h2⟩]
      go_enter Tryz.func75, Tryz.ntmps75
      go_wp2
      go_ret
      exact ⟨rfl, rfl⟩
    · rw [isAddrB_no (fun h => h2 h.2)]
      go_enter Tryz.func75, Tryz.ntmps75
      go_wp2
      go_ret
      exact ⟨rfl, rfl⟩
  · rw [isAddrB_no (fun h2 => h h2.1)]
    go_enter Tryz.func75, Tryz.ntmps75
    go_wp2
    go_ret
    exact ⟨rfl, rfl⟩
theorem isWordL_any (n : Int) (w : World) : Calls Tryz.prog 124 #[.int .i64 n] w fun r w' => r = .returned (.bool (isWordB n)) ∧ w = w' := by
  by_cases h : 0 ≤ n
  · by_cases h2 : n ≤ 4294967295
    · rw [isWordB_of ⟨h, h2⟩]
      go_enter Tryz.func124, Tryz.ntmps124
      go_wp2
      go_ret
      exact ⟨rfl, rfl⟩
    · rw [isWordB_no (fun h => h2 h.2)]
      go_enter Tryz.func124, Tryz.ntmps124
      go_wp2
      go_ret
      exact ⟨rfl, rfl⟩
  · rw [isWordB_no (fun h2 => h h2.1)]
    go_enter Tryz.func124, Tryz.ntmps124
    go_wp2
    go_ret
    exact ⟨rfl, rfl⟩

theorem clone_ints (xs : List Int) (A : Option Addr) (c : Nat) (w : World) (hA : IntsAt w A xs) (hl : xs.length ≤ 1099511627776) :
    Calls Tryz.prog 77 #[.slice A xs.length c] w fun r w' => ∃ v, r = .returned v ∧ w'.ownsRow w.heap.size 3 1 v xs.length (xs.map (Value.int .i64)) ∧ Below w.heap.size w w' := by
  cases A with
  | none =>
    have hx : xs = [] := by
      rcases hA with h | ⟨b, off, h, _⟩
      · exact h
      · cases h
    subst hx
    refine (Tryz.slices_Clone_int_nil _ _ _).mono ?_
    rintro e w' ⟨rfl, rfl⟩
    exact ⟨_, rfl, ⟨by simp, .inl ⟨rfl, rfl⟩⟩, Below.refl _ _⟩
  | some a =>
    by_cases h0 : xs = []
    · subst h0
      refine (Tryz.slices_Clone_int_zero _ _ _).mono ?_
      rintro e w' ⟨v, rfl, ho, _, hb⟩
      exact ⟨v, rfl, ho, hb⟩
    · rcases hA with h | ⟨b, off, h, hb, hc⟩
      · exact absurd h h0
      obtain rfl : a = ⟨b, off, none⟩ := Option.some.inj h
      refine (Tryz.slices_Clone_int b off xs.length c xs w (Nat.le_refl _) (by omega) hc).mono ?_
      rintro e w' ⟨v, rfl, ho, _, hb⟩
      rw [List.take_of_length_le (Nat.le_refl _)] at ho
      exact ⟨v, rfl, ho, hb⟩

theorem box12 {w : World} {b t : Nat} {v0 v1 v2 v3 v4 v5 v6 v7 v8 v9 v10 v11 : Value} (h : Hid (w.heap[b]? = some (.cells #[v0, v1, v2, v3, v4, v5, v6, v7, v8, v9, v10, v11] t (0, 0)))) :
    w.cell? ⟨b, 0, none⟩ = some v0 ∧ w.cell? ⟨b, 1, none⟩ = some v1 ∧ w.cell? ⟨b, 2, none⟩ = some v2 ∧ w.cell? ⟨b, 3, none⟩ = some v3 ∧ w.cell? ⟨b, 4, none⟩ = some v4 ∧ w.cell? ⟨b, 5, none⟩ = some v5 ∧ w.cell? ⟨b, 6, none⟩ = some v6 ∧ w.cell? ⟨b, 7, none⟩ = some v7 ∧ w.cell? ⟨b, 8, none⟩ = some v8 ∧ w.cell? ⟨b, 9, none⟩ = some v9 ∧ w.cell? ⟨b, 10, none⟩ = some v10 ∧ w.cell? ⟨b, 11, none⟩ = some v11 :=
  ⟨cellOf h.out 0, cellOf h.out 1, cellOf h.out 2, cellOf h.out 3, cellOf h.out 4, cellOf h.out 5, cellOf h.out 6, cellOf h.out 7, cellOf h.out 8, cellOf h.out 9, cellOf h.out 10, cellOf h.out 11⟩

/-- a new client's cells. -/
def cliCells (c : CfgM) (A : Option Addr) (n : Nat) (next now : Int) (calls outs meter : Value) : Array Value := #[.int .i64 c.addr, .int .i64 c.inst, .int .i64 c.first, .int .i64 c.window, .int .i64 c.pace.base, .int .i64 c.pace.cap, .int .i64 c.pace.tries, .int .i64 c.sys.stamp, .string c.sys.machine, .int .i64 c.sys.user, .int .i64 c.sys.group, .slice A c.sys.groups.length n, .int .i64 next, .int .i64 now, calls, outs, meter]
/-- what New leaves. -/
def NewCli (c : CfgM) (w w' : World) (b : Nat) : Prop := ∃ A n m, w.heap.size ≤ b ∧ w.heap.size ≤ m ∧ m ≠ b ∧ w'.heap[b]? = some (.cells (cliCells c A n c.first 0 (.slice none 0 0) (.slice none 0 0) (.pointer (some ⟨m, 0, none⟩))) 161 (0, 0)) ∧
  w'.heap[m]? = some (.cells #[.bool false, .float .f32 0, .float .f32 0] 254 (0, 0)) ∧ IntsAt w' A c.sys.groups ∧ (∀ a, A = some a → w.heap.size ≤ a.block ∧ a.block < w'.heap.size ∧ a.block ≠ b ∧ a.block ≠ m ∧ ∃ x, w'.heap[a.block]? = some (.cells x 3 (0, 0)))

set_option maxRecDepth 100000 in
set_option maxHeartbeats 4000000 in
theorem New_no (c : CfgM) (A : Option Addr) (n : Nat) (w : World) (hA : IntsAt w A c.sys.groups) (hg : ErrT w) (hal : ∀ a, A = some a → a.block < w.heap.size) (hm : c.sys.machine.size ≤ 140737488351232) (hgl : c.sys.groups.length ≤ 1099511627776) (hno : ¬ NewMay c) :
    Calls Tryz.prog 17 #[.agg (cfgCells c A n)] w fun r w' => r = .returned (.tuple #[.pointer none, .int .i64 170]) ∧ Fr (fun _ => False) w w' := by
  have hP := PrintSys_any c.sys A n (w.alloc (.cells (cfgCells c A n) 28)) (hA.below ((Below.refl _ _).alloc (Nat.le_refl _) _)) (hg.below ((Below.refl _ _).alloc (Nat.le_refl _) _)) (fun a ha => by have := hal a ha; simp; omega) hm (by omega)
  have hx := Lib.hid (heap_alloc_new w (.cells (cfgCells c A n) 28))
  have HP := Lib.hid hP
  have HR := Lib.hid (Right_any c.pace)
  have HN := Lib.hid hno
  clear hP hA hg hal hno hm hgl
  unfold cfgCells paceV sysV at *
  go_enter Tryz.func17, Tryz.ntmps17
  go_wp2_with fail
  refine HP.out.mono ?_
  rintro e w1 ⟨rfl, hf1⟩
  clear HP
  have HF := Lib.hid (((Fr.refl (fun _ => False) w).alloc (.cells #[.int .i64 c.addr, .int .i64 c.inst, .int .i64 c.first, .int .i64 c.window, .int .i64 c.pace.base, .int .i64 c.pace.cap, .int .i64 c.pace.tries, .int .i64 c.sys.stamp, .string c.sys.machine, .int .i64 c.sys.user, .int .i64 c.sys.group, .slice A c.sys.groups.length n] 28)).trans hf1)
  have hx1 := blockMove hx hf1 id
  clear hx hf1
  have hz1 : w.heap.size < w1.heap.size := lt_of_block hx1.out
  obtain ⟨n0, n1, n2, n3, n4, n5, n6, n7, n8, n9, n10, n11⟩ := box12 hx1
  by_cases h0 : isAddrB c.addr = true
  case neg =>
    rw [Bool.not_eq_true] at h0
    go_wp2_with (first | (go_at_call 75; refine (isAddress_any _ _).mono ?_; rintro e w2 ⟨rfl, rfl⟩) | (go_at_call 76; refine (HR.out _).mono ?_; rintro e w2 ⟨rfl, hf2⟩; have HF := Lib.hid ((HF.out.alloc _).trans hf2)))
    refine bodyPost_ret (v := .tuple #[.pointer none, .int .i64 170]) ?_ rfl ⟨rfl, by first | exact HF.out | exact HF.out.alloc _⟩
    simp [results, Tryz.results17, go_sem]
  by_cases h1 : 1 ≤ c.inst
  case neg =>
    have h1 := Int.not_le.1 h1
    go_wp2_with (first | (go_at_call 75; refine (isAddress_any _ _).mono ?_; rintro e w2 ⟨rfl, rfl⟩) | (go_at_call 76; refine (HR.out _).mono ?_; rintro e w2 ⟨rfl, hf2⟩; have HF := Lib.hid ((HF.out.alloc _).trans hf2)))
    refine bodyPost_ret (v := .tuple #[.pointer none, .int .i64 170]) ?_ rfl ⟨rfl, by first | exact HF.out | exact HF.out.alloc _⟩
    simp [results, Tryz.results17, go_sem]
  by_cases h2 : c.inst ≤ 4611686018427387904
  case neg =>
    have h2 := Int.not_le.1 h2
    go_wp2_with (first | (go_at_call 75; refine (isAddress_any _ _).mono ?_; rintro e w2 ⟨rfl, rfl⟩) | (go_at_call 76; refine (HR.out _).mono ?_; rintro e w2 ⟨rfl, hf2⟩; have HF := Lib.hid ((HF.out.alloc _).trans hf2)))
    refine bodyPost_ret (v := .tuple #[.pointer none, .int .i64 170]) ?_ rfl ⟨rfl, by first | exact HF.out | exact HF.out.alloc _⟩
    simp [results, Tryz.results17, go_sem]
  by_cases h3 : 1 ≤ c.first
  case neg =>
    have h3 := Int.not_le.1 h3
    go_wp2_with (first | (go_at_call 75; refine (isAddress_any _ _).mono ?_; rintro e w2 ⟨rfl, rfl⟩) | (go_at_call 76; refine (HR.out _).mono ?_; rintro e w2 ⟨rfl, hf2⟩; have HF := Lib.hid ((HF.out.alloc _).trans hf2)))
    refine bodyPost_ret (v := .tuple #[.pointer none, .int .i64 170]) ?_ rfl ⟨rfl, by first | exact HF.out | exact HF.out.alloc _⟩
    simp [results, Tryz.results17, go_sem]
  by_cases h4 : c.first < 4294967296
  case neg =>
    have h4 := Int.not_lt.1 h4
    go_wp2_with (first | (go_at_call 75; refine (isAddress_any _ _).mono ?_; rintro e w2 ⟨rfl, rfl⟩) | (go_at_call 76; refine (HR.out _).mono ?_; rintro e w2 ⟨rfl, hf2⟩; have HF := Lib.hid ((HF.out.alloc _).trans hf2)))
    refine bodyPost_ret (v := .tuple #[.pointer none, .int .i64 170]) ?_ rfl ⟨rfl, by first | exact HF.out | exact HF.out.alloc _⟩
    simp [results, Tryz.results17, go_sem]
  by_cases h5 : 1 ≤ c.window
  case neg =>
    have h5 := Int.not_le.1 h5
    go_wp2_with (first | (go_at_call 75; refine (isAddress_any _ _).mono ?_; rintro e w2 ⟨rfl, rfl⟩) | (go_at_call 76; refine (HR.out _).mono ?_; rintro e w2 ⟨rfl, hf2⟩; have HF := Lib.hid ((HF.out.alloc _).trans hf2)))
    refine bodyPost_ret (v := .tuple #[.pointer none, .int .i64 170]) ?_ rfl ⟨rfl, by first | exact HF.out | exact HF.out.alloc _⟩
    simp [results, Tryz.results17, go_sem]
  by_cases h6 : c.window ≤ 64
  case neg =>
    have h6 := Int.not_le.1 h6
    go_wp2_with (first | (go_at_call 75; refine (isAddress_any _ _).mono ?_; rintro e w2 ⟨rfl, rfl⟩) | (go_at_call 76; refine (HR.out _).mono ?_; rintro e w2 ⟨rfl, hf2⟩; have HF := Lib.hid ((HF.out.alloc _).trans hf2)))
    refine bodyPost_ret (v := .tuple #[.pointer none, .int .i64 170]) ?_ rfl ⟨rfl, by first | exact HF.out | exact HF.out.alloc _⟩
    simp [results, Tryz.results17, go_sem]
  by_cases h7 : rightB c.pace = true
  case neg =>
    rw [Bool.not_eq_true] at h7
    rw [h7] at HR
    go_wp2_with (first | (go_at_call 75; refine (isAddress_any _ _).mono ?_; rintro e w2 ⟨rfl, rfl⟩) | (go_at_call 76; refine (HR.out _).mono ?_; rintro e w2 ⟨rfl, hf2⟩; have HF := Lib.hid ((HF.out.alloc _).trans hf2)))
    refine bodyPost_ret (v := .tuple #[.pointer none, .int .i64 170]) ?_ rfl ⟨rfl, by first | exact HF.out | exact HF.out.alloc _⟩
    simp [results, Tryz.results17, go_sem]
  rw [h7] at HR
  by_cases h8 : namedB c.sys = true
  case neg =>
    rw [Bool.not_eq_true] at h8
    have e2 : printSysM c.sys = (0, ByteArray.empty, 110) := by unfold printSysM; rw [if_neg (by rw [h8]; decide)]
    rw [e2]
    clear e2
    go_wp2_with (first | (go_at_call 75; refine (isAddress_any _ _).mono ?_; rintro e w2 ⟨rfl, rfl⟩) | (go_at_call 76; refine (HR.out _).mono ?_; rintro e w2 ⟨rfl, hf2⟩; have HF := Lib.hid ((HF.out.alloc _).trans hf2)))
    refine bodyPost_ret (v := .tuple #[.pointer none, .int .i64 170]) ?_ rfl ⟨rfl, by first | exact HF.out | exact HF.out.alloc _⟩
    simp [results, Tryz.results17, go_sem]
  exact (HN.out ⟨h0, h1, h2, h3, h4, h5, h6, h7, h8⟩).elim

end Go.Proofs.YtbegjpmifcnieaaGreatDoor

/- Package client: New, of a config that may be. -/
namespace Go.Proofs.YtbegjpmifcnieaaGreatDoor
open Go.RowKit
set_option linter.unusedVariables false
set_option linter.unusedSimpArgs false

theorem newCli_mk {c : CfgM} {A : Option Addr} {n : Nat} {w w5 : World} (hI : IntsAt w5 A c.sys.groups) (hF : Fr (fun _ => False) w w5) (hb : ∀ a, A = some a → w.heap.size < a.block ∧ a.block < w5.heap.size ∧ ∃ x, w5.heap[a.block]? = some (.cells x 3 (0, 0))) :
    Fr (fun _ => False) w ((w5.drew.alloc (.cells #[.bool false, .float .f32 0, .float .f32 0] 254)).alloc (.cells (cliCells c A n c.first 0 (.slice none 0 0) (.slice none 0 0) (.pointer (some ⟨w5.heap.size, 0, none⟩))) 161)) ∧
    NewCli c w ((w5.drew.alloc (.cells #[.bool false, .float .f32 0, .float .f32 0] 254)).alloc (.cells (cliCells c A n c.first 0 (.slice none 0 0) (.slice none 0 0) (.pointer (some ⟨w5.heap.size, 0, none⟩))) 161)) (w5.heap.size + 1) := by
  have h5 := hF.size
  refine ⟨(hF.drew.alloc _).alloc _, A, n, w5.heap.size, by omega, h5, by omega, heap_two (w := w5.drew), heap_old (heap_alloc_new w5.drew _), ?_, fun a ha => ?_⟩
  · exact hI.below (((below_ofDrew (Below.refl _ w5.drew)).alloc (Nat.le_refl _) _).alloc (by simp) _)
  · obtain ⟨h1, h2, x, h3⟩ := hb a ha
    exact ⟨by omega, by simp; omega, by omega, by omega, x, heap_old (heap_old (w := w5.drew) h3)⟩

set_option maxRecDepth 100000 in
set_option maxHeartbeats 4000000 in
theorem New_yes (c : CfgM) (A : Option Addr) (n : Nat) (w : World) (hA : IntsAt w A c.sys.groups) (hg : ErrT w) (hal : ∀ a, A = some a → a.block < w.heap.size) (hm : c.sys.machine.size ≤ 140737488351232) (hgl : c.sys.groups.length ≤ 1099511627776) (hok : NewMay c) :
    Calls Tryz.prog 17 #[.agg (cfgCells c A n)] w fun r w' => ∃ b, r = .returned (.tuple #[.pointer (some ⟨b, 0, none⟩), .int .i64 0]) ∧ Fr (fun _ => False) w w' ∧ NewCli c w w' b := by
  have hA1 := hA.below ((Below.refl w.heap.size w).alloc (Nat.le_refl _) (.cells (cfgCells c A n) 28))
  have hP := PrintSys_any c.sys A n (w.alloc (.cells (cfgCells c A n) 28)) hA1 (hg.below ((Below.refl _ _).alloc (Nat.le_refl _) _)) (fun a ha => by have := hal a ha; simp; omega) hm (by omega)
  have hx := Lib.hid (heap_alloc_new w (.cells (cfgCells c A n) 28))
  have HP := Lib.hid hP
  have HR := Lib.hid (Right_any c.pace)
  have HA := Lib.hid hA1
  have HL := Lib.hid hgl
  obtain ⟨h0, h1, h2, h3, h4, h5, h6, h7, h8⟩ := hok
  have e2 : printSysM c.sys = (1, ((newW 1024).sys c.sys).body, 0) := by unfold printSysM; rw [if_pos h8]
  rw [e2] at HP
  rw [h7] at HR
  clear hP hA hg hal hm hgl hA1 e2 h8
  unfold cfgCells paceV sysV at *
  go_enter Tryz.func17, Tryz.ntmps17
  go_wp2_with fail
  refine HP.out.mono ?_
  rintro e w1 ⟨rfl, hf1⟩
  clear HP
  have hx1 := blockMove hx hf1 id
  have HA1 := Lib.hid (HA.out.fr hf1 (fun _ _ h => h))
  have HF := Lib.hid (((Fr.refl (fun _ => False) w).alloc (.cells #[.int .i64 c.addr, .int .i64 c.inst, .int .i64 c.first, .int .i64 c.window, .int .i64 c.pace.base, .int .i64 c.pace.cap, .int .i64 c.pace.tries, .int .i64 c.sys.stamp, .string c.sys.machine, .int .i64 c.sys.user, .int .i64 c.sys.group, .slice A c.sys.groups.length n] 28)).trans hf1)
  clear hx hf1 HA
  have hz1 : w.heap.size < w1.heap.size := lt_of_block hx1.out
  obtain ⟨n0, n1, n2, n3, n4, n5, n6, n7, n8, n9, n10, n11⟩ := box12 hx1
  go_wp2_with (first | (go_at_call 75; refine (isAddress_any _ _).mono ?_; rintro e w2 ⟨rfl, rfl⟩) | (go_at_call 76; refine (HR.out _).mono ?_; rintro e w2 ⟨rfl, hf2⟩; have HF2 := Lib.hid ((HF.out.alloc _).trans hf2); have HA2 := Lib.hid ((HA1.out.fr ((Fr.refl (fun _ => False) w1).alloc _) (fun _ _ h => h)).fr hf2 (fun _ _ h => h)); have hx2 : Hid (w2.heap[w.heap.size]? = _) := Lib.hid ((hf2.block _ (by simp; omega) id).trans (heap_old hx1.out)); have hz2 : w.heap.size < w2.heap.size := lt_of_block hx2.out; clear hf2 n0 n1 n2 n3 n4 n5 n6 n7 n8 n9 n10 n11; obtain ⟨n0, n1, n2, n3, n4, n5, n6, n7, n8, n9, n10, n11⟩ := box12 hx2))
  refine (clone_ints c.sys.groups A n _ HA2.out HL.out).mono ?_
  rintro e w3 ⟨v, rfl, ho, hb⟩
  obtain ⟨A3, c3, rfl⟩ := owns_slice ho
  have HO := Lib.hid ho
  have HB := Lib.hid hb
  clear ho hb n0 n1 n2 n3 n4 n5 n6 n7 n8 n9 n10 n11
  have hx3 : Hid (w3.heap[w.heap.size]? = _) := Lib.hid ((HB.out.block _ hz2).trans hx2.out)
  have hz3 : w.heap.size < w3.heap.size := lt_of_block hx3.out
  have hf11 := freeOf hx3.out 11
  have hc11 := cellOf hx3.out 11
  have hx4 := Lib.hid (setOf' hx3.out 11 (.slice A3 c.sys.groups.length c3))
  simp only [List.setIfInBounds_toArray, List.set_cons_succ, List.set_cons_zero] at hx4
  obtain ⟨n0, n1, n2, n3, n4, n5, n6, n7, n8, n9, n10, n11⟩ := box12 hx4
  clear hx1 hx2 hx3 HA1 HF HR
  go_wp2_with fail
  have hI5 : Hid (IntsAt (w3.setCell ⟨w.heap.size, 11, none⟩ (.slice A3 c.sys.groups.length c3)) A3 c.sys.groups) := Lib.hid ((IntsAt.ofRow HO.out).fr ((Fr.refl (fun k => k = w.heap.size) w3).setCell (.inl rfl) _) (fun a ha e => by have := (HO.out.lt a.block (by rw [ha]; rfl)).1; omega))
  have hF5 : Hid (Fr (fun _ => False) w (w3.setCell ⟨w.heap.size, 11, none⟩ (.slice A3 c.sys.groups.length c3))) := Lib.hid ((HF2.out.then (Fr.ofBelow (S := fun _ => False) HB.out) (fun _ _ h => h)).setCell (.inr (Nat.le_refl _)) _)
  have hb5 : Hid (∀ a, A3 = some a → w.heap.size < a.block ∧ a.block < (w3.setCell ⟨w.heap.size, 11, none⟩ (.slice A3 c.sys.groups.length c3)).heap.size ∧ ∃ x, (w3.setCell ⟨w.heap.size, 11, none⟩ (.slice A3 c.sys.groups.length c3)).heap[a.block]? = some (.cells x 3 (0, 0))) := Lib.hid (fun a ha => by
    have h1 := HO.out.lt a.block (by rw [ha]; rfl)
    refine ⟨by omega, by rw [World.size_setCell]; omega, ?_⟩
    rcases HO.out.2 with ⟨h0, _⟩ | ⟨g, cap, cur, h0, _, hg, _⟩
    · injection h0 with h0; rw [ha] at h0; cases h0
    · injection h0 with h0
      rw [ha] at h0
      injection h0 with h0
      subst h0
      exact ⟨cur, (Below.heap_setCell _ _ _ _ (by show g ≠ w.heap.size; intro e; rw [e] at h1; omega)).trans hg⟩)
  have hz5 : w.heap.size < (w3.setCell ⟨w.heap.size, 11, none⟩ (.slice A3 c.sys.groups.length c3)).heap.size := by rw [World.size_setCell]; exact hz3
  clear HO HB HA2 HF2 hf11 hc11 hz1 hz2 hz3 HL
  generalize w3.setCell ⟨w.heap.size, 11, none⟩ (.slice A3 c.sys.groups.length c3) = w5 at *
  go_region_with (go_at_call 78; refine (NewMeter_any _).mono ?_; rintro e w6 ⟨rfl, rfl⟩)
  all_goals (
    go_wp2
    refine bodyPost_ret (v := .tuple #[.pointer (some ⟨w5.heap.size + 1, 0, none⟩), .int .i64 0]) ?_ rfl ⟨_, rfl, newCli_mk hI5.out hF5.out hb5.out⟩
    simp [results, Tryz.results17, go_sem])
end Go.Proofs.YtbegjpmifcnieaaGreatDoor
