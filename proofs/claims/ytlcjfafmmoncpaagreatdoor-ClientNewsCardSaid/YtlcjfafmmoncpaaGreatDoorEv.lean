/- callboxlaw17.ClientNews, walked. -/
import Derived.Test.YtlcjfafmmoncpaaGreatDoorEu
import Derived.Test.YtlcjfafmmoncpaaGreatDoorEt
namespace Go.Proofs.YtlcjfafmmoncpaaGreatDoor
open Go.RowKit
set_option linter.unusedVariables false
set_option linter.unusedSimpArgs false

set_option maxRecDepth 100000 in
set_option maxHeartbeats 4000000 in
theorem ClientNews_any (c : CfgM) (A : Option Addr) (n : Nat) (w : World) (hA : IntsAt w A c.sys.groups) (hg : ErrT w) (hal : ∀ a, A = some a → a.block < w.heap.size) :
    Calls Tryz.prog 3 #[.agg #[.int .i64 c.addr, .int .i64 c.inst, .int .i64 c.first, .int .i64 c.window, .int .i64 c.pace.base, .int .i64 c.pace.cap, .int .i64 c.pace.tries, .int .i64 c.sys.stamp, .string c.sys.machine, .int .i64 c.sys.user, .int .i64 c.sys.group, .slice A c.sys.groups.length n]] w fun r w' => r = .returned (.bool true) ∧ Fr (fun _ => False) w w' := by
  have hx := Lib.hid (heap_alloc_new w (.cells #[.int .i64 c.addr, .int .i64 c.inst, .int .i64 c.first, .int .i64 c.window, .int .i64 c.pace.base, .int .i64 c.pace.cap, .int .i64 c.pace.tries, .int .i64 c.sys.stamp, .string c.sys.machine, .int .i64 c.sys.user, .int .i64 c.sys.group, .slice A c.sys.groups.length n] 28))
  have hb1 : Below w.heap.size w (w.alloc (.cells #[.int .i64 c.addr, .int .i64 c.inst, .int .i64 c.first, .int .i64 c.window, .int .i64 c.pace.base, .int .i64 c.pace.cap, .int .i64 c.pace.tries, .int .i64 c.sys.stamp, .string c.sys.machine, .int .i64 c.sys.user, .int .i64 c.sys.group, .slice A c.sys.groups.length n] 28)) := (Below.refl w.heap.size w).alloc (Nat.le_refl _) _
  have HAd := Lib.hid (fun w' => addsUp_same (c.sys.machine.size : Int) (c.sys.groups.length : Int) w' (by omega) (by omega))
  have HAw := Lib.hid (awake17_any (w.alloc (.cells #[.int .i64 c.addr, .int .i64 c.inst, .int .i64 c.first, .int .i64 c.window, .int .i64 c.pace.base, .int .i64 c.pace.cap, .int .i64 c.pace.tries, .int .i64 c.sys.stamp, .string c.sys.machine, .int .i64 c.sys.user, .int .i64 c.sys.group, .slice A c.sys.groups.length n] 28)) (hg.below hb1))
  have HBg : Hid (∀ (w' : World) (hf : Fr (fun _ => False) w w'), addsM c.sys.machine.size c.sys.groups.length ≤ 2147483647 → Calls Tryz.prog 10 #[.agg #[.int .i64 c.addr, .int .i64 c.inst, .int .i64 c.first, .int .i64 c.window, .int .i64 c.pace.base, .int .i64 c.pace.cap, .int .i64 c.pace.tries, .int .i64 c.sys.stamp, .string c.sys.machine, .int .i64 c.sys.user, .int .i64 c.sys.group, .slice A c.sys.groups.length n]] w' fun r w2 => ∃ v, r = .returned (.tuple #[v, .bool true]) ∧ Fr (fun _ => False) w' w2) :=
    Lib.hid (fun w' hf hle => begun_any c A n w' (hA.fr hf (fun _ _ h => h)) (hg.fr hf id) (fun a ha => Nat.lt_of_lt_of_le (hal a ha) hf.size) (by unfold addsM at hle; split at hle <;> omega) (by unfold addsM at hle; split at hle <;> omega))
  clear hA hg hal hb1
  by_cases hle : addsM c.sys.machine.size c.sys.groups.length ≤ 2147483647
  · have HLe := Lib.hid hle
    generalize addsM c.sys.machine.size c.sys.groups.length = s at hle HAd HBg HLe
    go_enter Tryz.func3, Tryz.ntmps3
    go_wp2_with (go_at_call 8; refine (HAd.out _).mono ?_; rintro e w' ⟨rfl, hw⟩; obtain rfl := hw)
    refine HAw.out.mono ?_
    rintro e w1 ⟨rfl, hf1⟩
    have hx1 := blockMove hx hf1 id
    have HF1 := Lib.hid (((Fr.refl (fun _ => False) w).alloc (.cells #[.int .i64 c.addr, .int .i64 c.inst, .int .i64 c.first, .int .i64 c.window, .int .i64 c.pace.base, .int .i64 c.pace.cap, .int .i64 c.pace.tries, .int .i64 c.sys.stamp, .string c.sys.machine, .int .i64 c.sys.user, .int .i64 c.sys.group, .slice A c.sys.groups.length n] 28)).trans hf1)
    clear hf1
    obtain ⟨n0, n1, n2, n3, n4, n5, n6, n7, n8, n9, n10, n11⟩ := box12 hx1
    go_wp2_with fail
    refine (HBg.out _ HF1.out HLe.out).mono ?_
    rintro e w2 ⟨v, rfl, hf2⟩
    have HF2 := Lib.hid (HF1.out.trans hf2)
    clear hf2 n0 n1 n2 n3 n4 n5 n6 n7 n8 n9 n10 n11
    go_wp2_with fail
    go_ret
    exact ⟨rfl, HF2.out⟩
  · have hle := Int.not_le.1 hle
    generalize addsM c.sys.machine.size c.sys.groups.length = s at hle HAd HBg
    go_enter Tryz.func3, Tryz.ntmps3
    go_wp2_with (go_at_call 8; refine (HAd.out _).mono ?_; rintro e w' ⟨rfl, hw⟩; obtain rfl := hw)
    go_ret
    exact ⟨rfl, (Fr.refl _ _).alloc _⟩
end Go.Proofs.YtlcjfafmmoncpaaGreatDoor
