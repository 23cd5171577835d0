/- The examples of the chapter on credentials: what the statements ask first. -/
import Derived.Test.YtcooijhndiainaaGreatDoorLw
namespace Go.Proofs.YtcooijhndiainaaGreatDoor
open Go.RowKit

def kS : SysM := ⟨7, ⟨#[97, 98]⟩, 1, 2, [3]⟩
def kB : ByteArray := ⟨#[0, 0, 0, 7, 0, 0, 0, 2, 97, 98, 0, 0, 0, 0, 0, 1, 0, 0, 0, 2, 0, 0, 0, 1, 0, 0, 0, 3]⟩
def kM : ByteArray := ⟨#[0, 0, 0, 0, 0, 0, 0, 5, 0, 0, 0, 0, 0, 0, 0, 9, 0, 0, 0, 0, 0, 0, 0, 8, 0, 0, 0, 7, 0, 0, 0, 2, 97, 98, 0, 0, 0, 0, 0, 1, 0, 0, 0, 2, 0, 0, 0, 1, 0, 0, 0, 3]⟩
def kC (x : Int) (a : AuthM) : CallM := ⟨x, 0, 0, 0, 0, a, ⟨0, ByteArray.empty⟩, ByteArray.empty⟩
theorem kp1 : printSysM kS = (1, kB, 0) := by kernel_rfl
theorem kp2 : printMarkM ⟨5, 9, 8, kS⟩ = (1296126539, kM, 0) := by kernel_rfl
theorem kp3 : parseSysM ⟨1, kB⟩ = (kS, 0) := by kernel_rfl
theorem kp4 : parseSysM ⟨1296126539, kM⟩ = (zeroSys, 112) := by kernel_rfl
theorem kp5 : judgeM (kC 9 ⟨1296126539, kM⟩) = (⟨5, 9, 8, kS⟩, true, 0) := by kernel_rfl
theorem kp6 : judgeM (kC 8 ⟨1296126539, kM⟩) = (zeroMark, false, 1) := by kernel_rfl
theorem kp7 : judgeM (kC 0 ⟨2, ByteArray.empty⟩) = (zeroMark, false, 2) := by kernel_rfl
theorem kM_size : kM.size = 52 := by kernel_rfl
theorem kB_size : kB.size = 28 := by kernel_rfl

theorem PrintSys_k (A : Option Addr) (c : Nat) (w : World) (hA : IntsAt w A [3]) (hg : ErrT w) (hal : ∀ a, A = some a → a.block < w.heap.size) :
    Calls Tryz.prog 15 #[.agg #[.int .i64 7, .string ⟨#[97, 98]⟩, .int .i64 1, .int .i64 2, .slice A 1 c]] w fun r w' => r = .returned (.tuple #[.agg #[.int .i64 1, .string kB], .int .i64 0]) ∧ Fr (fun _ => False) w w' := by
  have h := PrintSys_any kS A c w hA hg hal (by decide) (by decide)
  rw [kp1] at h; exact h
theorem PrintMark_k (A : Option Addr) (c : Nat) (w : World) (hA : IntsAt w A [3]) (hg : ErrT w) (hal : ∀ a, A = some a → a.block < w.heap.size) :
    Calls Tryz.prog 17 #[.agg #[.int .i64 5, .int .i64 9, .int .i64 8, .int .i64 7, .string ⟨#[97, 98]⟩, .int .i64 1, .int .i64 2, .slice A 1 c]] w fun r w' => r = .returned (.tuple #[.agg #[.int .i64 1296126539, .string kM], .int .i64 0]) ∧ Fr (fun _ => False) w w' := by
  have h := PrintMark_any ⟨5, 9, 8, kS⟩ A c w hA hg hal (by decide) (by decide)
  rw [kp2] at h; exact h
theorem ParseSys_k (w : World) (hg : ErrT w) :
    Calls Tryz.prog 20 #[.agg #[.int .i64 1, .string kB]] w fun r w' => Fr (fun _ => False) w w' ∧ ∃ A c, r = .returned (.tuple #[.agg #[.int .i64 7, .string ⟨#[97, 98]⟩, .int .i64 1, .int .i64 2, .slice A 1 c], .int .i64 0]) := by
  have h := ParseSys_any ⟨1, kB⟩ w hg (by decide)
  rw [kp3] at h
  refine h.mono ?_
  rintro r w' ⟨hf, gv, rfl, hI⟩
  obtain ⟨A, c, rfl⟩ := hI.slice
  exact ⟨hf, A, c, rfl⟩
theorem ParseSys_l (w : World) (hg : ErrT w) :
    Calls Tryz.prog 20 #[.agg #[.int .i64 1296126539, .string kM]] w fun r w' => Fr (fun _ => False) w w' ∧ ∃ A c, r = .returned (.tuple #[.agg #[.int .i64 0, .string ByteArray.empty, .int .i64 0, .int .i64 0, .slice A 0 c], .int .i64 112]) := by
  have h := ParseSys_any ⟨1296126539, kM⟩ w hg (by decide)
  rw [kp4] at h
  refine h.mono ?_
  rintro r w' ⟨hf, gv, rfl, hI⟩
  obtain ⟨A, c, rfl⟩ := hI.slice
  exact ⟨hf, A, c, rfl⟩
theorem Judge_k (w : World) (hg : ErrT w) :
    Calls Tryz.prog 28 #[.agg (callCells (kC 9 ⟨1296126539, kM⟩))] w fun r w' => Fr (fun _ => False) w w' ∧ ∃ A c, r = .returned (.tuple #[.agg #[.int .i64 5, .int .i64 9, .int .i64 8, .int .i64 7, .string ⟨#[97, 98]⟩, .int .i64 1, .int .i64 2, .slice A 1 c], .bool true, .int .i64 0]) := by
  have h := Judge_any (kC 9 ⟨1296126539, kM⟩) w hg (by decide)
  rw [kp5] at h
  refine h.mono ?_
  rintro r w' ⟨hf, gv, rfl, hI⟩
  obtain ⟨A, c, rfl⟩ := hI.slice
  exact ⟨hf, A, c, rfl⟩
theorem Judge_l (w : World) (hg : ErrT w) :
    Calls Tryz.prog 28 #[.agg (callCells (kC 8 ⟨1296126539, kM⟩))] w fun r w' => Fr (fun _ => False) w w' ∧ ∃ A c, r = .returned (.tuple #[.agg #[.int .i64 0, .int .i64 0, .int .i64 0, .int .i64 0, .string ByteArray.empty, .int .i64 0, .int .i64 0, .slice A 0 c], .bool false, .int .i64 1]) := by
  have h := Judge_any (kC 8 ⟨1296126539, kM⟩) w hg (by decide)
  rw [kp6] at h
  refine h.mono ?_
  rintro r w' ⟨hf, gv, rfl, hI⟩
  obtain ⟨A, c, rfl⟩ := hI.slice
  exact ⟨hf, A, c, rfl⟩
theorem Judge_m (w : World) (hg : ErrT w) :
    Calls Tryz.prog 28 #[.agg (callCells (kC 0 ⟨2, ByteArray.empty⟩))] w fun r w' => Fr (fun _ => False) w w' ∧ ∃ A c, r = .returned (.tuple #[.agg #[.int .i64 0, .int .i64 0, .int .i64 0, .int .i64 0, .string ByteArray.empty, .int .i64 0, .int .i64 0, .slice A 0 c], .bool false, .int .i64 2]) := by
  have h := Judge_any (kC 0 ⟨2, ByteArray.empty⟩) w hg (by decide)
  rw [kp7] at h
  refine h.mono ?_
  rintro r w' ⟨hf, gv, rfl, hI⟩
  obtain ⟨A, c, rfl⟩ := hI.slice
  exact ⟨hf, A, c, rfl⟩

set_option maxRecDepth 100000 in
set_option maxHeartbeats 2000000 in
theorem awake_any (w : World) (hg : ErrT w) : Calls Tryz.prog 13 #[] w fun r w' => r = .returned (.bool true) ∧ Fr (fun _ => False) w w' := by
  have HG := Lib.hid hg
  clear hg
  have sM := kM_size
  have sB := kB_size
  have hcut : kM.extract 24 kM.size = kB := by kernel_rfl
  have HC := Lib.hid hcut
  clear hcut
  go_enter Tryz.func13, Tryz.ntmps13
  go_wp2_with fail
  refine (known_any _).mono ?_
  rintro e w1 ⟨A1, c1, rfl, hf1, hA1, ha1⟩
  unfold sysV
  go_wp2_with fail
  have HG1 := Lib.hid (HG.out.fr hf1 id)
  refine (PrintSys_k A1 c1 _ hA1 HG1.out (fun a h => (ha1 a h).2)).mono ?_
  rintro e w2 ⟨rfl, hf2⟩
  clear hA1 ha1
  have hf02 := hf1.then hf2 (fun _ _ h => h)
  clear hf1 hf2
  have ha := Lib.hid (heap_alloc_new w2 (.cells #[.int .i64 1, .string kB] 32))
  go_wp2_with fail
  refine (known_any _).mono ?_
  rintro e w3 ⟨A3, c3, rfl, hf3, hA3, ha3⟩
  unfold sysV
  have ha := hidMove ha hf3 id
  have hf03 := (hf02.alloc _).then hf3 (fun _ _ h => h)
  clear hf02 hf3
  go_wp2_with fail
  have HG3 := Lib.hid (HG.out.fr hf03 id)
  refine (PrintMark_k A3 c3 _ hA3 HG3.out (fun a h => (ha3 a h).2)).mono ?_
  rintro e w4 ⟨rfl, hf4⟩
  clear hA3 ha3 HG3
  have ha := hidMove ha hf4 id
  have hb := Lib.hid (heap_alloc_new w4 (.cells #[.int .i64 1296126539, .string kM] 32))
  have ha := Lib.hid (heap_old (o := .cells #[.int .i64 1296126539, .string kM] 32) ha.out)
  have hf04 := (hf03.then hf4 (fun _ _ h => h)).alloc (.cells #[.int .i64 1296126539, .string kM] 32)
  clear hf03 hf4
  have hl4 : w2.heap.size < w4.heap.size + 1 := by have := lt_of_block ha.out; simpa using this
  obtain ⟨a0, a1, _, _⟩ := box2 ha
  go_wp2_with fail
  refine (ParseSys_k _ (HG.out.fr hf04 id)).mono ?_
  rintro e w5 ⟨hf5, A5, c5, rfl⟩
  clear a0 a1
  have hs := Lib.hid (heap_alloc_new w5 (.cells #[.int .i64 7, .string ⟨#[97, 98]⟩, .int .i64 1, .int .i64 2, .slice A5 1 c5] 24))
  have ha := Lib.hid (heap_old (o := .cells #[.int .i64 7, .string ⟨#[97, 98]⟩, .int .i64 1, .int .i64 2, .slice A5 1 c5] 24) (hidMove ha hf5 id).out)
  have hb := Lib.hid (heap_old (o := .cells #[.int .i64 7, .string ⟨#[97, 98]⟩, .int .i64 1, .int .i64 2, .slice A5 1 c5] 24) (hidMove hb hf5 id).out)
  have hf05 := (hf04.then hf5 (fun _ _ h => h)).alloc (.cells #[.int .i64 7, .string ⟨#[97, 98]⟩, .int .i64 1, .int .i64 2, .slice A5 1 c5] 24)
  clear hf04 hf5 hl4
  obtain ⟨b0, b1, _, _⟩ := box2 hb
  have hl5 : w4.heap.size < w5.heap.size + 1 := by have := lt_of_block hb.out; simpa using this
  go_wp2_with fail
  refine (ParseSys_l _ (HG.out.fr hf05 id)).mono ?_
  rintro e w6 ⟨hf6, A6, c6, rfl⟩
  clear b0 b1 hl5
  have hs := Lib.hid (heap_old (o := .cells #[.int .i64 0, .string ByteArray.empty, .int .i64 0, .int .i64 0, .slice A6 0 c6] 24) (hidMove hs hf6 id).out)
  have ha := Lib.hid (heap_old (o := .cells #[.int .i64 0, .string ByteArray.empty, .int .i64 0, .int .i64 0, .slice A6 0 c6] 24) (hidMove ha hf6 id).out)
  have hb := Lib.hid (heap_old (o := .cells #[.int .i64 0, .string ByteArray.empty, .int .i64 0, .int .i64 0, .slice A6 0 c6] 24) (hidMove hb hf6 id).out)
  have hf06 := (hf05.then hf6 (fun _ _ h => h)).alloc (.cells #[.int .i64 0, .string ByteArray.empty, .int .i64 0, .int .i64 0, .slice A6 0 c6] 24)
  clear hf05 hf6
  obtain ⟨b0, b1, _, _⟩ := box2 hb
  have hl6 : w4.heap.size < w6.heap.size + 1 := by have := lt_of_block hb.out; simpa using this
  go_wp2_with fail
  refine (Judge_k _ (HG.out.fr hf06 id)).mono ?_
  rintro e w7 ⟨hf7, A7, c7, rfl⟩
  clear b0 b1 hl6
  have hm := Lib.hid (heap_alloc_new w7 (.cells #[.int .i64 5, .int .i64 9, .int .i64 8, .int .i64 7, .string ⟨#[97, 98]⟩, .int .i64 1, .int .i64 2, .slice A7 1 c7] 26))
  have hs := Lib.hid (heap_old (o := .cells #[.int .i64 5, .int .i64 9, .int .i64 8, .int .i64 7, .string ⟨#[97, 98]⟩, .int .i64 1, .int .i64 2, .slice A7 1 c7] 26) (hidMove hs hf7 id).out)
  have ha := Lib.hid (heap_old (o := .cells #[.int .i64 5, .int .i64 9, .int .i64 8, .int .i64 7, .string ⟨#[97, 98]⟩, .int .i64 1, .int .i64 2, .slice A7 1 c7] 26) (hidMove ha hf7 id).out)
  have hb := Lib.hid (heap_old (o := .cells #[.int .i64 5, .int .i64 9, .int .i64 8, .int .i64 7, .string ⟨#[97, 98]⟩, .int .i64 1, .int .i64 2, .slice A7 1 c7] 26) (hidMove hb hf7 id).out)
  have hf07 := (hf06.then hf7 (fun _ _ h => h)).alloc (.cells #[.int .i64 5, .int .i64 9, .int .i64 8, .int .i64 7, .string ⟨#[97, 98]⟩, .int .i64 1, .int .i64 2, .slice A7 1 c7] 26)
  clear hf06 hf7
  obtain ⟨b0, b1, _, _⟩ := box2 hb
  have hl7 : w4.heap.size < w7.heap.size + 1 := by have := lt_of_block hb.out; simpa using this
  go_wp2_with fail
  refine (Judge_l _ (HG.out.fr hf07 id)).mono ?_
  rintro e w8 ⟨hf8, A8, c8, rfl⟩
  clear b0 b1 hl7
  have hm := Lib.hid (heap_old (o := .cells #[.int .i64 0, .int .i64 0, .int .i64 0, .int .i64 0, .string ByteArray.empty, .int .i64 0, .int .i64 0, .slice A8 0 c8] 26) (hidMove hm hf8 id).out)
  have hs := Lib.hid (heap_old (o := .cells #[.int .i64 0, .int .i64 0, .int .i64 0, .int .i64 0, .string ByteArray.empty, .int .i64 0, .int .i64 0, .slice A8 0 c8] 26) (hidMove hs hf8 id).out)
  have ha := Lib.hid (heap_old (o := .cells #[.int .i64 0, .int .i64 0, .int .i64 0, .int .i64 0, .string ByteArray.empty, .int .i64 0, .int .i64 0, .slice A8 0 c8] 26) (hidMove ha hf8 id).out)
  have hb := Lib.hid (heap_old (o := .cells #[.int .i64 0, .int .i64 0, .int .i64 0, .int .i64 0, .string ByteArray.empty, .int .i64 0, .int .i64 0, .slice A8 0 c8] 26) (hidMove hb hf8 id).out)
  have hf08 := (hf07.then hf8 (fun _ _ h => h)).alloc (.cells #[.int .i64 0, .int .i64 0, .int .i64 0, .int .i64 0, .string ByteArray.empty, .int .i64 0, .int .i64 0, .slice A8 0 c8] 26)
  clear hf07 hf8
  go_wp2_with fail
  refine (Judge_m _ (HG.out.fr hf08 id)).mono ?_
  rintro e w9 ⟨hf9, A9, c9, rfl⟩
  have hm := Lib.hid (heap_old (o := .cells #[.int .i64 0, .int .i64 0, .int .i64 0, .int .i64 0, .string ByteArray.empty, .int .i64 0, .int .i64 0, .slice A9 0 c9] 26) (hidMove hm hf9 id).out)
  have hs := Lib.hid (heap_old (o := .cells #[.int .i64 0, .int .i64 0, .int .i64 0, .int .i64 0, .string ByteArray.empty, .int .i64 0, .int .i64 0, .slice A9 0 c9] 26) (hidMove hs hf9 id).out)
  have ha := Lib.hid (heap_old (o := .cells #[.int .i64 0, .int .i64 0, .int .i64 0, .int .i64 0, .string ByteArray.empty, .int .i64 0, .int .i64 0, .slice A9 0 c9] 26) (hidMove ha hf9 id).out)
  have hb := Lib.hid (heap_old (o := .cells #[.int .i64 0, .int .i64 0, .int .i64 0, .int .i64 0, .string ByteArray.empty, .int .i64 0, .int .i64 0, .slice A9 0 c9] 26) (hidMove hb hf9 id).out)
  have hf09 := (hf08.then hf9 (fun _ _ h => h)).alloc (.cells #[.int .i64 0, .int .i64 0, .int .i64 0, .int .i64 0, .string ByteArray.empty, .int .i64 0, .int .i64 0, .slice A9 0 c9] 26)
  clear hf08 hf9
  have la : w2.heap.size < w9.heap.size + 1 := by have := lt_of_block ha.out; simpa using this
  have lb : w4.heap.size < w9.heap.size + 1 := by have := lt_of_block hb.out; simpa using this
  have ls : w5.heap.size < w9.heap.size + 1 := by have := lt_of_block hs.out; simpa using this
  have lm : w7.heap.size < w9.heap.size + 1 := by have := lt_of_block hm.out; simpa using this
  obtain ⟨a0, a1, _, _⟩ := box2 ha
  obtain ⟨b0, b1, _, _⟩ := box2 hb
  obtain ⟨s0, s1, s2, s3, s4⟩ := box5 hs
  obtain ⟨m0, m1, m2, m3, m4, m5, m6, m7⟩ := box8 hm
  have hcut := HC.out
  rw [sM] at hcut
  have h24 : (24 : Int) ≤ kM.size := by rw [sM]; decide
  go_wp2
  go_quiet (fail)
  go_wp2
  go_ret
  exact ⟨rfl, hf09.drewN _⟩
end Go.Proofs.YtcooijhndiainaaGreatDoor
