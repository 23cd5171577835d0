/- The document's credentials (callboxref11): PrintSys, PrintMark. -/
import Derived.Test.YtcooijhndiainaaGreatDoorR7
namespace Go.Proofs.YtcooijhndiainaaGreatDoor
open Go.RowKit

theorem sys1000 {s : SysM} (hn : namedB s = true) : (newW 1000).sys s = ⟨sysStr s, 1000, 0⟩ := by
  rw [w_sys (st := newW 1000) (by rfl) hn (by show ((0 : Nat) : Int) + 340 ≤ 1000; omega)]
  simp [newW]
theorem mark1000 {m : MarkM} (hm : mayB m = true) : ((((newW 1000).hyper m.inst).hyper m.seq).hyper m.water).sys m.sys = ⟨markStr m, 1000, 0⟩ := by
  obtain ⟨h1, h2, h3, h4⟩ := mayB_iff.1 hm
  rw [w_hyper (st := newW 1000) m.inst (by rfl) (by omega) (by omega) (by show ((0 : Nat) : Int) + 8 ≤ 1000; omega)]
  rw [w_hyper m.seq (by rfl) (by omega) (by omega) (by simp [newW, ByteArray.size_append, numStr_size])]
  rw [w_hyper m.water (by rfl) (by omega) (by omega) (by simp [newW, ByteArray.size_append, numStr_size])]
  rw [w_sys (by rfl) h4 (by simp [newW, ByteArray.size_append, numStr_size])]
  simp [newW, markStr, ByteArray.append_assoc]

set_option maxRecDepth 100000 in
set_option maxHeartbeats 4000000 in
theorem rPrintSys_any (s : SysM) (A : Option Addr) (c : Nat) (w : World) (hA : IntsAt w A s.groups) (hal : ∀ a, A = some a → a.block < w.heap.size) (hm : s.machine.size ≤ 1099511627776) (hgl : s.groups.length ≤ 1099511627776) :
    Calls Tryz.prog 16 #[.agg #[.int .i64 s.stamp, .string s.machine, .int .i64 s.user, .int .i64 s.group, .slice A s.groups.length c]] w fun r w' => r = .returned (.tuple #[.agg #[.int .i64 (printSysM s).1, .string (printSysM s).2.1], .int .i64 (printSysM s).2.2]) ∧ Fr (fun _ => False) w w' := by
  have HD := Lib.hid hal
  have hb3 : Below w.heap.size w ((w.alloc (.cells #[.int .i64 s.stamp, .string s.machine, .int .i64 s.user, .int .i64 s.group, .slice A s.groups.length c] 24)).alloc (.cells #[.int .i64 0, .string ByteArray.empty] 32)) :=
    ((Below.refl _ _).alloc (Nat.le_refl _) _).alloc (by simp) _
  have hA3 := hA.below hb3
  have HA3 := Lib.hid hA3
  have hxs := Lib.hid (heap_old (o := .cells #[.int .i64 0, .string ByteArray.empty] 32) (heap_alloc_new w (.cells #[.int .i64 s.stamp, .string s.machine, .int .i64 s.user, .int .i64 s.group, .slice A s.groups.length c] 24)))
  have hxa := Lib.hid (heap_two (w := w) (a := .cells #[.int .i64 s.stamp, .string s.machine, .int .i64 s.user, .int .i64 s.group, .slice A s.groups.length c] 24) (b := .cells #[.int .i64 0, .string ByteArray.empty] 32))
  have HB := Lib.hid hb3
  clear hA hal hA3 hb3
  by_cases hn : namedB s = true
  · have e : printSysM s = (1, sysStr s, 0) := printSys_yes hn
    have e2 := Lib.hid (sys1000 hn)
    rw [e]
    clear e
    go_enter Tryz.func16, Tryz.ntmps16
    go_wp2_with (go_at_call 48; refine (SysMay_any s A c _ HA3.out).mono ?_; rintro e w1 ⟨rfl, hf1⟩; have hxa := hidMove hxa hf1 id; have hxs := hidMove hxs hf1 id; obtain ⟨n0, n1, n2, n3, n4⟩ := box5 hxs)
    refine (rNew_any 1000 _ (by decide)).mono ?_
    rintro e w2 ⟨rfl, hf2, hw2⟩
    have e4 : max (1000 : Int) 0 = 1000 := by decide
    rw [e4] at hw2
    clear e4
    have hxa := hidMove hxa hf2 id
    have hxs := hidMove hxs hf2 id
    obtain ⟨n0, n1, n2, n3, n4⟩ := box5 hxs
    have hA2 := (HA3.out.fr hf1 (fun _ _ h => h)).fr hf2 (fun _ _ h => h)
    have hz1 : w.heap.size + 2 ≤ w1.heap.size := by have := hf1.size; simp at this; omega
    have hd : ∀ a, A = some a → a.block ≠ w1.heap.size := fun a ha e => by have := HD.out a ha; omega
    have HA2 := Lib.hid hA2
    have Hd := Lib.hid hd
    clear hA2 hd
    go_wp2_with fail
    refine (rsys_any s A c _ hw2 HA2.out Hd.out hm hgl).mono ?_
    rintro e w3 ⟨rfl, hf3, hw3⟩
    have hxa := hidMove hxa hf3 (by omega)
    have hf13 : Fr (fun _ => False) w w3 := ((Fr.ofBelow HB.out).then hf1 (fun _ _ h => h)).then (hf2.then hf3 (fun i hi e => by omega)) (fun _ _ h => h)
    have hw3' : RWr w3 w1.heap.size ⟨sysStr s, 1000, 0⟩ := by have := hw3; rwa [show WSt.sys ⟨ByteArray.empty, 1000, 0⟩ s = _ from e2.out] at this
    have q0 := cellOf hw3'.blk 0
    simp at q0
    have hlt3 := hw3'.lt
    obtain ⟨a0, a1, fa0, fa1⟩ := box2 hxa
    have hsz3 : w.heap.size + 1 < w3.heap.size := lt_of_block hxa.out
    go_wp2
    refine bodyPost_ret (v := .tuple #[.agg #[.int .i64 1, .string (sysStr s)], .int .i64 0]) ?_ rfl ⟨rfl, ?_⟩
    · simp [results, Tryz.results16, go_sem, a0, a1]
    · exact (hf13.setCell (.inr (by simp)) _).setCell (.inr (by simp)) _
  · have e : printSysM s = (0, ByteArray.empty, 110) := by simp [printSysM, hn]
    rw [e]
    clear e
    rw [Bool.not_eq_true] at hn
    go_enter Tryz.func16, Tryz.ntmps16
    go_wp2_with (go_at_call 48; refine (SysMay_any s A c _ HA3.out).mono ?_; rintro e w1 ⟨rfl, hf1⟩; have hxa := hidMove hxa hf1 id; obtain ⟨a0, a1, fa0, fa1⟩ := box2 hxa)
    have hsz4 : w.heap.size + 1 < w1.heap.size := lt_of_block hxa.out
    refine bodyPost_ret (v := .tuple #[.agg #[.int .i64 0, .string ByteArray.empty], .int .i64 110]) ?_ rfl ⟨rfl, ?_⟩
    · simp [results, Tryz.results16, go_sem, a0, a1]
      rfl
    · exact (((Fr.ofBelow HB.out).then hf1 (fun _ _ h => h)).setCell (.inr (by simp)) _).setCell (.inr (by simp)) _

set_option maxRecDepth 100000 in
set_option maxHeartbeats 4000000 in
theorem rPrintMark_any (m : MarkM) (A : Option Addr) (c : Nat) (w : World) (hA : IntsAt w A m.sys.groups) (hal : ∀ a, A = some a → a.block < w.heap.size) (hm : m.sys.machine.size ≤ 1099511627776) (hgl : m.sys.groups.length ≤ 1099511627776) :
    Calls Tryz.prog 18 #[.agg #[.int .i64 m.inst, .int .i64 m.seq, .int .i64 m.water, .int .i64 m.sys.stamp, .string m.sys.machine, .int .i64 m.sys.user, .int .i64 m.sys.group, .slice A m.sys.groups.length c]] w fun r w' => r = .returned (.tuple #[.agg #[.int .i64 (printMarkM m).1, .string (printMarkM m).2.1], .int .i64 (printMarkM m).2.2]) ∧ Fr (fun _ => False) w w' := by
  have HD := Lib.hid hal
  have hb3 : Below w.heap.size w ((w.alloc (.cells #[.int .i64 m.inst, .int .i64 m.seq, .int .i64 m.water, .int .i64 m.sys.stamp, .string m.sys.machine, .int .i64 m.sys.user, .int .i64 m.sys.group, .slice A m.sys.groups.length c] 26)).alloc (.cells #[.int .i64 0, .string ByteArray.empty] 32)) :=
    ((Below.refl _ _).alloc (Nat.le_refl _) _).alloc (by simp) _
  have hA3 := hA.below hb3
  have HA3 := Lib.hid hA3
  have hxs := Lib.hid (heap_old (o := .cells #[.int .i64 0, .string ByteArray.empty] 32) (heap_alloc_new w (.cells #[.int .i64 m.inst, .int .i64 m.seq, .int .i64 m.water, .int .i64 m.sys.stamp, .string m.sys.machine, .int .i64 m.sys.user, .int .i64 m.sys.group, .slice A m.sys.groups.length c] 26)))
  have hxa := Lib.hid (heap_two (w := w) (a := .cells #[.int .i64 m.inst, .int .i64 m.seq, .int .i64 m.water, .int .i64 m.sys.stamp, .string m.sys.machine, .int .i64 m.sys.user, .int .i64 m.sys.group, .slice A m.sys.groups.length c] 26) (b := .cells #[.int .i64 0, .string ByteArray.empty] 32))
  have HB := Lib.hid hb3
  clear hA hal hA3 hb3
  by_cases hn : mayB m = true
  · have e : printMarkM m = (1296126539, markStr m, 0) := printMark_yes hn
    have e2 := Lib.hid (mark1000 hn)
    rw [e]
    clear e
    go_enter Tryz.func18, Tryz.ntmps18
    go_wp2_with (go_at_call 53; refine (MarkMay_any m A c _ HA3.out).mono ?_; rintro e w1 ⟨rfl, hf1⟩; have hxa := hidMove hxa hf1 id; have hxs := hidMove hxs hf1 id; obtain ⟨n0, n1, n2, n3, n4, n5, n6, n7⟩ := box8 hxs)
    refine (rNew_any 1000 _ (by decide)).mono ?_
    rintro e w2 ⟨rfl, hf2, hw2⟩
    have e4 : max (1000 : Int) 0 = 1000 := by decide
    rw [e4] at hw2
    clear e4
    have hxa := hidMove hxa hf2 id
    have hxs := hidMove hxs hf2 id
    have hz1 : w.heap.size + 2 ≤ w1.heap.size := by have := hf1.size; simp at this; omega
    have hne : ¬ w.heap.size = w1.heap.size := by omega
    have hne2 : ¬ w.heap.size + 1 = w1.heap.size := by omega
    have hA2 := (HA3.out.fr hf1 (fun _ _ h => h)).fr hf2 (fun _ _ h => h)
    have hd : ∀ a, A = some a → ¬ a.block = w1.heap.size := fun a ha e => by have := HD.out a ha; omega
    have HA2 := Lib.hid hA2
    have Hd := Lib.hid hd
    clear hA2 hd n0 n1 n2 n3 n4 n5 n6 n7
    obtain ⟨n0, n1, n2, n3, n4, n5, n6, n7⟩ := box8 hxs
    go_wp2_with fail
    refine (rHyper_any _ _ hw2).mono ?_
    rintro e w3 ⟨rfl, hf3, hw3⟩
    have hxs := hidMove hxs hf3 hne
    have hxa := hidMove hxa hf3 hne2
    have HA2 := Lib.hid (HA2.out.fr hf3 Hd.out)
    clear n0 n1 n2 n3 n4 n5 n6 n7
    obtain ⟨n0, n1, n2, n3, n4, n5, n6, n7⟩ := box8 hxs
    go_wp2_with fail
    refine (rHyper_any _ _ hw3).mono ?_
    rintro e w4 ⟨rfl, hf4, hw4⟩
    have hxs := hidMove hxs hf4 hne
    have hxa := hidMove hxa hf4 hne2
    have HA2 := Lib.hid (HA2.out.fr hf4 Hd.out)
    clear n0 n1 n2 n3 n4 n5 n6 n7
    obtain ⟨n0, n1, n2, n3, n4, n5, n6, n7⟩ := box8 hxs
    go_wp2_with fail
    refine (rHyper_any _ _ hw4).mono ?_
    rintro e w5 ⟨rfl, hf5, hw5⟩
    have hxs := hidMove hxs hf5 hne
    have hxa := hidMove hxa hf5 hne2
    have HA2 := Lib.hid (HA2.out.fr hf5 Hd.out)
    clear n0 n1 n2 n3 n4 n5 n6 n7
    obtain ⟨n0, n1, n2, n3, n4, n5, n6, n7⟩ := box8 hxs
    go_wp2_with fail
    refine (rsys_any m.sys A c _ hw5 HA2.out Hd.out hm hgl).mono ?_
    rintro e w6 ⟨rfl, hf6, hw6⟩
    have hxa := hidMove hxa hf6 hne2
    have hf13 : Fr (fun _ => False) w w6 := ((Fr.ofBelow HB.out).then hf1 (fun _ _ h => h)).then (hf2.then (((hf3.trans hf4).trans hf5).trans hf6) (fun i hi e => by omega)) (fun _ _ h => h)
    have hw6' : RWr w6 w1.heap.size ⟨markStr m, 1000, 0⟩ := by have := hw6; rwa [show ((((WSt.mk ByteArray.empty 1000 0).hyper m.inst).hyper m.seq).hyper m.water).sys m.sys = _ from e2.out] at this
    have q0 := cellOf hw6'.blk 0
    simp at q0
    have hlt3 := hw6'.lt
    obtain ⟨a0, a1, fa0, fa1⟩ := box2 hxa
    have hsz3 : w.heap.size + 1 < w6.heap.size := lt_of_block hxa.out
    clear hw2 hw3 hw4 hw5 hw6 hf2 hf3 hf4 hf5 hf6 n0 n1 n2 n3 n4 n5 n6 n7
    go_wp2
    refine bodyPost_ret (v := .tuple #[.agg #[.int .i64 1296126539, .string (markStr m)], .int .i64 0]) ?_ rfl ⟨rfl, ?_⟩
    · simp [results, Tryz.results18, go_sem, a0, a1]
    · exact (hf13.setCell (.inr (by simp)) _).setCell (.inr (by simp)) _
  · have e : printMarkM m = (0, ByteArray.empty, 110) := printMark_no hn
    rw [e]
    clear e
    rw [Bool.not_eq_true] at hn
    go_enter Tryz.func18, Tryz.ntmps18
    go_wp2_with (go_at_call 53; refine (MarkMay_any m A c _ HA3.out).mono ?_; rintro e w1 ⟨rfl, hf1⟩; have hxa := hidMove hxa hf1 id; obtain ⟨a0, a1, fa0, fa1⟩ := box2 hxa)
    have hsz4 : w.heap.size + 1 < w1.heap.size := lt_of_block hxa.out
    refine bodyPost_ret (v := .tuple #[.agg #[.int .i64 0, .string ByteArray.empty], .int .i64 110]) ?_ rfl ⟨rfl, ?_⟩
    · simp [results, Tryz.results18, go_sem, a0, a1]
      rfl
    · exact (((Fr.ofBelow HB.out).then hf1 (fun _ _ h => h)).setCell (.inr (by simp)) _).setCell (.inr (by simp)) _
end Go.Proofs.YtcooijhndiainaaGreatDoor
