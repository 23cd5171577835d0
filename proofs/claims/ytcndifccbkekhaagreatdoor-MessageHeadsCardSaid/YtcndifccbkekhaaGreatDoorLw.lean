/- The small functions of the statements of package cred. -/
import Derived.Test.YtcndifccbkekhaaGreatDoorJu
namespace Go.Proofs.YtcndifccbkekhaaGreatDoor
open Go.RowKit
set_option linter.unusedVariables false
set_option linter.unusedSimpArgs false

def addsM (n m : Int) : Int := if n > 2147483647 ∨ m > 2147483647 then 2147483648 else n + m
theorem addsUp_same (n m : Int) (w : World) (hn : 0 ≤ n) (hm : 0 ≤ m) : Calls Tryz.prog 16 #[.int .i64 n, .int .i64 m] w fun r w' => r = .returned (.int .i64 (addsM n m)) ∧ w' = w := by
  by_cases h1 : 2147483647 < n
  · have e : addsM n m = 2147483648 := by simp [addsM, h1]
    rw [e]; clear e
    go_enter Tryz.func16, Tryz.ntmps16
    go_wp2
    go_ret
    exact ⟨rfl, rfl⟩
  · have h1 := Int.not_lt.1 h1
    by_cases h2 : 2147483647 < m
    · have e : addsM n m = 2147483648 := by simp [addsM, h2]
      rw [e]; clear e
      go_enter Tryz.func16, Tryz.ntmps16
      go_wp2
      go_ret
      exact ⟨rfl, rfl⟩
    · have h2 := Int.not_lt.1 h2
      have e : addsM n m = n + m := by simp only [addsM]; rw [if_neg (by omega)]
      rw [e]; clear e
      go_enter Tryz.func16, Tryz.ntmps16
      go_wp2
      go_ret
      exact ⟨rfl, rfl⟩

theorem addsM_nonneg {n m : Int} (hn : 0 ≤ n) (hm : 0 ≤ m) : 0 ≤ addsM n m := by unfold addsM; split <;> omega

def sysWeighsM (s : SysM) : Int := addsM s.machine.size s.groups.length
theorem sysWeighs_any (s : SysM) (A : Option Addr) (c : Nat) (w : World) : Calls Tryz.prog 17 #[sysV s A c] w fun r w' => r = .returned (.int .i64 (sysWeighsM s)) ∧ Fr (fun _ => False) w w' := by
  unfold sysV
  go_enter Tryz.func17, Tryz.ntmps17
  go_wp2_with (go_at_call 16; refine (addsUp_same _ _ _ (by omega) (by omega)).mono ?_; rintro e w' ⟨rfl, rfl⟩)
  go_ret
  exact ⟨rfl, ((Fr.refl _ _).alloc _)⟩

set_option maxRecDepth 100000 in
theorem known_any (w : World) : Calls Tryz.prog 58 #[] w fun r w' => ∃ A c, r = .returned (sysV ⟨7, ⟨#[97, 98]⟩, 1, 2, [3]⟩ A c) ∧ Fr (fun _ => False) w w' ∧ IntsAt w' A [3] ∧ (∀ a, A = some a → w.heap.size ≤ a.block ∧ a.block < w'.heap.size) := by
  go_enter Tryz.func58, Tryz.ntmps58
  go_wp2
  refine bodyPost_ret (v := sysV ⟨7, ⟨#[97, 98]⟩, 1, 2, [3]⟩ (some ⟨w.heap.size + 1, 0, none⟩) 1) ?_ rfl ⟨_, _, rfl, ((Fr.refl _ _).alloc _).alloc _, ?_, ?_⟩
  · simp [results, Tryz.results58, go_sem, sysV]
  · refine .inr ⟨_, _, rfl, by simp, fun j hj => ?_⟩
    match j, hj with
    | 0, _ => exact cellOf (heap_two (w := w)) 0
  · rintro a ⟨⟩
    simp

def callV (c : CallM) : Value := .agg (callCells c)
def callWeighsM (c : CallM) : Int := addsM (addsM c.cred.body.size c.verf.body.size) c.args.size
set_option maxRecDepth 100000 in
theorem callWeighs_any (c : CallM) (w : World) : Calls Tryz.prog 32 #[.agg (callCells c)] w fun r w' => r = .returned (.int .i64 (callWeighsM c)) ∧ Fr (fun _ => False) w w' := by
  unfold callCells
  go_enter Tryz.func32, Tryz.ntmps32
  go_wp2
  go_quiet ((go_at_call 16; exact Calls.quiet_of_same (addsUp_same _ _ _ (by first | exact addsM_nonneg (by omega) (by omega) | omega) (by omega))))
  go_wp2
  go_ret
  exact ⟨rfl, ((Fr.refl _ _).alloc _).drewN _⟩

set_option maxRecDepth 100000 in
set_option maxHeartbeats 1000000 in
theorem ints_any (xs ys : List Int) (A B : Option Addr) (c d : Nat) (w : World) (hA : IntsAt w A xs) (hB : IntsAt w B ys) (hl : xs.length ≤ 1099511627776) :
    Calls Tryz.prog 68 #[.slice A xs.length c, .slice B ys.length d] w fun r w' => r = .returned (.bool (decide (xs = ys))) ∧ Fr (fun _ => False) w w' := by
  have HA := Lib.hid hA
  have HB := Lib.hid hB
  clear hA hB
  by_cases hlen : xs.length = ys.length
  case neg =>
    have e : decide (xs = ys) = false := decide_eq_false (fun h => hlen (by rw [h]))
    have hne : ((xs.length : Int) == (ys.length : Int)) = false := by rw [beq_eq_false_iff_ne]; omega
    rw [e]
    clear e
    go_enter Tryz.func68, Tryz.ntmps68
    go_wp2
    go_ret
    exact ⟨rfl, Fr.refl _ _⟩
  have he : ((xs.length : Int) == (ys.length : Int)) = true := by rw [beq_iff_eq]; omega
  have HL := Lib.hid hlen
  clear hlen
  go_enter Tryz.func68, Tryz.ntmps68
  go_wp2
  go_loopw [5] (fun i wr => ∃ k : Nat, k ≤ xs.length ∧ i = .int .i64 k ∧ Hid (Fr (fun _ => False) w wr) ∧ Hid (∀ j, j < k → xs.getD j 0 = ys.getD j 0)) (fun i _ => xs.length - (intOf i).toNat)
  case atStart => exact ⟨0, Nat.zero_le _, rfl, Lib.hid (Fr.refl _ _), Lib.hid (fun j hj => by omega)⟩
  case round =>
    obtain ⟨k, hk, rfl, hfr, hw⟩ := hrel
    by_cases hlt : k < xs.length
    · rcases (HA.out.fr hfr.out (fun _ _ h => h)) with h0 | ⟨b, off, rfl, hb, hc⟩
      · rw [h0] at hlt; simp at hlt
      rcases (HB.out.fr hfr.out (fun _ _ h => h)) with h0 | ⟨b2, off2, rfl, hb2, hc2⟩
      · have h9 := HL.out; rw [h0, List.length_nil] at h9; omega
      have hcell := hc k hlt
      have hlt2 : k < ys.length := by have := HL.out; omega
      have hcell2 := hc2 k hlt2
      clear hc hc2
      generalize hx : xs.getD k 0 = x at hcell
      have HX := Lib.hid hx
      clear hx
      generalize hy : ys.getD k 0 = y at hcell2
      have HY := Lib.hid hy
      clear hy
      by_cases hi : x = y
      · subst hi
        have hw' : Hid (∀ j, j < k + 1 → xs.getD j 0 = ys.getD j 0) := Lib.hid (fun j hj => by
          by_cases h : j < k
          · exact hw.out j h
          · obtain rfl : j = k := by omega
            rw [HX.out, HY.out])
        go_wp2
        go_quiet (fail)
        go_wp2
        exact ⟨⟨k + 1, by omega, by go_num, Lib.hid (hfr.out.drewN _), hw'⟩, by simp [intOf]; omega⟩
      · have hne : (x == y) = false := by rw [beq_eq_false_iff_ne]; exact hi
        have hxy : decide (xs = ys) = false := decide_eq_false (fun h => hi (by rw [← HX.out, ← HY.out, h]))
        go_wp2
        go_quiet (fail)
        go_wp2
        go_ret
        rw [hxy]
        exact ⟨rfl, hfr.out.drewN _⟩
    · have hxy : decide (xs = ys) = true := decide_eq_true (List.ext_getElem HL.out (fun j h1 h2 => by have := hw.out j (by omega); simpa [List.getD, h1, h2] using this))
      go_wp2
      go_ret
      rw [hxy]
      exact ⟨rfl, hfr.out⟩

set_option maxRecDepth 100000 in
set_option maxHeartbeats 1000000 in
/-- the same names, wherever their numbers lie. -/
theorem syses_same (s : SysM) (A B : Option Addr) (c d : Nat) (w : World) (hA : IntsAt w A s.groups) (hB : IntsAt w B s.groups) (hl : s.groups.length ≤ 1099511627776) :
    Calls Tryz.prog 29 #[sysV s A c, sysV s B d] w fun r w' => r = .returned (.bool true) ∧ Fr (fun _ => False) w w' := by
  have hx0 := Lib.hid (heap_old (o := .cells #[.int .i64 s.stamp, .string s.machine, .int .i64 s.user, .int .i64 s.group, .slice B s.groups.length d] 36) (heap_alloc_new w (.cells #[.int .i64 s.stamp, .string s.machine, .int .i64 s.user, .int .i64 s.group, .slice A s.groups.length c] 36)))
  have hx1 := Lib.hid (heap_two (w := w) (a := .cells #[.int .i64 s.stamp, .string s.machine, .int .i64 s.user, .int .i64 s.group, .slice A s.groups.length c] 36) (b := .cells #[.int .i64 s.stamp, .string s.machine, .int .i64 s.user, .int .i64 s.group, .slice B s.groups.length d] 36))
  have hb2 : Below w.heap.size w ((w.alloc (.cells #[.int .i64 s.stamp, .string s.machine, .int .i64 s.user, .int .i64 s.group, .slice A s.groups.length c] 36)).alloc (.cells #[.int .i64 s.stamp, .string s.machine, .int .i64 s.user, .int .i64 s.group, .slice B s.groups.length d] 36)) := ((Below.refl _ _).alloc (Nat.le_refl _) _).alloc (by simp) _
  have HI := Lib.hid (ints_any s.groups s.groups A B c d _ (hA.below hb2) (hB.below hb2) hl)
  clear hA hB
  have HB := Lib.hid hb2
  clear hb2
  unfold sysV
  go_enter Tryz.func29, Tryz.ntmps29
  go_wp2_with (go_at_call 68; refine HI.out.mono ?_; rintro e w1 ⟨rfl, hf1⟩; have hx0 := hidMove hx0 hf1 id; have hx1 := hidMove hx1 hf1 id; obtain ⟨n0, n1, n2, n3, n4⟩ := box5 hx0; obtain ⟨m0, m1, m2, m3, m4⟩ := box5 hx1)
  go_ret
  exact ⟨rfl, (Fr.ofBelow HB.out).then hf1 (fun _ _ h => h)⟩

set_option maxRecDepth 100000 in
set_option maxHeartbeats 1000000 in
theorem marks_same (m : MarkM) (A B : Option Addr) (c d : Nat) (w : World) (hA : IntsAt w A m.sys.groups) (hB : IntsAt w B m.sys.groups) (hl : m.sys.groups.length ≤ 1099511627776) :
    Calls Tryz.prog 30 #[markV m A c, markV m B d] w fun r w' => r = .returned (.bool true) ∧ Fr (fun _ => False) w w' := by
  have hx0 := Lib.hid (heap_old (o := .cells #[.int .i64 m.inst, .int .i64 m.seq, .int .i64 m.water, .int .i64 m.sys.stamp, .string m.sys.machine, .int .i64 m.sys.user, .int .i64 m.sys.group, .slice B m.sys.groups.length d] 38) (heap_alloc_new w (.cells #[.int .i64 m.inst, .int .i64 m.seq, .int .i64 m.water, .int .i64 m.sys.stamp, .string m.sys.machine, .int .i64 m.sys.user, .int .i64 m.sys.group, .slice A m.sys.groups.length c] 38)))
  have hx1 := Lib.hid (heap_two (w := w) (a := .cells #[.int .i64 m.inst, .int .i64 m.seq, .int .i64 m.water, .int .i64 m.sys.stamp, .string m.sys.machine, .int .i64 m.sys.user, .int .i64 m.sys.group, .slice A m.sys.groups.length c] 38) (b := .cells #[.int .i64 m.inst, .int .i64 m.seq, .int .i64 m.water, .int .i64 m.sys.stamp, .string m.sys.machine, .int .i64 m.sys.user, .int .i64 m.sys.group, .slice B m.sys.groups.length d] 38))
  have hb2 : Below w.heap.size w ((w.alloc (.cells #[.int .i64 m.inst, .int .i64 m.seq, .int .i64 m.water, .int .i64 m.sys.stamp, .string m.sys.machine, .int .i64 m.sys.user, .int .i64 m.sys.group, .slice A m.sys.groups.length c] 38)).alloc (.cells #[.int .i64 m.inst, .int .i64 m.seq, .int .i64 m.water, .int .i64 m.sys.stamp, .string m.sys.machine, .int .i64 m.sys.user, .int .i64 m.sys.group, .slice B m.sys.groups.length d] 38)) := ((Below.refl _ _).alloc (Nat.le_refl _) _).alloc (by simp) _
  have HI := Lib.hid (syses_same m.sys A B c d _ (hA.below hb2) (hB.below hb2) hl)
  clear hA hB
  have HB := Lib.hid hb2
  clear hb2
  unfold markV
  go_enter Tryz.func30, Tryz.ntmps30
  go_wp2_with (go_at_call 29; refine HI.out.mono ?_; rintro e w1 ⟨rfl, hf1⟩; have hx0 := hidMove hx0 hf1 id; have hx1 := hidMove hx1 hf1 id; obtain ⟨n0, n1, n2, n3, n4, n5, n6, n7⟩ := box8 hx0; obtain ⟨m0, m1, m2, m3, m4, m5, m6, m7⟩ := box8 hx1)
  go_ret
  exact ⟨rfl, (Fr.ofBelow HB.out).then hf1 (fun _ _ h => h)⟩
end Go.Proofs.YtcndifccbkekhaaGreatDoor
